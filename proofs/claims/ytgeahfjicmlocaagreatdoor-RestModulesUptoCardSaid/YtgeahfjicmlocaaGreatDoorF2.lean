/- RestModules: what came, and was changed, changes nothing that was handed in, nor what comes next (proved in the second form, bulk at most 1048576). -/
import Derived.Maps.Own
import Derived.Maps.Range
import Derived.Sort.KeysCollected
import Derived.Test.YtgeahfjicmlocaaGreatDoorRows
import Derived.Test.YtgeahfjicmlocaaGreatDoorF1
set_option linter.unusedVariables false
set_option linter.unusedSimpArgs false
set_option linter.defProp false
section
namespace Go.Bw
open Go
inductive ak where
 | mk (op n:Int) (mod nm:List UInt8) (args:List ak)
inductive bE where
 | mk (op:Int) (mod nm:List UInt8) (args:List ak) (body other:List bE)
def ak.op:ak->Int | .mk o _ _ _ _=>o
def ak.n:ak->Int | .mk _ n _ _ _=>n
def ak.mod:ak->List UInt8 | .mk _ _ m _ _=>m
def ak.nm:ak->List UInt8 | .mk _ _ _ s _=>s
def ak.args:ak->List ak | .mk _ _ _ _ a=>a
def bE.op:bE->Int | .mk o _ _ _ _ _=>o
def bE.mod:bE->List UInt8 | .mk _ m _ _ _ _=>m
def bE.nm:bE->List UInt8 | .mk _ _ s _ _ _=>s
def bE.args:bE->List ak | .mk _ _ _ a _ _=>a
def bE.body:bE->List bE | .mk _ _ _ _ b _=>b
def bE.other:bE->List bE | .mk _ _ _ _ _ o=>o
structure de where
 kind:Int
 nm:List UInt8
 ao:Bool
 n:Int
deriving DecidableEq
structure eI where
 nm:List UInt8
 ao:Bool
 params:List (List UInt8)
 aH:List (List UInt8)
 body:List bE
structure cm where
 nm:List UInt8
 aP:List (List UInt8)
 decls:List de
 procs:List eI
 main:List bE
structure bi where
 f:Nat
 m:Nat
 k:Nat
deriving DecidableEq
instance:Add bi:=⟨λa b=>⟨a.f+b.f,a.m+b.m,a.k+b.k⟩⟩
def bi.b6 (c:bi):Nat:=c.f+c.m+c.k
def c0:bi:=⟨0,0,0⟩
def bi.i_ (a b:bi):(a+b).f=a.f+b.f:=rfl
def bi.ja (a b:bi):(a+b).m=a.m+b.m:=rfl
def bi.gF (a b:bi):(a+b).k=a.k+b.k:=rfl
def bi.ext' {a b:bi} (c:a.f=b.f) (d:a.m=b.m) (e:a.k=b.k):a=b:=by
 cases a; cases b; simp_all
def bi.iy (a b c:bi):a+b+c=a+(b+c):=bi.ext' (rI _ _ _) (rI _ _ _) (rI _ _ _)
def bi.eO (a b:bi):(a+b).b6=a.b6+b.b6:=by
 simp only [bi.b6,bi.i_,bi.ja,bi.gF]; omega
def mq (b:Bool):Nat:=if b=true then 1 else 0
def fe (b:Bool):bi:=⟨mq b,0,0⟩
def dz (b:Bool):bi:=⟨0,mq b,0⟩
def a7 (b:Bool):bi:=⟨0,0,mq b⟩
def kb:List (List UInt8):=[[109,111,100,117,108,101],[117,115,101],[112,117,98],[99,111,110,115,116],[118,97,114],[97,114,114,97,121],[112,114,111,99],[108,111,99,97,108],[109,97,105,110],[105,102],[101,108,115,101],[119,104,105,108,101],[114,101,116,117,114,110],[111,117,116],[105,110]]
def fo (s:List UInt8):Bool:=gc s&&!(kb.contains s)
def fv (op:Int):Option (Bool×Int):=if op=1\/op=2 then some (false,0) else if op=3 then some (true,0) else if op=4 then some (true,1) else if op=5 then some (true,-1) else if op=6 then some (false,1) else if 7<=op/\op<=15 then some (false,2) else none
def eM (op:Int):Option (Bool×Int):=if op=1 then some (true,1) else if op=2 then some (true,2) else if op=3 then some (true,-1) else if 4<=op/\op<=7 then some (false,1) else none
def bR (r:Bool) (mod nm:List UInt8):Bool:=(r&&((!(mod==[])&&!fo mod)||!fo nm))||(!r&&!(mod++nm==[]))
def lw (a:Int) (len:Nat):Bool:=decide (0<=a)&&!((len:Int)==a)
def fV (s:Bool×Int) (mod nm:List UInt8) (len:Nat):bi:=fe (bR s.1 mod nm)+fe (lw s.2 len)+dz (decide (3<len))
def jt (op n:Int):Bool:=((op==1)&&(decide (n<0)||decide (1099511627775<n)))||(!(op==1)&&!(n==0))
mutual
def hB:ak->Nat->bi
 | .mk op n mod nm args,d=>if 6<d then ⟨0,1,0⟩ else a7 (fv op).isNone+fV ((fv op).getD (false,0)) mod nm args.length+fe (jt op n)+ek args (d+1)
def ek:List ak->Nat->bi
 | [],_=>c0
 | x::r,d=>hB x d+ek r d
end
def inner (op:Int):Bool:=(op==4)||(op==5)
def kA (op:Int) (b o:Nat):Bool:=(!inner op&&decide (0<b))||(!(op==4)&&decide (0<o))
def iL (d len:Nat) (c:bi):bi:=if 6<d then ⟨0,1,0⟩ else dz (decide (10<len))+c
mutual
def iz:bE->Nat->bi
 | .mk op mod nm args body other,d=>a7 (eM op).isNone+fV ((eM op).getD (false,0)) mod nm args.length+ek args 1+fe (kA op body.length other.length)
     + (if (inner op||decide (0<body.length))=true then iL (d+1) body.length (dF body (d+1)) else c0)+(if 0<other.length then iL (d+1) other.length (dF other (d+1)) else c0)
def dF:List bE->Nat->bi
 | [],_=>c0
 | x::r,d=>iz x d+dF r d
end
def eS (l:List bE) (d:Nat):bi:=iL d l.length (dF l d)
def ck:List (List UInt8)->bi
 | []=>c0
 | s::r=>fe (!fo s)+ck r
def g5 (d:de):bi:=ck [d.nm]+(if d.kind=1 then fe (decide (d.n<0)||decide (1099511627775<d.n)) else if d.kind=2 then fe (!(d.n==0)) else if d.kind=3 then fe (decide (d.n<1)||decide (32<d.n)) else a7 true)
def aI:List de->bi
 | []=>c0
 | d::r=>g5 d+aI r
def kc (p:eI):bi:=ck [p.nm]+ck p.params+ck p.aH+dz (decide (3<p.params.length)||decide (4<p.aH.length))+eS p.body 1
def fL:List eI->bi
 | []=>c0
 | p::r=>kc p+fL r
def jP (m:cm):bi:=ck [m.nm]+ck m.aP+dz ((decide (3<m.aP.length)||decide (10<m.decls.length))||decide (6<m.procs.length))+aI m.decls+fL m.procs+eS m.main 1
def qQ (c:bi):Int:=if 0<c.k then 4 else if 0<c.m then 2 else if 0<c.f then 1 else 0
def iA (m:cm):Int:=qQ (jP m)
def dd (n a b:Int):Bool:=decide (a<=n)&&decide (n<=b)
def yp (mod nm:List UInt8):Bool:=((mod==[])||fo mod)&&fo nm
def fw (op:Int):Int:=if op=1\/op=2\/op=3 then 0 else if op=4\/op=6 then 1 else if op=5 then -1 else 2
def bL (op:Int):Int:=if op=2 then 2 else if op=3 then -1 else 1
def DF (op n:Int) (mod nm:List UInt8) (len:Nat):Bool:=
 (((((dd op 3 5&&!yp mod nm)||(!dd op 3 5&&(!(mod==[])||!(nm==[]))))||((op==1)&&!dd n 0 1099511627775))||(!(op==1)&&!(n==0)))||(decide (0<=fw op)&&!((len:Int)==fw op)))
def AB (op:Int) (mod nm:List UInt8) (len b o:Nat):Bool:=
 (((((dd op 1 3&&!yp mod nm)||(!dd op 1 3&&(!(mod==[])||!(nm==[]))))||(decide (0<=bL op)&&!((len:Int)==bL op)))||((!(op==4)&&!(op==5))&&decide (0<b)))||(!(op==4)&&decide (0<o)))
def o' (lv:Nat) (op n:Int) (mod nm:List UInt8) (len:Nat):Bool:=if lv=1 then !dd op 1 15 else if lv=2 then decide (3<len) else DF op n mod nm len
def qR (lv:Nat) (op:Int) (mod nm:List UInt8) (len b o:Nat):Bool:=if lv=1 then !dd op 1 7 else if lv=2 then decide (3<len) else AB op mod nm len b o
mutual
def lx:ak->Nat->Nat->Bool
 | .mk op n mod nm args,lv,d=>if 6<d then lv==2 else o' lv op n mod nm args.length||kB args lv (d+1)
def kB:List ak->Nat->Nat->Bool
 | [],_,_=>false
 | x::r,lv,d=>lx x lv d||kB r lv d
end
def oi (lv d len:Nat) (b:Bool):Bool:=if 6<d then lv==2 else ((lv==2)&&decide (10<len))||b
mutual
def o_:bE->Nat->Nat->Bool
 | .mk op mod nm args body other,lv,d=>(qR lv op mod nm args.length body.length other.length||kB args lv 1)
     || (((inner op||decide (0<body.length))&&oi lv (d+1) body.length (cG body lv (d+1)))||(decide (0<other.length)&&oi lv (d+1) other.length (cG other lv (d+1))))
def cG:List bE->Nat->Nat->Bool
 | [],_,_=>false
 | x::r,lv,d=>o_ x lv d||cG r lv d
end
def k3 (l:List bE) (lv d:Nat):Bool:=oi lv d l.length (cG l lv d)
def iY (lv:Nat) (s:List UInt8):Bool:=(lv==3)&&!fo s
def k4 (lv:Nat) (d:de):Bool:=((lv==1)&&!dd d.kind 1 3)||((lv==3)&&(((!fo d.nm||((d.kind==1)&&!dd d.n 0 1099511627775))||((d.kind==2)&&!(d.n==0)))||((d.kind==3)&&!dd d.n 1 32)))
def kC (lv:Nat) (p:eI):Bool:=((((lv==2)&&(decide (3<p.params.length)||decide (4<p.aH.length)))||iY lv p.nm)||k3 p.body lv 1)||(p.params++p.aH).any (iY lv)
def kD (m:cm) (lv:Nat):Bool:=((((((lv==2)&&((decide (3<m.aP.length)||decide (10<m.decls.length))||decide (6<m.procs.length)))||iY lv m.nm)||m.aP.any (iY lv))||m.decls.any (k4 lv))||m.procs.any (kC lv))||k3 m.main lv 1
def hI (m:cm):Int:=if kD m 1=true then 4 else if kD m 2=true then 2 else if kD m 3=true then 1 else 0
def lZ (b:Bool):decide (0<mq b)=b:=by cases b<;>rfl
def gx (a b:Nat):decide (0<a+b)=(decide (0<a)||decide (0<b)):=by
 rw [j9]; simp; omega
def DG (op:Int):(fv op).isNone = !dd op 1 15:=by
 unfold fv dd;rw [j9]
 split
 · simp; omega
 · split
   · simp; omega
   · split
     · simp; omega
     · split
       · simp; omega
       · split
         · simp; omega
         · split
           · simp; omega
           · simp; omega
def DH (op:Int):(eM op).isNone = !dd op 1 7:=by
 unfold eM dd;rw [j9]
 split
 · simp; omega
 · split
   · simp; omega
   · split
     · simp; omega
     · split
       · simp; omega
       · simp; omega
mutual
def Pf:∀(x:ak) (d:Nat),lx x 1 d=decide (0<(hB x d).k)
 | .mk op n mod nm args,d=>by
   unfold lx hB
   split
   · rfl
   · simp only [bi.gF,gx,DI args (d+1),o',a7,fV,fe,dz,lZ,DG]
     simp
def DI:∀(l:List ak) (d:Nat),kB l 1 d=decide (0<(ek l d).k)
 | [],_=>rfl
 | x::r,d=>by
   unfold kB ek;rw [bi.gF,gx,Pf x d,DI r d]
end
mutual
def Pg:∀(x:ak) (d:Nat),lx x 2 d=decide (0<(hB x d).m)
 | .mk op n mod nm args,d=>by
   unfold lx hB
   split
   · rfl
   · simp only [bi.ja,gx,DJ args (d+1),o',a7,fV,fe,dz,lZ]
     simp [gx,lZ]
def DJ:∀(l:List ak) (d:Nat),kB l 2 d=decide (0<(ek l d).m)
 | [],_=>rfl
 | x::r,d=>by
   unfold kB ek;rw [bi.ja,gx,Pg x d,DJ r d]
end
def AC (n lo hi:Int):(!dd n lo hi)=(decide (n<lo)||decide (hi<n)):=by
 unfold dd;rw [j9]; simp
def Ig (a b:List UInt8):(a++b==[])=((a==[])&&(b==[])):=by
 cases a<;>cases b<;>rfl
variable {aL:Int}
def Ih (h:(fv aL).isNone=false):((fv aL).getD (false,0)).1=dd aL 3 5/\((fv aL).getD (false,0)).2=fw aL:=by
 rw [DG] at h
 have a:aL=1\/aL=2\/aL=3\/aL=4\/aL=5\/aL=6\/(7<=aL/\aL<=15):=by
   simp [dd] at h; omega
 rcases a with rfl | rfl | rfl | rfl | rfl | rfl | b
 any_goals exact ⟨rfl,rfl⟩
 unfold fv fw dd;rw [av Z,av Z,av Z,av Z,av Z,a8 b,av Z,av Z,av Z];refine ⟨?_,O⟩;simp; omega
def Ii (h:(eM aL).isNone=false):((eM aL).getD (false,0)).1=dd aL 1 3/\((eM aL).getD (false,0)).2=bL aL:=by
 rw [DH] at h
 have a:aL=1\/aL=2\/aL=3\/aL=4\/aL=5\/aL=6\/aL=7:=by
   simp [dd] at h; omega
 rcases a with rfl | rfl | rfl | rfl | rfl | rfl | rfl<;>exact ⟨rfl,rfl⟩
def Ph:∀(r a B C b P c d e:Bool),((((((r&&!((a||C)&&b))||(!r&&(!a||!B)))||(P&&c))||(!P&&!d))||e))=(((r&&((!a&&!C)||!b))||(!r&&!(a&&B)))||e||((P&&c)||(!P&&!d))):=bf
def Pj:∀(r a B C c d b J e Y:Bool),((((((r&&!((a||C)&&c))||(!r&&(!a||!B)))||d)||((!b&&!J)&&e))||(!b&&Y)))=(((r&&((!a&&!C)||!c))||(!r&&!(a&&B)))||d||((!(b||J)&&e)||(!b&&Y))):=bf
variable {aS db:List UInt8} {ae:Nat}
def Gz {op n:Int}   (h:(fv op).isNone=false) :
   DF op n aS db ae=((bR ((fv op).getD (false,0)).1 aS db||lw ((fv op).getD (false,0)).2 ae)||jt op n):=by
 obtain ⟨a,b⟩:=Ih h;unfold DF bR lw jt yp;rw [Ig,AC n,a,b];exact Ph _ _ _ _ _ _ _ _ _
def GG {len b o:Nat} (h:(eM aL).isNone=false) :
   AB aL aS db len b o=((bR ((eM aL).getD (false,0)).1 aS db||lw ((eM aL).getD (false,0)).2 len)||kA aL b o):=by
 obtain ⟨a,c⟩:=Ii h;unfold AB bR lw yp kA inner;rw [Ig,a,c];exact Pj _ _ _ _ _ _ _ _ _ _
mutual
def G8:∀(x:ak) (d:Nat),(hB x d).k=0->lx x 3 d=decide (0<(hB x d).f)
 | .mk op n mod nm args,d=>by
   unfold lx hB
   split
   · intro _; rfl
   · intro h
     simp only [bi.gF,a7,fV,fe,dz] at h
     have a:(fv op).isNone=false:=by
       cases b:(fv op).isNone with
       | false=>rfl
       | true=>rw [b] at h; simp [mq] at h
     simp only [bi.i_,gx,DK args (d+1) Z,o',a7,fV,fe,dz,lZ,Gz a];simp [gx,lZ]
def DK:∀(l:List ak) (d:Nat),(ek l d).k=0->kB l 3 d=decide (0<(ek l d).f)
 | [],_,_=>rfl
 | x::r,d,h=>by
   unfold ek at h;rw [bi.gF] at h;unfold kB ek;rw [bi.i_,gx,G8 x d Z,DK r d Z]
end
def DL (a B C b c d:Nat):decide (0<a+B+C+b+c+d)=(((((decide (0<a)||decide (0<B))||decide (0<C))||decide (0<b))||decide (0<c))||decide (0<d)):=by
 rw [gx,gx,gx,gx,gx]
def Pn (s:Bool×Int) (mod nm:List UInt8) (len:Nat):decide (0<(fV s mod nm len).f)=(bR s.1 mod nm||lw s.2 len):=by
 show decide (0<mq _+mq _+0)=_
 rw [oY,gx,lZ,lZ]
def Po (s:Bool×Int) (mod nm:List UInt8) (len:Nat):decide (0<(fV s mod nm len).m)=decide (3<len):=by
 show decide (0<0+0+mq _)=_
 rw [gC,lZ]
def Pp:∀(a b c d:Bool),((a||b)||(c||d))=(((((a||false)||b)||false)||c)||d):=bf
def Pq:∀(a b c d:Bool),((a||b)||(c||d))=(((((false||a)||b)||false)||c)||d):=bf
def Pr:∀(a B C b c d:Bool),(((a||B||C)||b)||(c||d))=(((((false||(a||B))||b)||C)||c)||d):=bf
def DM (d len:Nat) (c:bi):oi 1 d len (decide (0<c.k))=decide (0<(iL d len c).k):=by
 unfold oi iL
 split
 · rfl
 · simp [bi.gF,dz]
def DN (d len:Nat) (c:bi):oi 2 d len (decide (0<c.m))=decide (0<(iL d len c).m):=by
 unfold oi iL
 split
 · rfl
 · rw [bi.ja,gx]
   show _=(decide (0<mq (decide (10<len)))||_)
   rw [lZ]; rfl
def Ps (d len:Nat) (c:bi):oi 3 d len (decide (0<c.f))=decide (0<(iL d len c).f):=by
 unfold oi iL
 split
 · rfl
 · simp [bi.i_,dz]
def Ij (b:Bool) (c:bi):decide (0<(if b=true then c else c0).k)=(b&&decide (0<c.k)):=by cases b<;>rfl
def Ik (b:Bool) (c:bi):decide (0<(if b=true then c else c0).m)=(b&&decide (0<c.m)):=by cases b<;>rfl
def DO (n:Nat) (c:bi):(if 0<n then c else c0)=(if decide (0<n)=true then c else c0):=by
 by_cases h:0<n<;>simp [h]
mutual
def Pt:∀(x:bE) (d:Nat),o_ x 1 d=decide (0<(iz x d).k)
 | .mk op mod nm args body other,d=>by
   unfold o_ iz;rw [DO]
   rw [show ∀a B C b c e:bi,(a+B+C+b+c+e).k=a.k+B.k+C.k+b.k+c.k+e.k from λ_ _ _ _ _ _=>rfl,DL,Ij,Ij,<-DM,<-DM,<-AD body (d+1),<-AD other (d+1),<-DI args 1,
     show decide (0<(a7 (eM op).isNone).k)=qR 1 op mod nm args.length body.length other.length from (lZ _).trans (DH op)]
   exact Pp _ _ _ _
def AD:∀(l:List bE) (d:Nat),cG l 1 d=decide (0<(dF l d).k)
 | [],_=>rfl
 | x::r,d=>by
   unfold cG dF;rw [bi.gF,gx,Pt x d,AD r d]
end
mutual
def Pu:∀(x:bE) (d:Nat),o_ x 2 d=decide (0<(iz x d).m)
 | .mk op mod nm args body other,d=>by
   unfold o_ iz;rw [DO];rw [show ∀a B C b c e:bi,(a+B+C+b+c+e).m=a.m+B.m+C.m+b.m+c.m+e.m from λ_ _ _ _ _ _=>rfl,DL,Ik,Ik,<-DN,<-DN,<-AE body (d+1),<-AE other (d+1),<-DJ args 1,Po];exact Pq _ _ _ _
def AE:∀(l:List bE) (d:Nat),cG l 2 d=decide (0<(dF l d).m)
 | [],_=>rfl
 | x::r,d=>by
   unfold cG dF;rw [bi.ja,gx,Pu x d,AE r d]
end
variable {g6:bi}
def Pv {d len:Nat}  (a:¬6<d) (h:(iL d len g6).k=0):g6.k=0:=by
 unfold iL at h;rw [av a,bi.gF] at h;omega
def DP (d len:Nat) (c:bi) (b:Bool) (e:c.k=0->b=decide (0<c.f)) (h:(iL d len c).k=0):oi 3 d len b=decide (0<(iL d len c).f):=by
 by_cases a:6<d
 · simp [oi,iL,a]
 · rw [e (Pv a h),Ps]
def Il {b:Bool}  {x:Bool} (a:g6.k=0->x=decide (0<g6.f)) (h:(if b=true then g6 else c0).k=0):(b&&x)=decide (0<(if b=true then g6 else c0).f):=by
 cases b with
 | false=>rfl
 | true=>simp at h; simp [a h]
mutual
def Pw:∀(x:bE) (d:Nat),(iz x d).k=0->o_ x 3 d=decide (0<(iz x d).f)
 | .mk op mod nm args body other,d=>by
   unfold o_ iz;rw [DO];intro h;simp only [bi.gF] at h
   have g:(eM op).isNone=false:=by
     cases i:(eM op).isNone with
     | false=>rfl
     | true=>rw [i] at h; simp [mq,a7] at h
   rw [Il (λh=>DP _ _ _ _ (AF body (d+1)) h) Z,Il (λh=>DP _ _ _ _ (AF other (d+1)) h) Z]
   rw [show ∀a B C b c e:bi,(a+B+C+b+c+e).f=a.f+B.f+C.f+b.f+c.f+e.f from λ_ _ _ _ _ _=>rfl,DL,DK args 1 Z,Pn,show decide (0<(fe (kA op body.length other.length)).f)=kA op body.length other.length from lZ _,
     show qR 3 op mod nm args.length body.length other.length=AB op mod nm args.length body.length other.length from rfl,GG g]
   exact Pr _ _ _ _ _ _
def AF:∀(l:List bE) (d:Nat),(dF l d).k=0->cG l 3 d=decide (0<(dF l d).f)
 | [],_,_=>rfl
 | x::r,d,h=>by
   unfold dF at h;rw [bi.gF] at h;unfold cG dF;rw [bi.i_,gx,Pw x d Z,AF r d Z]
end
def s9:∀l:List (List UInt8),(ck l).k=0
 | []=>rfl
 | s::r=>by unfold ck; rw [bi.gF,s9 r]; rfl
def uC:∀l:List (List UInt8),(ck l).m=0
 | []=>rfl
 | s::r=>by unfold ck; rw [bi.ja,uC r]; rfl
def hZ:∀l:List (List UInt8),l.any (iY 3)=decide (0<(ck l).f)
 | []=>rfl
 | s::r=>by
   unfold ck;rw [bi.i_,gx,<-hZ r,sM]
   congr 1
   exact (lZ _).symm
def AG (h:(ae==3)=false) (l:List (List UInt8)):l.any (iY ae)=false:=by
 rw [vO];intro x _;simp [iY,h]
def Px (d:de):k4 1 d=decide (0<(g5 d).k):=by
 unfold g5 k4;rw [bi.gF,s9,gC]
 have e:dd d.kind 1 3=decide (d.kind=1\/d.kind=2\/d.kind=3):=by
   unfold dd;rw [j9]; simp; omega
 rw [e]
 by_cases a:d.kind=1
 · rw [a8 a]; simp [a,fe]
 · rw [av a]
   by_cases b:d.kind=2
   · rw [a8 b]; simp [b,fe]
   · rw [av b]
     by_cases c:d.kind=3
     · rw [a8 c]; simp [c,fe]
     · rw [av c]; simp [a,b,c,a7,mq]
def Py (d:de):(g5 d).m=0:=by
 unfold g5;rw [bi.ja,uC]
 split
 · rfl
 · split
   · rfl
   · split<;>rfl
def Pz {d:de} (h:(g5 d).k=0):k4 3 d=decide (0<(g5 d).f):=by
 unfold g5 k4 at *;rw [bi.gF,s9,gC] at h;rw [bi.i_,gx,<-hZ,AC,AC]
 have e:[d.nm].any (iY 3) = !fo d.nm:=by simp [iY]
 rw [e]
 by_cases a:d.kind=1
 · rw [a8 a]
   show _=(_||decide (0<mq _))
   rw [lZ];simp [a]
 · rw [av a] at h ⊢
   by_cases b:d.kind=2
   · rw [a8 b]
     show _=(_||decide (0<mq _))
     rw [lZ];simp [b]
   · rw [av b] at h ⊢
     by_cases c:d.kind=3
     · rw [a8 c]
       show _=(_||decide (0<mq _))
       rw [lZ];simp [c];rw [AC]
     · rw [av c] at h
       cases h
def Im:∀l:List de,l.any (k4 1)=decide (0<(aI l).k)
 | []=>rfl
 | d::r=>by unfold aI; rw [bi.gF,gx,<-Im r,<-Px,sM]
def In:∀l:List de,(aI l).m=0
 | []=>rfl
 | d::r=>by unfold aI; rw [bi.ja,In r,Py]
def Io:∀l:List de,(aI l).k=0->l.any (k4 3)=decide (0<(aI l).f)
 | [],_=>rfl
 | d::r,h=>by
   unfold aI at h ⊢;rw [bi.gF] at h;rw [bi.i_,gx,<-Io r Z,<-Pz Z,sM]
def Ip (l:List bE) (d:Nat):k3 l 1 d=decide (0<(eS l d).k):=by
 unfold k3 eS; rw [AD,DM]
def Iq (l:List bE) (d:Nat):k3 l 2 d=decide (0<(eS l d).m):=by
 unfold k3 eS; rw [AE,DN]
def Ir (l:List bE) (d:Nat) (h:(eS l d).k=0):k3 l 3 d=decide (0<(eS l d).f):=by
 unfold k3 eS at *;exact DP _ _ _ _ (AF l d) h
def PA (p:eI):kC 1 p=decide (0<(kc p).k):=by
 unfold kC kc;rw [AG rfl,bi.gF,bi.gF,bi.gF,bi.gF,s9,s9,s9,show ∀b,(dz b).k=0 from λ_=>rfl,gC,<-Ip];simp [iY]
def PB (p:eI):kC 2 p=decide (0<(kc p).m):=by
 unfold kC kc;rw [AG rfl,bi.ja,bi.ja,bi.ja,bi.ja,uC,uC,uC,show ∀b,(dz b).m=mq b from λ_=>rfl,gC,gx,lZ,<-Iq];simp [iY]
def PC {p:eI} (h:(kc p).k=0):kC 3 p=decide (0<(kc p).f):=by
 unfold kC kc at *;rw [bi.gF] at h;rw [List.any_append,hZ,hZ,bi.i_,bi.i_,bi.i_,bi.i_,show ∀b,(dz b).f=0 from λ_=>rfl,oY,gx,gx,gx,<-Ir _ _ Z,<-hZ [p.nm]];simp [iY]
 generalize fo p.nm=a
 generalize k3 p.body 3 1=B
 generalize decide (0<(ck p.params).f)=C
 generalize decide (0<(ck p.aH).f)=c
 revert a B C c
 decide
def Is:∀l:List eI,l.any (kC 1)=decide (0<(fL l).k)
 | []=>rfl
 | d::r=>by unfold fL; rw [bi.gF,gx,<-Is r,<-PA,sM]
def It:∀l:List eI,l.any (kC 2)=decide (0<(fL l).m)
 | []=>rfl
 | d::r=>by unfold fL; rw [bi.ja,gx,<-It r,<-PB,sM]
def Iu:∀l:List eI,(fL l).k=0->l.any (kC 3)=decide (0<(fL l).f)
 | [],_=>rfl
 | d::r,h=>by
   unfold fL at h ⊢;rw [bi.gF] at h;rw [bi.i_,gx,<-Iu r Z,<-PC Z,sM]
def PD (l:List de):l.any (k4 2)=false:=by
 rw [vO]; intro x _; simp [k4]
def PE (m:cm):kD m 1=decide (0<(jP m).k):=by
 unfold kD jP;rw [AG rfl,bi.gF,bi.gF,bi.gF,bi.gF,bi.gF,s9,s9,show ∀b,(dz b).k=0 from λ_=>rfl,gC,gx,gx,<-Ip,<-Is,<-Im];simp [iY]
def PF (m:cm):kD m 2=decide (0<(jP m).m):=by
 unfold kD jP;rw [AG rfl,PD,bi.ja,bi.ja,bi.ja,bi.ja,bi.ja,uC,uC,In,show ∀b,(dz b).m=mq b from λ_=>rfl,gC,oY,gx,gx,lZ,<-Iq,<-It];simp [iY]
def PG {m:cm} (h:(jP m).k=0):kD m 3=decide (0<(jP m).f):=by
 unfold kD jP at *;rw [bi.gF,bi.gF,bi.gF] at h;rw [hZ,bi.i_,bi.i_,bi.i_,bi.i_,bi.i_,show ∀b,(dz b).f=0 from λ_=>rfl,oY,gx,gx,gx,gx,<-Ir _ _ Z,<-Iu _ Z,<-Io _ Z,<-hZ [m.nm]];simp [iY]
def Iv (m:cm):iA m=hI m:=by
 unfold iA hI qQ;rw [PE,PF]
 by_cases a:0<(jP m).k
 · simp [a]
 · rw [PG Z]
   simp
end Go.Bw
end
section
namespace Go.Bw
open Go
def eE (s:List UInt8):List Value:=[st s]
def rdStr (H:View) (b o:Nat) (s:List UInt8):Prop:=cw H b o (eE s)
def iM (s:List UInt8):(eE s).length=1:=rfl
variable {bc b_:View}
def s' (h:bK bc b_) (b o:Nat) (x:List UInt8) (r:rdStr bc b o x):rdStr b_ b o x:=cw.mono h r
def de.cells (d:de):List Value:=[.int .i64 d.kind,st d.nm,.bool d.ao,.int .i64 d.n]
def de.dk (d:de):d.cells.length=4:=rfl
def s_ (H:View) (b o:Nat) (d:de):Prop:=cw H b o d.cells
def PH (h:bK bc b_) (b o:Nat) (x:de) (r:s_ bc b o x):s_ b_ b o x:=cw.mono h r
def qS (e:ak) (a:Option Addr) (c:Nat):List Value:=[.int .i64 e.op,.int .i64 e.n,st e.mod,st e.nm,.slice a e.args.length c]
def gn:Nat->View->Nat->Nat->ak->Prop
 | 0=>λ_ _ _ _=>False
 | k+1=>λH b o e=>∃a c,cw H b o (qS e a c)/\Sl (gn k) 5 H a c e.args
def qT (s:bE) (a:Option Addr) (c:Nat) (a2:Option Addr) (c2:Nat) (a3:Option Addr) (c3:Nat):List Value:=[.int .i64 s.op,st s.mod,st s.nm,.slice a s.args.length c,.slice a2 s.body.length c2,.slice a3 s.other.length c3]
def e5 (ke:Nat):Nat->View->Nat->Nat->bE->Prop
 | 0=>λ_ _ _ _=>False
 | k+1=>λH b o s=>∃a c a2 c2 a3 c3,cw H b o (qT s a c a2 c2 a3 c3)/\Sl (gn ke) 5 H a c s.args/\Sl (e5 ke k) 6 H a2 c2 s.body/\Sl (e5 ke k) 6 H a3 c3 s.other
def wi (p:eI) (a1:Option Addr) (c1:Nat) (a2:Option Addr) (c2:Nat) (a3:Option Addr) (c3:Nat):List Value:=[st p.nm,.bool p.ao,.slice a1 p.params.length c1,.slice a2 p.aH.length c2,.slice a3 p.body.length c3]
def yq (ke ks:Nat) (H:View) (b o:Nat) (p:eI):Prop:=∃a1 c1 a2 c2 a3 c3,cw H b o (wi p a1 c1 a2 c2 a3 c3)/\Sl rdStr 1 H a1 c1 p.params/\Sl rdStr 1 H a2 c2 p.aH/\Sl (e5 ke ks) 6 H a3 c3 p.body
structure iB where
 a1:Option Addr
 c1:Nat
 a2:Option Addr
 c2:Nat
 a3:Option Addr
 c3:Nat
 a4:Option Addr
 c4:Nat
def fi (m:cm) (r:iB):List Value:=[st m.nm,.slice r.a1 m.aP.length r.c1,.slice r.a2 m.decls.length r.c2,.slice r.a3 m.procs.length r.c3,.slice r.a4 m.main.length r.c4]
structure jb (ke ks:Nat) (H:View) (r:iB) (m:cm):Prop where
 aP:Sl rdStr 1 H r.a1 r.c1 m.aP
 decls:Sl s_ 4 H r.a2 r.c2 m.decls
 procs:Sl (yq ke ks) 5 H r.a3 r.c3 m.procs
 main:Sl (e5 ke ks) 6 H r.a4 r.c4 m.main
variable {a9:Type} {ae aB:Nat}
def Sl.imp {rd c:View->Nat->Nat->a9->Prop}   {a:Option Addr}  {l:List a9} (d:∀b o x,rd bc b o x->c b_ b o x) (h:Sl rd ae bc a aB l):Sl c ae b_ a aB l:=
 ⟨h.cap,h.max,h.spot,λi x e=>by obtain ⟨b,o,f,g⟩:=h.aq i x e; exact ⟨b,o,f,d _ _ _ g⟩⟩
def qU (f:bK bc b_):∀{k d:Nat},k<=d->∀(b o:Nat) (e:ak),gn k bc b o e->gn d b_ b o e
 | 0,_,_,_,_,_,h=>h.elim
 | k+1,0,g,_,_,_,_=>absurd g Z
 | k+1,d+1,g,b,o,e,h=>by
   obtain ⟨a,c,i,j⟩:=h;exact ⟨a,c,cw.mono f i,j.imp λb o x l=>qU f Z b o x l⟩
def nw (f:bK bc b_)  (g:ae<=aB):∀{k i:Nat},k<=i->∀(b o:Nat) (e:bE),e5 ae k bc b o e->e5 aB i b_ b o e
 | 0,_,_,_,_,_,h=>h.elim
 | k+1,0,j,_,_,_,_=>absurd j Z
 | k+1,i+1,j,b,o,e,h=>by
   obtain ⟨a,c,a2,c2,a3,c3,l,m,n,p⟩:=h;exact ⟨a,c,a2,c2,a3,c3,cw.mono f l,m.imp λb o x d=>qU f g b o x d,n.imp λb o x d=>nw f g Z b o x d,p.imp λb o x d=>nw f g Z b o x d⟩
def PI (c:bK bc b_) {ke d ks e:Nat} (f:ke<=d) (g:ks<=e) (b o:Nat) (p:eI) (h:yq ke ks bc b o p):yq d e b_ b o p:=by
 obtain ⟨a1,c1,a2,c2,a3,c3,i,j,k,l⟩:=h;exact ⟨a1,c1,a2,c2,a3,c3,cw.mono c i,j.imp λb o x a=>s' c b o x a,k.imp λb o x a=>s' c b o x a,l.imp λb o x a=>nw c f g b o x a⟩
mutual
def wE:ak->Nat
 | .mk _ _ mod nm args=>1+mod.length+nm.length+ff args
def ff:List ak->Nat
 | []=>0
 | x::r=>wE x+ff r
end
mutual
def wS:bE->Nat
 | .mk _ mod nm args body other=>1+mod.length+nm.length+ff args+dP body+dP other
def dP:List bE->Nat
 | []=>0
 | x::r=>wS x+dP r
end
def wN:List (List UInt8)->Nat
 | []=>0
 | s::r=>1+s.length+wN r
def wD:List de->Nat
 | []=>0
 | d::r=>1+d.nm.length+wD r
def wP:List eI->Nat
 | []=>0
 | p::r=>1+p.nm.length+wN p.params+wN p.aH+dP p.body+wP r
def wM (m:cm):Nat:=1+m.nm.length+wN m.aP+wD m.decls+wP m.procs+dP m.main
def PJ:∀x:ak,1<=wE x | .mk _ _ _ _ _=>by unfold wE; omega
def PK:∀x:bE,1<=wS x | .mk _ _ _ _ _ _=>by unfold wS; omega
def DQ (x:ak):wE x=1+x.mod.length+x.nm.length+ff x.args:=by cases x; rfl
def DR (x:bE):wS x=1+x.mod.length+x.nm.length+ff x.args+dP x.body+dP x.other:=by cases x; rfl
def DS {i:Nat} {x:ak}:∀{l:List ak},l[i]? = some x->wE x<=ff l
 | [],h=>by simp at h
 | y::r,h=>by
   unfold ff
   cases i with
   | zero=>simp at h; subst h; omega
   | succ i=>have:=DS (i:=i) (l:=r) (by simpa using h); omega
def AH {i:Nat} {x:bE}:∀{l:List bE},l[i]? = some x->wS x<=dP l
 | [],h=>by simp at h
 | y::r,h=>by
   unfold dP
   cases i with
   | zero=>simp at h; subst h; omega
   | succ i=>have:=AH (i:=i) (l:=r) (by simpa using h); omega
def DT:∀l:List ak,l.length<=ff l
 | []=>eH _
 | x::r=>by have:=DT r; have:=PJ x; unfold ff; simp; omega
def AI:∀l:List bE,l.length<=dP l
 | []=>eH _
 | x::r=>by have:=AI r; have:=PK x; unfold dP; simp; omega
def wj:∀l:List (List UInt8),l.length<=wN l
 | []=>eH _
 | x::r=>by have:=wj r; unfold wN; simp; omega
def mr (b:Bool):(fe b).b6<=1:=by cases b<;>decide
def jV (b:Bool):(dz b).b6<=1:=by cases b<;>decide
def yr (b:Bool):(a7 b).b6<=1:=by cases b<;>decide
def AJ (s:Bool×Int) (mod nm:List UInt8) (len:Nat):(fV s mod nm len).b6<=3:=by
 unfold fV;rw [bi.eO,bi.eO];have:=mr (bR s.1 mod nm); have:=mr (lw s.2 len); have:=jV (decide (3<len));omega
def Iw:c0.b6=0:=rfl
mutual
def PL:∀(x:ak) (d:Nat),(hB x d).b6<=8*wE x
 | .mk op n mod nm args,d=>by
   unfold hB wE
   split
   · show 0+1+0<=_
     omega
   · rw [bi.eO,bi.eO,bi.eO]
     have:=wl args (d+1); have:=yr (fv op).isNone; have:=AJ ((fv op).getD (false,0)) mod nm args.length; have:=mr (jt op n);omega
def wl:∀(l:List ak) (d:Nat),(ek l d).b6<=8*ff l
 | [],_=>eH _
 | x::r,d=>by
   have:=PL x d; have:=wl r d;unfold ek ff;rw [bi.eO];omega
end
def DU (d len:Nat) (c:bi):(iL d len c).b6<=1+c.b6:=by
 unfold iL
 split
 · show 0+1+0<=_
   omega
 · rw [bi.eO]
   have:=jV (decide (10<len));omega
def Ix (b:Prop) [Decidable b] (c:bi):(if b then c else c0).b6<=c.b6:=by
 split
 · exact eH _
 · exact cx _
mutual
def PM:∀(x:bE) (d:Nat),(iz x d).b6<=8*wS x
 | .mk op mod nm args body other,d=>by
   unfold iz wS;rw [bi.eO,bi.eO,bi.eO,bi.eO,bi.eO];have a:=wl args 1; have b:=yr (eM op).isNone; have c:=AJ ((eM op).getD (false,0)) mod nm args.length; have e:=mr (kA op body.length other.length);have f:=Ix ((inner op||decide (0<body.length))=true) (iL (d+1) body.length (dF body (d+1)));have g:=Ix (0<other.length) (iL (d+1) other.length (dF other (d+1)));have h:=DU (d+1) body.length (dF body (d+1)); have i:=DU (d+1) other.length (dF other (d+1));have j:=l0 body (d+1); have k:=l0 other (d+1);omega
def l0:∀(l:List bE) (d:Nat),(dF l d).b6<=8*dP l
 | [],_=>eH _
 | x::r,d=>by
   have:=PM x d; have:=l0 r d;unfold dF dP;rw [bi.eO];omega
end
def wm:∀l:List (List UInt8),(ck l).b6<=wN l
 | []=>eH _
 | s::r=>by
   have:=wm r; have:=mr (!fo s);unfold ck wN;rw [bi.eO];omega
def PN (d:de):(g5 d).b6<=2:=by
 unfold g5 ck ck;rw [bi.eO,bi.eO,Iw];have:=mr (!fo d.nm)
 split
 · have:=mr (decide (d.n<0)||decide (1099511627775<d.n)); omega
 · split
   · have:=mr (!(d.n==0)); omega
   · split
     · have:=mr (decide (d.n<1)||decide (32<d.n)); omega
     · have:=yr true; omega
def DV:∀l:List de,(aI l).b6<=8*wD l
 | []=>eH _
 | d::r=>by
   have:=DV r; have:=PN d;unfold aI wD;rw [bi.eO];omega
def DW (l:List bE) (d:Nat):(eS l d).b6<=1+8*dP l:=by
 unfold eS;have:=DU d l.length (dF l d); have:=l0 l d;omega
def DX (s:List UInt8):(ck [s]).b6<=1:=by
 unfold ck ck;rw [bi.eO,Iw];have:=mr (!fo s);omega
def PO (p:eI):(kc p).b6<=3+wN p.params+wN p.aH+8*dP p.body:=by
 unfold kc;rw [bi.eO,bi.eO,bi.eO,bi.eO];have:=DX p.nm; have:=wm p.params; have:=wm p.aH; have:=jV (decide (3<p.params.length)||decide (4<p.aH.length)); have:=DW p.body 1;omega
def AK:∀l:List eI,(fL l).b6<=8*wP l
 | []=>eH _
 | p::r=>by
   have:=AK r; have:=PO p;unfold fL wP;rw [bi.eO];omega
def Iy {rd:View->Nat->Nat->a9->Prop} {f:a9->List Value}  {H:View} {b m:Nat} {T:TypeId} {a:Nat×Nat} {xs:List a9} (d:H b=some (.cells (xs.flatMap f).toArray T a)) (c:∀x,(f x).length=ae) (e:∀H b o x,cw H b o (f x)->rd H b o x) (g:xs.length<=m) (h:m<=9223372036854775807):Sl rd ae H (some ⟨b,0,none⟩) m xs:=by
 refine ⟨g,h,au,λi x k=>⟨b,0,O,e _ _ _ _ λj v hv=>?_⟩⟩
 have l:j<ae:=by rw [<-c x]; exact (cS.1 hv).1
 have n:vc H b (0+i*ae+j)=gE (.cells (xs.flatMap f).toArray T a) (0+i*ae+j):=by unfold vc; rw [d]; rfl
 rw [n];simp only [gE,gC];rw [kZ c k l];exact hv
section
variable {P:Program} {ops:Array Oper} {Q:Exit->Act->World->Prop} {n:Nat} {ds:List Deferred} {l:List (Nat×Value)} {w0:World} {F:List Nat} {L:List ah} {Vs:List View} {rest:List Oper}
def h1 {T:TypeId} {m b:Nat} {cur:Array Value} {a:Nat×Nat} (i:Nat) (xs:List (List UInt8)) (hL:L[i]? = some (aE b (.cells cur T a))) (c:cur=(xs.flatMap eE).toArray) (d:xs.length<=m) (e:m<=9223372036854775807)
   (h:∀H,Sl rdStr 1 H (some ⟨b,0,none⟩) m xs->WL P ops Q n ds l (Ws w0 F (eQ i L) (H::Vs)) rest):WL P ops Q n ds l (Ws w0 F L Vs) rest:=by
 subst c
 have g:bv b (.cells (xs.flatMap eE).toArray T a) b=some (.cells (xs.flatMap eE).toArray T a):=by simp [bv]
 exact WL.Af i hL (h _ (Iy (f:=eE) g iM eZ d e))
end
section
variable {P:Program} {l:List (Nat×Value)} {W:World->Prop} {d:Option Tmp} {ty:TypeId} {pos:String} {af:Array Edge} {g:Option (Nat×Bool)}
def Iz {t:TypeId} {parts:List (Nat×Operand)} {vs:List (Nat×Value)} {a:Value} {n s:Nat} {out:List Value} (j:zeroOf P t=some a) (b:uw P t=some (n,s))
   (hv:rT l parts=some vs) (k:qE (λi=>some (i*s,s)) (dO a) vs=some out):Yl P l W ⟨d,.build t parts.toArray,ty,pos,af,g⟩ (.agg out.toArray):=by
 intro o w p _
 have q:((parts.toArray.map λ (i,x)=>(i,o x)):Array (Nat×Value)).toList=vs:=by simpa using z7 p parts vs hv
 unfold uw at b
 cases c:P.underlying t with
 | none=>simp [c] at b
 | some r=>
   cases r<;>simp [c] at b
   rename_i m e;obtain ⟨f,hi,u,v⟩:=b;subst u v
   have h:Instr.fill (λi=>some (i*f.size,f.size)) a.cells vs=some out.toArray:=by
     refine x7 _ vs a.cells out ?_;rw [sV]
     simpa using k
   simp only [execOp,Instr.build,Sem.run_bind,uk j,Result.andThen_ok,run_underlying c,q,h,sizeOf,typeInfo,hi,Sem.run_pure];simp [hi,h]
end
section
variable {P:Program} {ops:Array Oper} {Q:Exit->Act->World->Prop} {n:Nat} {ds:List Deferred} {l:List (Nat×Value)} {w0:World} {F:List Nat} {L:List ah} {Vs:List View}
 {rest:List Oper} {d:Nat} {ty:TypeId} {pos:String} {af:Array Edge} {g:Option (Nat×Bool)}
variable {du:FuncId} {aR:Array Operand} {gU:Array TypeId} {ci:List Value}
def oj {ι κ:Type}     (f L2:List ah) (A:dI ops l g) (C:Nat.blt d n=true) (D:Enters P du) (E:g2 l aR.toList=some ci) (hL:L=f++L2)
   (v:ι->Value) (s:ι->List ah) (R:View->ι->Prop) (u:κ->List PanicEntry) (Lp:κ->List ah) (x:κ->Prop) (b9:List View) (G:∀H ∈ b9,H ∈ Vs)
   (I:∀i,∀k ∈ (s i).flatMap ah.ids,k ∈ f.flatMap ah.ids)
   (hC:∀w,Ws w (f.flatMap ah.ids) f b9 w->Calls P du ci.toArray w λe w'=>(∃i,e = .returned (v i)/\R (nv w w') i/\Ws w (f.flatMap ah.ids) (s i) b9 w')\/(∃j,e = .panicked (u j)/\x j/\Ws w (f.flatMap ah.ids) (Lp j) b9 w'))
   (J:∀j,x j->WE Q (.panic (u j)) n ds l (Ws w0 F (Lp j++L2) Vs))
   (K:∀H i,eD w0 H->R H i->WL P ops Q n ds ((d,v i)::l) (Ws w0 F (s i++L2) (H::Vs)) rest) :
   WL P ops Q n ds l (Ws w0 F L Vs) (⟨some d,.call ⟨.value (.func du),aR,gU⟩,ty,pos,af,g⟩::rest):=by
 subst hL;refine WL.vY (ι:=View×ι) A C D E (λi=>v i.2) (λi w'=>(eD w0 i.1/\R i.1 i.2)/\Ws w0 F (s i.2++L2) (i.1::Vs) w') (λc w'=>∃j,c=u j/\x j/\Ws w0 F (Lp j++L2) Vs w') (λw m=>(hC w (m.self.cK G)).mono λe w' M=>?_) (λi=>?_) (λc=>?_)
 · rcases M with ⟨i,rfl,q,h⟩ | ⟨j,rfl,q,h⟩
   · have o:=m.back h
     refine .inl ⟨(nv w w',i),O,⟨(o1 w w').mono m.fr.size,q⟩,o.fr,o.kn,o.nd,o.own,λH b=>?_,λH b t p k y=>?_⟩
     · rcases et.1 b with rfl | b
       · exact x4 w w'
       · exact o.vs H b
     · rcases et.1 b with rfl | b
       · have N:k<w.heap.size:=by
           rcases fB.1 p with p | p
           · have S:=I i k (ku.2 ⟨t,p,y⟩)
             obtain ⟨B,T,U⟩:=ku.1 S;exact B.vW w (m.kn B (by simp [T])) k U
           · exact t.vW w (m.kn t (by simp [p])) k y
         exact (o1 w w').off N
       · exact o.off H b t p k y
   · exact .inr ⟨_,O,j,O,q,m.back h⟩
 · intro a w z r
   exact K i.1 i.2 r.1.1 r.1.2 a w z r.2
 · rintro a w z ⟨j,rfl,q,r⟩
   exact J j q a w z r
def rZ {ι:Type}     (a L2:List ah) (c:dI ops l g) (f:Nat.blt d n=true) (j:Enters P du) (m:g2 l aR.toList=some ci) (hL:L=a++L2)
   (v:ι->Value) (b:ι->List ah) (R:View->ι->Prop) (b9:List View) (o:∀H ∈ b9,H ∈ Vs)
   (p:∀i,∀k ∈ (b i).flatMap ah.ids,k ∈ a.flatMap ah.ids)
   (hC:∀w,Ws w (a.flatMap ah.ids) a b9 w->Calls P du ci.toArray w λe w'=>∃i,e = .returned (v i)/\R (nv w w') i/\Ws w (a.flatMap ah.ids) (b i) b9 w')
   (q:∀H i,eD w0 H->R H i->WL P ops Q n ds ((d,v i)::l) (Ws w0 F (b i++L2) (H::Vs)) rest) :
   WL P ops Q n ds l (Ws w0 F L Vs) (⟨some d,.call ⟨.value (.func du),aR,gU⟩,ty,pos,af,g⟩::rest):=
 oj (κ:=Unit) a L2 c f j m hL v b R (λ_=>[]) (λ_=>[]) (λ_=>False) b9 o p (λw r=>(hC w r).mono λ_ _ h=>.inl h) (λ_ h=>h.elim) q
end
def rv (a:ah) (w:World):View:=λb=>if b ∈ a.ids then w.heap[b]? else none
section
variable {w0 w:World} {F:List Nat} {L:List ah} {Vs:List View} {A:ah}
def PP (a:ah) (w:World):Le (rv a w) w:=λb o h=>by
 unfold rv at h
 split at h
 · exact h
 · cases h
def Ws.wn (h:Ws w0 F L Vs w) (i:Nat) (hL:L[i]? = some A):Ws w0 F (eQ i L) (rv A w::Vs) w:=by
 have c:=h.perm (lp i L hL);have b:Ws w0 F (eQ i L) Vs w:=Ws.drop (L:=[A]) c;refine ⟨b.fr,b.kn,b.nd,b.own,λH a=>?_,λH a B d k e=>?_⟩
 · rcases et.1 a with rfl | a
   · exact PP A w
   · exact b.vs H a
 · rcases et.1 a with rfl | a
   · have nd:=c.nd
     rw [i7,mb] at nd;unfold rv;rw [av];intro f;exact nd.2.2 k f k (ku.2 ⟨B,d,e⟩) O
   · exact b.off H a B d k e
def yt {α:Type} {rd:View->Nat->Nat->α->Prop} {f:α->List Value} {k e c:Nat} {a:Option Addr} {xs:List α} (h:(cW e k f a c xs).holds w)
   (m:∀x,(f x).length=k) (n:∀H b o x,cw H b o (f x)->rd H b o x):Sl rd k (rv (cW e k f a c xs) w) a c xs:=by
 obtain ⟨E,p⟩:=(h:w.ownsRow 0 e k _ xs.length (xs.flatMap f))
 rcases p with ⟨q,F⟩ | ⟨b,cap,cur,r,_,s,t,g,G,u⟩
 · injection q with l y g
   subst l g;have:xs=[]:=rL Z;subst this;exact Sl.nil
 · injection r with l y z
   subst l z;refine ⟨t,by unfold maxLen at g; omega,au,λi x A=>⟨b,0,O,n _ _ _ _ λj v hv=>?_⟩⟩
   have B:j<k:=by have:=(cS.1 hv).1; rw [m] at this; exact this
   have d:(xs.flatMap f)[i*k+j]? = some v:=by rw [kZ m A B]; exact hv
   rw [<-u,i6] at d
   split at d
   · have C:rv (cW e k f (some ⟨b,0,none⟩) c xs) w b=some (.cells cur e (0,0)):=by
       unfold rv;rw [a8 (by simp [cq,Value.ownBlock])];exact s
     have D:vc (rv (cW e k f (some ⟨b,0,none⟩) c xs) w) b (0+i*k+j)=gE (.cells cur e (0,0)) (0+i*k+j):=by unfold vc; rw [C]; rfl
     rw [D]
     simpa [gE] using d
   · cases d
end
section
variable {P:Program} {ops:Array Oper} {cd:Code} {Q:Exit->Act->World->Prop} {n:Nat} {ds:List Deferred} {l:List (Nat×Value)} {w0:World} {F:List Nat} {L:List ah} {Vs:List View} {rest:List Oper}
variable {cp:Nat} {cj:Option Addr}
def WC.r0 {rd:View->Nat->Nat->a9->Prop} {f:a9->List Value}   {xs:List a9} (i:Nat) (hL:L[i]? = some (cW aB ae f cj cp xs))
   (c:∀x,(f x).length=ae) (d:∀H b o x,cw H b o (f x)->rd H b o x) (h:∀H,Sl rd ae H cj cp xs->WC P cd Q n ds l (Ws w0 F (eQ i L) (H::Vs))):WC P cd Q n ds l (Ws w0 F L Vs):=
 λe w g a=>h _ (yt (a.kn _ (dY hL)) c d) e w g (a.wn i hL)
def p4 {a:Obj} (i:Nat) (b:Obj) (hL:L[i]? = some (aE ae a)) (c:a=b) (h:WC P cd Q n ds l (Ws w0 F (L.set i (aE ae b)) Vs)):WC P cd Q n ds l (Ws w0 F L Vs):=
 WC.oe i hL (by rw [c]) h
def WL.r0 {rd:View->Nat->Nat->a9->Prop} {f:a9->List Value}   {xs:List a9} (i:Nat) (hL:L[i]? = some (cW aB ae f cj cp xs))
   (c:∀x,(f x).length=ae) (d:∀H b o x,cw H b o (f x)->rd H b o x) (h:∀H,Sl rd ae H cj cp xs->WL P ops Q n ds l (Ws w0 F (eQ i L) (H::Vs)) rest):WL P ops Q n ds l (Ws w0 F L Vs) rest:=
 λe w g a=>h _ (yt (a.kn _ (dY hL)) c d) e w g (a.wn i hL)
end
def AL (P:Program) (t:TypeId) (f:Nat):Option Nat:=match P.underlying t with
 | some (.struct fs)=>match fs[f]? with
   | some x=>if mS P x.type=true then some x.offset else none
   | none=>none
 | _=>none
section
variable {P:Program} {l:List (Nat×Value)} {W:World->Prop} {d:Option Tmp} {ty:TypeId} {pos:String} {af:Array Edge} {g:Option (Nat×Bool)}
def IA {t:TypeId} {x:Operand} {f k:Nat} {cs:Array Value} {v:Value} (a:AL P t f=some k) (h:bu l x=some (.agg cs)) (hv:cs[k]? = some v):Yl P l W ⟨d,.field t x f,ty,pos,af,g⟩ v:=by
 intro p w i _;unfold AL at a
 cases b:P.underlying t with
 | none=>simp [b] at a
 | some j=>
   cases j<;>simp [b] at a
   rename_i fs
   cases c:fs[f]? with
   | none=>simp [c] at a
   | some e=>
     simp [c] at a;obtain ⟨m,rfl⟩:=a;have n:=z1 m w
     have o:(part e.type cs e.offset).run P w = .ok v w:=by simp [part,n,hv]
     simp [execOp,i x _ h,Instr.field,run_underlying b,c,asAgg,o]
end
abbrev v0:View:=λ_=>none
def ol (w:World):eD w v0:=λ_ _ h=>by cases h
def vj (a B:View):View:=λb=>match a b with | some o=>some o | none=>B b
def IB (a B:View):bK a (vj a B):=λb o h=>by simp [vj,h]
variable {bF:World}
def IC (d:Le bc bF) (e:Le b_ bF):bK b_ (vj bc b_):=λb o h=>by
 cases c:bc b with
 | none=>simp [vj,c,h]
 | some f=>
   have g:=d b f c;have a:=e b o h;rw [g] at a
   injection a with a
   subst a;simp [vj,c]
def PQ (a:Le bc bF) (c:Le b_ bF):Le (vj bc b_) bF:=λb o h=>by
 unfold vj at h
 split at h
 · rename_i e d; injection h with h; subst h; exact a b _ d
 · exact c b o h
def ID (a:eD bF bc) (c:eD bF b_):eD bF (vj bc b_):=λb o h=>by
 unfold vj at h
 split at h
 · rename_i e d; injection h with h; subst h; exact a b _ d
 · exact c b o h
section
variable {w0 w:World} {F:List Nat} {L:List ah} {Vs:List View} {A:ah}
def Ws.v0 (h:Ws w0 F L Vs w):Ws w0 F L (v0::Vs) w:=
 ⟨h.fr,h.kn,h.nd,h.own,λH a=>by
   rcases et.1 a with rfl | a
   · intro b o c; cases c
   · exact h.vs H a,λH a=>by
   rcases et.1 a with rfl | a
   · intro _ _ _ _; rfl
   · exact h.off H a⟩
def Ws.jc {b c:View} (h:Ws w0 F L (b::c::Vs) w):Ws w0 F L (vj b c::Vs) w:=
 ⟨h.fr,h.kn,h.nd,h.own,λH a=>by
   rcases et.1 a with rfl | a
   · exact PQ (h.vs b au) (h.vs c au)
   · exact h.vs H (by simp [a]),λH a d e k f=>by
   rcases et.1 a with rfl | a
   · simp [vj,h.off b au d e k f,h.off c au d e k f]
   · exact h.off H (by simp [a]) d e k f⟩
def Ws.PR (h:Ws w0 F (A::L) Vs w) (c:∀k ∈ F,k ∈ L.flatMap ah.ids):∀k ∈ A.ids,w0.heap.size<=k:=by
 intro k b
 rcases h.own A au k b with a | a
 · have nd:=h.nd
   rw [i7,mb] at nd;exact absurd O (nd.2.2 k b k (c k a))
 · exact a
def AM (h:Ws w0 F (A::L) Vs w) (d:∀k ∈ F,k ∈ L.flatMap ah.ids) (e:∀b ∈ A.ids,∀o,w.heap[b]? = some o->sR o=true):eD w0 (rv A w):=λb o a=>by
 unfold rv at a
 split at a
 · rename_i c; exact ⟨h.PR d b c,e b c o a⟩
 · cases a
def DY {α:Type} {f:α->List Value} {k e c:Nat} {a:Option Addr} {xs:List α} (h:(cW e k f a c xs).holds w):∀b ∈ (cW e k f a c xs).ids,∀o,w.heap[b]? = some o->sR o=true:=by
 obtain ⟨q,l⟩:=(h:w.ownsRow 0 e k _ xs.length (xs.flatMap f))
 rcases l with ⟨m,r⟩ | ⟨b,cap,cur,n,_,g,_⟩
 · injection m with i p s
   subst i;intro b g;simp [cq,Value.ownBlock] at g
 · injection n with i p t
   subst i;intro u j o d;simp [cq,Value.ownBlock] at j;subst j;rw [g] at d
   injection d with d
   subst d
   rfl
def c8 {H:View} (h:Ws w0 F L Vs w) (a:H ∈ Vs) (b:eD w0 H):bK H (nv w0 w):=N5 (h.vs H a) b
end
section
variable {P:Program} {ops:Array Oper} {cd:Code} {Q:Exit->Act->World->Prop} {n:Nat} {ds:List Deferred} {l:List (Nat×Value)} {w0:World} {F:List Nat} {L:List ah} {Vs:List View} {rest:List Oper}
def WL.v0 (h:WL P ops Q n ds l (Ws w0 F L (v0::Vs)) rest):WL P ops Q n ds l (Ws w0 F L Vs) rest:=LW (λ_ a=>a.v0) h
def WL.jc (h:∀H,bK bc H->bK b_ H->(∀u,eD u bc->eD u b_->eD u H)->WL P ops Q n ds l (Ws w0 F L (H::Vs)) rest):WL P ops Q n ds l (Ws w0 F L (bc::b_::Vs)) rest:=
 λa w c b=>h (vj bc b_) (IB bc b_) (IC (b.vs bc au) (b.vs b_ au)) (λu d e=>ID d e) a w c b.jc
def WC.jc (h:∀H,bK bc H->bK b_ H->(∀u,eD u bc->eD u b_->eD u H)->WC P cd Q n ds l (Ws w0 F L (H::Vs))):WC P cd Q n ds l (Ws w0 F L (bc::b_::Vs)):=
 λa w c b=>h (vj bc b_) (IB bc b_) (IC (b.vs bc au) (b.vs b_ au)) (λu d e=>ID d e) a w c b.jc
variable {cj:Option Addr}
def WL.mu {rd:View->Nat->Nat->a9->Prop} {f:a9->List Value} {k e c:Nat}  {xs:List a9} (i:Nat) (hL:L[i]? = some (cW e k f cj c xs)) (d:∀k ∈ F,k ∈ (eQ i L).flatMap ah.ids)
   (g:∀x,(f x).length=k) (j:∀H b o x,cw H b o (f x)->rd H b o x) (h:∀H,eD w0 H->Sl rd k H cj c xs->WL P ops Q n ds l (Ws w0 F (eQ i L) (H::Vs)) rest):WL P ops Q n ds l (Ws w0 F L Vs) rest:=
 λm w p a=>h _ (AM (a.perm (lp i L hL)) d (DY (a.kn _ (dY hL)))) (yt (a.kn _ (dY hL)) g j) m w p (a.wn i hL)
def WC.mu {rd:View->Nat->Nat->a9->Prop} {f:a9->List Value} {k e c:Nat}  {xs:List a9} (i:Nat) (hL:L[i]? = some (cW e k f cj c xs)) (d:∀k ∈ F,k ∈ (eQ i L).flatMap ah.ids)
   (g:∀x,(f x).length=k) (j:∀H b o x,cw H b o (f x)->rd H b o x) (h:∀H,eD w0 H->Sl rd k H cj c xs->WC P cd Q n ds l (Ws w0 F (eQ i L) (H::Vs))):WC P cd Q n ds l (Ws w0 F L Vs):=
 λm w p a=>h _ (AM (a.perm (lp i L hL)) d (DY (a.kn _ (dY hL)))) (yt (a.kn _ (dY hL)) g j) m w p (a.wn i hL)
def LN {rd:View->Nat->Nat->a9->Prop} {f:a9->List Value} {k T b m:Nat} {cur:Array Value} (i:Nat) (xs:List a9) (hL:L[i]? = some (aE b (.cells cur T (0,0)))) (g:cur=(xs.flatMap f).toArray) (j:∀k ∈ F,k ∈ (eQ i L).flatMap ah.ids)
   (p:∀x,(f x).length=k) (q:∀H b o x,cw H b o (f x)->rd H b o x) (r:xs.length<=m) (s:m<=9223372036854775807)
   (h:∀H,eD w0 H->Sl rd k H (some ⟨b,0,none⟩) m xs->WL P ops Q n ds l (Ws w0 F (eQ i L) (H::Vs)) rest):WL P ops Q n ds l (Ws w0 F L Vs) rest:=by
 subst g;intro t w u c;have d:w.heap[b]? = some (.cells (xs.flatMap f).toArray T (0,0)):=c.kn _ (dY hL)
 have v:rv (aE b (.cells (xs.flatMap f).toArray T (0,0))) w b=some (.cells (xs.flatMap f).toArray T (0,0)):=by
   unfold rv;rw [a8 (by simp [aE])];exact d
 exact h _ (AM (c.perm (lp i L hL)) j λy e o a=>by simp [aE] at e; subst e; rw [d] at a; injection a with a; subst a; rfl) (Iy (f:=f) v p q r s) t w u (c.wn i hL)
end
section
variable {P:Program} {ops:Array Oper} {C:World->Prop} {Q:Exit->Act->World->Prop} {n:Nat} {ds:List Deferred} {l:List (Nat×Value)} {W:World->Prop}
variable {c9:List (Nat×Value)} {bC:List Oper}
def PS {a:Act}  {o:Oper}  (c:lT ops l (o::bC)=some c9) (p:Ag n ds l a) :
   ∃d,o.dst=some d/\Region.wanted o (yielded ops a.tmps)=false/\lT ops ((d,undef)::l) bC=some c9:=by
 simp only [lT] at c
 cases e:o.guard with
 | none=>simp [e] at c
 | some r=>
   obtain ⟨j,b⟩:=r
   cases q:o.dst with
   | none=>simp [e,q] at c
   | some d=>
     simp only [e,q] at c
     cases f:(ops[j]?).bind (·.dst) with
     | none=>simp [f] at c
     | some h=>
       simp only [f] at c
       cases g:lk l h with
       | none=>simp [g] at c
       | some v=>
         simp only [g] at c;have hv:=p.bl h v g
         cases v with
         | bool i=>
           cases k:(i != b) with
           | false=>simp [k] at c
           | true=>
             simp only [k,qC] at c;refine ⟨d,O,?_,c⟩;have s:=Hf p g (.inl (by simp [undef]))
             have m:yielded ops a.tmps j=some i:=by simp [yielded,f,s]
             simp only [Region.wanted,e,m]
             cases b<;>cases i<;>first | rfl | (simp at k)
         | tuple vs=>
           refine ⟨d,O,?_,c⟩
           have m:yielded ops a.tmps j=none:=by
             simp only [yielded,f,cM];rw [jm] at hv
             cases t:a.tmps[h]? with
             | none=>rfl
             | some u=>simp [t] at hv; simp [hv]
           simp [Region.wanted,e,m]
         | _=>simp at c
def opsOf (ops:Array Oper):List (Nat×Bool)->Option (List Oper)
 | []=>some []
 | (i,_)::r=>match ops[i]?,opsOf ops r with
   | some o,some t=>some (o::t)
   | _,_=>none
variable {g4 AN:List (Nat×Bool)}
def WD.C_:∀{os:List Oper} {e l:List (Nat×Value)},opsOf ops g4=some os->lT ops l os=some e->qF n os=true->(∀w,W w->C w)->(∀a w,Ag n ds e a->W w->nr P ops C Q AN a w)->
   ∀a w,Ag n ds l a->W w->nr P ops C Q (g4++AN) a w:=by
 induction g4 with
 | nil=>
   intro os e l b f _ _ h a w g c
   injection b with b
   subst b;simp [lT] at f; subst f; exact h a w g c
 | cons p r v=>
   obtain ⟨i,q⟩:=p;intro os e l b f j hC h a w g c;unfold opsOf at b
   cases hi:ops[i]? with
   | none=>rw [hi] at b; cases b
   | some o=>
     cases k:opsOf ops r with
     | none=>rw [hi,k] at b; cases b
     | some t=>
       rw [hi,k] at b
       injection b with b
       subst b;obtain ⟨d,m,s,x⟩:=PS f g;simp only [qF,vN,ew] at j
       have y:Nat.blt d n=true:=by have:=j.1; rw [m] at this; exact this
       have u:=v k x j.2 hC h (a.put (some d) undef) w (g.put y undef) c
       cases q with
       | true=>exact ⟨hC w c,o,undef,hi,.inr ⟨s,rfl⟩,by rw [m]; exact u⟩
       | false=>
         refine ⟨hC w c,?_⟩;unfold wpOp;simp only [hi,s,aw,cn];rw [m];exact u
def PT {f g:Act->World->Prop} {i:Act->World->Prop} (b:∀a w,f a w->g a w) {a:Act} {w:World} (h:wpOp P ops (Exit.then i Q) ae f a w):wpOp P ops Q ae g a w:=by
 unfold wpOp at h ⊢
 cases hi:ops[ae]? with
 | none=>simp only [hi] at h ⊢; exact b _ _ h
 | some o=>
   simp only [hi] at h ⊢
   split
   · rename_i d
     rw [a8 d] at h
     rcases h with h | ⟨j,a2,k,l⟩
     · left
       unfold Oper.wp at h ⊢;unfold Oper.upon at h ⊢
       split at h
       all_goals first
         | exact b _ _ h
         | exact h
         | (refine h.mono λe w' c=>?_
            cases e with
            | returned v=>exact b _ _ c
            | panicked p=>exact c
            | outgrown=>obtain ⟨a3,m,n⟩:=c; exact ⟨a3,m,n⟩)
         | exact h.mono λv w' c=>b _ _ c
     · exact .inr ⟨j,a2,k,l⟩
   · rename_i d
     rw [av d] at h;exact b _ _ h
def Gi {x:Value} (m:Nat) (hC:∀w,W w->C w) (c:lk c9 ae=some x) (d:c9.drop m=l) (e:o2 (c9.take m) l=true):WD P ops C (qG Q n ds l W ae x) n ds c9 W []:=
 λ_ w a b=>⟨hC w b,⟨a.z_ m d e,a.bl _ _ c⟩,b⟩
def PU {dx:Nat} {x:Value} (c:∀a w,(Ag n ds l a/\a.tmps.getD dx undef=x)/\W w->nr P ops C Q AN a w):∀(a:Act) (w:World),nr P ops C (qG Q n ds l W dx x) g4 a w->nr P ops C Q (g4++AN) a w:=by
 induction g4 with
 | nil=>intro a w h; exact c a w h.2
 | cons p r b=>
   obtain ⟨i,q⟩:=p;intro a w h
   cases q with
   | true=>obtain ⟨d,o,v,e,f,g⟩:=h; exact ⟨d,o,v,e,f,b _ _ g⟩
   | false=>exact ⟨h.1,PT (λa w h=>b a w h) h.2⟩
variable {cp kX:Nat} {a_ bM:Operand} {aU:TypeId} {e8:String} {ft:Array Edge} {aM:Option (Nat×Bool)}
def WD.x_ (m:Nat)    (a:Bool) {c x:Bool}      
   (u:g4[m]? = some (ae,true)) (v:ops[ae]? = some ⟨some cp,.pick (.tmp aB) a_ bM,aU,e8,ft,aM⟩) (y:opsOf ops (g4.take m)=some bC) (i:lk l aB=some (.bool c)) (z:qF n bC=true)
   (A:dI ops l aM) (B:Nat.blt cp n=true) (hC:∀w,W w->C w)
   (d:(a_,bM)=(bif a then (Operand.tmp kX,Operand.const (.bool false)) else (Operand.const (.bool true),Operand.tmp kX)))
   (D:lT ops ((aB,.bool (!a))::l) bC=some c9) (E:c9.drop m=(aB,.bool (!a))::l) (F:o2 (c9.take m) ((aB,.bool (!a))::l)=true)
   (G:c=a->WD P ops C (qG Q n ds ((aB,.bool a)::l) W kX (.bool x)) n ds ((aB,.bool a)::l) W (g4.take m))
   (h:WD P ops C Q n ds ((cp,.bool (bif a then c&&x else c||x))::l) W (g4.drop (m+1))):WD P ops C Q n ds l W g4:=by
 intro k w p q
 have H:g4=g4.take m++(ae,true)::g4.drop (m+1):=by
   obtain ⟨I,J⟩:=cS.1 u;rw [<-J,xm I,pR]
 rw [H]
 have s:∀(b:Act) (w':World) (r:Bool),Ag n ds l b->W w'->(if c then b.eval a_ else b.eval bM) = .bool r->r=(bif a then c&&x else c||x)->
     nr P ops C Q ((ae,true)::g4.drop (m+1)) b w':=by
   intro b w' r e f hv K;refine ⟨hC w' f,_,.bool r,v,.inl ⟨dI.wanted (o:=⟨some cp,.pick (.tmp aB) a_ bM,aU,e8,ft,aM⟩) A e,λO _=>?_⟩,h _ _ (by rw [<-K]; exact e.put B _) f⟩;have L:b.eval (.tmp aB) = .bool c:=e.bl aB _ i;simp only [execOp,L,asBool,Sem.run_bind,Sem.run_pure,Result.andThen_ok,hv]
 by_cases g:c=a
 · refine PU (l:=(aB,.bool a)::l) (W:=W) (dx:=kX) (x:=.bool x) (λb w' M=>?_) _ _ (G g k w (p.known (by rw [<-g]; exact i)) q)
   obtain ⟨⟨e,t⟩,f⟩:=M;refine s b w' x (e.Aa (by rw [<-g]; exact i)) f ?_ ?_
   · subst g
     cases c
     · simp at d; obtain ⟨rfl,rfl⟩:=d; exact t
     · simp at d; obtain ⟨rfl,rfl⟩:=d; exact t
   · subst g; cases c<;>rfl
 · have j:c = !a:=by cases c<;>cases a<;>first | rfl | exact absurd rfl g
   refine WD.C_ y D z hC (λb w' e f=>?_) k w (p.known (by rw [<-j]; exact i)) q;have N:Ag n ds l b:=(e.z_ m E F).Aa (by rw [<-j]; exact i);refine s b w' c N f ?_ ?_
   · subst j
     cases a
     · simp at d; obtain ⟨rfl,rfl⟩:=d; rfl
     · simp at d; obtain ⟨rfl,rfl⟩:=d; rfl
   · subst j; cases a<;>rfl
def WD.and (m:Nat)    {c x:Bool}      
   (a:g4[m]? = some (ae,true)) (b:ops[ae]? = some ⟨some cp,.pick (.tmp aB) a_ bM,aU,e8,ft,aM⟩) (d:opsOf ops (g4.take m)=some bC) (e:lk l aB=some (.bool c)) (f:qF n bC=true)
   (g:dI ops l aM) (i:Nat.blt cp n=true) (hC:∀w,W w->C w) (j:(a_,bM)=(Operand.tmp kX,Operand.const (.bool false)))
   (k:lT ops ((aB,.bool false)::l) bC=some c9) (o:c9.drop m=(aB,.bool false)::l) (p:o2 (c9.take m) ((aB,.bool false)::l)=true)
   (q:c=true->WD P ops C (qG Q n ds ((aB,.bool true)::l) W kX (.bool x)) n ds ((aB,.bool true)::l) W (g4.take m))
   (h:WD P ops C Q n ds ((cp,.bool (c&&x))::l) W (g4.drop (m+1))):WD P ops C Q n ds l W g4:=
 WD.x_ m true a b d e f g i hC j k o p q h
def WD.or (m:Nat)    {c x:Bool}      
   (a:g4[m]? = some (ae,true)) (b:ops[ae]? = some ⟨some cp,.pick (.tmp aB) a_ bM,aU,e8,ft,aM⟩) (d:opsOf ops (g4.take m)=some bC) (e:lk l aB=some (.bool c)) (f:qF n bC=true)
   (g:dI ops l aM) (i:Nat.blt cp n=true) (hC:∀w,W w->C w) (j:(a_,bM)=(Operand.const (.bool true),Operand.tmp kX))
   (k:lT ops ((aB,.bool true)::l) bC=some c9) (o:c9.drop m=(aB,.bool true)::l) (p:o2 (c9.take m) ((aB,.bool true)::l)=true)
   (q:c=false->WD P ops C (qG Q n ds ((aB,.bool false)::l) W kX (.bool x)) n ds ((aB,.bool false)::l) W (g4.take m))
   (h:WD P ops C Q n ds ((cp,.bool (c||x))::l) W (g4.drop (m+1))):WD P ops C Q n ds l W g4:=
 WD.x_ m false a b d e f g i hC j k o p q h
end
section
variable {P:Program} {l:List (Nat×Value)} {W:World->Prop} {d:Option Tmp} {ty:TypeId} {pos:String} {af:Array Edge} {g:Option (Nat×Bool)}
variable {aU dt:TypeId} {a_ bM:Operand} {aG:IntKind} {aL cg:Int}
def jQ (a:bu l a_=some (.int aG aL)) (b:bu l bM=some (.int aG cg)) (h:aL=cg):Yl P l W ⟨d,.binOp .neq aU a_ bM dt,ty,pos,af,g⟩ (.bool false):=by
 subst h;have:=fh (P:=P) (W:=W) (d:=d) (ty:=ty) (pos:=pos) (af:=af) (g:=g) (t:=aU) (u:=dt) a b
 rwa [show (aL != aL)=false by simp] at this
def yu {a b:List UInt8} (c:bu l a_=some (st a)) (e:bu l bM=some (st b)) (h:a=b):Yl P l W ⟨d,.binOp .neq aU a_ bM dt,ty,pos,af,g⟩ (.bool false):=by
 subst h;have:=rQ (P:=P) (W:=W) (d:=d) (ty:=ty) (pos:=pos) (af:=af) (g:=g) (t:=aU) (u:=dt) c e
 rwa [show (!(a==a))=false by simp] at this
def m0 (a:bu l a_=some (.int aG aL)) (b:bu l bM=some (.int aG cg)) (h:aL=cg):Yl P l W ⟨d,.binOp .eql aU a_ bM dt,ty,pos,af,g⟩ (.bool true):=by
 subst h;have:=bx (P:=P) (W:=W) (d:=d) (ty:=ty) (pos:=pos) (af:=af) (g:=g) (t:=aU) (u:=dt) a b
 rwa [show (aL==aL)=true by simp] at this
def WD.wk {ops:Array Oper} {C:World->Prop} {Q:Exit->Act->World->Prop} {n:Nat} {ds:List Deferred} {W':World->Prop} {rest:List (Nat×Bool)} (b:∀w,W w->W' w) (h:WD P ops C Q n ds l W' rest):WD P ops C Q n ds l W rest:=λa w c d=>h a w c (b w d)
end
open Go.ChangeShapes Go.WideShapes Go.ChangeAt Go.RowKit Go.Joins Go.Deep
structure qV (H:Type) where
 B:DataW H->Nat
 BA:List (DataW H)->Nat
 str:∀l:List UInt8,B (.lit (.string l))=l.length+1
 agg:∀l,B (.agg l)=BA l+1
 sl:∀l r,BA l+1<=B (.slice l r)
 nil:BA []=0
 cons:∀d r,BA (d::r)=B d+BA r
def qV.at_ (a:qV a9) {l:List (DataW a9)}:∀{i:Nat} {d:DataW a9},l[i]? = some d->a.B d<=a.BA l:=by
 induction l with
 | nil=>intro i d h; cases h
 | cons y r b=>
   intro i d h;rw [a.cons]
   cases i with
   | zero=>simp at h; subst h; omega
   | succ i=>have:=b (i:=i) (by simpa using h); omega
section
variable {P:Program} {H:Type} {enc:TypeId×Value->H} {w:World} {base:Nat} {spare:Nat->Bool} {held:Bool} (K:qV H)
variable {aU:TypeId} {k5:Array Field} {ci:List Value}
def h0 {x:DataW H×List MemPlace} (d:P.underlying aU=some (.struct k5)) (a:(lX P 0 k5.toList&&Nat.beq (P.cellsOf aU) k5.size)=true) (h:DataW.trod enc P w base spare held ae aU ci=some x) :
   ci.length=k5.size/\∃(ys:List (DataW H×List MemPlace)) (n:Nat),ae=n+1/\x.1 = .agg (ys.map (·.1))/\ys.length=k5.size/\∀(j:Nat) (f:Field),k5[j]? = some f->∃v y,ci[j]? = some v/\ys[j]? = some y/\DataW.trod enc P w base spare held n f.type [v]=some y:=by
 simp only [ew] at a;obtain ⟨ys,n,e,i,k,l,m⟩:=DataW.trod_struct d h;have o:ci.length=k5.size:=k.trans (i5 a.2);refine ⟨o,ys,n,e,by rw [i],l,λj f b=>?_⟩;have s:j<k5.size:=(GV.1 b).1;obtain ⟨p,q⟩:=xQ 0 k5.toList j f a.1 (by simpa using b);have g:=m j f b;have r:ci[j]? = some ci[j]:=dM Z;have c:ys[j]? = some ys[j]:=dM Z;rw [p,q,gC,c,CM Z] at g;exact ⟨_,_,r,c,by simpa only [hD,List.take_zero] using g⟩
variable {aW:Value}
def qW {x:DataW H×List MemPlace} (a:P.underlying aU=some .string) (h:DataW.trod enc P w base spare held ae aU [aW]=some x):∃l:List UInt8,aW=st l/\K.B x.1=l.length+1:=by
 obtain ⟨s,e,b,_⟩:=DataW.trod_string a h
 injection e with e _
 subst e;exact ⟨s.data.toList,by simp [st],by rw [b]; exact K.str _⟩
def r1 {x:DataW H×List MemPlace} (a:P.underlying aU=some (.int .i64)) (h:DataW.trod enc P w base spare held ae aU [aW]=some x):∃k:Int,aW = .int .i64 k:=by
 obtain ⟨n,e,_⟩:=DataW.trod_int a h
 injection e with e _
 exact ⟨n,e⟩
def IE {x:DataW H×List MemPlace} (a:P.underlying aU=some .bool) (h:DataW.trod enc P w base spare held ae aU [aW]=some x):∃b,aW = .bool b:=by
 obtain ⟨n,e,_⟩:=DataW.trod_bool a h
 injection e with e _
 exact ⟨n,e⟩
def p5 {α:Type} {rd:View->Nat->Nat->α->Prop} (E:α->Nat) (A:List α->Nat) (M:A []=0) (Y:∀x r,A (x::r)=E x+A r) {ts e:TypeId} {k fuel:Nat} {v:Value} {x:DataW H×List MemPlace} (Z:P.underlying ts=some (.slice e)) (G:P.cellsOf e=k) (N:0<k) (aa:∀b,spare b=true)
   (ab:∀(n:Nat) (f:List Value) (y:DataW H×List MemPlace),n<fuel->DataW.trod enc P w base spare held n e f=some y->f.length=k->∃d:α,(∀b o,cw (hv w) b o f->rd (hv w) b o d)/\E d<=K.B y.1)
   (h:DataW.trod enc P w base spare held fuel ts [v]=some x):∃(a:Option Addr) (c:Nat) (xs:List α),v = .slice a xs.length c/\Sl rd k (hv w) a c xs/\A xs<=K.B x.1:=by
 rcases DataW.trod_slice Z h with ⟨q,_⟩ | ⟨a,len,cap,C,rest,n,av,q,ac,aw,ax,ad,ay,Q,ae,_⟩
 · injection q with q _
   exact ⟨none,0,[],q,Sl.nil,by rw [M]; exact cx _⟩
 · injection q with q _
   have R:0<cap->a.spot=none:=by
     intro az
     rcases lm 0 len with S | S
     · have g:=Q 0 S
       obtain ⟨y,z⟩:∃y,C[0]? = some y:=⟨_,dM (by omega)⟩;rw [z] at g;obtain ⟨f,m,_⟩:=cN.1 g;rw [G] at m;obtain ⟨_,I,D⟩:=World.cells?_some m;obtain ⟨u,J⟩:∃u,f[0]? = some u:=⟨_,dM (by omega)⟩;have:=D 0 N;rw [J] at this
       simpa [Addr.add] using World.cell?_spot this
     · obtain ⟨aA,af⟩:=ae (aa _)
       have ag:len=0:=by omega
       have g:=af 0 (by omega);rw [ag] at g;obtain ⟨y,z⟩:∃y,rest[0]? = some y:=⟨_,dM (by omega)⟩;rw [z] at g;obtain ⟨f,m,_⟩:=cN.1 g;rw [G] at m;obtain ⟨_,I,D⟩:=World.cells?_some m;obtain ⟨u,J⟩:∃u,f[0]? = some u:=⟨_,dM (by omega)⟩;have:=D 0 N;rw [J] at this
       simpa [Addr.add] using World.cell?_spot this
   obtain ⟨xs,ah,T⟩:=HH (λi (d:α)=>(∀b o,a=⟨b,o,none⟩->rd (hv w) b (o+i*k) d)/\∃y:DataW H×List MemPlace,C[i]? = some y/\E d<=K.B y.1) len (λi hi=>by
     have g:=Q i hi;obtain ⟨y,z⟩:∃y,C[i]? = some y:=⟨_,dM (by omega)⟩;rw [z] at g;obtain ⟨f,m,ai⟩:=cN.1 g;rw [G] at m;obtain ⟨_,I,D⟩:=World.cells?_some m;obtain ⟨d,aj,ak⟩:=ab n f y (by omega) ai I;refine ⟨d,λb o al=>aj _ _ λj v U=>?_,y,z,ak⟩;subst al
     have am:j<k:=by have:=(cS.1 U).1; omega
     have:=D j am;rw [U] at this;rw [mg,mg] at this
     exact Dp this)
   have an:∀(l:List α) (es:List (DataW H×List MemPlace)),l.length=es.length->(∀(i:Nat) (d:α),l[i]? = some d->∃y:DataW H×List MemPlace,es[i]? = some y/\E d<=K.B y.1)->A l<=K.BA (es.map (·.1)):=by
     intro l
     induction l with
     | nil=>intro es _ _; rw [M]; exact cx _
     | cons d l ao=>
       intro es V W
       cases es with
       | nil=>cases V
       | cons y es=>
         obtain ⟨X,F,t⟩:=W 0 d rfl;simp at F; subst F
         have:=ao es (by simpa using V) λi ap aq=>by
           obtain ⟨X,F,t⟩:=W (i+1) ap (by simpa using aq);exact ⟨X,by simpa using F,t⟩
         rw [Y,jn,K.cons];omega
   refine ⟨some a,cap,xs,by rw [q,ah],⟨by omega,by unfold maxLen at ad; omega,λp L ar=>by injection L with L; subst L; exact R ar,λi d t=>?_⟩,?_⟩
   · have hi:i<len:=by have:=(cS.1 t).1; omega
     have au:=R (by omega);obtain ⟨b,o,s⟩:=a;obtain rfl:s=none:=au;exact ⟨b,o,O,(T i d t).1 b o O⟩
   · have:=an xs C (by omega) λi d t=>(T i d t).2
     simp only [ac];have:=K.sl (C.map (·.1)) (rest.map (·.1));omega
structure r2 (P:Program) (tE tS tD tP tM cY m1 p6 nz l1:TypeId) (e s d p m:Array Field) (tI tB tT:TypeId):Prop where
 uI:P.underlying tI=some (.int .i64)
 uB:P.underlying tB=some .bool
 uT:P.underlying tT=some .string
 cT:P.cellsOf tT=1
 uE:P.underlying tE=some (.struct e)
 rE:(lX P 0 e.toList&&Nat.beq (P.cellsOf tE) e.size)=true
 fE:e.map (·.type) = #[tI,tI,tT,tT,cY]
 IH:P.underlying cY=some (.slice tE)
 uS:P.underlying tS=some (.struct s)
 rS:(lX P 0 s.toList&&Nat.beq (P.cellsOf tS) s.size)=true
 fS:s.map (·.type) = #[tI,tT,tT,cY,m1,m1]
 qJ:P.underlying m1=some (.slice tS)
 uD:P.underlying tD=some (.struct d)
 rD:(lX P 0 d.toList&&Nat.beq (P.cellsOf tD) d.size)=true
 fD:d.map (·.type) = #[tI,tT,tB,tI]
 PY:P.underlying p6=some (.slice tD)
 uP:P.underlying tP=some (.struct p)
 rP:(lX P 0 p.toList&&Nat.beq (P.cellsOf tP) p.size)=true
 fP:p.map (·.type) = #[tT,tB,l1,l1,m1]
 IK:P.underlying nz=some (.slice tP)
 IL:P.underlying l1=some (.slice tT)
 uM:P.underlying tM=some (.struct m)
 rM:(lX P 0 m.toList&&Nat.beq (P.cellsOf tM) m.size)=true
 fM:m.map (·.type) = #[tT,l1,p6,nz,m1]
variable {gU:Array TypeId}
def hJ (h:k5.map (·.type)=gU) {j:Nat}  (a:gU[j]? = some aU):∃f,k5[j]? = some f/\f.type=aU:=by
 rw [<-h,Array.getElem?_map] at a;obtain ⟨f,b,c⟩:=dX.1 a;exact ⟨f,b,c⟩
variable {tE tS tD tP tM cY m1 p6 nz l1 tI tB tT:TypeId} {e s d p m:Array Field}
def r3 (a:(lX P 0 k5.toList&&Nat.beq (P.cellsOf aU) k5.size)=true):P.cellsOf aU=k5.size:=by
 simp only [ew] at a;exact i5 a.2
def ot (h:k5.map (·.type)=gU):k5.size=gU.size:=by rw [<-h]; simp
def P0 (T:r2 P tE tS tD tP tM cY m1 p6 nz l1 e s d p m tI tB tT) (J:∀b,spare b=true):∀(fuel:Nat) (cs:List Value) (x:DataW H×List MemPlace),DataW.trod enc P w base spare held fuel tE cs=some x->∃(y:ak) (a:Option Addr) (c:Nat),cs=qS y a c/\Sl (gn fuel) 5 (hv w) a c y.args/\wE y<=K.B x.1:=by
 intro fuel
 induction fuel using Nat.strongRecOn with
 | _ fuel L=>
 intro cs x h;obtain ⟨M,ys,n,au,N,O,f⟩:=h0 T.uE T.rE h;have g:=ot T.fE;simp at g;obtain ⟨Q,R,S⟩:=hJ T.fE (j:=0) rfl;obtain ⟨U,V,W⟩:=hJ T.fE (j:=1) rfl;obtain ⟨X,Y,aa⟩:=hJ T.fE (j:=2) rfl;obtain ⟨ab,ac,ad⟩:=hJ T.fE (j:=3) rfl;obtain ⟨ae,af,ag⟩:=hJ T.fE (j:=4) rfl;obtain ⟨v0,av,i,l,q⟩:=f 0 Q R;obtain ⟨v1,aw,r,t,u⟩:=f 1 U V;obtain ⟨ax,ay,v,z,A⟩:=f 2 X Y;obtain ⟨az,aA,C,D,E⟩:=f 3 ab ac;obtain ⟨aB,aC,F,G,I⟩:=f 4 ae af;rw [S] at q; rw [W] at u; rw [aa] at A; rw [ad] at E; rw [ag] at I;obtain ⟨op,rfl⟩:=r1 T.uI q;obtain ⟨ah,rfl⟩:=r1 T.uI u;obtain ⟨mod,rfl,aD⟩:=qW K T.uT A;obtain ⟨nm,rfl,aE⟩:=qW K T.uT E
 obtain ⟨a,c,args,rfl,ai,aF⟩:=p5 (rd:=gn fuel) K wE ff rfl (λ_ _=>rfl) T.IH ((r3 T.rE).trans g) Z J (λaj al y aG am _=>by
   obtain ⟨an,a,c,rfl,ao,ap⟩:=L aj Z al y am;refine ⟨an,λb o aq=>?_,ap⟩;obtain ⟨k,rfl⟩:∃k,fuel=k+1:=⟨fuel-1,Z⟩
   exact ⟨a,c,aq,ao.imp λb o y ar=>qU (bK.refl _) Z b o y ar⟩) I
 refine ⟨ak.mk op ah mod nm args,a,c,?_,ai,?_⟩
 · match cs,M.trans g with
   | [c0,c1,c2,c3,c4],_=>
     simp at i r v C F;subst i r v C F
     rfl
 · match ys,O.trans g with
   | [d0,d1,d2,d3,d4],_=>
     simp at l t z D G;subst l t z D G;rw [N];simp only [jn,qA,K.agg,K.cons,K.nil,wE];omega
def IF (T:r2 P tE tS tD tP tM cY m1 p6 nz l1 e s d p m tI tB tT) (t:∀b,spare b=true):∀(fuel:Nat) (cs:List Value) (x:DataW H×List MemPlace),DataW.trod enc P w base spare held fuel tS cs=some x->∃(y:bE) (a1:Option Addr) (c1:Nat) (a2:Option Addr) (c2:Nat) (a3:Option Addr) (c3:Nat),cs=qT y a1 c1 a2 c2 a3 c3/\Sl (gn fuel) 5 (hv w) a1 c1 y.args/\Sl (e5 fuel fuel) 6 (hv w) a2 c2 y.body/\Sl (e5 fuel fuel) 6 (hv w) a3 c3 y.other/\wS y<=K.B x.1:=by
 intro fuel
 induction fuel using Nat.strongRecOn with
 | _ fuel aa=>
 intro cs x h;obtain ⟨ab,ys,n,aG,ac,ad,i⟩:=h0 T.uS T.rS h;have r:=ot T.fS;simp at r;have A:=ot T.fE;simp at A;obtain ⟨ae,af,ag⟩:=hJ T.fS (j:=0) rfl;obtain ⟨ah,ai,aj⟩:=hJ T.fS (j:=1) rfl;obtain ⟨ak,al,am⟩:=hJ T.fS (j:=2) rfl;obtain ⟨an,ao,ap⟩:=hJ T.fS (j:=3) rfl;obtain ⟨aq,ar,au⟩:=hJ T.fS (j:=4) rfl;obtain ⟨av,aw,ax⟩:=hJ T.fS (j:=5) rfl;obtain ⟨v0,aH,C,D,E⟩:=i 0 ae af;obtain ⟨v1,aI,F,G,I⟩:=i 1 ah ai;obtain ⟨aJ,aK,J,L,M⟩:=i 2 ak al;obtain ⟨aL,aM,N,O,Q⟩:=i 3 an ao;obtain ⟨aN,aO,R,S,U⟩:=i 4 aq ar;obtain ⟨v5,aP,V,W,X⟩:=i 5 av aw;rw [ag] at E; rw [aj] at I; rw [am] at M; rw [ap] at Q; rw [au] at U; rw [ax] at X
 have Y:∀l (f:List Value) (y:DataW H×List MemPlace),l<n->DataW.trod enc P w base spare held l tS f=some y->f.length=6->∃q:bE,(∀b o,cw (hv w) b o f->e5 fuel fuel (hv w) b o q)/\wS q<=K.B y.1:=λl f y ay u _=>by
   obtain ⟨q,a1,c1,a2,c2,a3,c3,rfl,az,aA,aB,v⟩:=aa l Z f y u;refine ⟨q,λb o z=>?_,v⟩;obtain ⟨k,rfl⟩:∃k,fuel=k+1:=⟨fuel-1,Z⟩;exact ⟨a1,c1,a2,c2,a3,c3,z,az.imp λb o y g=>qU (bK.refl _) Z b o y g,aA.imp λb o y g=>nw (bK.refl _) Z Z b o y g,aB.imp λb o y g=>nw (bK.refl _) Z Z b o y g⟩
 obtain ⟨op,rfl⟩:=r1 T.uI E;obtain ⟨mod,rfl,aQ⟩:=qW K T.uT I;obtain ⟨nm,rfl,aR⟩:=qW K T.uT M
 obtain ⟨a1,c1,args,rfl,aC,aS⟩:=p5 (rd:=gn fuel) K wE ff rfl (λ_ _=>rfl) T.IH ((r3 T.rE).trans A) Z t (λl f y ay u _=>by
   obtain ⟨q,a,c,rfl,aD,v⟩:=P0 K T t l f y u;refine ⟨q,λb o z=>?_,v⟩;obtain ⟨k,rfl⟩:∃k,fuel=k+1:=⟨fuel-1,Z⟩
   exact ⟨a,c,z,aD.imp λb o y g=>qU (bK.refl _) Z b o y g⟩) Q
 obtain ⟨a2,c2,body,rfl,aE,aT⟩:=p5 (rd:=e5 fuel fuel) K wS dP rfl (λ_ _=>rfl) T.qJ ((r3 T.rS).trans r) Z t Y U;obtain ⟨a3,c3,other,rfl,aF,aU⟩:=p5 (rd:=e5 fuel fuel) K wS dP rfl (λ_ _=>rfl) T.qJ ((r3 T.rS).trans r) Z t Y X;refine ⟨bE.mk op mod nm args body other,a1,c1,a2,c2,a3,c3,?_,aC,aE,aF,?_⟩
 · match cs,ab.trans r with
   | [c0,c1,c2,c3,c4,c5],_=>
     simp at C F J N R V;subst C F J N R V
     rfl
 · match ys,ad.trans r with
   | [d0,d1,d2,d3,d4,d5],_=>
     simp at D G L O S W;subst D G L O S W;rw [ac];simp only [jn,qA,K.agg,K.cons,K.nil,wS];omega
def IN (T:r2 P tE tS tD tP tM cY m1 p6 nz l1 e s d p m tI tB tT) (g:∀b,spare b=true)   {x:DataW H×List MemPlace} (h:DataW.trod enc P w base spare held ae m1 [aW]=some x):∃(a:Option Addr) (c:Nat) (l:List bE),aW = .slice a l.length c/\Sl (e5 ae ae) 6 (hv w) a c l/\dP l<=K.B x.1:=by
 have i:=ot T.fS;simp at i;refine p5 (rd:=e5 ae ae) K wS dP O (λ_ _=>rfl) T.qJ ((r3 T.rS).trans i) Z g (λj n y C q _=>?_) h;obtain ⟨r,a1,c1,a2,c2,a3,c3,rfl,t,u,v,z⟩:=IF K T g j n y q;refine ⟨r,λb o A=>?_,z⟩;obtain ⟨k,rfl⟩:∃k,ae=k+1:=⟨ae-1,Z⟩;exact ⟨a1,c1,a2,c2,a3,c3,A,t.imp λb o y f=>qU (bK.refl _) Z b o y f,u.imp λb o y f=>nw (bK.refl _) Z Z b o y f,v.imp λb o y f=>nw (bK.refl _) Z Z b o y f⟩
def D2 (T:r2 P tE tS tD tP tM cY m1 p6 nz l1 e s d p m tI tB tT) (f:∀b,spare b=true)   {x:DataW H×List MemPlace} (h:DataW.trod enc P w base spare held ae l1 [aW]=some x):∃(a:Option Addr) (c:Nat) (l:List (List UInt8)),aW = .slice a l.length c/\Sl rdStr 1 (hv w) a c l/\wN l<=K.B x.1:=by
 refine p5 (rd:=rdStr) K (λs=>1+s.length) wN O (λ_ _=>rfl) T.IL T.cT Z f (λn g y q i j=>?_) h
 match g,j with
 | [u],_=>
   obtain ⟨l,rfl,r⟩:=qW K T.uT i;exact ⟨l,λb o k=>k,Z⟩
def IG (T:r2 P tE tS tD tP tM cY m1 p6 nz l1 e s d p m tI tB tT)   {x:DataW H×List MemPlace} (h:DataW.trod enc P w base spare held ae tD ci=some x):∃y:de,ci=y.cells/\1+y.nm.length<=K.B x.1:=by
 obtain ⟨z,ys,n,V,A,C,a⟩:=h0 T.uD T.rD h;have b:=ot T.fD;simp at b;obtain ⟨D,E,F⟩:=hJ T.fD (j:=0) rfl;obtain ⟨G,I,J⟩:=hJ T.fD (j:=1) rfl;obtain ⟨L,M,N⟩:=hJ T.fD (j:=2) rfl;obtain ⟨O,Q,R⟩:=hJ T.fD (j:=3) rfl;obtain ⟨v0,W,c,f,g⟩:=a 0 D E;obtain ⟨v1,X,i,k,l⟩:=a 1 G I;obtain ⟨Y,Z,o,q,r⟩:=a 2 L M;obtain ⟨aa,ab,t,u,v⟩:=a 3 O Q;rw [F] at g; rw [J] at l; rw [N] at r; rw [R] at v;obtain ⟨kd,rfl⟩:=r1 T.uI g;obtain ⟨nm,rfl,ac⟩:=qW K T.uT l;obtain ⟨S,rfl⟩:=IE T.uB r;obtain ⟨U,rfl⟩:=r1 T.uI v;refine ⟨⟨kd,nm,S,U⟩,?_,?_⟩
 · match ci,z.trans b with
   | [c0,c1,c2,c3],_=>
     simp at c i o t;subst c i o t
     rfl
 · match ys,C.trans b with
   | [d0,d1,d2,d3],_=>
     simp at f k q u;subst f k q u;rw [A];simp only [jn,qA,K.agg,K.cons,K.nil];omega
def P3 (T:r2 P tE tS tD tP tM cY m1 p6 nz l1 e s d p m tI tB tT) (c:∀b,spare b=true)   {x:DataW H×List MemPlace} (h:DataW.trod enc P w base spare held ae tP ci=some x):∃(y:eI) (a1:Option Addr) (c1:Nat) (a2:Option Addr) (c2:Nat) (a3:Option Addr) (c3:Nat),ci=wi y a1 c1 a2 c2 a3 c3/\Sl rdStr 1 (hv w) a1 c1 y.params/\Sl rdStr 1 (hv w) a2 c2 y.aH/\Sl (e5 ae ae) 6 (hv w) a3 c3 y.body/\1+y.nm.length+wN y.params+wN y.aH+dP y.body<=K.B x.1:=by
 obtain ⟨G,ys,n,ak,I,J,a⟩:=h0 T.uP T.rP h;have f:=ot T.fP;simp at f;obtain ⟨L,M,N⟩:=hJ T.fP (j:=0) rfl;obtain ⟨O,Q,R⟩:=hJ T.fP (j:=1) rfl;obtain ⟨S,U,V⟩:=hJ T.fP (j:=2) rfl;obtain ⟨W,X,Y⟩:=hJ T.fP (j:=3) rfl;obtain ⟨aa,ab,ac⟩:=hJ T.fP (j:=4) rfl;obtain ⟨v0,al,g,i,k⟩:=a 0 L M;obtain ⟨v1,am,l,q,r⟩:=a 1 O Q;obtain ⟨an,ao,t,u,v⟩:=a 2 S U;obtain ⟨ap,aq,z,A,C⟩:=a 3 W X;obtain ⟨ar,au,D,E,F⟩:=a 4 aa ab;rw [N] at k; rw [R] at r; rw [V] at v; rw [Y] at C; rw [ac] at F;obtain ⟨nm,rfl,av⟩:=qW K T.uT k;obtain ⟨ad,rfl⟩:=IE T.uB r;obtain ⟨a1,c1,ps,rfl,af,aw⟩:=D2 K T c v;obtain ⟨a2,c2,ag,rfl,ah,ax⟩:=D2 K T c C;obtain ⟨a3,c3,bd,rfl,ai,ay⟩:=IN K T c F;refine ⟨⟨nm,ad,ps,ag,bd⟩,a1,c1,a2,c2,a3,c3,?_,af,ah,ai.imp λb o y aj=>nw (bK.refl _) Z Z b o y aj,?_⟩
 · match ci,G.trans f with
   | [c0,c1,c2,c3,c4],_=>
     simp at g l t z D;subst g l t z D
     rfl
 · match ys,J.trans f with
   | [d0,d1,d2,d3,d4],_=>
     simp at i q u A E;subst i q u A E;rw [I];simp only [jn,qA,K.agg,K.cons,K.nil];omega
def P4 (T:r2 P tE tS tD tP tM cY m1 p6 nz l1 e s d p m tI tB tT) (a:∀b,spare b=true)   {x:DataW H×List MemPlace} (h:DataW.trod enc P w base spare held ae tM ci=some x):∃(y:cm) (r:iB),ci=fi y r/\jb ae ae (hv w) r y/\wM y<=K.B x.1:=by
 obtain ⟨V,ys,n,aw,W,X,c⟩:=h0 T.uM T.rM h;have f:=ot T.fM;simp at f;have z:=ot T.fD;simp at z;have A:=ot T.fP;simp at A;obtain ⟨Y,aa,ab⟩:=hJ T.fM (j:=0) rfl;obtain ⟨ac,ad,af⟩:=hJ T.fM (j:=1) rfl;obtain ⟨ag,ah,ai⟩:=hJ T.fM (j:=2) rfl;obtain ⟨aj,ak,al⟩:=hJ T.fM (j:=3) rfl;obtain ⟨am,an,ao⟩:=hJ T.fM (j:=4) rfl;obtain ⟨v0,ax,C,D,E⟩:=c 0 Y aa;obtain ⟨v1,ay,F,G,I⟩:=c 1 ac ad;obtain ⟨az,aA,J,L,M⟩:=c 2 ag ah;obtain ⟨aB,aC,N,O,Q⟩:=c 3 aj ak;obtain ⟨aD,aE,R,S,U⟩:=c 4 am an;rw [ab] at E; rw [af] at I; rw [ai] at M; rw [al] at Q; rw [ao] at U;obtain ⟨nm,rfl,aF⟩:=qW K T.uT E;obtain ⟨a1,c1,us,rfl,g,aG⟩:=D2 K T a I
 obtain ⟨a2,c2,ds,rfl,i,aI⟩:=p5 (rd:=s_) K (λd=>1+d.nm.length) wD rfl (λ_ _=>rfl) T.PY ((r3 T.rD).trans z) Z a (λap aq y ar k _=>by
   obtain ⟨l,rfl,q⟩:=IG K T k
   exact ⟨l,λb o t=>t,q⟩) M
 obtain ⟨a3,c3,ps,rfl,u,aJ⟩:=p5 (rd:=yq ae ae) K (λp=>1+p.nm.length+wN p.params+wN p.aH+dP p.body) wP rfl (λ_ _=>rfl) T.IK ((r3 T.rP).trans A) Z a (λap aq y ar k _=>by
   obtain ⟨l,a1,c1,a2,c2,a3,c3,rfl,g,i,u,q⟩:=P3 K T a k
   exact ⟨l,λb o t=>⟨a1,c1,a2,c2,a3,c3,t,g,i,u.imp λb o y v=>nw (bK.refl _) Z Z b o y v⟩,q⟩) Q
 obtain ⟨a4,c4,au,rfl,av,aK⟩:=IN K T a U;refine ⟨⟨nm,us,ds,ps,au⟩,⟨a1,c1,a2,c2,a3,c3,a4,c4⟩,?_,⟨g,i,u,av.imp λb o y v=>nw (bK.refl _) Z Z b o y v⟩,?_⟩
 · match ci,V.trans f with
   | [c0,c1,c2,c3,c4],_=>
     simp at C F J N R;subst C F J N R
     rfl
 · match ys,X.trans f with
   | [d0,d1,d2,d3,d4],_=>
     simp at D G L O S;subst D G L O S;rw [W];simp only [jn,qA,K.agg,K.cons,K.nil,wM];omega
def P5 (T:r2 P tE tS tD tP tM cY m1 p6 nz l1 e s d p m tI tB tT) (a:∀b,spare b=true) {r:Reach}   {x:DataW H} {pl:List MemPlace} (c:Value.okWide P w r ae tM aW) (h:DataW.Trod enc P w base spare held tM aW x pl) :
   ∃(y:cm) (q:iB) (n:Nat),aW = .agg (fi y q).toArray/\jb n n (hv w) q y/\wM y<=K.B x:=by
 obtain ⟨cs,rfl,_⟩:=OQ T.uM c;obtain ⟨fuel,h⟩:=h;obtain ⟨y,q,f,g,i⟩:=P4 K T a h;refine ⟨y,q,fuel,?_,g,i⟩;have j:cs.toList=fi y q:=f;rw [<-j]
end
end Go.Bw
end
section
namespace Go.Bw
open Go
structure bW where
 kind:Int
 n:Int
 pl:Int
 name:List UInt8
deriving DecidableEq
def bW.cells (x:bW):List Value:=[.int .i64 x.kind,.int .i64 x.n,.int .i64 x.pl,st x.name]
def bW.dk (x:bW):x.cells.length=4:=rfl
def bW.one (x:bW):x.cells.all (·.oneCell')=true:=rfl
def hK (H:View) (b o:Nat) (x:bW):Prop:=cw H b o x.cells
variable {bc b_:View}
def IP (h:bK bc b_) (b o:Nat) (x:bW) (r:hK bc b o x):hK b_ b o x:=cw.mono h r
def k6 (x:bW):Bool:=!((((((((!(gc x.name)||!(dd x.kind 1 4))||!(dd x.n 0 1099511627775))||!(dd x.pl 0 320))||(x.kind==1&&x.pl != 0))||(x.kind==2&&x.n != 0))||(x.kind==3&&!(dd x.n 1 32)))||(x.kind==4&&decide (3<x.n))))
variable {ay:bW}
def AQ {lo hi a:Int} (h:(ay.kind=1/\lo=0/\hi=1099511627775/\a=0)\/(ay.kind=2/\lo=0/\hi=0/\a=320)\/(ay.kind=3/\lo=1/\hi=32/\a=320)\/(ay.kind=4/\lo=0/\hi=3/\a=320)) :
   ((((gc ay.name&&decide (lo<=ay.n))&&decide (ay.n<=hi))&&decide (0<=ay.pl))&&decide (ay.pl<=a))=k6 ay:=by
 unfold k6
 generalize gc ay.name=b
 rw [j9];cases b
 · simp
 · rcases h with ⟨h,rfl,rfl,rfl⟩ | ⟨h,rfl,rfl,rfl⟩ | ⟨h,rfl,rfl,rfl⟩ | ⟨h,rfl,rfl,rfl⟩<;>simp [dd,h]<;>omega
def P6 (a:ay.kind≠1) (b:ay.kind≠2) (c:ay.kind≠3) (d:ay.kind≠4):k6 ay=false:=by
 unfold k6
 have:dd ay.kind 1 4=false:=by simp [dd]; omega
 simp [this]
def e1 (l:List (List UInt8)):Bool:=(List.range l.length).any λi=>(List.range i).any λj=>l[i]?.getD []==l[j]?.getD []
variable {dE:List (List UInt8)}
def P7 (h:∀i,i<dE.length->∀j,j<i->(dE[i]?.getD []==dE[j]?.getD [])=false):e1 dE=false:=by
 unfold e1;rw [vO];intro i hi;simp only [ey,not_exists,not_and];intro j a;have:=h i (by simpa using hi) j (by simpa using a);simp [this]
variable {ae aB:Nat}
def IQ (hi:ae<dE.length) (a:aB<ae) (h:(dE[ae]?.getD []==dE[aB]?.getD [])=true):e1 dE=true:=by
 unfold e1;exact ey.2 ⟨ae,by simpa using hi,ey.2 ⟨aB,by simpa using a,h⟩⟩
def D3:e1 dE=true↔∃i j,i<dE.length/\j<i/\dE[i]? = dE[j]?:=by
 constructor
 · intro h
   unfold e1 at h;obtain ⟨i,hi,h⟩:=ey.1 h;obtain ⟨j,a,h⟩:=ey.1 h
   have hi:i<dE.length:=by simpa using hi
   have a:j<i:=by simpa using a
   refine ⟨i,j,hi,a,?_⟩;rw [dM hi,dM Z] at h ⊢
   simpa using h
 · rintro ⟨i,j,hi,a,h⟩
   exact IQ hi a (by rw [h]; simp)
def ly:dE.Nodup↔e1 dE=false:=by
 constructor
 · intro h
   rw [vP];intro b;obtain ⟨i,j,hi,a,e⟩:=D3.1 b;have:=(uc hi h).1 e;omega
 · intro h
   show List.Pairwise _ dE
   rw [CN];intro i j hi a c e;have:=D3.2 ⟨j,i,a,c,by rw [dM hi,dM a,e]⟩;rw [h] at this; cases this
def h6 (name:List UInt8) (a:List bW):Int:=
 if 16<a.length then 2 else if (a.all k6&&(!(e1 (a.map (·.name))||!(gc name))))=true then 0 else 1
variable {aO:List bW}
def AR (h:∀(j:Nat) (x:bW),aO[j]? = some x->k6 x=true):aO.all k6=true:=by
 rw [hS];intro x a;obtain ⟨j,b⟩:=ln a;exact h j x b
def IR (a:aO[ae]? = some ay) (h:k6 ay=false):aO.all k6=false:=by
 rw [CO];exact ⟨ay,gu a,by simp [h]⟩
def bw (at_:Int) (d:de):bW:=⟨d.kind,d.n,if d.kind=1 then 0 else at_,d.nm⟩
def iZ (d:de):Int:=if d.kind=2 then 1 else if d.kind=3 then d.n else 0
def eU:List de->Int
 | []=>0
 | d::r=>iZ d+eU r
def gX:List de->Int->List bW
 | [],_=>[]
 | d::r,a=>bw a d::gX r (a+iZ d)
def tc (i:Nat) (p:eI):bW:=⟨4,(p.params.length:Int),(i:Int),p.nm⟩
def i0:List eI->Nat->List bW
 | [],_=>[]
 | p::r,i=>tc i p::i0 r (i+1)
def D4:∀(l:List de) (d:de),eU (l++[d])=eU l+iZ d
 | [],d=>by simp [eU]
 | x::l,d=>by simp only [bt,eU,D4 l d]; omega
def D5:∀(l:List de) (d:de) (a:Int),gX (l++[d]) a=gX l a++[bw (a+eU l) d]
 | [],d,a=>by simp [gX,eU]
 | x::l,d,a=>by
   simp only [bt,gX,D5 l d,eU];rw [show a+iZ x+eU l=a+(iZ x+eU l) by omega]
def D6:∀(l:List eI) (p:eI) (i:Nat),i0 (l++[p]) i=i0 l i++[tc (i+l.length) p]
 | [],p,i=>by simp [i0]
 | x::l,p,i=>by
   simp only [bt,i0,D6 l p,b5];rw [show i+1+l.length=i+(l.length+1) by omega]
def wr:∀(l:List de) (a:Int),(gX l a).length=l.length
 | [],_=>rfl
 | x::l,a=>by simp [gX,wr l]
def AS:∀(l:List eI) (i:Nat),(i0 l i).length=l.length
 | [],_=>rfl
 | x::l,i=>by simp [i0,AS l]
def dG (m:cm):List bW:=gX m.decls 0++i0 m.procs 0
def kF (m:cm):Int:=eU m.decls
def k7 (m:cm):List Bool:=m.decls.map (·.ao)++m.procs.map (·.ao)
def uH (m:cm):(dG m).length=m.decls.length+m.procs.length:=by simp [dG,wr,AS]
def wu (m:cm):(k7 m).length=m.decls.length+m.procs.length:=by simp [k7]
def jv:List bW->List Bool->List bW
 | x::l,p::ps=>(if p=true then [x] else [])++jv l ps
 | _,_=>[]
def IS:∀{l:List bW} {ps:List Bool} {x:bW} {p:Bool},l.length=ps.length->jv (l++[x]) (ps++[p])=jv l ps++(if p=true then [x] else [])
 | [],[],x,p,_=>by simp [jv]
 | y::l,q::ps,x,p,h=>by simp only [bt,jv,IS (l:=l) (ps:=ps) (by simpa using h),n5]
 | [],q::ps,x,p,h=>by simp at h
 | y::l,[],x,p,h=>by simp at h
def P8 {ps:List Bool}   {p:Bool} (c:aO.length=ps.length) (a:aO[ae]? = some ay) (b:ps[ae]? = some p):jv (aO.take (ae+1)) (ps.take (ae+1))=jv (aO.take ae) (ps.take ae)++(if p=true then [ay] else []):=by
 rw [kV,kV,a,b];exact IS (by simp; omega)
def D7:∀(l:List bW) (ps:List Bool),(jv l ps).length<=l.length
 | [],_=>by simp [jv]
 | x::l,[]=>by simp [jv]
 | x::l,p::ps=>by
   have:=D7 l ps;simp only [jv,bT,b5]
   split<;>simp<;>omega
def en (m:cm):(List UInt8×List bW)×Int:=
 if iA m≠0 then (([],[]),iA m) else if (e1 ((dG m).map (·.name))||e1 m.aP)=true then (([],[]),6) else ((m.nm,jv (dG m) (k7 m)),0)
inductive gH where
 | mk (op n m pl:Int) (args:List gH)
inductive fp where
 | mk (op n m pl:Int) (args:List gH) (body other:List fp)
def gH.op:gH->Int | .mk o _ _ _ _=>o
def gH.n:gH->Int | .mk _ n _ _ _=>n
def gH.m:gH->Int | .mk _ _ m _ _=>m
def gH.pl:gH->Int | .mk _ _ _ p _=>p
def gH.args:gH->List gH | .mk _ _ _ _ a=>a
def fp.op:fp->Int | .mk o _ _ _ _ _ _=>o
def fp.n:fp->Int | .mk _ n _ _ _ _ _=>n
def fp.m:fp->Int | .mk _ _ m _ _ _ _=>m
def fp.pl:fp->Int | .mk _ _ _ p _ _ _=>p
def fp.args:fp->List gH | .mk _ _ _ _ a _ _=>a
def fp.body:fp->List fp | .mk _ _ _ _ _ b _=>b
def fp.other:fp->List fp | .mk _ _ _ _ _ _ o=>o
structure ou where
 params:Int
 locals:Int
 body:List fp
structure e2 where
 nm:List UInt8
 aP:List (List UInt8)
 data:Int
 parts:List ou
 main:List fp
def bm:e2:=⟨[],[],0,[],[]⟩
def wv (e:gH) (a:Option Addr) (c:Nat):List Value:=[.int .i64 e.op,.int .i64 e.n,.int .i64 e.m,.int .i64 e.pl,.slice a e.args.length c]
def k8:Nat->View->Nat->Nat->gH->Prop
 | 0=>λ_ _ _ _=>False
 | k+1=>λH b o e=>∃a c,cw H b o (wv e a c)/\Sl (k8 k) 5 H a c e.args
structure td where
 s1:Option Addr×Nat
 s2:Option Addr×Nat
 s3:Option Addr×Nat
def ie (s:fp) (r:td):List Value:=[.int .i64 s.op,.int .i64 s.n,.int .i64 s.m,.int .i64 s.pl,.slice r.s1.1 s.args.length r.s1.2,.slice r.s2.1 s.body.length r.s2.2,.slice r.s3.1 s.other.length r.s3.2]
def h7 (ke:Nat):Nat->View->Nat->Nat->fp->Prop
 | 0=>λ_ _ _ _=>False
 | k+1=>λH b o s=>∃r:td,cw H b o (ie s r)/\Sl (k8 ke) 5 H r.s1.1 r.s1.2 s.args/\Sl (h7 ke k) 7 H r.s2.1 r.s2.2 s.body/\Sl (h7 ke k) 7 H r.s3.1 r.s3.2 s.other
def IT (p:ou) (r:Option Addr×Nat):List Value:=[.int .i64 p.params,.int .i64 p.locals,.slice r.1 p.body.length r.2]
def ww (ke ks:Nat) (H:View) (b o:Nat) (p:ou):Prop:=∃r:Option Addr×Nat,cw H b o (IT p r)/\Sl (h7 ke ks) 7 H r.1 r.2 p.body
structure kf where
 s1:Option Addr×Nat
 s2:Option Addr×Nat
 s3:Option Addr×Nat
def eV (u:e2) (r:kf):List Value:=[st u.nm,.slice r.s1.1 u.aP.length r.s1.2,.int .i64 u.data,.slice r.s2.1 u.parts.length r.s2.2,.slice r.s3.1 u.main.length r.s3.2]
structure kG (ke ks:Nat) (H:View) (r:kf) (u:e2):Prop where
 aP:Sl rdStr 1 H r.s1.1 r.s1.2 u.aP
 parts:Sl (ww ke ks) 3 H r.s2.1 r.s2.2 u.parts
 main:Sl (h7 ke ks) 7 H r.s3.1 r.s3.2 u.main
def ge:kf:=⟨(none,0),(none,0),(none,0)⟩
def b3 (H:View):kG ae aB H ge bm:=⟨Sl.nil,Sl.nil,Sl.nil⟩
def D8 (f:bK bc b_):∀{k d:Nat},k<=d->∀(b o:Nat) (e:gH),k8 k bc b o e->k8 d b_ b o e
 | 0,_,_,_,_,_,h=>h.elim
 | k+1,0,g,_,_,_,_=>absurd g Z
 | k+1,d+1,g,b,o,e,h=>by
   obtain ⟨a,c,i,j⟩:=h;exact ⟨a,c,cw.mono f i,j.imp λb o x l=>D8 f Z b o x l⟩
def AT (c:bK bc b_)  (d:ae<=aB):∀{k f:Nat},k<=f->∀(b o:Nat) (e:fp),h7 ae k bc b o e->h7 aB f b_ b o e
 | 0,_,_,_,_,_,h=>h.elim
 | k+1,0,g,_,_,_,_=>absurd g Z
 | k+1,f+1,g,b,o,e,h=>by
   obtain ⟨r,i,j,l,m⟩:=h;exact ⟨r,cw.mono c i,j.imp λb o x a=>D8 c d b o x a,l.imp λb o x a=>AT c d Z b o x a,m.imp λb o x a=>AT c d Z b o x a⟩
def P9 (a:bK bc b_) {ke c ks d:Nat} (e:ke<=c) (f:ks<=d) (b o:Nat) (p:ou) (h:ww ke ks bc b o p):ww c d b_ b o p:=by
 obtain ⟨r,g,i⟩:=h;exact ⟨r,cw.mono a g,i.imp λb o x j=>AT a e f b o x j⟩
variable {cj:Option Addr}
def wx {l:List gH} (h:Sl (k8 ae) 5 bc cj aB l) (hv:bK bc b_):Sl (k8 ae) 5 b_ cj aB l:=h.imp λb o x a=>D8 hv (eH _) b o x a
variable {cp:Nat}
def p7 {l:List fp} (h:Sl (h7 ae aB) 7 bc cj cp l) (hv:bK bc b_):Sl (h7 ae aB) 7 b_ cj cp l:=h.imp λb o x a=>AT hv (eH _) (eH _) b o x a
def P' {l:List ou} (h:Sl (ww ae aB) 3 bc cj cp l) (hv:bK bc b_):Sl (ww ae aB) 3 b_ cj cp l:=h.imp λb o x a=>P9 hv (eH _) (eH _) b o x a
def kG.mv {r:kf} {u:e2} (h:kG ae aB bc r u) (hv:bK bc b_):kG ae aB b_ r u:=⟨h.aP.imp λb o x a=>s' hv b o x a,P' h.parts hv,p7 h.main hv⟩
def Xs {a:Type} (R:View->a->Prop) (J:View) (es:List a):Prop:=∀e ∈ es,R J e
variable {a9:Type}
def Xs.nil {R:View->a9->Prop} (J:View):Xs R J []:=by intro e h; simp at h
def Xs.mono {R:View->a9->Prop} (b:∀{a B:View} {x:a9},bK a B->R a x->R B x)  {es:List a9} (h:Xs R bc es) (hv:bK bc b_):Xs R b_ es:=λe c=>b hv (h e c)
variable {fW:View}
def Xs.snoc {R:View->a9->Prop} (b:∀{c B:View} {x:a9},bK c B->R c x->R B x)  {es:List a9} {e:a9} (h:Xs R bc es) (d:bK bc fW) (f:bK b_ fW) (g:R b_ e):Xs R fW (es++[e]):=by
 intro x a
 rcases fB.1 a with a | a
 · exact b d (h x a)
 · rw [fH] at a
   subst a;exact b f g
def uJ {a T:Type} {t:a->T} {c:View->Nat->Nat->a->Prop} {rd:View->Nat->Nat->T->Prop} {R:View->a->Prop}     {es:List a} (h:Sl c ae bc cj aB es) (g:Xs R b_ es)
   (j:∀b o e,c bc b o e->R b_ e->rd fW b o (t e)):Sl rd ae fW cj aB (es.map t):=by
 refine ⟨by simpa using h.cap,h.max,h.spot,λi x d=>?_⟩;rw [gS] at d;obtain ⟨e,f,rfl⟩:=dX.1 d;obtain ⟨b,o,k,l⟩:=h.aq i e f;exact ⟨b,o,k,j b _ e l (g e (gu f))⟩
abbrev XN:=gH×Option Addr×Nat
def XN.cells (e:XN):List Value:=wv e.1 e.2.1 e.2.2
def XN.dk (e:XN):(XN.cells e).length=5:=rfl
def XN.one (e:XN):(XN.cells e).all (·.oneCell')=true:=rfl
def D9 (H:View) (b o:Nat) (e:XN):Prop:=cw H b o (XN.cells e)
def m2 (k:Nat) (J:View) (e:XN):Prop:=Sl (k8 k) 5 J e.2.1 e.2.2 e.1.args
def m2.mv {e:XN} (hv:bK bc b_) (h:m2 ae bc e):m2 ae b_ e:=wx h hv
def IU {es:List XN} (h:Sl D9 5 bc cj aB es) (hv:bK bc fW) (a:bK b_ fW) (c:Xs (m2 ae) b_ es):Sl (k8 (ae+1)) 5 fW cj aB (es.map (·.1)):=
 uJ h c λb o e d f=>⟨e.2.1,e.2.2,cw.mono hv d,m2.mv a f⟩
abbrev XA:=fp×td
def XA.cells (e:XA):List Value:=ie e.1 e.2
def XA.dk (e:XA):(XA.cells e).length=7:=rfl
def XA.one (e:XA):(XA.cells e).all (·.oneCell')=true:=rfl
def wy (H:View) (b o:Nat) (e:XA):Prop:=cw H b o (XA.cells e)
structure jd (ke k:Nat) (N:View) (e:XA):Prop where
 args:Sl (k8 ke) 5 N e.2.s1.1 e.2.s1.2 e.1.args
 body:Sl (h7 ke k) 7 N e.2.s2.1 e.2.s2.2 e.1.body
 other:Sl (h7 ke k) 7 N e.2.s3.1 e.2.s3.2 e.1.other
def jd.mv {e:XA} (hv:bK bc b_) (h:jd ae aB bc e):jd ae aB b_ e:=⟨wx h.args hv,p7 h.body hv,p7 h.other hv⟩
def D' {es:List XA} (h:Sl wy 7 bc cj cp es) (hv:bK bc fW) (a:bK b_ fW) (d:Xs (jd ae aB) b_ es):Sl (h7 ae (aB+1)) 7 fW cj cp (es.map (·.1)):=
 uJ h d λb o e f c=>⟨e.2,cw.mono hv f,(jd.mv a c).args,(jd.mv a c).body,(jd.mv a c).other⟩
abbrev XP:=ou×Option Addr×Nat
def XP.cells (e:XP):List Value:=IT e.1 e.2
def XP.dk (e:XP):(XP.cells e).length=3:=rfl
def XP.one (e:XP):(XP.cells e).all (·.oneCell')=true:=rfl
def AU (H:View) (b o:Nat) (e:XP):Prop:=cw H b o (XP.cells e)
def nA (ke k:Nat) (J:View) (e:XP):Prop:=Sl (h7 ke k) 7 J e.2.1 e.2.2 e.1.body
def nA.mv {e:XP} (hv:bK bc b_) (h:nA ae aB bc e):nA ae aB b_ e:=p7 h hv
def D_ {es:List XP} (h:Sl AU 3 bc cj cp es) (hv:bK bc fW) (a:bK b_ fW) (c:Xs (nA ae aB) b_ es):Sl (ww ae aB) 3 fW cj cp (es.map (·.1)):=
 uJ h c λb o e d f=>⟨e.2,cw.mono hv d,nA.mv a f⟩
open Go.ChangeShapes Go.WideShapes Go.ChangeAt Go.RowKit Go.Joins Go.Deep
structure wz (P:Program) (tI tT tX r4 tF qZ:TypeId) (x f:Array Field):Prop where
 uI:P.underlying tI=some (.int .i64)
 uT:P.underlying tT=some .string
 uX:P.underlying tX=some (.struct x)
 rX:(lX P 0 x.toList&&Nat.beq (P.cellsOf tX) x.size)=true
 fX:x.map (·.type) = #[tI,tI,tI,tT]
 Qa:P.underlying r4=some (.slice tX)
 uF:P.underlying tF=some (.struct f)
 rF:(lX P 0 f.toList&&Nat.beq (P.cellsOf tF) f.size)=true
 fF:f.map (·.type) = #[tT,r4]
 IX:P.underlying qZ=some (.slice tF)
def qX (H:View) (b o:Nat) (f:List UInt8×List bW):Prop:=∃(a:Option Addr) (c:Nat),cw H b o [st f.1,.slice a f.2.length c]/\Sl hK 4 H a c f.2
section
variable {P:Program} {H:Type} {enc:TypeId×Value->H} {w:World} {base:Nat} {spare:Nat->Bool} {held:Bool} {tI tT tX r4 tF qZ:TypeId} {xs f:Array Field}
variable {ci:List Value}
def Qc (o:qV H) (T:wz P tI tT tX r4 tF qZ xs f)   {x:DataW H×List MemPlace} (h:DataW.trod enc P w base spare held ae tX ci=some x):∃y:bW,ci=y.cells:=by
 obtain ⟨p,ys,n,G,I,J,a⟩:=h0 T.uX T.rX h;have b:=ot T.fX;simp at b;obtain ⟨q,r,s⟩:=hJ T.fX (j:=0) rfl;obtain ⟨t,u,v⟩:=hJ T.fX (j:=1) rfl;obtain ⟨z,A,B⟩:=hJ T.fX (j:=2) rfl;obtain ⟨C,D,E⟩:=hJ T.fX (j:=3) rfl;obtain ⟨v0,K,c,L,d⟩:=a 0 q r;obtain ⟨v1,M,e,N,g⟩:=a 1 t u;obtain ⟨O,Q,i,R,k⟩:=a 2 z A;obtain ⟨S,U,l,V,m⟩:=a 3 C D;rw [s] at d; rw [v] at g; rw [B] at k; rw [E] at m;obtain ⟨kd,rfl⟩:=r1 T.uI d;obtain ⟨F,rfl⟩:=r1 T.uI g;obtain ⟨pl,rfl⟩:=r1 T.uI k;obtain ⟨nm,rfl,_⟩:=qW o T.uT m;refine ⟨⟨kd,F,pl,nm⟩,?_⟩
 match ci,p.trans b with
 | [c0,c1,c2,c3],_=>
   simp at c e i l;subst c e i l
   rfl
variable {aW:Value}
def Qd (d:qV H) (T:wz P tI tT tX r4 tF qZ xs f) (g:∀b,spare b=true)   {x:DataW H×List MemPlace} (h:DataW.trod enc P w base spare held ae r4 [aW]=some x):∃(a:Option Addr) (c:Nat) (l:List bW),aW = .slice a l.length c/\Sl hK 4 (hv w) a c l:=by
 have e:=ot T.fX;simp at e
 obtain ⟨a,c,l,i,j,_⟩:=p5 (rd:=hK) d (λ_=>0) (λ_=>0) rfl (λ_ _=>rfl) T.Qa ((r3 T.rX).trans e) Z g (λp q y r k _=>by
   obtain ⟨m,rfl⟩:=Qc d T k
   exact ⟨m,λb o n=>n,cx _⟩) h
 exact ⟨a,c,l,i,j⟩
def Qe (d:qV H) (T:wz P tI tT tX r4 tF qZ xs f) (p:∀b,spare b=true)   {x:DataW H×List MemPlace} (h:DataW.trod enc P w base spare held ae tF ci=some x):∃(y:List UInt8×List bW) (a:Option Addr) (c:Nat),ci=[st y.1,.slice a y.2.length c]/\Sl hK 4 (hv w) a c y.2:=by
 obtain ⟨q,ys,n,B,C,D,e⟩:=h0 T.uF T.rF h;have g:=ot T.fF;simp at g;obtain ⟨r,s,t⟩:=hJ T.fF (j:=0) rfl;obtain ⟨u,v,z⟩:=hJ T.fF (j:=1) rfl;obtain ⟨v0,E,i,F,k⟩:=e 0 r s;obtain ⟨v1,G,m,I,o⟩:=e 1 u v;rw [t] at k; rw [z] at o;obtain ⟨nm,rfl,_⟩:=qW d T.uT k;obtain ⟨a,c,l,rfl,A⟩:=Qd d T p o;refine ⟨(nm,l),a,c,?_,A⟩
 match ci,q.trans g with
 | [c0,c1],_=>
   simp at i m;subst i m
   rfl
def Qf (d:qV H) (T:wz P tI tT tX r4 tF qZ xs f) (e:∀b,spare b=true)   {x:DataW H×List MemPlace} (h:DataW.trod enc P w base spare held ae qZ [aW]=some x):∃(a:Option Addr) (c:Nat) (l:List (List UInt8×List bW)),aW = .slice a l.length c/\Sl qX 2 (hv w) a c l:=by
 have g:=ot T.fF;simp at g
 obtain ⟨a,c,l,i,j,_⟩:=p5 (rd:=qX) d (λ_=>0) (λ_=>0) rfl (λ_ _=>rfl) T.IX ((r3 T.rF).trans g) Z e (λq r y s k _=>by
   obtain ⟨m,a,c,rfl,n⟩:=Qe d T e k
   exact ⟨m,λb o p=>⟨a,c,p,n⟩,cx _⟩) h
 exact ⟨a,c,l,i,j⟩
def Qg (d:qV H) (T:wz P tI tT tX r4 tF qZ xs f) (e:∀b,spare b=true) {r:_root_.Go.Reach}   {x:DataW H} {pl:List MemPlace} (g:Value.okWide P w r ae qZ aW) (h:DataW.Trod enc P w base spare held qZ aW x pl) :
   ∃(a:Option Addr) (c:Nat) (l:List (List UInt8×List bW)),aW = .slice a l.length c/\Sl qX 2 (hv w) a c l:=by
 obtain ⟨a,m,c,rfl⟩:=okWide_slice T.IX g;obtain ⟨fuel,h⟩:=h;exact Qf d T e h
end
section
variable {κ:Type} [BEq κ] [LawfulBEq κ] {kd:TypeDesc} {kv:κ->Value}
variable {P:Program} {l:List (Nat×Value)} {w0:World} {F:List Nat} {L:List ah} {Vs:List View} {ty:TypeId} {pos:String} {af:Array Edge} {g:Option (Nat×Bool)}
variable {iK:Option Tmp} {aU dt iJ:TypeId} {a_ bM:Operand} {aW:Value}
def IY {m:List (fu κ)} {k:κ}  (i:Nat)  (b:Vs[i]? = some bc) (c:p1 kd kv) (d:P.underlying aU=some (.map dt iJ)) (e:P.underlying dt=some kd) (f:zeroOf P iJ=some aW) (h:bu l a_=some (.map (some ae))) (j:bu l bM=some (kv k)) (n:bc ae=some (dy kv m aB)) :
   Yl P l (Ws w0 F L Vs) ⟨iK,.lookup aU a_ bM false,ty,pos,af,g⟩ (hY k m aW):=by
 intro p w a o;simp [execOp,a a_ _ h,a bM _ j,Av (P:=P) (k:=k) false c d e f (o.vs bc (dY b) ae _ n:w.heap[ae]? = some (dy kv m aB))]
def IZ {m:List (fu κ)} {k:κ}  (i:Nat)  (b:Vs[i]? = some bc) (c:p1 kd kv) (d:P.underlying aU=some (.map dt iJ)) (e:P.underlying dt=some kd) (f:zeroOf P iJ=some aW) (h:bu l a_=some (.map (some ae))) (j:bu l bM=some (kv k)) (n:bc ae=some (dy kv m aB)) :
   Yl P l (Ws w0 F L Vs) ⟨iK,.lookup aU a_ bM true,ty,pos,af,g⟩ (.tuple #[hY k m aW,.bool (p3 k m)]):=by
 intro p w a o;simp [execOp,a a_ _ h,a bM _ j,Av (P:=P) (k:=k) true c d e f (o.vs bc (dY b) ae _ n:w.heap[ae]? = some (dy kv m aB))]
end
variable {bF dJ:World} {cL:List ah} {dj:List View} {aD:Obj}
def Ws.Qh (h:Ws bF [] cL dj dJ) (i:Nat)   (hL:cL[i]? = some (aE ae aD)) (b:sR aD=true:=by rfl):nv bF dJ ae=some aD:=by
 have c:dJ.heap[ae]? = some aD:=h.kn _ (dY hL)
 have d:bF.heap.size<=ae:=by
   rcases h.own _ (dY hL) ae (by simp [aE]) with a | a
   · cases a
   · exact a
 exact ui.2 ⟨d,c,b⟩
section
variable {Q:Exit->Act->World->Prop} {n:Nat} {ds:List Deferred} {l:List (Nat×Value)} {w0:World} {F:List Nat} {L:List ah} {Vs:List View}
def WE.fg {e:Exit} {b:Nat} {a:Obj} (i:Nat) (d:Obj) (hL:L[i]? = some (aE b a)) (c:a=d) (h:WE Q e n ds l (Ws w0 F (L.set i (aE b d)) Vs)):WE Q e n ds l (Ws w0 F L Vs):=by
 subst c
 have:L.set i (aE b a)=L:=by
   obtain ⟨hi,c⟩:=cS.1 hL;rw [<-c];exact xZ hi
 rwa [this] at h
end
def Ws.nB {F:List Nat}   (h:Ws bF F cL dj dJ) (i:Nat)   (hL:cL[i]? = some (aE ae aD)):hv dJ ae=some aD:=h.kn _ (dY hL)
def AW {v:Value} (h:bc ae=some aD) (a:gE aD aB=some v):vc bc ae aB=some v:=by
 unfold vc;rw [h];exact a
section
variable {P:Program} {ops:Array Oper} {Q:Exit->Act->World->Prop} {n:Nat} {ds:List Deferred} {l:List (Nat×Value)} {w0:World} {F:List Nat} {L:List ah} {Vs:List View} {rest:List Oper} {d:Nat} {ty:TypeId} {pos:String} {af:Array Edge} {g:Option (Nat×Bool)}
variable {du:FuncId} {aR:Array Operand} {gU:Array TypeId} {ci:List Value}
def WL.lz {ι κ:Type}     (r:dI ops l g) (s:Nat.blt d n=true) (t:Enters P du) (f:g2 l aR.toList=some ci)
   (v:ι->Value) (R:ι->Prop) (o:κ->List PanicEntry) (p:κ->Prop)
   (hC:∀w,Ws w0 F L Vs w->Calls P du ci.toArray w λe w'=>(∃i,e = .returned (v i)/\Ext w w'/\R i)\/(∃j,e = .panicked (o j)/\Ext w w'/\p j))
   (u:∀j,p j->WE Q (.panic (o j)) n ds l (Ws w0 F L Vs))
   (x:∀i,R i->WL P ops Q n ds ((d,v i)::l) (Ws w0 F L Vs) rest) :
   WL P ops Q n ds l (Ws w0 F L Vs) (⟨some d,.call ⟨.value (.func du),aR,gU⟩,ty,pos,af,g⟩::rest):=
 WL.vY r s t f v (λi w'=>R i/\Ws w0 F L Vs w') (λc w'=>∃j,c=o j/\p j/\Ws w0 F L Vs w') (λw b=>(hC w b).mono λe w' h=>by
   rcases h with ⟨i,k,m,q⟩ | ⟨j,k,m,q⟩
   · exact .inl ⟨i,k,q,b.ext m⟩
   · exact .inr ⟨_,k,j,O,q,b.ext m⟩) (λi a w f b=>x i b.1 a w f b.2) (λc a w f b=>by
   obtain ⟨j,rfl,k,m⟩:=b
   exact u j k a w f m)
def WL.q0 {ι κ:Type}     (r:dI ops l g) (s:Nat.blt d n=true) (t:Enters P du) (f:g2 l aR.toList=some ci)
   (v:ι->Value) (R:View->ι->Prop) (o:κ->List PanicEntry) (p:κ->Prop)
   (hC:∀w,Ws w0 F L Vs w->Calls P du ci.toArray w λe w'=>(∃i,e = .returned (v i)/\Ext w w'/\R (nv w w') i)\/(∃j,e = .panicked (o j)/\Ext w w'/\p j))
   (u:∀j,p j->WE Q (.panic (o j)) n ds l (Ws w0 F L Vs))
   (x:∀H i,eD w0 H->R H i->WL P ops Q n ds ((d,v i)::l) (Ws w0 F L (H::Vs)) rest) :
   WL P ops Q n ds l (Ws w0 F L Vs) (⟨some d,.call ⟨.value (.func du),aR,gU⟩,ty,pos,af,g⟩::rest):=
 WL.vY (ι:=View×ι) r s t f (λi=>v i.2) (λi w'=>(eD w0 i.1/\R i.1 i.2)/\Ws w0 F L (i.1::Vs) w') (λc w'=>∃j,c=o j/\p j/\Ws w0 F L Vs w') (λw b=>(hC w b).mono λe w' h=>by
   rcases h with ⟨i,k,m,q⟩ | ⟨j,k,m,q⟩
   · exact .inl ⟨(nv w w',i),k,⟨(o1 w w').mono b.fr.size,q⟩,b.view m (x4 w w') (o1 w w')⟩
   · exact .inr ⟨_,k,j,O,q,b.ext m⟩) (λi a w f b=>x i.1 i.2 b.1.1 b.1.2 a w f b.2) (λc a w f b=>by
   obtain ⟨j,rfl,k,m⟩:=b
   exact u j k a w f m)
end
section
variable {P:Program} {l:List (Nat×Value)} {W:World->Prop} {ty:TypeId} {pos:String} {af:Array Edge} {g:Option (Nat×Bool)}
variable {iK:Option Tmp} {a_:Operand} {aU dt:TypeId} {aW:Value} {k5:Array Field}
def Qi (a:P.underlying aU=some (.struct k5)) (b:bu l a_=some (.iface aU aW)):Yl P l W ⟨iK,.typeAssert a_ dt aU true,ty,pos,af,g⟩ (.tuple #[aW,.bool true]):=by
 intro d w c _;simp [execOp,c a_ _ b,Instr.typeAssert,run_underlying a]
def Qj (a:P.underlying aU=some (.struct k5)) (b:zeroOf P aU=some aW) (c:bu l a_=some .nilIface):Yl P l W ⟨iK,.typeAssert a_ dt aU true,ty,pos,af,g⟩ (.tuple #[aW,.bool false]):=by
 intro e w d _;simp [execOp,d a_ _ c,Instr.typeAssert,run_underlying a,uk b]
end
def nC (b:Bool):List Value:=[.bool b]
def rdBool (H:View) (b o:Nat) (x:Bool):Prop:=cw H b o (nC x)
def I0 (b:Bool):(nC b).length=1:=rfl
end Go.Bw
end
section
namespace Go.Bw
open Go
structure gy where
 aH:List (List UInt8)
 own:List bW
 aP:List (List UInt8)
 p8:List (List bW)
def idxOf (nm:List UInt8):List (List UInt8)->Nat->Option Nat
 | [],_=>none
 | s::r,i=>if s=nm then some i else idxOf nm r (i+1)
def fO (nm:List UInt8):List bW->Option bW
 | []=>none
 | x::r=>if x.name=nm then some x else fO nm r
def iC (mod nm:List UInt8):List (List UInt8)->List (List bW)->Nat->Option (Int×bW)
 | u::us,f::fs,k=>if u=mod then (match fO nm f with | some x=>some (((k+1:Nat):Int),x) | none=>iC mod nm us fs (k+1)) else iC mod nm us fs (k+1)
 | _,_,_=>none
def AX (i:Nat):bW:=⟨0,0,(i:Int),[]⟩
def eo (σ:gy) (mod nm:List UInt8):Option (Int×bW):=
 if mod=[] then (match idxOf nm σ.aH 0 with
   | some i=>some (-1,AX i)
   | none=>(fO nm σ.own).map λx=>(0,x))
 else iC mod nm σ.aP σ.p8 0
def er (a b:Int):Int:=if a=0 then b else a
def lA (b:Int):er 0 b=b:=rfl
def jw (a:Int):er a 0=a:=by unfold er; split<;>simp_all
def fJ (a b c:Int):er (er a b) c=er a (er b c):=by unfold er; split<;>simp_all
variable {aL cg:Int}
def l2:er aL cg=0↔aL=0/\cg=0:=by unfold er; split<;>simp_all
def c7 (h:aL≠0):er aL cg=aL:=by unfold er; rw [av h]
structure RN where
 op:Int
 n:Int
 m:Int
 pl:Int
 e:Int
def b7 (σ:gy) (op n:Int) (mod nm:List UInt8) (len:Nat):RN:=
 if dd op 3 5=true then (match eo σ mod nm with
   | none=>⟨op,n,0,0,5⟩
   | some (m,it)=>
     if m = -1 then ⟨16,n,0,it.pl,if op=3 then 0 else 7⟩
     else if op=3/\it.kind=1 then ⟨1,it.n,0,0,0⟩
     else if op=3/\it.kind=2 then ⟨op,n,m,it.pl,0⟩
     else if op=4/\it.kind=3 then ⟨op,it.n,m,it.pl,0⟩
     else if op=5/\it.kind=4 then ⟨op,n,m,it.pl,if it.n=(len:Int) then 0 else 8⟩
     else ⟨op,n,0,0,7⟩)
 else ⟨op,n,0,0,0⟩
def ar (σ:gy) (op:Int) (mod nm:List UInt8) (len:Nat):RN:=
 if dd op 1 3=true then (match eo σ mod nm with
   | none=>⟨op,0,0,0,5⟩
   | some (m,it)=>
     if op=1/\(m = -1\/it.kind=2) then ⟨op,0,m,it.pl,0⟩
     else if m = -1 then ⟨op,0,0,0,7⟩
     else if op=2/\it.kind=3 then ⟨op,it.n,m,it.pl,0⟩
     else if op=3/\it.kind=4 then ⟨op,0,m,it.pl,if it.n=(len:Int) then 0 else 8⟩
     else ⟨op,0,0,0,7⟩)
 else ⟨op,0,0,0,0⟩
mutual
def jR (σ:gy):ak->gH
 | .mk op n mod nm args=>.mk (b7 σ op n mod nm args.length).op (b7 σ op n mod nm args.length).n (b7 σ op n mod nm args.length).m (b7 σ op n mod nm args.length).pl (be σ args)
def be (σ:gy):List ak->List gH
 | []=>[]
 | x::r=>jR σ x::be σ r
end
mutual
def h8 (σ:gy):ak->Int
 | .mk op n mod nm args=>er (b7 σ op n mod nm args.length).e (hM σ args)
def hM (σ:gy):List ak->Int
 | []=>0
 | x::r=>er (h8 σ x) (hM σ r)
end
mutual
def ik (σ:gy):bE->fp
 | .mk op mod nm args body other=>.mk (ar σ op mod nm args.length).op (ar σ op mod nm args.length).n (ar σ op mod nm args.length).m (ar σ op mod nm args.length).pl (be σ args) (dL σ body) (dL σ other)
def dL (σ:gy):List bE->List fp
 | []=>[]
 | x::r=>ik σ x::dL σ r
end
mutual
def gg (σ:gy):bE->Int
 | .mk op mod nm args body other=>er (ar σ op mod nm args.length).e (er (hM σ args) (er (dQ σ body) (dQ σ other)))
def dQ (σ:gy):List bE->Int
 | []=>0
 | x::r=>er (gg σ x) (dQ σ r)
end
def AY (σ:gy) (x:ak):jR σ x = .mk (b7 σ x.op x.n x.mod x.nm x.args.length).op (b7 σ x.op x.n x.mod x.nm x.args.length).n (b7 σ x.op x.n x.mod x.nm x.args.length).m (b7 σ x.op x.n x.mod x.nm x.args.length).pl (be σ x.args):=by
 cases x; rw [jR]; rfl
def r5 (σ:gy) (x:ak):h8 σ x=er (b7 σ x.op x.n x.mod x.nm x.args.length).e (hM σ x.args):=by cases x; rw [h8]; rfl
def AZ (σ:gy) (x:bE):ik σ x = .mk (ar σ x.op x.mod x.nm x.args.length).op (ar σ x.op x.mod x.nm x.args.length).n (ar σ x.op x.mod x.nm x.args.length).m (ar σ x.op x.mod x.nm x.args.length).pl (be σ x.args) (dL σ x.body) (dL σ x.other):=by
 cases x; rw [ik]; rfl
def p9 (σ:gy) (x:bE):gg σ x=er (ar σ x.op x.mod x.nm x.args.length).e (er (hM σ x.args) (er (dQ σ x.body) (dQ σ x.other))):=by cases x; rw [gg]; rfl
def uK (σ:gy):∀l,be σ l=l.map (jR σ)
 | []=>by rw [be]; rfl
 | x::r=>by rw [be,uK σ r]; rfl
def cZ (σ:gy):∀l,dL σ l=l.map (ik σ)
 | []=>by rw [dL]; rfl
 | x::r=>by rw [dL,cZ σ r]; rfl
def fb {α:Type} (f:α->Int):List α->Int
 | []=>0
 | x::r=>er (f x) (fb f r)
variable {a9:Type}
def qY (f:a9->Int):∀a b:List a9,fb f (a++b)=er (fb f a) (fb f b)
 | [],b=>rfl
 | x::a,b=>by simp only [bt,fb,qY f a b,fJ]
variable {ae:Nat}
def tf (f:a9->Int) {l:List a9}  {x:a9} (h:l[ae]? = some x):fb f (l.take (ae+1))=er (fb f (l.take ae)) (f x):=by
 rw [kV,h,qY]
 show er _ (er (f x) 0)=_
 rw [jw]
def uL (f:a9->Int) {l:List a9}  {x:a9} (h:l[ae]? = some x) (a:fb f (l.take ae)=0) (b:f x≠0):fb f l=f x:=by
 have e:l=l.take ae++l.drop ae:=(pR ae l).symm;rw [e,qY,a,lA]
 have c:l.drop ae=x::l.drop (ae+1):=by
   obtain ⟨d,g⟩:=cS.1 h;rw [CM d,g]
 rw [c,fb,c7 b]
def A0 (σ:gy):∀l,hM σ l=fb (h8 σ) l
 | []=>by rw [hM]; rfl
 | x::r=>by rw [hM,A0 σ r]; rfl
def wB (σ:gy):∀l,dQ σ l=fb (gg σ) l
 | []=>by rw [dQ]; rfl
 | x::r=>by rw [dQ,wB σ r]; rfl
def aQ (m:cm) (fs:List (List UInt8×List bW)) (aH:List (List UInt8)):gy:=⟨aH,dG m,m.aP,fs.map (·.2)⟩
def k9 (m:cm) (fs:List (List UInt8×List bW)) (p:eI):ou:=⟨(p.params.length:Int),(p.aH.length:Int),dL (aQ m fs (p.params++p.aH)) p.body⟩
def bj (m:cm) (fs:List (List UInt8×List bW)) (p:eI):Int:=er (if e1 (p.params++p.aH)=true then 6 else 0) (dQ (aQ m fs (p.params++p.aH)) p.body)
def ee (m:cm) (fs:List (List UInt8×List bW)):e2:=⟨m.nm,m.aP,kF m,m.procs.map (k9 m fs),dL (aQ m fs []) m.main⟩
def iD (m:cm) (fs:List (List UInt8×List bW)):Int:=er (fb (bj m fs) m.procs) (dQ (aQ m fs []) m.main)
def m3:List (List UInt8)->List (List UInt8×List bW)->Bool
 | u::us,f::fs=>((h6 f.1 f.2==0)&&(f.1==u))&&m3 us fs
 | _,_=>true
def dp (m:cm) (fs:List (List UInt8×List bW)):e2×Int:=
 if (en m).2≠0 then (bm,(en m).2) else if fs.length≠m.aP.length then (bm,8) else if m3 m.aP fs=false then (bm,1)
 else if iD m fs≠0 then (bm,iD m fs) else (ee m fs,0)
def i2 (l:List bW) (s:Nat):List (fu (List UInt8)):=match l with
 | []=>[]
 | x::r=>(x.name,.agg x.cells.toArray,s)::i2 r (s+1)
def gJ (l:List (List UInt8)) (s:Nat):List (fu (List UInt8)):=match l with
 | []=>[]
 | x::r=>(x,.int .i64 ((s+1:Nat):Int),s)::gJ r (s+1)
def I2:∀(l:List bW) (x:bW) (s:Nat),i2 (l++[x]) s=i2 l s++[(x.name,.agg x.cells.toArray,s+l.length)]
 | [],x,s=>rfl
 | y::r,x,s=>by
   rw [bt,i2,I2 r x,i2,bt,b5,show s+1+r.length=s+(r.length+1) by omega]
def I3:∀(l:List (List UInt8)) (x:List UInt8) (s:Nat),gJ (l++[x]) s=gJ l s++[(x,.int .i64 ((s+l.length+1:Nat):Int),s+l.length)]
 | [],x,s=>rfl
 | y::r,x,s=>by
   rw [bt,gJ,I3 r x,gJ,bt,b5,show s+1+r.length=s+(r.length+1) by omega]
def Ec (nm:List UInt8):∀(l:List bW) (s i:Nat),(d' nm (i2 l s) i).map (·.2)=(fO nm l).map λx=>.agg x.cells.toArray
 | [],_,_=>rfl
 | x::r,s,i=>by
   rw [i2,d',fO]
   by_cases h:x.name=nm
   · simp [h]
   · rw [av (by simpa using λe=>h e.symm),av h]
     exact Ec nm r (s+1) (i+1)
def q7 (nm:List UInt8):∀(l:List (List UInt8)) (s i:Nat),(d' nm (gJ l s) i).map (·.2)=(idxOf nm l s).map λk=>.int .i64 ((k+1:Nat):Int)
 | [],_,_=>rfl
 | x::r,s,i=>by
   rw [gJ,d',idxOf]
   by_cases h:x=nm
   · simp [h]
   · rw [av (by simpa using λe=>h e.symm),av h]
     exact q7 nm r (s+1) (i+1)
def I4 (nm:List UInt8) (l:List bW) (a:Value):hY nm (i2 l 0) a=(match fO nm l with | some x=>.agg x.cells.toArray | none=>a)/\p3 nm (i2 l 0)=(fO nm l).isSome:=by
 have h:=Ec nm l 0 0;unfold hY p3
 cases b:d' nm (i2 l 0) 0 with
 | none=>rw [b] at h; cases hi:fO nm l with | none=>exact ⟨rfl,rfl⟩ | some x=>rw [hi] at h; cases h
 | some r=>rw [b] at h; cases hi:fO nm l with
   | none=>rw [hi] at h; cases h
   | some x=>rw [hi] at h; simp at h; exact ⟨by simp [h],rfl⟩
def Qk (nm:List UInt8) (l:List (List UInt8)):hY nm (gJ l 0) (.int .i64 0) = .int .i64 (match idxOf nm l 0 with | some k=>((k+1:Nat):Int) | none=>0):=by
 have h:=q7 nm l 0 0;unfold hY
 cases a:d' nm (gJ l 0) 0 with
 | none=>rw [a] at h; cases hi:idxOf nm l 0 with | none=>rfl | some x=>rw [hi] at h; cases h
 | some r=>rw [a] at h; cases hi:idxOf nm l 0 with
   | none=>rw [hi] at h; cases h
   | some x=>rw [hi] at h; simp at h; simp [h]
variable {aS:List UInt8}
def Ee:∀{l:List bW},fO aS l=none↔aS ∉ l.map (·.name)
 | []=>by simp [fO]
 | x::r=>by
   rw [fO]
   by_cases h:x.name=aS
   · simp [h]
   · rw [av h,Ee (l:=r)]
     simp [xW h,eq_comm,h]
def ij:∀{l:List (List UInt8)} {s:Nat},idxOf aS l s=none↔aS ∉ l
 | [],_=>by simp [idxOf]
 | x::r,s=>by
   rw [idxOf]
   by_cases h:x=aS
   · simp [h]
   · rw [av h,ij (l:=r)]
     simp only [et,not_or];exact ⟨λa=>⟨λe=>h e.symm,a⟩,λa=>a.2⟩
def Ql {l:List bW} {x:bW} (h:x.name ∉ l.map (·.name)):gw x.name (.agg x.cells.toArray) (i2 l 0) l.length=i2 (l++[x]) 0/\lY x.name (i2 l 0) l.length=(l++[x]).length:=by
 have a:d' x.name (i2 l 0) 0=none:=by
   have:=Ec x.name l 0 0;rw [Ee.2 h] at this
   simpa using this
 unfold gw lY;rw [a,I2];simp
def I5 {l:List (List UInt8)} {x:List UInt8} (h:x ∉ l):gw x (.int .i64 ((l.length+1:Nat):Int)) (gJ l 0) l.length=gJ (l++[x]) 0/\lY x (gJ l 0) l.length=(l++[x]).length:=by
 have a:d' x (gJ l 0) 0=none:=by
   have:=q7 x l 0 0;rw [ij.2 h] at this
   simpa using this
 unfold gw lY;rw [a,I3];simp
def tg:∀{l:List (List UInt8)} {s k:Nat},idxOf aS l s=some k->s<=k/\l[k-s]? = some aS
 | [],_,_,h=>by cases h
 | x::r,s,k,h=>by
   rw [idxOf] at h
   split at h
   · rename_i a; injection h with h; subst h; simp [a]
   · obtain ⟨c,b⟩:=tg h
     refine ⟨Z,?_⟩;rw [show k-s=(k-(s+1))+1 by omega]; simpa using b
variable {db:List UInt8}
def Ef:∀{us:List (List UInt8)} {fs:List (List bW)} {s:Nat},aS ∉ us->iC aS db us fs s=none
 | [],_,_,_=>by simp [iC]
 | u::us,[],_,_=>by simp [iC]
 | u::us,f::fs,s,h=>by
   rw [iC,av (λe=>h (by simp [e])),Ef (λa=>h (cz _ a))]
def I6:∀{us:List (List UInt8)} {fs:List (List bW)} {s:Nat},us.Nodup->us.length=fs.length->
   iC aS db us fs s=(idxOf aS us s).bind λk=>(fs[k-s]?).bind λf=>(fO db f).map λx=>(((k+1:Nat):Int),x)
 | [],[],_,_,_=>by simp [iC,idxOf]
 | [],f::fs,_,_,h=>by simp at h
 | u::us,[],_,_,h=>by simp at h
 | u::us,f::fs,s,b,c=>by
   rw [iC,idxOf];have a:=zR.1 b
   by_cases h:u=aS
   · rw [a8 h,a8 h]
     simp only [cM,CP,me]
     cases fO db f with
     | none=>simp only [eu]; exact Ef (h▸a.1)
     | some x=>rfl
   · rw [av h,av h,I6 a.2 (by simpa using c)]
     cases hi:idxOf aS us (s+1) with
     | none=>rfl
     | some k=>
       have:=(tg hi).1;simp only [cM];rw [show k-s=(k-(s+1))+1 by omega,mR]
end Go.Bw
end
section
namespace Go.Bw
open Go
structure aV where
 c_:Bool
 data:Int
 parts:List Int
def aV.cells (k:aV) (r:Option Addr×Nat):List Value:=[.bool k.c_,.int .i64 k.data,.slice r.1 k.parts.length r.2]
def pf (x:Int):List Value:=[.int .i64 x]
def Eg (x:Int):(pf x).length=1:=rfl
def mw (H:View) (b o:Nat) (x:Int):Prop:=cw H b o (pf x)
def je (u:e2):aV:=⟨true,u.data,u.parts.map (·.params)⟩
def dg:aV:=⟨false,0,[]⟩
def cX (ks:List aV) (m pl:Int):Bool:=((decide (m<0)||decide ((ks.length:Int)<=m))||decide (pl<0))||decide (512<pl)
def mx (ks:List aV) (m pl n:Int):Bool:=if cX ks m pl=true then false else match ks[m.toNat]? with
 | some k=>if k.c_=true then decide (pl+n<=k.data) else n==1||decide (pl+n<=512)
 | none=>false
def ow (ks:List aV) (m pl:Int):Bool:=(decide (m<0)||decide ((ks.length:Int)<=m))||decide (pl<0)
def nD (ks:List aV) (m pl n:Int):Bool:=if ow ks m pl=true then false else match ks[m.toNat]? with
 | some k=>if k.c_=true then decide (pl<(k.parts.length:Int))&&(k.parts[pl.toNat]?).getD 0==n else decide (pl<6)&&decide (n<=3)
 | none=>false
def wC (aH pl:Int):Bool:=decide (0<=pl)&&decide (pl<aH)
def j3 (n:Int):Bool:=decide (1<=n)&&decide (n<=32)
variable {eP:List aV} {aL cg:Int}
def Qm (n:Int) (h:cX eP aL cg=true):mx eP aL cg n=false:=by rw [mx,a8 h]
def Qn (h:cX eP aL cg=false):(∃a:Nat,aL=a/\a<eP.length)/\0<=cg/\cg<=512:=by
 unfold cX at h;simp only [mQ,ez] at h;exact ⟨⟨aL.toNat,Z,Z⟩,Z,Z⟩
variable {ae:Nat}
def yw {pl n:Int} {k:aV} (h:cX eP ae pl=false) (a:eP[ae]? = some k):mx eP ae pl n=if k.c_=true then decide (pl+n<=k.data) else n==1||decide (pl+n<=512):=by
 rw [mx,av (by rw [h]; decide),sL,a]
def Qo (n:Int) (h:ow eP aL cg=true):nD eP aL cg n=false:=by rw [nD,a8 h]
def Qp (h:ow eP aL cg=false):(∃a:Nat,aL=a/\a<eP.length)/\∃p:Nat,cg=p:=by
 unfold ow at h;simp only [mQ,ez] at h;exact ⟨⟨aL.toNat,Z,Z⟩,cg.toNat,Z⟩
def yx {pl n:Int} {k:aV} (h:ow eP ae pl=false) (a:eP[ae]? = some k):nD eP ae pl n=if k.c_=true then decide (pl<(k.parts.length:Int))&&(k.parts[pl.toNat]?).getD 0==n else decide (pl<6)&&decide (n<=3):=by
 rw [nD,av (by rw [h]; decide),sL,a]
def node1 (ks:List aV) (aH op n m pl:Int) (len:Nat):Bool:=
 if op=1 then ((((m==0)&&(pl==0))&&((len:Int)==0))&&decide (0<=n))&&decide (n<=1099511627775)
 else if op=3 then ((n==0)&&((len:Int)==0))&&mx ks m pl 1
 else if op=4 then (j3 n&&((len:Int)==1))&&mx ks m pl n
 else if op=5 then (n==0)&&nD ks m pl len
 else if op=16 then (((m==0)&&(n==0))&&((len:Int)==0))&&wC aH pl
 else if op=2 then (((m==0)&&(pl==0))&&(n==0))&&((len:Int)==0)
 else if op=6 then (((m==0)&&(pl==0))&&(n==0))&&((len:Int)==1)
 else if 7<=op/\op<=15 then (((m==0)&&(pl==0))&&(n==0))&&((len:Int)==2)
 else false
def kg (ks:List aV) (aH op n m pl:Int) (na b a:Nat):Bool:=
 if op=1 then (((((b:Int)+a==0)&&((na:Int)==1))&&(n==0))&&(((m==-1)&&wC aH pl)||mx ks m pl 1))
 else if op=2 then (((((b:Int)+a==0)&&((na:Int)==2))&&j3 n)&&mx ks m pl n)
 else if op=3 then ((((b:Int)+a==0)&&(n==0))&&nD ks m pl na)
 else if op=4 then (((m==0)&&(pl==0))&&(n==0))&&((na:Int)==1)
 else if op=5 then ((((m==0)&&(pl==0))&&(n==0))&&((na:Int)==1))&&((a:Int)==0)
 else if op=6\/op=7 then ((((m==0)&&(pl==0))&&(n==0))&&((b:Int)+a==0))&&((na:Int)==1)
 else false
mutual
def pg (ks:List aV) (aH:Int):gH->Nat->Bool
 | .mk op n m pl args,d=>decide (d<=6)&&(node1 ks aH op n m pl args.length&&jx ks aH args (d+1))
def jx (ks:List aV) (aH:Int):List gH->Nat->Bool
 | [],_=>true
 | x::r,d=>pg ks aH x d&&jx ks aH r d
end
def Qq (ks:List aV) (aH:Int) (x:gH) (d:Nat):pg ks aH x d=(decide (d<=6)&&(node1 ks aH x.op x.n x.m x.pl x.args.length&&jx ks aH x.args (d+1))):=by cases x; rw [pg]; rfl
def I7 (ks:List aV) (aH:Int) (d:Nat):∀l,jx ks aH l d=l.all (pg ks aH · d)
 | []=>by rw [jx]; rfl
 | x::r=>by rw [jx,I7 ks aH d r]; rfl
def th (op:Int):Bool:=(op==4)||(op==5)
mutual
def ph (ks:List aV) (aH:Int):fp->Nat->Bool
 | .mk op n m pl args body other,d=>kg ks aH op n m pl args.length body.length other.length&&(jx ks aH args 1&&((!(th op)||(decide (d+1<=6)&&(decide (body.length<=10)&&jy ks aH body (d+1))))&&(!(decide (0<other.length))||(decide (d+1<=6)&&(decide (other.length<=10)&&jy ks aH other (d+1))))))
def jy (ks:List aV) (aH:Int):List fp->Nat->Bool
 | [],_=>true
 | x::r,d=>ph ks aH x d&&jy ks aH r d
end
def k' (ks:List aV) (aH:Int) (l:List fp) (d:Nat):Bool:=decide (d<=6)&&(decide (l.length<=10)&&jy ks aH l d)
def Qr (ks:List aV) (aH:Int) (x:fp) (d:Nat):ph ks aH x d=(kg ks aH x.op x.n x.m x.pl x.args.length x.body.length x.other.length&&(jx ks aH x.args 1&&((!(th x.op)||k' ks aH x.body (d+1))&&(!(decide (0<x.other.length))||k' ks aH x.other (d+1))))):=by cases x; rw [ph]; rfl
def I8 (ks:List aV) (aH:Int) (d:Nat):∀l,jy ks aH l d=l.all (ph ks aH · d)
 | []=>by rw [jy]; rfl
 | x::r=>by rw [jy,I8 ks aH d r]; rfl
def p' (ks:List aV) (p:ou):Bool:=!(((decide (p.params<0)||decide (3<p.params))||decide (p.locals<0))||decide (4<p.locals))&&k' ks (p.params+p.locals) p.body 1
def ti (nm:List UInt8) (us:List (List UInt8)):Bool:=!(e1 (nm::us))&&us.all gc
def im (u:e2):Bool:=(((!(gc u.nm)||decide (3<(u.aP.length:Int)))||decide (u.data<0))||decide (512<u.data))||decide (6<(u.parts.length:Int))
def ox (u:e2) (kn:List aV):Bool:=ti u.nm u.aP&&(!(im u)&&(u.parts.all (p' (je u::kn))&&k' (je u::kn) 0 u.main 1))
def k_ (l:List e2):List (List UInt8):=l.map (·.nm)
def j6 (l:List e2):Bool:=(List.range l.length).all λn=>((l[n]?.map (·.aP)).getD []).all λs=>((k_ l).take n).contains s
def tj:List e2->Int->Bool
 | [],_=>true
 | u::r,room=>!(decide (u.data<0)||decide (room<u.data))&&tj r (room-u.data)
def kH (l:List e2) (u:e2):List aV:=u.aP.map λs=>match idxOf s (k_ l) 0 with
 | some i=>(l[i]?.map je).getD dg
 | none=>dg
def fQ (l:List e2):Int:=
 if (decide ((l.length:Int)<1)||decide (4<(l.length:Int)))=true then 2 else if j6 l=false then 9 else if e1 (k_ l)=true then 6
 else if tj l 512=false then 1 else if (l.all λu=>ox u (kH l u))=true then 0 else 1
end Go.Bw
end
section
namespace Go.Bw
open Go
def I9 (x y:List UInt8):Bool:=Op.bytesLess x y
def nE (l:List cm):List (List UInt8):=l.map (·.nm)
def di (l:List cm) (s:List UInt8):Option Nat:=idxOf s (nE l) 0
def lB (l:List cm) (i:Nat):List UInt8:=(l[i]?.map (·.nm)).getD []
def q5 (l:List cm) (i:Nat):List (List UInt8):=(l[i]?.map (·.aP)).getD []
structure Eh (l:List cm):Prop where
 fy:l.length<=4
 Ei:∀m ∈ l,iA m=0
 nd:(nE l).Nodup
 aP:∀m ∈ l,∀s ∈ m.aP,∃j,di l s=some j
variable {c':List cm} {aS:List UInt8} {ae:Nat}
def I' (h:di c' aS=some ae):ae<c'.length/\lB c' ae=aS:=by
 have a:=(tg h).2;rw [pQ] at a;unfold nE at a;rw [gS] at a;obtain ⟨m,b,e⟩:=dX.1 a;exact ⟨(cS.1 b).1,by rw [lB,b]; exact e⟩
variable {bp:cm}
def yy (h:c'[ae]? = some bp):lB c' ae=bp.nm:=by rw [lB,h]; rfl
def Qs (h:c'[ae]? = some bp):q5 c' ae=bp.aP:=by rw [q5,h]; rfl
def yz (h:c'[ae]? = some bp):(nE c')[ae]? = some bp.nm:=by unfold nE; rw [gS,h]; rfl
def A1 (l:List cm):(nE l).length=l.length:=by simp [nE]
def I_ (b:(nE c').Nodup) {i j:Nat} (hi:i<c'.length) (a:j<c'.length) (h:lB c' i=lB c' j):i=j:=by
 have e:(nE c')[i]? = (nE c')[j]?:=by
   rw [yz (dM hi),yz (dM a),<-yy (dM hi),<-yy (dM a),h]
 exact (uc (by rw [A1]; exact hi) b).1 e
def Qt (b:(nE c').Nodup) {i:Nat} (hi:i<c'.length):di c' (lB c' i)=some i:=by
 cases a:di c' (lB c' i) with
 | none=>
   refine absurd ?_ (ij.1 a);rw [yy (dM hi)];exact gu (yz (dM hi))
 | some j=>
   obtain ⟨c,d⟩:=I' a;rw [I_ b c hi d]
def A2 (l:List cm) (d:List Nat) (s:List UInt8):Bool:=match di l s with | some j=>d.contains j | none=>false
def yA (l:List cm) (d:List Nat) (i:Nat):Bool:=!d.contains i&&(q5 l i).all (A2 l d)
structure Qu (l:List cm) (d:List Nat) (b:Nat):Prop where
 lt:b<l.length
 ready:yA l d b=true
 least:∀i,i<l.length->yA l d i=true->i=b\/I9 (lB l b) (lB l i)=true
inductive Ej (l:List cm):List Nat->Prop where
 | nil:Ej l []
 | snoc {d:List Nat} {b:Nat}:Ej l d->Qu l d b->Ej l (d++[b])
def fZ (l:List cm) (s:List UInt8):List (List UInt8):=match di l s with | some i=>q5 l i | none=>[]
inductive Reach (l:List cm) (a:List UInt8):List UInt8->Prop where
 | base {s:List UInt8}:s ∈ fZ l a->Reach l a s
 | step {b s:List UInt8}:Reach l a b->s ∈ fZ l b->Reach l a s
structure Ek (l:List cm) (a:List UInt8) (S:List UInt8->Prop):Prop where
 base:∀s ∈ fZ l a,S s
 step:∀b,S b->∀s ∈ fZ l b,S s
 sound:∀s,S s->Reach l a s
def Ek.iff {S:List UInt8->Prop} (h:Ek c' aS S) (s:List UInt8):S s↔Reach c' aS s:=
 ⟨h.sound s,λb=>by
   induction b with
   | base a=>exact h.base _ a
   | step _ a c=>exact h.step _ c _ a⟩
def Ja {κ:Type} [BEq κ] (k:κ) (v:Value) (m:List (fu κ)) (c:Nat):(gw k v m c).length<=m.length+1:=by
 unfold gw
 split<;>simp
end Go.Bw
end
section
namespace Go.Bw
open Go
def Qv {α:Type} (R:α->α->Prop) (d:List α) (i:Nat):Prop:=∀(x y:Nat) (a b:α),x<y->y<i->d[x]? = some a->d[y]? = some b->R a b
structure Ye {α:Type} (R:α->α->Prop) (d0 d:List α) (i j:Nat):Prop where
 perm:d.Perm d0
 ji:j<=i
 il:i<d.length
 ord:∀(x y:Nat) (a b:α),x<y->y<=i->x≠j->y≠j->d[x]? = some a->d[y]? = some b->R a b
 up:∀(y:Nat) (a b:α),j<y->y<=i->d[j]? = some a->d[y]? = some b->R a b
end Go.Bw
end
section
namespace Go.Bw
open Go Go.RowKit Go.Maps Go.Sort
open Go.WideElems (Fit rd rg pl rd_val rd_mk rg_of)
structure Yg (M:List (fu (List UInt8))) (c:Nat):Prop where
 nd:(M.map (·.1)).Nodup
 len:∀e ∈ M,e.1.length<=maxLen
 size:M.length<=maxLen
 born:M.map (·.2.2)=List.range M.length
 clock:c=M.length
end Go.Bw
end
section
namespace Go.Bw
open Go
section
variable {κ:Type} [BEq κ] [LawfulBEq κ]
def A3 (k:κ):∀(m:List (fu κ)) (i j:Nat) (v:Value),d' k m i=some (j,v)->i<=j/\∃b,m[j-i]? = some (k,v,b)
 | [],i,j,v,h=>by simp [d'] at h
 | e::r,i,j,v,h=>by
   simp only [d'] at h
   split at h
   · rename_i d
     have f:e.1=k:=(eq_of_beq d).symm
     injection h with h
     injection h with c a
     subst c a;exact ⟨eH _,e.2.2,by rw [CP,me,<-f]⟩
   · obtain ⟨c,b,a⟩:=A3 k r (i+1) j v h
     refine ⟨Z,b,?_⟩;rw [show j-i=(j-(i+1))+1 by omega,mR];exact a
def Jc (k:κ):∀(m:List (fu κ)) (i:Nat),d' k m i=none↔k ∉ m.map (·.1)
 | [],i=>by simp [d']
 | e::r,i=>by
   simp only [d',jn,et,not_or]
   split
   · rename_i a
     have b:e.1=k:=(eq_of_beq a).symm;exact ⟨λh=>(by cases h),λh=>absurd b.symm h.1⟩
   · rename_i a
     have b:¬k=e.1:=λc=>a (by simp [c]);rw [Jc k r (i+1)];exact ⟨λh=>⟨b,h⟩,λh=>h.2⟩
def Qw (k:κ) (v:Value) (m:List (fu κ)) (c:Nat):((k ∈ m.map (·.1))/\(gw k v m c).map (·.1)=m.map (·.1)/\(gw k v m c).map (·.2.2)=m.map (·.2.2)/\lY k m c=c)\/
   (k ∉ m.map (·.1)/\gw k v m c=m++[(k,v,c)]/\lY k m c=c+1):=by
 unfold gw lY
 cases d:d' k m 0 with
 | none=>exact .inr ⟨(Jc k m 0).1 d,rfl,rfl⟩
 | some r=>
   obtain ⟨j,u⟩:=r;obtain ⟨_,b,a⟩:=A3 k m 0 j u d;rw [pQ] at a;refine .inl ⟨oZ.2 ⟨_,gu a,O⟩,?_,?_,O⟩
   all_goals
     apply pS;intro i;simp only [gS,x1]
     by_cases e:j=i
     · subst e; rw [a]; simp
     · simp [e]
def A4 (k:κ) (v:Value) (m:List (fu κ)) (c:Nat) (g:Value):hY k (gw k v m c) g=v:=by
 have key:∃e,d' k (gw k v m c) 0=some (e,v):=by
   unfold gw
   cases f:d' k m 0 with
   | none=>
     have a:∀(m:List (fu κ)) (i:Nat),d' k m i=none->d' k (m++[(k,v,c)]) i=some (i+m.length,v):=by
       intro m
       induction m with
       | nil=>intro i _; simp [d']
       | cons e r d=>
         intro i h;simp only [d',bt] at h ⊢
         split at h
         · cases h
         · rename_i b
           rw [av b,d _ h,b5]
           congr 2
           omega
     exact ⟨_,a m 0 f⟩
   | some r=>
     obtain ⟨j,u⟩:=r
     have a:∀(m:List (fu κ)) (i:Nat),d' k m i=some (j,u)->d' k (m.modify (j-i) λe=>(k,v,e.2.2)) i=some (j,v):=by
       intro m
       induction m with
       | nil=>intro i h; simp [d'] at h
       | cons e r d=>
         intro i h;simp only [d'] at h
         split at h
         · injection h with h
           injection h with a l
           subst a;rw [CP];simp [d']
         · rename_i b
           have n:=(A3 k r (i+1) j u h).1;rw [show j-i=(j-(i+1))+1 by omega,GW,d',av b];exact d _ h
     exact ⟨_,a m 0 f⟩
 obtain ⟨e,b⟩:=key;unfold hY;rw [b]
end
structure El (M:List (fu (List UInt8))) (c p:Nat):Prop where
 nd:(M.map (·.1)).Nodup
 born:M.map (·.2.2)=List.range M.length
 clock:c=M.length
 Qx:∀x v,hY x M (.int .i64 0)=v->∃n:Nat,n<=p/\v = .int .i64 (n:Int)/\(n=0↔x ∉ M.map (·.1))
def A5 {κ:Type} [BEq κ] [LawfulBEq κ] {k a:κ} (v:Value) (m:List (fu κ)) (c:Nat) (n:Value) (h:a≠k):hY a (gw k v m c) n=hY a m n:=by
 have p:∀(m:List (fu κ)) (i:Nat),(d' a (m++[(k,v,c)]) i).map (·.2)=(d' a m i).map (·.2):=by
   intro m
   induction m with
   | nil=>intro i; simp [d',h]
   | cons e r l=>intro i; simp only [d',bt]; split<;>simp [l]
 have s:∀(m:List (fu κ)) (i j:Nat),(m[j]?.map (·.1)=some k)->(d' a (m.modify j λe=>(k,v,e.2.2)) i).map (·.2)=(d' a m i).map (·.2):=by
   intro m
   induction m with
   | nil=>intro i j g; simp at g
   | cons e r l=>
     intro i j g
     cases j with
     | zero=>
       have t:e.1=k:=by simpa using g
       have w:¬(a==e.1)=true:=by rw [t]; simpa using h
       have x:¬(a==k)=true:=by simpa using h
       rw [List.modify_zero_cons,d',d',av w,av (show ¬(a==(k,v,e.2.2).1)=true from x)]
     | succ j=>
       rw [GW,d',d']
       split
       · rfl
       · exact l _ _ (by simpa using g)
 have d:(d' a (gw k v m c) 0).map (·.2)=(d' a m 0).map (·.2):=by
   unfold gw
   cases y:d' k m 0 with
   | none=>exact p m 0
   | some r=>
     obtain ⟨j,u⟩:=r;obtain ⟨_,b,f⟩:=A3 k m 0 j u y;rw [pQ] at f;exact s m 0 j (by rw [f]; rfl)
 unfold hY
 cases o:d' a (gw k v m c) 0 with
 | none=>rw [o] at d; cases f:d' a m 0 with | none=>rfl | some r=>rw [f] at d; cases d
 | some q=>rw [o] at d; cases f:d' a m 0 with
   | none=>rw [f] at d; cases d
   | some r=>rw [f] at d; simp at d; simp [d]
variable {aS:List UInt8}
def El.put {M:List (fu (List UInt8))} {c p n:Nat}  (h:El M c p) (w:n<=p) (j:n=0↔aS ∉ M.map (·.1)) :
   El (gw aS (.int .i64 ((n+1:Nat):Int)) M c) (lY aS M c) (p+1)/\(gw aS (.int .i64 ((n+1:Nat):Int)) M c).map (·.1)=(if n=0 then M.map (·.1)++[aS] else M.map (·.1)):=by
 have i:∀y v,hY y (gw aS (.int .i64 ((n+1:Nat):Int)) M c) (.int .i64 0)=v->∃k:Nat,k<=p+1/\v = .int .i64 (k:Int)/\(k=0↔y ∉ (if n=0 then M.map (·.1)++[aS] else M.map (·.1))):=by
   intro y v hv
   by_cases l:y=aS
   · subst l
     rw [A4] at hv;refine ⟨n+1,Z,hv.symm,?_⟩
     split
     · simp
     · rename_i m
       exact ⟨λh=>by omega,λd=>absurd (j.2 d) m⟩
   · rw [A5 _ _ _ _ l] at hv
     obtain ⟨k,f,d,g⟩:=h.Qx y v hv;refine ⟨k,Z,d,g.trans ?_⟩
     split
     · simp [l]
     · rfl
 rcases Qw aS (.int .i64 ((n+1:Nat):Int)) M c with ⟨f,d,g,s⟩ | ⟨f,d,g⟩
 · have m:¬n=0:=λe=>j.1 e f
   rw [av m] at i ⊢
   have q:(gw aS (.int .i64 ((n+1:Nat):Int)) M c).length=M.length:=by have:=congrArg List.length d; simpa using this
   exact ⟨⟨by rw [d]; exact h.nd,by rw [g,q]; exact h.born,by rw [s,q]; exact h.clock,λy v hv=>by rw [d]; exact i y v hv⟩,d⟩
 · have t:n=0:=j.2 f
   rw [a8 t] at i ⊢
   have o:(gw aS (.int .i64 ((n+1:Nat):Int)) M c).map (·.1)=M.map (·.1)++[aS]:=by rw [d]; simp
   refine ⟨⟨?_,?_,?_,λy v hv=>by rw [o]; exact i y v hv⟩,o⟩
   · rw [o,mb]
     exact ⟨h.nd,au,λa u b r e=>by rw [fH] at r; subst r; subst e; exact f u⟩
   · rw [d,CQ,h.born,bT,pT,ud,h.clock]; rfl
   · rw [g,d,h.clock]; simp
structure yB (l:List cm) (nm:List UInt8) (ds nx:List (List UInt8)):Prop where
 base:∀s ∈ fZ l nm,s ∈ ds\/s ∈ nx
 step:∀b ∈ ds,∀s ∈ fZ l b,s ∈ ds\/s ∈ nx
 sound:∀s,s ∈ ds\/s ∈ nx->Reach l nm s
variable {c':List cm}
def yB.new {nm x:List UInt8} {ds r:List (List UInt8)} (h:yB c' nm ds (x::r)):yB c' nm (ds++[x]) (r++fZ c' x):=by
 have key:∀s,s ∈ ds\/s ∈ x::r->s ∈ ds++[x]\/s ∈ r++fZ c' x:=λs a=>by
   rcases a with a | a
   · exact .inl (CR _ a)
   · rcases et.1 a with e | a
     · subst e; exact .inl au
     · exact .inr (CR _ a)
 refine ⟨λs a=>key s (h.base s a),λb c s a=>?_,λs a=>?_⟩
 · rcases fB.1 c with c | c
   · exact key s (h.step b c s a)
   · rw [fH] at c; subst c
     exact .inr (eh _ a)
 · rcases a with a | a
   · rcases fB.1 a with a | a
     · exact h.sound s (.inl a)
     · rw [fH] at a; subst a
       exact h.sound _ (.inr au)
   · rcases fB.1 a with a | a
     · exact h.sound s (.inr (cz _ a))
     · exact .step (h.sound x (.inr au)) a
def yB.fin {ds:List (List UInt8)} (h:yB c' aS ds []) (s:List UInt8):s ∈ ds↔Reach c' aS s:=
 Ek.iff (S:=λs=>s ∈ ds) ⟨λs a=>(h.base s a).resolve_right au,λb c s a=>(h.step b c s a).resolve_right au,λs a=>h.sound s (.inl a)⟩ s
end Go.Bw
end
section
namespace Go.Bw
open Go
structure En (ns:List (List UInt8)) (i:Nat) (M:List (fu (List UInt8))) (c:Nat):Prop where
 mem:∀s,∃v:Nat,hY s M (.int .i64 0) = .int .i64 (v:Int)/\(v=0↔s ∉ ns.take i)
 Dz:((ns.take i).Nodup/\M=gJ (ns.take i) 0/\c=i)\/(¬(ns.take i).Nodup/\M.length<i)
variable {dE:List (List UInt8)} {aS:List UInt8}
def En.new {i c:Nat} {M:List (fu (List UInt8))}  (h:En dE i M c) (j:dE[i]? = some aS) (k:aS ∉ dE.take i):En dE (i+1) (gw aS (.int .i64 ((i+1:Nat):Int)) M c) (lY aS M c):=by
 have d:dE.take (i+1)=dE.take i++[aS]:=by rw [kV,j]; rfl
 have r:=(cS.1 j).1
 have o:(dE.take i).length=i:=by simp; omega
 refine ⟨λs=>?_,?_⟩
 · by_cases e:s=aS
   · subst e
     exact ⟨i+1,A4 s _ M c _,by rw [d]; simp⟩
   · obtain ⟨v,f,p⟩:=h.mem s
     refine ⟨v,by rw [A5 _ M c _ e]; exact f,p.trans ?_⟩;rw [d]; simp [e]
 · rcases h.Dz with ⟨f,rfl,rfl⟩ | ⟨f,t⟩
   · left
     have g:=I5 (l:=dE.take c) (x:=aS) k;rw [o] at g;refine ⟨?_,by rw [g.1,d],by rw [g.2]; simp; omega⟩;rw [d,mb];refine ⟨f,au,λa q b m e=>?_⟩;rw [fH] at m; subst m; subst e; exact k q
   · right
     refine ⟨λn=>f ?_,?_⟩
     · rw [d,mb] at n; exact n.1
     · have:=Ja aS (.int .i64 ((i+1:Nat):Int)) M c
       omega
def Qy (a:(aS::dE).Nodup) (b:dE.all gc=true):ti aS dE=true:=by
 unfold ti; rw [ly.1 a,b]; rfl
end Go.Bw
end
section
namespace Go.Bw
open Go
structure Wm where
 data:List Int
 cr:List Int
 out:List Int
 cH:Nat
 calls:Nat
inductive Rz (σ α:Type) where
 | ok (a:α) (s:σ)
 | ov (e:Int) (w:Wm)
def Rz.bind {σ α b:Type} (r:Rz σ α) (f:α->σ->Rz σ b):Rz σ b:=match r with
 | .ok a s=>f a s
 | .ov e w=>.ov e w
structure Fm where
 loc:List Int
 val:Int
 w:Wm
structure Env where
 l:List e2
 aP:List (List Nat)
 wF:List Nat
 bq:Nat
def Env.mod (P:Env) (u:Nat) (m:Int):Nat:=(((P.aP[u]?).getD [])[m.toNat]?).getD 0
def Env.at_ (P:Env) (u:Nat) (m pl:Int):Nat:=(P.wF[P.mod u m]?).getD 0+pl.toNat
def Jd (P:Env) (w:Wm):Rz Wm Unit:=if w.cH=P.bq then .ov 3 w else .ok () { w with cH:=w.cH+1 }
abbrev Ev:=List Int->Wm->Rz Wm Int
abbrev Cl:=Nat->List Int->List fp->Wm->Rz Wm Int
def Rz.fr {α:Type} (f:Fm) (r:Rz Wm α):Rz Fm α:=match r with
 | .ok a w=>.ok a { f with w:=w }
 | .ov e w=>.ov e w
def Eo:List e2->Nat->List Nat
 | [],_=>[]
 | u::r,s=>s::Eo r (s+u.data.toNat)
def Je (l:List e2):List (List Nat):=(List.range l.length).map λn=>n::((l[n]?.map (·.aP)).getD []).map λs=>(idxOf s (k_ l) 0).getD 0
def A6 (l:List e2) (bq:Nat):Env:=⟨l,Je l,Eo l 0,bq⟩
structure Jf where
 fin:Int
 out:List Int
 data:List Int
 cH:Int
end Go.Bw
end
section
namespace Go.Bw
open Go
structure ix (l:List e2):Prop where
 fy:1<=l.length/\l.length<=4
 ahead:j6 l=true
 nd:(k_ l).Nodup
 data:tj l 512=true
 tm:∀u ∈ l,ox u (kH l u)=true
variable {eA:List e2}
def Jg:fQ eA=0↔ix eA:=by
 unfold fQ
 constructor
 · intro h
   split at h
   · cases h
   · rename_i b
     split at h
     · cases h
     · rename_i c
       split at h
       · cases h
       · rename_i d
         split at h
         · cases h
         · rename_i e
           split at h
           · rename_i f
             refine ⟨by simp at b; omega,by simpa using c,ly.2 (by simpa using d),by simpa using e,λu a=>hS.1 f u a⟩
           · cases h
 · intro h
   have:=h.fy;rw [av (by simp; omega),av (by rw [h.ahead]; decide),av (by rw [ly.1 h.nd]; decide),av (by rw [h.data]; decide),a8 (hS.2 λu a=>h.tm u a)]
variable {bk:e2}
def Qz (c:ix eA) {u:Nat}  (d:eA[u]? = some bk) {s:List UInt8} (i:s ∈ bk.aP):∃p k,idxOf s (k_ eA) 0=some p/\p<u/\eA[p]? = some k:=by
 have l:=(cS.1 d).1;have f:=hS.1 c.ahead u (x0.2 l);rw [d] at f
 have g:s ∈ (k_ eA).take u:=by simpa using hS.1 f s i
 cases h:idxOf s (k_ eA) 0 with
 | none=>exact absurd (zS g) (ij.1 h)
 | some p=>
   obtain ⟨j,a⟩:=ln g;rw [i6] at a
   split at a
   · rename_i n
     have b:=(tg h).2;rw [pQ] at b;have m:=(cS.1 b).1;have e:p=j:=(uc m c.nd).1 (b.trans a.symm)
     have o:(k_ eA).length=eA.length:=by simp [k_]
     exact ⟨p,_,O,Z,dM Z⟩
   · cases a
variable {eP:List aV}
def QA (h:ox bk eP=true):(∀p ∈ bk.parts,p' (je bk::eP) p=true)/\k' (je bk::eP) 0 bk.main 1=true/\im bk=false/\ti bk.nm bk.aP=true:=by
 unfold ox at h;obtain ⟨c,a⟩:=iw.1 h;obtain ⟨a,b⟩:=iw.1 a;obtain ⟨b,d⟩:=iw.1 b;exact ⟨λp e=>hS.1 b p e,d,by simpa using a,c⟩
def QB {p:ou} (h:p' eP p=true):0<=p.params/\p.params<=3/\0<=p.locals/\p.locals<=4/\k' eP (p.params+p.locals) p.body 1=true:=by
 unfold p' at h;obtain ⟨a,b⟩:=iw.1 h
 have a:(((decide (p.params<0)||decide (3<p.params))||decide (p.locals<0))||decide (4<p.locals))=false:=by simpa using a
 simp only [mQ,ez] at a;exact ⟨Z,Z,Z,Z,b⟩
open Go.ChangeShapes Go.WideShapes Go.ChangeAt Go.RowKit Go.Joins Go.Deep
def QC (n:Nat) (H:View) (b o:Nat) (u:e2):Prop:=∃r:kf,cw H b o (eV u r)/\kG n n H r u
structure Yh (P:Program) (tN tA tP tU q8 yC nz l1:TypeId) (e s p m:Array Field) (tI tT:TypeId):Prop where
 uI:P.underlying tI=some (.int .i64)
 uT:P.underlying tT=some .string
 cT:P.cellsOf tT=1
 uN:P.underlying tN=some (.struct e)
 rN:(lX P 0 e.toList&&Nat.beq (P.cellsOf tN) e.size)=true
 fN:e.map (·.type) = #[tI,tI,tI,tI,q8]
 Y0:P.underlying q8=some (.slice tN)
 uA:P.underlying tA=some (.struct s)
 rA:(lX P 0 s.toList&&Nat.beq (P.cellsOf tA) s.size)=true
 fA:s.map (·.type) = #[tI,tI,tI,tI,q8,yC,yC]
 Yp:P.underlying yC=some (.slice tA)
 uP:P.underlying tP=some (.struct p)
 rP:(lX P 0 p.toList&&Nat.beq (P.cellsOf tP) p.size)=true
 fP:p.map (·.type) = #[tI,tI,yC]
 IK:P.underlying nz=some (.slice tP)
 IL:P.underlying l1=some (.slice tT)
 uU:P.underlying tU=some (.struct m)
 rU:(lX P 0 m.toList&&Nat.beq (P.cellsOf tU) m.size)=true
 fU:m.map (·.type) = #[tT,l1,tI,nz,yC]
end Go.Bw
end
section
namespace Go.Bw
open Go
structure jS where
 op:Int
 a:Int
 b:Int
structure jT where
 at_:Int
 kind:Int
 m:Int
structure Gs where
 code:List jS
 fix:List jT
abbrev Gk:=Gs->Gs
def lC (l:List jS) (g:Gs):Gs:={ g with code:=g.code++l }
def nF (i:jS) (kind m:Int) (g:Gs):Gs:=⟨g.code++[i],g.fix++[⟨(g.code.length:Int),kind,m⟩]⟩
def tn (n:Nat) (g:Gs):Gs:={ g with code:=g.code.modify n λi=>{ i with a:=(g.code.length:Int) } }
def oz (ks:List Gk) (i:Nat):Gk:=(ks[i]?).getD id
def A7 (ks:List Gk) (g:Gs):Gs:=ks.foldl (λg k=>k g) g
def QD (c d:Gk) (g:Gs):Gs:=
 let a:=c g
 let b:=lC [⟨22,0,0⟩] (d (nF ⟨12,0,0⟩ 1 0 a))
 tn b.code.length (lC [⟨1,0,0⟩] (tn a.code.length (nF ⟨11,0,0⟩ 1 0 b)))
def QE (c d:Gk) (g:Gs):Gs:=
 let a:=c g
 let b:=lC [⟨1,1,0⟩] (nF ⟨12,0,0⟩ 1 0 a)
 tn b.code.length (lC [⟨22,0,0⟩] (d (tn a.code.length (nF ⟨11,0,0⟩ 1 0 b))))
def QF (op n m pl:Int) (ks:List Gk) (g:Gs):Gs:=
 if op=1 then lC [⟨1,n,0⟩] g
 else if op=2 then lC [⟨18,0,0⟩] g
 else if op=16 then lC [⟨2,pl,0⟩] g
 else if op=3 then nF ⟨4,pl,0⟩ 3 m g
 else if op=4 then lC [⟨7,0,0⟩] (nF ⟨6,pl,n⟩ 3 m (oz ks 0 g))
 else if op=5 then nF ⟨13,pl,0⟩ 2 m (A7 ks g)
 else if op=7 then QD (oz ks 0) (oz ks 1) g
 else if op=8 then QE (oz ks 0) (oz ks 1) g
 else if op=6 then lC [⟨9,0,0⟩] (A7 ks g)
 else lC [⟨10,op,0⟩] (A7 ks g)
mutual
def QG:gH->Gs->Gs
 | .mk op n m pl args,g=>QF op n m pl (q_ args) g
def q_:List gH->List Gk
 | []=>[]
 | x::r=>(λg=>QG x g)::q_ r
end
def QH (c body other:Gk) (d:Nat) (g:Gs):Gs:=
 let a:=c g
 let b:=body (nF ⟨12,0,0⟩ 1 0 a)
 if 0<d then tn b.code.length (other (tn a.code.length (nF ⟨11,0,0⟩ 1 0 b))) else tn a.code.length b
def II (b body:Gk) (g:Gs):Gs:=
 let a:=b g
 tn a.code.length (nF ⟨11,(g.code.length:Int),0⟩ 1 0 (body (lC [⟨16,0,0⟩] (nF ⟨12,0,0⟩ 1 0 a))))
def QJ (op n m pl:Int) (ks:List Gk) (body other:Gk) (a:Nat) (g:Gs):Gs:=
 if op=1 then (if m<0 then lC [⟨3,pl,0⟩] (oz ks 0 g) else nF ⟨5,pl,0⟩ 3 m (oz ks 0 g))
 else if op=2 then lC [⟨8,0,0⟩] (oz ks 1 (nF ⟨6,pl,n⟩ 3 m (oz ks 0 g)))
 else if op=3 then lC [⟨17,0,0⟩] (nF ⟨13,pl,0⟩ 2 m (A7 ks g))
 else if op=4 then QH (oz ks 0) body other a g
 else if op=5 then II (oz ks 0) body g
 else if op=6 then lC [⟨15,0,0⟩] (oz ks 0 g)
 else if op=7 then lC [⟨19,0,0⟩] (oz ks 0 g)
 else g
mutual
def QK:fp->Gs->Gs
 | .mk op n m pl args body other,g=>QJ op n m pl (q_ args) (λg=>A8 body g) (λg=>A8 other g) other.length g
def A8:List fp->Gs->Gs
 | [],g=>g
 | x::r,g=>A8 r (QK x g)
end
def ra (params locals:Int) (body:List fp) (g:Gs):Gs:=lC [⟨1,0,0⟩,⟨15,0,0⟩] (A8 body (lC [⟨14,params,locals⟩] g))
def rG:List ou->Gs->List Nat×Gs
 | [],g=>([],g)
 | p::r,g=>(g.code.length::(rG r (ra p.params p.locals p.body g)).1,(rG r (ra p.params p.locals p.body g)).2)
structure uQ where
 nm:List UInt8
 aP:List (List UInt8)
 data:Int
 g:Gs
 my:List Nat
 main:Nat
def Ji:uQ:=⟨[],[],0,⟨[],[]⟩,[],0⟩
def uR (u:e2):Bool:=ox u (List.replicate u.aP.length dg)
def tp (u:e2):uQ:=
 let r:=rG u.parts ⟨[],[]⟩
 ⟨u.nm,u.aP,u.data,ra 0 0 u.main r.2,r.1,r.2.code.length⟩
def tq (u:e2):uQ×Int:=if uR u=false then (Ji,1) else if 2048<(tp u).g.code.length then (Ji,2) else (tp u,0)
structure GL (c:Nat) (g g':Gs):Prop where
 lo:g.code.length<=g'.code.length
 hi:g'.code.length<=g.code.length+c
 Ew:g.fix.length<=g'.fix.length
 r6:g'.fix.length<=g.fix.length+c
def GL.refl (c:Nat) (g:Gs):GL c g g:=⟨eH _,sN _ _,eH _,sN _ _⟩
variable {ae aB:Nat}
def GL.trans {g a b:Gs} (h:GL ae g a) (k:GL aB a b):GL (ae+aB) g b:=⟨rH h.lo k.lo,by have:=h.hi; have:=k.hi; omega,rH h.Ew k.Ew,by have:=h.r6; have:=k.r6; omega⟩
def GL.mono {g a:Gs} (h:GL ae g a) (b:ae<=aB):GL aB g a:=⟨h.lo,by have:=h.hi; omega,h.Ew,by have:=h.r6; omega⟩
def jS.cells (x:jS):List Value:=[.int .i64 x.op,.int .i64 x.a,.int .i64 x.b]
def jS.dk (x:jS):x.cells.length=3:=rfl
def jS.one (x:jS):x.cells.all (·.oneCell')=true:=rfl
def Jj (H:View) (b o:Nat) (x:jS):Prop:=cw H b o x.cells
def jT.cells (x:jT):List Value:=[.int .i64 x.at_,.int .i64 x.kind,.int .i64 x.m]
def jT.dk (x:jT):x.cells.length=3:=rfl
def jT.one (x:jT):x.cells.all (·.oneCell')=true:=rfl
def Jk (H:View) (b o:Nat) (x:jT):Prop:=cw H b o x.cells
structure Yt where
 nm:List UInt8
 v1:Value
 data:Int
 v5:Value
 v6:Value
structure Yu where
 g:Gs
 ca:Option Addr×Nat
 fa:Option Addr×Nat
variable {eP:List aV} {aL cg iN i1 i':Int}
def QL (h:node1 eP aL cg iN i1 i' ae=true):(cg=4\/cg=6->ae=1)/\(7<=cg/\cg<=15->ae=2)/\1<=cg/\cg<=16:=by
 unfold node1 at h
 split at h
 · subst_vars; omega
 · split at h
   · subst_vars; omega
   · split at h
     · subst_vars; simp at h; omega
     · split at h
       · subst_vars; omega
       · split at h
         · subst_vars; omega
         · split at h
           · subst_vars; omega
           · split at h
             · subst_vars; simp at h; omega
             · split at h
               · simp at h; omega
               · cases h
def QM {na a b:Nat} (h:kg eP aL cg iN i1 i' na a b=true):(cg=1\/cg=4\/cg=5\/cg=6\/cg=7->na=1)/\(cg=2->na=2)/\1<=cg/\cg<=7:=by
 unfold kg at h
 split at h
 · subst_vars; simp at h; omega
 · split at h
   · subst_vars; simp at h; omega
   · split at h
     · subst_vars; omega
     · split at h
       · subst_vars; simp at h; omega
       · split at h
         · subst_vars; simp at h; omega
         · split at h
           · simp at h; omega
           · cases h
def Ey (x:gH):Prop:=∃kn aH d,pg kn aH x d=true
def A9 (l:List gH):Prop:=∃kn aH d,jx kn aH l d=true
def Ez (x:fp):Prop:=∃kn aH d,ph kn aH x d=true
def om (l:List fp):Prop:=∃kn aH d,jy kn aH l d=true
variable {oA:gH}
def A9.at_ {l:List gH} (h:A9 l)   (a:l[ae]? = some oA):Ey oA:=by
 obtain ⟨kn,aH,d,h⟩:=h;rw [I7] at h;exact ⟨kn,aH,d,hS.1 h oA (gu a)⟩
def Ey.args (h:Ey oA):A9 oA.args/\(oA.op=4\/oA.op=6->oA.args.length=1)/\(7<=oA.op/\oA.op<=15->oA.args.length=2)/\1<=oA.op/\oA.op<=16:=by
 obtain ⟨kn,aH,d,h⟩:=h;rw [Qq] at h;obtain ⟨_,h⟩:=iw.1 h;obtain ⟨a,b⟩:=iw.1 h;exact ⟨⟨kn,aH,_,b⟩,QL a⟩
variable {jf:fp}
def om.at_ {l:List fp} (h:om l)   (a:l[ae]? = some jf):Ez jf:=by
 obtain ⟨kn,aH,d,h⟩:=h;rw [I8] at h;exact ⟨kn,aH,d,hS.1 h jf (gu a)⟩
def Ez.parts (h:Ez jf):A9 jf.args/\(jf.op=4\/jf.op=5->om jf.body)/\om jf.other/\(jf.op=1\/jf.op=4\/jf.op=5\/jf.op=6\/jf.op=7->jf.args.length=1)/\(jf.op=2->jf.args.length=2)/\1<=jf.op/\jf.op<=7:=by
 obtain ⟨kn,aH,d,h⟩:=h;rw [Qr] at h;obtain ⟨e,h⟩:=iw.1 h;obtain ⟨f,h⟩:=iw.1 h;obtain ⟨b,c⟩:=iw.1 h;refine ⟨⟨kn,aH,_,f⟩,λg=>?_,?_,QM e⟩
 · have:th jf.op=true:=by unfold th; simpa using g
   rw [this] at b
   have a:k' kn aH jf.body (d+1)=true:=by simpa using b
   unfold k' at a;exact ⟨kn,aH,d+1,(iw.1 (iw.1 a).2).2⟩
 · by_cases i:0<jf.other.length
   · rw [jo i] at c
     have a:k' kn aH jf.other (d+1)=true:=by simpa using c
     unfold k' at a;exact ⟨kn,aH,d+1,(iw.1 (iw.1 a).2).2⟩
   · have:jf.other=[]:=rL Z
     rw [this];exact ⟨kn,aH,d,by rw [jy]⟩
def QN (x:Nat):List Value:=[.int .i64 (x:Int)]
def wH (H:View) (b o:Nat) (x:Nat):Prop:=cw H b o (QN x)
structure A_ where
 s1:Option Addr×Nat
 s2:Option Addr×Nat
 s3:Option Addr×Nat
 s4:Option Addr×Nat
structure Yw (H:View) (q:A_) (o:uQ):Prop where
 aP:Sl rdStr 1 H q.s1.1 q.s1.2 o.aP
 code:Sl Jj 3 H q.s2.1 q.s2.2 o.g.code
 fix:Sl Jk 3 H q.s3.1 q.s3.2 o.g.fix
 my:Sl wH 1 H q.s4.1 q.s4.2 o.my
end Go.Bw
end
section
namespace Go.Bw
open Go
def Rz.all {σ α:Type} (r:Rz σ α) (p:α->σ->Prop) (q:Wm->Prop):Prop:=match r with
 | .ok a s=>p a s
 | .ov _ w=>q w
variable {yD:Wm->Prop}
def Rz.all_bind {σ α b:Type} {r:Rz σ α} {f:α->σ->Rz σ b} {p:b->σ->Prop}  (h:r.all (λa s=>(f a s).all p yD) yD):(r.bind f).all p yD:=by
 cases r with
 | ok a s=>exact h
 | ov e w=>exact h
def Rz.q6 {σ α:Type} {r:Rz σ α} {p b:α->σ->Prop} {q c:Wm->Prop} (h:r.all p q) (d:∀a s,p a s->b a s) (f:∀w,q w->c w):r.all b c:=by
 cases r with
 | ok a s=>exact d _ _ h
 | ov e w=>exact f _ h
def Rz.Jl {α:Type} {r:Rz Wm α} {f:Fm} {p:α->Fm->Prop}  (h:r.all (λa w=>p a { f with w:=w }) yD):(Rz.fr f r).all p yD:=by
 cases r with
 | ok a s=>exact h
 | ov e w=>exact h
structure Kw (P:Env) (w w':Wm):Prop where
 cH:w.cH<=w'.cH
 bq:w.cH<=P.bq->w'.cH<=P.bq
 len:w'.data.length=w.data.length
 out:w.out.length<=200->w'.out.length<=200
 pre:w.out <+: w'.out
structure Kp (P:Env) (w w':Wm):Prop extends Kw P w w' where
 calls:w'.calls=w.calls
section
variable {P:Env} {a b c:Wm}
def Kw.refl (P:Env) (a:Wm):Kw P a a:=⟨eH _,id,rfl,id,List.prefix_rfl⟩
def Kw.trans (h:Kw P a b) (k:Kw P b c):Kw P a c:=⟨rH h.cH k.cH,λx=>k.bq (h.bq x),k.len.trans h.len,λx=>k.out (h.out x),h.pre.trans k.pre⟩
def Kp.refl (P:Env) (a:Wm):Kp P a a:=⟨Kw.refl P a,rfl⟩
def Kp.trans (h:Kp P a b) (k:Kp P b c):Kp P a c:=⟨h.toKw.trans k.toKw,k.calls.trans h.calls⟩
abbrev RK {α:Type} (P:Env) (w:Wm) (r:Rz Wm α):Prop:=r.all (λ_ w'=>Kp P w w') (Kw P w)
variable {a9:Type}
def RK.ok (v:a9) (w:Wm):RK P w (.ok v w):=Kp.refl P w
def RK.ov {α:Type} (e:Int) (w:Wm):RK (α:=α) P w (.ov e w):=Kw.refl P w
variable {gY:Type}
def RK.bind {w:Wm} {r:Rz Wm a9} {f:a9->Wm->Rz Wm gY} (h:RK P w r) (k:∀v w',RK P w' (f v w')):RK P w (r.bind f):=
 Rz.all_bind (Rz.q6 h (λv w' b=>Rz.q6 (k v w') (λ_ _ a=>b.trans a) λ_ a=>b.toKw.trans a) λ_ h=>h)
abbrev EK (P:Env) (k:Ev):Prop:=∀loc w,RK P w (k loc w)
abbrev CK (P:Env) (call:Cl):Prop:=∀u loc body w,RK P w (call u loc body w)
abbrev FK {α:Type} (P:Env) (f:Fm) (r:Rz Fm α):Prop:=r.all (λ_ a=>Kp P f.w a.w/\a.loc.length=f.loc.length) (Kw P f.w)
def FK.ok (v:a9) (f:Fm):FK P f (.ok v f):=⟨Kp.refl P f.w,rfl⟩
variable {q9:Fm}
def FK.bind {r:Rz Fm a9} {g:a9->Fm->Rz Fm gY} (h:FK P q9 r) (k:∀v a,FK P a (g v a)):FK P q9 (r.bind g):=
 Rz.all_bind (Rz.q6 h (λv a c=>Rz.q6 (k v a) (λ_ _ b=>⟨c.1.trans b.1,b.2.trans c.2⟩) λ_ b=>c.1.toKw.trans b) λ_ h=>h)
def FK.fr {r:Rz Wm a9} (h:RK P q9.w r):FK P q9 (Rz.fr q9 r):=Rz.Jl (Rz.q6 h (λ_ _ h=>⟨h,rfl⟩) λ_ h=>h)
end
end Go.Bw
end
section
namespace Go.Bw
open Go
variable {a9 gY dl:Type}
def Jn {r:Rz a9 gY} {f:gY->a9->Rz a9 dl} {a:gY} {s:a9} (h:r = .ok a s):r.bind f=f a s:=by rw [h]; rfl
variable {aL:Int} {bN:Wm}
def EA {r:Rz a9 gY} {f:gY->a9->Rz a9 dl}   (h:r = .ov aL bN):r.bind f = .ov aL bN:=by rw [h]; rfl
def QP {r:Rz Wm a9} {f:Fm}   (h:r = .ov aL bN):Rz.fr f r = .ov aL bN:=by rw [h]; rfl
end Go.Bw
end
section
namespace Go.Bw
open Go
abbrev XI:=List Nat×(Option Addr×Nat)
def XI.cells (e:XI):List Value:=[.slice e.2.1 e.1.length e.2.2]
def XI.dk (e:XI):(XI.cells e).length=1:=rfl
structure KW where
 l:Option Addr×Nat
 u:Option Addr×Nat
 b:Option Addr×Nat
structure QR where
 w:Wm
 i:Option Addr×Nat
 o:Option Addr×Nat
 d:Option Addr×Nat
def QS (H:View) (b o:Nat) (x:List Nat):Prop:=∃r:Option Addr×Nat,cw H b o [.slice r.1 x.length r.2]/\Sl wH 1 H r.1 r.2 x
structure Y1 (H:View) (P:Env) (D C:Nat) (s:QR):Prop where
 cr:Sl mw 1 H s.i.1 s.i.2 s.w.cr
 out:s.w.out.length<=200
 tk:s.w.cH<=P.bq
 jz:s.w.data.length=D
 cl:s.w.calls=C
structure Yz (H:View) (n:Nat) (K:KW) (l:List e2) (bq:Nat):Prop where
 ok:ix l
 bq:bq<=2000
 YA:Sl (QC n) 5 H K.l.1 K.l.2 l
 aP:Sl QS 1 H K.u.1 K.u.2 (Je l)
 wF:Sl wH 1 H K.b.1 K.b.2 (Eo l 0)
def XI.one (e:XI):(XI.cells e).all (·.oneCell')=true:=rfl
def EB (J:View) (e:XI):Prop:=Sl wH 1 J e.2.1 e.2.2 e.1
variable {bc b_:View}
def QT (hv:bK bc b_) (b o:Nat) (x:Nat) (h:wH bc b o x):wH b_ b o x:=cw.mono hv h
def EB.mv {e:XI} (hv:bK bc b_) (h:EB bc e):EB b_ e:=Sl.imp (λb o x h=>QT hv b o x h) h
structure YB where
 i:Nat
 es:List XI
 ua:Option Addr×Nat
 ba:Option Addr×Nat
 J:View
end Go.Bw
end
section
namespace Go.Bw
open Go
def Sm {σ α:Type} (f:σ->σ->Prop) (g:Wm->Wm->Prop) (h:Prop) (o:σ->List Int) (i b:Rz σ α):Prop:=match i with
 | .ok a s1=>∃s2,b = .ok a s2/\f s1 s2
 | .ov e c=>(∃d,b = .ov e d/\g c d)\/(h/\e=3/\b.all (λ_ s=>c.out <+: o s) (λw=>c.out <+: w.out))
def Jo (w:Wm):Rz Wm Int:=match w.cr with | []=>.ok 0 w | x::r=>.ok x { w with cr:=r }
structure QU (P1 P2:Env) (E G:Wm->Wm->Prop) (X:Prop):Prop where
 l:P1.l=P2.l
 aP:P1.aP=P2.aP
 wF:P1.wF=P2.wF
 eg:∀{a b},E a b->G a b
 data:∀{a b},E a b->a.data=b.data
 out:∀{a b},E a b->a.out=b.out
 calls:∀{a b},E a b->a.calls=b.calls
 tk:∀{a b},E a b->a.cH=b.cH/\a.cH<=P1.bq/\P1.bq<=P2.bq
 tick:∀{a b},E a b->Sm E G X (·.out) (Jd P1 a) (Jd P2 b)
 read:∀{a b},E a b->Sm E G X (·.out) (Jo a) (Jo b)
 YE:∀{a b} d,E a b->E { a with data:=d } { b with data:=d }
 YF:∀{a b} d,E a b->E { a with out:=d } { b with out:=d }
 YG:∀{a b} d,E a b->E { a with calls:=d } { b with calls:=d }
section
variable {P1 P2:Env} {E G:Wm->Wm->Prop} {X:Prop}
abbrev SW {α:Type} (a b:Wm->Wm->Prop) (c:Prop) (d e:Rz Wm α):Prop:=Sm a b c (·.out) d e
structure EF (E:Wm->Wm->Prop) (f g:Fm):Prop where
 loc:f.loc=g.loc
 val:f.val=g.val
 w:E f.w g.w
abbrev SF {α:Type} (a b:Wm->Wm->Prop) (c:Prop) (d e:Rz Fm α):Prop:=Sm (EF a) b c (·.w.out) d e
variable {a9 gY:Type}
def SW.bind (i:Env)  {b d:Rz Wm a9} {f c:a9->Wm->Rz Wm gY} (h:SW E G X b d) (k:∀a s1 s2,E s1 s2->SW E G X (f a s1) (c a s2)) (m:∀a s,RK i s (c a s)):SW E G X (b.bind f) (d.bind c):=by
 cases b with
 | ok a s1=>obtain ⟨s2,rfl,j⟩:=h; exact k a s1 s2 j
 | ov e r=>
   rcases h with ⟨l,rfl,n⟩ | ⟨o,p,q⟩
   · exact .inl ⟨l,O,n⟩
   · refine .inr ⟨o,p,Rz.all_bind (Rz.q6 q (λa s g=>?_) λ_ h=>h)⟩
     exact Rz.q6 (m a s) (λ_ _ h=>g.trans h.pre) λ_ h=>g.trans h.pre
def SF.bind (i:Env)  {b c:Rz Fm a9} {f d:a9->Fm->Rz Fm gY} (h:SF E G X b c) (k:∀a s1 s2,c = .ok a s2->EF E s1 s2->SF E G X (f a s1) (d a s2)) (m:∀a s,FK i s (d a s)):SF E G X (b.bind f) (c.bind d):=by
 cases b with
 | ok a s1=>obtain ⟨s2,rfl,j⟩:=h; exact k a s1 s2 rfl j
 | ov e r=>
   rcases h with ⟨l,rfl,n⟩ | ⟨o,p,q⟩
   · exact .inl ⟨l,O,n⟩
   · refine .inr ⟨o,p,Rz.all_bind (Rz.q6 q (λa s g=>?_) λ_ h=>h)⟩
     exact Rz.q6 (m a s) (λ_ _ h=>g.trans h.1.pre) λ_ h=>g.trans h.pre
variable {q9 yF:Fm}
def SF.fr {b c:Rz Wm a9}  (h:SW E G X b c) (d:EF E q9 yF):SF E G X (Rz.fr q9 b) (Rz.fr yF c):=by
 cases b with
 | ok a s1=>obtain ⟨s2,rfl,f⟩:=h; exact ⟨_,rfl,d.loc,d.val,f⟩
 | ov e m=>
   rcases h with ⟨g,rfl,i⟩ | ⟨j,k,l⟩
   · exact .inl ⟨g,O,i⟩
   · exact .inr ⟨j,k,Rz.Jl (Rz.q6 l qy λ_ h=>h)⟩
variable {bN wJ:Wm}
def SW.ok (a:a9)  (h:E bN wJ):SW E G X (.ok a bN) (.ok a wJ):=⟨wJ,rfl,h⟩
def SF.ok (a:a9)  (h:EF E q9 yF):SF E G X (.ok a q9) (.ok a yF):=⟨yF,rfl,h⟩
def SW.ov {α:Type} (S:QU P1 P2 E G X) (e:Int)  (h:E bN wJ):SW (α:=α) E G X (.ov e bN) (.ov e wJ):=.inl ⟨wJ,rfl,S.eg h⟩
structure EE (P2:Env) (E G:Wm->Wm->Prop) (X:Prop) (k1 k2:Ev):Prop where
 go:∀loc {a b},E a b->SW E G X (k1 loc a) (k2 loc b)
 kp:EK P2 k2
structure CC (P2:Env) (E G:Wm->Wm->Prop) (X:Prop) (c1 c2:Cl):Prop where
 go:∀u loc body {a b},E a b->SW E G X (c1 u loc body a) (c2 u loc body b)
 kp:CK P2 c2
inductive KE (P2:Env) (E G:Wm->Wm->Prop) (X:Prop):List Ev->List Ev->Prop where
 | nil:KE P2 E G X [] []
 | cons {x y:Ev} {r q:List Ev} (h:EE P2 E G X x y) (t:KE P2 E G X r q):KE P2 E G X (x::r) (y::q)
def KE.kp:∀{b a:List Ev},KE P2 E G X b a->∀k ∈ a,EK P2 k
 | _,_,.nil,k,h=>by simp at h
 | _,_,.cons c d,k,h=>by
   rcases et.1 h with rfl | h
   · exact c.kp
   · exact KE.kp d k h
structure AA (P2:Env) (E G:Wm->Wm->Prop) (X:Prop) (b1 b2:Fm->Rz Fm Bool):Prop where
 go:∀{f g},EF E f g->SF E G X (b1 f) (b2 g)
 kp:∀f,FK P2 f (b2 f)
end
end Go.Bw
end
section
namespace Go.Bw
open Go
structure YJ (bq:Nat) (a b:Wm):Prop where
 data:a.data=b.data
 out:a.out=b.out
 cH:a.cH=b.cH
 calls:a.calls=b.calls
 tl:a.cH<=bq
 cr:b.cr=a.cr++[0]\/(a.cr=[]/\b.cr=[])
end Go.Bw
end
section
namespace Go.Bw
open Go
structure Ren (l l':List cm) (f:Nat->Nat):Prop where
 len:l'.length=l.length
 inv:∀k,f (f k)=k
 lt:∀k,k<l.length->f k<l.length
 get:∀k,k<l.length->l'[f k]? = l[k]?
variable {jA:Nat->Nat} {ae:Nat}
def Ren.nm {l a:List cm}  (h:Ren l a jA)  (b:ae<l.length):lB a (jA ae)=lB l ae:=by unfold lB; rw [h.get ae b]
variable {c' lD:List cm}
def Ren.us (h:Ren c' lD jA)  (a:ae<c'.length):q5 lD (jA ae)=q5 c' ae:=by unfold q5; rw [h.get ae a]
def Ren.back (h:Ren c' lD jA):Ren lD c' jA:=⟨h.len.symm,h.inv,λk a=>by rw [h.len] at a ⊢; exact h.lt k a,λk a=>by
 rw [h.len] at a;have:=h.get (jA k) (h.lt k a);rw [h.inv] at this
 exact this.symm⟩
def Ren.mem (h:Ren c' lD jA) {m:cm} (b:m ∈ c'):m ∈ lD:=by
 obtain ⟨k,a⟩:=ln b;have c:=(cS.1 a).1;rw [<-h.get k c] at a;exact gu a
def Ren.nodup (h:Ren c' lD jA) (g:(nE c').Nodup):(nE lD).Nodup:=by
 unfold List.Nodup;rw [CN];intro i j hi a m e;rw [A1] at hi a
 have f:lB lD i=lB lD j:=by
   have b:=yz (dM hi);have c:=yz (dM a);rw [dM (by rw [A1]; exact hi)] at b;rw [dM (by rw [A1]; exact a)] at c
   injection b with b
   injection c with c
   rw [yy (dM hi),yy (dM a),<-b,<-c,e]
 have d:=h.back;rw [<-d.nm hi,<-d.nm a] at f;have k:=I_ g (by have:=d.lt i hi; rw [h.len] at this; exact this) (by have:=d.lt j a; rw [h.len] at this; exact this) f;have l:=congrArg jA k;rw [h.inv,h.inv] at l;omega
def Ren.place (h:Ren c' lD jA) (c:(nE c').Nodup) {s:List UInt8}  (d:di c' s=some ae):di lD s=some (jA ae):=by
 obtain ⟨a,e⟩:=I' d;have b:=Qt (h.nodup c) (i:=jA ae) (by rw [h.len]; exact h.lt ae a);rw [h.nm a,e] at b;exact b
def Ren.ok (h:Ren c' lD jA) (a:Eh c'):Eh lD:=
 ⟨by rw [h.len]; exact a.fy,λm b=>a.Ei m (h.back.mem b),h.nodup a.nd,λm b s c=>by
   obtain ⟨p,d⟩:=a.aP m (h.back.mem b) s c
   exact ⟨jA p,h.place a.nd d⟩⟩
def Ren.contains (h:Ren c' lD jA) (d:List Nat) (x:Nat):(d.map jA).contains (jA x)=d.contains x:=by
 rw [j9];simp only [vQ,oZ]
 constructor
 · rintro ⟨y,a,e⟩
   have:=congrArg jA e;rw [h.inv,h.inv] at this;rw [<-this]; exact a
 · exact λb=>⟨x,b,O⟩
def Ren.ready (h:Ren c' lD jA) (c:Eh c') (d:List Nat)  (b:ae<c'.length):yA lD (d.map jA) (jA ae)=yA c' d ae:=by
 unfold yA;rw [h.contains,h.us b]
 congr 1
 have key:∀u:List (List UInt8),(∀s ∈ u,∃p,di c' s=some p)->u.all (A2 lD (d.map jA))=u.all (A2 c' d):=by
   intro u
   induction u with
   | nil=>intro _; rfl
   | cons s r g=>
     intro e;obtain ⟨p,f⟩:=e s au;rw [vN,vN,g λs a=>e s (by simp [a])]
     congr 1
     unfold A2;rw [f,h.place c.nd f];exact h.contains d p
 refine key _ λs a=>?_;rw [Qs (dM b)] at a;exact c.aP _ (CS b) s a
end Go.Bw
end
section
namespace Go.Bw
open Go
def oB (a b:List Bool):Prop:=∀j:Nat,a[j]? = some true->b[j]? = some true
def oB.refl (a:List Bool):oB a a:=λ_ h=>h
def oB.count:∀{a b:List Bool},a.length=b.length->oB a b->a.count true<=b.count true/\(b.count true<=a.count true->a=b)
 | [],[],_,_=>⟨eH _,λ_=>rfl⟩
 | [],_::_,h,_=>by cases h
 | _::_,[],h,_=>by cases h
 | x::a,y::b,h,c=>by
   obtain ⟨d,f⟩:=oB.count (a:=a) (b:=b) (by simpa using h) λj g=>by simpa using c (j+1) (by simpa using g)
   have i:x=true->y=true:=λe=>by simpa using c 0 (by simp [e])
   cases x<;>cases y<;>simp at i ⊢
   · exact ⟨d,f⟩
   · exact ⟨Z,Z⟩
   · exact ⟨d,f⟩
def oB.set (a:List Bool) (p:Nat):oB a (a.set p true):=λj h=>by
 have b:=(cS.1 h).1;rw [CT]
 by_cases e:p=j
 · subst e; simp [b]
 · rw [av e]; exact h
def oB.trans {a b c:List Bool} (h:oB a b) (k:oB b c):oB a c:=λj d=>k j (h j d)
def EC (l:List cm) (nm:List UInt8) (S:List Bool) (j:Nat):Prop:=S[j]? = some true\/lB l j=nm
def wL (l:List cm) (S:List Bool) (s:List UInt8):Prop:=∃p,di l s=some p/\S[p]? = some true
variable {c':List cm} {jg yG:List Bool} {aS:List UInt8}
def wL.sub (h:wL c' jg aS) (a:oB jg yG):wL c' yG aS:=let ⟨p,b,c⟩:=h; ⟨p,b,a p c⟩
def QZ (l:List cm) (nm:List UInt8) (S:List Bool):Prop:=∀j,j<l.length->EC l nm S j->∀s ∈ q5 l j,wL l S s
structure Q0 (l:List cm) (nm:List UInt8) (S:List Bool):Prop where
 len:S.length=l.length
 sound:∀j,S[j]? = some true->Go.Bw.Reach l nm (lB l j)
structure ED (l:List cm) (nm:List UInt8) (S0 S:List Bool) (j:Nat):Prop where
 ok:Q0 l nm S
 sub:oB S0 S
 same:QZ l nm S0->S=S0
 done:∀i,i<j->EC l nm S0 i->∀s ∈ q5 l i,wL l S s
variable {ae:Nat}
def ED.next (h:ED c' aS jg yG ae) (c:EC c' aS jg ae->∀s ∈ q5 c' ae,wL c' yG s):ED c' aS jg yG (ae+1):=
 ⟨h.ok,h.sub,h.same,λi hi b=>by
   rcases gT.1 hi with a | a
   · exact h.done i a b
   · subst a; exact c b⟩
def Q1 (a b:List UInt8):Prop:=I9 a b=true
def Q2 (l:List cm) (S:List Bool) (i:Nat):List (List UInt8):=((List.range i).filter λj=>(S[j]?).getD false).map (lB l)
structure YL (l:List cm) (S:List Bool) (i:Nat) (out:List (List UInt8)):Prop where
 perm:out.Perm (Q2 l S i)
 up:Qv Q1 out out.length
def oC (a B:View):Prop:=∀b o,a b=some o->B b=none
variable {bc b_:View}
def oC.symm (h:oC bc b_):oC b_ bc:=λb o a=>by
 cases e:bc b with
 | none=>rfl
 | some c=>rw [h b c e] at a; cases a
def oC.mono {c B A' a:View} (h:oC c B) (d:bK A' c) (f:bK a B):oC A' a:=λb o g=>by
 cases e:a b with
 | none=>rfl
 | some i=>have:=h b o (d b o g); rw [f b i e] at this; cases this
variable {bF:World}
def eD.apart (h:eD bF bc) (a:Le b_ bF):oC bc b_:=λb o c=>by
 cases e:b_ b with
 | none=>rfl
 | some d=>have:=lt_of_heap (a b d e); have:=(h b o c).1; omega
def mz (H:View) (Vs:List View):Prop:=∀V ∈ Vs,oC H V
section
variable {w0 w:World} {F:List Nat} {L:List ah} {Vs:List View} {A:ah}
def Q3 (h:Ws w0 F L Vs w) (c:A ∈ L):mz (rv A w) Vs:=λV d b o a=>by
 unfold rv at a
 split at a
 · rename_i e; exact h.off V d A c b e
 · cases a
end
section
variable {P:Program} {ops:Array Oper} {cd:Code} {Q:Exit->Act->World->Prop} {n:Nat} {ds:List Deferred} {l:List (Nat×Value)} {w0:World} {F:List Nat} {L:List ah} {Vs:List View} {rest:List Oper} {d:Nat} {ty:TypeId} {pos:String} {af:Array Edge} {g:Option (Nat×Bool)}
variable {a9:Type}
def WC.Q4 {rd:View->Nat->Nat->a9->Prop} {f:a9->List Value} {k e c:Nat} {a:Option Addr} {xs:List a9} (i:Nat) (hL:L[i]? = some (cW e k f a c xs)) (g:∀k ∈ F,k ∈ (eQ i L).flatMap ah.ids)
   (j:∀x,(f x).length=k) (m:∀H b o x,cw H b o (f x)->rd H b o x) (h:∀H,eD w0 H->Sl rd k H a c xs->mz H Vs->WC P cd Q n ds l (Ws w0 F (eQ i L) (H::Vs))):WC P cd Q n ds l (Ws w0 F L Vs):=
 λp w q d=>h _ (AM (d.perm (lp i L hL)) g (DY (d.kn _ (dY hL)))) (yt (d.kn _ (dY hL)) j m) (Q3 d (dY hL)) p w q (d.wn i hL)
def WL.Bb {f:FuncId} {args:Array Operand} {ts:Array TypeId} {vs:List Value} (j:dI ops l g) (k:Nat.blt d n=true) (m:Enters P f) (o:g2 l args.toList=some vs)
   (v:a9->Value) (R:View->a9->Prop)
   (hC:∀w,Ws w0 F L Vs w->Calls P f vs.toArray w λe w'=>∃i,e = .returned (v i)/\Ext w w'/\R (nv w w') i)
   (p:∀H i,eD w0 H->mz H Vs->R H i->WL P ops Q n ds ((d,v i)::l) (Ws w0 F L (H::Vs)) rest) :
   WL P ops Q n ds l (Ws w0 F L Vs) (⟨some d,.call ⟨.value (.func f),args,ts⟩,ty,pos,af,g⟩::rest):=by
 refine WL.step j λa w c b A q=>?_;have r:=x8 (P:=P) (dst:=some d) (ts:=ts) (ty:=ty) (pos:=pos) (af:=af) (g:=g) (w:=w) m (λx u s=>c.eval s) o;simp only [Oper.wp,r,Oper.upon_enter];refine (hC w b).mono λe w' t=>?_;obtain ⟨i,rfl,h,y⟩:=t;exact q _ _ (p (nv w w') i ((o1 w w').mono b.fr.size) (λV z=>(o1 w w').apart (b.vs V z)) y _ _ (c.put k _) (b.view h (x4 w w') (o1 w w')))
end
section
variable {P:Program} {ops:Array Oper} {cd:Code} {Q:Exit->Act->World->Prop} {n:Nat} {ds:List Deferred} {l:List (Nat×Value)} {w0:World} {F:List Nat} {L:List ah} {Vs:List View} {rest:List Oper} {d:Nat} {ty:TypeId} {pos:String} {af:Array Edge} {g:Option (Nat×Bool)}
def WL.Q5 {ι κ:Type} {f:FuncId} {args:Array Operand} {ts:Array TypeId} {vs:List Value} (s:dI ops l g) (t:Nat.blt d n=true) (u:Enters P f) (k:g2 l args.toList=some vs)
   (v:ι->Value) (R:View->ι->Prop) (p:κ->List PanicEntry) (q:κ->Prop)
   (hC:∀w,Ws w0 F L Vs w->Calls P f vs.toArray w λe w'=>(∃i,e = .returned (v i)/\Ext w w'/\R (nv w w') i)\/(∃j,e = .panicked (p j)/\Ext w w'/\q j))
   (x:∀j,q j->WE Q (.panic (p j)) n ds l (Ws w0 F L Vs))
   (y:∀H i,eD w0 H->mz H Vs->R H i->WL P ops Q n ds ((d,v i)::l) (Ws w0 F L (H::Vs)) rest) :
   WL P ops Q n ds l (Ws w0 F L Vs) (⟨some d,.call ⟨.value (.func f),args,ts⟩,ty,pos,af,g⟩::rest):=
 WL.vY (ι:=View×ι) s t u k (λi=>v i.2) (λi w'=>((eD w0 i.1/\mz i.1 Vs)/\R i.1 i.2)/\Ws w0 F L (i.1::Vs) w') (λc w'=>∃j,c=p j/\q j/\Ws w0 F L Vs w') (λw b=>(hC w b).mono λe w' h=>by
   rcases h with ⟨i,m,o,r⟩ | ⟨j,m,o,r⟩
   · exact .inl ⟨(nv w w',i),m,⟨⟨(o1 w w').mono b.fr.size,λV z=>(o1 w w').apart (b.vs V z)⟩,r⟩,b.view o (x4 w w') (o1 w w')⟩
   · exact .inr ⟨_,m,j,O,r,b.ext o⟩) (λi a w k b=>y i.1 i.2 b.1.1.1 b.1.1.2 b.1.2 a w k b.2) (λc a w k b=>by
   obtain ⟨j,rfl,m,o⟩:=b
   exact x j m a w k o)
end
variable {dj:List View}
def Ws.sub {b w:World} {F:List Nat} {L:List ah}   (h:Ws b F L dj w) (c:bK bc b_) (d:b_ ∈ dj):Ws b F L (bc::dj) w:=
 ⟨h.fr,h.kn,h.nd,h.own,λV a=>by
   rcases et.1 a with rfl | a
   · exact Le.N4 c (h.vs b_ d)
   · exact h.vs V a,λV a f g k i=>by
   rcases et.1 a with rfl | a
   · cases e:V k with
     | none=>rfl
     | some o=>have:=c k o e; rw [h.off b_ d f g k i] at this; cases this
   · exact h.off V a f g k i⟩
def room (k:Nat) (r:Option Addr×Nat) (w:World):Prop:=∀b o s,r.1=some ⟨b,o,s⟩->0<r.2->s=none/\∃cur T,w.heap[b]? = some (.cells cur T (0,0))/\o+r.2*k<=cur.size
def f_ (r:Option Addr×Nat):Option Nat:=if 0<r.2 then r.1.map (·.block) else none
variable {aB:Nat}
def r7 {r:Option Addr×Nat}  {s:Option Nat} (e:r.1=some ⟨ae,aB,s⟩) (h:0<r.2):f_ r=some ae:=by simp [f_,h,e]
def mA (k:Nat) (m:List (Option Addr×Nat)) (is:List Nat) (n:Nat->Nat->Value->Prop):ah:=
 ⟨is,λw=>(∀b ∈ is,b<w.heap.size)/\(∀r ∈ m,(∀b,f_ r=some b->b ∈ is)/\room k r w)/\∀b p v,n b p v->b ∈ is/\∃f,w.heap[b]? = some f/\gE f p=some v,
 λw w' h a=>⟨λb g=>by
   have c:=a.1 b g;have d:=h b g;rw [sI c] at d
   exact lt_of_heap d,λr i=>⟨(a.2.1 r i).1,λb o s e l=>by
   obtain ⟨c,cur,T,d,j⟩:=(a.2.1 r i).2 b o s e l
   exact ⟨c,cur,T,(h b ((a.2.1 r i).1 b (r7 e l))).trans d,j⟩⟩,λb p v q=>by
   obtain ⟨c,f,d,j⟩:=a.2.2 b p v q
   exact ⟨c,f,(h b c).trans d,j⟩⟩,λw a b g=>a.1 b g⟩
def tt:Nat->Nat->Value->Prop:=λ_ _ _=>False
def tu:List Nat->List Nat
 | []=>[]
 | b::r=>if b ∈ r then tu r else b::tu r
def j7:∀{l:List Nat},ae ∈ tu l↔ae ∈ l
 | []=>Iff.rfl
 | b::r=>by
   unfold tu
   split
   · rename_i h
     rw [j7,et];exact ⟨.inr,λa=>by rcases a with rfl | a; exact h; exact a⟩
   · rw [et,et,j7]
def sF:∀l:List Nat,(tu l).Nodup
 | []=>qc
 | b::r=>by
   unfold tu
   split
   · exact sF r
   · rename_i h
     exact zR.2 ⟨λa=>h (j7.1 a),sF r⟩
variable {a9:Type}
def Q6 {cur vs:List a9}  (h:¬(ae<=aB/\aB<ae+vs.length)) (c:ae+vs.length<=cur.length):(cur.take ae++vs++cur.drop (ae+vs.length))[aB]? = cur[aB]?:=by
 have a:(cur.take ae).length=ae:=by rw [mc]; omega
 rcases lm aB ae with b | b
 · rw [n5,xY Z,i6,a8 b]
 · rw [rK (by rw [bT,a]; omega),CF,bT,a]
   congr 1
   omega
section
variable {P:Program} {ops:Array Oper} {cd:Code} {Q:Exit->Act->World->Prop} {n:Nat} {ds:List Deferred} {l:List (Nat×Value)} {w0:World} {F:List Nat} {L:List ah} {Vs:List View} {rest:List Oper} {ty:TypeId} {pos:String} {af:Array Edge} {g:Option (Nat×Bool)} {k:Nat} {rows:List (Option Addr×Nat)} {is:List Nat} {Kn:Nat->Nat->Value->Prop}
def Q7 {w:World}  (h:Ws w0 F L (bc::Vs) w) (z:eD w0 bc) (A:mz bc Vs)
   (u:∀r ∈ rows,∀b o s,r.1=some ⟨b,o,s⟩->0<r.2->s=none/\∃cur T,bc b=some (.cells cur T (0,0))/\o+r.2*k<=cur.size)
   (B:∀b p v,Kn b p v->(∃r ∈ rows,f_ r=some b)/\vc bc b p=some v):Ws w0 F (mA k rows (tu (rows.filterMap f_)) Kn::L) Vs w:=by
 have m:=h.vs bc au
 have i:∀b,b ∈ tu (rows.filterMap f_)->∃o,bc b=some o:=λb c=>by
   obtain ⟨r,g,e⟩:=CV.1 (j7.1 c);unfold f_ at e
   split at e
   · rename_i n
     obtain ⟨p,C,rfl⟩:=dX.1 e;obtain ⟨b,o,s⟩:=p;obtain ⟨_,cur,T,q,_⟩:=u r g b o s C n;exact ⟨_,q⟩
   · cases e
 refine ⟨h.fr,λf a=>?_,?_,λf a b c=>?_,λV j=>h.vs V (by simp [j]),λV j f a b c=>?_⟩
 · rcases et.1 a with rfl | a
   · refine ⟨λb c=>?_,λr g=>⟨λb e=>j7.2 (CV.2 ⟨r,g,e⟩),λb o s e n=>?_⟩,λb p v D=>?_⟩
     · obtain ⟨o,d⟩:=i b c
       exact lt_of_heap (m b o d)
     · obtain ⟨q,cur,T,l,t⟩:=u r g b o s e n
       exact ⟨q,cur,T,m _ _ l,t⟩
     · obtain ⟨⟨r,g,e⟩,l⟩:=B b p v D
       refine ⟨j7.2 (CV.2 ⟨r,g,e⟩),?_⟩;unfold vc at l;obtain ⟨E,t,G⟩:=cN.1 l;exact ⟨E,m _ _ t,G⟩
   · exact h.kn f a
 · rw [i7,mb]
   refine ⟨sF _,h.nd,λx H y I e=>?_⟩;subst e;obtain ⟨o,d⟩:=i x H;obtain ⟨f,a,J⟩:=ku.1 I;rw [h.off bc au f a x J] at d;cases d
 · rcases et.1 a with rfl | a
   · obtain ⟨o,d⟩:=i b c
     exact .inr (z b o d).1
   · exact h.own f a b c
 · rcases et.1 a with rfl | a
   · obtain ⟨o,d⟩:=i b c
     exact A V j b o d
   · exact h.off V (by simp [j]) f a b c
def WC.mA (a:eD w0 bc) (c:mz bc Vs)
   (d:∀r ∈ rows,∀b o s,r.1=some ⟨b,o,s⟩->0<r.2->s=none/\∃cur T,bc b=some (.cells cur T (0,0))/\o+r.2*k<=cur.size)
   (e:∀b p v,Kn b p v->(∃r ∈ rows,f_ r=some b)/\vc bc b p=some v) (h:∀is,WC P cd Q n ds l (Ws w0 F (mA k rows is Kn::L) Vs)):WC P cd Q n ds l (Ws w0 F L (bc::Vs)):=
 λf w g i=>h _ f w g (Q7 i a c d e)
variable {aU:TypeId} {aW:Value}
def WL.kh {x y:Operand} {b o p q:Nat} {r:Option Addr×Nat}  (i:Nat) (G:Nat->Nat->Value->Prop) (U:dI ops l g) (V:bu l x=some (.pointer (some ⟨b,p,none⟩))) (W:bu l y=some aW) (hL:L[i]? = some (mA k rows is Kn))
   (H:r ∈ rows) (I:r.1=some ⟨b,o,none⟩) (J:0<r.2) (ax:o<=p) (ay:p+q<=o+r.2*k) (X:dV P aU=some q) (z:(dO aW).length=q) (Y:(dO aW).all (·.oneCell')=true)
   (Z:∀a c m,G a c m->Kn a c m/\¬(a=b/\p<=c/\c<p+q))
   (h:WL P ops Q n ds l (Ws w0 F (L.set i (mA k rows is G)) Vs) rest):WL P ops Q n ds l (Ws w0 F L Vs) (⟨none,.store aU x y,ty,pos,af,g⟩::rest):=by
 refine WL.step U λaa w A B az ab=>?_;obtain ⟨ac,t,ad⟩:=(B.kn _ (dY hL):(mA k rows is Kn).holds w);obtain ⟨_,cur,T,u,aA⟩:=(t r H).2 b o none I J
 have ae:mU (.cells cur T (0,0)) p q=true:=by
   simp only [mU,vK,zN,qb];exact xX (by simp; omega)
 have ag:(execOp aa.eval ⟨none,.store aU x y,ty,pos,af,g⟩).run P w = .ok .skip { w with heap:=w.heap.setIfInBounds b (jq (.cells cur T (0,0)) p (dO aW)) }:=by
   simp only [execOp,A.eval V,A.eval W,Instr.storeAt,Instr.sureAddr,Sem.run_bind,Sem.run_pure,Result.andThen_ok,z9 X z Y u ae]
 simp only [Oper.wp,ag,Oper.upon_skip];refine ab _ _ (h _ _ (A.uf undef) ?_);have ah:=lt_of_heap u;have ai:b ∈ is:=(t r H).1 b (r7 I J)
 have K:p+(dO aW).length<=cur.toList.length:=by rw [z]; simp; omega
 have M:(w.heap.setIfInBounds b (jq (.cells cur T (0,0)) p (dO aW)))[b]? = some (.cells (cur.toList.take p++dO aW++cur.toList.drop (p+(dO aW).length)).toArray T (0,0)):=by
   simp [ah,jq]
 have C:∀j,b≠j->(w.heap.setIfInBounds b (jq (.cells cur T (0,0)) p (dO aW)))[j]? = w.heap[j]?:=λj aj=>by simp [qz aj]
 refine Ws.pV B i hL ⟨O,O,O,au,λj _ ak=>?_⟩ ⟨λa al=>?_,λN R=>⟨(t N R).1,λa am an e ao=>?_⟩,λa c m ap=>?_⟩ ?_ (λaB aq=>.inl aq)
 · exact C j λe=>ak (by subst e; exact ai)
 · show a<(w.heap.setIfInBounds b _).size
   simpa using ac a al
 · obtain ⟨D,ar,av,d,E⟩:=(t N R).2 a am an e ao
   refine ⟨D,?_⟩
   by_cases s:b=a
   · subst s
     rw [u] at d
     injection d with d
     injection d with f v
     subst f v;refine ⟨_,_,M,?_⟩;simp at K ⊢;omega
   · exact ⟨ar,av,(C a s).trans d,E⟩
 · obtain ⟨D,d⟩:=Z a c m ap
   obtain ⟨E,aw,f,v⟩:=ad a c m D;refine ⟨E,?_⟩
   by_cases s:b=a
   · subst s
     rw [u] at f
     injection f with f
     subst f;refine ⟨_,M,?_⟩
     show (cur.toList.take p++dO aW++cur.toList.drop (p+(dO aW).length))[c]? = some m
     rw [Q6 (λS=>d ⟨rfl,S.1,by rw [<-z]; exact S.2⟩) K];exact v
   · exact ⟨aw,(C a s).trans f,v⟩
 · have nd:=(B.perm (lp i L hL)).nd
   rw [i7,mb] at nd;exact nd.1
def Jr {x:Operand} {b p:Nat}  {d:Option Tmp} (i:Nat) (a:bu l x=some (.pointer (some ⟨b,p,none⟩))) (hL:L[i]? = some (mA k rows is Kn)) (c:Kn b p aW) (e:mS P aU=true):Yl P l (Ws w0 F L Vs) ⟨d,.load aU x,ty,pos,af,g⟩ aW:=vX e a λw f=>by
 obtain ⟨_,m,h,j⟩:=(f.kn _ (dY hL):(mA k rows is Kn).holds w).2.2 b p aW c;exact cell_of_heap h j
end
variable {cj:Option Addr}
def EG {rd:View->Nat->Nat->a9->Prop}    {xs:List a9}  (h:Sl rd ae bc cj aB xs) (u:0<ae) (i:∀b o x,rd bc b o x->∃v,vc bc b (o+(ae-1))=some v) (j:eD bF bc) (b o:Nat) (s:Option Nat) (e:cj=some ⟨b,o,s⟩) (w:0<xs.length) :
   s=none/\∃cur T,bc b=some (.cells cur T (0,0))/\o+xs.length*ae<=cur.size:=by
 obtain ⟨y,z,a,k⟩:=h.aq (xs.length-1) (xs[xs.length-1]'Z) (dM Z);rw [e] at a
 injection a with a
 injection a with l m n
 subst l m n;obtain ⟨v,hv⟩:=i _ _ _ k;unfold vc at hv;obtain ⟨d,f,g⟩:=cN.1 hv;have c:=(j b d f).2;refine ⟨O,?_⟩
 cases d with
 | cells cur T p=>
   obtain ⟨A,B⟩:=p;simp only [sR,ew] at c;have q:=i5 c.1;have r:=i5 c.2;subst q r;refine ⟨cur,T,f,?_⟩;have t:=(cS.1 (show cur.toList[o+(xs.length-1)*ae+(ae-1)]? = some v from g)).1
   have C:(xs.length-1)*ae+ae=xs.length*ae:=by rw [<-CJ]; congr 1; omega
   simp at t;omega
 | _=>simp [gE] at g
def wO {rd:View->Nat->Nat->a9->Prop}    {xs:List a9} (h:Sl rd ae bc cj aB xs) (a:0<xs.length):∃b o,cj=some (⟨b,o,none⟩:Addr):=by
 obtain ⟨b,o,e,_⟩:=h.aq 0 (xs[0]'a) (dM a);exact ⟨b,o,e⟩
def eD.sub (h:eD bF bc) (v:bK b_ bc):eD bF b_:=λb o a=>h b o (v b o a)
def mz.sub (h:mz bc dj) (v:bK b_ bc):mz b_ dj:=λV a=>(h V a).mono v (bK.refl _)
def mz.cons (h:oC bc b_) (k:mz bc dj):mz bc (b_::dj):=λb a=>by
 rcases et.1 a with rfl | a
 · exact h
 · exact k b a
def yH {α:Type} (f:α->List Value) (k:Nat) (a:Option Addr) (es:List α) (i:Nat):Nat->Nat->Value->Prop:=λb p v=>∃o j e q,a=some (⟨b,o,none⟩:Addr)/\i<=j/\es[j]? = some e/\(f e)[q]? = some v/\p=o+j*k+q
def Q8 {f:a9->List Value}   {es:List a9} {i d c:Nat} (g:cj=some ⟨d,c,none⟩) (b p:Nat) (v:Value) (h:yH f ae cj es (i+1) b p v):yH f ae cj es i b p v/\¬(b=d/\c+i*ae<=p/\p<c+i*ae+ae):=by
 obtain ⟨o,j,e,q,a,k,l,m,rfl⟩:=h;refine ⟨⟨o,j,e,q,a,Z,l,m,O⟩,λ⟨_,_,r⟩=>?_⟩;rw [g] at a
 injection a with a
 injection a with _ a
 subst a;have n:=sJ ae k;rw [CJ] at n;omega
section
variable {P:Program} {cd:Code} {Q:Exit->Act->World->Prop} {n:Nat} {ds:List Deferred} {l:List (Nat×Value)} {w0:World} {F:List Nat} {L:List ah} {Vs:List View} {α:Type} {rd:View->Nat->Nat->α->Prop} {k c:Nat} {H:View} {a:Option Addr} {xs:List α}
def WC.Bc (h:Sl rd k H a c xs) (g:0<k) (i:∀b o x,rd H b o x->∃v,vc H b (o+(k-1))=some v) (d:eD w0 H) (j:mz H Vs) (m:∀is,WC P cd Q n ds l (Ws w0 F (Bw.mA k [(a,xs.length)] is tt::L) Vs)):WC P cd Q n ds l (Ws w0 F L (H::Vs)):=
 WC.mA d j (λr f b o s e p=>by
   rw [fH] at f;subst f
   exact EG h g i d b o s e p) (λ_ _ _ h=>h.elim) m
def WC.Q9 {f:α->List Value} (h:Sl rd k H a c xs) (g:0<k) (i:∀b o x,rd H b o x->cw H b o (f x)) (y:∀x,(f x).length=k) (m:eD w0 H) (z:mz H Vs) (A:∀is,WC P cd Q n ds l (Ws w0 F (Bw.mA k [(a,xs.length)] is (yH f k a xs 0)::L) Vs)):WC P cd Q n ds l (Ws w0 F L (H::Vs)):=
 WC.mA m z (λr t b o s e B=>by
   rw [fH] at t;subst t
   exact EG h g (λb o x C=>⟨(f x)[k-1]'(by rw [y]; omega),i b o x C (k-1) _ (dM _)⟩) m b o s e B) (λb p v g=>by
   obtain ⟨o,j,e,q,u,J,w,D,rfl⟩:=g;obtain ⟨K,M,d,E⟩:=h.aq j e w;rw [u] at d
   injection d with d
   injection d with G I
   subst G I
   exact ⟨⟨_,fH.2 O,r7 u (Nat.lt_of_le_of_lt (cx j) (cS.1 w).1)⟩,i _ _ _ E q v D⟩) A
end
end Go.Bw
end
section
namespace Go.Proofs.YtgeahfjicmlocaaGreatDoor.Mch
open Go.Bw Go.Proofs.Tryz
structure bX where
 op:Int
 a:Int
 b:Int
deriving DecidableEq
def bX.cells (x:bX):List Value:=[.int .i64 x.op,.int .i64 x.a,.int .i64 x.b]
def iE (H:View) (b o:Nat) (x:bX):Prop:=cw H b o x.cells
def goes (op:Int):Bool:=op==11||op==12||op==13
def within (n a b:Int):Bool:=decide (a<=n)&&decide (n<=b)
def Bd (i:bX):Bool:=decide (i.op<1)||decide (22<i.op)
def iF (code:List bX) (data:Int):Int:=
 if (decide ((code.length:Int)<1)||decide (2048<(code.length:Int)))=true then 2
 else if code.any Bd=true then 4
 else if (decide (data<0)||decide (512<data))=true then 3 else 0
variable {a9:Type}
def any_false {p:a9->Bool} {l:List a9} (h:∀(j:Nat) (x:a9),l[j]? = some x->p x=false):l.any p=false:=by
 rw [vO];intro x a;obtain ⟨j,b⟩:=ln a;simp [h j x b]
def any_true {p:a9->Bool} {l:List a9} {j:Nat} {x:a9} (a:l[j]? = some x) (h:p x=true):l.any p=true:=ey.2 ⟨x,gu a,h⟩
def jB:cJ prog 57 0=some 0:=aa
def d_:ga prog 55=some 3:=aa
def lE:ig prog 62=some 3:=aa
def gq:zeroOf prog 62=some (.agg #[.int .i64 0,.int .i64 0,.int .i64 0]):=aa
def jU:dV prog 62=some 3:=aa
def l3:cJ prog 62 0=some 0:=aa
def tv:cJ prog 57 1=some 1:=aa
def Js (H:View) (a:Option Addr) (c:Nat) (code:List bX) (data:Int) (w:World) (s:Le H w) (k:Sl iE 3 H a c code) :
   Calls prog 81 #[.agg #[.slice a code.length c,.int .i64 data]] w λe w'=>e = .returned (.int .i64 (iF code data))/\Ext w w':=by
 have y:=k.cap;have z:=k.max;refine enter func81 O 39 O O ?_;refine CE (Vs:=[H]) (Ws.init (by simp [s])) (ac ?_);refine WL.box Y O O λA=>?_;refine ai O (ad (Cs (ac (I (Yf jB O) (I (Yd 0 O O O aa) (I (Yn d_ O) (I (cy O O) (ab O ?_))))))));apply Lo 4 O O O O Y O O O O O
 ·intro B;refine Vg (Yf jB O) (Vg (Yd 0 O O O aa) (Vg (Yn d_ O) (Vg (ed O O) ?_)));exact Gt 4 O O O
 refine ad ?_;refine Cc O (λd=>?_) (λd=>?_)
 ·refine ac (ai O (ad (aZ (Er ?_))));refine R1 O O λw' b=>?_;exact ⟨by rw [iF,a8 d],b.fr⟩
 refine am (Cs (ac (I (Yf jB O) (I (Yd 0 O O O aa) (I (Yn d_ O) (ab O (ad (Cb ?_))))))));refine fT (ι:=Nat) (λi=>[(18,.int .i64 (i:Int))]) [(1,_),(16,_),(17,_)] (λi=>i<=code.length/\∀j x,j<i->code[j]? = some x->Bd x=false) (λi=>code.length-i) 0 ⟨cx _,au⟩ ?_;intro i ⟨hi,q⟩;refine ac (I (cy O O) (ad (Cs ?_)));refine Cc O (λl=>?_) (λl=>?_)
 ·have t:i<code.length:=by simpa using l
  obtain ⟨x,m⟩:=dw t;obtain ⟨u,v,C,n⟩:=k.aq i x m;have n:cw H u (v+i*3) x.cells:=n;refine am (Cs (Cb (ac (I (Yo d_ O O sH Z) (I (eq 0 lE O O O (n)) ?_)))));refine Al Y O gq λD=>?_;refine aT 0 Y O O O jU O O O (ad (ac (I (Yf l3 O) (I (Yd 0 O O O aa) (I (cy O O) (ab O ?_))))));apply Lo 3 O O O O Y O O O O O
  ·intro E;refine Vg (Yf l3 O) (Vg (Yd 0 O O O aa) (Vg (ed O O) ?_));exact Gt 3 O O O
  refine ad ?_;refine Cc O (λo=>?_) (λo=>?_)
  ·refine ac (ai O (ad (aZ (cf (Er (Er (cf (Er ?_))))))));refine R1 O O λw' b=>?_;exact ⟨by rw [iF,av (by simp [d]),a8 (any_true m o)],b.fr⟩
  refine Ck (Eb (Et (Cr (I (Yi O O O Z) (ab O (Ln ?_))))));exact ct (i+1) Z ⟨Z,λj x g f=>by rcases gT.1 g with h | rfl; exact q j x h f; rw [m] at f; injection f with f; subst f; exact o⟩ (λ_ h=>Wd 1 h)
 have F:¬i<code.length:=by simpa using l
 have r:code.any Bd=false:=any_false λj x g=>q j x (by have:=(cS.1 g).1; omega) g;refine Ce (Ex (Ex (cU (Et (Cs (ac (I (Yf tv O) (I (Yd 0 O O O aa) (I (cy O O) (ab O ?_))))))))));apply Lo 3 O O O O Y O O O O O
 ·intro G;refine Vg (Yf tv O) (Vg (Yd 0 O O O aa) (Vg (ed O O) ?_));exact Gt 3 O O O
 refine ad ?_;refine Cc O (λp=>?_) (λp=>?_)
 ·refine ac (ai O (ad (aZ (Er ?_))));refine R1 O O λw' b=>?_;exact ⟨by rw [iF,av (by simp [d]),av (by simp [r]),a8 p],b.fr⟩
 refine am (ac (ai O (ad (aZ ?_))));refine R1 O O λw' b=>?_;exact ⟨by rw [iF,av (by simp [d]),av (by simp [r]),av (by simp [p])],b.fr⟩
end Go.Proofs.YtgeahfjicmlocaaGreatDoor.Mch
end
section
namespace Go.Proofs.YtgeahfjicmlocaaGreatDoor.Mch
open Go.Bw Go.Proofs.Tryz
def i3 (b:Bool):Int:=if b=true then 1 else 0
def h2 (op a b:Int):Int×Bool:=
 if (op==9)=true then (IntKind.i64.wrap (a+b),true) else if (op==10)=true then (IntKind.i64.wrap (a-b),true) else if (op==11)=true then (IntKind.i64.wrap (a*b),true)
 else if (op==14)=true then (i3 (a==b),true) else if (op==15)=true then (i3 (decide (a<b)),true) else (0,false)
def nG (op a b:Int):Int×Bool:=
 if (op==9)=true then (IntKind.i64.wrap (a+b),true) else if (op==10)=true then (IntKind.i64.wrap (a-b),true) else if (op==11)=true then (IntKind.i64.wrap (a*b),true)
 else if (op==12)=true then (if (b==0)=true then (0,false) else (IntKind.i64.wrap (a.tdiv b),true)) else if (op==13)=true then (if (b==0)=true then (0,false) else (a.tmod b,true))
 else if (op==14)=true then (i3 (a==b),true) else (i3 (decide (a<b)),true)
def tw (op:Int):Bool:=op==9||op==10||op==11||op==14||op==15
def bX.dk (x:bX):x.cells.length=3:=rfl
def Be (b:Bool) (w:World) :
   Calls prog 153 #[.bool b] w λe w'=>e = .returned (.int .i64 (i3 b))/\Ext w w':=by
 refine enter func153 O 4 O O ?_;refine CE (Vs:=[]) (Ws.init au) (ac (ai O (ad (Cs (ac (ab O (ad ?_)))))));refine Cc O (λc=>?_) (λc=>?_)
 ·refine ac (ai O (ad (aZ (Er ?_))));refine R1 O O λw' a=>?_;exact ⟨by simp [i3, *],a.fr⟩
 refine am (ac (ai O (ad (aZ ?_))));refine R1 O O λw' a=>?_;exact ⟨by simp [i3, *],a.fr⟩
def Jt (op a b:Int) (w:World) :
   Calls prog 146 #[.int .i64 op,.int .i64 a,.int .i64 b] w λe w'=>e = .returned (.tuple #[.int .i64 (h2 op a b).1,.bool (h2 op a b).2])/\Ext w w':=by
 refine enter func146 O 36 O O ?_;refine CE (Vs:=[]) (Ws.init au) (ac (ai O (ai O (ad (Cs (ac (ab O (ad (Cb (ac (I (bx O O) ?_)))))))))));refine ai O (ad ?_);refine Cc O (λd=>?_) (λd=>?_)
 ·refine ac (ab O (ab O (I (sT O O) (ai O (ai O (ad (aZ (cf (Er ?_)))))))));refine WE.jp O O O λw' c=>?_;exact ⟨by simp [h2, *],c.fr⟩
 refine ac (I (bx O O) (ai O (ad ?_)));refine Cc O (λf=>?_) (λf=>?_)
 ·refine ac (ab O (ab O (I (z3 O O) (ai O (ai O (ad (aZ (cf (Er ?_)))))))));refine WE.jp O O O λw' c=>?_;exact ⟨by simp [h2, *],c.fr⟩
 refine ac (I (bx O O) (ai O (ad ?_)));refine Cc O (λg=>?_) (λg=>?_)
 ·refine ac (ab O (ab O (I (Ha O O) (ai O (ai O (ad (aZ (cf (Er ?_)))))))));refine WE.jp O O O λw' c=>?_;exact ⟨by simp [h2, *],c.fr⟩
 refine ac (I (bx O O) (ai O (ad ?_)));refine Cc O (λh=>?_) (λh=>?_)
 ·refine ac (ab O (ab O (I (bx O O) (Lp Y O aK O (λw c=>Be _ w) (ai O (ai O (ad (aZ (cf (Er ?_))))))))));refine WE.jp O O O λw' c=>?_;exact ⟨by simp [h2, *],c.fr⟩
 refine ac (I (bx O O) (ai O (ad ?_)));refine Cc O (λi=>?_) (λi=>?_)
 ·refine ac (ab O (ab O (I (cy O O) (Lp Y O aK O (λw c=>Be _ w) (ai O (ai O (ad (aZ (cf (Er ?_))))))))));refine WE.jp O O O λw' c=>?_;exact ⟨by simp [h2, *],c.fr⟩
 refine Ck (Eb (Et (ac (ai O (ai O (ad (aZ ?_)))))));refine WE.jp O O O λw' c=>?_;exact ⟨by simp [h2, *],c.fr⟩
end Go.Proofs.YtgeahfjicmlocaaGreatDoor.Mch
end
section
namespace Go.Proofs.YtgeahfjicmlocaaGreatDoor.Mch
open Go.Bw Go.Proofs.Tryz
def iv (x:Int):List Value:=[.int .i64 x]
def hO (x:Int):(iv x).length=1:=rfl
structure e6 where
 la:Option Addr
 lc:Nat
 loc:List Int
 back:Int
def e6.cells (f:e6):List Value:=[.slice f.la f.loc.length f.lc,.int .i64 f.back]
def e6.own (f:e6):ah:=cW 3 1 iv f.la f.lc f.loc
structure Pm where
 at_:Int
 pi:Int
 steps:Int
 stack:List Int
 cB:List (List Int×Int)
 cr:List Int
 out:List Int
 data:List Int
 cH:Int
structure a0 where
 at_:Int
 pi:Int
 steps:Int
 stack:List Int
 cB:List e6
 cr:List Int
 out:List Int
 data:List Int
 cH:Int
 sa:Option Addr
 sc:Nat
 fa:Option Addr
 fc:Nat
 ia:Option Addr
 ic:Nat
 oa:Option Addr
 oc:Nat
 da:Option Addr
 dc:Nat
def e6.pu (f:e6):List Int×Int:=(f.loc,f.back)
def a0.pu (s:a0):Pm:=⟨s.at_,s.pi,s.steps,s.stack,s.cB.map e6.pu,s.cr,s.out,s.data,s.cH⟩
def a0.obj (s:a0):Obj:=.cells #[.int .i64 s.at_,.int .i64 s.pi,.int .i64 s.steps,.slice s.sa s.stack.reverse.length s.sc,.slice s.fa s.cB.reverse.length s.fc,.slice s.ia s.cr.length s.ic,.int .i64 0,.slice s.oa s.out.length s.oc,.slice s.da s.data.length s.dc,.int .i64 s.cH] 163 (0,0)
abbrev a0.own (b:Nat) (s:a0):List ah:=[aE b s.obj,cW 3 1 iv s.sa s.sc s.stack.reverse,cW 269 2 e6.cells s.fa s.fc s.cB.reverse,cW 3 1 iv s.oa s.oc s.out,cW 3 1 iv s.da s.dc s.data,fK (s.cB.map e6.own)]
inductive Rz (α:Type) where
 | ok (a:α) (m:Pm)
 | ov (e:Int) (m:Pm)
def Rz.bind {α b:Type} (r:Rz α) (f:α->Pm->Rz b):Rz b:=match r with
 | .ok a m=>f a m
 | .ov e m=>.ov e m
def pj (e:Int):List PanicEntry:=[⟨.iface 165 (.agg #[.int .i64 e]),false,false⟩]
def dR (m:Pm):Rz Int:=match m.stack with
 | []=>.ov 6 m
 | x::r=>.ok x { m with stack:=r }
def ki (n:Int) (m:Pm):Rz Unit:=if m.stack.length=2048 then .ov 6 m else .ok () { m with stack:=n::m.stack }
def uV (m:Pm):Rz Unit:=if m.cH=m.pi then .ov 3 m else .ok () { m with cH:=IntKind.i64.wrap (m.cH+1) }
def nI (op:Int) (m:Pm):Rz Unit:=if (decide (op<9)||decide (15<op))=true then .ov 6 m else (dR m).bind λb m=>(dR m).bind λa m=>
 if (h2 op a b).2=true then ki (h2 op a b).1 m else if b=0 then .ov 1 m else ki (if op=13 then a.tmod b else IntKind.i64.wrap (a.tdiv b)) m
def tx (a b:Int) (m:Pm):Rz Unit:=if ((((decide (a<0)||decide (b<0))||decide (2048<a))||decide (IntKind.i64.wrap (2048-a)<b))||decide ((m.stack.length:Int)<a))=true then .ov 6 m
 else .ok () { m with stack:=m.stack.drop a.toNat,cB:=match m.cB with | []=>[] | f::r=>((m.stack.take a.toNat).reverse++List.replicate b.toNat 0,f.2)::r }
def uW (to:Int) (m:Pm):Rz Unit:=(uV m).bind λ_ m=>if 24<m.cB.length then .ov 4 m else .ok () { m with cB:=([],m.at_)::m.cB,at_:=to }
def wQ (m:Pm):Rz Unit:=if m.cB.length=1 then .ov 6 m else match m.cB with | []=>.ov 6 m | f::r=>.ok () { m with at_:=f.2,cB:=r }
def pk (m:Pm):Int×Pm:=match m.cr with | []=>(0,m) | x::r=>(x,{ m with cr:=r })
def aN (at_:Int) (n:Nat):Bool:=decide (at_<0)||decide ((n:Int)<=at_)
def Q':hx prog 165=some [(0,1)]:=aa
def Ju:zeroOf prog 165=some (.agg #[.int .i64 0]):=aa
def Q_:prog.concrete 165=true:=aa
def Ra (b:Bool) (e:Int) (w:World) :
   Calls prog 84 #[.bool b,.int .i64 e] w λd w'=>(∃_:Unit,d = .returned (.tuple #[])/\b=false/\Ext w w')\/(∃_:Unit,d = .panicked (pj e)/\b=true/\Ext w w'):=by
 refine enter func84 O 8 O O ?_;refine CE (Vs:=[]) (Ws.init au) (ac (ab O (ad ?_)));refine Cc O (λa=>?_) (λa=>?_)
 ·refine Cr (ab O (I (Yb Ju Q' O O) (I (pZ Q_ O) ?_)));refine WL.panic Y O ?_;refine an λw' c=>?_;exact .inr ⟨(),O,a,c.fr⟩
 refine Ck ?_;refine E0 O λw' c=>?_;exact .inl ⟨(),O,a,c.fr⟩
end Go.Proofs.YtgeahfjicmlocaaGreatDoor.Mch
end
section
namespace Go.Proofs.YtgeahfjicmlocaaGreatDoor.Mch
open Go.Bw Go.Proofs.Tryz
def jD (H:View) (b o:Nat) (x:Int):Prop:=vc H b o=some (.int .i64 x)
def pn (H:View) (b o:Nat) (x:Int) (h:cw H b o (iv x)):jD H b o x:=h 0 _ rfl
def e6.dk (f:e6):f.cells.length=2:=rfl
structure a0.iO (HI:View) (s:a0):Prop where
 cr:Sl jD 1 HI s.ia s.ic s.cr
 gL:s.stack.length<=2048
 jW:1<=s.cB.length/\s.cB.length<=25
 out:s.out.length<=200
 jz:s.data.length<=512
abbrev a0.eK (s:a0) (r:List Int):a0:={ s with stack:=r }
def a0.iO.stack {a:View} {s:a0} (h:s.iO a) {r:List Int} {sa:Option Addr} {sc:Nat} (b:r.length<=2048):a0.iO a { s with stack:=r,sa:=sa,sc:=sc }:=⟨h.cr,b,h.jW,h.out,h.jz⟩
def r8 {α:Type} (f:FuncId) (vs:List Value) (c:Pm->Rz α) (v:α->Value):Prop:=Enters prog f/\∀(a:Nat) (s:a0) (b:View) (w:World),s.iO b->Ws w ((a0.own a s).flatMap ah.ids) (a0.own a s) [b] w->Calls prog f (.pointer (some ⟨a,0,none⟩)::vs).toArray w λe w'=>
 (∃r:α×a0,e = .returned (v r.1)/\(c s.pu = .ok r.1 r.2.pu/\r.2.iO b)/\Ws w ((a0.own a s).flatMap ah.ids) (a0.own a r.2) [b] w')\/(∃r:Int×a0,e = .panicked (pj r.1)/\c s.pu = .ov r.1 r.2.pu/\Ws w ((a0.own a s).flatMap ah.ids) (a0.own a r.2) [b] w')
def kJ {α:Type} {f:FuncId} {vs:List Value} {c:Pm->Rz α} {v:α->Value} {a:Nat} {s:a0} {b:View} {ops:Array Oper} {Q:Exit->Act->World->Prop} {n:Nat} {ds:List Deferred} {l:List (Nat×Value)} {e:World} {F:List Nat} {L L2:List ah} {Vs:List View} {rest:List Oper} {d:Nat} {ty:TypeId} {pos:String} {af:Array Edge} {g:Option (Nat×Bool)} {args:Array Operand} {ts:Array TypeId} (hC:r8 f vs c v) (h:s.iO b)
   (i:∀r:Int×a0,c s.pu = .ov r.1 r.2.pu->WE Q (.panic (pj r.1)) n ds l (Ws e F (a0.own a r.2++L2) Vs)) (j:∀r:α×a0,(c s.pu = .ok r.1 r.2.pu/\r.2.iO b)->WL prog ops Q n ds ((d,v r.1)::l) (Ws e F (a0.own a r.2++L2) Vs) rest)
   (k:g2 l args.toList=some (.pointer (some ⟨a,0,none⟩)::vs):=by rfl) (hL:L=a0.own a s++L2:=by rfl) (m:∀o ∈ [b],o ∈ Vs:=by simp) (p:dI ops l g:=by first | exact .inl rfl | exact .inr ⟨_,_,_,rfl,rfl,rfl⟩) (q:Nat.blt d n=true:=by rfl):WL prog ops Q n ds l (Ws e F L Vs) (⟨some d,.call ⟨.value (.func f),args,ts⟩,ty,pos,af,g⟩::rest):=
 yi (ι:=α×a0) (κ:=Int×a0) (a0.own a s) L2 p q hC.1 k hL (λr=>v r.1) (λr=>a0.own a r.2) (λr=>c s.pu = .ok r.1 r.2.pu/\r.2.iO b) (λr=>pj r.1) (λr=>a0.own a r.2) (λr=>c s.pu = .ov r.1 r.2.pu) [b] m (λw t=>hC.2 a s b w h t) i j
def a':ga prog 29=some 1:=aa
def lF:cJ prog 163 3=some 3:=aa
def mixed:prog.follows .mixedOrders=true:=aa
def po:dV prog 29=some 1:=aa
def kj:hc prog 29 3 (.int .i64 0) 1 8:=jr aa
def m4 {c:Bool} {a:Int} {ops:Array Oper} {Q:Exit->Act->World->Prop} {n:Nat} {ds:List Deferred} {l:List (Nat×Value)} {b:World} {F:List Nat} {L:List ah} {Vs:List View} {rest:List Oper} {d:Nat} {ty:TypeId} {pos:String} {af:Array Edge} {g:Option (Nat×Bool)} {args:Array Operand} {ts:Array TypeId} (m:c=true->WE Q (.panic (pj a)) n ds l (Ws b F (L) Vs)) (o:c=false->WL prog ops Q n ds ((d,.tuple #[])::l) (Ws b F (L) Vs) rest) (p:g2 l args.toList=some [.bool c,.int .i64 a]:=by rfl) (q:dI ops l g:=by first | exact .inl rfl | exact .inr ⟨_,_,_,rfl,rfl,rfl⟩) (r:Nat.blt d n=true:=by rfl):WL prog ops Q n ds l (Ws b F L Vs) (⟨some d,.call ⟨.value (.func 84),args,ts⟩,ty,pos,af,g⟩::rest):=
 yi (ι:=Unit) (κ:=Unit) [] L q r aK p rfl (λ_=>.tuple #[]) (λ_=>[]) (λ_=>c=false) (λ_=>pj a) (λ_=>[]) (λ_=>c=true) [] au (λw k=>(Ra c a w).mono λe w' h=>by
   rcases h with ⟨_,f,i,j⟩ | ⟨_,f,i,j⟩
   · exact .inl ⟨(),f,i,k.ext j⟩
   · exact .inr ⟨(),f,i,k.ext j⟩) (λ_ h=>m h) (λ_ h=>o h)
def Rc (b:Nat) (s:a0) (f:View)  (w:World) (g:s.iO f) (i:Ws w ((a0.own b s).flatMap ah.ids) (a0.own b s) [f] w) :
   Calls prog 152 #[.pointer (some ⟨b,0,none⟩)] w λe w'=>(∃r:Int×List Int,e = .returned (.int .i64 r.1)/\(dR s.pu = .ok r.1 (a0.eK s r.2).pu/\(a0.eK s r.2).iO f)/\Ws w ((a0.own b s).flatMap ah.ids) (a0.own b (a0.eK s r.2)) [f] w')\/(∃r:Int×a0,e = .panicked (pj r.1)/\dR s.pu = .ov r.1 r.2.pu/\Ws w ((a0.own b s).flatMap ah.ids) (a0.own b r.2) [f] w'):=by
 have l:s.stack.reverse.length=s.stack.length:=au
 have n:s.cB.reverse.length=s.cB.length:=au
 have o:=g.gL;have t:=g.jW;have u:=g.out;have v:=g.jz;refine enter func152 O 38 O O ?_;refine CE i (ac (ai O (ad (ac (ab O (I (bV O) (I (Yf lF O) (I (Yd 0 O O O aa) ?_))))))));refine I (Yn a' O) (I (bx O O) ?_);refine m4 (c:=((s.stack.reverse.length:Nat):Int)==0) ?_ ?_
 ·intro j;refine Ep ?_;refine an λw' i=>?_;refine .inr ⟨(6,s),O,?_,i⟩
  have a:s.stack=[]:=by
    cases h:s.stack with
    | nil=>rfl
    | cons x r=>
      rw [l,h] at j;simp at j;omega
  unfold dR;rw [show s.pu.stack=[] from a]
 intro j;refine ad (Cs ?_)
 obtain ⟨x,r,a⟩:∃x r,s.stack=x::r:=by
   cases h:s.stack with
   | nil=>rw [l,h] at j; cases j
   | cons x r=>exact ⟨x,r,rfl⟩
 refine WC.Ar 1 O (by rw [l,a]; simp) λz m A B=>?_
 have C:s.stack.length=r.length+1:=by rw [a]; rfl
 refine CU (λ_=>true) [] [] (.q false 0 (.q false 1 (.q false 2 (.q true 3 (.q false 4 (.q false 5 (.q false 6 (.q true 7 (.q false 8 (.q false 9 (.q false 10 (.q true 11 (.q false 12 .nil))))))))))))) mixed aa (λ_ _ _ d _ _ h=>by cases d<;>exact h) ?_;refine U0 O ag (Ym O) (U0 O ag (bV O) (U0 O ag (Yf lF O) (U0 O ag (Yd 0 O O O aa) (U0 O ag (Ym O) (U0 O ag (bV O) (U0 O ag (Yf lF O) (U0 O ag (Yd 0 O O O aa) ?_)))))));refine U0 O ag (Yn a' O) (U0 O ag (n_ ((r.length:Nat):Int) O O Z Z) (U0 O ag (Yo a' O O m Z) ?_));refine U0 O ag (uu (y:=x) 1 r.length 0 O O m O hO (by rw [a,vR,rK au]; simp) O aa) ?_;refine U0 O ag (Ya O) ?_;refine WU.nil ag ?_;refine WS.nil ?_;refine Et (Cs ?_);refine CU (λ_=>true) [] [14] (.q false 0 (.q false 1 (.q false 2 (.q false 3 (.q true 4 (.q false 5 (.q false 6 (.q false 7 (.q true 8 (.q false 9 (.q false 10 (.q false 11 (.q false 12 (.q false 13 .nil)))))))))))))) mixed aa (λ_ _ _ d _ _ h=>by cases d<;>exact h) ?_;refine U0 O ag (Ym O) (U0 O ag (Ym O) (U0 O ag (bV O) (U0 O ag (Yf lF O) (U0 O ag (Yd 0 O O O aa) (U0 O ag (Ym O) (U0 O ag (bV O) (U0 O ag (Yf lF O) ?_)))))));refine U0 O ag (Yd 0 O O O aa) (U0 O ag (Yn a' O) (U0 O ag (n_ ((r.reverse.length:Nat):Int) O O (by simp; omega) (by simp; omega)) (U0 O ag (rW r.reverse.length a' O (λp k=>by rw [m] at k; injection k with k; subst k; rfl) O O (by simp; omega)) (U0 O ag (bV O) (U0 O ag (Yf lF O) ?_)))));refine WU.nil ag ?_;refine WS.e O ?_;refine aT 0 Y O O O po O O O ?_;refine WL.ym 1 r.reverse O hO (by simp [a]) (by rw [a]; simp) ?_;refine Ln (Es ?_);refine WS.nil ?_;refine Et (ac (ab O (ai O (ad (aZ ?_)))));refine R1 O O λw' i=>?_;refine .inl ⟨(x,r),O,⟨?_,a0.iO.stack (r:=r) (sa:=s.sa) (sc:=s.sc) g Z⟩,i⟩;unfold dR;rw [show s.pu.stack=x::r from a]
 rfl
def pp (n:Int):r8 149 [.int .i64 n] (ki n) (λi:Unit=>.tuple #[]):=by
 refine ⟨aK,λk s l w a b=>?_⟩
 have e:s.stack.reverse.length=s.stack.length:=au
 have m:s.cB.reverse.length=s.cB.length:=au
 have o:=a.gL;have p:=a.jW;have q:=a.out;have r:=a.jz;refine enter func149 O 21 O O ?_;refine CE b (ac (ab O (I (bV O) (I (Yf lF O) (I (Yd 0 O O O aa) (I (Yn a' O) (I (bx O O) ?_)))))));refine m4 (c:=((s.stack.reverse.length:Nat):Int)==2048) ?_ ?_
 ·intro d;refine Ep ?_;refine an λw' b=>?_;exact .inr ⟨(6,s),O,by rw [ki,a8 (show s.pu.stack.length=2048 from by rw [e] at d; simp at d; show s.stack.length=2048; omega)],b⟩
 intro d;refine ad ?_
 have f:¬s.stack.length=2048:=by intro h; rw [e,h] at d; cases d
 refine Cr (ab O (ab O (I (bV O) (I (Yf lF O) (I (Yd 0 O O O aa) (ab O ?_))))));refine Lb Y O kj O O O O λt=>?_;refine LA n 2 0 Y O kj O O O O O O Z Z λg j=>?_;rw [show s.stack.reverse++[n]=(n::s.stack).reverse by simp];refine I (bV O) (I (Yf lF O) (aT 1 Y O O O po O O O (Ln ?_)));refine E0 O λw' b=>?_;exact .inl ⟨((),{ s with stack:=n::s.stack,sa:=g,sc:=j }),O,⟨by rw [ki,av (show ¬s.pu.stack.length=2048 from f)]; rfl,a.stack (by simp; omega)⟩,Wd 1 b⟩
end Go.Proofs.YtgeahfjicmlocaaGreatDoor.Mch
end
section
namespace Go.Proofs.YtgeahfjicmlocaaGreatDoor.Mch
open Go.Bw Go.Proofs.Tryz
def r9:cJ prog 163 4=some 4:=aa
def wR:ga prog 160=some 2:=aa
def oD:cJ prog 163 6=some 6:=aa
def Bf:cJ prog 64 3=some 3:=aa
def Rd:cJ prog 163 1=some 1:=aa
def dr:dV prog 3=some 1:=aa
def Bg:cJ prog 163 5=some 5:=aa
def m5 {a:Nat} {s:a0} {b:View} {ops:Array Oper} {Q:Exit->Act->World->Prop} {n:Nat} {ds:List Deferred} {l:List (Nat×Value)} {c:World} {F:List Nat} {L L2:List ah} {Vs:List View} {rest:List Oper} {d:Nat} {ty:TypeId} {pos:String} {af:Array Edge} {g:Option (Nat×Bool)} {args:Array Operand} {ts:Array TypeId} (e:s.iO b)
   (f:∀r:Int×a0,dR s.pu = .ov r.1 r.2.pu->WE Q (.panic (pj r.1)) n ds l (Ws c F (a0.own a r.2++L2) Vs)) (h:∀r:Int×List Int,(dR s.pu = .ok r.1 (a0.eK s r.2).pu/\(a0.eK s r.2).iO b)->WL prog ops Q n ds ((d,.int .i64 r.1)::l) (Ws c F (a0.own a (a0.eK s r.2)++L2) Vs) rest)
   (i:g2 l args.toList=some [.pointer (some ⟨a,0,none⟩)]:=by rfl) (hL:L=a0.own a s++L2:=by rfl) (j:∀k ∈ [b],k ∈ Vs:=by simp) (m:dI ops l g:=by first | exact .inl rfl | exact .inr ⟨_,_,_,rfl,rfl,rfl⟩) (o:Nat.blt d n=true:=by rfl):WL prog ops Q n ds l (Ws c F L Vs) (⟨some d,.call ⟨.value (.func 152),args,ts⟩,ty,pos,af,g⟩::rest):=
 yi (ι:=Int×List Int) (κ:=Int×a0) (a0.own a s) L2 m o aK i hL (λr=>.int .i64 r.1) (λr=>a0.own a (a0.eK s r.2)) (λr=>dR s.pu = .ok r.1 (a0.eK s r.2).pu/\(a0.eK s r.2).iO b) (λr=>pj r.1) (λr=>a0.own a r.2) (λr=>dR s.pu = .ov r.1 r.2.pu) [b] j (λw p=>Rc a s b w e p) f h
def Re (a:Option Addr) (c n:Nat) (i:Int) (w:World) (h:0<n->∃b o,a=some ⟨b,o,none⟩) :
   Calls prog 150 #[.slice a n c,.int .i64 i] w λe w'=>(∃r:Nat×Nat,e = .returned (.pointer (some ⟨r.1,r.2+i.toNat*1,none⟩))/\(aN i n=false/\a=some ⟨r.1,r.2,none⟩)/\Ext w w')\/(∃_:Unit,e = .panicked (pj 6)/\aN i n=true/\Ext w w'):=by
 refine enter func150 O 17 O O ?_;refine CE (Vs:=[]) (Ws.init au) (ac (ai O (ad (ac (ab O (I (cy O O) (ab O ?_)))))));apply Lo 4 O O O O Y O O O O O
 ·intro k;refine Vg (Ym O) (Vg (Ym O) (Vg (Yn a' O) (Vg (ih O O) ?_)));exact Gt 4 O O O
 refine m4 (c:=aN i n) ?_ ?_
 ·intro d;refine Ep ?_;refine an λw' f=>?_;exact .inr ⟨(),O,d,f.fr⟩
 intro d;refine ad (Cs ?_)
 have g:0<=i/\i<n:=by
   unfold aN at d;simp at d;omega
 obtain ⟨j,co,rfl⟩:=h Z;refine Cr (ab O (ab O (I (x6 a' O O g.1 g.2) (ai O (ad (aZ ?_))))));refine R1 O O λw' f=>?_;exact .inl ⟨(j,co),O,⟨d,O⟩,f.fr⟩
def Rf (a:Nat) (s:a0) (c:View)  (w:World) (b:s.iO c) (f:Ws w ((a0.own a s).flatMap ah.ids) (a0.own a s) [c] w) :
   Calls prog 151 #[.pointer (some ⟨a,0,none⟩)] w λe w'=>∃r:Nat,e = .returned (.pointer (some ⟨r,0+(s.cB.length-1)*2,none⟩))/\s.fa=some ⟨r,0,none⟩/\Ws w ((a0.own a s).flatMap ah.ids) (a0.own a s) [c] w':=by
 have k:s.stack.reverse.length=s.stack.length:=au
 have i:s.cB.reverse.length=s.cB.length:=au
 have l:=b.gL;have m:=b.jW;have n:=b.out;have o:=b.jz;refine enter func151 O 14 O O ?_;refine CE f (ac (ai O (ad (Cs ?_))));refine WC.Ar 2 O Z λj g p t=>?_;refine CU (λ_=>true) [] [] (.q false 0 (.q false 1 (.q false 2 (.q true 3 (.q false 4 (.q false 5 (.q false 6 (.q true 7 (.q false 8 (.q false 9 (.q false 10 (.q false 11 .nil)))))))))))) mixed aa (λ_ _ _ d _ _ h=>by cases d<;>exact h) ?_;refine U0 O ag (Ym O) (U0 O ag (bV O) (U0 O ag (Yf r9 O) (U0 O ag (Yd 0 O O O aa) (U0 O ag (Ym O) (U0 O ag (bV O) (U0 O ag (Yf r9 O) (U0 O ag (Yd 0 O O O aa) ?_)))))));refine U0 O ag (Yn wR O) (U0 O ag (n_ ((s.cB.length-1:Nat):Int) O O (by rw [i]; omega) Z) (U0 O ag (Yo wR O O g Z) (U0 O ag (Ya O) ?_)));refine WU.nil ag ?_;refine WS.nil ?_;refine Et (aZ ?_);refine R1 O O λw' f=>?_;exact ⟨j,O,g,f⟩
def tz {a:Option Addr} {c k:Nat} {i:Int} {ops:Array Oper} {Q:Exit->Act->World->Prop} {n:Nat} {ds:List Deferred} {l:List (Nat×Value)} {f:World} {F:List Nat} {L:List ah} {Vs:List View} {rest:List Oper} {d:Nat} {ty:TypeId} {pos:String} {af:Array Edge} {g:Option (Nat×Bool)} {args:Array Operand} {ts:Array TypeId} (s:0<k->∃b o,a=some ⟨b,o,none⟩) (t:aN i k=true->WE Q (.panic (pj 6)) n ds l (Ws f F (L) Vs)) (u:∀r:Nat×Nat,(aN i k=false/\a=some ⟨r.1,r.2,none⟩)->WL prog ops Q n ds ((d,.pointer (some ⟨r.1,r.2+(i).toNat*1,none⟩))::l) (Ws f F (L) Vs) rest) (v:g2 l args.toList=some [.slice a k c,.int .i64 i]:=by rfl) (x:dI ops l g:=by first | exact .inl rfl | exact .inr ⟨_,_,_,rfl,rfl,rfl⟩) (y:Nat.blt d n=true:=by rfl):WL prog ops Q n ds l (Ws f F L Vs) (⟨some d,.call ⟨.value (.func 150),args,ts⟩,ty,pos,af,g⟩::rest):=
 yi (ι:=Nat×Nat) (κ:=Unit) [] L x y aK v rfl (λr=>.pointer (some ⟨r.1,r.2+(i).toNat*1,none⟩)) (λ_=>[]) (λr=>aN i k=false/\a=some ⟨r.1,r.2,none⟩) (λ_=>pj 6) (λ_=>[]) (λ_=>aN i k=true) [] au (λw q=>(Re a c k i w s).mono λe w' h=>by
   rcases h with ⟨r,j,m,p⟩ | ⟨_,j,m,p⟩
   · exact .inl ⟨r,j,m,q.ext p⟩
   · exact .inr ⟨(),j,m,q.ext p⟩) (λ_ h=>t h) u
def kE {a:Nat} {s:a0} {b:View} {ops:Array Oper} {Q:Exit->Act->World->Prop} {n:Nat} {ds:List Deferred} {l:List (Nat×Value)} {c:World} {F:List Nat} {L L2:List ah} {Vs:List View} {rest:List Oper} {d:Nat} {ty:TypeId} {pos:String} {af:Array Edge} {g:Option (Nat×Bool)} {args:Array Operand} {ts:Array TypeId} (e:s.iO b) (f:∀r:Nat,s.fa=some ⟨r,0,none⟩->WL prog ops Q n ds ((d,.pointer (some ⟨r,0+(s.cB.length-1)*2,none⟩))::l) (Ws c F (a0.own a s++L2) Vs) rest) (h:g2 l args.toList=some [.pointer (some ⟨a,0,none⟩)]:=by rfl) (hL:L=a0.own a s++L2:=by rfl) (i:∀j ∈ [b],j ∈ Vs:=by simp) (k:dI ops l g:=by first | exact .inl rfl | exact .inr ⟨_,_,_,rfl,rfl,rfl⟩) (m:Nat.blt d n=true:=by rfl):WL prog ops Q n ds l (Ws c F L Vs) (⟨some d,.call ⟨.value (.func 151),args,ts⟩,ty,pos,af,g⟩::rest):=
 Lw (ι:=Nat) (a0.own a s) L2 k m aK h hL (λr=>.pointer (some ⟨r,0+(s.cB.length-1)*2,none⟩)) (λ_=>a0.own a s) (λr=>s.fa=some ⟨r,0,none⟩) [b] i (λw o=>Rf a s b w e o) f
def Jv  : r8 158 [] (uV) (λi:Unit=>.tuple #[]):=by
 refine ⟨aK,λj s k w a b=>?_⟩
 have l:s.stack.reverse.length=s.stack.length:=au
 have m:s.cB.reverse.length=s.cB.length:=au
 have n:=a.gL;have o:=a.jW;have p:=a.out;have r:=a.jz;refine enter func158 O 22 O O ?_;refine CE b (Cs ?_);refine CU (λ_=>true) [] [] (.q false 0 (.q false 1 (.q false 2 (.q false 3 (.q true 4 (.q false 5 (.q false 6 (.q false 7 (.q true 8 (.q false 9 (.e 10 .nil .stop))))))))))) mixed aa (λ_ _ _ d _ _ h=>by cases d<;>exact h) ?_;refine U0 O ag (Ym O) (U0 O ag (bV O) (U0 O ag (Yf oD O) (U0 O ag (Yf Bf O) (U0 O ag (Yd 0 O O O aa) (U0 O ag (Ym O) (U0 O ag (bV O) (U0 O ag (Yf Rd O) ?_)))))));refine U0 O ag (Yd 0 O O O aa) (U0 O ag (bx O O) ?_);refine Ue O ag ?_ WU.stop;refine m4 (c:=s.cH==s.pi) ?_ ?_
 ·intro f;refine Ep (Ep ?_);refine an λw' b=>?_;exact .inr ⟨(3,s),O,by rw [uV,a8 (show s.pu.cH=s.pu.pi from (by simpa using f:s.cH=s.pi))],b⟩
 intro f;refine Ln (Eu ?_);refine WU.nil ag ?_;refine WS.nil ?_;refine Et ?_
 have g:¬s.cH=s.pi:=by simpa using f
 refine Cr (ab O (I (bV O) (I (Yf oD O) (I (Yf Bf O) (I (Yd 0 O O O aa) (I (sT O O) (I (bV O) ?_)))))));refine I (Yf oD O) (I (Yf Bf O) (aT 0 Y O O O dr O O O (Ln ?_)));refine E0 O λw' b=>?_;exact .inl ⟨((),{ s with cH:=IntKind.i64.wrap (s.cH+1) }),O,⟨by rw [uV,av (show ¬s.pu.cH=s.pu.pi from g)]; rfl,⟨a.cr,a.gL,a.jW,a.out,a.jz⟩⟩,b⟩
def Rg (op:Int):r8 154 [.int .i64 op] (nI op) (λi:Unit=>.tuple #[]):=by
 refine ⟨aK,λv s x w m b=>?_⟩
 have y:s.stack.reverse.length=s.stack.length:=au
 have z:s.cB.reverse.length=s.cB.length:=au
 have A:=m.gL;have B:=m.jW;have C:=m.out;have D:=m.jz;refine enter func154 O 42 O O ?_;refine CE b (ac (ab O (I (cy O O) (ab O ?_))));apply Lo 2 O O O O Y O O O O O
 ·intro E;refine Vg (Ym O) (Vg (ed O O) ?_);exact Gt 2 O O O
 refine m4 (c:=decide (op<9)||decide (15<op)) ?_ ?_
 ·intro e;refine Ep ?_;refine an λw' b=>?_;exact .inr ⟨(6,s),O,by rw [nI,a8 e],b⟩
 intro e;refine ad (ac (ab O ?_));refine m5 m ?_ ?_
 ·intro a h;refine Ep ?_;refine an λw' b=>?_;exact .inr ⟨a,O,by rw [nI,av (by rw [e]; simp),h]; rfl,b⟩
 intro a ⟨h,u⟩;refine ai O (ad (ac (ab O ?_)));refine m5 u ?_ ?_
 ·intro d j;refine Ep ?_;refine an λw' b=>?_;exact .inr ⟨d,O,by rw [nI,av (by rw [e]; simp),h]; show Rz.bind (dR (a0.eK s a.2).pu) _=_; rw [j]; rfl,b⟩
 intro d ⟨j,p⟩;refine ai O (ad (ac (ab O (ab O (ab O (Lp Y O aK O (λw b=>Jt _ _ _ w) (ab O (I (Yx O O) ?_))))))));refine I (Yx O O) (ai O (ai O (ad (Cs (ac (ab O (I (eR O) (ad ?_))))))));refine Cc O (λq=>?_) (λq=>?_)
 ·have k:(h2 op d.1 a.1).2=false:=by simpa using q
  refine ac (ab O (I (bx O O) ?_));refine m4 (c:=a.1==0) ?_ ?_
  ·intro r;refine Ep (Ep ?_);refine an λw' b=>?_;refine .inr ⟨(1,a0.eK (a0.eK s a.2) d.2),O,?_,b⟩;rw [nI,av (by rw [e]; simp),h]
   show Rz.bind (dR (a0.eK s a.2).pu) _=_
   rw [j]
   show (if (h2 op d.1 a.1).2=true then _ else _)=_
   rw [k,av au,a8 (by simpa using r)]
  intro r;refine ad (Cs ?_)
  have l:¬a.1=0:=by simpa using r
  refine Cr (ab O (ab O (I (Df O O l) (ai O (ad (ac (ab O (I (bx O O) ?_))))))));refine ad ?_;refine Cc O (λt=>?_) (λt=>?_)
  ·have n:op=13:=by simpa using t
   refine Cr (ab O (ab O (I (Dg O O l) (ai O (ad (Cr (ab O (ab O ?_))))))));refine kJ (pp (d.1.tmod a.1)) p ?_ ?_
   ·intro f g;refine an λw' b=>?_;refine .inr ⟨f,O,?_,b⟩;rw [nI,av (by rw [e]; simp),h]
    show Rz.bind (dR (a0.eK s a.2).pu) _=_
    rw [j]
    show (if (h2 op d.1 a.1).2=true then _ else _)=_
    rw [k,av au,av l,a8 n];rw [g]
   intro f ⟨g,o⟩;refine Ln ?_;refine E0 O λw' b=>?_;refine .inl ⟨((),f.2),O,⟨?_,o⟩,b⟩;rw [nI,av (by rw [e]; simp),h]
   show Rz.bind (dR (a0.eK s a.2).pu) _=_
   rw [j]
   show (if (h2 op d.1 a.1).2=true then _ else _)=_
   rw [k,av au,av l,a8 n];rw [g]
  have n:¬op=13:=by simpa using t
  refine am (Cr (ab O (ab O ?_)));refine kJ (pp (IntKind.i64.wrap (d.1.tdiv a.1))) p ?_ ?_
  ·intro f g;refine an λw' b=>?_;refine .inr ⟨f,O,?_,b⟩;rw [nI,av (by rw [e]; simp),h]
   show Rz.bind (dR (a0.eK s a.2).pu) _=_
   rw [j]
   show (if (h2 op d.1 a.1).2=true then _ else _)=_
   rw [k,av au,av l,av n];rw [g]
  intro f ⟨g,o⟩;refine Ln ?_;refine E0 O λw' b=>?_;refine .inl ⟨((),f.2),O,⟨?_,o⟩,b⟩;rw [nI,av (by rw [e]; simp),h]
  show Rz.bind (dR (a0.eK s a.2).pu) _=_
  rw [j]
  show (if (h2 op d.1 a.1).2=true then _ else _)=_
  rw [k,av au,av l,av n];rw [g]
 have k:(h2 op d.1 a.1).2=true:=by simpa using q
 refine am (Cr (ab O (ab O ?_)));refine kJ (pp ((h2 op d.1 a.1).1)) p ?_ ?_
 ·intro f g;refine an λw' b=>?_;refine .inr ⟨f,O,?_,b⟩;rw [nI,av (by rw [e]; simp),h]
  show Rz.bind (dR (a0.eK s a.2).pu) _=_
  rw [j]
  show (if (h2 op d.1 a.1).2=true then _ else _)=_
  rw [a8 k];rw [g]
 intro f ⟨g,o⟩;refine Ln ?_;refine E0 O λw' b=>?_;refine .inl ⟨((),f.2),O,⟨?_,o⟩,b⟩;rw [nI,av (by rw [e]; simp),h]
 show Rz.bind (dR (a0.eK s a.2).pu) _=_
 rw [j]
 show (if (h2 op d.1 a.1).2=true then _ else _)=_
 rw [a8 k];rw [g]
def Rh  : r8 159 [] (λm=>Rz.ok (pk m).1 (pk m).2) (λi:Int=>.int .i64 i):=by
 refine ⟨aK,λo s g w a b=>?_⟩
 have p:s.stack.reverse.length=s.stack.length:=au
 have q:s.cB.reverse.length=s.cB.length:=au
 have t:=a.gL;have u:=a.jW;have v:=a.out;have y:=a.jz;refine enter func159 O 25 O O ?_;refine CE b (ac (ai O (ad (Cs (ac (ab O (I (bV O) (I (Yf Bg O) (I (Yd 0 O O O aa) ?_)))))))));refine I (Yn a' O) (I (bx O O) (ad ?_));refine Cc O (λd=>?_) (λd=>?_)
 ·have c:s.cr=[]:=by simpa using d
  refine ac (ai O (ad (aZ (Er ?_))));refine R1 O O λw' b=>?_;refine .inl ⟨(0,s),O,⟨?_,a⟩,b⟩
  show Rz.ok (pk s.pu).1 (pk s.pu).2=_
  unfold pk;rw [show s.pu.cr=[] from c]
 obtain ⟨x,r,c⟩:∃x r,s.cr=x::r:=by
   cases h:s.cr with
   | nil=>rw [h] at d; cases d
   | cons x r=>exact ⟨x,r,rfl⟩
 obtain ⟨j,k,l,e⟩:=a.cr.aq 0 x (by rw [c]; rfl);have e:vc g j (k+0*1)=some (.int .i64 x):=e
 have z:s.cr.length=r.length+1:=by rw [c]; rfl
 have n:=a.cr.cap;refine am (ac (ab O (I (bV O) (I (Yf Bg O) (I (Yd 0 O O O aa) (I (Yo (i:=0) a' O O l Z) (I (cC 0 aa O O (e)) (ai O ?_))))))));refine ad (ac (ab O (ab O (I (bV O) (I (Yf Bg O) (I (Yd 0 O O O aa) (I (Am 1 a' O O O Z n) (I (bV O) ?_))))))));refine I (Yf Bg O) (aT 0 Y O O O po O O O (ad (ac (ab O (ai O (ad (aZ ?_)))))));refine R1 O O λw' b=>?_;have f:=a.cr.drop 1 Z;rw [show s.cr.drop 1=r by rw [c]; rfl] at f;rw [show s.cr.length-1=r.length by omega] at b;refine .inl ⟨(x,{ s with cr:=r,ia:=_,ic:=s.ic-1 }),O,⟨?_,⟨f,a.gL,a.jW,a.out,a.jz⟩⟩,b⟩
 show Rz.ok (pk s.pu).1 (pk s.pu).2=_
 unfold pk;rw [show s.pu.cr=x::r from c]
 rfl
end Go.Proofs.YtgeahfjicmlocaaGreatDoor.Mch
end
section
namespace Go.Proofs.YtgeahfjicmlocaaGreatDoor.Mch
open Go.Bw Go.Proofs.Tryz
def Ri:cJ prog 269 1=some 1:=aa
def qd:cJ prog 163 0=some 0:=aa
def Jw:dV prog 160=some 1:=aa
def Rj:hx prog 269=some [(0,1),(1,1)]:=aa
def Rk:zeroOf prog 269=some (.agg #[.slice none 0 0,.int .i64 0]):=aa
def uY:hc prog 160 269 (.agg #[.slice none 0 0,.int .i64 0]) 2 32:=jr aa
def Rl  : r8 157 [] (wQ) (λi:Unit=>.tuple #[]):=by
 refine ⟨aK,λu s v w b a=>?_⟩
 have x:s.stack.reverse.length=s.stack.length:=au
 have l:s.cB.reverse.length=s.cB.length:=au
 have z:=b.gL;have m:=b.jW;have A:=b.out;have B:=b.jz;refine enter func157 O 31 O O ?_;refine CE a (ac (ab O (I (bV O) (I (Yf r9 O) (I (Yd 0 O O O aa) (I (Yn wR O) (I (bx O O) ?_)))))));refine m4 (c:=((s.cB.reverse.length:Nat):Int)==1) ?_ ?_
 ·intro j;refine Ep ?_;refine an λw' a=>?_;refine .inr ⟨(6,s),O,?_,a⟩;rw [wQ,a8 (show s.pu.cB.length=1 by show (s.cB.map e6.pu).length=1; rw [l] at j; simp at j; simp; omega)]
 intro j;refine ad (Cs ?_)
 have o:¬s.cB.length=1:=by rw [l] at j; simp at j; omega
 obtain ⟨f,r,g⟩:∃f r,s.cB=f::r:=by
   cases h:s.cB with
   | nil=>rw [h] at m; simp at m
   | cons f r=>exact ⟨f,r,rfl⟩
 have t:s.cB.length=r.length+1:=by rw [g]; rfl
 refine WC.Ar 2 O Z λC D E F=>?_;refine Cr (ab O (ab O ?_));refine kE b ?_;intro G n;refine I (bV O) (I (Yf Ri O) ?_);refine I (uu (y:=f) 2 r.length 1 O O n (by rw [t]; simp) e6.dk (by rw [g,vR,rK au]; simp) O aa) ?_;refine I (bV O) (I (Yf qd O) (aT 0 Y O O O dr O O O (ad ?_)));refine CU (λ_=>true) [] [14] (.q false 0 (.q false 1 (.q false 2 (.q false 3 (.q true 4 (.q false 5 (.q false 6 (.q false 7 (.q true 8 (.q false 9 (.q false 10 (.q false 11 (.q false 12 (.q false 13 .nil)))))))))))))) mixed aa (λ_ _ _ d _ _ h=>by cases d<;>exact h) ?_;refine U0 O ag (Ym O) (U0 O ag (Ym O) (U0 O ag (bV O) (U0 O ag (Yf r9 O) (U0 O ag (Yd 0 O O O aa) (U0 O ag (Ym O) (U0 O ag (bV O) (U0 O ag (Yf r9 O) ?_)))))));refine U0 O ag (Yd 0 O O O aa) (U0 O ag (Yn wR O) (U0 O ag (n_ ((r.reverse.length:Nat):Int) O O (by simp; omega) (by simp; omega)) (U0 O ag (rW r.reverse.length wR O (λp k=>by rw [n] at k; injection k with k; subst k; rfl) O O (by simp; omega)) (U0 O ag (bV O) (U0 O ag (Yf r9 O) ?_)))));refine WU.nil ag ?_;refine WS.e O ?_;refine aT 0 Y O O O Jw O O O ?_;refine WL.ym 2 r.reverse O e6.dk (by simp [g]) (by rw [g]; simp) ?_;refine Ln (Es ?_);refine WS.nil ?_;refine E0 O λw' a=>?_;have a:=Ws.df (L:=[_,_,_,_,_,_]) a;rw [g] at a;have a:=a.OZ 5 rfl;refine .inl ⟨((),{ s with at_:=f.back,cB:=r }),O,⟨?_,⟨b.cr,b.gL,⟨by show 1<=r.length; omega,by show r.length<=25; omega⟩,b.out,b.jz⟩⟩,a⟩;unfold wQ;rw [av (show ¬s.pu.cB.length=1 by show ¬(s.cB.map e6.pu).length=1; simpa using o),show s.pu.cB=f.pu::r.map e6.pu by show s.cB.map e6.pu=_; rw [g]; rfl]
 rfl
def Rm (to:Int):r8 155 [.int .i64 to] (uW to) (λi:Unit=>.tuple #[]):=by
 refine ⟨aK,λp s r w f a=>?_⟩
 have t:s.stack.reverse.length=s.stack.length:=au
 have u:s.cB.reverse.length=s.cB.length:=au
 have v:=f.gL;have x:=f.jW;have y:=f.out;have z:=f.jz;refine enter func155 O 31 O O ?_;refine CE a (ac (ab O ?_));refine kJ Jv f ?_ ?_
 ·intro b k;refine Ep ?_;refine an λw' a=>?_;exact .inr ⟨b,O,by rw [uW,k]; rfl,a⟩
 intro b ⟨k,g⟩
 have l:b.2.cB.reverse.length=b.2.cB.length:=au
 have A:=g.jW;refine ad (ac (ab O (I (bV O) (I (Yf r9 O) (I (Yd 0 O O O aa) (I (Yn wR O) (I (ed O O) ?_)))))));refine m4 (c:=decide (24<((b.2.cB.reverse.length:Nat):Int))) ?_ ?_
 ·intro j;refine Ep ?_;refine an λw' a=>?_;refine .inr ⟨(4,b.2),O,?_,a⟩;rw [uW,k]
  show (if 24<b.2.pu.cB.length then _ else _)=_
  rw [a8 (show 24<b.2.pu.cB.length by show 24<(b.2.cB.map e6.pu).length; rw [l] at j; simp at j; simp; omega)]
 intro j;refine ad (Cs ?_)
 have m:¬24<b.2.cB.length:=by rw [l] at j; simp at j; omega
 refine CU (λ_=>true) [2] [14] (.q false 0 (.q false 1 (.q false 2 (.q false 3 (.q true 4 (.q false 5 (.q false 6 (.q false 7 (.q true 8 (.q false 9 (.e 10 (.e 11 (.q false 12 (.q false 13 .nil)) .stop) .stop))))))))))) mixed aa (λ_ _ _ d _ _ h=>by cases d<;>exact h) ?_;refine U0 O (Wp 2) (Ym O) (U0 O (Wp 2) (Ym O) (U0 O (Wp 2) (bV O) (U0 O (Wp 2) (Yf r9 O) (U0 O (Wp 2) (Yd 0 O O O aa) (U0 O (Wp 2) (Ym O) (U0 O (Wp 2) (bV O) (U0 O (Wp 2) (Yf qd O) ?_)))))));refine U0 O (Wp 2) (Yd 0 O O O aa) (U0 O (Wp 2) (Yb Rk Rj O O) ?_);refine Ue O (Wp 2) ?_ WU.stop;refine Lb Y O uY O O O O λB=>?_;refine Ln (Eu ?_);refine Ue O (λ_ h=>(Wo 2 (Wd 1 h):)) ?_ WU.stop;refine LA ⟨none,0,[],b.2.at_⟩ 3 0 Y O uY O O O O O O Z Z λn o=>?_;rw [show b.2.cB.reverse++[(⟨none,0,[],b.2.at_⟩:e6)]=((⟨none,0,[],b.2.at_⟩:e6)::b.2.cB).reverse by simp];refine Ln (Eu (U0 O (λ_ h=>(Wo 2 (Wd 1 h):)) (bV O) (U0 O (λ_ h=>(Wo 2 (Wd 1 h):)) (Yf r9 O) ?_)));refine WU.nil (λ_ h=>(Wo 2 (Wd 1 h):)) ?_;refine WS.e O ?_;refine aT 1 Y O O O Jw O O O (Ln (Es ?_));refine WS.nil ?_;refine Et (Cr (ab O (ab O (I (bV O) (I (Yf qd O) (aT 1 Y O O O dr O O O (Ln ?_)))))));refine E0 O λw' a=>?_;have a:=a.aJ 6 rfl;have a:=a.aJ 6 rfl;have a:=a.aJ 6 rfl;have a:=a.aJ 6 rfl;have a:=a.aJ 6 rfl;have a:=a.aJ 6 rfl;have a:=Ws.df (L:=[_,_,_,_,_,_]) a;have a:=a.xS 5 rfl 3 1;refine .inl ⟨((),{ b.2 with at_:=to,cB:=⟨none,0,[],b.2.at_⟩::b.2.cB,fa:=n,fc:=o }),O,⟨?_,⟨g.cr,g.gL,⟨au,by simp; omega⟩,g.out,g.jz⟩⟩,a⟩;rw [uW,k]
 show (if 24<b.2.pu.cB.length then _ else _)=_
 rw [av (show ¬24<b.2.pu.cB.length by show ¬24<(b.2.cB.map e6.pu).length; simpa using m)]
 rfl
end Go.Proofs.YtgeahfjicmlocaaGreatDoor.Mch
end
section
namespace Go.Proofs.YtgeahfjicmlocaaGreatDoor.Mch
open Go.Bw Go.Proofs.Tryz
def Jx (H:View) (b o:Nat) (x:Int) (h:jD H b o x):cw H b o (iv x):=λj v a=>by
 match j,a with
 | 0,a=>simp [iv] at a; subst a; exact h
 | j+1,a=>simp [iv] at a
def Jy (x:Int):(iv x).all (·.oneCell')=true:=rfl
def gd (H:View) (b o:Nat) (e:(Option Addr×Nat)×List Int):Prop:=vc H b o=some (.slice e.1.1 e.2.length e.1.2)/\Sl jD 1 H e.1.1 e.1.2 e.2
def gM (a:List ((Option Addr×Nat)×List Int)):Nat:=(a.map (·.2.length)).sum
def yJ {a:List ((Option Addr×Nat)×List Int)} {i:Nat} {x:(Option Addr×Nat)×List Int} (h:a[i]? = some x):gM (a.take (i+1))=gM (a.take i)+x.2.length:=by
 simp [gM,kV,h]
def yK (a:List ((Option Addr×Nat)×List Int)) (i:Nat):gM (a.take i)<=gM a:=by
 have e:gM a=gM (a.take i)+gM (a.drop i):=by
   unfold gM;rw [<-xC,<-CQ,pR]
 omega
def yL (a:List ((Option Addr×Nat)×List Int)):(a.flatMap (·.2)).length=gM a:=by simp [gM,GY]
def EH (k:Nat):(madeCells (Value.int IntKind.i64 0).cells (k*1))=((List.replicate k (0:Int)).flatMap iv).toArray:=by
 rw [Hg _ rfl]
 congr 1
 induction k with
 | zero=>rfl
 | succ k a=>simp only [List.replicate_succ,i7,iv]; rw [a]; rfl
def EI (x y:e6) (r:List e6):(x::r).reverse.set r.length y=(y::r).reverse:=by simp [List.set_append]
def kk:prog.underlying 3=some (.int .i64):=aa
def yM:ga prog 178=some 1:=aa
def yN (H:View) (a:Option Addr) (c:Nat) (l:List Int) (w:World) (i:Le H w) (f:Sl jD 1 H a c l) (n:l.length*8<=140737488355328) :
   Calls prog 82 #[.slice a l.length c] w λe w'=>∃r:Option Addr×Nat,e = .returned (.slice r.1 l.length r.2)/\Ext w w'/\Sl jD 1 (nv w w') r.1 r.2 l:=by
 have p:=f.cap;have q:=f.max;refine enter func82 O 8 O O ?_;refine CE (Vs:=[H]) (Ws.init (by simp [i])) (ac (ai O (ad (Cs (ac (ab O (I (qo a' O) (ad ?_))))))));refine Cc O (λg=>?_) (λg=>?_)
 ·have j:l=[]:=by
    cases l with
    | nil=>rfl
    | cons x r=>obtain ⟨b,o,h,_⟩:=f.aq 0 x rfl; rw [h] at g; cases g
  refine ac (ai O (ad (aZ (Er ?_))));refine R1 O O λw' d=>?_;subst j;exact ⟨(none,0),O,d.fr,Sl.nil⟩
 refine am (ac ?_);refine WL.qI Y O kj O O O λs=>?_;refine WL.pY (size:=1) 0 O (eH 0) (cx _) O ?_;refine WL.o3 0 ([]:List Int).length (([]:List Int).flatMap iv) O O O ?_;refine ab O ?_;refine WL.o7 (ys:=l) (xs:=[]) 0 (λ_=>H) Y O kj O O O (λw d=>⟨d.vs H au,f⟩) Jx hO Jy (by simp; omega) (by simp; omega) λk m=>?_;refine ai O (ad (aZ ?_));refine R1 O O λw' d=>?_;exact ⟨(k,m),O,d.fr,d.ls 0 O hO pn⟩
def Rn (m:Nat) (w:World) (j:m<=1048576) :
   Calls prog 273 #[.slice none 0 0,.int .i64 (m:Int)] w λe w'=>∃r:Option Addr×Nat,e = .returned (.slice r.1 ([]:List Int).length r.2)/\Ws w [] [cW 3 1 iv r.1 r.2 ([]:List Int)] [] w':=by
 refine enter func273 O 27 O O ?_;refine CE (Vs:=[]) (Ws.init au) (ac (ai O (ad (Cs (ac (ab O (I (cy O O) (ad ?_))))))));refine Cc O (λb=>?_) (λb=>?_)
 ·exfalso
  simp at b;omega
 refine am (Cs (ac (ab O (ab O (I (ny a' O) (ab O (I (Yn a' O) (I (n_ 0 O O au Z) (I (n_ (m:Int) O O au Z) ?_)))))))));refine ai O (ad (ac (ab O (I (ed O O) (ad ?_)))));refine Cc O (λc=>?_) (λc=>?_)
 ·have f:0<m:=by simp at c; omega
  refine Cr (ab O (ab O (I (ny a' O) (I (rW 0 a' O au O O (cx _)) (ab O ?_)))));refine WL.HT m Y O kj kk O O f (by unfold maxLen; omega) Z λg d k l h i=>?_;refine WL.pY (m:=0) (cap:=d) (size:=1) 0 O (cx _) h (by rw [i,zL]) ?_;refine WL.o3 0 ([]:List Int).length (([]:List Int).flatMap iv) O O au ?_;refine ab O (I (Yn a' O) (I (rW ([]:List Int).length a' O au O O (cx _)) (ai O (ad (ac (ab O (ai O (ad (aZ ?_)))))))));refine R1 O O λw' a=>?_;exact ⟨(some ⟨g,0,none⟩,d),O,a⟩
 refine am (ac (ab O (ai O (ad (aZ ?_)))));refine R1 O O λw' a=>?_;exact ⟨(none,0),O,a.g3 3 1⟩
def EJ (H:View) (a:Option Addr) (c:Nat) (d:List ((Option Addr×Nat)×List Int)) (w:World) (v:Le H w) (j:Sl gd 1 H a c d) (y:gM d<=1048576) (G:d.length<=1048576) :
   Calls prog 234 #[.slice a d.length c] w λe w'=>∃r:Option Addr×Nat,e = .returned (.slice r.1 (d.flatMap (·.2)).length r.2)/\Ws w [] [cW 3 1 iv r.1 r.2 (d.flatMap (·.2))] [H] w':=by
 have J:=j.cap;have K:=j.max;refine enter func234 O 36 O O ?_;refine CE (Vs:=[H]) (Ws.init (by simp [v])) (ac (ai O (ad (ac (ai O (ad (Cs (ac (ab O (I (Yn yM O) ?_))))))))));refine ab O (ad (Cb ?_));refine fT (ι:=Nat) (λi=>[(11,.int .i64 (i:Int)),(3,.int .i64 (gM (d.take i):Int))]) [(0,_),(2,_),(9,_),(10,_)] (λi=>i<=d.length) (λi=>d.length-i) 0 (cx _) ?_;intro i hi;refine ac (I (cy O O) (ad (Cs ?_)));refine Cc O (λl=>?_) (λl=>?_)
 ·have m:i<d.length:=by simpa using l
  obtain ⟨x,f⟩:=dw m;obtain ⟨z,A,n,o,q⟩:=j.aq i x f;have s:=yJ f;have B:=yK d (i+1);refine am (Cs (Cb (ac (I (Yo yM O O n Z) (I (cC 0 aa O O (o)) (ai O (ad (ac (ab O (ab O (I (Yn a' O) ?_)))))))))));refine I (qK (a:=gM (d.take i)) (b:=x.2.length) O O O O Z) (ai O (ad (ac (ab O (I (cy O O) (ad ?_))))));refine Cc O (λt=>?_) (λt=>?_)
  ·exfalso
   simp at t;omega
  refine Ck (Eb (Et (Cr (I (Yi O O O Z) (ab O (Ln ?_))))));rw [<-s];exact ct (i+1) Z Z ag
 have k:i=d.length:=by simp at l; omega
 subst k;rw [gv];refine Ce (Ex (Ex (cU (Et (ac (ab O ?_))))));refine Lw (ι:=Option Addr×Nat) [] _ Y O aK O O (λr=>.slice r.1 ([]:List Int).length r.2) (λr=>[cW 3 1 iv r.1 r.2 ([]:List Int)]) (λ_=>True) [] au (λw h=>(Rn (gM d) w y).mono λe w' ⟨r,C,D⟩=>⟨r,C,trivial,D⟩) ?_;intro u _;refine ai O (ad (Cs (ac (ab O (I (Yn yM O) (ab O (ad (Cb ?_))))))));refine e0 (ι:=Nat×Option Addr×Nat) (λg=>[(27,.int .i64 (g.1:Int)),(6,.slice g.2.1 ((d.take g.1).flatMap (·.2)).length g.2.2)]) [(2,_),(25,_),(26,_)] (λg=>Ws w [] [cW 3 1 iv g.2.1 g.2.2 ((d.take g.1).flatMap (·.2))] [H]) (λg=>g.1<=d.length) (λg=>d.length-g.1) (0,u.1,u.2) (cx _) ag ?_;intro g hi;refine ac (I (cy O O) (ad (Cs ?_)));refine Cc O (λp=>?_) (λp=>?_)
 ·have m:g.1<d.length:=by simpa using p
  obtain ⟨x,f⟩:=dw m;obtain ⟨z,A,n,o,q⟩:=j.aq g.1 x f;have s:=yJ f;have B:=yK d (g.1+1);refine am (Cs (Cb (ac (I (Yo yM O O n Z) (I (cC 0 aa O O (o)) (ai O (ad (Cr (ab O (ab O ?_))))))))));refine WL.o7 (xs:=(d.take g.1).flatMap (·.2)) (ys:=x.2) 0 (λ_=>H) Y O kj O O O (λw h=>⟨h.vs H au,q⟩) Jx hO Jy (by rw [yL]; omega) (by rw [yL]; omega) λE F=>?_;rw [show ((d.take g.1).flatMap (·.2))++x.2=(d.take (g.1+1)).flatMap (·.2) by rw [kV,f]; simp];refine ai O (Ln (Eb (Et (Cr (I (Yi O O O Z) (ab O (Ln ?_)))))));exact ct ((g.1+1,E,F):Nat×Option Addr×Nat) (by first | omega | (dsimp only; omega)) (by first | omega | (dsimp only; omega)) ag
 have k:g.1=d.length:=by simp at p; omega
 refine Ce (Ex (Ex (cU (Et (ac (ab O (ai O (ad (aZ ?_)))))))));refine R1 O O λw' h=>?_;rw [k,gv] at h;rw [k,gv];exact ⟨(g.2.1,g.2.2),O,h⟩
end Go.Proofs.YtgeahfjicmlocaaGreatDoor.Mch
end
section
namespace Go.Proofs.YtgeahfjicmlocaaGreatDoor.Mch
open Go.Bw Go.Proofs.Tryz
def Bh:hc prog 178 29 (.slice none 0 0) 1 24:=jr aa
def yO:cJ prog 269 0=some 0:=aa
set_option maxHeartbeats 1000000 in
def Ro (a b:Int):r8 156 [.int .i64 a,.int .i64 b] (tx a b) (λi:Unit=>.tuple #[]):=by
 refine ⟨aK,λQ s R w m g=>?_⟩
 have B:s.stack.reverse.length=s.stack.length:=au
 have S:s.cB.reverse.length=s.cB.length:=au
 have T:=m.gL;have M:=m.jW;have U:=m.out;have V:=m.jz;refine enter func156 O 63 O O ?_;refine CE g (ac (ab O (I (cy O O) (ab O ?_))));apply Lo 2 O O O O Y O O O O O
 ·intro W;refine Vg (Ym O) (Vg (cy O O) ?_);exact Gt 2 O O O
 refine ab O ?_;apply Lo 2 O O O O Y O O O O O
 ·intro X;refine Vg (Ym O) (Vg (ed O O) ?_);exact Gt 2 O O O
 refine ab O ?_;apply Lo 4 O O O O Y O O O O O
 ·intro ae;refine Vg (Ym O) (Vg (Ym O) (Vg (z3 O O) (Vg (ed O O) ?_)));exact Gt 4 O O O
 refine ab O ?_;apply Lo 7 O O O O Y O O O O O
 ·intro af;refine Vg (Ym O) (Vg (Ym O) (Vg (bV O) (Vg (Yf lF O) (Vg (Yd 0 O O O aa) (Vg (Yn a' O) (Vg (ed O O) ?_))))));exact Gt 7 O O O
 refine m4 (c:=(((decide (a<0)||decide (b<0))||decide (2048<a))||decide (IntKind.i64.wrap (2048-a)<b))||decide (((s.stack.reverse.length:Nat):Int)<a)) ?_ ?_
 ·intro p;refine Ep ?_;refine an λw' g=>?_;rw [B] at p;exact .inr ⟨(6,s),O,by rw [tx,show s.pu.stack.length=s.stack.length from O,a8 p],g⟩
 intro p;refine ad (Cs ?_)
 have ah:0<=a/\0<=b/\a<=2048/\b<=2048-a/\a<=s.stack.length:=by
   rw [B] at p;simp only [mQ,ez] at p;obtain ⟨⟨⟨⟨t,C⟩,D⟩,A⟩,aj⟩:=p;rw [x5 Z] at A;omega
 obtain ⟨f,r,n⟩:∃f r,s.cB=f::r:=by
   cases h:s.cB with
   | nil=>rw [h] at M; simp at M
   | cons f r=>exact ⟨f,r,rfl⟩
 have v:s.cB.length=r.length+1:=by rw [n]; rfl
 refine Cr (ab O (I (bV O) (I (Yf lF O) (I (Yd 0 O O O aa) (I (Yn a' O) (ab O (I (n_ (((s.stack.length-a.toNat):Nat):Int) O O (by rw [B]; omega) Z) ?_)))))));refine ai O (ad (Cs ?_));refine WC.OY 1 O λK P ak=>?_;refine CU (λ_=>true) [] [14] (.q false 0 (.q false 2 (.q false 3 (.q false 4 (.q true 5 (.q false 6 (.q false 7 (.q false 8 (.e 1 (.e 9 (.e 10 (.e 11 (.q false 12 (.q false 13 .nil)) .stop) .stop) .stop) (.e 9 (.e 1 (.e 10 (.e 11 (.q false 12 (.q false 13 .nil)) .stop) .stop) (.e 10 (.e 1 (.e 11 (.q false 12 (.q false 13 .nil)) .stop) .stop) .stop)) .stop)))))))))) mixed aa (λ_ _ _ d _ _ h=>by cases d<;>exact h) ?_;refine U0 O ag (Ym O) (U0 O ag (Ym O) (U0 O ag (bV O) (U0 O ag (Yf lF O) (U0 O ag (Yd 0 O O O aa) (U0 O ag (Ym O) (U0 O ag (Am (s.stack.length-a.toNat) a' O O O Z P) (U0 O ag (Ym O) ?_)))))));refine Ue O ag ?_ ?_
 ·refine kE m ?_;intro N E;refine Ln (Eu ?_);refine Ue O ag ?_ WU.stop;refine WL.make Y O kj O O Z Z Z Z λo=>?_;refine dn 0 (.cells ((List.replicate b.toNat (0:Int)).flatMap iv).toArray 3 (0,0)) O (by rw [EH]) (Ln (Eu ?_));refine Ue O (λ_ h=>(Wd 1 h:)) ?_ WU.stop;refine Lb Y O Bh O O O O λu=>?_;refine Ln (Eu ?_);refine Ue O (λ_ h=>(Wd 2 h:)) ?_ WU.stop
  refine WL.yn (ι:=Option Addr×Nat) Y O aK O (λr=>.slice r.1 ((s.stack.take a.toNat).reverse++List.replicate b.toNat 0).length r.2) (λr=>[cW 3 1 iv r.1 r.2 (((s.stack.take a.toNat).reverse++List.replicate b.toNat 0))]) (λ_=>True) (λw g=>by
      have t:Sl jD 1 (hv w) s.sa s.sc s.stack.reverse:=g.Ak 3 rfl hO pn;have t:=t.drop (s.stack.length-a.toNat) Z
      have C:Sl jD 1 (hv w) (some ⟨o,0,none⟩) b.toNat (List.replicate b.toNat (0:Int)):=⟨au,Z,au,λj x l=>⟨o,0,rfl,g.dZ 1 rfl (by
        show ((List.replicate b.toNat (0:Int)).flatMap iv)[0+j*1]? = _
        have:=kZ hO l (j:=0) bf;rw [gC];rw [oY] at this
        rw [this]; rfl)⟩⟩
      have F:(s.stack.reverse.drop (s.stack.length-a.toNat)).length=s.stack.reverse.length-(s.stack.length-a.toNat):=au
      have G:(List.replicate b.toNat (0:Int)).length=b.toNat:=au
      have H:Sl gd 1 (hv w) (some ⟨u,0,none⟩) 2 [((if s.sc-(s.stack.length-a.toNat)=0 then s.sa else s.sa.map (·.add ((s.stack.length-a.toNat)*1)),s.sc-(s.stack.length-a.toNat)),s.stack.reverse.drop (s.stack.length-a.toNat)),((some ⟨o,0,none⟩,b.toNat),List.replicate b.toNat (0:Int))]:=⟨au,bf,au,λj x l=>⟨u,0,rfl,by
        match j,l with
        | 0,l=>simp only [me,eY] at l; subst l; exact ⟨by rw [F]; exact g.dZ 0 rfl rfl,t⟩
        | 1,l=>simp only [mR,me,eY] at l; subst l; exact ⟨by rw [G]; exact g.dZ 0 rfl rfl,C⟩⟩⟩
      have v:[((if s.sc-(s.stack.length-a.toNat)=0 then s.sa else s.sa.map (·.add ((s.stack.length-a.toNat)*1)),s.sc-(s.stack.length-a.toNat)),s.stack.reverse.drop (s.stack.length-a.toNat)),((some (⟨o,0,none⟩:Addr),b.toNat),List.replicate b.toNat (0:Int))].flatMap (·.2)=((s.stack.take a.toNat).reverse++List.replicate b.toNat 0):=by
        simp only [i7,zT,qB];rw [qh,show s.stack.length-(s.stack.length-a.toNat)=a.toNat by omega]
      have z:=EJ (hv w) (some ⟨u,0,none⟩) 2 _ w (gV w) H (by simp [gM]; omega) au;rw [v] at z
      exact z.mono λe w' ⟨r,D,A⟩=>⟨r,D,trivial,A.cK au⟩) ?_
  intro k _;refine Ln (Eu (U0 O (λ_ h=>(Wd 3 h:)) (bV O) (U0 O (λ_ h=>(Wd 3 h:)) (Yf yO O) ?_)));refine WU.nil (λ_ h=>(Wd 3 h:)) ?_;refine WS.e O ?_;refine WL.storeT (y:=f) 5 r.length 0 ({ f with la:=k.1,lc:=k.2,loc:=((s.stack.take a.toNat).reverse++List.replicate b.toNat 0) }) Y O O O E (by rw [v]; simp) e6.dk (by rw [n,vR,rK au]; simp) po O O bf O ?_;rw [show s.cB.reverse.set r.length { f with la:=k.1,lc:=k.2,loc:=((s.stack.take a.toNat).reverse++List.replicate b.toNat 0) }=({ f with la:=k.1,lc:=k.2,loc:=((s.stack.take a.toNat).reverse++List.replicate b.toNat 0) }::r).reverse by rw [n,EI]];refine Ln (Es ?_);refine WS.nil ?_;refine Et (Cr (ab O (ab O (I (bV O) (I (Yf lF O) (I (Yd 3 O O O aa) (ab O (I (rW (s.stack.drop a.toNat).reverse.length a' O K O au (by simp; omega)) ?_))))))));refine I (bV O) (I (Yf lF O) (aT 3 Y O O O po O O O ?_));refine WL.ym 4 (s.stack.drop a.toNat).reverse O hO au (by rw [CX]; congr 2; simp; omega) ?_;refine Ln ?_;refine E0 O λw' g=>?_;have g:=g.aJ 7 rfl;have g:=g.aJ 7 rfl;have g:=g.aJ 7 rfl;have g:=g.aJ 7 rfl;have g:=g.aJ 7 rfl;have g:=g.aJ 5 rfl;have g:=g.aJ 8 rfl;have g:=Ws.df (L:=[_,_,_,_,_,_,_]) g;rw [n] at g;have g:=g.wa;have g:=Wd 1 g;have g:=g.aJ 1 rfl;have g:=g.wb;have g:=g.aJ 5 rfl;have g:=g.aJ 5 rfl;have g:=g.aJ 5 rfl;have g:=g.aJ 5 rfl;have g:=g.aJ 5 rfl;have g:=Ws.df (L:=[_,_,_,_,_,_]) g
  have J:jq s.obj (0+3) (dO (.slice s.sa (s.stack.drop a.toNat).reverse.length s.sc))=a0.obj { s with stack:=s.stack.drop a.toNat,cB:={ f with la:=k.1,lc:=k.2,loc:=((s.stack.take a.toNat).reverse++List.replicate b.toNat 0) }::r }:=by
    unfold a0.obj;rw [show s.cB.reverse.length=({ f with la:=k.1,lc:=k.2,loc:=((s.stack.take a.toNat).reverse++List.replicate b.toNat 0) }::r).reverse.length by simp [n]]
    rfl
  rw [J] at g;refine .inl ⟨((),{ s with stack:=s.stack.drop a.toNat,cB:={ f with la:=k.1,lc:=k.2,loc:=((s.stack.take a.toNat).reverse++List.replicate b.toNat 0) }::r }),O,⟨?_,⟨m.cr,by show (s.stack.drop a.toNat).length<=2048; simp; omega,by show 1<=(r.length+1)/\r.length+1<=25; omega,m.out,m.jz⟩⟩,g⟩;rw [B] at p;unfold tx;rw [av (by rw [show s.pu.stack.length=s.stack.length from rfl,p]; simp),show s.pu.cB=f.pu::r.map e6.pu by show s.cB.map e6.pu=_; rw [n]; rfl]
  rfl
 refine Ue O ag ?_ WU.stop;refine WL.make Y O kj O O Z Z Z Z λo=>?_;refine dn 0 (.cells ((List.replicate b.toNat (0:Int)).flatMap iv).toArray 3 (0,0)) O (by rw [EH]) (Ln (Eu ?_));refine Ue O (λ_ h=>(Wd 1 h:)) ?_ ?_
 ·refine Lf 6 O (Lf 6 O (Lf 6 O (Lf 6 O (Lf 6 O (Lf 6 O ?_)))));refine kE m ?_;intro N E;refine Ln (Eu ?_);refine Ue O (λ_ h=>(Wt 6 h:)) ?_ WU.stop;refine Lb Y O Bh O O O O λu=>?_;refine Ln (Eu ?_);refine Ue O (λ_ h=>by exact (Wt 6 ((((((h.f 6 O).f 6 O).f 6 O).f 6 O).f 6 O).f 6 O):)) ?_ WU.stop
  refine WL.yn (ι:=Option Addr×Nat) Y O aK O (λr=>.slice r.1 ((s.stack.take a.toNat).reverse++List.replicate b.toNat 0).length r.2) (λr=>[cW 3 1 iv r.1 r.2 (((s.stack.take a.toNat).reverse++List.replicate b.toNat 0))]) (λ_=>True) (λw g=>by
      have t:Sl jD 1 (hv w) s.sa s.sc s.stack.reverse:=g.Ak 2 rfl hO pn;have t:=t.drop (s.stack.length-a.toNat) Z
      have C:Sl jD 1 (hv w) (some ⟨o,0,none⟩) b.toNat (List.replicate b.toNat (0:Int)):=⟨au,Z,au,λj x l=>⟨o,0,rfl,g.dZ 7 rfl (by
        show ((List.replicate b.toNat (0:Int)).flatMap iv)[0+j*1]? = _
        have:=kZ hO l (j:=0) bf;rw [gC];rw [oY] at this
        rw [this]; rfl)⟩⟩
      have F:(s.stack.reverse.drop (s.stack.length-a.toNat)).length=s.stack.reverse.length-(s.stack.length-a.toNat):=au
      have G:(List.replicate b.toNat (0:Int)).length=b.toNat:=au
      have H:Sl gd 1 (hv w) (some ⟨u,0,none⟩) 2 [((if s.sc-(s.stack.length-a.toNat)=0 then s.sa else s.sa.map (·.add ((s.stack.length-a.toNat)*1)),s.sc-(s.stack.length-a.toNat)),s.stack.reverse.drop (s.stack.length-a.toNat)),((some ⟨o,0,none⟩,b.toNat),List.replicate b.toNat (0:Int))]:=⟨au,bf,au,λj x l=>⟨u,0,rfl,by
        match j,l with
        | 0,l=>simp only [me,eY] at l; subst l; exact ⟨by rw [F]; exact g.dZ 0 rfl rfl,t⟩
        | 1,l=>simp only [mR,me,eY] at l; subst l; exact ⟨by rw [G]; exact g.dZ 0 rfl rfl,C⟩⟩⟩
      have v:[((if s.sc-(s.stack.length-a.toNat)=0 then s.sa else s.sa.map (·.add ((s.stack.length-a.toNat)*1)),s.sc-(s.stack.length-a.toNat)),s.stack.reverse.drop (s.stack.length-a.toNat)),((some (⟨o,0,none⟩:Addr),b.toNat),List.replicate b.toNat (0:Int))].flatMap (·.2)=((s.stack.take a.toNat).reverse++List.replicate b.toNat 0):=by
        simp only [i7,zT,qB];rw [qh,show s.stack.length-(s.stack.length-a.toNat)=a.toNat by omega]
      have z:=EJ (hv w) (some ⟨u,0,none⟩) 2 _ w (gV w) H (by simp [gM]; omega) au;rw [v] at z
      exact z.mono λe w' ⟨r,D,A⟩=>⟨r,D,trivial,A.cK au⟩) ?_
  intro k _;refine Ln (Eu (U0 O (λ_ h=>by exact (Wt 6 ((((((h.f 7 O).f 7 O).f 7 O).f 7 O).f 7 O).f 7 O):)) (bV O) (U0 O (λ_ h=>by exact (Wt 6 ((((((h.f 7 O).f 7 O).f 7 O).f 7 O).f 7 O).f 7 O):)) (Yf yO O) ?_)));refine WU.nil (λ_ h=>by exact (Wt 6 ((((((h.f 7 O).f 7 O).f 7 O).f 7 O).f 7 O).f 7 O):)) ?_;refine WS.e O ?_;refine WL.storeT (y:=f) 4 r.length 0 ({ f with la:=k.1,lc:=k.2,loc:=((s.stack.take a.toNat).reverse++List.replicate b.toNat 0) }) Y O O O E (by rw [v]; simp) e6.dk (by rw [n,vR,rK au]; simp) po O O bf O ?_;rw [show s.cB.reverse.set r.length { f with la:=k.1,lc:=k.2,loc:=((s.stack.take a.toNat).reverse++List.replicate b.toNat 0) }=({ f with la:=k.1,lc:=k.2,loc:=((s.stack.take a.toNat).reverse++List.replicate b.toNat 0) }::r).reverse by rw [n,EI]];refine Ln (Es ?_);refine WS.nil ?_;refine Et (Cr (ab O (ab O (I (bV O) (I (Yf lF O) (I (Yd 2 O O O aa) (ab O (I (rW (s.stack.drop a.toNat).reverse.length a' O K O au (by simp; omega)) ?_))))))));refine I (bV O) (I (Yf lF O) (aT 2 Y O O O po O O O ?_));refine WL.ym 3 (s.stack.drop a.toNat).reverse O hO au (by rw [CX]; congr 2; simp; omega) ?_;refine Ln ?_;refine E0 O λw' g=>?_;have g:=g.aJ 6 rfl;have g:=g.aJ 6 rfl;have g:=g.aJ 6 rfl;have g:=g.aJ 6 rfl;have g:=g.aJ 6 rfl;have g:=g.aJ 5 rfl;have g:=g.aJ 7 rfl;have g:=Ws.df (L:=[_,_,_,_,_,_,_]) g;rw [n] at g;have g:=g.wa;have g:=Wd 1 g;have g:=g.aJ 1 rfl;have g:=g.wb;have g:=g.aJ 5 rfl;have g:=g.aJ 5 rfl;have g:=g.aJ 5 rfl;have g:=g.aJ 5 rfl;have g:=g.aJ 5 rfl;have g:=Ws.df (L:=[_,_,_,_,_,_]) g
  have J:jq s.obj (0+3) (dO (.slice s.sa (s.stack.drop a.toNat).reverse.length s.sc))=a0.obj { s with stack:=s.stack.drop a.toNat,cB:={ f with la:=k.1,lc:=k.2,loc:=((s.stack.take a.toNat).reverse++List.replicate b.toNat 0) }::r }:=by
    unfold a0.obj;rw [show s.cB.reverse.length=({ f with la:=k.1,lc:=k.2,loc:=((s.stack.take a.toNat).reverse++List.replicate b.toNat 0) }::r).reverse.length by simp [n]]
    rfl
  rw [J] at g;refine .inl ⟨((),{ s with stack:=s.stack.drop a.toNat,cB:={ f with la:=k.1,lc:=k.2,loc:=((s.stack.take a.toNat).reverse++List.replicate b.toNat 0) }::r }),O,⟨?_,⟨m.cr,by show (s.stack.drop a.toNat).length<=2048; simp; omega,by show 1<=(r.length+1)/\r.length+1<=25; omega,m.out,m.jz⟩⟩,g⟩;rw [B] at p;unfold tx;rw [av (by rw [show s.pu.stack.length=s.stack.length from rfl,p]; simp),show s.pu.cB=f.pu::r.map e6.pu by show s.cB.map e6.pu=_; rw [n]; rfl]
  rfl
 refine Ue O (λ_ h=>(Wd 1 h:)) ?_ WU.stop;refine Lb Y O Bh O O O O λu=>?_;refine Ln (Eu ?_);refine Ue O (λ_ h=>(Wd 2 h:)) ?_ WU.stop;refine Lf 7 O (Lf 7 O (Lf 7 O (Lf 7 O (Lf 7 O (Lf 7 O ?_)))));refine kE m ?_;intro N E;refine Ln (Eu ?_);refine Ue O (λ_ h=>(Wt 6 h:)) ?_ WU.stop
 refine WL.yn (ι:=Option Addr×Nat) Y O aK O (λr=>.slice r.1 ((s.stack.take a.toNat).reverse++List.replicate b.toNat 0).length r.2) (λr=>[cW 3 1 iv r.1 r.2 (((s.stack.take a.toNat).reverse++List.replicate b.toNat 0))]) (λ_=>True) (λw g=>by
     have t:Sl jD 1 (hv w) s.sa s.sc s.stack.reverse:=g.Ak 1 rfl hO pn;have t:=t.drop (s.stack.length-a.toNat) Z
     have C:Sl jD 1 (hv w) (some ⟨o,0,none⟩) b.toNat (List.replicate b.toNat (0:Int)):=⟨au,Z,au,λj x l=>⟨o,0,rfl,g.dZ 7 rfl (by
       show ((List.replicate b.toNat (0:Int)).flatMap iv)[0+j*1]? = _
       have:=kZ hO l (j:=0) bf;rw [gC];rw [oY] at this
       rw [this]; rfl)⟩⟩
     have F:(s.stack.reverse.drop (s.stack.length-a.toNat)).length=s.stack.reverse.length-(s.stack.length-a.toNat):=au
     have G:(List.replicate b.toNat (0:Int)).length=b.toNat:=au
     have H:Sl gd 1 (hv w) (some ⟨u,0,none⟩) 2 [((if s.sc-(s.stack.length-a.toNat)=0 then s.sa else s.sa.map (·.add ((s.stack.length-a.toNat)*1)),s.sc-(s.stack.length-a.toNat)),s.stack.reverse.drop (s.stack.length-a.toNat)),((some ⟨o,0,none⟩,b.toNat),List.replicate b.toNat (0:Int))]:=⟨au,bf,au,λj x l=>⟨u,0,rfl,by
       match j,l with
       | 0,l=>simp only [me,eY] at l; subst l; exact ⟨by rw [F]; exact g.dZ 6 rfl rfl,t⟩
       | 1,l=>simp only [mR,me,eY] at l; subst l; exact ⟨by rw [G]; exact g.dZ 6 rfl rfl,C⟩⟩⟩
     have v:[((if s.sc-(s.stack.length-a.toNat)=0 then s.sa else s.sa.map (·.add ((s.stack.length-a.toNat)*1)),s.sc-(s.stack.length-a.toNat)),s.stack.reverse.drop (s.stack.length-a.toNat)),((some (⟨o,0,none⟩:Addr),b.toNat),List.replicate b.toNat (0:Int))].flatMap (·.2)=((s.stack.take a.toNat).reverse++List.replicate b.toNat 0):=by
       simp only [i7,zT,qB];rw [qh,show s.stack.length-(s.stack.length-a.toNat)=a.toNat by omega]
     have z:=EJ (hv w) (some ⟨u,0,none⟩) 2 _ w (gV w) H (by simp [gM]; omega) au;rw [v] at z
     exact z.mono λe w' ⟨r,D,A⟩=>⟨r,D,trivial,A.cK au⟩) ?_
 intro k _;refine Ln (Eu (U0 O (λ_ h=>by exact (Wt 6 ((((((h.f 6 O).f 6 O).f 6 O).f 6 O).f 6 O).f 6 O):)) (bV O) (U0 O (λ_ h=>by exact (Wt 6 ((((((h.f 6 O).f 6 O).f 6 O).f 6 O).f 6 O).f 6 O):)) (Yf yO O) ?_)));refine WU.nil (λ_ h=>by exact (Wt 6 ((((((h.f 6 O).f 6 O).f 6 O).f 6 O).f 6 O).f 6 O):)) ?_;refine WS.e O ?_;refine WL.storeT (y:=f) 3 r.length 0 ({ f with la:=k.1,lc:=k.2,loc:=((s.stack.take a.toNat).reverse++List.replicate b.toNat 0) }) Y O O O E (by rw [v]; simp) e6.dk (by rw [n,vR,rK au]; simp) po O O bf O ?_;rw [show s.cB.reverse.set r.length { f with la:=k.1,lc:=k.2,loc:=((s.stack.take a.toNat).reverse++List.replicate b.toNat 0) }=({ f with la:=k.1,lc:=k.2,loc:=((s.stack.take a.toNat).reverse++List.replicate b.toNat 0) }::r).reverse by rw [n,EI]];refine Ln (Es ?_);refine WS.nil ?_;refine Et (Cr (ab O (ab O (I (bV O) (I (Yf lF O) (I (Yd 1 O O O aa) (ab O (I (rW (s.stack.drop a.toNat).reverse.length a' O K O au (by simp; omega)) ?_))))))));refine I (bV O) (I (Yf lF O) (aT 1 Y O O O po O O O ?_));refine WL.ym 2 (s.stack.drop a.toNat).reverse O hO au (by rw [CX]; congr 2; simp; omega) ?_;refine Ln ?_;refine E0 O λw' g=>?_;have g:=g.aJ 6 rfl;have g:=Ws.df (L:=[_,_,_,_,_,_,_]) g;rw [n] at g;have g:=g.wa;have g:=Wd 1 g;have g:=g.aJ 1 rfl;have g:=g.wb;have g:=g.aJ 5 rfl;have g:=g.aJ 5 rfl;have g:=g.aJ 5 rfl;have g:=g.aJ 5 rfl;have g:=g.aJ 5 rfl;have g:=Ws.df (L:=[_,_,_,_,_,_]) g
 have J:jq s.obj (0+3) (dO (.slice s.sa (s.stack.drop a.toNat).reverse.length s.sc))=a0.obj { s with stack:=s.stack.drop a.toNat,cB:={ f with la:=k.1,lc:=k.2,loc:=((s.stack.take a.toNat).reverse++List.replicate b.toNat 0) }::r }:=by
   unfold a0.obj;rw [show s.cB.reverse.length=({ f with la:=k.1,lc:=k.2,loc:=((s.stack.take a.toNat).reverse++List.replicate b.toNat 0) }::r).reverse.length by simp [n]]
   rfl
 rw [J] at g;refine .inl ⟨((),{ s with stack:=s.stack.drop a.toNat,cB:={ f with la:=k.1,lc:=k.2,loc:=((s.stack.take a.toNat).reverse++List.replicate b.toNat 0) }::r }),O,⟨?_,⟨m.cr,by show (s.stack.drop a.toNat).length<=2048; simp; omega,by show 1<=(r.length+1)/\r.length+1<=25; omega,m.out,m.jz⟩⟩,g⟩;rw [B] at p;unfold tx;rw [av (by rw [show s.pu.stack.length=s.stack.length from rfl,p]; simp),show s.pu.cB=f.pu::r.map e6.pu by show s.cB.map e6.pu=_; rw [n]; rfl]
 rfl
end Go.Proofs.YtgeahfjicmlocaaGreatDoor.Mch
end
