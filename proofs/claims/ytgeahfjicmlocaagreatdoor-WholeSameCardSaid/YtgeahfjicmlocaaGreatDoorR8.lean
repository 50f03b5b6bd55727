/- WholeSame: Exec tells what Mean tells: the same numbers, the same end, the same data, as many ticks; and what is executed is never Broken, nor out of steps. -/
import Derived.Test.YtgeahfjicmlocaaGreatDoorR7
set_option linter.unusedVariables false
set_option linter.unusedSimpArgs false
set_option linter.defProp false
open _root_ renaming List->I,Nat->Z,Int->ac,Option->aA,Bool->aS,Array->bH,Unit->ef,String->fO
open Option renaming some->aa,none->ao
open Bool renaming true->ad,false->aq
open Go.Value renaming int->am,slice->aE,bool->bW,agg->b0,tuple->cO
open Go.IntKind renaming i64->an
open Go.Proofs.Tryz renaming prog->aC
open Go renaming World->aP,Value->aR,Addr->a6,TypeId->cn,Calls->cx,Program->dJ,Operand->ei,Edge->fY
open Go.Obj renaming cells->aY
open Or renaming inr->be,inl->bB
open Go.Ending renaming returned->cf
open Nat renaming strongRecOn->om
section
namespace Go.Proofs.YtgeahfjicmlocaaGreatDoor.Mch
open Go.Bw Go.Proofs.Tryz
variable {az:ac}
def agB (a b:ac) (h:F_ az=aq):(iV az a b).2=aq:=by simp [F_] at h;simp [iV,h]
variable {yZ:I ce}
def U5 {bn:I ac} {a0 steps:ac} (h:k_ yZ az bn a0 steps=0):h1 yZ az=0/\bn.length<=64/\(0<=a0/\a0<=2000)/\(0<=steps/\steps<=134217728):=by
 unfold k_ at h;by_cases a:h1 yZ az=0
 ·rw [aD a] at h;by_cases b:64<bn.length;·rw [aD b] at h;cases h
  ·rw [aj b] at h;by_cases c:(((decide (a0<0)||decide (2000<a0))||decide (steps<0))||decide (134217728<steps))=ad;·rw [aD c] at h;cases h
   ·simp at c;exact ⟨a,ai,ai,ai⟩
 ·rw [aj a] at h;exact absurd h a
structure lF (N:ac->Prop) (m:Pm):Prop where
 at_:N m.at_
 fr:∀f ∈ m.de,N f.2
variable {wG:ac->Prop} {BS:Prop}
def iG [Decidable BS] {a b:Rz ef} (c:BS->lF wG a.st) (d:lF wG b.st):lF wG (if BS then a else b).st:=by
 split;·rename_i h;exact c h
 ·exact d
variable {jB:Pm}
def rV (h:lF wG jB) {k:ac->Pm->Rz ef} (b:∀a m',lF wG m'->lF wG (k a m').st):lF wG ((eH jB).bind k).st:=by unfold eH;cases jB.stack with| nil=>exact h| cons a r=>exact b a _ ⟨h.at_,h.fr⟩
def vh (h:lF wG jB) (n:ac):lF wG (gh n jB).st:=by
 unfold gh;split;·exact h
 ·exact ⟨h.at_,h.fr⟩
def U6 (h:lF wG jB):lF wG (n6 jB).st:=by
 unfold n6;split;·exact h
 ·exact ⟨h.at_,h.fr⟩
def agC (h:lF wG jB) (op:ac):lF wG (k9 op jB).st:=by unfold k9;refine iG (λ_=>h)<|rV h λb e d=>rV d λa f c=>iG (λ_=>vh c _)<|iG (λ_=>c)<|vh c _
def agD (h:lF wG jB) (k:Z) (n:ac):lF wG<|AQ jB k n:=by
 unfold AQ;refine ⟨h.at_,λf a=>?_⟩;have b:=h.fr;cases c:jB.de with
 | nil=>rw [c] at a;simp at a
 | cons g r=>
  rw [c] at a b;simp only [eR] at a;rcases a with rfl | a;·exact b g aK
  ·exact b f (by simp [a])
def agE (h:lF wG jB) (a b:ac):lF wG (p_ a b jB).st:=by
 unfold p_;refine iG (λ_=>h)<|⟨h.at_,λf c=>?_⟩;have d:=h.fr;cases e:jB.de with
 | nil=>simp only [Rz.st,e] at c;simp at c
 | cons g r=>
  simp only [Rz.st,e,eR] at c;rw [e] at d;rcases c with rfl | c;·exact d g aK
  ·exact d f (by simp [c])
def agF (h:lF wG jB)  (d:wG az):lF wG (qa az jB).st:=by
 have a:=U6 h;unfold qa;cases c:n6 jB with
 | ov e m'=>rw [c] at a;exact a
 | ok u m'=>
  rw [c] at a;have a:lF wG m':=a;refine iG (λ_=>a) ⟨d,λf b=>?_⟩;simp only [Rz.st,eR] at b;rcases b with rfl | b;·exact a.at_
  ·exact a.fr f b
def agG (h:lF wG jB):lF wG (f' jB).st:=by have a:=h.fr;unfold f';refine iG (λ_=>h) ?_;cases c:jB.de with| nil=>exact h| cons g r=>rw [c] at a;exact ⟨a g aK,λf b=>a f (by simp only [Rz.st] at b;simp [b])⟩
def agH {N:ac->Prop} {i:ce} {m:Pm} (j:N m.bj.at_) (l:∀f ∈ m.de,N f.2) (e:goes i.op=ad->N i.a):lF N (dN i m).st:=by have h:lF N m.bj:=⟨j,l⟩;unfold dN;generalize m.bj=m at h;unfold dA;refine iG (λ_=>vh h _)<|iG (λ_=>iG (λ_=>h)<|vh h _)<|iG (λ_=>rV h λn c b=>iG (λ_=>b)<|agD b _ _)<|iG (λ_=>iG (λ_=>h)<|vh h _)<|iG (λ_=>rV h λn c b=>iG (λ_=>b) ⟨b.at_,b.fr⟩)<|iG (λ_=>rV h λn c b=>iG (λ_=>b)<|vh b _)<|iG (λ_=>rV h λn c b=>iG (λ_=>b)<|vh b _)<|iG (λ_=>rV h λn c b=>rV b λk o g=>iG (λ_=>g) ⟨g.at_,g.fr⟩)<|iG (λ_=>rV h λn c b=>vh b _)<|iG (λ_=>rV h λn c b=>vh b _)<|iG (λ_=>agC h _)<|iG (λd=>⟨e (by simp at d;simp [goes,d]),h.fr⟩)<|iG (λd=>rV h λn c b=>iG (λ_=>⟨e (by simp at d;simp [goes,d]),b.fr⟩) b)<|iG (λd=>agF h<|e (by simp at d;simp [goes,d]))<|iG (λ_=>agE h _ _)<|iG (λ_=>agG h)<|iG (λ_=>U6 h)<|iG (λ_=>rV h λn c b=>b)<|iG (λ_=>vh (by unfold oJ;split;exact h;exact ⟨h.at_,h.fr⟩) _)<|iG (λ_=>rV h λn c b=>iG (λ_=>b) ⟨b.at_,b.fr⟩)<|iG (λ_=>h) h
def Pm.ss (m:Pm) (s:ac):Pm:={ m with steps:=s }
def Rz.ss {α:Type} (r:Rz α) (s:ac):Rz α:=match r with| .ok a m=>.ok a<|m.ss s| .ov e m=>.ov e<|m.ss s
def q6 {α β:Type} {r:Rz α} {b:Rz α} {f:α->Pm->Rz β}  (c:b=r.ss az) (d:∀a m,f a (m.ss az)=(f a m).ss az):b.bind f=(r.bind f).ss az:=by subst c;cases r with| ok a m=>exact d a m| ov e m=>rfl
def i1 {α:Type}  [Decidable BS] {a b c d:Rz α}  (e:c=a.ss az) (f:d=b.ss az):(if BS then c else d)=(if BS then a else b).ss az:=by
 split;·exact e
 ·exact f
def rW (m:Pm) (s:ac):eH (m.ss s)=(eH m).ss s:=by obtain ⟨a,b,c,st,d,e,f,g,h⟩:=m;cases st<;>rfl
def vi (n:ac) (m:Pm) (s:ac):gh n (m.ss s)=(gh n m).ss s:=by unfold gh Pm.ss;dsimp only;split<;>rfl
def U7 (m:Pm) (s:ac):n6 (m.ss s)=(n6 m).ss s:=by unfold n6 Pm.ss;dsimp only;split<;>rfl
def agI (op:ac) (m:Pm) (s:ac):k9 op (m.ss s)=(k9 op m).ss s:=by unfold k9;refine i1 O<|q6 (rW m s) λb d=>q6 (rW d s) λa c=>i1 (vi _ c s)<|i1 O<|vi _ c s
def agJ (a b:ac) (m:Pm) (s:ac):p_ a b (m.ss s)=(p_ a b m).ss s:=by unfold p_ Pm.ss;dsimp only;split<;>rfl
def agK (to:ac) (m:Pm) (s:ac):qa to (m.ss s)=(qa to m).ss s:=by unfold qa;refine q6 (U7 m s) λ_ a=>?_;show (if 24<a.de.length then _ else _)=_;exact i1 O O
def agL (m:Pm) (s:ac):f' (m.ss s)=(f' m).ss s:=by
 unfold f';show (if m.de.length=1 then _ else match m.de with| []=>_| f::r=>_)=_;split;·rfl
 ·obtain ⟨a,b,c,st,fr,e,f,g,h⟩:=m;cases fr<;>rfl
def agM (m:Pm) (s:ac):oJ (m.ss s)=((oJ m).1,(oJ m).2.ss s):=by obtain ⟨a,b,c,st,fr,bn,f,g,h⟩:=m;cases bn<;>rfl
def agN (i:ce) (m:Pm) (s:ac):dN i (m.ss s)=(dN i m).ss s:=by unfold dN;show dA i (m.bj.ss s)=_;generalize m.bj=m;unfold dA;refine i1 (vi _ _ _)<|i1 (i1 O<|vi _ _ _)<|i1 (q6 (rW m s) λn a=>i1 O O)<|i1 (i1 O<|vi _ _ _)<|i1 (q6 (rW m s) λn a=>i1 O O)<|i1 (q6 (rW m s) λn a=>i1 O<|vi _ _ _)<|i1 (q6 (rW m s) λn a=>i1 O<|vi _ _ _)<|i1 (q6 (rW m s) λn a=>q6 (rW a s) λk b=>i1 O O)<|i1 (q6 (rW m s) λn a=>vi _ _ _)<|i1 (q6 (rW m s) λn a=>vi _ _ _)<|i1 (agI _ _ _)<|i1 O<|i1 (q6 (rW m s) λn a=>i1 O O)<|i1 (agK _ _ _)<|i1 (agJ _ _ _ _)<|i1 (agL _ _)<|i1 (U7 _ _)<|i1 (q6 (rW m s) λn a=>rfl)<|i1 (by rw [agM];exact vi _ _ _)<|i1 (q6 (rW m s) λn a=>i1 O O)<|i1 O O
def j9 (mk:I aS) (cur:I ce) (k:Z):aA<|Z×ce:= if iW mk cur k [1,10]=ad then (if (iV (aG cur<|k+2).a (aG cur k).a (aG cur<|k+1).a).2=ad then aa (3,⟨1,(iV (aG cur<|k+2).a (aG cur k).a (aG cur<|k+1).a).1,0⟩) else ao) else if (iW mk cur k [12]&&(aG cur k).a==0)=ad then aa (2,⟨11,(aG cur<|k+1).a,0⟩) else if iW mk cur k [9]=ad then aa (2,⟨1,iC<|(aG cur k).a==0,0⟩) else if iW mk cur k [22]=ad then aa (2,⟨1,iC<|(aG cur k).a != 0,0⟩) else if (iW mk cur k [12]||iW mk cur k [17])=ad then aa (2,⟨21,0,0⟩) else ao
def agO (cur:I ce) (k:Z):aA (Z×ce)->I ce| ao=>cur| aa (n,x)=>hS cur k n x
def HM (mk:I aS) (cur:I ce) (k:Z):qd mk cur k=agO cur k (j9 mk cur k):=by
 unfold qd j9;repeat' split
 all_goals rfl
variable {dr:I aS} {bE:Z}
def Mn (h:pq dr yZ bE az=ad):bE<yZ.length/\(aG yZ bE).op=az/\dr[bE]? = aa aq:=by unfold pq at h;simp at h;refine ⟨h.1,h.2.1,?_⟩;have a:=h.2.2;cases c:dr[bE]? with| none=>rw [c] at a;simp at a| some b=>rw [c] at a;simp at a;rw [a]
def El (h:iW dr yZ bE [az]=ad):bE+1<yZ.length/\(aG yZ<|bE+1).op=az/\dr[bE+1]? = aa aq:=Mn (by simpa [iW,zX] using h)
def agP {a b:ac} (h:iW dr yZ bE [a,b]=ad):(bE+1<yZ.length/\(aG yZ<|bE+1).op=a/\dr[bE+1]? = aa aq)/\(bE+2<yZ.length/\(aG yZ<|bE+2).op=b/\dr[bE+2]? = aa aq):=by
 have c:pq dr yZ (bE+1) a=ad/\pq dr yZ (bE+2) b=ad:=by simpa [iW,zX] using h
 exact ⟨Mn c.1,Mn c.2⟩
structure U8 (mk:I aS) (cur:I ce) (k n:Z) (x:ce):Prop where
 len:k+n<=cur.length
 two:n=2\/n=3
 un:∀j,k<j->j<k+n->mk[j]? = aa aq
 is:(n=3/\(aG cur<|k+1).op=1/\(aG cur<|k+2).op=10/\(iV (aG cur<|k+2).a (aG cur k).a (aG cur<|k+1).a).2=ad/\x=⟨1,(iV (aG cur<|k+2).a (aG cur k).a (aG cur<|k+1).a).1,0⟩)\/
   (n=2/\(aG cur<|k+1).op=12/\(aG cur k).a=0/\x=⟨11,(aG cur<|k+1).a,0⟩)\/
   (n=2/\(aG cur<|k+1).op=9/\x=⟨1,iC<|(aG cur k).a==0,0⟩)\/
   (n=2/\(aG cur<|k+1).op=22/\x=⟨1,iC<|(aG cur k).a != 0,0⟩)\/
   (n=2/\(aG cur<|k+1).op=12/\(aG cur k).a≠0/\x=⟨21,0,0⟩)\/
   (n=2/\(aG cur<|k+1).op=17/\x=⟨21,0,0⟩)
variable {fv:ce}
def Mo {k n:Z}  (h:j9 dr yZ k=aa (n,fv)):U8 dr yZ k n fv:=by
 have d:dr[k+1]? = aa aq->∀j,k<j->j<k+2->dr[j]? = aa aq:=λh j a b=>by rw [show j=k+1 by omega];exact h
 unfold j9 at h;split at h
 ·rename_i c;obtain ⟨⟨a1,a2,a3⟩,p,f,g⟩:=agP c;split at h;·rename_i i;injection h with h;injection h with a b;subst a b;exact ⟨ai,be rfl,λj a b=>by rcases (show j=k+1\/j=k+2 by omega) with rfl | rfl;exact a3;exact g,bB ⟨rfl,a2,f,i,rfl⟩⟩
  ·cases h
 ·split at h;·rename_i c;simp only [eI,j8] at c;obtain ⟨a1,a2,a3⟩:=El c.1;injection h with h;injection h with a b;subst a b;exact ⟨ai,bB O,d a3,be<|bB ⟨O,a2,c.2,O⟩⟩
  ·rename_i l;split at h;·rename_i c;obtain ⟨a1,a2,a3⟩:=El c;injection h with h;injection h with a b;subst a b;exact ⟨ai,bB O,d a3,be<|be<|bB ⟨O,a2,O⟩⟩
   ·split at h;·rename_i c;obtain ⟨a1,a2,a3⟩:=El c;injection h with h;injection h with a b;subst a b;exact ⟨ai,bB O,d a3,be<|be<|be<|bB ⟨O,a2,O⟩⟩
    ·split at h
     ·rename_i c;injection h with h;injection h with a b;subst a b;by_cases e:iW dr yZ k [12]=ad;·obtain ⟨a1,a2,a3⟩:=El e;exact ⟨ai,bB O,d a3,be<|be<|be<|be<|bB ⟨O,a2,by intro m;simp [e,m] at l,O⟩⟩
      ·have o:iW dr yZ k [17]=ad:=by simpa [e] using c
       obtain ⟨a1,a2,a3⟩:=El o;exact ⟨ai,bB O,d a3,be<|be<|be<|be<|be ⟨O,a2,O⟩⟩
     ·cases h
def x3 {cur:I ce} {k n:Z} {x:ce} (e:k+n<=cur.length) (d:n=2\/n=3) (j:Z):(hS cur k n x)[j]? = if j=k+n-1 then aa x else if k<=j/\j<k+n then aa ⟨21,0,0⟩ else cur[j]?:=by
 rcases d with rfl | rfl
 ·show ((cur.set (k+0) ⟨21,0,0⟩).set (k+2-1) x)[j]? = _;rw [eu,eu];by_cases a:k+2-1=j;·rw [aD a,aD a.symm,aD (by simp;omega)]
  ·rw [aj a,aj<|x_ a];by_cases b:k+0=j;·rw [aD b,aD ai,aD ai]
   ·rw [aj b,aj ai]
 ·show (((cur.set (k+0) ⟨21,0,0⟩).set (k+1) ⟨21,0,0⟩).set (k+3-1) x)[j]? = _;rw [eu,eu,eu];by_cases a:k+3-1=j;·rw [aD a,aD a.symm,aD (by simp;omega)]
  ·rw [aj a,aj<|x_ a];by_cases c:k+1=j;·rw [aD c,aD (by simp;omega),aD ai]
   ·rw [aj c];by_cases b:k+0=j;·rw [aD b,aD ai,aD ai]
    ·rw [aj b,aj ai]
def Mp {aO:ac}  {p:Z}  (b:jB.at_=(p:ac)) (a:yZ[p]? = aa fv):iterM yZ aO jB=if (jB.steps==aO)=ad then .ov 7 jB else dN fv jB.tk:=by have c:=(cN.1 a).1;unfold iterM;rw [aj (show ¬bq jB.at_ yZ.length=ad by rw [b];simp [bq];omega),show jB.at_.toNat=p by omega,a];rfl
def rb {m:Pm} {p:Z}  (c:m.at_=(p:ac)) (d:yZ[p]? = aa fv) (a:(runK yZ az bE m).1≠7) : ∃f,bE=f+1/\(m.steps==az)=aq/\runK yZ az bE m=match dN fv m.tk with| .ov e m'=>(e,m')| .ok _ m'=>runK yZ az f m':=by cases bE with| zero=>exact absurd rfl a| succ f=>have hi:=Mp (aO:=az) c d;cases b:(m.steps==az) with| true=>rw [b,aD rfl] at hi;unfold runK at a;rw [hi] at a;exact absurd O a| false=>rw [b,aj aK] at hi;refine ⟨f,O,O,?_⟩;rw [runK,hi];cases dN fv m.tk<;>rfl
variable {bt:Pm}
def t' {aO:ac} {f:Z}  {p:Z}  (a:jB.at_=(p:ac)) (b:yZ[p]? = aa fv) (c:(jB.steps==aO)=aq) (d:dN fv jB.tk = .ok () bt):runK yZ aO (f+1) jB=runK yZ aO f bt:=by have hi:=Mp (aO:=aO) a b;rw [c,aj aK,d] at hi;exact PJ f hi
def En (h:fv.op=1) (m:Pm):dN fv m.tk=gh fv.a m.tk.bj:=by unfold dN dA;rw [aD (by rw [h];rfl)]
def HN (m:Pm):dN ⟨21,0,0⟩ m.tk = .ok () m.tk.bj:=by simp [dN,dA]
def HO {x:ce} (h:x.op=11) (m:Pm):dN x m.tk = .ok () { m.tk.bj with at_:=x.a }:=by simp [dN,dA,h]
def HP {x:ce} (h:x.op=12) (m:Pm):dN x m.tk=(eH m.tk.bj).bind λn m=>if (n==0)=ad then .ok () { m with at_:=x.a } else .ok () m:=by simp only [dN,dA,h];rfl
def agQ (h:fv.op=9) (m:Pm):dN fv m.tk=(eH m.tk.bj).bind λn m=>gh (iC<|n==0) m:=by simp only [dN,dA,h];rfl
def agR (h:fv.op=22) (m:Pm):dN fv m.tk=(eH m.tk.bj).bind λn m=>gh (iC<|n != 0) m:=by simp only [dN,dA,h];rfl
def agS (h:fv.op=17) (m:Pm):dN fv m.tk=(eH m.tk.bj).bind λ_ m=>.ok () m:=by simp only [dN,dA,h];rfl
def agT (h:fv.op=10) (m:Pm):dN fv m.tk=k9 fv.a m.tk.bj:=by simp only [dN,dA,h];rfl
def HQ {p:Z} (h:jB.at_=(p:ac)) (a:p<=4096):jB.tk.bj.at_=((p+1:Z):ac):=by show an.wrap (jB.at_+1)=_;rw [h,qt ai];omega
def agU (h:iterM yZ az jB = .ok () bt):∃(p:Z) (z:ce),jB.at_=(p:ac)/\yZ[p]? = aa z/\(jB.steps==az)=aq/\dN z jB.tk = .ok () bt:=by
 unfold iterM at h;split at h;·cases h
 ·rename_i b;split at h;·cases h
  ·rename_i c;have a:=eL (by simpa using c);refine ⟨jB.at_.toNat,yZ[jB.at_.toNat],ai,cy a.2,by simpa using b,?_⟩;rw [cy a.2] at h;exact h
def NI (k n:Z) (p:ac):Prop:=p<=k\/(k:ac)+n<=p
def agV {k n:Z}   (ak:(aG yZ k).op=1) (K:U8 dr yZ k n fv) (aX:yZ.length<=2048)
   (al:∀(j:Z) (y:ce),yZ[j]? = aa y->goes y.op=ad->0<=y.a->y.a<yZ.length->dr[y.a.toNat]? = aa ad) (f:Z):∀m:Pm,NI k n m.at_->(∀g ∈ m.de,NI k n g.2)->(runK yZ az f m).1≠6->(runK yZ az f m).1≠7->
   runK (hS yZ k n fv) az f m=runK yZ az f m:=by
 have E:=K.len;have F:=K.two;have V:∀(j:Z) (y:ce),yZ[j]? = aa y->goes y.op=ad->NI k n y.a:=by
  intro j y ap P;by_cases W:0<=y.a/\y.a<yZ.length
  ·have A:=al j y ap P W.1 W.2;by_cases hi:k<y.a.toNat/\y.a.toNat<k+n;·rw [K.un _ hi.1 hi.2] at A;cases A
   ·unfold NI;omega
  ·unfold NI;omega
 induction f using om with
 | ind f Q=>
  intro m X R l o;by_cases S:m.at_=(k:ac)
  ·have au:yZ[k]? = aa (aG yZ k):=oK ai;have Y:yZ[k+1]? = aa (aG yZ<|k+1):=oK ai;have c0:(hS yZ k n fv)[k]? = aa ⟨21,0,0⟩:=by rw [x3 E F,aj ai,aD ai]
   obtain ⟨L,rfl,av,v⟩:=rb S au o;rw [En ak] at v;unfold gh at v;by_cases G:m.stack.length=2048;·rw [aD<|show m.tk.bj.stack.length=2048 from G] at v;rw [v] at l;exact absurd O l
   ·rw [aj<|show ¬m.tk.bj.stack.length=2048 from G] at v;have v:runK yZ az (L+1) m=runK yZ az L { m.tk.bj with stack:=(aG yZ k).a::m.stack }:=v;have aw:runK (hS yZ k n fv) az (L+1) m=runK (hS yZ k n fv) az L m.tk.bj:=t' S c0 av<|HN m;rw [v] at l o ⊢;rw [aw];have w:m.tk.bj.at_=((k+1:Z):ac):=HQ S ai;obtain ⟨b,rfl,B,c⟩:=rb (m:={ m.tk.bj with stack:=(aG yZ k).a::m.stack }) w Y o;have x:m.tk.bj.tk.bj.at_=((k+2:Z):ac):=HQ w ai;have H:∀C:Pm,b<b+1+1->NI k n C.at_->C.de=m.de->runK yZ az (b+1) { m.tk.bj with stack:=(aG yZ k).a::m.stack }=runK yZ az b C->runK (hS yZ k n fv) az (b+1) m.tk.bj=runK (hS yZ k n fv) az b C->runK (hS yZ k n fv) az (b+1) m.tk.bj=runK yZ az (b+1) { m.tk.bj with stack:=(aG yZ k).a::m.stack }:=by intro C ab hN ax t ay;rw [t] at l o ⊢;rw [ay];exact Q b ab C hN (by rw [ax];exact R) l o
    have M:n=2->NI k n ((k+2:Z):ac):=by intro h;unfold NI;omega
    have c1:n=2->(hS yZ k n fv)[k+1]? = aa fv:=by intro h;rw [x3 E F,aD ai]
    rcases K.is with ⟨aZ,r,aB,A,d⟩ | ⟨q,r,D,d⟩ | ⟨q,r,d⟩ | ⟨q,r,d⟩ | ⟨q,r,D,d⟩ | ⟨q,r,d⟩
    ·have aF:yZ[k+2]? = aa (aG yZ<|k+2):=oK ai;have c1:(hS yZ k n fv)[k+1]? = aa ⟨21,0,0⟩:=by rw [x3 E F,aj ai,aD ai]
     have c2:(hS yZ k n fv)[k+2]? = aa fv:=by rw [x3 E F,aD ai]
     rw [En r] at c;by_cases ae:m.stack.length+1=2048;·have s:gh (aG yZ<|k+1).a (Pm.bj<|Pm.tk { m.tk.bj with stack:=(aG yZ k).a::m.stack }) = .ov 6 (Pm.bj<|Pm.tk { m.tk.bj with stack:=(aG yZ k).a::m.stack }):=aD (show ((aG yZ k).a::m.stack).length=2048 by simpa using ae);rw [s] at c;rw [c] at l;exact absurd O l
     ·have s:gh (aG yZ<|k+1).a (Pm.bj<|Pm.tk { m.tk.bj with stack:=(aG yZ k).a::m.stack }) = .ok () { m.tk.bj.tk.bj with stack:=(aG yZ<|k+1).a::(aG yZ k).a::m.stack }:=aj (show ¬((aG yZ k).a::m.stack).length=2048 by simpa using ae);rw [s] at c;have c:runK yZ az (b+1) { m.tk.bj with stack:=(aG yZ k).a::m.stack }=runK yZ az b { m.tk.bj.tk.bj with stack:=(aG yZ<|k+1).a::(aG yZ k).a::m.stack }:=c;have aH:runK (hS yZ k n fv) az (b+1) m.tk.bj=runK (hS yZ k n fv) az b m.tk.bj.tk.bj:=t' w c1 B<|HN _;rw [c] at l o ⊢;rw [aH];obtain ⟨af,rfl,aI,T⟩:=rb (m:={ m.tk.bj.tk.bj with stack:=(aG yZ<|k+1).a::(aG yZ k).a::m.stack }) x aF o;have aL:(decide ((aG yZ<|k+2).a<9)||decide (15<(aG yZ<|k+2).a))=aq:=by cases ag:F_ (aG yZ<|k+2).a with| true=>simp [F_] at ag;simp;omega| false=>rw [agB _ _ ag] at A;cases A
      have aM:k9 (aG yZ<|k+2).a { m.tk.bj.tk.bj.tk.bj with stack:=(aG yZ<|k+1).a::(aG yZ k).a::m.stack }=gh fv.a m.tk.bj.tk.bj.tk.bj:=by unfold k9;rw [aL,aj aK];show (if (iV (aG yZ<|k+2).a (aG yZ k).a (aG yZ<|k+1).a).2=ad then gh (iV (aG yZ<|k+2).a (aG yZ k).a (aG yZ<|k+1).a).1 m.tk.bj.tk.bj.tk.bj else _)=_;rw [aD A,d]
      have aN:dN (aG yZ<|k+2) (Pm.tk { m.tk.bj.tk.bj with stack:=(aG yZ<|k+1).a::(aG yZ k).a::m.stack })=gh fv.a m.tk.bj.tk.bj.tk.bj:=(agT aB _).trans aM;rw [aN] at T;have ex:dN fv m.tk.bj.tk.bj.tk=gh fv.a m.tk.bj.tk.bj.tk.bj:=En (by rw [d]) _;have s:gh fv.a m.tk.bj.tk.bj.tk.bj = .ok () { m.tk.bj.tk.bj.tk.bj with stack:=fv.a::m.stack }:=by unfold gh;rw [aj<|show ¬m.tk.bj.tk.bj.tk.bj.stack.length=2048 from G];rfl
      rw [s] at T ex;have aQ:=t' (aO:=az) (f:=af) x c2 aI ex;rw [aQ];rw [T] at l o ⊢;refine Q af ai _ ?_ R l o;show NI k n m.tk.bj.tk.bj.tk.bj.at_;rw [HQ x ai];unfold NI;omega
    ·rw [HP r] at c;have t:runK yZ az (b+1) { m.tk.bj with stack:=(aG yZ k).a::m.stack }=runK yZ az b { m.tk.bj.tk.bj with at_:=(aG yZ<|k+1).a }:=by rw [c];show (match (if ((aG yZ k).a==0)=ad then Rz.ok () _ else Rz.ok () _) with| .ov e m'=>(e,m')| .ok _ m'=>runK yZ az b m')=_;rw [aD (by simpa using D)];rfl
     refine H { m.tk.bj.tk.bj with at_:=(aG yZ<|k+1).a } ai (V (k+1) _ Y (by simp [goes,r])) O t ?_;have:=t' (aO:=az) (f:=b) w (c1 q) B<|HO (by rw [d]) _;rw [this,d]
    ·rw [agQ r] at c;have s:gh (iC<|(aG yZ k).a==0) m.tk.bj.tk.bj = .ok () { m.tk.bj.tk.bj with stack:=iC ((aG yZ k).a==0)::m.stack }:=by unfold gh;rw [aj<|show ¬m.tk.bj.tk.bj.stack.length=2048 from G];rfl
     have t:runK yZ az (b+1) { m.tk.bj with stack:=(aG yZ k).a::m.stack }=runK yZ az b { m.tk.bj.tk.bj with stack:=iC ((aG yZ k).a==0)::m.stack }:=by rw [c];show (match gh (iC<|(aG yZ k).a==0) m.tk.bj.tk.bj with| .ov e m'=>(e,m')| .ok _ m'=>runK yZ az b m')=_;rw [s]
     refine H { m.tk.bj.tk.bj with stack:=iC ((aG yZ k).a==0)::m.stack } ai (by show NI k n m.tk.bj.tk.bj.at_;rw [x];exact M q) O t<|t' w (c1 q) B<|(En (by rw [d]) _).trans (by rw [d];exact s)
    ·rw [agR r] at c;have s:gh (iC<|(aG yZ k).a != 0) m.tk.bj.tk.bj = .ok () { m.tk.bj.tk.bj with stack:=iC ((aG yZ k).a != 0)::m.stack }:=by unfold gh;rw [aj<|show ¬m.tk.bj.tk.bj.stack.length=2048 from G];rfl
     have t:runK yZ az (b+1) { m.tk.bj with stack:=(aG yZ k).a::m.stack }=runK yZ az b { m.tk.bj.tk.bj with stack:=iC ((aG yZ k).a != 0)::m.stack }:=by rw [c];show (match gh (iC<|(aG yZ k).a != 0) m.tk.bj.tk.bj with| .ov e m'=>(e,m')| .ok _ m'=>runK yZ az b m')=_;rw [s]
     refine H { m.tk.bj.tk.bj with stack:=iC ((aG yZ k).a != 0)::m.stack } ai (by show NI k n m.tk.bj.tk.bj.at_;rw [x];exact M q) O t<|t' w (c1 q) B<|(En (by rw [d]) _).trans (by rw [d];exact s)
    ·rw [HP r] at c;have t:runK yZ az (b+1) { m.tk.bj with stack:=(aG yZ k).a::m.stack }=runK yZ az b m.tk.bj.tk.bj:=by rw [c];show (match (if ((aG yZ k).a==0)=ad then Rz.ok () _ else Rz.ok () _) with| .ov e m'=>(e,m')| .ok _ m'=>runK yZ az b m')=_;rw [aj (by simpa using D)];rfl
     refine H m.tk.bj.tk.bj ai (by rw [x];exact M q) O t<|t' w (c1 q) B (by rw [d];exact HN _)
    ·rw [agS r] at c;refine H m.tk.bj.tk.bj ai (by rw [x];exact M q) O c<|t' w (c1 q) B (by rw [d];exact HN _)
  ·cases f with
   | zero=>exact absurd rfl o
   | succ f=>
    have aT:(hS yZ k n fv).length=yZ.length:=J5 yZ k n fv;have hi:iterM (hS yZ k n fv) az m=iterM yZ az m:=by
     unfold iterM;rw [aT];by_cases J:bq m.at_ yZ.length=ad;·rw [aD J,aD J]
     ·have ab:=eL (by simpa using J);have aU:(hS yZ k n fv)[m.at_.toNat]? = yZ[m.at_.toNat]?:=by unfold NI at X;rw [x3 E F,aj ai,aj ai]
      rw [aj J,aj J,aU]
    rw [runK] at l o;rw [runK,runK,hi];cases ah:iterM yZ az m with| ov e m'=>rfl| ok u m'=>rw [ah] at l o;obtain ⟨p,z,aV,D,a0,aW⟩:=agU ah;have a1:=(cN.1 D).1;have U:=agH (N:=NI k n) (i:=z) (m:=m.tk) (by rw [HQ aV ai];unfold NI at X ⊢;omega) R<|λP=>V p z D P;rw [aW] at U;exact Q f ai m' U.at_ U.fr l o
def s8 (code:I ce) (j:Z) (x:ce):ce:= if ((x.op==11||x.op==12)&&(decide (0<=x.a)&&decide (x.a<(code.length:ac))&&(x.a != (j:ac))&&((aG code x.a.toNat).op==11)))=ad then ⟨x.op,(aG code x.a.toNat).a,x.b⟩ else x
def agW (h:s8 yZ bE fv≠fv):(fv.op=11\/fv.op=12)/\0<=fv.a/\fv.a<(yZ.length:ac)/\(aG yZ fv.a.toNat).op=11/\s8 yZ bE fv=⟨fv.op,(aG yZ fv.a.toNat).a,fv.b⟩:=by
 unfold s8 at h ⊢;split at h;·rename_i c;rw [aD c];simp at c;exact ⟨c.1,c.2.1.1.1,c.2.1.1.2,c.2.2,O⟩
 ·exact absurd O h
def agX (b:(runK yZ az bE jB).1≠6) (a:(runK yZ az bE jB).1≠7) : ∃(f p:Z) (x:ce),bE=f+1/\jB.at_=(p:ac)/\yZ[p]? = aa x/\(jB.steps==az)=aq/\runK yZ az bE jB=match dN x jB.tk with| .ov e m'=>(e,m')| .ok _ m'=>runK yZ az f m':=by
 cases bE with
 | zero=>exact absurd rfl a
 | succ f=>
  cases c:(jB.steps==az) with
  | true=>
   have hi:iterM yZ az jB = .ov 7 jB:=by unfold iterM;rw [c];rfl
   unfold runK at a;rw [hi] at a;exact absurd O a
  | false=>
   by_cases d:bq jB.at_ yZ.length=ad
   ·have hi:iterM yZ az jB = .ov 6 jB.tk:=by unfold iterM;rw [c,aj aK,aD d]
    unfold runK at b;rw [hi] at b;exact absurd O b
   ·have i:=eL (by simpa using d);have g:yZ[jB.at_.toNat]? = aa yZ[jB.at_.toNat]:=cy i.2;have h:jB.at_=(jB.at_.toNat:ac):=ai;obtain ⟨j,k,_,e⟩:=rb h g a;obtain rfl:f=j:=ai;exact ⟨f,jB.at_.toNat,_,O,h,g,O,e⟩
def agY {x:ce} {m:Pm}:(dN x m.tk).st.steps=m.tk.steps:=congrArg Prod.snd<|PI x m.tk
def U9 {m:Pm} (a:0<=m.steps) (b:m.steps<=134217728):m.tk.steps=m.steps+1:=by show an.wrap (m.steps+1)=_;rw [qt ai]
def agZ {code Q F:I ce} {aO:ac} (V:∀j:Z,F[j]? = (Q[j]?).map (s8 code j)) (W:Q.length=code.length) (X:∀j:Z,j<code.length->(aG code j).op=11->Q[j]? = code[j]?) (ap:aO<=134217728) (f:Z) :
   ∀(v:Z) (m:Pm) (s:ac),0<=s->s<=m.steps->m.steps<=aO->(f:ac)=aO-m.steps+1->(v:ac)=aO-s+1->(runK Q aO f m).1≠6->(runK Q aO f m).1≠7->
   ∃t,t<=(runK Q aO f m).2.steps/\runK F aO v (m.ss s)=((runK Q aO f m).1,(runK Q aO f m).2.ss t):=by
 induction f using om with
 | ind f E=>
  intro v m s au av aw ax ay i k;obtain ⟨d,p,z,rfl,Y,M,ab,c⟩:=agX i k;obtain ⟨l,rfl⟩:∃g,v=g+1:=⟨v-1,ai⟩;have az:m.steps≠aO:=by simpa using ab
  have w:((m.ss s).steps==aO)=aq:=by show (s==aO)=aq;simp;omega
  have o:F[p]? = aa (s8 code p z):=by rw [V,M];rfl
  have y:(m.ss s).at_=(p:ac):=Y;have aB:p<code.length:=by rw [<-W];exact (cN.1 M).1
  have aF:=U9 (m:=m) ai ai;have G:(m.ss s).tk=m.tk.ss (s+1):=by show ({ m with steps:=an.wrap<|s+1 }:Pm) = { m with steps:=s+1 };rw [qt ai]
  have A:=agY (x:=z) (m:=m);by_cases N:s8 code p z=z
  ·rw [N] at o;have hi:=Mp (aO:=aO) y o;rw [w,aj aK,G,agN] at hi;cases P:dN z m.tk with
   | ov e m'=>
    rw [P] at c hi A;refine ⟨s+1,?_,?_⟩;·rw [c];show s+1<=m'.steps;have:m'.steps=m.tk.steps:=A;omega
    ·rw [c,runK,hi];rfl| ok u m'=>rw [P] at c hi A;have aH:m'.steps=m.tk.steps:=A;rw [c] at i k ⊢;obtain ⟨t,H,B⟩:=E d ai l m' (s+1) ai ai ai ai ai i k;refine ⟨t,H,?_⟩;rw [runK,hi];exact B
  ·obtain ⟨n,aI,aL,R,ae⟩:=agW N;rw [ae] at o;have S:z.a.toNat<code.length:=ai;have af:Q[z.a.toNat]? = aa (aG code z.a.toNat):=by rw [X _ S R];exact oK S
   have T:∀r:I ac,runK Q aO (d+1) m=runK Q aO d { m.tk.bj with stack:=r,at_:=z.a }->runK F aO (l+1) (m.ss s)=runK F aO l { (m.ss s).tk.bj with stack:=r,at_:=(aG code z.a.toNat).a }->∃t,t<=(runK Q aO (d+1) m).2.steps/\runK F aO (l+1) (m.ss s)=((runK Q aO (d+1) m).1,(runK Q aO (d+1) m).2.ss t):=by
    intro r ag ah;rw [ag] at i k ⊢;rw [ah];obtain ⟨J,rfl,U,q⟩:=rb (m:={ m.tk.bj with stack:=r,at_:=z.a }) (p:=z.a.toNat) (by show z.a=_;omega) af k;rw [HO R] at q;have q:runK Q aO (J+1) { m.tk.bj with stack:=r,at_:=z.a }=runK Q aO J { m.tk.bj.tk with stack:=r,at_:=(aG code z.a.toNat).a }:=q;rw [q] at i k ⊢;have U:¬m.tk.steps=aO:=by have h:(m.tk.steps==aO)=aq:=U;simpa using h
    have B:=U9 (m:=m.tk) ai ai;have aM:({ m.tk.bj.tk with stack:=r,at_:=(aG code z.a.toNat).a }:Pm).steps=m.steps+2:=by show m.tk.tk.steps=_;omega
    obtain ⟨t,H,B⟩:=E J ai l { m.tk.bj.tk with stack:=r,at_:=(aG code z.a.toNat).a } (s+1) ai ai ai ai ai i k;refine ⟨t,H,?_⟩;rw [G];exact B
   rcases n with n | n;·rw [HO n] at c;exact T m.stack c<|t' y o w<|HO (x:=⟨z.op,(aG code z.a.toNat).a,z.b⟩) n _
   ·rw [HP n] at c;cases K:m.stack with
    | nil=>
     have L:eH m.tk.bj = .ov 6 m.tk.bj:=by unfold eH;rw [show m.tk.bj.stack=[] from K]
     rw [L] at c;rw [c] at i;exact absurd O i
    | cons a r=>
     have L:eH m.tk.bj = .ok a { m.tk.bj with stack:=r }:=by unfold eH;rw [show m.tk.bj.stack=a::r from K]
     have ak:eH (m.ss s).tk.bj = .ok a { (m.ss s).tk.bj with stack:=r }:=by unfold eH;rw [show (m.ss s).tk.bj.stack=a::r from K]
     rw [L] at c;have C:dN ⟨z.op,(aG code z.a.toNat).a,z.b⟩ (m.ss s).tk=if (a==0)=ad then .ok () { (m.ss s).tk.bj with stack:=r,at_:=(aG code z.a.toNat).a } else .ok () { (m.ss s).tk.bj with stack:=r }:=by rw [HP (x:=⟨z.op,(aG code z.a.toNat).a,z.b⟩) n,ak];rfl
     by_cases D:(a==0)=ad
     ·refine T r ?_ ?_;·rw [c];show (match (if (a==0)=ad then Rz.ok () _ else Rz.ok () _) with| .ov e m'=>(e,m')| .ok _ m'=>runK Q aO d m')=_;rw [aD D]
      ·rw [aD D] at C;exact t' y o w C
     ·rw [aj D] at C;have q:runK Q aO (d+1) m=runK Q aO d { m.tk.bj with stack:=r }:=by rw [c];show (match (if (a==0)=ad then Rz.ok () _ else Rz.ok () _) with| .ov e m'=>(e,m')| .ok _ m'=>runK Q aO d m')=_;rw [aj D]
      have al:=t' (aO:=aO) (f:=l) y o w C;rw [q] at i k ⊢;rw [al,G];exact E d ai l { m.tk.bj with stack:=r } (s+1) ai (by show s+1<=m.tk.steps;omega) (by show m.tk.steps<=aO;omega) (by show (d:ac)=aO-m.tk.steps+1;omega) ai i k
def zL (mk:I aS) (cur:I ce) (k:Z):I ce:=if ((aG cur k).op==1)=ad then qd mk cur k else cur
def fG (mk:I aS) (code:I ce):Z->I ce| 0=>code| i+1=>zL mk (fG mk code i) i
def ag0 (mk:I aS) (cur:I ce) (k:Z):(zL mk cur k).length=cur.length:=by
 unfold zL;split;·exact PP mk cur k
 ·rfl
def Mq (mk:I aS) (code:I ce):∀i,(fG mk code i).length=code.length| 0=>rfl| i+1=>by rw [fG,ag0,Mq mk code i]
variable {vV:I ce}
def ag1 (a:yZ.length=vV.length) (h:∀j,bE<=j->aG yZ j=aG vV j):j9 dr yZ bE=j9 dr vV bE:=by
 have b:∀(i:Z) (o:ac),pq dr yZ (bE+1+i) o=pq dr vV (bE+1+i) o:=λi o=>by unfold pq;rw [a,h (bE+1+i) ai]
 have c:∀os,iW dr yZ bE os=iW dr vV bE os:=λos=>by unfold iW;simp only [b]
 unfold j9;simp only [c,h bE<|c7 _,h (bE+1) ai,h (bE+2) ai]
def Mr (h:fv.op≠11) (a:fv.op≠12):s8 yZ bE fv=fv:=by unfold s8;rw [aj (by simp [h,a])]
def U':∀i,i<=yZ.length->∀j:Z,(lZ dr yZ i)[j]? = ((fG dr yZ i)[j]?).map λx=>if j<i then s8 yZ j x else x:=by
 intro i;induction i with
 | zero=>intro _ j;simp [lZ,fG]
 | succ i f=>
  intro hi j;have f:=f ai;have y:=ja dr yZ i;have z:=Mq dr yZ i;rw [lZ,fG];generalize lZ dr yZ i=cur at f y;generalize fG dr yZ i=q at f z;have p:∀j,i<=j->cur[j]? = q[j]?:=λj b=>by rw [f j];simp [show ¬j<i by omega]
  have w:∀j,i<=j->aG cur j=aG q j:=λj b=>by unfold aG;rw [p j b]
  have s:q[i]? = aa (aG q i):=oK ai;have t:∀{c d:I ce},c[j]? = cur[j]?->d[j]? = q[j]?->j≠i->c[j]? = (d[j]?).map λx=>if j<i+1 then s8 yZ j x else x:=by
   intro c d e g b;rw [e,g,f j];congr 1;funext x;by_cases h:j<i;·rw [aD h,aD ai]
   ·rw [aj h,aj ai]
  unfold sw zL;rw [w i<|c7 _];by_cases e:((aG q i).op==11||(aG q i).op==12)=ad
  ·rw [aD e,aj (by simp at e ⊢;omega)];by_cases b:j=i
   ·subst b;rw [s,a5,aD ai];unfold xq s8;rw [w j<|c7 _];by_cases u:(decide (0<=(aG q j).a)&&decide ((aG q j).a<(yZ.length:ac))&&((aG q j).a != (j:ac))&&((aG yZ (aG q j).a.toNat).op==11))=ad;·rw [aD u,aD (by rw [e,u];rfl),eu,aD rfl,aD ai]
    ·rw [aj u,aj (by rw [e];simpa using u),p j<|c7 _,s]
   ·refine t ?_ O b;unfold xq;split;·rw [eu,aj<|x_ b]
    ·rfl
  ·rw [aj e];have v:(aG q i).op≠11/\(aG q i).op≠12:=by simpa using e
   by_cases g:((aG q i).op==1)=ad
   ·rw [aD g,aD g,HM,HM,ag1 (y.trans z.symm) w];cases A:j9 dr q i with
    | none=>
     show cur[j]? = (q[j]?).map _;by_cases b:j=i;·subst b;rw [p j<|c7 _,s,a5,aD ai,Mr v.1 v.2]
     ·exact t O O b
    | some r=>
     obtain ⟨n,x⟩:=r;have l:=Mo A;show (hS cur i n x)[j]? = ((hS q i n x)[j]?).map _;have m:=x3 (cur:=cur) (k:=i) (n:=n) (x:=x) (by have:=l.len;omega) l.two j;have o:=x3 (cur:=q) (x:=x) l.len l.two j;by_cases c1:j=i+n-1;·rw [m,o,aD c1,aD c1,a5,aj (show ¬j<i+1 by have:=l.two;omega)]
     ·rw [aj c1] at m o;by_cases c2:i<=j/\j<i+n;·rw [m,o,aD c2,aD c2,a5,Mr a8 a8];simp
      ·rw [aj c2] at m o;exact t m o (by have:=l.two;omega)
   ·rw [aj g,aj g];by_cases b:j=i;·subst b;rw [p j<|c7 _,s,a5,aD ai,Mr v.1 v.2]
    ·exact t O O b
structure QI (mk:I aS) (code q:I ce):Prop where
 len:q.length=code.length
 go:∀(j:Z) (y:ce),q[j]? = aa y->goes y.op=ad->0<=y.a->y.a<q.length->mk[y.a.toNat]? = aa ad
 jmp:∀j:Z,j<code.length->(aG code j).op=11->q[j]? = code[j]?
 dt:∀(j:Z) (y:ce),q[j]? = aa y->vU y=aq
def ag2 (d:h1 yZ az=0):QI (marks yZ) yZ yZ:=by
 refine ⟨O,λj y b e f g=>?_,λ_ _ _=>rfl,λj y b=>?_⟩;·have i:=(cN.1 b).1;have k:y.a.toNat<yZ.length:=ai;unfold marks mk;rw [fp,MF k];simp only [a5,gI,zS];right;rw [ta];refine ⟨j,by simpa using i,?_⟩;unfold po;rw [b];simp [e,f,g]
 ·have h:=d;unfold h1 at h;split at h;·cases h
  ·split at h;·cases h
   ·rename_i c;have c:yZ.any vU=aq:=by simpa using c
    exact by simpa using (vq.1 c) y (aW b)
def ag3 (h:QI dr yZ vV) (k:Z):QI dr yZ<|zL dr vV k:=by
 unfold zL;split
 ·rename_i l;have l:(aG vV k).op=1:=by simpa using l
  rw [HM];cases t:j9 dr vV k with
  | none=>exact h
  | some r=>
   obtain ⟨n,x⟩:=r;have e:=Mo t;have q:(hS vV k n x).length=vV.length:=J5 vV k n x;have B:=e.len;have C:=e.two;have m:=λj=>x3 (cur:=vV) (x:=x) e.len e.two j;have u:vV[k+1]? = aa (aG vV<|k+1):=oK ai;show QI dr yZ<|hS vV k n x;refine ⟨by rw [q,h.len],λj y a c o g=>?_,λj a p=>?_,λj y a=>?_⟩
   ·rw [q] at g;rw [m j] at a;split at a
    ·injection a with a;subst a;rcases e.is with ⟨_,_,_,_,b⟩ | ⟨_,d,_,b⟩ | ⟨_,_,b⟩ | ⟨_,_,b⟩ | ⟨_,_,_,b⟩ | ⟨_,_,b⟩;·rw [b] at c;simp [goes] at c
     ·rw [b] at o g ⊢;exact h.go (k+1) (aG vV<|k+1) u (by simp [goes,d]) o g
     ·rw [b] at c;simp [goes] at c
     ·rw [b] at c;simp [goes] at c
     ·rw [b] at c;simp [goes] at c
     ·rw [b] at c;simp [goes] at c
    ·split at a;·injection a with a;subst a;simp [goes] at c
     ·exact h.go j y a c o g
   ·have s:=h.jmp j a p;have f:(aG vV j).op=11:=by unfold aG at p ⊢;rw [s];exact p
    have v:¬(k<=j/\j<k+n):=by
     intro D;by_cases w:j=k;·subst w;rw [l] at f;cases f
     ·by_cases z:j=k+1;·subst z;rcases e.is with ⟨_,d,_,_,_⟩ | ⟨_,d,_,_⟩ | ⟨_,d,_⟩ | ⟨_,d,_⟩ | ⟨_,d,_,_⟩ | ⟨_,d,_⟩<;>rw [d] at f<;>cases f
      ·obtain rfl:j=k+2:=ai;rcases e.is with ⟨_,_,A,_,_⟩ | ⟨i,_⟩ | ⟨i,_⟩ | ⟨i,_⟩ | ⟨i,_⟩ | ⟨i,_⟩;·rw [A] at f;cases f
       all_goals omega
    rw [m j,aj ai,aj v,s]
   ·rw [m j] at a;split at a;·injection a with a;subst a;rcases e.is with ⟨_,_,_,_,b⟩ | ⟨_,d,_,b⟩ | ⟨_,_,b⟩ | ⟨_,_,b⟩ | ⟨_,_,_,b⟩ | ⟨_,_,b⟩<;>rw [b]<;>rfl
    ·split at a;·injection a with a;subst a;rfl
     ·exact h.dt j y a
 ·exact h
def HR (a:h1 yZ az=0):∀i,QI (marks yZ) yZ (fG (marks yZ) yZ i)| 0=>ag2 a| i+1=>ag3 (HR a i) i
def U_ (b:h1 yZ az=0) {aO:ac} {f:Z} {m:Pm} (d:m.at_=0) (e:∀g ∈ m.de,g.2=0) (h:(runK yZ aO f m).1≠6) (j:(runK yZ aO f m).1≠7):∀i,runK (fG (marks yZ) yZ i) aO f m=runK yZ aO f m
 | 0=>rfl
 | i+1=>by
  have a:=U_ b d e h j i;have k:=HR b i;have l:=(J4 b).2;rw [fG];unfold zL;split
  ·rename_i c;have c:(aG (fG (marks yZ) yZ i) i).op=1:=by simpa using c
   rw [HM];cases o:j9 (marks yZ) (fG (marks yZ) yZ i) i with
   | none=>exact a
   | some r=>
    obtain ⟨n,x⟩:=r;refine (agV c (Mo o) (by rw [k.len];exact l) k.go f m ?_ ?_ (by rw [a];exact h) (by rw [a];exact j)).trans a;·rw [d];unfold NI;omega
    ·intro g p;rw [e g p];unfold NI;omega
  ·exact a
def ag4 (a:h1 yZ az=0):h1 (n9 yZ) az=0:=by
 have d:(n9 yZ).length=yZ.length:=ja _ _ _;have e:(n9 yZ).any vU=aq:=by
  refine any_false λj x b=>?_;unfold n9 at b;rw [U' _ (c7 _) j] at b;obtain ⟨y,f,g⟩:=eQ.1 b;have c:=(HR a yZ.length).dt j y f;have h:x.op=y.op:=by
   rw [<-g];split;·unfold s8;split<;>rfl
   ·rfl
  unfold vU at c ⊢;rw [h];exact c
 unfold h1 at a ⊢;rw [d];split at a;·cases a
 ·rename_i i;rw [aj i,e,aj aK];split at a;·cases a
  ·exact a
def ag5 {bn:I ac} {a0 steps:ac} (a:h1 yZ az=0) : k_ (n9 yZ) az bn a0 steps=k_ yZ az bn a0 steps/\ (k_ yZ az bn a0 steps=0->(gY yZ az bn a0 steps).1.fin≠6->(gY yZ az bn a0 steps).1.fin≠7-> (gY (n9 yZ) az bn a0 steps).1=(gY yZ az bn a0 steps).1/\(gY (n9 yZ) az bn a0 steps).2<=(gY yZ az bn a0 steps).2):=by
 have h:k_ (n9 yZ) az bn a0 steps=k_ yZ az bn a0 steps:=by unfold k_;rw [aD a,aD<|ag4 a]
 refine ⟨h,λb c d=>?_⟩;obtain ⟨_,_,p,n⟩:=U5 b;unfold gY at c d ⊢;rw [aD b] at c d;rw [h,aD b,aD b];have e:=U_ a (aO:=steps) (f:=steps.toNat+1) (m:=uL a0 bn az) rfl (by simp [uL]) c d yZ.length;have i:=HR a yZ.length;obtain ⟨t,k,g⟩:=agZ (aO:=steps) (code:=yZ) (Q:=fG (marks yZ) yZ yZ.length) (F:=n9 yZ) (λj=>by
  unfold n9;rw [U' _ (c7 _) j];rcases m2 j yZ.length with l | l;·simp [l]
  ·rw [x7 (by rw [Mq];omega)];rfl) i.len i.jmp n.2 (steps.toNat+1) (steps.toNat+1) (uL a0 bn az) 0 (zZ _) (zZ _) (by show (0:ac)<=steps;omega) (by show _=steps-0+1;omega) ai (by rw [e];exact c) (by rw [e];exact d);rw [e] at k g;have o:(uL a0 bn az).ss 0=uL a0 bn az:=rfl;rw [o] at g;dsimp only;rw [g];exact ⟨O,k⟩
end Go.Proofs.YtgeahfjicmlocaaGreatDoor.Mch
end
section
namespace Go.Proofs.YtgeahfjicmlocaaGreatDoor
open Go.Bw Go.Proofs.Tryz
def Va (R:jM):ac×I ac×I ac×ac:=(R.fin,R.out,R.data,R.a0)
variable {az b':ac} {gO hR:I ac}
def ag6 {R:jM}    (h:Va R=(az,gO,hR,b')):R=⟨az,gO,hR,b'⟩:=by obtain ⟨_,_,_,_⟩:=R;simp only [Va,eJ] at h;obtain ⟨rfl,rfl,rfl,rfl⟩:=h;rfl
def Vb (w:aP):Le v0 w:=λb o h=>by simp [v0] at h
def x4:I aI×ac:=([(jR [] fb).1,(jR Ml eH).1],0)
def ag7:wH x4 [1] 9=0:=by decide +kernel
def ag8:c9 x4 [1] 9=⟨0,[6,7],[6,0,6,0,0],6⟩:=ag6 (by decide +kernel)
def ag9:s7 x4 [1] 9=0:=by decide +kernel
def ag':(j6 x4 [1] 9).fin=0:=by decide +kernel
def ag_:(j6 x4 [1] 9).out=[6,7]:=by decide +kernel
def aha:(j6 x4 [1] 9).data=[6,0,6,0,0]:=by decide +kernel
def ahb:(j6 x4 [1] 9).a0=6:=by decide +kernel
def ahc {x:Mch.jM}    (a:x.fin=az) (b:x.out=gO) (c:x.data=hR) (d:x.a0=b'):x=⟨az,gO,hR,b'⟩:=by obtain ⟨_,_,_,_⟩:=x;subst a b c d;rfl
def ahd:∀r,nr [] r->s7 r [] 9=2:=λr h=>by
 have a:r=([],2):=by
  rcases h with ⟨_,rfl⟩ | ⟨b,_⟩;·rfl
  ·exact absurd b a8
 subst a;rfl
def ahe:∃Q:I aI×ac,(∀r,nr [sX,jg] r->r=Q)/\wH Q [1] 9=0/\c9 Q [1] 9=⟨0,[6,7],[6,0,6,0,0],6⟩/\s7 Q [1] 9=0/\j6 Q [1] 9=⟨0,[6,7],[6,0,6,0,0],6⟩:= ⟨x4,agx,ag7,ag8,ag9,ahc ag' ag_ aha ahb⟩
def Vc (d:View) (w:aP) (C:Le d w) (n:Laid d) : cx aC 43 #[] w λe k=>e = cf (bW ad)/\Ext w k:=by
 refine enter func43 O 49 O O<|CE (Vs:=[d]) (Ws.init (by simp [C]))<|ak<|au O<|ag<|Cs ?_;obtain ⟨Q,s,D,m,E,t⟩:=ahe;have m:c9 Q [1] 9=⟨0,[6,7],[6,0,6,0,0],6⟩:=m;refine Cr<|Lp Y O bp O (λw a=>adJ w)<|Lp Y O bp O (λw a=>agy w) ?_;refine Lb Y O gQ O O O O λu=>eb 0 (aY ((([sX,jg]:I Tx)).flatMap g4).toArray 9 (0,0)) O O<|LW (λ_ h=>h.r9 (f:=g4) (xs:=([sX,jg]:I Tx)) (c:=2) 0 O rn O a8) ?_;refine WL.dM (rd:=rdStr) 0 O rn iH λv y=>au O<|ag<|ak<|ab O ?_;refine Lb Y O gn O O O O λG=>eb 0 (aY ((([1]:I ac)).flatMap ik).toArray 3 (0,0)) O O<|LW (λ_ h=>h.r9 (f:=ik) (xs:=([1]:I ac)) (c:=1) 0 O lr O a8) ?_;refine WL.dM (rd:=gW) 0 O lr iH λH J=>Ld Y O bp O (λr:SP×SP=>cO #[b0 #[am an (⟨0,[6,7],[6,0,6,0,0],6⟩:Mch.jM).fin,aE r.1.1 (⟨0,[6,7],[6,0,6,0,0],6⟩:Mch.jM).out.length r.1.2,aE r.2.1 (⟨0,[6,7],[6,0,6,0,0],6⟩:Mch.jM).data.length r.2.2,am an (⟨0,[6,7],[6,0,6,0,0],6⟩:Mch.jM).a0],am an 0]) (λF r=>Sl gW 1 F r.1.1 r.1.2 (⟨0,[6,7],[6,0,6,0,0],6⟩:Mch.jM).out/\Sl gW 1 F r.2.1 r.2.2 (⟨0,[6,7],[6,0,6,0,0],6⟩:Mch.jM).data) (λw a=>(U4 v d (aa ⟨u,0,ao⟩) 2 [sX,jg] H (aa ⟨G,0,ao⟩) 1 [1] 9 w a.V a.V n y a.V J).mono λe k ⟨r,q,k1,k2,i,j,l⟩=>by have p:=s q l;subst p;rw [m,D] at k1;rw [m] at i j;exact ⟨r,k1,k2,i,j⟩) λz A ai B=>ab O<|V0 (Yx O O)<|V0 (Yx O O) ?_;refine Al Y O mP λaj=>aw 0 Y O O O mO O O O<|au O<|ag<|ak<|ab O ?_;refine Lb Y O gn O O O O λK=>eb 0 (aY ((([1]:I ac)).flatMap ik).toArray 3 (0,0)) O O<|LW (λ_ h=>h.r9 (f:=ik) (xs:=([1]:I ac)) (c:=1) 0 O lr O a8) ?_;refine WL.dM (rd:=gW) 0 O lr iH λL M=>Ld Y O bp O (λr:SP×SP=>cO #[b0 #[am an (⟨0,[6,7],[6,0,6,0,0],6⟩:Mch.jM).fin,aE r.1.1 (⟨0,[6,7],[6,0,6,0,0],6⟩:Mch.jM).out.length r.1.2,aE r.2.1 (⟨0,[6,7],[6,0,6,0,0],6⟩:Mch.jM).data.length r.2.2,am an (⟨0,[6,7],[6,0,6,0,0],6⟩:Mch.jM).a0],am an 0]) (λF r=>Sl gW 1 F r.1.1 r.1.2 (⟨0,[6,7],[6,0,6,0,0],6⟩:Mch.jM).out/\Sl gW 1 F r.2.1 r.2.2 (⟨0,[6,7],[6,0,6,0,0],6⟩:Mch.jM).data) (λw a=>(Mm v d (aa ⟨u,0,ao⟩) 2 [sX,jg] L (aa ⟨K,0,ao⟩) 1 [1] 9 w a.V a.V n y a.V M).mono λe k ⟨r,q,k1,k2,i,j,l⟩=>by have p:=s q l;subst p;rw [t,E] at k1;rw [t] at i j;exact ⟨r,k1,k2,i,j⟩) λN P al R=>ab O<|V0 (Yx O O)<|V0 (Yx O O) ?_;refine Al Y O mP λap=>aw 0 Y O O O mO O O O<|au O<|ag<|ak ?_;refine Ld Y O bp O (λr:(SP×SP)×(I aI×ac)=>cO #[b0 #[am an (j6 r.2 [] 9).fin,aE r.1.1.1 (j6 r.2 [] 9).out.length r.1.1.2,aE r.1.2.1 (j6 r.2 [] 9).data.length r.1.2.2,am an (j6 r.2 [] 9).a0],am an 2]) (λF r=>True) (λw a=>(Mm v0 d ao 0 [] v0 ao 0 [] 9 w (Vb w) a.V n Sl.nil (Vb w) Sl.nil).mono λe k ⟨r,q,k1,k2,i,j,l⟩=>by rw [ahd q l] at k1;exact ⟨(r,q),k1,k2,trivial⟩) λav ax ay az=>ab O<|V0 (Yx O O)<|V0 (Yx O O) ?_;refine Al Y O mP λaB=>aw 0 Y O O O mO O O O<|au O<|ag<|ak<|ab O<|V0 (Aq O O O)<|ab O ?_;apply La 2 (x:=ad) O O O O Y O O O O O;·intro aD;refine Vg (Ym O)<|Vg (Aq O O O) ?_;exact Gt 2 O O O
 refine ab O ?_;apply La 2 (x:=ad) O O O O Y O O O O O;·intro aF;refine Vg (Ym O)<|Vg (Aq O O O) ?_;exact Gt 2 O O O
 refine ab O ?_;apply La 5 (x:=ad) O O O O Y O O O O O;·intro aG;refine Vg (dW 2 O O kD O)<|Lb (.g O O O) O gn O O O O λS=>eb 0 (aY ((([6,7]:I ac)).flatMap ik).toArray 3 (0,0)) O O<|LW (λ_ h=>h.r9 (f:=ik) (xs:=([6,7]:I ac)) (c:=2) 0 O lr O a8) ?_;refine WL.dM (rd:=gW) 0 O lr iH λaH T=>Lb (.g O O O) O gn O O O O λU=>eb 0 (aY ((([6,0,6,0,0]:I ac)).flatMap ik).toArray 3 (0,0)) O O<|LW (λ_ h=>h.r9 (f:=ik) (xs:=([6,0,6,0,0]:I ac)) (c:=5) 0 O lr O a8) ?_;refine WL.dM (rd:=gW) 0 O lr iH λaK W=>WL.cb λX ae af aL=>Vg (Yb mP tC O O)<|Lp (.g O O O) O bp O (λw a=>L3 z X (⟨0,[6,7],[6,0,6,0,0],6⟩:Mch.jM) A ((aa ⟨S,0,ao⟩,2),(aa ⟨U,0,ao⟩,5)) w a.V a.V B ⟨T.imp λb o x h=>cB.mono af h,W.imp λb o x h=>cB.mono ae h⟩) ?_;refine WL.wk ?_<|Gt 5 O O O;exact λ_ h=>Ws.aZ h<|λ_ ah=>s_ [_] ah
 refine ab O ?_;apply La 3 (x:=ad) O O O O Y O O O O O;·intro aM;refine Vg (dW 1 O O kD O)<|Vg (dW 2 O O kD O)<|Lp (.g O O O) O bp O (λw a=>L3 N z (⟨0,[6,7],[6,0,6,0,0],6⟩:Mch.jM) P A w a.V a.V R B) ?_;exact Gt 3 O O O
 refine au O<|ag<|bu ?_;refine R1 O O λk a=>⟨O,a.fr⟩
def Vd {l:I cV}:∀{d:I Z},(∀i ∈ d,i<l.length)->(nH l d).length=d.length| [],_=>rfl| i::d,h=>by have a:=Vd (l:=l) (d:=d) λj b=>h j (by simp [b]);have hi:=cy<|h i aK;unfold nH at a ⊢;rw [Ig,hi];simp [a]
def Ve {l:I cV} (f:(jl l).Nodup):∀{d:I Z},d.Nodup->(∀i ∈ d,i<l.length)->((nH l d).map (·.nm)).Nodup
 | [],_,_=>by simp [nH]
 | i::d,b,h=>by
  rw [kX] at b;have n:=Ve f b.2 λj c=>h j (by simp [c]);have g:=h i aK;have hi:=cy g;have e:nH l (i::d)=l[i]::nH l d:=by unfold nH;rw [Ig,hi]
  rw [e,nt,kX];refine ⟨λa=>?_,n⟩;obtain ⟨m,a,o⟩:=o2.1 a;unfold nH at a;obtain ⟨j,c,k⟩:=MU.1 a;have p:=(cN.1 k).1;have:i=j:=FM f g p (by rw [uz hi,uz k];exact o.symm);subst this;exact b.1 c
variable {eh:I Tx}
def ahf {us:I aI} (h:nr eh (us,0)):(1<=us.length/\us.length<=4)/\∃ms,i9 ms us:=by
 obtain ⟨c,d,_,e,f,g,i⟩:=agb h rfl;have a:=iB f;have b:=aan i.symm<|Ve e.nd a.2 a.1;have j:=b.len;rw [Vd a.1,g] at j;have k:=(KU c).1;have l:(jE eh).length=eh.length:=by simp [jE]
 exact ⟨ai,_,b⟩
def ahg {q:I aI×ac}   (w:nr eh q) (b:s7 q gO az=0):wH q gO az=0/\j6 q gO az=U3 (c9 q gO az)/\(j6 q gO az).fin≠6/\(j6 q gO az).fin≠7:=by
 obtain ⟨us,e⟩:=q;have a:(j5 (us,e)).2=0:=by
  by_cases a:(j5 (us,e)).2=0;·exact a
  ·rw [s7,aD a] at b;exact absurd b a
 have f:e=0:=by
  by_cases f:e=0;·exact f
  ·rw [UY f] at a;exact absurd a f
 subst f;obtain ⟨j,ms,m⟩:=ahf w;have c:∀u ∈ us,(bI u).2=0:=by
  by_cases c:Dn us=0;·exact sf.1 c
  ·rw [j5,aj aK,aD c] at a;exact absurd a c
 have g:j5 (us,0)=iu (us.map oj):=UX c;rw [g] at a;have x:=m.built j c;have y:qj us<=512:=by
  rcases x with h | h;·have:(iu<|us.map oj).2=2:=h;rw [this] at a;cases a
  ·have z:=(Hl a).2;have n:(iu<|dI us).1.2=qj us:=h.2;rw [U2 (l:=dI us) a] at n;have J:bK (dI us) (dI us).length=qj us:=n;have K:¬(512<bK (dI us) (dI us).length):=λk=>z<|be k;omega
 have o:=m.right j y;have p:Mch.h1 ((iu<|dI us).1.1.map toI) (iu<|dI us).1.2=0:=aeu a;have i:hs (us,0)=(Mch.n9<|(iu<|dI us).1.1.map toI,(iu<|dI us).1.2,0):=by unfold hs;rw [g];show Mch.hd ((iu<|dI us).1.1.map toI) (iu<|dI us).1.2=_;rw [Mch.hd,aD p]
 have r:¬((j5 (us,0)).2≠0):=by rw [g];exact λk=>k a
 have s:¬((hs (us,0)).2.2≠0):=by rw [i];simp
 have A:s7 (us,0) gO az=Mch.k_ (hs (us,0)).1 (hs (us,0)).2.1 gO az 134217728:=(aj r).trans<|aj s;have B:j6 (us,0) gO az=(Mch.gY (hs (us,0)).1 (hs (us,0)).2.1 gO az 134217728).1:=(aj r).trans<|aj s;rw [A,i] at b;rw [B,i];obtain ⟨s1,s2⟩:=Mch.ag5 (bn:=gO) (a0:=az) (steps:=134217728) p;have b:Mch.k_ (Mch.n9<|(iu<|dI us).1.1.map toI) (iu<|dI us).1.2 gO az 134217728=0:=b;rw [s1] at b;obtain ⟨_,C,t,_⟩:=Mch.U5 b;have v:pi us gO az=0:=XV.2 ⟨o,C,t.1,t.2⟩;have D:wH (us,0) gO az=0:=by rw [wH,aj aK];exact v
 have E:c9 (us,0) gO az=mN us gO az:=by rw [c9,aj aK]
 obtain ⟨L,rfl⟩:∃L:Z,az=L:=⟨az.toNat,ai⟩;have F:=(Hl (l:=dI us) a).2;have G:=U2 (l:=dI us) a;rw [G] at b s2 ⊢;have d:=Mch.afD (uJ.1 o) c F (L:=L) ai gO b;have H:mN us gO (L:ac)=ny us gO L:=by unfold mN;rw [aD v,ku]
 have s3:=(s2 b (by rw [show (Mch.gY ((jN<|dI us).map toI) (bK (dI us) (dI us).length) gO L 134217728).1=_ from d.1];exact d.2.1) (by rw [show (Mch.gY ((jN<|dI us).map toI) (bK (dI us) (dI us).length) gO L 134217728).1=_ from d.1];exact d.2.2)).1;have s4:(Mch.gY (Mch.n9<|(jN<|dI us).map toI) (bK (dI us) (dI us).length) gO L 134217728).1=U3 (ny us gO L):=s3.trans d.1;refine ⟨D,?_,?_,?_⟩;·rw [E,H];exact s4
 ·show (Mch.gY (Mch.n9<|(jN<|dI us).map toI) (bK (dI us) (dI us).length) gO L 134217728).1.fin≠6;rw [s4];exact d.2.1
 ·show (Mch.gY (Mch.n9<|(jN<|dI us).map toI) (bK (dI us) (dI us).length) gO L 134217728).1.fin≠7;rw [s4];exact d.2.2
def Vf {P:dJ} {l:I<|Z×aR} {W:aP->Prop} {d:aA Tmp} {ty:cn} {pos:fO} {af:bH fY} {g:aA<|Z×aS} {t u:cn} {x y:ei} {k:IntKind}  (a:b9 l x=aa (am k az)) (b:b9 l y=aa (am k b')) (h:az≠b'):Yl P l W ⟨d,.binOp .neq t x y u,ty,pos,af,g⟩<|bW ad:=by have:=ha (P:=P) (W:=W) (d:=d) (t:=t) (u:=u) (ty:=ty) (pos:=pos) (af:=af) (g:=g) a b;rwa [show (az != b')=ad by simpa using h] at this
def ahh (d f:View) (a:aA a6) (c:Z) (l:I Tx) (h:View) (j:aA a6) (k:Z) (bn:I ac) (t:ac) (w:aP) (G:Le d w) (m:Laid d) (H:Le f w) (y:Sl rdStr 1 f a c l) (J:Le h w) (z:Sl gW 1 h j k bn) : cx aC 9 #[aE a l.length c,aE j bn.length k,am an t] w λe i=>e = cf (bW ad)/\Ext w i:=by
 refine enter func9 O 48 O O<|CE (Vs:=[d,f,h]) (Ws.init (by simp [G,H,J]))<|ak<|au O<|ag<|ak<|ab O<|ab O<|ab O ?_;refine Ld Y O bp O (λr:(SP×SP)×(I aI×ac)=>cO #[b0 #[am an (j6 r.2 bn t).fin,aE r.1.1.1 (j6 r.2 bn t).out.length r.1.1.2,aE r.1.2.1 (j6 r.2 bn t).data.length r.1.2.2,am an (j6 r.2 bn t).a0],am an (s7 r.2 bn t)]) (λF r=>Sl gW 1 F r.1.1.1 r.1.1.2 (j6 r.2 bn t).out/\Sl gW 1 F r.1.2.1 r.1.2.2 (j6 r.2 bn t).data/\nr l r.2) (λw b=>(Mm f d a c l h j k bn t w b.V b.V m y b.V z).mono λe i ⟨r,q,k1,k2,n,o,p⟩=>⟨(r,q),k1,k2,n,o,p⟩) ?_;intro K L X s;obtain ⟨M,q⟩:=L;have u:=s.2.2;dsimp only at u;refine ab O<|V0 (Yx O O)<|V0 (Yx O O) ?_;refine Al Y O mP λae=>aw 0 Y O O O mO O O O<|au O<|ag<|Cs<|ak<|ab O<|V0 (ha O O)<|ag ?_;refine Cc O (λA=>?_)<|λA=>?_;·refine ak<|Lp Y O bp O (λw b=>Vc d w b.V m)<|au O<|ag<|bu<|Er ?_;refine R1 O O λi b=>⟨O,b.fr⟩
 have N:s7 q bn t=0:=by simpa using A
 obtain ⟨P,B,Q,R⟩:=ahg u N;refine ay<|ak<|ab O<|ab O<|ab O ?_;refine Ld Y O bp O (λr:(SP×SP)×(I aI×ac)=>cO #[b0 #[am an (c9 r.2 bn t).fin,aE r.1.1.1 (c9 r.2 bn t).out.length r.1.1.2,aE r.1.2.1 (c9 r.2 bn t).data.length r.1.2.2,am an (c9 r.2 bn t).a0],am an (wH r.2 bn t)]) (λF r=>Sl gW 1 F r.1.1.1 r.1.1.2 (c9 r.2 bn t).out/\Sl gW 1 F r.1.2.1 r.1.2.2 (c9 r.2 bn t).data/\nr l r.2) (λw b=>(U4 f d a c l h j k bn t w b.V b.V m y b.V z).mono λe i ⟨r,q,k1,k2,n,o,p⟩=>⟨(r,q),k1,k2,n,o,p⟩) ?_;intro S T af v;obtain ⟨U,C⟩:=T;have D:=v.2.2;dsimp only at D;have W:C=q:=aga D u;subst W;refine ab O<|V0 (Yx O O)<|V0 (Yx O O) ?_;refine Al Y O mP λai=>aw 0 Y O O O mO O O O<|au O<|ag<|ak<|Lp Y O bp O (λw b=>Vc d w b.V m)<|ab O ?_;apply La 2 (x:=ad) O O O O Y O O O O O;·intro aj;refine Vg (Ym O)<|Vg (Aq O O P) ?_;exact Gt 2 O O O
 refine ab O ?_;apply La 3 (x:=ad) O O O O Y O O O O O;·intro al;refine Vg (dW 1 O O kD O)<|Vg (dW 0 O O kD O) ?_;refine Lp (.g O O O) O bp O (λw b=>by have E:=L3 K S (j6 C bn t) M U w b.V b.V ⟨s.1,s.2.1⟩ (by rw [B];exact ⟨v.1,v.2.1⟩);rw [B] at E ⊢;exact E)<|Gt 3 O O O
 refine ab O ?_;apply La 3 (x:=ad) O O O O Y O O O O O;·intro ap;refine Vg (Yf yY O)<|Vg (Yd 1 O O O ah)<|Vg (Vf O O Q) ?_;exact Gt 3 O O O
 refine ab O ?_;apply La 3 (x:=ad) O O O O Y O O O O O;·intro av;refine Vg (Yf yY O)<|Vg (Yd 1 O O O ah)<|Vg (Vf O O R) ?_;exact Gt 3 O O O
 refine au O<|ag<|bu ?_;refine R1 O O λi b=>⟨O,b.fr⟩
end Go.Proofs.YtgeahfjicmlocaaGreatDoor
end
