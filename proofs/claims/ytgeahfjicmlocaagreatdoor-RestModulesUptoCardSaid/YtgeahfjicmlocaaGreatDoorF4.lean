/- RestModules: what came, and was changed, changes nothing that was handed in, nor what comes next (proved in the second form, bulk at most 1048576). -/
import Derived.Ground.Names2Prog
import Derived.Ground.SlgnProg
import Derived.Lib.AtoiErrMem
import Derived.Shelf.LaysC
import Derived.Shelf.LaysM
import Derived.Shelf.Slices.Clone
import Derived.Shelf.Slices.Turned
import Derived.Shelf.SlicesE.Clone
import Derived.Shelf.Small.Bits
import Derived.Shelf.Small.Strs
import Derived.Shelf.Strconv.Atoi
import Derived.Shelf.Strconv.AtoiAll
import Derived.Shelf.Strconv.AtoiErrFast
import Derived.Shelf.Strconv.AtoiFail
import Derived.Shelf.Strconv.AtoiInnerAll
import Derived.Shelf.Strconv.AtoiLong
import Derived.Shelf.Strconv.Clone
import Derived.Shelf.Strconv.Itoa0
import Derived.Shelf.Strconv.Itoa1
import Derived.Shelf.Strconv.Itoa2
import Derived.Shelf.Strconv.Itoa3
import Derived.Shelf.Strconv.Lower
import Derived.Shelf.Strconv.ParseInt10
import Derived.Shelf.Strconv.ParseIntEmpty
import Derived.Shelf.Strconv.ParseUint10
import Derived.Shelf.Strconv.ParseUint10Any
import Derived.Shelf.Strconv.ParseUint10Empty
import Derived.Shelf.Strconv.ParseUint10b16
import Derived.Shelf.Strconv.ParseUint10b32
import Derived.Shelf.Strconv.ParseUint10b64
import Derived.Shelf.Strconv.ParseUint10b8
import Derived.Shelf.Strconv.ParseUintEmpty
import Derived.Shelf.Strconv.RangeError
import Derived.Shelf.Strconv.SyntaxError
import Derived.Shelf.Strconv.ToError
import Derived.Shelf.Strconv.ToErrorRange
import Derived.Shelf.Strings.Builder1
import Derived.Shelf.Strings.Search1
import Derived.Test.YtgeahfjicmlocaaGreatDoorProg
import Derived.Test.YtgeahfjicmlocaaGreatDoorRows
import Derived.Test.YtgeahfjicmlocaaGreatDoorF3
set_option linter.unusedVariables false
set_option linter.unusedSimpArgs false
set_option linter.defProp false
section
namespace Go.Bw
open Go
def Fg:∀{l:List de},(∀d ∈ l,(g5 d).b6=0)->0<=eU l/\eU l<=32*(l.length:Int)
 | [],_=>by simp [eU]
 | d::r,h=>by
   have c:=Fg (l:=r) λx b=>h x (by simp [b]);have a:=vd (h d au)
   have f:0<=iZ d/\iZ d<=32:=by
     unfold iZ
     rcases a.kind with e | e | e
     · simp [e]
     · simp [e]
     · have:=a.n3 e; simp [e]; omega
   simp only [eU,b5];omega
structure Fh (m:cm) (x:bW):Prop where
 name:fo x.name=true
 kind:(x.kind=1/\0<=x.n/\x.n<=1099511627775/\x.pl=0)\/(x.kind=2/\x.n=0/\0<=x.pl/\x.pl+1<=kF m)\/(x.kind=3/\1<=x.n/\x.n<=32/\0<=x.pl/\x.pl+x.n<=kF m)\/(x.kind=4/\∃(i:Nat) (p:eI),x.pl=i/\m.procs[i]? = some p/\x.n=(p.params.length:Int))
def KM:∀{l:List de} {a:Int},(∀d ∈ l,(g5 d).b6=0)->0<=a->∀x ∈ gX l a,fo x.name=true/\((x.kind=1/\0<=x.n/\x.n<=1099511627775/\x.pl=0)\/(x.kind=2/\x.n=0/\0<=x.pl/\x.pl+1<=a+eU l)\/(x.kind=3/\1<=x.n/\x.n<=32/\0<=x.pl/\x.pl+x.n<=a+eU l))
 | [],_,_,_,x,b=>by simp [gX] at b
 | d::r,a,h,g,x,b=>by
   have c:=vd (h d au);have i:=Fg (l:=r) λx b=>h x (by simp [b])
   have j:0<=iZ d:=by
     unfold iZ
     rcases c.kind with e | e | e
     · simp [e]
     · simp [e]
     · have:=c.n3 e; simp [e]; omega
   simp only [gX] at b;simp only [eU]
   rcases et.1 b with rfl | b
   · refine ⟨c.name,?_⟩
     unfold bw iZ
     rcases c.kind with e | e | e
     · have:=c.n1 e; simp [e]; omega
     · have:=c.n2 e; simp [e]; omega
     · have:=c.n3 e; simp [e]; omega
   · have f:=KM (l:=r) (a:=a+iZ d) (λx b=>h x (by simp [b])) Z x b
     rw [show a+(iZ d+eU r)=a+iZ d+eU r by omega];exact f
def KN {m:cm}:∀{l:List eI} {i:Nat},(∀p ∈ l,fo p.nm=true)->(∀(j:Nat) p,l[j]? = some p->m.procs[i+j]? = some p)->∀x ∈ i0 l i,fo x.name=true/\x.kind=4/\∃(j:Nat) (p:eI),x.pl=j/\m.procs[j]? = some p/\x.n=(p.params.length:Int)
 | [],_,_,_,x,a=>by simp [i0] at a
 | p::r,i,h,b,x,a=>by
   simp only [i0] at a
   rcases et.1 a with rfl | a
   · exact ⟨h p au,O,i,p,O,b 0 p O,O⟩
   · exact KN (l:=r) (i:=i+1) (λx a=>h x (by simp [a])) (λj q c=>by rw [show i+1+j=i+(j+1) by omega]; exact b (j+1) q c) x a
variable {bp:cm}
def y7 (h:kS bp):∀x ∈ dG bp,Fh bp x:=λx b=>by
 rcases fB.1 b with b | b
 · obtain ⟨c,a⟩:=KM h.decls (Int.le_refl 0) x b
   rw [C0] at a;exact ⟨c,by rcases a with a | a | a; exact .inl a; exact .inr (.inl a); exact .inr (.inr (.inl a))⟩
 · obtain ⟨c,a⟩:=KN (m:=bp) (λp d=>(sm (h.procs p d)).name) (λj p d=>by rw [gC]; exact d) x b
   exact ⟨c,.inr (.inr (.inr a))⟩
def xk (h:kS bp):0<=kF bp/\kF bp<=320:=by
 have:=Fg h.decls;have:=h.fy;unfold kF;omega
def S6 (h:kS bp) {x:bW} (b:Fh bp x):k6 x=true:=by
 have d:=nO b.name;have f:=xk h;unfold k6 dd;rw [d]
 rcases b.kind with ⟨e,a⟩ | ⟨e,a⟩ | ⟨e,a⟩ | ⟨e,i,p,a,c,g⟩
 · simp [e]; omega
 · simp [e]; omega
 · simp [e]; omega
 · have j:=(sm (h.procs p (gu c))).fy
   have k:=(cS.1 c).1;have l:=h.fy;simp [e]; omega
def BE:∀(l:List bW) (ps:List Bool),(jv l ps).Sublist l
 | [],_=>by simp [jv]
 | x::l,[]=>by simp [jv]
 | x::l,p::ps=>by
   simp only [jv];cases p
   · simpa using (BE l ps).cons x
   · simpa using (BE l ps).cons_cons x
def y8 (h:(en bp).2=0):h6 (en bp).1.1 (en bp).1.2=0/\(en bp).1.1=bp.nm/\kS bp:=by
 unfold en at h ⊢
 split at h
 · rename_i b; exact absurd h b
 · rename_i b
   have e:iA bp=0:=by simpa using b
   have a:=BB (BD.1 e)
   split at h
   · cases h
   · rename_i c
     rw [av b,av c];refine ⟨?_,O,a⟩
     show h6 bp.nm (jv (dG bp) (k7 bp))=0
     have f:e1 ((dG bp).map (·.name))=false:=by
       cases g:e1 ((dG bp).map (·.name)) with
       | false=>rfl
       | true=>rw [g] at c; simp at c
     have d:=BE (dG bp) (k7 bp);have i:((jv (dG bp) (k7 bp)).map (·.name)).Nodup:=(d.map (·.name)).nodup (ly.2 f);have j:=D7 (dG bp) (k7 bp);rw [uH] at j;have m:=a.fy;unfold h6;have k:(jv (dG bp) (k7 bp)).all k6=true:=hS.2 λx l=>S6 a (y7 a x (d.subset l));rw [k,ly.1 i,nO a.name];simp;omega
section
variable {m:cm} {aH:List Tx}
variable {bZ:Tx} {ae:Nat}
def KO {l:List Tx}  (h:idxOf bZ l 0=some ae):ae<l.length:=by
 have:=(tg h).2;rw [pQ] at this;exact (cS.1 this).1
def BF:∀{l:List bW} {x:bW},fO bZ l=some x->x ∈ l
 | [],_,h=>by cases h
 | y::r,x,h=>by
   unfold fO at h
   split at h
   · injection h with h; subst h; simp
   · exact cz _ (BF h)
variable {dH:Tx} {aL:Int}
def ve (c:m.aP=[])   {it:bW} (h:eo (aQ m [] aH) bZ dH=some (aL,it)):(aL = -1/\0<=it.pl/\it.pl<(aH.length:Int))\/(aL=0/\it ∈ dG m):=by
 unfold eo at h
 split at h
 · split at h
   · rename_i i hi
     injection h with h; injection h with a b
     subst a b;have f:i<aH.length:=KO hi;exact .inl ⟨O,by show (0:Int)<=(i:Int); omega,by show (i:Int)<_; omega⟩
   · obtain ⟨x,d,e⟩:=dX.1 h
     injection e with a b
     subst a b;exact .inr ⟨O,BF d⟩
 · unfold aQ at h
   rw [c] at h;unfold iC at h;cases h
def mI (m:cm):List aV:=[je (ee m [])]
def BG (a:kS m) {pl n:Int} (d:0<=pl) (b:pl+n<=kF m) (e:0<=n):mx (mI m) 0 pl n=true:=by
 have f:=xk a
 have c:cX (mI m) ((0:Nat):Int) pl=false:=by
   unfold cX mI;simp;omega
 have:=yw (n:=n) (k:=je (ee m [])) c rfl;rw [show (((0:Nat):Int))=0 from rfl] at this;rw [this,a8 (show (je (ee m [])).c_=true from rfl)];exact jo b
def KP {i:Nat} {p:eI} (a:m.procs[i]? = some p):nD (mI m) 0 i (p.params.length:Int)=true:=by
 have b:=(cS.1 a).1
 have c:ow (mI m) ((0:Nat):Int) (i:Int)=false:=by
   unfold ow mI;simp
 have:=yx (n:=(p.params.length:Int)) (k:=je (ee m [])) c rfl;rw [show (((0:Nat):Int))=0 from rfl] at this;rw [this,a8 (show (je (ee m [])).c_=true from rfl)]
 have e:(je (ee m [])).parts=m.procs.map λp=>(p.params.length:Int):=by
   unfold je ee;simp [k9]
 rw [e,sL,gS,a,gD];simp;exact b
def j1 {n:Nat} (h:lw aL n=false) (a:0<=aL):(n:Int)=aL:=by
 unfold lw at h;rw [jo a] at h
 simpa using h
variable {ax:List ak}
def S7 (o:kS m) (x:m.aP=[]) {op n:Int}    (r:e9 op n bZ dH ax ae) (a:(b7 (aQ m [] aH) op n bZ dH ax.length).e=0) :
   node1 (mI m) aH.length (b7 (aQ m [] aH) op n bZ dH ax.length).op (b7 (aQ m [] aH) op n bZ dH ax.length).n (b7 (aQ m [] aH) op n bZ dH ax.length).m (b7 (aQ m [] aH) op n bZ dH ax.length).pl ax.length=true:=by
 have B:=r.kind;have g:=r.num;have d:=r.gG
 by_cases j:dd op 3 5=true
 · have u:op=3\/op=4\/op=5:=by unfold dd at j; simp at j; omega
   have f:n=0:=by
     unfold jt at g
     have:¬op=1:=Z
     simpa [this] using g
   unfold b7 at a ⊢;rw [a8 j] at a ⊢
   cases s:eo (aQ m [] aH) bZ dH with
   | none=>rw [s] at a; cases a
   | some q=>
     obtain ⟨k,it⟩:=q;rw [s] at a;dsimp only at a ⊢
     rcases ve x s with ⟨rfl,y,z⟩ | ⟨rfl,A⟩
     · rw [a8 rfl] at a ⊢
       have t:op=3:=by
         dsimp only at a
         split at a
         · assumption
         · cases a
       subst t;have b:=j1 d bf;rw [show fw 3=0 from rfl] at b;unfold node1 wC;simp [f,b,y,z]
     · rw [av bf] at a ⊢
       have hi:=y7 o it A
       rcases u with rfl | rfl | rfl
       · have b:=j1 d bf
         rw [show fw 3=0 from rfl] at b
         rcases hi.kind with ⟨e,c⟩ | ⟨e,c⟩ | ⟨e,c⟩ | ⟨e,c⟩
         · rw [a8 ⟨rfl,e⟩]
           unfold node1; simp [b]; omega
         · rw [av Z,a8 ⟨rfl,e⟩]
           have:=BG o (pl:=it.pl) (n:=1) c.2.1 c.2.2 bf;unfold node1; simp [b,f,this]
         · rw [av Z,av Z,av Z,av Z] at a; cases a
         · rw [av Z,av Z,av Z,av Z] at a; cases a
       · have b:=j1 d bf
         rw [show fw 4=1 from rfl] at b;rw [av Z,av Z] at a ⊢
         rcases hi.kind with ⟨e,c⟩ | ⟨e,c⟩ | ⟨e,c⟩ | ⟨e,c⟩
         · rw [av Z,av Z] at a; cases a
         · rw [av Z,av Z] at a; cases a
         · rw [a8 ⟨rfl,e⟩]
           have:=BG o (pl:=it.pl) (n:=it.n) c.2.2.1 c.2.2.2 Z;unfold node1 j3; simp [b,this]; omega
         · rw [av Z,av Z] at a; cases a
       · rw [av Z,av Z,av Z] at a ⊢
         rcases hi.kind with ⟨e,c⟩ | ⟨e,c⟩ | ⟨e,c⟩ | ⟨e,i,p,c,l,t⟩
         · rw [av Z] at a; cases a
         · rw [av Z] at a; cases a
         · rw [av Z] at a; cases a
         · rw [a8 ⟨rfl,e⟩] at a ⊢
           dsimp only at a ⊢
           have b:it.n=(ax.length:Int):=by
             split at a
             · assumption
             · cases a
           have:=KP l;rw [<-c,<-t,b] at this;unfold node1; simp [f,this]
 · have u:¬(op=3\/op=4\/op=5):=λh=>j (by unfold dd; simp; omega)
   unfold b7;rw [av j];dsimp only
   by_cases c:op=1
   · subst c
     have b:=j1 d bf;rw [show fw 1=0 from rfl] at b;unfold jt at g;unfold node1; simp [b] at g ⊢; omega
   · have f:n=0:=by
       unfold jt at g
       simpa [c] using g
     by_cases l:op=2
     · subst l
       have b:=j1 d bf;rw [show fw 2=0 from rfl] at b;unfold node1; simp [f,b]
     · by_cases v:op=6
       · subst v
         have b:=j1 d bf;rw [show fw 6=1 from rfl] at b;unfold node1; simp [f,b]
       · have w:fw op=2:=by unfold fw; rw [av Z,av Z,av Z]
         have b:=j1 d (by rw [w]; decide);rw [w] at b;unfold node1;rw [av c,av Z,av Z,av Z,av Z,av l,av v,a8 Z];simp [f,b]
mutual
def S8 (b:kS m) (c:m.aP=[]):∀(x:ak) (d:Nat),(hB x d).b6=0->h8 (aQ m [] aH) x=0->pg (mI m) aH.length (jR (aQ m [] aH) x) d=true
 | .mk op n mod nm args,d,e,he=>by
   have a:=yY e;rw [r5] at he;obtain ⟨f,g⟩:=l2.1 he;rw [AY,pg]
   have h:(be (aQ m [] aH) (ak.mk op n mod nm args).args).length=args.length:=by rw [uK,gD]; rfl
   rw [h];have i:=S7 b c a f;have j:=tb b c args (d+1) a.sub g;rw [jo a.deep]
   show (node1 _ _ (b7 (aQ m [] aH) op n mod nm args.length).op (b7 (aQ m [] aH) op n mod nm args.length).n (b7 (aQ m [] aH) op n mod nm args.length).m (b7 (aQ m [] aH) op n mod nm args.length).pl args.length&&jx _ _ (be (aQ m [] aH) args) (d+1))=true
   rw [i,j]; rfl
def tb (a:kS m) (b:m.aP=[]):∀(l:List ak) (d:Nat),(ek l d).b6=0->hM (aQ m [] aH) l=0->jx (mI m) aH.length (be (aQ m [] aH) l) d=true
 | [],d,_,_=>by rw [be,jx]
 | x::r,d,c,he=>by
   unfold ek at c;unfold hM at he;obtain ⟨c1,c2⟩:=bg c;obtain ⟨e,f⟩:=l2.1 he;rw [be,jx,S8 a b x d c1 e,tb a b r d c2 f]; rfl
end
def S9 (s:kS m) (y:m.aP=[])    {body other:List bE}  (t:nN aL bZ dH ax body other ae) (a:(ar (aQ m [] aH) aL bZ dH ax.length).e=0) :
   (ar (aQ m [] aH) aL bZ dH ax.length).op=aL/\kg (mI m) aH.length (ar (aQ m [] aH) aL bZ dH ax.length).op (ar (aQ m [] aH) aL bZ dH ax.length).n (ar (aQ m [] aH) aL bZ dH ax.length).m (ar (aQ m [] aH) aL bZ dH ax.length).pl ax.length body.length other.length=true:=by
 have E:=t.kind;have l:=t.gG;have o:=t.form
 have r:(aL≠4/\aL≠5->body.length=0)/\(aL≠4->other.length=0):=by
   unfold kA inner at o;simp at o;refine ⟨λh=>?_,λh=>?_⟩
   · have:=o.1 h.1 h.2; simp [this]
   · have:=o.2 h; simp [this]
 by_cases g:dd aL 1 3=true
 · have u:aL=1\/aL=2\/aL=3:=by unfold dd at g; simp at g; omega
   have f:body.length=0:=r.1 Z;have d:other.length=0:=r.2 Z;unfold ar at a ⊢;rw [a8 g] at a ⊢
   cases v:eo (aQ m [] aH) bZ dH with
   | none=>rw [v] at a; cases a
   | some q=>
     obtain ⟨k,it⟩:=q;rw [v] at a;dsimp only at a ⊢
     rcases ve y v with ⟨rfl,z,A⟩ | ⟨rfl,B⟩
     · rcases u with rfl | rfl | rfl
       · have c:=j1 l bf
         rw [show bL 1=1 from rfl] at c;rw [a8 ⟨rfl,.inl rfl⟩];refine ⟨O,?_⟩;unfold kg wC;simp [c,f,d,z,A]
       · rw [av Z,a8 rfl] at a; cases a
       · rw [av Z,a8 rfl] at a; cases a
     · have hi:=y7 s it B
       rcases u with rfl | rfl | rfl
       · have c:=j1 l bf
         rw [show bL 1=1 from rfl] at c
         rcases hi.kind with ⟨e,b⟩ | ⟨e,b⟩ | ⟨e,b⟩ | ⟨e,b⟩
         · rw [av Z,av Z,av Z,av Z] at a; cases a
         · rw [a8 ⟨rfl,.inr e⟩]
           have:=BG s (pl:=it.pl) (n:=1) b.2.1 b.2.2 bf;refine ⟨O,?_⟩;unfold kg; simp [c,f,d,this]
         · rw [av Z,av Z,av Z,av Z] at a; cases a
         · rw [av Z,av Z,av Z,av Z] at a; cases a
       · have c:=j1 l bf
         rw [show bL 2=2 from rfl] at c;rw [av Z,av Z] at a ⊢
         rcases hi.kind with ⟨e,b⟩ | ⟨e,b⟩ | ⟨e,b⟩ | ⟨e,b⟩
         · rw [av Z,av Z] at a; cases a
         · rw [av Z,av Z] at a; cases a
         · rw [a8 ⟨rfl,e⟩]
           have:=BG s (pl:=it.pl) (n:=it.n) b.2.2.1 b.2.2.2 Z;refine ⟨O,?_⟩;unfold kg j3; simp [c,f,d,this]; omega
         · rw [av Z,av Z] at a; cases a
       · rw [av Z,av Z,av Z] at a ⊢
         rcases hi.kind with ⟨e,b⟩ | ⟨e,b⟩ | ⟨e,b⟩ | ⟨e,i,p,b,C,D⟩
         · rw [av Z] at a; cases a
         · rw [av Z] at a; cases a
         · rw [av Z] at a; cases a
         · rw [a8 ⟨rfl,e⟩] at a ⊢
           dsimp only at a ⊢
           have c:it.n=(ax.length:Int):=by
             split at a
             · assumption
             · cases a
           have:=KP C;rw [<-b,<-D,c] at this;refine ⟨O,?_⟩;unfold kg; simp [f,d,this]
 · have u:¬(aL=1\/aL=2\/aL=3):=λh=>g (by unfold dd; simp; omega)
   unfold ar;rw [av g];dsimp only;refine ⟨O,?_⟩
   have x:bL aL=1:=by unfold bL; rw [av Z,av Z]
   have c:=j1 l (by rw [x]; decide);rw [x] at c;unfold kg;rw [av Z,av Z,av Z]
   by_cases j:aL=4
   · rw [a8 j]; simp [c]
   · have d:=r.2 j
     by_cases w:aL=5
     · rw [av j,a8 w]; simp [c,d]
     · have f:=r.1 ⟨j,w⟩
       rw [av j,av w,a8 Z]; simp [c,d,f]
def xl {d len:Nat} {c:bi} (h:(iL d len c).b6=0):d<=6/\len<=10/\c.b6=0:=by
 unfold iL at h
 split at h
 · cases h
 · obtain ⟨a,b⟩:=bg h
   have:=xe a;simp at this;exact ⟨Z,Z,b⟩
mutual
def S' (b:kS m) (c:m.aP=[]):∀(x:bE) (d:Nat),(iz x d).b6=0->gg (aQ m [] aH) x=0->ph (mI m) aH.length (ik (aQ m [] aH) x) d=true
 | .mk op mod nm args body other,d,k,he=>by
   have e:=yZ k;rw [p9] at he;obtain ⟨l,f⟩:=l2.1 he;obtain ⟨f,g⟩:=l2.1 f;obtain ⟨g,o⟩:=l2.1 g;rw [AZ,ph]
   have p:(be (aQ m [] aH) args).length=args.length:=by rw [uK,gD]
   have q:(dL (aQ m [] aH) body).length=body.length:=by rw [cZ,gD]
   have r:(dL (aQ m [] aH) other).length=other.length:=by rw [cZ,gD]
   obtain ⟨s,t⟩:=S9 b c e l;have u:=tb b c args 1 e.exprs f
   show (kg _ _ (ar (aQ m [] aH) op mod nm args.length).op (ar (aQ m [] aH) op mod nm args.length).n (ar (aQ m [] aH) op mod nm args.length).m (ar (aQ m [] aH) op mod nm args.length).pl (be (aQ m [] aH) args).length (dL (aQ m [] aH) body).length (dL (aQ m [] aH) other).length&&(jx _ _ (be (aQ m [] aH) args) 1&&((!(th (ar (aQ m [] aH) op mod nm args.length).op)||(decide (d+1<=6)&&(decide ((dL (aQ m [] aH) body).length<=10)&&jy _ _ (dL (aQ m [] aH) body) (d+1))))&&(!(decide (0<(dL (aQ m [] aH) other).length))||(decide (d+1<=6)&&(decide ((dL (aQ m [] aH) other).length<=10)&&jy _ _ (dL (aQ m [] aH) other) (d+1)))))))=true
   rw [p,q,r,t,u,s];simp only [n6];refine iw.2 ⟨?_,?_⟩
   · by_cases a:th op=true
     · obtain ⟨h,i,j⟩:=xl (e.body (by rw [show inner op=true from a]; rfl))
       rw [jo h,jo i,BH b c body (d+1) j g]; simp
     · simp [a]
   · by_cases a:0<other.length
     · obtain ⟨h,i,j⟩:=xl (e.other a)
       rw [jo h,jo i,BH b c other (d+1) j o]; simp
     · rw [C5 a]; rfl
def BH (a:kS m) (b:m.aP=[]):∀(l:List bE) (d:Nat),(dF l d).b6=0->dQ (aQ m [] aH) l=0->jy (mI m) aH.length (dL (aQ m [] aH) l) d=true
 | [],d,_,_=>by rw [dL,jy]
 | x::r,d,c,he=>by
   unfold dF at c;unfold dQ at he;obtain ⟨c1,c2⟩:=bg c;obtain ⟨e,f⟩:=l2.1 he;rw [dL,jy,S' a b x d c1 e,BH a b r d c2 f]; rfl
end
def KQ (a:kS m) (b:m.aP=[]) {l:List bE} (c:(eS l 1).b6=0) (d:dQ (aQ m [] aH) l=0):k' (mI m) aH.length (dL (aQ m [] aH) l) 1=true:=by
 obtain ⟨e,f,g⟩:=xl c;unfold k';rw [cZ,gD,<-cZ,jo e,jo f,BH a b l 1 g d]; rfl
end
def Fj {α:Type} {f:α->Int}:∀{l:List α},fb f l=0->∀x ∈ l,f x=0
 | [],_,x,a=>by simp at a
 | y::r,h,x,a=>by
   unfold fb at h;obtain ⟨b,c⟩:=l2.1 h
   rcases et.1 a with rfl | a
   · exact b
   · exact Fj c x a
def S_ (a:kS bp) (b:bp.aP=[]) (e:iD bp []=0):fQ [ee bp []]=0:=by
 unfold iD at e;obtain ⟨j,k⟩:=l2.1 e;have u:=xk a;have v:=a.fy
 have l:ox (ee bp []) []=true:=by
   unfold ox
   have a1:ti (ee bp []).nm (ee bp []).aP=true:=by
     show ti bp.nm bp.aP=true
     rw [b]; unfold ti; rw [ly.1 au]; rfl
   have a2:im (ee bp [])=false:=by
     unfold im
     have m:(ee bp []).parts.length=bp.procs.length:=by unfold ee; simp
     have c:(ee bp []).aP.length=0:=by show bp.aP.length=0; rw [b]; rfl
     have n:(ee bp []).nm=bp.nm:=rfl;have d:(ee bp []).data=kF bp:=rfl;rw [m,c,n,d,nO a.name];simp;omega
   have a3:(ee bp []).parts.all (p' (mI bp))=true:=by
     refine hS.2 λx o=>?_;obtain ⟨p,f,rfl⟩:=oZ.1 (show x ∈ bp.procs.map (k9 bp []) from o);have g:=sm (a.procs p f);have h:=Fj j p f;unfold bj at h;obtain ⟨_,q⟩:=l2.1 h;have i:=KQ a b g.body q;rw [bT] at i;unfold p' k9;have w:=g.fy;rw [show ((p.params.length:Int)+(p.aH.length:Int))=((p.params.length+p.aH.length:Nat):Int) by omega,i];simp;omega
   have a4:k' (mI bp) 0 (ee bp []).main 1=true:=KQ (aH:=[]) a b a.main k;rw [a1,a2,show je (ee bp [])::[]=mI bp from rfl,a3,a4]; rfl
 have r:j6 [ee bp []]=true:=by
   unfold j6;have c:(ee bp []).aP=[]:=b;simp [ud,c]
 have s:tj [ee bp []] 512=true:=by
   unfold tj tj;have d:(ee bp []).data=kF bp:=rfl;rw [d];simp;omega
 have t:kH [ee bp []] (ee bp [])=[]:=by
   unfold kH;rw [show (ee bp []).aP=[] from b]; rfl
 unfold fQ;rw [av au,av (by rw [r]; decide),av (by unfold k_; rw [ly.1 au]; decide),av (by rw [s]; decide),a8 (by simp only [vN,List.all_nil,t,l]; rfl)]
def resolve_right {fs:List (Tx×List bW)} (h:(dp bp fs).2=0):(en bp).2=0/\(bp.aP=[]->fQ [(dp bp fs).1]=0):=by
 unfold dp at h ⊢
 split at h
 · rename_i a; exact absurd h a
 · rename_i a
   have d:(en bp).2=0:=by simpa using a
   refine ⟨d,λe=>?_⟩;rw [av a]
   split at h
   · cases h
   · rename_i c
     rw [av c]
     split at h
     · cases h
     · rename_i f
       rw [av f]
       split at h
       · rename_i b; exact absurd h b
       · rename_i b
         rw [av b];have g:fs=[]:=rL (by rw [e] at c; simpa using c);subst g;exact S_ (y8 d).2.2 e (by simpa using b)
end Go.Bw
end
section
namespace Go.Bw
open Go
abbrev nf:=List UInt8×List bW
def gI:List (List UInt8×nf)->List UInt8->nf
 | [],_=>([],[])
 | (k,f)::r,s=>if k=s then f else gI r s
abbrev e':=List UInt8
end Go.Bw
end
section
namespace Go.Bw
open Go
structure KR (ko:List aV) (k:Int) (x:bW):Prop where
 pos:0<=k
 kind:(x.kind=1/\0<=x.n/\x.n<=1099511627775)\/(x.kind=2/\mx ko k x.pl 1=true)\/(x.kind=3/\1<=x.n/\x.n<=32/\mx ko k x.pl x.n=true)\/(x.kind=4/\nD ko k x.pl x.n=true)
def tJ (ko:List aV) (m:cm) (fs:List nf) (aH:List Tx):Prop:=∀mod nm k it,eo (aQ m fs aH) mod nm=some (k,it)->(k = -1/\0<=it.pl/\it.pl<(aH.length:Int))\/KR ko k it
section
variable {m:cm} {aH:List Tx} {fs:List nf} {ko:List aV}
variable {bZ dH:Tx} {ax:List ak} {ae:Nat}
def Ta (t:tJ ko m fs aH) {op n:Int}    (j:e9 op n bZ dH ax ae) (a:(b7 (aQ m fs aH) op n bZ dH ax.length).e=0) :
   node1 (ko) aH.length (b7 (aQ m fs aH) op n bZ dH ax.length).op (b7 (aQ m fs aH) op n bZ dH ax.length).n (b7 (aQ m fs aH) op n bZ dH ax.length).m (b7 (aQ m fs aH) op n bZ dH ax.length).pl ax.length=true:=by
 have x:=j.kind;have g:=j.num;have d:=j.gG
 by_cases i:dd op 3 5=true
 · have o:op=3\/op=4\/op=5:=by unfold dd at i; simp at i; omega
   have f:n=0:=by
     unfold jt at g
     have:¬op=1:=Z
     simpa [this] using g
   unfold b7 at a ⊢;rw [a8 i] at a ⊢
   cases l:eo (aQ m fs aH) bZ dH with
   | none=>rw [l] at a; cases a
   | some q=>
     obtain ⟨k,it⟩:=q;rw [l] at a;dsimp only at a ⊢
     rcases t bZ dH k it l with ⟨rfl,u,v⟩ | hi
     · rw [a8 rfl] at a ⊢
       have w:op=3:=by
         dsimp only at a
         split at a
         · assumption
         · cases a
       subst w;have b:=j1 d bf;rw [show fw 3=0 from rfl] at b;unfold node1 wC;simp [f,b,u,v]
     · have y:=hi.pos
       rw [av Z] at a ⊢
       rcases o with rfl | rfl | rfl
       · have b:=j1 d bf
         rw [show fw 3=0 from rfl] at b
         rcases hi.kind with ⟨e,c⟩ | ⟨e,c⟩ | ⟨e,c⟩ | ⟨e,c⟩
         · rw [a8 ⟨rfl,e⟩]
           unfold node1; simp [b]; omega
         · rw [av Z,a8 ⟨rfl,e⟩]
           have:=c;unfold node1; simp [b,f,this]
         · rw [av Z,av Z,av Z,av Z] at a; cases a
         · rw [av Z,av Z,av Z,av Z] at a; cases a
       · have b:=j1 d bf
         rw [show fw 4=1 from rfl] at b;rw [av Z,av Z] at a ⊢
         rcases hi.kind with ⟨e,c⟩ | ⟨e,c⟩ | ⟨e,c⟩ | ⟨e,c⟩
         · rw [av Z,av Z] at a; cases a
         · rw [av Z,av Z] at a; cases a
         · rw [a8 ⟨rfl,e⟩]
           have:=c.2.2;unfold node1 j3; simp [b,this]; omega
         · rw [av Z,av Z] at a; cases a
       · rw [av Z,av Z,av Z] at a ⊢
         rcases hi.kind with ⟨e,c⟩ | ⟨e,c⟩ | ⟨e,c⟩ | ⟨e,c⟩
         · rw [av Z] at a; cases a
         · rw [av Z] at a; cases a
         · rw [av Z] at a; cases a
         · rw [a8 ⟨rfl,e⟩] at a ⊢
           dsimp only at a ⊢
           have b:it.n=(ax.length:Int):=by
             split at a
             · assumption
             · cases a
           have:=c;rw [b] at this;unfold node1; simp [f,this]
 · have o:¬(op=3\/op=4\/op=5):=λh=>i (by unfold dd; simp; omega)
   unfold b7;rw [av i];dsimp only
   by_cases c:op=1
   · subst c
     have b:=j1 d bf;rw [show fw 1=0 from rfl] at b;unfold jt at g;unfold node1; simp [b] at g ⊢; omega
   · have f:n=0:=by
       unfold jt at g
       simpa [c] using g
     by_cases p:op=2
     · subst p
       have b:=j1 d bf;rw [show fw 2=0 from rfl] at b;unfold node1; simp [f,b]
     · by_cases r:op=6
       · subst r
         have b:=j1 d bf;rw [show fw 6=1 from rfl] at b;unfold node1; simp [f,b]
       · have s:fw op=2:=by unfold fw; rw [av Z,av Z,av Z]
         have b:=j1 d (by rw [s]; decide);rw [s] at b;unfold node1;rw [av c,av Z,av Z,av Z,av Z,av p,av r,a8 Z];simp [f,b]
mutual
def Tb (b:tJ ko m fs aH):∀(x:ak) (d:Nat),(hB x d).b6=0->h8 (aQ m fs aH) x=0->pg (ko) aH.length (jR (aQ m fs aH) x) d=true
 | .mk op n mod nm args,d,c,he=>by
   have a:=yY c;rw [r5] at he;obtain ⟨e,f⟩:=l2.1 he;rw [AY,pg]
   have g:(be (aQ m fs aH) (ak.mk op n mod nm args).args).length=args.length:=by rw [uK,gD]; rfl
   rw [g];have h:=Ta b a e;have i:=Fk b args (d+1) a.sub f;rw [jo a.deep]
   show (node1 _ _ (b7 (aQ m fs aH) op n mod nm args.length).op (b7 (aQ m fs aH) op n mod nm args.length).n (b7 (aQ m fs aH) op n mod nm args.length).m (b7 (aQ m fs aH) op n mod nm args.length).pl args.length&&jx _ _ (be (aQ m fs aH) args) (d+1))=true
   rw [h,i]; rfl
def Fk (a:tJ ko m fs aH):∀(l:List ak) (d:Nat),(ek l d).b6=0->hM (aQ m fs aH) l=0->jx (ko) aH.length (be (aQ m fs aH) l) d=true
 | [],d,_,_=>by rw [be,jx]
 | x::r,d,b,he=>by
   unfold ek at b;unfold hM at he;obtain ⟨c1,c2⟩:=bg b;obtain ⟨c,e⟩:=l2.1 he;rw [be,jx,Tb a x d c1 c,Fk a r d c2 e]; rfl
end
def Tc (v:tJ ko m fs aH) {op:Int}   {body other:List bE}  (p:nN op bZ dH ax body other ae) (a:(ar (aQ m fs aH) op bZ dH ax.length).e=0) :
   (ar (aQ m fs aH) op bZ dH ax.length).op=op/\kg (ko) aH.length (ar (aQ m fs aH) op bZ dH ax.length).op (ar (aQ m fs aH) op bZ dH ax.length).n (ar (aQ m fs aH) op bZ dH ax.length).m (ar (aQ m fs aH) op bZ dH ax.length).pl ax.length body.length other.length=true:=by
 have y:=p.kind;have j:=p.gG;have l:=p.form
 have o:(op≠4/\op≠5->body.length=0)/\(op≠4->other.length=0):=by
   unfold kA inner at l;simp at l;refine ⟨λh=>?_,λh=>?_⟩
   · have:=l.1 h.1 h.2; simp [this]
   · have:=l.2 h; simp [this]
 by_cases g:dd op 1 3=true
 · have r:op=1\/op=2\/op=3:=by unfold dd at g; simp at g; omega
   have f:body.length=0:=o.1 Z;have d:other.length=0:=o.2 Z;unfold ar at a ⊢;rw [a8 g] at a ⊢
   cases s:eo (aQ m fs aH) bZ dH with
   | none=>rw [s] at a; cases a
   | some q=>
     obtain ⟨k,it⟩:=q;rw [s] at a;dsimp only at a ⊢
     rcases v bZ dH k it s with ⟨rfl,w,x⟩ | hi
     · rcases r with rfl | rfl | rfl
       · have b:=j1 j bf
         rw [show bL 1=1 from rfl] at b;rw [a8 ⟨rfl,.inl rfl⟩];refine ⟨O,?_⟩;unfold kg wC;simp [b,f,d,w,x]
       · rw [av Z,a8 rfl] at a; cases a
       · rw [av Z,a8 rfl] at a; cases a
     · have z:=hi.pos
       rcases r with rfl | rfl | rfl
       · have b:=j1 j bf
         rw [show bL 1=1 from rfl] at b
         rcases hi.kind with ⟨e,c⟩ | ⟨e,c⟩ | ⟨e,c⟩ | ⟨e,c⟩
         · rw [av Z,av Z,av Z,av Z] at a; cases a
         · rw [a8 ⟨rfl,.inr e⟩]
           have:=c;refine ⟨O,?_⟩;unfold kg; simp [b,f,d,this]
         · rw [av Z,av Z,av Z,av Z] at a; cases a
         · rw [av Z,av Z,av Z,av Z] at a; cases a
       · have b:=j1 j bf
         rw [show bL 2=2 from rfl] at b;rw [av Z,av Z] at a ⊢
         rcases hi.kind with ⟨e,c⟩ | ⟨e,c⟩ | ⟨e,c⟩ | ⟨e,c⟩
         · rw [av Z,av Z] at a; cases a
         · rw [av Z,av Z] at a; cases a
         · rw [a8 ⟨rfl,e⟩]
           have:=c.2.2;refine ⟨O,?_⟩;unfold kg j3; simp [b,f,d,this]; omega
         · rw [av Z,av Z] at a; cases a
       · rw [av Z,av Z,av Z] at a ⊢
         rcases hi.kind with ⟨e,c⟩ | ⟨e,c⟩ | ⟨e,c⟩ | ⟨e,c⟩
         · rw [av Z] at a; cases a
         · rw [av Z] at a; cases a
         · rw [av Z] at a; cases a
         · rw [a8 ⟨rfl,e⟩] at a ⊢
           dsimp only at a ⊢
           have b:it.n=(ax.length:Int):=by
             split at a
             · assumption
             · cases a
           have:=c;rw [b] at this;refine ⟨O,?_⟩;unfold kg; simp [f,d,this]
 · have r:¬(op=1\/op=2\/op=3):=λh=>g (by unfold dd; simp; omega)
   unfold ar;rw [av g];dsimp only;refine ⟨O,?_⟩
   have u:bL op=1:=by unfold bL; rw [av Z,av Z]
   have b:=j1 j (by rw [u]; decide);rw [u] at b;unfold kg;rw [av Z,av Z,av Z]
   by_cases i:op=4
   · rw [a8 i]; simp [b]
   · have d:=o.2 i
     by_cases t:op=5
     · rw [av i,a8 t]; simp [b,d]
     · have f:=o.1 ⟨i,t⟩
       rw [av i,av t,a8 Z]; simp [b,d,f]
mutual
def Td (b:tJ ko m fs aH):∀(x:bE) (d:Nat),(iz x d).b6=0->gg (aQ m fs aH) x=0->ph (ko) aH.length (ik (aQ m fs aH) x) d=true
 | .mk op mod nm args body other,d,j,he=>by
   have c:=yZ j;rw [p9] at he;obtain ⟨k,e⟩:=l2.1 he;obtain ⟨e,f⟩:=l2.1 e;obtain ⟨f,l⟩:=l2.1 f;rw [AZ,ph]
   have o:(be (aQ m fs aH) args).length=args.length:=by rw [uK,gD]
   have p:(dL (aQ m fs aH) body).length=body.length:=by rw [cZ,gD]
   have q:(dL (aQ m fs aH) other).length=other.length:=by rw [cZ,gD]
   obtain ⟨r,s⟩:=Tc b c k;have t:=Fk b args 1 c.exprs e
   show (kg _ _ (ar (aQ m fs aH) op mod nm args.length).op (ar (aQ m fs aH) op mod nm args.length).n (ar (aQ m fs aH) op mod nm args.length).m (ar (aQ m fs aH) op mod nm args.length).pl (be (aQ m fs aH) args).length (dL (aQ m fs aH) body).length (dL (aQ m fs aH) other).length&&(jx _ _ (be (aQ m fs aH) args) 1&&((!(th (ar (aQ m fs aH) op mod nm args.length).op)||(decide (d+1<=6)&&(decide ((dL (aQ m fs aH) body).length<=10)&&jy _ _ (dL (aQ m fs aH) body) (d+1))))&&(!(decide (0<(dL (aQ m fs aH) other).length))||(decide (d+1<=6)&&(decide ((dL (aQ m fs aH) other).length<=10)&&jy _ _ (dL (aQ m fs aH) other) (d+1)))))))=true
   rw [o,p,q,s,t,r];simp only [n6];refine iw.2 ⟨?_,?_⟩
   · by_cases a:th op=true
     · obtain ⟨g,h,i⟩:=xl (c.body (by rw [show inner op=true from a]; rfl))
       rw [jo g,jo h,BI b body (d+1) i f]; simp
     · simp [a]
   · by_cases a:0<other.length
     · obtain ⟨g,h,i⟩:=xl (c.other a)
       rw [jo g,jo h,BI b other (d+1) i l]; simp
     · rw [C5 a]; rfl
def BI (a:tJ ko m fs aH):∀(l:List bE) (d:Nat),(dF l d).b6=0->dQ (aQ m fs aH) l=0->jy (ko) aH.length (dL (aQ m fs aH) l) d=true
 | [],d,_,_=>by rw [dL,jy]
 | x::r,d,b,he=>by
   unfold dF at b;unfold dQ at he;obtain ⟨c1,c2⟩:=bg b;obtain ⟨c,e⟩:=l2.1 he;rw [dL,jy,Td a x d c1 c,BI a r d c2 e]; rfl
end
def KS (a:tJ ko m fs aH) {l:List bE} (b:(eS l 1).b6=0) (c:dQ (aQ m fs aH) l=0):k' (ko) aH.length (dL (aQ m fs aH) l) 1=true:=by
 obtain ⟨d,e,f⟩:=xl b;unfold k';rw [cZ,gD,<-cZ,jo d,jo e,BI a l 1 f c]; rfl
end
end Go.Bw
end
section
namespace Go.Bw
open Go
structure jj (ms:List cm) (us:List e2):Prop where
 len:us.length=ms.length
 nd:(ms.map (·.nm)).Nodup
 at_:∀(n:Nat) (m:cm),ms[n]? = some m->(en m).2=0/\∃fs:List nf,us[n]? = some (ee m fs)/\fs.length=m.aP.length/\iD m fs=0/\∀(i:Nat) (s:e'),m.aP[i]? = some s->∃(j:Nat) (m':cm),j<n/\ms[j]? = some m'/\m'.nm=s/\fs[i]? = some (en m').1
def Fl {s:e'}:∀{l:List e'} {j k:Nat},l.Nodup->l[j]? = some s->idxOf s l k=some (k+j)
 | [],j,k,_,h=>by simp at h
 | x::r,j,k,a,h=>by
   rw [zR] at a;unfold idxOf
   cases j with
   | zero=>simp at h; subst h; simp
   | succ j=>
     rw [mR] at h
     have b:¬x=s:=λe=>by subst e; exact a.1 (gu h)
     rw [av b,Fl a.2 h]
     congr 1; omega
def KT {mod nm:e'}:∀{us:List e'} {fs:List (List bW)} {k:Nat} {q:Int} {it:bW},iC mod nm us fs k=some (q,it)->∃(j:Nat) (f:List bW),us[j]? = some mod/\fs[j]? = some f/\q=((k+j+1:Nat):Int)/\it ∈ f
 | [],fs,k,q,it,h=>by unfold iC at h; cases h
 | u::us,[],k,q,it,h=>by unfold iC at h; cases h
 | u::us,f::fs,k,q,it,h=>by
   unfold iC at h
   have go:iC mod nm us fs (k+1)=some (q,it)->∃(j:Nat) (g:List bW),(u::us)[j]? = some mod/\(f::fs)[j]? = some g/\q=((k+j+1:Nat):Int)/\it ∈ g:=λh=>by
     obtain ⟨j,g,a,b,c,d⟩:=KT h;exact ⟨j+1,g,by simpa using a,by simpa using b,by rw [c]; congr 1; omega,d⟩
   split at h
   · rename_i e
     split at h
     · rename_i x i
       injection h with h; injection h with l m
       subst l m;exact ⟨0,f,by simp [e],au,O,BF i⟩
     · exact go h
   · exact go h
def KU {ks:List aV} {i:Nat} {k:aV} {m:cm} (b:ks[i]? = some k) (hi:k.c_=true) (f:k.data=kF m) (g:k.parts=m.procs.map λp=>(p.params.length:Int)) (h:kS m) {x:bW} (l:Fh m x):KR ks (i:Int) x:=by
 have r:=(cS.1 b).1;have s:=xk h
 have data (pl n:Int) (t:0<=pl) (a:pl+n<=kF m) (c:0<=n):mx ks (i:Int) pl n=true:=by
   have d:cX ks (i:Int) pl=false:=by
     unfold cX;simp only [mQ,ez];omega
   rw [yw d b,a8 hi,f];exact jo a
 refine ⟨Z,?_⟩
 rcases l.kind with ⟨e,a⟩ | ⟨e,a⟩ | ⟨e,a⟩ | ⟨e,j,p,a,c,o⟩
 · exact .inl ⟨e,a.1,a.2.1⟩
 · exact .inr (.inl ⟨e,data _ _ a.2.1 a.2.2 bf⟩)
 · exact .inr (.inr (.inl ⟨e,a.1,a.2.1,data _ _ a.2.2.1 a.2.2.2 Z⟩))
 · refine .inr (.inr (.inr ⟨e,?_⟩))
   have d:ow ks (i:Int) x.pl=false:=by
     unfold ow;simp only [mQ,ez];omega
   have q:=(cS.1 c).1;rw [yx d b,a8 hi,g,a,o,sL,gS,c,gD];simp;exact q
variable {c':List cm} {eA:List e2}
def jj.names (a:jj c' eA):k_ eA=c'.map (·.nm):=by
 refine pS λn=>?_;unfold k_;rw [gS,gS]
 cases b:c'[n]? with
 | none=>
   have:eA[n]? = none:=by rw [G4,a.len]; exact G4.1 b
   rw [this]; rfl
 | some m=>
   obtain ⟨_,fs,c,_⟩:=a.at_ n m b;rw [c]; rfl
variable {bp:cm}
def jj.kn (a:jj c' eA) {n i:Nat}  {s:e'} (g:c'[n]? = some bp) (d:bp.aP[i]? = some s) (fs:List nf):∃(j:Nat) (m':cm) (b:List nf),j<n/\c'[j]? = some m'/\m'.nm=s/\eA[j]? = some (ee m' b)/\(kH eA (ee bp fs))[i]? = some (je (ee m' b)):=by
 obtain ⟨_,o,_,_,_,h⟩:=a.at_ n bp g;obtain ⟨j,m',m,c,e,_⟩:=h i s d;obtain ⟨_,b,f,_⟩:=a.at_ j m' c;refine ⟨j,m',b,m,c,e,f,?_⟩
 have hi:idxOf s (k_ eA) 0=some j:=by
   have:=Fl (k:=0) (s:=s) (l:=k_ eA) (j:=j) (by rw [a.names]; exact a.nd) (by rw [a.names,gS,c,dN,e]);rw [this,gC]
 unfold kH;rw [gS,show (ee bp fs).aP=bp.aP from rfl,d,dN];simp only [hi,f,dN,zP]
variable {ae:Nat}
def jj.it (o:jj c' eA)  {m:cm} {fs:List nf} (u:c'[ae]? = some m) (I:eA[ae]? = some (ee m fs)) (A:∀(i:Nat) (s:e'),m.aP[i]? = some s->∃(j:Nat) (m':cm),j<ae/\c'[j]? = some m'/\m'.nm=s/\fs[i]? = some (en m').1) (aH:List e'):tJ (je (ee m fs)::kH eA (ee m fs)) m fs aH:=by
 intro mod nm k it h;have v:=(y8 (o.at_ ae m u).1).2.2
 have kp (m:cm) (fs:List nf):(je (ee m fs)).parts=m.procs.map λp=>(p.params.length:Int):=by
   unfold je ee;simp [k9]
 unfold eo at h
 split at h
 · split at h
   · rename_i i hi
     injection h with h; injection h with q g
     subst q g;have J:i<aH.length:=KO hi;exact .inl ⟨O,by show (0:Int)<=(i:Int); omega,by show (i:Int)<_; omega⟩
   · obtain ⟨x,r,e⟩:=dX.1 h
     injection e with q g
     subst q g;exact .inr (KU (i:=0) (m:=m) O O O (kp m fs) v (y7 v x (BF r)))
 · obtain ⟨j,f,a,b,c,d⟩:=KT h
   have a:m.aP[j]? = some mod:=a;obtain ⟨t,m',q,g,B,C⟩:=A j mod a;obtain ⟨w,K,D,L,n,E,M,F⟩:=o.kn u a fs
   have G:t=w:=by
     have y:(c'.map (·.nm))[t]? = some mod:=by rw [gS,g,dN,B]
     have H:(c'.map (·.nm))[w]? = some mod:=by rw [gS,n,dN,E]
     exact (uc (cS.1 y).1 o.nd).1 (y.trans H.symm)
   subst G;rw [g] at n
   injection n with n
   subst n;have b:(fs.map (·.2))[j]? = some f:=b;rw [gS,C,dN] at b
   injection b with b
   subst b;have z:=(y8 (o.at_ t m' g).1).2.2
   have r:it ∈ dG m':=by
     have l:=d;unfold en at l
     split at l
     · simp at l
     · split at l
       · simp at l
       · exact (BE _ _).subset l
   have:=KU (ks:=je (ee m fs)::kH eA (ee m fs)) (i:=j+1) (m:=m') (by rw [mR]; exact F) rfl rfl (kp m' D) z (y7 z it r);rw [c,gC];exact .inr this
def jj.Te (a:jj c' eA)   (b:c'[ae]? = some bp):bp.nm ∉ bp.aP:=by
 intro d;obtain ⟨i,hi⟩:=ln d;obtain ⟨_,fs,_,_,_,e⟩:=a.at_ ae bp b;obtain ⟨j,m',k,f,g,_⟩:=e i bp.nm hi
 have c:(c'.map (·.nm))[j]? = some bp.nm:=by rw [gS,f,dN,g]
 have h:(c'.map (·.nm))[ae]? = some bp.nm:=by rw [gS,b,dN]
 have:=(uc (cS.1 c).1 a.nd).1 (c.trans h.symm);omega
def Tf (h:(en bp).2=0):bp.aP.Nodup:=by
 unfold en at h
 split at h
 · rename_i b; exact absurd h b
 · split at h
   · cases h
   · rename_i a
     exact ly.2 (by
       cases c:e1 bp.aP with
       | false=>rfl
       | true=>rw [c] at a; simp at a)
variable {bk:e2}
def jj.tm (b:jj c' eA)  (r:bk ∈ eA):ox bk (kH eA bk)=true:=by
 obtain ⟨n,c⟩:=ln r;have t:=(cS.1 c).1;obtain ⟨m,d⟩:=dw (by rw [<-b.len]; exact t);obtain ⟨h,fs,e,A,i,j⟩:=b.at_ n m d;rw [c] at e
 injection e with e
 subst e;have a:=(y8 h).2.2;have B:=xk a;have C:=a.fy;unfold iD at i;obtain ⟨f,g⟩:=l2.1 i;unfold ox
 have a1:ti (ee m fs).nm (ee m fs).aP=true:=Qy (by
   show (m.nm::m.aP).Nodup
   rw [zR]; exact ⟨b.Te d,Tf h⟩) (hS.2 λs u=>nO (a.aP s u))
 have a2:im (ee m fs)=false:=by
   unfold im
   have f:(ee m fs).parts.length=m.procs.length:=by unfold ee; simp
   have g:(ee m fs).aP.length=m.aP.length:=rfl;have v:(ee m fs).nm=m.nm:=rfl;have w:(ee m fs).data=kF m:=rfl;rw [f,g,v,w,nO a.name];simp;omega
 have a3:(ee m fs).parts.all (p' (je (ee m fs)::kH eA (ee m fs)))=true:=by
   refine hS.2 λx y=>?_;obtain ⟨p,k,rfl⟩:=oZ.1 (show x ∈ m.procs.map (k9 m fs) from y);have l:=sm (a.procs p k);have o:=Fj f p k;unfold bj at o;obtain ⟨_,z⟩:=l2.1 o;have q:=KS (b.it d c j (p.params++p.aH)) l.body z;rw [bT] at q;unfold p' k9;have D:=l.fy;rw [show ((p.params.length:Int)+(p.aH.length:Int))=((p.params.length+p.aH.length:Nat):Int) by omega,q];simp;omega
 have a4:k' (je (ee m fs)::kH eA (ee m fs)) 0 (ee m fs).main 1=true:=KS (aH:=[]) (b.it d c j []) a.main g;rw [a1,a2,a3,a4]; rfl
def jj.ahead (a:jj c' eA):j6 eA=true:=by
 unfold j6;refine hS.2 λn b=>?_;have c:=x0.1 b;obtain ⟨m,d⟩:=dw (by rw [<-a.len]; exact c);obtain ⟨_,fs,e,_,_,f⟩:=a.at_ n m d;rw [e,a.names];refine hS.2 λs g=>?_;obtain ⟨i,hi⟩:=ln (show s ∈ m.aP from g);obtain ⟨j,m',h,k,l,_⟩:=f i s hi;rw [vQ];refine gu (i:=j) ?_;rw [i6,a8 h,gS,k,dN,l]
def jj.data (b:jj c' eA):∀u ∈ eA,0<=u.data/\u.data<=320:=λu d=>by
 obtain ⟨n,c⟩:=ln d;have e:=(cS.1 c).1;obtain ⟨m,f⟩:=dw (by rw [<-b.len]; exact e);obtain ⟨g,fs,a,_⟩:=b.at_ n m f;rw [c] at a
 injection a with a
 subst a;exact xk (y8 g).2.2
def so (l:List e2):Int:=(l.map (·.data)).sum
def KV:∀{l:List e2} {r:Int},(∀u ∈ l,0<=u.data)->so l<=r->tj l r=true
 | [],r,_,_=>rfl
 | u::l,r,h,d=>by
   have e:=h u au
   have f:so (u::l)=u.data+so l:=by simp [so]
   have g:0<=so l:=by
     have:∀{l:List e2},(∀u ∈ l,0<=u.data)->0<=so l:=fun {l}=>by
       induction l with
       | nil=>intro _; simp [so]
       | cons x t b=>intro h; have:=b λu a=>h u (by simp [a]); have:=h x au; simp [so] at *; omega
     exact this λu a=>h u (by simp [a])
   rw [tj,KV (λx c=>h x (by simp [c])) Z];simp;omega
def jj.right (a:jj c' eA) (e:1<=eA.length/\eA.length<=4) (c:so eA<=512):fQ eA=0:=by
 unfold fQ
 have d:e1 (k_ eA)=false:=by rw [a.names]; exact ly.1 a.nd
 rw [av (by simp; omega),av (by rw [a.ahead]; decide),av (by rw [d]; decide),av (by rw [KV (λu b=>(a.data u b).1) c]; decide),a8 (hS.2 λu b=>a.tm b)]
def jj.alone (a:jj c' eA)  (c:bk ∈ eA):uR bk=true:=by
 have d:=a.tm c
 have e:(kH eA bk).length=bk.aP.length:=by simp [kH]
 unfold uR;rw [<-e];refine JZ (J0 λk b=>?_) d;unfold kH at b;obtain ⟨s,_,rfl⟩:=oZ.1 b
 split
 · rename_i i hi
   cases f:eA[i]? with
   | none=>intro h; cases h
   | some g=>exact ER (a.tm (gu f))
 · intro h; cases h
end Go.Bw
end
section
namespace Go.Bw
open Go
def y6 {u:e2} (h:uR u=true) (a:(tq u).2=0):(tq u).1=tp u/\(tp u).g.code.length<=2048:=by
 unfold tq at a ⊢;rw [av (by rw [h]; decide)] at a ⊢
 split at a
 · cases a
 · rename_i b
   rw [av b];exact ⟨O,Z⟩
def y9 (us:List e2):List gj:=us.map λu=>(tq u).1.to
section
variable {c':List cm} {eA:List e2}
def jj.ko (b:jj c' eA) (u:e2):∀k ∈ kH eA u,Bu k:=by
 intro k a;unfold kH at a;obtain ⟨s,_,rfl⟩:=oZ.1 a
 split
 · rename_i i hi
   cases c:eA[i]? with
   | none=>intro h; cases h
   | some d=>exact ER (b.tm (gu c))
 · intro h; cases h
variable {ae:Nat}
def jj.obj (d:jj c' eA) (e:∀u ∈ eA,(tq u).2=0)  {o:gj} (a:(y9 eA)[ae]? = some o):∃u,eA[ae]? = some u/\o=(tp u).to/\(tp u).g.code.length<=2048:=by
 unfold y9 at a;rw [gS] at a;obtain ⟨u,b,rfl⟩:=dX.1 a;have c:=gu b;obtain ⟨f,h⟩:=y6 (d.alone c) (e u c);exact ⟨u,b,by rw [f],h⟩
def jj.mod (b:jj c' eA)  {u:e2} (c:eA[ae]? = some u):∃(m:cm) (fs:List nf),c'[ae]? = some m/\u=ee m fs/\∀(i:Nat) (s:e'),m.aP[i]? = some s->∃(j:Nat) (m':cm),j<ae/\c'[j]? = some m'/\m'.nm=s/\fs[i]? = some (en m').1:=by
 have e:=(cS.1 c).1;obtain ⟨m,d⟩:=dw (by rw [<-b.len]; exact e);obtain ⟨_,fs,a,_,_,f⟩:=b.at_ ae m d;rw [c] at a
 injection a with a
 exact ⟨m,fs,d,a,f⟩
end
end Go.Bw
end
section
namespace Go.Bw
open Go
def fq {s:Tx} {l q:Tk} (h:bQ s l=some q):l.length=q.length+1:=by
 cases l with
 | nil=>cases h
 | cons t r=>
   simp only [bQ] at h
   split at h
   · injection h with h; subst h; rfl
   · cases h
variable {aL:Int} {aj bS:Tk}
def KX {t:Tok} (h:nc aL aj=some (t,bS)):aj.length=bS.length+1:=by
 cases aj with
 | nil=>cases h
 | cons t r=>
   simp only [nc] at h
   split at h
   · injection h with h; injection h with b a; subst a; rfl
   · cases h
def rn {a:Tx} (h:gQ aj=some (a,bS)):a.length<=8/\aj.length=bS.length+1:=by
 unfold gQ at h;obtain ⟨⟨t,q⟩,d,b⟩:=cN.1 h;simp only at b
 split at b
 · rename_i c
   simp only [eY,dC] at b;obtain ⟨rfl,rfl⟩:=b;refine ⟨?_,KX d⟩;simp only [fo,gc,ew,sP] at c;exact c.1.1.1.2
 · cases b
def KY (h:ce aj=some (aL,bS)):aj.length=bS.length+1:=by
 unfold ce at h;obtain ⟨⟨t,q⟩,b,a⟩:=dX.1 h;simp only [dC] at a;obtain ⟨_,rfl⟩:=a;exact KX b
def KZ {p:Tx×Tx} (h:mF aj=some (p,bS)):p.1.length+p.2.length<=16/\bS.length+1<=aj.length:=by
 unfold mF at h;obtain ⟨⟨a,q⟩,e,c⟩:=cN.1 h;obtain ⟨i,j⟩:=rn e;simp only at c
 split at c
 · rename_i k f
   obtain ⟨⟨b,l⟩,g,d⟩:=dX.1 c;simp only [dC] at d;obtain ⟨rfl,rfl⟩:=d;obtain ⟨m,n⟩:=rn g;have:=fq f;simp only;omega
 · simp only [eY,dC] at c
   obtain ⟨rfl,rfl⟩:=c;simp only [b8];omega
def WB (a:Tk->Option (ak×Tk)):Prop:=∀l x r,a l=some (x,r)->wE x+18*r.length<=18*l.length
variable {a5:Tk->Option (ak×Tk)}
def K0 (c:WB a5):∀(n:Nat) (l:Tk) (xs:List ak) (r:Tk),l7 a5 n l=some (xs,r)->ff xs+18*r.length<=18*l.length
 | 0,_,_,_,h=>by cases h
 | n+1,l,xs,r,h=>by
   unfold l7 at h;obtain ⟨⟨x,q⟩,f,a⟩:=cN.1 h;have j:=c l x q f;simp only at a
   split at a
   · rename_i d b
     simp only [eY,dC] at a;obtain ⟨rfl,rfl⟩:=a;have:=fq b;simp only [ff];omega
   · split at a
     · rename_i d b
       obtain ⟨⟨ys,g⟩,i,e⟩:=dX.1 a;simp only [dC] at e;obtain ⟨rfl,rfl⟩:=e;have:=fq b;have:=K0 c n d ys g i;simp only [ff];omega
     · cases a
def K1 (a:WB a5)  {xs:List ak} (h:lJ a5 aj=some (xs,bS)):ff xs+18*bS.length<=18*aj.length:=by
 unfold lJ at h
 split at h
 · rename_i q b
   simp only [eY,dC] at h;obtain ⟨rfl,rfl⟩:=h;have:=fq b;simp only [ff];omega
 · exact K0 a _ _ _ _ h
def K2:∀(a:List Tx) (i k:Nat) (l r:Tk),oM a i l=some (k,r)->r.length+1<=l.length
 | [],_,_,_,_,h=>by cases h
 | w::a,i,k,l,r,h=>by
   unfold oM at h
   split at h
   · rename_i q b
     simp only [eY,dC] at h;obtain ⟨_,rfl⟩:=h;have:=fq b;omega
   · exact K2 a _ _ _ _ h
variable {bH:ak}
def Tg (c:WB a5)   (h:ne a5 aj=some (bH,bS)):wE bH+18*bS.length<=18*aj.length:=by
 unfold ne at h;obtain ⟨⟨a,m⟩,e,f⟩:=cN.1 h;obtain ⟨⟨o,n⟩,g,i⟩:=cN.1 f;obtain ⟨⟨b,p⟩,j,k⟩:=cN.1 i;obtain ⟨q,l,d⟩:=dX.1 k;simp only [dC] at d;obtain ⟨rfl,rfl⟩:=d;have r:=c _ _ _ e;have s:=K2 _ _ _ _ _ g;have t:=c _ _ _ j;have u:=fq l;simp only [wE,ff,b8] at *;omega
def Th (d:WB a5)  {mod nm:Tx}  (k:mod.length+nm.length<=16) (h:pw a5 mod nm aj=some (bH,bS)):wE bH+18*bS.length<=17+18*aj.length:=by
 unfold pw at h
 split at h
 · rename_i q b
   obtain ⟨⟨y,f⟩,c,a⟩:=cN.1 h;obtain ⟨l,g,e⟩:=dX.1 a;simp only [dC] at e;obtain ⟨rfl,rfl⟩:=e;have i:=fq b;have j:=d _ _ _ c;have m:=fq g;simp only [wE,ff] at *;omega
 · split at h
   · rename_i q b
     obtain ⟨⟨xs,f⟩,c,a⟩:=dX.1 h;simp only [dC] at a;obtain ⟨rfl,rfl⟩:=a;have i:=fq b;have j:=K1 d c;simp only [wE] at *;omega
   · simp only [eY,dC] at h
     obtain ⟨rfl,rfl⟩:=h;simp only [wE,ff] at *;omega
def Ti (c:WB a5):WB (nP a5):=by
 intro l x r h;unfold nP at h
 split at h
 · rename_i q a
   simp only [eY,dC] at h;obtain ⟨rfl,rfl⟩:=h;have:=fq a;simp only [wE,ff,b8];omega
 · split at h
   · rename_i q a
     obtain ⟨⟨y,i⟩,d,b⟩:=dX.1 h;simp only [dC] at b;obtain ⟨rfl,rfl⟩:=b;have e:=fq a;have f:=c _ _ _ d;simp only [wE,ff,b8];omega
   · split at h
     · rename_i q a
       have e:=fq a;have f:=Tg c h;omega
     · obtain ⟨⟨p,q⟩,d,b⟩:=cN.1 h
       obtain ⟨e,f⟩:=KZ d;have g:=Th c e b;simp only at g;omega
def tr:∀f,WB (a6 f)
 | 0=>λ_ _ _ h=>by cases h
 | f+1=>by
   intro l x r h
   cases l with
   | nil=>cases h
   | cons t q=>
     unfold a6 at h
     by_cases a:t.kind=2
     · simp only [a8 a,eY,dC] at h
       obtain ⟨rfl,rfl⟩:=h;simp only [wE,ff,b8,b5];omega
     · simp only [av a] at h
       exact Ti (tr f) _ _ _ h
variable {dA:bE}
def Tj (h:gR aj=some (dA,bS)):wS dA+18*bS.length<=18*aj.length:=by
 have c:=tr 6;unfold gR at h
 split at h
 · rename_i q a
   obtain ⟨⟨x,f⟩,k,b⟩:=dX.1 h;simp only [dC] at b;obtain ⟨rfl,rfl⟩:=b;have n:=fq a;have g:=c _ _ _ k;simp only [wS,ff,dP,b8];omega
 · split at h
   · rename_i q a
     obtain ⟨⟨x,f⟩,k,b⟩:=dX.1 h;simp only [dC] at b;obtain ⟨rfl,rfl⟩:=b;have n:=fq a;have g:=c _ _ _ k;simp only [wS,ff,dP,b8];omega
   · obtain ⟨⟨⟨mod,nm⟩,q⟩,b,d⟩:=cN.1 h
     obtain ⟨s,n⟩:=KZ b;simp only at d s
     split at d
     · rename_i f a
       obtain ⟨⟨xs,o⟩,t,e⟩:=dX.1 d;simp only [dC] at e;obtain ⟨rfl,rfl⟩:=e;have g:=fq a;have p:=K1 c t;simp only [wS,dP];omega
     · split at d
       · rename_i f a
         obtain ⟨⟨i,o⟩,e,l⟩:=cN.1 d;obtain ⟨y,m,j⟩:=cN.1 l;obtain ⟨z,u,v⟩:=cN.1 j;obtain ⟨⟨x,A⟩,w,r⟩:=dX.1 v;simp only [dC] at r;obtain ⟨rfl,rfl⟩:=r;have g:=fq a;have p:=c _ _ _ e;have B:=fq m;have C:=fq u;have D:=c _ _ _ w;simp only [wS,ff,dP] at *;omega
       · obtain ⟨f,e,l⟩:=cN.1 d
         obtain ⟨⟨x,o⟩,m,j⟩:=dX.1 l;simp only [dC] at j;obtain ⟨rfl,rfl⟩:=j;have g:=fq e;have p:=c _ _ _ m;simp only [wS,ff,dP];omega
def K3 (a:Tk->Option (List bE×Tk)):Prop:=∀l x r,a l=some (x,r)->dP x+18*r.length<=18*l.length
def Mg {k:Tk->Option (List bE×Tk)} (f:K3 k)   (h:aY k aj=some (dA,bS)):wS dA+18*bS.length<=18*aj.length:=by
 have l:=tr 6;unfold aY at h
 split at h
 · rename_i q g
   obtain ⟨⟨x,m⟩,i,c⟩:=cN.1 h;obtain ⟨⟨b,s⟩,d,a⟩:=cN.1 c;have n:=fq g;have j:=l _ _ _ i;have p:=f _ _ _ d;simp only at a j p
   split at a
   · rename_i v t
     obtain ⟨⟨o,w⟩,u,e⟩:=cN.1 a;have y:=fq t;have z:=f _ _ _ u;simp only at e
     split at e
     · cases e
     · simp only [eY,dC] at e
       obtain ⟨rfl,rfl⟩:=e;simp only [wS,ff,b8] at *;omega
   · simp only [eY,dC] at a
     obtain ⟨rfl,rfl⟩:=a;simp only [wS,ff,dP,b8] at *;omega
 · split at h
   · rename_i q g
     obtain ⟨⟨x,m⟩,i,c⟩:=cN.1 h;obtain ⟨⟨b,s⟩,d,a⟩:=dX.1 c;simp only [dC] at a;obtain ⟨rfl,rfl⟩:=a;have n:=fq g;have j:=l _ _ _ i;have p:=f _ _ _ d;simp only [wS,ff,dP,b8] at *;omega
   · obtain ⟨⟨A,q⟩,c,d⟩:=cN.1 h
     obtain ⟨m,a,r⟩:=dX.1 d;simp only [dC] at r;obtain ⟨rfl,rfl⟩:=r;have n:=Tj c;have j:=fq a;simp only at *;omega
def K4 {ps:Tk->Option (bE×Tk)} (a:∀l x r,ps l=some (x,r)->wS x+18*r.length<=18*l.length):∀(n:Nat) (l:Tk) (xs:List bE) (r:Tk),nQ ps n l=some (xs,r)->dP xs+18*r.length<=18*l.length
 | 0,_,_,_,h=>by cases h
 | n+1,l,xs,r,h=>by
   unfold nQ at h
   split at h
   · rename_i q c
     simp only [eY,dC] at h;obtain ⟨rfl,rfl⟩:=h;have:=fq c;simp only [dP];omega
   · obtain ⟨⟨s,q⟩,d,e⟩:=cN.1 h
     obtain ⟨⟨ys,f⟩,g,b⟩:=dX.1 e;simp only [dC] at b;obtain ⟨rfl,rfl⟩:=b;have i:=a _ _ _ d;have j:=K4 a n q ys f g;simp only [dP];omega
def Fo:∀f,K3 (hq f)
 | 0=>λ_ _ _ h=>by cases h
 | f+1=>by
   intro l x r h;unfold hq at h;obtain ⟨q,a,b⟩:=cN.1 h;have d:=fq a;have e:=K4 (λl x r c=>Mg (Fo f) c) _ _ _ _ b;omega
def Fp (l:Tk):(lg l).2.length<=l.length:=by
 unfold lg
 cases h:bQ xd l with
 | none=>exact eH _
 | some q=>have:=fq h; simp only [zP]; omega
variable {dh:Bool}
def Tl {d:de} (h:hQ dh aj=some (some d,bS)):1+d.nm.length+18*bS.length<=18*aj.length:=by
 unfold hQ at h
 split at h
 · rename_i q c
   obtain ⟨⟨a,l⟩,u,i⟩:=cN.1 h;obtain ⟨m,e,f⟩:=cN.1 i;obtain ⟨⟨n,v⟩,b,j⟩:=cN.1 f;obtain ⟨w,k,g⟩:=dX.1 j;simp only [dC,eY] at g;obtain ⟨rfl,rfl⟩:=g;have o:=fq c;obtain ⟨p,r⟩:=rn u;have s:=fq e;have x:=KY b;have y:=fq k;simp only at *;omega
 · split at h
   · rename_i q c
     obtain ⟨⟨a,l⟩,i,e⟩:=cN.1 h;obtain ⟨m,f,b⟩:=dX.1 e;simp only [dC,eY] at b;obtain ⟨rfl,rfl⟩:=b;have o:=fq c;obtain ⟨p,r⟩:=rn i;have s:=fq f;simp only at *;omega
   · split at h
     · rename_i q c
       obtain ⟨⟨a,l⟩,e,f⟩:=cN.1 h;obtain ⟨m,b,j⟩:=cN.1 f;obtain ⟨⟨n,v⟩,k,g⟩:=cN.1 j;obtain ⟨w,z,A⟩:=cN.1 g;obtain ⟨C,B,t⟩:=dX.1 A;simp only [dC,eY] at t;obtain ⟨rfl,rfl⟩:=t;have o:=fq c;obtain ⟨p,r⟩:=rn e;have s:=fq b;have x:=KY k;have y:=fq z;have D:=fq B;simp only at *;omega
     · simp at h
def K5:∀(n:Nat) (ao:Bool) (l:Tk) (ds:List de) (b:Bool) (r:Tk),nR n ao l=some ((ds,b),r)->wD ds+18*r.length<=18*l.length
 | 0,_,_,_,_,_,h=>by cases h
 | n+1,ao,l,ds,b,r,h=>by
   unfold nR at h;obtain ⟨⟨o,q⟩,c,a⟩:=cN.1 h
   cases o with
   | none=>
     have:=Fe c;simp only [eY,dC] at a;obtain ⟨⟨e,_⟩,f⟩:=a;rw [<-e,<-f,this];simp [wD]
   | some x=>
     obtain ⟨⟨⟨ys,i⟩,j⟩,g,d⟩:=dX.1 a;simp only [dC] at d;obtain ⟨⟨rfl,rfl⟩,rfl⟩:=d;have k:=Tl c;have m:=K5 n _ _ _ _ _ g;have p:=Fp q;simp only [wD] at *;omega
def K6:∀(n:Nat) (first:Bool) (l:Tk) (xs:List Tx) (r:Tk),jY n first l=some (xs,r)->wN xs+18*r.length<=18*l.length
 | 0,_,_,_,_,h=>by cases h
 | n+1,first,l,xs,r,h=>by
   unfold jY at h
   split at h
   · rename_i q e
     simp only [eY,dC] at h;obtain ⟨rfl,rfl⟩:=h;have:=fq e;simp only [wN];omega
   · obtain ⟨c,b,f⟩:=cN.1 h
     obtain ⟨⟨a,q⟩,g,i⟩:=cN.1 f;obtain ⟨⟨ys,j⟩,k,d⟩:=dX.1 i;simp only [dC] at d;obtain ⟨rfl,rfl⟩:=d
     have m:c.length<=l.length:=by
       cases first with
       | true=>simp only [cv,eY] at b; subst b; exact eH _
       | false=>have:=fq (s:=[44]) (l:=l) (q:=c) b; omega
     obtain ⟨o,p⟩:=rn g;have t:=K6 n false q ys j k;simp only [wN] at *;omega
def K7:∀(n:Nat) (l:Tk) (xs:List Tx) (r:Tk),l8 n l=some (xs,r)->wN xs+18*r.length<=18*l.length
 | 0,_,_,_,h=>by cases h
 | n+1,l,xs,r,h=>by
   unfold l8 at h
   split at h
   · rename_i q c
     obtain ⟨⟨a,m⟩,d,e⟩:=cN.1 h;obtain ⟨f,g,i⟩:=cN.1 e;obtain ⟨⟨ys,j⟩,k,b⟩:=dX.1 i;simp only [dC] at b;obtain ⟨rfl,rfl⟩:=b;have o:=fq c;obtain ⟨p,s⟩:=rn d;have t:=fq g;have u:=K7 n f ys j k;simp only [wN] at *;omega
   · simp only [eY,dC] at h
     obtain ⟨rfl,rfl⟩:=h;simp [wN]
def K8:∀(n:Nat) (l:Tk) (xs:List Tx) (r:Tk),mG n l=some (xs,r)->wN xs+18*r.length<=18*l.length
 | 0,_,_,_,h=>by cases h
 | n+1,l,xs,r,h=>by
   unfold mG at h
   split at h
   · rename_i q c
     obtain ⟨⟨a,m⟩,d,e⟩:=cN.1 h;obtain ⟨f,g,i⟩:=cN.1 e;obtain ⟨⟨ys,j⟩,k,b⟩:=dX.1 i;simp only [dC] at b;obtain ⟨rfl,rfl⟩:=b;have o:=fq c;obtain ⟨p,s⟩:=rn d;have t:=fq g;have u:=K8 n f ys j k;simp only [wN] at *;omega
   · simp only [eY,dC] at h
     obtain ⟨rfl,rfl⟩:=h;simp [wN]
def Tm {p:eI} (h:jZ dh aj=some (p,bS)):p.nm.length+wN p.params+wN p.aH+dP p.body+18*bS.length<=18*aj.length:=by
 unfold jZ at h;obtain ⟨⟨a,n⟩,d,e⟩:=cN.1 h;obtain ⟨o,f,g⟩:=cN.1 e;obtain ⟨⟨ps,q⟩,i,j⟩:=cN.1 g;obtain ⟨⟨r,s⟩,k,l⟩:=cN.1 j;obtain ⟨⟨b,t⟩,m,c⟩:=dX.1 l;simp only [dC] at c;obtain ⟨rfl,rfl⟩:=c;obtain ⟨u,v⟩:=rn d;have w:=fq f;have x:=K6 _ _ _ _ _ i;have y:=K7 _ _ _ _ k;have z:=Fo 6 _ _ _ m;simp only at *;omega
def K9:∀(n:Nat) (ao:Bool) (l:Tk) (ds:List eI) (a:Bool) (r:Tk),nS n ao l=some ((ds,a),r)->wP ds+18*r.length<=18*l.length
 | 0,_,_,_,_,_,h=>by cases h
 | n+1,ao,l,ds,a,r,h=>by
   unfold nS at h
   split at h
   · rename_i q c
     obtain ⟨⟨p,d⟩,e,f⟩:=cN.1 h;obtain ⟨⟨⟨ys,i⟩,j⟩,g,b⟩:=dX.1 f;simp only [dC] at b;obtain ⟨⟨rfl,rfl⟩,rfl⟩:=b;have k:=fq c;have m:=Tm e;have o:=K9 n _ _ _ _ _ g;have s:=Fp d;simp only [wP] at *;omega
   · simp only [eY,dC] at h
     obtain ⟨⟨rfl,rfl⟩,rfl⟩:=h;simp [wP]
def K' {m:cm} (h:mH aj=some (m,bS)):wM m+18*bS.length<=18*aj.length:=by
 unfold mH at h;obtain ⟨p,d,h⟩:=cN.1 h;obtain ⟨⟨a,q⟩,e,h⟩:=cN.1 h;obtain ⟨r,f,h⟩:=cN.1 h;obtain ⟨⟨us,g⟩,i,h⟩:=cN.1 h;obtain ⟨⟨⟨ds,s⟩,t⟩,j,h⟩:=cN.1 h;obtain ⟨⟨⟨ps,u⟩,v⟩,k,h⟩:=cN.1 h;simp only at h
 split at h
 · cases h
 · obtain ⟨w,l,h⟩:=cN.1 h
   obtain ⟨⟨b,x⟩,n,h⟩:=cN.1 h;obtain ⟨y,o,c⟩:=dX.1 h;simp only [dC] at c;obtain ⟨rfl,rfl⟩:=c;have z:=fq d;obtain ⟨A,B⟩:=rn e;have C:=fq f;have D:=K8 _ _ _ _ i;have E:=K5 _ _ _ _ _ _ j;have F:=Fp g;have G:=K9 _ _ _ _ _ _ k;have H:=fq l;have I:=Fo 6 _ _ _ n;have J:=fq o;simp only [wM] at *;omega
end Go.Bw
end
section
namespace Go.Bw
open Go
def K_ (l:Tk):Prop:=∀t ∈ l,t.kind=1->t.text.length<=8
structure vg (l r:Tk):Prop where
 ok:K_ r
 le:r.length<=l.length
def vg.trans {a b c:Tk} (h:vg a b) (g:vg b c):vg a c:=⟨g.ok,rH g.le h.le⟩
structure YU (l:Tk) (p:ak×Tk):Prop extends vg l p.2 where
 w:wE p.1+40*p.2.length<=20+40*l.length
structure Y3 (l:Tk) (p:bE×Tk):Prop extends vg l p.2 where
 w:wS p.1+80*p.2.length<=80*l.length\/(p.2.length=l.length/\wS p.1<=40)
structure Tn (l:Tk) (p:List bE×Tk):Prop extends vg l p.2 where
 w:dP p.1+80*p.2.length<=80*l.length
def To (a:Tk->List bE×Tk):Prop:=∀l,K_ l->Tn l (a l)
def zc (P:Program) (f:FuncId) (vs:List Value) (a:List ah) (b9:List View) {ι:Type} (v:ι->Value) (b:ι->List ah) (R:ι->Prop):Prop:=
 Enters P f/\∀w,Ws w (a.flatMap ah.ids) a b9 w->Calls P f vs.toArray w λe w'=>∃i,e = .returned (v i)/\R i/\Ws w (a.flatMap ah.ids) (b i) b9 w'
def vh (P:Program) (f:FuncId) (vs:List Value) (a:List ah) (b9:List View) {ι κ:Type} (v:ι->Value) (b:ι->List ah) (R:ι->Prop) (c:κ->List PanicEntry) (Lp:κ->List ah) (d:κ->Prop):Prop:=
 Enters P f/\∀w,Ws w (a.flatMap ah.ids) a b9 w->Calls P f vs.toArray w λe w'=>(∃i,e = .returned (v i)/\R i/\Ws w (a.flatMap ah.ids) (b i) b9 w')\/(∃j,e = .panicked (c j)/\d j/\Ws w (a.flatMap ah.ids) (Lp j) b9 w')
def Tp (P:Program) (f:FuncId) (vs:List Value) (a:List ah) (b9:List View) {ι:Type} (v:ι->Value) (b:ι->List ah) (R:View->ι->Prop):Prop:=
 (Enters P f/\∀i,∀k ∈ (b i).flatMap ah.ids,k ∈ a.flatMap ah.ids)/\∀w,Ws w (a.flatMap ah.ids) a b9 w->Calls P f vs.toArray w λe w'=>∃i,e = .returned (v i)/\R (nv w w') i/\Ws w (a.flatMap ah.ids) (b i) b9 w'
def zm (P:Program) (f:FuncId) (vs:List Value) (a:List ah) (b9:List View) {ι κ:Type} (v:ι->Value) (b:ι->List ah) (R:View->ι->Prop) (c:κ->List PanicEntry) (Lp:κ->List ah) (d:κ->Prop):Prop:=
 (Enters P f/\∀i,∀k ∈ (b i).flatMap ah.ids,k ∈ a.flatMap ah.ids)/\∀w,Ws w (a.flatMap ah.ids) a b9 w->Calls P f vs.toArray w λe w'=>(∃i,e = .returned (v i)/\R (nv w w') i/\Ws w (a.flatMap ah.ids) (b i) b9 w')\/(∃j,e = .panicked (c j)/\d j/\Ws w (a.flatMap ah.ids) (Lp j) b9 w')
section
variable {P:Program} {ops:Array Oper} {Q:Exit->Act->World->Prop} {n:Nat} {ds:List Deferred} {l:List (Nat×Value)} {w0:World} {F:List Nat} {L:List ah} {Vs:List View}
 {rest:List Oper} {d:Nat} {ty:TypeId} {pos:String} {af:Array Edge} {g:Option (Nat×Bool)} {ι κ:Type} {f:FuncId} {args:Array Operand} {ts:Array TypeId} {vs:List Value} {L1 L2:List ah} {b9:List View}
 {v:ι->Value} {py:ι->List ah} {ch:κ->List PanicEntry} {Lp:κ->List ah} {Rp:κ->Prop}
def WL.kw {R:ι->Prop} (hC:zc P f vs L1 b9 v py R) (a:∀i,R i->WL P ops Q n ds ((d,v i)::l) (Ws w0 F (py i++L2) Vs) rest)
   (b:g2 l args.toList=some vs:=by rfl) (hL:L=L1++L2:=by rfl) (c:∀H ∈ b9,H ∈ Vs:=by simp) (e:dI ops l g:=by first | exact .inl rfl | exact .inr ⟨_,_,_,rfl,rfl,rfl⟩) (h:Nat.blt d n=true:=by rfl) :
   WL P ops Q n ds l (Ws w0 F L Vs) (⟨some d,.call ⟨.value (.func f),args,ts⟩,ty,pos,af,g⟩::rest):=Lw L1 L2 e h hC.1 b hL v py R b9 c hC.2 a
def WL.kx {R:ι->Prop} (hC:vh P f vs L1 b9 v py R ch Lp Rp) (a:∀j,Rp j->WE Q (.panic (ch j)) n ds l (Ws w0 F (Lp j++L2) Vs)) (b:∀i,R i->WL P ops Q n ds ((d,v i)::l) (Ws w0 F (py i++L2) Vs) rest)
   (c:g2 l args.toList=some vs:=by rfl) (hL:L=L1++L2:=by rfl) (e:∀H ∈ b9,H ∈ Vs:=by simp) (h:dI ops l g:=by first | exact .inl rfl | exact .inr ⟨_,_,_,rfl,rfl,rfl⟩) (k:Nat.blt d n=true:=by rfl) :
   WL P ops Q n ds l (Ws w0 F L Vs) (⟨some d,.call ⟨.value (.func f),args,ts⟩,ty,pos,af,g⟩::rest):=yi L1 L2 h k hC.1 c hL v py R ch Lp Rp b9 e hC.2 a b
def WL.kd {R:View->ι->Prop} (hC:Tp P f vs L1 b9 v py R) (a:∀H i,eD w0 H->R H i->WL P ops Q n ds ((d,v i)::l) (Ws w0 F (py i++L2) (H::Vs)) rest)
   (b:g2 l args.toList=some vs:=by rfl) (hL:L=L1++L2:=by rfl) (c:∀H ∈ b9,H ∈ Vs:=by simp) (e:dI ops l g:=by first | exact .inl rfl | exact .inr ⟨_,_,_,rfl,rfl,rfl⟩) (h:Nat.blt d n=true:=by rfl) :
   WL P ops Q n ds l (Ws w0 F L Vs) (⟨some d,.call ⟨.value (.func f),args,ts⟩,ty,pos,af,g⟩::rest):=rZ L1 L2 e h hC.1.1 b hL v py R b9 c hC.1.2 hC.2 a
def WL.ke {R:View->ι->Prop} (hC:zm P f vs L1 b9 v py R ch Lp Rp) (a:∀j,Rp j->WE Q (.panic (ch j)) n ds l (Ws w0 F (Lp j++L2) Vs)) (b:∀H i,eD w0 H->R H i->WL P ops Q n ds ((d,v i)::l) (Ws w0 F (py i++L2) (H::Vs)) rest)
   (c:g2 l args.toList=some vs:=by rfl) (hL:L=L1++L2:=by rfl) (e:∀H ∈ b9,H ∈ Vs:=by simp) (h:dI ops l g:=by first | exact .inl rfl | exact .inr ⟨_,_,_,rfl,rfl,rfl⟩) (k:Nat.blt d n=true:=by rfl) :
   WL P ops Q n ds l (Ws w0 F L Vs) (⟨some d,.call ⟨.value (.func f),args,ts⟩,ty,pos,af,g⟩::rest):=oj L1 L2 h k hC.1.1 c hL v py R ch Lp Rp b9 e hC.1.2 hC.2 a b
end
end Go.Bw
end
section
namespace Go.Proofs
open Go.Shelf
def Tryz.Tq:Go.Shelf.Ren:=⟨fun | 137=>258 | 217=>312 | 266=>348 | n=>n,fun | 9=>9 | 5=>5 | 3=>3 | n=>n,fun | n=>n⟩
def Tryz.Tr:Go.Proofs.Lays.n137 Tryz.prog Tryz.Tq:=by repeat' first | kernel_rfl | (intro; kernel_rfl) | constructor
def Tryz.Ts:Go.Shelf.Ren:=⟨fun | 171=>124 | 243=>216 | 246=>263 | 283=>319 | 284=>320 | 285=>321 | 286=>322 | 129=>302 | 317=>351 | 318=>352 | 319=>353 | 320=>354 | 337=>359 | 338=>360 | n=>n,fun | 3=>3 | 9=>9 | 2=>2 | 4=>4 | 171=>419 | 0=>0 | 53=>406 | 37=>142 | 5=>5 | 173=>421 | 212=>439 | 51=>404 | 20=>20 | 213=>440 | 46=>355 | 232=>453 | 233=>454 | n=>n,fun | 17=>0 | 18=>4 | 19=>5 | n=>n⟩
def Tryz.Tt:Go.Proofs.LaysM.n171 Tryz.prog Tryz.Ts:=by repeat' first | kernel_rfl | (intro; kernel_rfl) | constructor
def Tryz.Tu:Go.Shelf.Ren:=⟨fun | 172=>257 | 244=>310 | 245=>311 | 247=>343 | 279=>344 | 280=>345 | 281=>346 | 282=>347 | 287=>356 | 316=>357 | 171=>124 | 205=>358 | 321=>361 | 322=>362 | 243=>216 | 246=>263 | 283=>319 | 284=>320 | 285=>321 | 286=>322 | 129=>302 | 317=>351 | 318=>352 | 319=>353 | 320=>354 | 337=>359 | 338=>360 | n=>n,fun | 9=>9 | 3=>3 | 75=>258 | 76=>259 | 4=>4 | 5=>5 | 167=>431 | 37=>142 | 0=>0 | 85=>432 | 2=>2 | 168=>434 | 53=>406 | 175=>444 | 46=>355 | 210=>447 | 127=>262 | 145=>452 | 143=>450 | 21=>21 | 171=>419 | 173=>421 | 212=>439 | 51=>404 | 20=>20 | 213=>440 | 232=>453 | 233=>454 | 80=>102 | n=>n,fun | 15=>1 | 16=>2 | 17=>0 | 18=>4 | 19=>5 | n=>n⟩
def Tryz.Fq:Go.Proofs.LaysC.n172 Tryz.prog Tryz.Tu:=by repeat' first | kernel_rfl | (intro; kernel_rfl) | constructor
end Go.Proofs
end
section
namespace Go.Proofs.YtgeahfjicmlocaaGreatDoor
open Go.Bw Go.Proofs.Tryz
open Go.Proofs
def within (n a b:Int):Bool:=decide (a<=n)&&decide (n<=b)
def Lc (n:Nat):within (n:Int) 1 8=(decide (1<=n)&&decide (n<=8)):=by
 rw [j9];simp [within];omega
def zG (n:Nat) (u:Int):(((((n:Int)==0)||decide (8<(n:Int)))||decide (u<97))||decide (122<u)) = !((decide (1<=n)&&decide (n<=8))&&mn u):=by
 rw [j9];simp [mn];omega
variable {aS:List UInt8} {ae:Nat}
def vi (h:ae<aS.length):aS[ae]? = some (aS[ae]?.getD 0):=by rw [dM h]; rfl
variable {BJ:UInt8->Bool}
def z' (h:ae<aS.length) (a:BJ (aS[ae]?.getD 0)=false):aS.all BJ=false:=by
 rw [CO];exact ⟨_,gu (vi h),by simp [a]⟩
def Au (h:∀i,i<aS.length->BJ (aS[i]?.getD 0)=true):aS.all BJ=true:=by
 rw [hS];intro x a;obtain ⟨i,hi⟩:=ln a;have:=h i (cS.1 hi).1;rw [hi] at this;exact this
def Lg (u:UInt8):∀s:List UInt8,decide (0<=Lib.indexByte s u)=s.contains u
 | []=>rfl
 | b::l=>by
   have c:=Lg u l;have f:=Lib.indexByte_ge l u;unfold Lib.indexByte
   by_cases a:b=u
   · subst a; simp
   · have d:(b==u)=false:=by simpa using a
     have e:(u==b)=false:=by simpa using λh=>a h.symm
     rw [av (by simp [d]),List.contains_cons,e,hG,<-c]
     split
     · rename_i h; simp at h; simp [h]
     · rename_i h; simp at h
       rw [j9]; simp; omega
def Tv (n:Nat):(n:Int).tmod 10=((n % 10:Nat):Int):=rfl
def Tw (n:Nat):(n:Int).tdiv 10=((n / 10:Nat):Int):=rfl
def Mi (n:Nat):IntKind.u8.wrap (48+((n % 10:Nat):Int))=((UInt8.ofNat (48+n % 10)).toNat:Int):=by
 have h:n % 10<10:=p_ _ bf
 generalize n % 10=m at h
 unfold IntKind.wrap;simp [IntKind.signed,IntKind.bits,CL]
def toNat_inj {u v:UInt8} (h:(u.toNat:Int)=(v.toNat:Int)):u=v:=UInt8.toNat_inj.1 Z
def kk:prog.underlying 3=some (.int .i64):=aa
def Lh:prog.underlying 5=some (.int .u8):=aa
def BK:hc prog 142 5 (.int .u8 0) 1 1:=jr aa
def mB (n a b:Int) (w:World) :
   Calls prog 90 #[.int .i64 n,.int .i64 a,.int .i64 b] w λe w'=>e = .returned (.bool (within n a b))/\Ext w w':=by
 refine enter func90 O 15 O O ?_;refine CE (Vs:=[]) (Ws.init au) (ac (ai O (ad (ac (ab O (ab O (I (ih O O) (ab O ?_))))))));apply La 3 O O O O Y O O O O O
 ·intro d;refine Vg (Ym O) (Vg (Ym O) (Vg (lS O O) ?_));exact Gt 3 O O O
 refine ai O (ad (aZ ?_));refine R1 O O λw' c=>?_;exact ⟨O,c.fr⟩
def Li (u:Int) (w:World) :
   Calls prog 225 #[.int .u8 u] w λe w'=>e = .returned (.bool (mn u))/\Ext w w':=by
 refine enter func225 O 9 O O ?_;refine CE (Vs:=[]) (Ws.init au) (ac (ai O (ad (ac (ab O (I (ih O O) (ab O ?_)))))));apply La 2 O O O O Y O O O O O
 ·intro b;refine Vg (Ym O) (Vg (lS O O) ?_);exact Gt 2 O O O
 refine ai O (ad (aZ ?_));refine R1 O O λw' a=>?_;exact ⟨O,a.fr⟩
def Ty (u:Int) (w:World) :
   Calls prog 226 #[.int .u8 u] w λe w'=>e = .returned (.bool (uy u))/\Ext w w':=by
 refine enter func226 O 9 O O ?_;refine CE (Vs:=[]) (Ws.init au) (ac (ai O (ad (ac (ab O (I (ih O O) (ab O ?_)))))));apply La 2 O O O O Y O O O O O
 ·intro b;refine Vg (Ym O) (Vg (lS O O) ?_);exact Gt 2 O O O
 refine ai O (ad (aZ ?_));refine R1 O O λw' a=>?_;exact ⟨O,a.fr⟩
def Lj (u:Int) (w:World) :
   Calls prog 204 #[.int .u8 u] w λe w'=>e = .returned (.bool (mn u||uy u))/\Ext w w':=by
 refine enter func204 O 17 O O ?_;refine CE (Vs:=[]) (Ws.init au) (ac (ai O (ad (ac (ab O (I (ih O O) (ab O ?_)))))));apply La 2 O O O O Y O O O O O
 ·intro b;refine Vg (Ym O) (Vg (lS O O) ?_);exact Gt 2 O O O
 refine ab O ?_;apply Lo 6 O O O O Y O O O O O
 ·intro c;refine Vg (Ym O) (Vg (ih O O) (Vg (Ym O) ?_));apply La 2 O O O O (.g O O O) O O O O O
  ·intro d;refine Vg (Ym O) (Vg (lS O O) ?_);exact Gt 2 O O O
  exact Gt 4 O O O
 refine ai O (ad (aZ ?_));refine R1 O O λw' a=>?_;exact ⟨O,a.fr⟩
def Fs (s:List UInt8) (w:World) :
   Calls prog 132 #[st s] w λe w'=>e = .returned (.bool (gc s))/\Ext w w':=by
 refine enter func132 O 32 O O ?_;refine CE (Vs:=[]) (Ws.init au) (ac (ai O (ad (Cs (ac (ab O (I (eJ aa O) (Lp Y O aK O (λw a=>mB _ _ _ w) (I (eR O) ?_)))))))));refine ab O ?_;apply Lo 4 O O O O Y O O O O O
 ·intro p
  have q:0<s.length:=by simp [within] at p; omega
  have r:=vi q;refine Vg (Ym O) (Vg (sU aa O O r) (Lp (.g O O O) O aK O (λw a=>Li _ w) (Vg (eR O) ?_)));exact Gt 4 O O O
 refine ad ?_;refine Cc O (λb=>?_) (λb=>?_)
 ·have t:gc s=false:=by
    unfold gc;rw [Lc] at b
    revert b
    generalize (decide (1<=s.length)&&decide (s.length<=8))=A
    generalize mn ((s[0]?.getD 0).toNat)=B
    cases A<;>cases B<;>simp
  refine ac (ai O (ad (aZ (Er ?_))));refine R1 O O λw' a=>?_;exact ⟨by rw [t],a.fr⟩
 have k:((decide (1<=s.length)&&decide (s.length<=8))&&mn ((s[0]?.getD 0).toNat))=true:=by
   rw [Lc] at b
   revert b
   generalize (decide (1<=s.length)&&decide (s.length<=8))=A
   generalize mn ((s[0]?.getD 0).toNat)=B
   cases A<;>cases B<;>simp
 have u:s.length<=8:=by simp at k; omega
 refine am (Cs (ac (ai O (ad (Cb ?_)))));refine fT (ι:=Nat) (λi=>[(3,.int .i64 (i:Int))]) [(0,_)] (λi=>i<=s.length/\∀j,j<i->lu (s[j]?.getD 0)=true) (λi=>s.length-i) 0 ⟨cx _,au⟩ ?_;intro i ⟨hi,l⟩;refine Cs (ac (ab O (ab O (I (eJ aa O) (I (cy O O) (ad ?_))))));refine Cc O (λc=>?_) (λc=>?_)
 ·have m:i<s.length:=by simpa using c
  have n:=vi m;refine am (Cs (Cb (ac (ab O (ab O (I (sU aa O O n) (Lp Y O aK O (λw a=>Li _ w) (I (eR O) (ab O ?_)))))))));apply La 5 O O O O Y O O O O O
  ·intro v;refine Vg (Ym O) (Vg (Ym O) (Vg (sU aa O O n) (Lp (.g O O O) O aK O (λw a=>Ty _ w) (Vg (eR O) ?_))));exact Gt 5 O O O
  refine ad ?_;refine Cc O (λd=>?_) (λd=>?_)
  ·have f:lu (s[i]?.getD 0)=false:=by unfold lu; revert d; cases mn _<;>cases uy _<;>simp
   refine ac (ai O (ad (aZ (cf (Er (Er (cf (Er ?_))))))));refine R1 O O λw' a=>?_;exact ⟨by unfold gc; rw [z' m f]; simp,a.fr⟩
  have f:lu (s[i]?.getD 0)=true:=by unfold lu; revert d; cases mn _<;>cases uy _<;>simp
  refine Ck (Eb (Et (Cr (ab O (I (Yi O O O Z) (ai O (Ln ?_)))))));exact ct (i+1) Z ⟨Z,λj o=>by rcases gT.1 o with h | rfl; exact l j h; exact f⟩ ag
 have x:¬i<s.length:=by simpa using c
 refine Ce (Ex (Ex (cU (Et (ac (ai O (ad (aZ ?_))))))));refine R1 O O λw' a=>?_;exact ⟨by unfold gc; rw [Au λj o=>l j Z,k]; rfl,a.fr⟩
def jF (s:List UInt8) (w:World) :
   Calls prog 128 #[st s] w λe w'=>e = .returned (.bool (gc s))/\Ext w w':=by
 refine enter func128 O 33 O O ?_;refine CE (Vs:=[]) (Ws.init au) (ac (ai O (ad (Cs (ac (ab O (I (eJ aa O) (I (bx O O) (ab O ?_)))))))));apply Lo 3 O O O O Y O O O O O
 ·intro u;refine Vg (Ym O) (Vg (eJ aa O) (Vg (ed O O) ?_));exact Gt 3 O O O
 refine ab O ?_;apply Lo 3 O O O O Y O O O O O
 ·intro p
  have c:0<s.length:=by
    rcases CY s.length with h | h
    · simp [h] at p
    · exact h
  have k:=vi c;refine Vg (Ym O) (Vg (sU aa O O sH) (Vg (cy O O) ?_));exact Gt 3 O O O
 refine ab O ?_;apply Lo 3 O O O O Y O O O O O
 ·intro q
  have c:0<s.length:=by
    rcases CY s.length with h | h
    · simp [h] at q
    · exact h
  have k:=vi c;refine Vg (Ym O) (Vg (sU aa O O k) (Vg (ed O O) ?_));exact Gt 3 O O O
 refine ad ?_;refine Cc O (λa=>?_) (λa=>?_)
 ·rw [zG] at a
  have r:gc s=false:=by
    unfold gc;simp only [zX] at a;rw [a]; rfl
  refine ac (ai O (ad (aZ (Er ?_))));refine R1 O O λw' b=>?_;exact ⟨by rw [r],b.fr⟩
 rw [zG] at a
 have l:((decide (1<=s.length)&&decide (s.length<=8))&&mn ((s[0]?.getD 0).toNat))=true:=by simpa using a
 have v:s.length<=8:=by simp at l; omega
 refine am (Cs (ac (ab O (I (eJ aa O) (ab O (ad (Cb ?_)))))));refine fT (ι:=Nat) (λi=>[(24,.int .i64 (i:Int))]) [(0,_),(23,_)] (λi=>i<=s.length/\∀j,j<i->lu (s[j]?.getD 0)=true) (λi=>s.length-i) 0 ⟨cx _,au⟩ ?_;intro i ⟨hi,m⟩;refine ac (I (cy O O) (ad (Cs ?_)));refine Cc O (λd=>?_) (λd=>?_)
 ·have n:i<s.length:=by simpa using d
  have t:=vi n;refine am (Cs (Cb (ac (ab O (ai O (ad (ac (ab O (ab O (I (sU aa O O t) (Lp Y O aK O (λw b=>Lj _ w) ?_)))))))))));refine I (eR O) (ad ?_);refine Cc O (λf=>?_) (λf=>?_)
  ·have g:lu (s[i]?.getD 0)=false:=by unfold lu; revert f; cases mn _<;>cases uy _<;>simp
   refine ac (ai O (ad (aZ (cf (Er (Er (cf (Er ?_))))))));refine R1 O O λw' b=>?_;exact ⟨by unfold gc; rw [z' n g]; simp,b.fr⟩
  have g:lu (s[i]?.getD 0)=true:=by unfold lu; revert f; cases mn _<;>cases uy _<;>simp
  refine Ck (Eb (Et (Cr (I (Yi O O O Z) (ab O (Ln ?_))))));exact ct (i+1) Z ⟨Z,λj o=>by rcases gT.1 o with h | rfl; exact m j h; exact g⟩ ag
 have x:¬i<s.length:=by simpa using d
 refine Ce (Ex (Ex (cU (Et (ac (ai O (ad (aZ ?_))))))));refine R1 O O λw' b=>?_;exact ⟨by unfold gc; rw [Au λj o=>m j Z,l]; rfl,b.fr⟩
def Tz (s:List UInt8) (u:UInt8) (w:World):Calls prog 258 #[st s,.int .u8 (u.toNat:Int)] w λe w'=>e = .returned (.int .i64 (Lib.indexByte s u))/\Ext w w':=
 (Any.strings_IndexByte Go.Proofs.Tryz.Tr ⟨s.toArray⟩ (u.toNat:Int) w).mono λe w' h=>by
   obtain ⟨a,b⟩:=h;subst b
   have c:((u.toNat:Int)).toNat.toUInt8=u:=au
   rw [c] at a;exact ⟨a,Fr.refl _ _⟩
def TA (u:UInt8) (w:World) :
   Calls prog 206 #[.int .u8 (u.toNat:Int)] w λe w'=>e = .returned (.bool (qO u))/\Ext w w':=by
 refine enter func206 O 6 O O ?_;refine CE (Vs:=[]) (Ws.init au) (ac (ai O (ad (ac (ab O (Lp Y O aK O (λw a=>Tz Ax u w) (I (ih O O) (ai O ?_))))))));refine ad (aZ ?_);refine R1 O O λw' a=>?_;exact ⟨by rw [Lg]; rfl,a.fr⟩
def Ft (n:Nat) (w:World) (i:n<=9223372036854775807) :
   Calls prog 53 #[.int .i64 (n:Int)] w λe w'=>e = .returned (st (Lib.decDigits n))/\Ext w w':=by
 induction n using Nat.strongRecOn generalizing w
 rename_i n f;refine enter func53 O 18 O O ?_;refine CE (Vs:=[]) (Ws.init au) (ac (ai O (ad (ac (ab O (I (Dg O O bf) ?_))))));rw [Tv n];refine I (uq (48+((n % 10:Nat):Int)) O O O Z) (I (Hw kk Lh O) ?_);rw [Mi n];refine Lb Y O BK O O O O λj=>?_;refine I (OA 0 underlying142 underlying5 underlying9 O (bs:=[UInt8.ofNat (48+n % 10)]) O O) (ai O (ad (Cs (ac (ab O (I (cy O O) (ad ?_)))))));refine Cc O (λc=>?_) (λc=>?_)
 ·have a:n<10:=by simp at c; omega
  refine ac (ab O (ai O (ad (aZ (Er ?_)))));refine R1 O O λw' b=>?_;exact ⟨by rw [Lib.decDigits,zY a,Nat.mod_eq_of_lt a],b.fr⟩
 have a:¬n<10:=by simp at c; omega
 obtain ⟨q,d⟩:∃q,q=n / 10:=⟨_,rfl⟩
 have g:q<n:=Z
 have h:q<=9223372036854775807:=Z
 refine am (ac (ab O (I (Df O O bf) ?_)));rw [Tw n,<-d,x5 Z]
 refine Lp Y O aK O (λw b=>by
     have:=f q g w h
     exact this) ?_
 refine ab O (I (az O O (by have:=DE 18 q Z; simp; omega)) (ai O (ad (aZ ?_))));refine R1 O O λw' b=>?_;exact ⟨by conv=>rhs; rw [Lib.decDigits,dif_neg a,<-d],b.fr⟩
variable {a9:Type}
def any_true {p:a9->Bool} {l:List a9}  {x:a9} (a:l[ae]? = some x) (h:p x=true):l.any p=true:=ey.2 ⟨x,gu a,h⟩
def any_false {p:a9->Bool} {l:List a9} (h:∀(j:Nat) (x:a9),l[j]? = some x->p x=false):l.any p=false:=by
 rw [vO];intro x a;obtain ⟨j,b⟩:=ln a;simp [h j x b]
def j2 {l:List a9}  {x:a9} (h:l[ae]? = some x):l.take (ae+1)=l.take ae++[x]:=by rw [kV,h]; rfl
def Lk:cJ prog 234 0=some 0:=aa
def TB:cJ prog 234 2=some 2:=aa
def ro:ga prog 222=some 3:=aa
def xo:ig prog 234=some 3:=aa
def oN (s:List UInt8):Int:=match Lib.atoiAll s with | .ok v=>v | .range=>Lib.atoiSat s | _=>0
def tK (s:List UInt8):Bool:=match Lib.atoiAll s with | .ok _=>true | _=>false
def TC (s:List UInt8) : -9223372036854775808<=oN s/\oN s<=9223372036854775807:=by
 unfold oN
 cases h:Lib.atoiAll s with
 | ok v=>exact Lib.atoiAll_bounds h
 | range=>exact Lib.atoiSat_bounds s
 | _=>simp
def TD (h:gc aS=false):mZ aS=(⟨2,oN aS,[]⟩,((tK aS&&decide (0<=oN aS))&&decide (oN aS<=1099511627775))&&(Lib.itoa (oN aS)==aS)):=by
 rw [mZ,av (by simp [h])];unfold oN tK
 cases Lib.atoiAll aS<;>simp
variable {o9:List Tok}
def Ll {t:List UInt8} (h:k0 aS=(k0 t).map (o9++·)) (a:k0 t=none):¬4096<aS.length->gm aS=([],1):=λb=>by
 rw [gm,av b,h,a]; rfl
def TE (h:k0 aS=(k0 []).map (o9++·)):¬4096<aS.length->gm aS=(o9,0):=λa=>by
 rw [gm,av a,h]; simp [H2]
variable {bI:Tok}
def Lm {o:Option (List Tok)}  :(o.map (bI::·)).map (o9++·)=o.map ((o9++[bI])++·):=by
 cases o<;>simp
def Fu:hx prog 234=some [(0,1),(1,1),(2,1)]:=aa
def vk:zeroOf prog 234=some (.agg #[.int .i64 0,.int .i64 0,st []]):=aa
def BL:hc prog 222 234 (.agg #[.int .i64 0,.int .i64 0,st []]) 3 32:=jr aa
abbrev Laid (H:View):Prop:=Dw prog 0 1 2 H
def AO : String := (Rows.restModulesRow.laid.map (·.1)).getD 2 ""
def Fv:prog.globalNamed AO=some 0:=aa
def TF (b:View) (n:Int) (c : -9223372036854775808<=n) (a:n<=9223372036854775807) (w:World) (d:Le b w) (f:Laid b) :
   Calls prog 124 #[.int .i64 n] w λe w'=>e = .returned (st (Lib.itoa n))/\Ext w w':=
 (Any.strconv_Itoa Go.Proofs.Tryz.Tt n c a w (f.Dz d Fv)).mono λe w' h=>by
   obtain ⟨a,k,os,rfl⟩:=h;exact ⟨a,O9 w k os⟩
def TG (i:View) (s:List UInt8) (l:s.length<=4096) (w:World) (j:Le i w) (k:Laid i) :
   Calls prog 257 #[st s] w λe w'=>∃r:Value,e = .returned (.tuple #[.int .i64 (oN s),r])/\Ext w w'/\we r (tK s):=by
 have d:(ByteArray.mk s.toArray).size=s.length:=yg s
 cases h:Lib.atoiAll s with
 | ok v=>
   refine (Any.strconv_Atoi_ok Go.Proofs.Tryz.Fq ⟨s.toArray⟩ (by rw [d]; omega) v h w).mono λe w' a=>?_;obtain ⟨b,c⟩:=a;refine ⟨.nilIface,by simp only [oN,h]; exact b,?_,by simp [we,tK,h]⟩
   rcases c with rfl | ⟨t,rfl⟩
   · exact Fr.refl _ _
   · exact Ext.C8 (Lib.bytesWorld_below _ _ _)
 | range=>
   obtain ⟨f,hv,g⟩:=k.O7;refine (Any.strconv_Atoi_range Go.Proofs.Tryz.Fq ⟨s.toArray⟩ (by rw [d]; omega) h f w (j.cell hv) g).mono λe w' a=>?_;obtain ⟨N,b,_,_,c⟩:=a;exact ⟨_,by simp only [oN,h]; exact b,Ext.C8 c,by simp [we,tK,h]⟩
 | _=>
   obtain ⟨f,hv,g⟩:=k.O6;refine (Any.strconv_Atoi_syntax Go.Proofs.Tryz.Fq ⟨s.toArray⟩ (by rw [d]; omega) h f w (j.cell hv) g).mono λe w' a=>?_;obtain ⟨N,b,_,_,c⟩:=a;exact ⟨_,by simp only [oN,h]; exact b,Ext.C8 c,by simp [we,tK,h]⟩
def TH:prog.underlying 258=some (.interface (prog.methodsAt 258)):=aa
def y':dV prog 234=some 3:=aa
def TI (b:View) (s:List UInt8) (i:s.length<=4096) (w:World) (j:Le b w) (f:Laid b) :
   Calls prog 205 #[st s] w λe w'=>e = .returned (.tuple #[.agg #[.int .i64 (mZ s).1.kind,.int .i64 (mZ s).1.n,st (mZ s).1.text],.bool (mZ s).2])/\Ext w w':=by
 refine enter func205 O 33 O O ?_;refine CE (Vs:=[b]) (Ws.init (by simp [j])) (ac ?_);refine Al Y O vk λl=>?_;refine ai O (ad (Cs (ac (ab O (Lp Y O aK O (λw a=>jF _ w) (ad ?_))))));refine Cc O (λc=>?_) (λc=>?_)
 ·have d:mZ s=(⟨1,0,s⟩,true):=by rw [mZ,a8 c]
  refine ac (ab O (I (Yb vk Fu O O) (aT 0 Y O O O y' O O O (ai O (ad (aZ (Er ?_)))))));refine WE.mV 0 O O O O xo O λw' a=>?_;rw [d];exact ⟨O,a.fr⟩
 have d:=TD c;have h:=TC s;refine am (ac (ab O ?_));refine Ld Y O aK O (λr:Value=>.tuple #[.int .i64 (oN s),r]) (λ_ r=>we r (tK s)) (λw a=>TG b s i w a.V f) ?_;intro m o p k;refine ab O (I (Yx O O) (I (Yx O O) (ai O (ai O (ad (ac (ab O (I (Yb vk Fu O O) ?_))))))));refine ab O (I (O3 (tK s) TH O k) (ab O ?_));apply La 2 O O O O Y O O O O O
 ·intro q;refine Vg (Ym O) (Vg (ih O O) ?_);exact Gt 2 O O O
 refine ab O ?_;apply La 2 O O O O Y O O O O O
 ·intro t;refine Vg (Ym O) (Vg (lS O O) ?_);exact Gt 2 O O O
 refine ab O ?_;apply La 4 O O O O Y O O O O O
 ·intro u;refine Vg (Ym O) (Lp (.g O O O) O aK O (λw a=>TF b _ h.1 h.2 w a.V f) (Vg (Ym O) (Vg (mT O O) ?_)));exact Gt 4 O O O
 refine aT 0 Y O O O y' O O O (ai O (ad (aZ ?_)));refine WE.mV 0 O O O O xo O λw' a=>?_;rw [d];exact ⟨O,a.fr⟩
def TJ (k:View) (s:List UInt8) (w:World) (C:Le k w) (D:Laid k) :
   Calls prog 120 #[st s] w λe w'=>∃r:Option Addr×Nat,e = .returned (.tuple #[.slice r.1 (gm s).1.length r.2,.int .i64 (gm s).2])/\Ext w w'/\Sl dW 3 (nv w w') r.1 r.2 (gm s).1:=by
 refine enter func120 O 66 O O ?_;refine CE (Vs:=[k]) (Ws.init (by simp [C])) (ac (ai O (ai O (ad (Cs (ac (ab O (I (eJ aa O) (I (ed O O) ?_)))))))));refine ad ?_;refine Cc O (λp=>?_) (λp=>?_)
 ·have l:4096<s.length:=by simp at p; omega
  have c:gm s=([],2):=by rw [gm,a8 l]
  refine ac (ai O (ai O (ad (aZ (Er ?_)))));refine WE.fm (hX O (hV O) (hV O)) λw' a=>?_;rw [c];exact ⟨(none,0),O,a.fr,Sl.nil⟩
 have l:¬4096<s.length:=by simp at p; omega
 refine am (ac (ai O (LW (λ_ h=>h.g3 234 3) (ad (Cs (Cb ?_))))));refine e0 (ι:=List UInt8×List Tok×Option Addr×Nat) (λg=>[(0,st g.1),(4,.slice g.2.2.1 g.2.1.length g.2.2.2)]) [] (λg=>Ws w [] [cW 234 3 Tok.cells g.2.2.1 g.2.2.2 (g.2.1)] [k]) (λg=>g.2.1.length+g.1.length<=s.length/\k0 s=(k0 g.1).map (g.2.1++·)) (λg=>g.1.length) (s,[],none,0) ⟨au,au⟩ ag ?_;intro g ⟨R,d⟩;refine Cs (ac (ab O (I (rQ O O) (ad ?_))));refine Cc O (λn=>?_) (λn=>?_)
 ·obtain ⟨u,r,b⟩:∃u r,g.1=u::r:=by
    cases z:g.1 with
    | nil=>rw [z] at n; simp at n
    | cons u r=>exact ⟨u,r,rfl⟩
  have S:g.1.length=r.length+1:=by rw [b]; rfl
  refine am (Cb (ac (ai O (ad (Cs (Cb ?_))))));refine fT (ι:=Nat) (λi=>[(5,.int .i64 (i:Int))]) [(0,_),(4,_)] (λi=>i<=g.1.length/\∀j,j<i->lu (g.1[j]?.getD 0)=true) (λi=>g.1.length-i) 0 ⟨cx _,au⟩ ?_;intro i ⟨hi,A⟩;refine Cs (ac (ab O (ab O (I (eJ aa O) (I (cy O O) (ab O ?_))))));apply La 4 O O O O Y O O O O O
  ·intro E
   have B:i<g.1.length:=by simpa using E
   have F:=vi B;refine Vg (Ym O) (Vg (Ym O) (Vg (sU aa O O F) (Lp (.g O O O) O aK O (λw a=>Lj _ w) ?_)));exact Gt 4 O O O
  refine ad ?_;refine Cc O (λf=>?_) (λf=>?_)
  ·have B:i<g.1.length:=by
     simp only [ew,sP] at f;omega
   have G:lu (g.1[i]?.getD 0)=true:=by
     simp only [ew] at f;exact f.2
   refine am (Cb (Cr (ab O (I (Yi O O O Z) (ai O (Ln (Eb ?_)))))));exact ct (i+1) Z ⟨Z,λj H=>by rcases gT.1 H with h | rfl; exact A j h; exact G⟩ ag
  have q:js g.1=i:=by
    refine H1 _ _ hi A ?_
    rcases lm i g.1.length with h | h
    · right
      rw [jo (by omega:((i:Nat):Int)<(g.1.length:Int)),n6] at f;exact f
    · left; omega
  have J:g.1[0]? = some u:=by rw [b]; rfl
  refine Ce (Ex (Ex (cU (Et (Cs (ac (ab O (I (sU aa O O (i:=0) J) (ai O (ad (Cb (ac (ab O (I (ed O O) ?_))))))))))))));refine ai O (ad ?_);refine Cc O (λt=>?_) (λt=>?_)
  ·have T:0<i:=by simp at t; omega
   refine ac (ab O (ab O (I (xM underlying9 O O Z Z) ?_)));rw [sL];refine Lp Y O aK O (λw a=>TI k _ (by simp; omega) w a.V D) (ab O (I (Yx O O) (I (Yx O O) ?_)));refine Al Y O vk λU=>?_;refine aT 0 Y O O O y' O O O (ai O (ad (Cs (ac (ab O (I (eR O) (ad ?_)))))));refine Cc O (λv=>?_) (λv=>?_)
   ·have c:gm s=([],1):=Ll d (by rw [DC Z,q,H_,av (by simpa using v)]) l;refine ac (ai O (ai O (ad (aZ (Er (cf (Er (cf (Er (cf (Er ?_)))))))))));refine WE.fm (hX O (hV O) (hV O)) λw' a=>?_;rw [c];exact ⟨(none,0),O,a.fr,Sl.nil⟩
   have K:s8 (g.1.take i)=some ((mZ (g.1.take i)).1):=by rw [H_,a8 (by simpa using v)]
   refine am (ac (ab O (I (cI 0 O O xo O) ?_)));refine Lb Y O BL O O O O λW=>?_;refine dn 0 (.cells (Tok.cells ((mZ (g.1.take i)).1)).toArray 234 (0,0)) O O ?_;refine LA ((mZ (g.1.take i)).1) 2 0 Y O BL O O O O O O Z Z λL M=>?_;refine ai O (ad (ac (ab O (ab O (I (Dm underlying9 O O Z Z) ?_)))));rw [sL];refine ai O (ad (Ce (G9 O (Ex (cU ?_)))))
   exact ct ((g.1.drop i,g.2.1++[(mZ (g.1.take i)).1],L,M):List UInt8×List Tok×Option Addr×Nat) (by dsimp only; simp; omega) ⟨by dsimp only; simp; omega,by
       dsimp only;rw [d,DC Z,q,K];simp only
       rw [Lm]⟩ (λ_ h=>Wd 2 h)
  have x:js (u::r)=0:=by rw [<-b,q]; simp at t; omega
  refine ac (ab O (Lp Y O aK O (λw a=>TA _ w) (ai O (ad ?_))));refine Cc O (λo=>?_) (λo=>?_)
  ·refine Cr (ab O (ab O (I (xM underlying9 O O Z Z) ?_)));rw [show g.1.take (1:Int).toNat=[u] by rw [b]; rfl];refine I (Yb vk Fu O O) ?_;refine Lb Y O BL O O O O λX=>?_;refine dn 0 (.cells (Tok.cells (Tok.mk 3 0 [u])).toArray 234 (0,0)) O O ?_;refine LA (Tok.mk 3 0 [u]) 1 0 Y O BL O O O O O O Z Z λN P=>?_;refine ai O (Ln (Eb (Et (Cr (ab O (I (Dm underlying9 O O Z Z) ?_))))));rw [show g.1.drop (1:Int).toNat=r by rw [b]; rfl];refine ai O (Ln (Eb ?_))
   exact ct ((r,g.2.1++[Tok.mk 3 0 [u]],N,P):List UInt8×List Tok×Option Addr×Nat) (by dsimp only; omega) ⟨by dsimp only; simp; omega,by
       dsimp only
       rw [d,b,H3 x (by simpa using o),Lm]⟩ (λ_ h=>Wd 1 h)
  refine ac (ab O (I (fh O O) (ab O ?_)));apply La 2 O O O O Y O O O O O
  ·intro z;refine Vg (Ym O) (Vg (fh O O) ?_);exact Gt 2 O O O
  refine ai O (ad ?_);refine Cc O (λm=>?_) (λm=>?_)
  ·have y:¬(u=32\/u=10):=by
     rintro (h | h)<;>rw [h] at m<;>simp at m
   have c:gm s=([],1):=Ll d (by rw [b,H5 x (by simpa using o) y]) l;refine ac (ai O (ai O (ad (aZ (cf (Er (cf (Er (cf (Er ?_))))))))));refine WE.fm (hX O (hV O) (hV O)) λw' a=>?_;rw [c];exact ⟨(none,0),O,a.fr,Sl.nil⟩
  have y:u=32\/u=10:=by
    simp only [bne,Bool.and_eq_false_iff,C1,kW] at m
    rcases m with h | h
    · left; exact toNat_inj (by simpa using h)
    · right; exact toNat_inj (by simpa using h)
  refine Ck (Eb (Et (Cr (ab O (I (Dm underlying9 O O Z Z) ?_)))));rw [show g.1.drop (1:Int).toNat=r by rw [b]; rfl];refine ai O (Ln (Eb ?_))
  exact ct ((r,g.2.1,g.2.2.1,g.2.2.2):List UInt8×List Tok×Option Addr×Nat) (by dsimp only; omega) ⟨by dsimp only; omega,by
      dsimp only
      rw [d,b,H4 x (by simpa using o) y]⟩ ag
 have Q:g.1=[]:=by simpa using n
 have c:gm s=(g.2.1,0):=by
   rw [Q] at d;exact TE d l
 refine Ce (Ex (Ex (cU (Et (ac (ab O (ai O (ai O (ad (aZ ?_))))))))));refine WE.fm (hX O (hV O) (hV O)) λw' a=>?_;rw [c];exact ⟨(g.2.2.1,g.2.2.2),O,a.fr,a.ls 0 O Tok.dk eZ⟩
abbrev kI:Int->Value:=λn:Int=>Value.int .i64 n
def vS (r:Bool) (a:Int):Value:=.agg #[.bool r,.int .i64 a]
def lK (n:Nat):List (fu Int):=[(1,vS false 0,0),(2,vS false 0,1),(3,vS true 0,2),(4,vS true 1,3),(5,vS true (-1),4),(6,vS false 1,5)]++(List.range n).map λj=>(((7+j:Nat):Int),vS false 2,6+j)
def nT:List (fu Int):=[(1,vS true 1,0),(2,vS true 2,1),(3,vS true (-1),2),(4,vS false 1,3),(5,vS false 1,4),(6,vS false 1,5),(7,vS false 1,6)]
def TK (n:Nat) (h:n<9):dy kI (gw ((7+n:Nat):Int) (vS false 2) (lK n) (6+n)) (lY ((7+n:Nat):Int) (lK n) (6+n))=dy kI (lK (n+1)) (6+(n+1)):=by
 match n,h with
 | 0,_=>rfl
 | 1,_=>rfl
 | 2,_=>rfl
 | 3,_=>rfl
 | 4,_=>rfl
 | 5,_=>rfl
 | 6,_=>rfl
 | 7,_=>rfl
 | 8,_=>rfl
def AP (op:Int):hY op (lK 9) (vS false 0)=vS ((fv op).getD (false,0)).1 ((fv op).getD (false,0)).2/\p3 op (lK 9) = !(fv op).isNone:=by
 by_cases e:op=1
 · subst e; exact ⟨rfl,rfl⟩
 by_cases f:op=2
 · subst f; exact ⟨rfl,rfl⟩
 by_cases a:op=3
 · subst a; exact ⟨rfl,rfl⟩
 by_cases b:op=4
 · subst b; exact ⟨rfl,rfl⟩
 by_cases c:op=5
 · subst c; exact ⟨rfl,rfl⟩
 by_cases d:op=6
 · subst d; exact ⟨rfl,rfl⟩
 by_cases g:op=7
 · subst g; exact ⟨rfl,rfl⟩
 by_cases h:op=8
 · subst h; exact ⟨rfl,rfl⟩
 by_cases i:op=9
 · subst i; exact ⟨rfl,rfl⟩
 by_cases j:op=10
 · subst j; exact ⟨rfl,rfl⟩
 by_cases k:op=11
 · subst k; exact ⟨rfl,rfl⟩
 by_cases l:op=12
 · subst l; exact ⟨rfl,rfl⟩
 by_cases m:op=13
 · subst m; exact ⟨rfl,rfl⟩
 by_cases n:op=14
 · subst n; exact ⟨rfl,rfl⟩
 by_cases o:op=15
 · subst o; exact ⟨rfl,rfl⟩
 have p:fv op=none:=by
   unfold fv;rw [av Z,av a,av b,av c,av d,av Z]
 have q:d' op (lK 9) 0=none:=by
   show d' op [(1,vS false 0,0),(2,vS false 0,1),(3,vS true 0,2),(4,vS true 1,3),(5,vS true (-1),4),(6,vS false 1,5),(7,vS false 2,6),(8,vS false 2,7),(9,vS false 2,8),(10,vS false 2,9),(11,vS false 2,10),(12,vS false 2,11),(13,vS false 2,12),(14,vS false 2,13),(15,vS false 2,14)] 0=none
   simp [d',e,f,a,b,c,d,g,h,i,j,k,l,m,n,o]
 rw [hY,p3,q,p];exact ⟨O,O⟩
def AV (op:Int):hY op nT (vS false 0)=vS ((eM op).getD (false,0)).1 ((eM op).getD (false,0)).2/\p3 op nT = !(eM op).isNone:=by
 by_cases a:op=1
 · subst a; exact ⟨rfl,rfl⟩
 by_cases b:op=2
 · subst b; exact ⟨rfl,rfl⟩
 by_cases c:op=3
 · subst c; exact ⟨rfl,rfl⟩
 by_cases d:op=4
 · subst d; exact ⟨rfl,rfl⟩
 by_cases e:op=5
 · subst e; exact ⟨rfl,rfl⟩
 by_cases f:op=6
 · subst f; exact ⟨rfl,rfl⟩
 by_cases g:op=7
 · subst g; exact ⟨rfl,rfl⟩
 have h:eM op=none:=by
   unfold eM;rw [av a,av b,av c,av Z]
 have i:d' op nT 0=none:=by simp [nT,d',a,b,c,d,e,f,g]
 rw [hY,p3,i,h];exact ⟨O,O⟩
def Lq:∀a b:List Tx,ck (a++b)=ck a+ck b
 | [],b=>by apply bi.ext'<;>simp [bi.i_,bi.ja,bi.gF,ck,c0]
 | x::a,b=>by
   rw [bt,show ∀q,ck (x::q)=fe (!fo x)+ck q from λ_=>rfl,Lq a b,show ∀q,ck (x::q)=fe (!fo x)+ck q from λ_=>rfl,bi.iy]
def TL (s:Tx):ck [s]=fe (!fo s):=rfl
variable {eG:List Tx} {bZ:Tx}
def TM (h:eG[ae]? = some bZ):ck (eG.take (ae+1))=ck (eG.take ae)+fe (!fo bZ):=by rw [j2 h,Lq,TL]
def xp (c:bi):c+c0=c:=rfl
def TN (c:bi):c.f<=c.b6:=by unfold bi.b6; omega
def TO (c:bi):c.m<=c.b6:=by unfold bi.b6; omega
def TP (c:bi):c.k<=c.b6:=by unfold bi.b6; omega
abbrev vl:Nat->Nat->List ah:=λ_ _=>[]
abbrev Lr:Nat->Nat->List ah:=(λa bs=>[aE a (dy kI (lK 9) 15),aE bs (dy kI nT 7)])
def rp (f:FuncId) (vs:List Value) (h:List View) (d:Nat->Nat->List ah) (i B:Nat) (g:bi):Prop:=Enters prog f/\∀(b a bs:Nat) (c:bi) (w:World),c.b6+i<=B->Ws w (b::(d a bs).flatMap ah.ids) (aE b (.cells #[.int .i64 0,.int .i64 ((c).f:Int),.int .i64 ((c).m:Int),.int .i64 0,.int .i64 ((c).k:Int),.int .i64 0,.int .i64 0,.int .i64 0,.int .i64 0,.int .i64 0,.map (some a),.map (some bs)] 252 (0,0))::d a bs) h w->
 Calls prog f (.pointer (some ⟨b,0,none⟩)::vs).toArray w λe w'=>e = .returned (.tuple #[])/\Ws w (b::(d a bs).flatMap ah.ids) (aE b (.cells #[.int .i64 0,.int .i64 ((c+g).f:Int),.int .i64 ((c+g).m:Int),.int .i64 0,.int .i64 ((c+g).k:Int),.int .i64 0,.int .i64 0,.int .i64 0,.int .i64 0,.int .i64 0,.map (some a),.map (some bs)] 252 (0,0))::d a bs) h w'
def hs {ops:Array Oper} {Q:Exit->Act->World->Prop} {n:Nat} {ds:List Deferred} {l:List (Nat×Value)} {p:World} {F:List Nat} {L L2:List ah} {Vs:List View} {rest:List Oper} {d:Nat} {ty:TypeId} {pos:String} {af:Array Edge} {g:Option (Nat×Bool)} {args:Array Operand} {ts:Array TypeId} {i a bs:Nat} {c:bi} {f:FuncId} {vs:List Value} {o:List View} {j:Nat->Nat->List ah} {q B:Nat} {b:bi}
   (hC:rp f vs o j q B b) (r:WL prog ops Q n ds ((d,.tuple #[])::l) (Ws p F (aE i (.cells #[.int .i64 0,.int .i64 ((c+b).f:Int),.int .i64 ((c+b).m:Int),.int .i64 0,.int .i64 ((c+b).k:Int),.int .i64 0,.int .i64 0,.int .i64 0,.int .i64 0,.int .i64 0,.map (some a),.map (some bs)] 252 (0,0))::(j a bs++L2)) Vs) rest)
   (s:g2 l args.toList=some (.pointer (some ⟨i,0,none⟩)::vs):=by rfl) (hL:L=aE i (.cells #[.int .i64 0,.int .i64 ((c).f:Int),.int .i64 ((c).m:Int),.int .i64 0,.int .i64 ((c).k:Int),.int .i64 0,.int .i64 0,.int .i64 0,.int .i64 0,.int .i64 0,.map (some a),.map (some bs)] 252 (0,0))::(j a bs++L2):=by rfl) (t:c.b6+q<=B:=by first | omega | (simp only [bi.eO,b5,b8]; omega)) (u:∀H ∈ o,H ∈ Vs:=by simp) (v:dI ops l g:=by first | exact .inl rfl | exact .inr ⟨_,_,_,rfl,rfl,rfl⟩) (x:Nat.blt d n=true:=by rfl) :
   WL prog ops Q n ds l (Ws p F L Vs) (⟨some d,.call ⟨.value (.func f),args,ts⟩,ty,pos,af,g⟩::rest):=
 Lw (ι:=Unit) (aE i (.cells #[.int .i64 0,.int .i64 ((c).f:Int),.int .i64 ((c).m:Int),.int .i64 0,.int .i64 ((c).k:Int),.int .i64 0,.int .i64 0,.int .i64 0,.int .i64 0,.int .i64 0,.map (some a),.map (some bs)] 252 (0,0))::j a bs) L2 v x hC.1 s hL (λ_=>.tuple #[]) (λ_=>aE i (.cells #[.int .i64 0,.int .i64 ((c+b).f:Int),.int .i64 ((c+b).m:Int),.int .i64 0,.int .i64 ((c+b).k:Int),.int .i64 0,.int .i64 0,.int .i64 0,.int .i64 0,.int .i64 0,.map (some a),.map (some bs)] 252 (0,0))::j a bs) (λ_=>True) o u (λw y=>(hC.2 i a bs c w t y).mono λe w' h=>⟨(),h.1,trivial,h.2⟩) (λ_ _=>r)
def ei:hc prog 22 9 (st []) 1 16:=jr aa
def dT:ga prog 22=some 1:=aa
def nU:hx prog 343=some [(0,1),(1,1)]:=aa
def lL:zeroOf prog 343=some (.agg #[.bool false,.int .i64 0]):=aa
def mJ:prog.underlying 248=some (.map 3 343):=aa
def mixed:prog.follows .mixedOrders=true:=aa
def vm:cJ prog 252 0=some 0:=aa
def vn:uw prog 250=some (10,1):=aa
def dr:dV prog 3=some 1:=aa
def TQ (w:World) :
   Calls prog 271 #[] w λe w'=>∃r:Option Addr×Nat,e = .returned (.slice r.1 kb.length r.2)/\Ext w w'/\Sl rdStr 1 (nv w w') r.1 r.2 kb:=by
 refine enter func271 O 2 O O ?_;refine CE (Vs:=[]) (Ws.init au) (ac (ai O (ad (ac ?_))));refine Lb Y O ei O O O O λa=>?_;refine ai O (ad (aZ ?_));refine WE.fm (hW O (hV O)) λw' b=>?_
 exact ⟨(some ⟨a,0,none⟩,15),O,b.fr,⟨show kb.length<=15 by decide,show 15<=9223372036854775807 by decide,au,λj x d=>⟨a,0,O,λk v c=>b.yc 0 O (by
     have:k<1:=(cS.1 c).1
     show (kb.flatMap eE)[0+j*1+k]? = some v
     rw [gC,kZ iM d this]; exact c)⟩⟩⟩
def TR (H:View) (a:Option Addr) (c:Nat) (l:List Tx) (s:Tx) (w:World) (q:Le H w) (d:Sl rdStr 1 H a c l) :
   Calls prog 325 #[.slice a l.length c,st s] w λe w'=>(∃n:Int,e = .returned (.int .i64 n)/\decide (0<=n)=l.contains s)/\Ext w w':=by
 have A:=d.cap;have B:=d.max;refine enter func325 O 19 O O ?_;refine CE (Vs:=[H]) (Ws.init (by simp [q])) (ac (ai O (ad (Cs (ac (ab O (I (Yn dT O) (ab O (ad (Cb ?_))))))))));refine fT (ι:=Nat) (λi=>[(8,.int .i64 (i:Int))]) [(0,_),(1,_),(7,_)] (λi=>i<=l.length/\∀j,j<i->l[j]?≠some s) (λi=>l.length-i) 0 ⟨cx _,au⟩ ?_;intro i ⟨hi,p⟩;refine ac (I (cy O O) (ad (Cs ?_)));refine Cc O (λf=>?_) (λf=>?_)
 ·have r:i<l.length:=by simpa using f
  obtain ⟨x,g⟩:=dw r;obtain ⟨t,u,C,k⟩:=d.aq i x g;have k:cw H t (u+i*1) (eE x):=k;refine am (Cs (Cb (ac (ab O (ai O (ad (ac (ab O (ab O (ab O (I (Yo dT O O sH Z) ?_)))))))))));refine I (cC 0 aa O O (k 0 _ O)) (I (mT O O) (ad ?_));refine Cc O (λm=>?_) (λm=>?_)
  ·have v:s=x:=by simpa using m
   refine ac (ab O (ai O (ad (aZ (cf (Er (Er (cf (Er ?_)))))))));refine R1 O O λw' o=>?_;refine ⟨⟨_,O,?_⟩,o.fr⟩;rw [jo Z,vQ.2 (by rw [v]; exact gu g)]
  have y:¬s=x:=by simpa using m
  refine Ck (Eb (Et (Cr (I (Yi O O O Z) (ab O (Ln ?_))))));exact ct (i+1) Z ⟨Z,λj b=>by rcases gT.1 b with h | rfl; exact p j h; rw [g]; intro e; injection e with e; exact y e.symm⟩ ag
 have D:¬i<l.length:=by simpa using f
 have z:l.contains s=false:=by
   rw [vP];intro h;rw [vQ] at h;obtain ⟨j,b⟩:=ln h;exact p j (by have:=(cS.1 b).1; omega) b
 refine Ce (Ex (Ex (cU (Et (ac (ai O (ad (aZ ?_))))))));refine R1 O O λw' o=>?_;refine ⟨⟨_,O,?_⟩,o.fr⟩;rw [z]; rfl
def TS (H:View) (a:Option Addr) (c:Nat) (l:List Tx) (s:Tx) (w:World) (d:Le H w) (f:Sl rdStr 1 H a c l) :
   Calls prog 270 #[.slice a l.length c,st s] w λe w'=>e = .returned (.bool (l.contains s))/\Ext w w':=by
 refine enter func270 O 9 O O ?_;refine CE (Vs:=[H]) (Ws.init (by simp [d])) (ac (ai O (ad (ac (ab O (ab O ?_))))))
 refine Ld Y O aK O (λn:Int=>.int .i64 n) (λ_ n=>decide (0<=n)=l.contains s) (λw b=>(TR H a c l s w b.V f).mono λe w' h=>by
     obtain ⟨⟨n,g,i⟩,j⟩:=h
     exact ⟨n,g,j,i⟩) ?_
 intro m o p k;refine I (ih O O) (ai O (ad (aZ ?_)));refine R1 O O λw' b=>?_;exact ⟨by rw [k],b.fr⟩
def BM (s:Tx) (w:World) :
   Calls prog 230 #[st s] w λe w'=>e = .returned (.bool (fo s))/\Ext w w':=by
 refine enter func230 O 11 O O ?_;refine CE (Vs:=[]) (Ws.init au) (ac (ai O (ad (ac (ab O (Lp Y O aK O (λw a=>jF _ w) (ab O ?_)))))));apply La 4 O O O O Y O O O O O
 ·intro i;refine Ld (.g O O O) O aK O (λr:Option Addr×Nat=>.slice r.1 kb.length r.2) (λH r=>Sl rdStr 1 H r.1 r.2 kb) (λw a=>TQ w) ?_;intro c b j d;refine Vg (Ym O) (Lp (.g O O O) O aK O (λw a=>TS c b.1 b.2 kb s w a.V d) (Vg (eR O) ?_));refine WL.wk ?_ (Gt 4 O O O);exact λ_ h=>Ws.cK (h) (λ_ f=>eh [_] f)
 refine ai O (ad (aZ ?_));refine R1 O O λw' a=>?_;exact ⟨O,a.fr⟩
def TT (w:World) :
   Calls prog 134 #[] w λe w'=>∃b:Nat,e = .returned (.map (some b))/\Ws w [] [aE b (dy kI (lK 9) 15)] [] w':=by
 refine enter func134 O 19 O O ?_;refine CE (Vs:=[]) (Ws.init au) (ac (ai O (ad (ac ?_))));refine WL.rY (λn:Int=>Value.int .i64 n) Y O λa=>?_;refine I (Yb lL nU O O) ?_;refine WL.og 0 mm Y mJ kk O O O O ?_;refine I (Yb lL nU O O) ?_;refine WL.og 0 mm Y mJ kk O O O O ?_;refine I (Yb lL nU O O) ?_;refine WL.og 0 mm Y mJ kk O O O O ?_;refine I (Yb lL nU O O) ?_;refine WL.og 0 mm Y mJ kk O O O O ?_;refine I (Yb lL nU O O) ?_;refine WL.og 0 mm Y mJ kk O O O O ?_;refine I (Yb lL nU O O) ?_;refine WL.og 0 mm Y mJ kk O O O O ?_;refine ab O (dn 0 (dy kI (lK 0) (6+0)) O O (ai O (ad (Cs (ac (ai O (ad (Cb ?_))))))));refine e0 (ι:=Nat) (λi=>[(2,.int .i64 ((7+i:Nat):Int))]) [(0,_),(1,_)] (λi=>Ws w [] [aE a (dy kI (lK i) (6+i))] []) (λi=>i<=9) (λi=>9-i) 0 (cx _) ag ?_;intro i hi;refine Cs (ac (ab O (I (lS O O) (ad ?_))));refine Cc O (λc=>?_) (λc=>?_)
 ·have d:i<9:=by simp at c; omega
  refine am (Cs (Cb (Cr (ab O (ab O (I (Yb lL nU O O) ?_))))));refine WL.wg 0 mm Y mJ kk O O O O ?_;refine Ln (Eb (Et (Cr (ab O (I (uq (((7+i:Nat):Int)+1) O O O Z) (ai O (Ln ?_)))))));rw [show (((7+i:Nat):Int)+1)=((7+(i+1):Nat):Int) by omega]
  exact ct (i+1) Z Z (λ_ h=>by
    have h:=Ws.oe h 0 rfl (congrArg (aE a) (TK i d))
    exact h)
 have f:i=9:=by simp at c; omega
 subst f;refine Ce (Ex (Ex (cU (Et (ac (ab O (ai O (ad (aZ ?_)))))))));refine WE.fm (hW O (hV O)) λw' g=>?_;exact ⟨a,O,g⟩
def TU (w:World) :
   Calls prog 135 #[] w λe w'=>∃b:Nat,e = .returned (.map (some b))/\Ws w [] [aE b (dy kI nT 7)] [] w':=by
 refine enter func135 O 10 O O ?_;refine CE (Vs:=[]) (Ws.init au) (ac (ai O (ad (ac ?_))));refine WL.rY (λn:Int=>Value.int .i64 n) Y O λa=>?_;refine I (Yb lL nU O O) ?_;refine WL.og 0 mm Y mJ kk O O O O ?_;refine I (Yb lL nU O O) ?_;refine WL.og 0 mm Y mJ kk O O O O ?_;refine I (Yb lL nU O O) ?_;refine WL.og 0 mm Y mJ kk O O O O ?_;refine I (Yb lL nU O O) ?_;refine WL.og 0 mm Y mJ kk O O O O ?_;refine I (Yb lL nU O O) ?_;refine WL.og 0 mm Y mJ kk O O O O ?_;refine I (Yb lL nU O O) ?_;refine WL.og 0 mm Y mJ kk O O O O ?_;refine I (Yb lL nU O O) ?_;refine WL.og 0 mm Y mJ kk O O O O ?_;refine ab O (ai O (ad (aZ ?_)));refine WE.fm (hW O (hV O)) λw' c=>?_;exact ⟨a,O,c⟩
def tL (b:Bool):rp 137 [.bool b,.int .i64 1] [] vl (0) 4611686018427387904 (fe b):=by
 refine ⟨aK,λf g bs c w j a=>?_⟩;have k:=TN c;refine enter func137 O 17 O O ?_;refine CE a (ac (ab O (ad ?_)));refine Cc O (λe=>?_) (λe=>?_)
 ·subst e;refine WC.gW 0 [(0,true),(1,true),(2,true),(3,true),(4,true),(7,true),(8,true),(5,false),(6,true),(9,true),(10,false)] mixed aa (λ_ _ _ d _ h=>by cases d<;>exact h) ?_;refine D0 O (Wp 0) (Ym O) (D0 O (Wp 0) (Ym O) (D0 O (Wp 0) (bV O) (D0 O (Wp 0) (Yf vm O) (D0 O (Wp 0) (ux (i:=1) vn O O bf) (D0 O (Wp 0) (bV O) (D0 O (Wp 0) (Yf vm O) ?_))))));refine De O (Wp 0) ?_;refine I (Yd 0 O O O aa) (Ln (Ed (D0 O (Wp 0) (Yi O O O Z) (D0 O (Wp 0) (ux (i:=1) vn O O bf) ?_))));refine De O (Wp 0) ?_;refine aT 0 Y O O O dr O O O (Ln (Ed ?_));refine WD.nil (Wp 0) ?_;refine E0 O λw' a=>?_;exact ⟨O,a⟩
 subst e;refine Ck ?_;refine E0 O λw' a=>?_;exact ⟨O,a⟩
def xq (b:Bool):rp 137 [.bool b,.int .i64 2] [] vl (0) 4611686018427387904 (dz b):=by
 refine ⟨aK,λf g bs c w j a=>?_⟩;have k:=TO c;refine enter func137 O 17 O O ?_;refine CE a (ac (ab O (ad ?_)));refine Cc O (λe=>?_) (λe=>?_)
 ·subst e;refine WC.gW 0 [(0,true),(1,true),(2,true),(3,true),(4,true),(7,true),(8,true),(5,false),(6,true),(9,true),(10,false)] mixed aa (λ_ _ _ d _ h=>by cases d<;>exact h) ?_;refine D0 O (Wp 0) (Ym O) (D0 O (Wp 0) (Ym O) (D0 O (Wp 0) (bV O) (D0 O (Wp 0) (Yf vm O) (D0 O (Wp 0) (ux (i:=2) vn O O bf) (D0 O (Wp 0) (bV O) (D0 O (Wp 0) (Yf vm O) ?_))))));refine De O (Wp 0) ?_;refine I (Yd 0 O O O aa) (Ln (Ed (D0 O (Wp 0) (Yi O O O Z) (D0 O (Wp 0) (ux (i:=2) vn O O bf) ?_))));refine De O (Wp 0) ?_;refine aT 0 Y O O O dr O O O (Ln (Ed ?_));refine WD.nil (Wp 0) ?_;refine E0 O λw' a=>?_;exact ⟨O,a⟩
 subst e;refine Ck ?_;refine E0 O λw' a=>?_;exact ⟨O,a⟩
def Fw (b:Bool):rp 137 [.bool b,.int .i64 4] [] vl (0) 4611686018427387904 (a7 b):=by
 refine ⟨aK,λf g bs c w j a=>?_⟩;have k:=TP c;refine enter func137 O 17 O O ?_;refine CE a (ac (ab O (ad ?_)));refine Cc O (λe=>?_) (λe=>?_)
 ·subst e;refine WC.gW 0 [(0,true),(1,true),(2,true),(3,true),(4,true),(7,true),(8,true),(5,false),(6,true),(9,true),(10,false)] mixed aa (λ_ _ _ d _ h=>by cases d<;>exact h) ?_;refine D0 O (Wp 0) (Ym O) (D0 O (Wp 0) (Ym O) (D0 O (Wp 0) (bV O) (D0 O (Wp 0) (Yf vm O) (D0 O (Wp 0) (ux (i:=4) vn O O bf) (D0 O (Wp 0) (bV O) (D0 O (Wp 0) (Yf vm O) ?_))))));refine De O (Wp 0) ?_;refine I (Yd 0 O O O aa) (Ln (Ed (D0 O (Wp 0) (Yi O O O Z) (D0 O (Wp 0) (ux (i:=4) vn O O bf) ?_))));refine De O (Wp 0) ?_;refine aT 0 Y O O O dr O O O (Ln (Ed ?_));refine WD.nil (Wp 0) ?_;refine E0 O λw' a=>?_;exact ⟨O,a⟩
 subst e;refine Ck ?_;refine E0 O λw' a=>?_;exact ⟨O,a⟩
def Fx:∀l:List Tx,(ck l).b6<=l.length
 | []=>eH _
 | s::r=>by
   have:=Fx r; have:=mr (!fo s);rw [show ck (s::r)=fe (!fo s)+ck r from rfl,bi.eO,b5];omega
def vo (n:Nat):decide ((3:Int)<(n:Int))=decide (3<n):=by rw [j9]; simp; omega
def Ls (x:ak) (d:Nat):hB x d=if 6<d then ⟨0,1,0⟩ else a7 (fv x.op).isNone+fV ((fv x.op).getD (false,0)) x.mod x.nm x.args.length+fe (jt x.op x.n)+ek x.args (d+1):=by
 cases x; rw [hB]; rfl
def Lt (d:Nat):∀a b:List ak,ek (a++b) d=ek a d+ek b d
 | [],b=>by apply bi.ext'<;>simp [bi.i_,bi.ja,bi.gF,ek,c0]
 | x::a,b=>by
   rw [bt,show ∀q,ek (x::q) d=hB x d+ek q d from λq=>by rw [ek],Lt d a b,show ∀q,ek (x::q) d=hB x d+ek q d from λq=>by rw [ek],bi.iy]
variable {ax:List ak} {bH:ak}
def Lu (d:Nat) (h:ax[ae]? = some bH):ek (ax.take (ae+1)) d=ek (ax.take ae) d+hB bH d:=by
 rw [j2 h,Lt,show ek [bH] d=hB bH d+c0 by rw [ek,ek],xp]
def Ba:∀(l:List ak) (i:Nat),ff (l.take i)<=ff l
 | [],i=>by simp
 | x::r,0=>by simp [ff]
 | x::r,i+1=>by have:=Ba r i; simp only [hD,ff]; omega
def B7 (h:ax[ae]? = some bH):ff (ax.take ae)+wE bH<=ff ax:=by
 have c:=Ba ax (ae+1);rw [j2 h] at c
 have:∀a b:List ak,ff (a++b)=ff a+ff b:=by
   intro a b
   induction a with
   | nil=>simp [ff]
   | cons y a d=>simp only [bt,ff,d]; omega
 rw [this] at c;simp only [ff] at c;omega
def BN (x:bE) (d:Nat):iz x d=a7 (eM x.op).isNone+fV ((eM x.op).getD (false,0)) x.mod x.nm x.args.length+ek x.args 1+fe (kA x.op x.body.length x.other.length)
     + (if (inner x.op||decide (0<x.body.length))=true then eS x.body (d+1) else c0)+(if 0<x.other.length then eS x.other (d+1) else c0):=by
 cases x; rw [iz]; rfl
def Lx (d:Nat):∀a b:List bE,dF (a++b) d=dF a d+dF b d
 | [],b=>by apply bi.ext'<;>simp [bi.i_,bi.ja,bi.gF,dF,c0]
 | x::a,b=>by
   rw [bt,show ∀q,dF (x::q) d=iz x d+dF q d from λq=>by rw [dF],Lx d a b,show ∀q,dF (x::q) d=iz x d+dF q d from λq=>by rw [dF],bi.iy]
variable {cD:List bE} {dA:bE}
def BO (d:Nat) (h:cD[ae]? = some dA):dF (cD.take (ae+1)) d=dF (cD.take ae) d+iz dA d:=by
 rw [j2 h,Lx,show dF [dA] d=iz dA d+c0 by rw [dF,dF],xp]
def Ly:∀(l:List bE) (i:Nat),dP (l.take i)<=dP l
 | [],i=>by simp
 | x::r,0=>by simp [dP]
 | x::r,i+1=>by have:=Ly r i; simp only [hD,dP]; omega
def TV (h:cD[ae]? = some dA):dP (cD.take ae)+wS dA<=dP cD:=by
 have c:=Ly cD (ae+1);rw [j2 h] at c
 have:∀a b:List bE,dP (a++b)=dP a+dP b:=by
   intro a b
   induction a with
   | nil=>simp [dP]
   | cons y a d=>simp only [bt,dP,d]; omega
 rw [this] at c;simp only [dP] at c;omega
def rq:cJ prog 109 1=some 1:=aa
def lM:cJ prog 109 0=some 0:=aa
def mK:cJ prog 109 3=some 3:=aa
def Lz:cJ prog 343 0=some 0:=aa
def Cn:cJ prog 343 1=some 1:=aa
variable {bc:View} {cj:Option Addr}
def xr (b:Sl rdStr 1 bc cj ae eG):rp 136 [.slice cj eG.length ae] [bc] vl (eG.length) 4611686018427387904 (ck eG):=by
 refine ⟨aK,λg j bs c w r a=>?_⟩;have s:=b.cap;have t:=b.max;refine enter func136 O 18 O O ?_;refine CE a (ac (ab O (I (Yn dT O) (ab O (ad (Cb ?_))))));refine e0 (ι:=Nat) (λi=>[(8,.int .i64 (i:Int))]) [(0,_),(6,_),(7,_)] (λi=>Ws w [g] [aE g (.cells #[.int .i64 0,.int .i64 ((c+ck (eG.take i)).f:Int),.int .i64 ((c+ck (eG.take i)).m:Int),.int .i64 0,.int .i64 ((c+ck (eG.take i)).k:Int),.int .i64 0,.int .i64 0,.int .i64 0,.int .i64 0,.int .i64 0,.map (some j),.map (some bs)] 252 (0,0))] [bc]) (λi=>i<=eG.length) (λi=>eG.length-i) 0 (cx _) ag ?_;intro i hi;refine ac (I (cy O O) (ad (Cs ?_)));refine Cc O (λd=>?_) (λd=>?_)
 ·have l:i<eG.length:=by simpa using d
  obtain ⟨x,h⟩:=dw l;obtain ⟨n,o,u,e⟩:=b.aq i x h;have e:cw bc n (o+i*1) (eE x):=e
  have p:c+ck (eG.take i)+fe (!fo x)=c+ck (eG.take (i+1)):=by rw [TM h,bi.iy]
  have v:(c+ck (eG.take i)).b6<=4611686018427387904:=by
    rw [bi.eO];have:=Fx (eG.take i);simp at this;omega
  refine am (Cs (Cb (ac (I (Yo dT O O sH Z) (I (cC 0 aa O O (e 0 _ O)) (ai O (ad (Cr (ab O (ab O (Lp Y O aK O (λw a=>BM _ w) ?_)))))))))));refine I (eR O) ?_;refine hs (tL (!fo x)) ?_;refine Ln (Eb (Et (Cr (I (Yi O O O Z) (ab O (Ln ?_))))));rw [p];exact ct (i+1) Z Z ag
 have y:¬i<eG.length:=by simpa using d
 have q:eG.take i=eG:=nn Z;rw [q];refine Ce (Ex (Ex (cU ?_)));refine E0 O λw' a=>?_;exact ⟨O,a⟩
def MZ (d:de):rp 138 [.agg #[.int .i64 d.kind,st d.nm,.bool d.ao,.int .i64 d.n]] [] vl (4) 4611686018427387904 (g5 d):=by
 refine ⟨aK,λp q bs c w e a=>?_⟩
 have r:(c+ck [d.nm]).b6<=4611686018427387904:=by
   rw [bi.eO];have:=Fx [d.nm];simp at this;omega
 refine enter func138 O 44 O O ?_;refine CE a (ac ?_);refine WL.box Y O O λs=>?_;refine ad (ac (ab O (I (Yf rq O) (I (Yd 0 O O O aa) ?_))));refine Lb Y O ei O O O O λt=>?_;refine h1 (T:=9) (m:=1) 0 [d.nm] O O (show 1<=1 by decide) bf λu o=>?_;refine Lf 1 O ?_;refine hs (xr o) ?_;refine ad (ac (I (Yf lM O) (I (Yd 1 O O O aa) (ad (Cb (ac (I (bx O O) (ai O (ad ?_)))))))));refine Cc O (λi=>?_) (λi=>?_)
 ·have g:d.kind=1:=by simpa using i
  have f:∀b,(b=(decide (d.n<0)||decide (1099511627775<d.n)))->c+ck [d.nm]+fe b=c+g5 d:=λb e=>by rw [e,g5,a8 g,bi.iy]
  refine Cr (ab O (I (Yf mK O) (I (Yd 1 O O O aa) (I (cy O O) (ab O ?_)))));apply Lo 3 O O O O Y O O O O O
  ·intro v;refine Vg (Yf mK O) (Vg (Yd 1 O O O aa) (Vg (ed O O) ?_));exact Gt 3 O O O
  refine hs (tL (decide (d.n<0)||decide (1099511627775<d.n))) ?_;refine Ln (Eb ?_);refine E0 O λw' a=>?_;rw [f _ rfl] at a;exact ⟨O,Wv 1 (Wt 1 a)⟩
 have g:¬d.kind=1:=by simpa using i
 refine ac (I (bx O O) (ai O (ad ?_)));refine Cc O (λj=>?_) (λj=>?_)
 ·have h:d.kind=2:=by simpa using j
  have f:∀b,(b=(!(d.n==0)))->c+ck [d.nm]+fe b=c+g5 d:=λb e=>by rw [e,g5,av g,a8 h,bi.iy]
  refine Cr (ab O (I (Yf mK O) (I (Yd 1 O O O aa) (I (fh O O) ?_))));refine hs (tL (!(d.n==0))) ?_;refine Ln (Eb ?_);refine E0 O λw' a=>?_;rw [f _ rfl] at a;exact ⟨O,Wv 1 (Wt 1 a)⟩
 have h:¬d.kind=2:=by simpa using j
 refine ac (I (bx O O) (ai O (ad ?_)));refine Cc O (λk=>?_) (λk=>?_)
 ·have l:d.kind=3:=by simpa using k
  have f:∀b,(b=(decide (d.n<1)||decide (32<d.n)))->c+ck [d.nm]+fe b=c+g5 d:=λb e=>by rw [e,g5,av g,av h,a8 l,bi.iy]
  refine Cr (ab O (I (Yf mK O) (I (Yd 1 O O O aa) (I (cy O O) (ab O ?_)))));apply Lo 3 O O O O Y O O O O O
  ·intro x;refine Vg (Yf mK O) (Vg (Yd 1 O O O aa) (Vg (ed O O) ?_));exact Gt 3 O O O
  refine hs (tL (decide (d.n<1)||decide (32<d.n))) ?_;refine Ln (Eb ?_);refine E0 O λw' a=>?_;rw [f _ rfl] at a;exact ⟨O,Wv 1 (Wt 1 a)⟩
 have l:¬d.kind=3:=by simpa using k
 have f:∀b,(b=true)->c+ck [d.nm]+a7 b=c+g5 d:=λb e=>by rw [e,g5,av g,av h,av l,bi.iy]
 refine Cr (ab O ?_);refine hs (Fw (true)) ?_;refine Ln (Eb ?_);refine E0 O λw' a=>?_;rw [f _ rfl] at a;exact ⟨O,Wv 1 (Wt 1 a)⟩
def TX (r:Bool) (a:Int) (mod nm:Tx) (len:Nat) (d:mod.length+nm.length<=9223372036854775807):rp 231 [.agg #[.bool r,.int .i64 a],st mod,st nm,.int .i64 (len:Int)] [] vl (4) 4611686018427387904 (fV (r,a) mod nm len):=by
 refine ⟨aK,λf h bs c w i b=>?_⟩
 have j:(c+fe (bR r mod nm)).b6<=4611686018427387904:=by rw [bi.eO]; have:=mr (bR r mod nm); omega
 have k:(c+fe (bR r mod nm)+fe (lw a len)).b6<=4611686018427387904:=by rw [bi.eO,bi.eO]; have:=mr (bR r mod nm); have:=mr (lw a len); omega
 have e:c+fe (bR r mod nm)+fe (lw a len)+dz (decide (3<len))=c+fV (r,a) mod nm len:=by rw [fV,bi.iy,bi.iy,bi.iy]
 refine enter func231 O 54 O O ?_;refine CE b (ac ?_);refine WL.box Y O O λl=>?_;refine ad (ac (ab O (I (Yf Lz O) (I (Yd 0 O O O aa) (ab O ?_)))));apply La 12 O O O O Y O O O O O
 ·intro m;refine Vg (Ym O) (Vg (rQ O O) (Vg (Ym O) ?_));apply La 3 O O O O (.g O O O) O O O O O
  ·intro n;refine Vg (Ym O) (Lp (.g O O O) O aK O (λw b=>BM _ w) (Vg (eR O) ?_));exact Gt 3 O O O
  refine Vg (Ym O) ?_;apply Lo 3 O O O O (.g O O O) O O O O O
  ·intro o;refine Vg (Ym O) (Lp (.g O O O) O aK O (λw b=>BM _ w) (Vg (eR O) ?_));exact Gt 3 O O O
  exact Gt 6 O O O
 refine ab O ?_;apply Lo 9 O O O O Y O O O O O
 ·intro p;refine Vg (Yf Lz O) (Vg (Yd 0 O O O aa) (Vg (eR O) (Vg (Ym O) ?_)));apply La 4 O O O O (.g O O O) O O O O O
  ·intro q;refine Vg (Ym O) (Vg (Ym O) (Vg (az O O d) (Vg (rQ O O) ?_)));exact Gt 4 O O O
  exact Gt 5 O O O
 refine Lf 1 O ?_;refine hs (tL (bR r mod nm)) ?_;refine ad (ac (ab O (I (Yf Cn O) (I (Yd 1 O O O aa) (I (ih O O) (ab O ?_))))));apply La 4 O O O O Y O O O O O
 ·intro s;refine Vg (Ym O) (Vg (Yf Cn O) (Vg (Yd 1 O O O aa) (Vg (fh O O) ?_)));exact Gt 4 O O O
 refine hs (tL (lw a len)) ?_;refine ad (Cr (ab O (ab O (I (ed O O) ?_))));rw [vo];refine hs (xq (decide (3<len))) ?_;refine Ln ?_;refine E0 O λw' b=>?_;rw [e] at b;exact ⟨O,Wt 1 b⟩
def LB (p:Bool×Int) (mod nm:Tx) {len:Nat} (a:mod.length+nm.length<=9223372036854775807):rp 231 [.agg #[.bool p.1,.int .i64 p.2],st mod,st nm,.int .i64 (len:Int)] [] vl 4 4611686018427387904 (fV p mod nm len):=TX p.1 p.2 mod nm len a
def TY:cJ prog 252 1=some 10:=aa
def jI:cJ prog 239 0=some 0:=aa
def LC:dV prog 343=some 2:=aa
def LD:ig prog 343=some 2:=aa
def rr:cJ prog 239 2=some 2:=aa
def rs:cJ prog 239 3=some 3:=aa
def bA:cJ prog 239 4=some 4:=aa
def fG:ga prog 237=some 5:=aa
def gK:cJ prog 239 1=some 1:=aa
def fY:ig prog 239=some 5:=aa
def jJ:zeroOf prog 239=some (.agg #[.int .i64 0,.int .i64 0,st [],st [],.slice none 0 0]):=aa
def ng:dV prog 239=some 5:=aa
def TZ (k:Nat)    (d:Nat) (e:Sl (gn k) 5 bc cj ae bH.args):rp 232 [.agg #[.int .i64 bH.op,.int .i64 bH.n,st bH.mod,st bH.nm,.slice cj bH.args.length ae],.int .i64 (d:Int)] [bc] Lr (8*wE bH) 1152921504606846976 (hB bH d):=by
 induction k using Nat.strongRecOn generalizing bH cj ae d
 rename_i k t;refine ⟨aK,λr j bs c w E a=>?_⟩;have F:=e.cap;have G:=e.max;have H:=DQ bH;have u:hY bH.op (lK 9) (.agg #[.bool false,.int .i64 0]) = .agg #[.bool ((fv bH.op).getD (false,0)).1,.int .i64 ((fv bH.op).getD (false,0)).2]:=(AP bH.op).1;have v:=(AP bH.op).2;have J:=yr (fv bH.op).isNone;have K:=AJ ((fv bH.op).getD (false,0)) bH.mod bH.nm bH.args.length;have L:=mr (jt bH.op bH.n);refine enter func232 O 76 O O ?_;refine CE a (ac ?_);refine WL.box Y O O λM=>?_;refine ad (Cs (ac (ab O (I (ed O O) (ad ?_)))));refine Cc O (λl=>?_) (λl=>?_)
 ·have o:6<d:=by simp at l; omega
  refine ac (ab O (Lf 1 O ?_));refine hs (xq (true)) ?_;refine ad (aZ (Er ?_));refine WE.z0 O λw' a=>?_;rw [show c+hB bH d=c+dz true by rw [Ls,a8 o]; rfl];exact ⟨O,(by have h:=a; have h:=h.aJ 3 O; have h:=h.aJ 3 O; have h:=h.aJ 2 O; exact Wt 3 h)⟩
 have o:¬6<d:=by simp at l; omega
 have x:c+hB bH d=c+a7 (fv bH.op).isNone+fV ((fv bH.op).getD (false,0)) bH.mod bH.nm bH.args.length+fe (jt bH.op bH.n)+ek bH.args (d+1):=by rw [Ls,av o,bi.iy,bi.iy,bi.iy,bi.iy,bi.iy]
 have N:(c+a7 (fv bH.op).isNone).b6<=1152921504606846980:=by rw [bi.eO]; omega
 have P:(c+a7 (fv bH.op).isNone+fV ((fv bH.op).getD (false,0)) bH.mod bH.nm bH.args.length).b6<=1152921504606846990:=by rw [bi.eO,bi.eO]; omega
 refine am (Cs ?_);refine WC.hU [(0,true),(1,true),(2,true),(3,true),(4,true),(5,true),(6,true),(7,true),(8,true),(9,true),(10,false),(11,false),(12,false)] mixed aa (λ_ _ _ d _ h=>by cases d<;>exact h) ?_;refine D0 O ag (Ym O) (D0 O ag (bV O) (D0 O ag (Yf TY O) (D0 O ag (Yd 1 O O O aa) (D0 O ag (Yf jI O) (D0 O ag (Yd 0 O O O aa) (D0 O ag (HY 2 mm mJ kk lL O O O) ?_))))));rw [u,v];refine D0 O ag (Ym O) (D0 O ag (Yx O O) (D0 O ag (Yx O O) ?_));refine De O ag ?_;refine Al Y O lL λQ=>?_;refine Ln (Ed ?_);refine De O (λ_ h=>(Wd 1 h:)) ?_;refine aT 0 Y O O O LC O O O (Ln (Ed ?_));refine De O (λ_ h=>(Wd 1 h:)) ?_;refine ai O (Ln (Ed ?_));refine WD.nil (λ_ h=>(Wd 1 h:)) ?_;refine Et (ac (ab O (ab O (I (eR O) ?_))));rw [Bool.not_not];refine Lf 2 O ?_;refine hs (Fw ((fv bH.op).isNone)) ?_;refine ad (ac (ab O (I (cI 1 O O LD O) (I (Yf rr O) (I (Yd 2 O O O aa) (I (Yf rs O) (I (Yd 2 O O O aa) (I (Yf bA O) ?_))))))));refine I (Yd 2 O O O aa) (I (Yn fG O) ?_);refine hs (LB ((fv bH.op).getD (false,0)) bH.mod bH.nm Z) ?_;refine ad (ac (ab O (I (Yf jI O) (I (Yd 2 O O O aa) (I (bx O O) (ab O ?_))))));apply La 8 O O O O Y O O O O O
 ·intro R;refine Vg (Yf gK O) (Vg (Yd 2 O O O aa) (Vg (cy O O) (Vg (Ym O) ?_)));apply Lo 3 O O O O (.g O O O) O O O O O
  ·intro S;refine Vg (Yf gK O) (Vg (Yd 2 O O O aa) (Vg (ed O O) ?_));exact Gt 3 O O O
  exact Gt 5 O O O
 refine ab O ?_;apply Lo 8 O O O O Y O O O O O
 ·intro T;refine Vg (Yf jI O) (Vg (Yd 2 O O O aa) (Vg (fh O O) (Vg (Ym O) ?_)));apply La 3 O O O O (.g O O O) O O O O O
  ·intro U;refine Vg (Yf gK O) (Vg (Yd 2 O O O aa) (Vg (fh O O) ?_));exact Gt 3 O O O
  exact Gt 5 O O O
 refine hs (tL (jt bH.op bH.n)) ?_;refine ad (ac (I (Yf bA O) (I (Yd 2 O O O aa) (I (Yn fG O) (ab O (ad (Cb ?_)))))));refine e0 (ι:=Nat) (λi=>[(66,.int .i64 (i:Int))]) [(0,_),(2,_),(64,_),(65,_)] (λi=>Ws w [r,j,bs] [aE r (.cells #[.int .i64 0,.int .i64 ((c+a7 (fv bH.op).isNone+fV ((fv bH.op).getD (false,0)) bH.mod bH.nm bH.args.length+fe (jt bH.op bH.n)+ek (bH.args.take i) (d+1)).f:Int),.int .i64 ((c+a7 (fv bH.op).isNone+fV ((fv bH.op).getD (false,0)) bH.mod bH.nm bH.args.length+fe (jt bH.op bH.n)+ek (bH.args.take i) (d+1)).m:Int),.int .i64 0,.int .i64 ((c+a7 (fv bH.op).isNone+fV ((fv bH.op).getD (false,0)) bH.mod bH.nm bH.args.length+fe (jt bH.op bH.n)+ek (bH.args.take i) (d+1)).k:Int),.int .i64 0,.int .i64 0,.int .i64 0,.int .i64 0,.int .i64 0,.map (some j),.map (some bs)] 252 (0,0)),aE j (dy kI (lK 9) 15),aE bs (dy kI nT 7)] [bc]) (λi=>i<=bH.args.length) (λi=>bH.args.length-i) 0 (cx _) (λ_ h=>(Wt 3 (((h.f 4 O).f 4 O).f 2 O):)) ?_;intro i hi;refine ac (I (cy O O) (ad (Cs ?_)));refine Cc O (λp=>?_) (λp=>?_)
 ·have z:i<bH.args.length:=by simpa using p
  obtain ⟨y,q⟩:=dw z;obtain ⟨V,W,A,s⟩:=e.aq i y q
  obtain ⟨b,rfl⟩:∃b,k=b+1:=by
    cases k with
    | zero=>exact s.elim
    | succ b=>exact ⟨b,rfl⟩
  obtain ⟨X,af,B,C⟩:=s;have ah:=B7 q;have aj:=wl (bH.args.take i) (d+1)
  have ak:(c+a7 (fv bH.op).isNone+fV ((fv bH.op).getD (false,0)) bH.mod bH.nm bH.args.length+fe (jt bH.op bH.n)+ek (bH.args.take i) (d+1)).b6+8*wE y<=1152921504606846976:=by rw [bi.eO,bi.eO,bi.eO,bi.eO]; omega
  have D:c+a7 (fv bH.op).isNone+fV ((fv bH.op).getD (false,0)) bH.mod bH.nm bH.args.length+fe (jt bH.op bH.n)+ek (bH.args.take i) (d+1)+hB y (d+1)=c+a7 (fv bH.op).isNone+fV ((fv bH.op).getD (false,0)) bH.mod bH.nm bH.args.length+fe (jt bH.op bH.n)+ek (bH.args.take (i+1)) (d+1):=by rw [Lu (d+1) q,<-bi.iy]
  refine am (Cs (Cb (ac (I (Yo fG O O A Z) (I (eq 0 fY O O O (B)) ?_)))));refine Al Y O jJ λal=>?_;refine aT 0 Y O O O ng O O O (ad (Cr (ab O (I (cI 0 O O fY O) (ab O (I (Yi O O O Z) (Lf 3 O (Lf 3 O ?_))))))));refine Lf 3 O ?_;refine hs (t b Z (d+1) C) ?_;refine Ln (Eb (Et (Cr (I (Yi O O O Z) (ab O (Ln ?_))))));rw [D];exact ct (i+1) Z Z (λ_ h=>(Wt 3 h:))
 have an:¬i<bH.args.length:=by simpa using p
 rw [nn Z,<-x];refine Ce (Ex (Ex (cU ?_)));refine E0 O λw' a=>?_;exact ⟨O,a⟩
def xt (c:bi):c0+c=c:=by apply bi.ext'<;>simp [bi.i_,bi.ja,bi.gF,c0]
def nV (n:Nat):decide ((0:Int)<(n:Int))=decide (0<n):=by rw [j9]; simp
def BP (n:Nat):decide ((10:Int)<(n:Int))=decide (10<n):=by rw [j9]; simp; omega
def T0 (h:¬6<ae):eS cD ae=dz (decide (10<cD.length))+dF cD ae:=by rw [eS,iL,av h]
def h_:ga prog 25=some 6:=aa
def iR:ig prog 241=some 6:=aa
def rt:zeroOf prog 241=some (.agg #[.int .i64 0,st [],st [],.slice none 0 0,.slice none 0 0,.slice none 0 0]):=aa
def pz:dV prog 241=some 6:=aa
def T1:cJ prog 252 2=some 11:=aa
def ht:cJ prog 241 0=some 0:=aa
def qm:cJ prog 241 1=some 1:=aa
def qn:cJ prog 241 2=some 2:=aa
def h5:cJ prog 241 3=some 3:=aa
def mL:cJ prog 241 4=some 4:=aa
def lN:cJ prog 241 5=some 5:=aa
variable {aB:Nat}
def LF (k:Nat)    (d:Nat) (t:Sl (e5 ae k) 6 bc cj aB cD):rp 139 [.slice cj cD.length aB,.int .i64 (d:Int)] [bc] Lr (2+8*dP cD) 1152921504606846976 (eS cD d):=by
 induction k using Nat.strongRecOn generalizing cD cj aB d
 rename_i k u;refine ⟨aK,λr n bs c w ak p=>?_⟩;have al:=t.cap;have an:=t.max;have ao:=jV (decide (10<cD.length));refine enter func139 O 116 O O ?_;refine CE p (Cs (ac (ab O (I (ed O O) (ad ?_)))));refine Cc O (λv=>?_) (λv=>?_)
 ·have x:6<d:=by simp at v; omega
  refine ac (ab O ?_);refine hs (xq (true)) ?_;refine ad (aZ (Er ?_));refine WE.z0 O λw' p=>?_;rw [show c+eS cD d=c+dz true by rw [eS,iL,a8 x]; rfl];exact ⟨O,p⟩
 have x:¬6<d:=by simp at v; omega
 refine am (ac (ab O (ab O (I (Yn h_ O) (I (ed O O) ?_)))));rw [BP];refine hs (xq (decide (10<cD.length))) ?_;refine ad (ac (ab O (I (Yn h_ O) (ab O (ad (Cb ?_))))));refine e0 (ι:=Nat) (λi=>[(24,.int .i64 (i:Int))]) [(0,_),(2,_),(22,_),(23,_)] (λi=>Ws w [r,n,bs] [aE r (.cells #[.int .i64 0,.int .i64 ((c+dz (decide (10<cD.length))+dF (cD.take i) d).f:Int),.int .i64 ((c+dz (decide (10<cD.length))+dF (cD.take i) d).m:Int),.int .i64 0,.int .i64 ((c+dz (decide (10<cD.length))+dF (cD.take i) d).k:Int),.int .i64 0,.int .i64 0,.int .i64 0,.int .i64 0,.int .i64 0,.map (some n),.map (some bs)] 252 (0,0)),aE n (dy kI (lK 9) 15),aE bs (dy kI nT 7)] [bc]) (λi=>i<=cD.length) (λi=>cD.length-i) 0 (cx _) ag ?_;intro i hi;refine ac (I (cy O O) (ad (Cs ?_)));refine Cc O (λz=>?_) (λz=>?_)
 ·have A:i<cD.length:=by simpa using z
  obtain ⟨y,o⟩:=dw A;obtain ⟨ap,ar,L,J⟩:=t.aq i y o
  obtain ⟨a,rfl⟩:∃a,k=a+1:=by
    cases k with
    | zero=>exact J.elim
    | succ a=>exact ⟨a,rfl⟩
  obtain ⟨M,N,P,Q,R,S,T,B,C,s⟩:=J;have au:=TV o;have aw:=DR y;have ax:=l0 (cD.take i) d;have ay:=yr (eM y.op).isNone;have az:=AJ ((eM y.op).getD (false,0)) y.mod y.nm y.args.length;have aA:=mr (kA y.op y.body.length y.other.length);have aC:=wl y.args 1;have aD:=DW y.body (d+1);have U:hY y.op nT (.agg #[.bool false,.int .i64 0]) = .agg #[.bool ((eM y.op).getD (false,0)).1,.int .i64 ((eM y.op).getD (false,0)).2]:=(AV y.op).1;have V:=(AV y.op).2;have aF:=B.cap;have aG:=B.max;have aH:=C.cap;have aI:=C.max;have aJ:=s.cap;have aL:=s.max
  have aM:(c+dz (decide (10<cD.length))+dF (cD.take i) d).b6<=1152921504606846976:=by simp only [bi.eO]; omega
  have aN:(c+dz (decide (10<cD.length))+dF (cD.take i) d+a7 (eM y.op).isNone).b6+4<=1152921504606846976:=by simp only [bi.eO]; omega
  have aO:(c+dz (decide (10<cD.length))+dF (cD.take i) d+a7 (eM y.op).isNone+fV ((eM y.op).getD (false,0)) y.mod y.nm y.args.length+ek y.args 1).b6<=1152921504606846976:=by simp only [bi.eO]; omega
  have aP:(c+dz (decide (10<cD.length))+dF (cD.take i) d+a7 (eM y.op).isNone+fV ((eM y.op).getD (false,0)) y.mod y.nm y.args.length+ek y.args 1+fe (kA y.op y.body.length y.other.length)).b6+2+8*dP y.body<=1152921504606846976:=by simp only [bi.eO]; omega
  have aQ:(c+dz (decide (10<cD.length))+dF (cD.take i) d+a7 (eM y.op).isNone+fV ((eM y.op).getD (false,0)) y.mod y.nm y.args.length+ek y.args 1+fe (kA y.op y.body.length y.other.length)+eS y.body (d+1)).b6+2+8*dP y.other<=1152921504606846976:=by simp only [bi.eO]; omega
  have aR:(c+dz (decide (10<cD.length))+dF (cD.take i) d+a7 (eM y.op).isNone+fV ((eM y.op).getD (false,0)) y.mod y.nm y.args.length+ek y.args 1+fe (kA y.op y.body.length y.other.length)).b6+2+8*dP y.other<=1152921504606846976:=by simp only [bi.eO]; omega
  refine am (Cs (Cb (ac (I (Yo h_ O O L Z) (I (eq 0 iR O O O (T)) ?_)))));refine Al Y O rt λW=>?_;refine aT 0 Y O O O pz O O O (ad (Cs ?_));refine WC.hU [(0,true),(1,true),(2,true),(3,true),(4,true),(5,true),(6,true),(7,true),(8,true),(9,true),(10,false),(11,false),(12,false)] mixed aa (λ_ _ _ d _ h=>by cases d<;>exact h) ?_;refine D0 O ag (Ym O) (D0 O ag (bV O) (D0 O ag (Yf T1 O) (D0 O ag (Yd 1 O O O aa) (D0 O ag (Yf ht O) (D0 O ag (Yd 0 O O O aa) (D0 O ag (HY 3 mm mJ kk lL O O O) ?_))))));rw [U,V];refine D0 O ag (Ym O) (D0 O ag (Yx O O) (D0 O ag (Yx O O) ?_));refine De O ag ?_;refine Al Y O lL λaS=>?_;refine Ln (Ed ?_);refine De O (λ_ h=>(Wd 1 h:)) ?_;refine aT 0 Y O O O LC O O O (Ln (Ed ?_));refine De O (λ_ h=>(Wd 1 h:)) ?_;refine ai O (Ln (Ed ?_));refine WD.nil (λ_ h=>(Wd 1 h:)) ?_;refine Et (ac (ab O (ab O (I (eR O) ?_))));rw [Bool.not_not];refine Lf 2 O ?_;refine hs (Fw ((eM y.op).isNone)) ?_;refine ad (ac (ab O (I (cI 1 O O LD O) (I (Yf qm O) (I (Yd 2 O O O aa) (I (Yf qn O) (I (Yd 2 O O O aa) (I (Yf h5 O) ?_))))))));refine I (Yd 2 O O O aa) (I (Yn fG O) ?_);refine hs (LB ((eM y.op).getD (false,0)) y.mod y.nm Z) ?_;refine ad (Cs (ac (I (Yf h5 O) (I (Yd 2 O O O aa) (I (Yn fG O) (ab O (ad (Cb ?_))))))));refine e0 (ι:=Nat) (λj=>[(55,.int .i64 (j:Int))]) [(0,_),(2,_),(7,_),(22,_),(23,_),(24,_),(53,_),(54,_)] (λj=>Ws w [r,n,bs] ([aE r (.cells #[.int .i64 0,.int .i64 ((c+dz (decide (10<cD.length))+dF (cD.take i) d+a7 (eM y.op).isNone+fV ((eM y.op).getD (false,0)) y.mod y.nm y.args.length+ek (y.args.take j) 1).f:Int),.int .i64 ((c+dz (decide (10<cD.length))+dF (cD.take i) d+a7 (eM y.op).isNone+fV ((eM y.op).getD (false,0)) y.mod y.nm y.args.length+ek (y.args.take j) 1).m:Int),.int .i64 0,.int .i64 ((c+dz (decide (10<cD.length))+dF (cD.take i) d+a7 (eM y.op).isNone+fV ((eM y.op).getD (false,0)) y.mod y.nm y.args.length+ek (y.args.take j) 1).k:Int),.int .i64 0,.int .i64 0,.int .i64 0,.int .i64 0,.int .i64 0,.map (some n),.map (some bs)] 252 (0,0)),aE n (dy kI (lK 9) 15),aE bs (dy kI nT 7)]++[aE W (.cells (qT y M N P Q R S).toArray 241 (0,0))]) [bc]) (λj=>j<=y.args.length) (λj=>y.args.length-j) 0 (cx _) (λ_ h=>by exact (Wt 4 ((((h.f 2 O).f 4 O).f 4 O).f 3 O):)) ?_;intro j aU;refine ac (I (cy O O) (ad (Cs ?_)));refine Cc O (λD=>?_) (λD=>?_)
  ·have A:j<y.args.length:=by simpa using D
   obtain ⟨E,F⟩:=dw A;obtain ⟨aV,aW,X,K⟩:=B.aq j E F
   obtain ⟨G,rfl⟩:∃G,ae=G+1:=by
     cases ae with
     | zero=>exact K.elim
     | succ a=>exact ⟨a,rfl⟩
   obtain ⟨aX,aY,af,ah⟩:=K;have a0:=B7 F;have a1:=wl (y.args.take j) 1
   have a2:(c+dz (decide (10<cD.length))+dF (cD.take i) d+a7 (eM y.op).isNone+fV ((eM y.op).getD (false,0)) y.mod y.nm y.args.length+ek (y.args.take j) 1).b6+8*wE E<=1152921504606846976:=by simp only [bi.eO]; omega
   have aj:c+dz (decide (10<cD.length))+dF (cD.take i) d+a7 (eM y.op).isNone+fV ((eM y.op).getD (false,0)) y.mod y.nm y.args.length+ek (y.args.take j) 1+hB E 1=c+dz (decide (10<cD.length))+dF (cD.take i) d+a7 (eM y.op).isNone+fV ((eM y.op).getD (false,0)) y.mod y.nm y.args.length+ek (y.args.take (j+1)) 1:=by rw [Lu 1 F,<-bi.iy]
   refine am (Cs (Cb (ac (I (Yo fG O O X Z) (I (eq 0 fY O O O (af)) ?_)))));refine Al Y O jJ λa3=>?_;refine aT 0 Y O O O ng O O O (ad (Cr (ab O (I (cI 0 O O fY O) (Lf 3 O (Lf 3 O (Lf 3 O ?_)))))));refine hs (TZ G 1 ah) ?_;refine Ln (Eb (Et (Cr (I (Yi O O O Z) (ab O (Ln ?_))))));rw [aj];exact ct (j+1) Z Z (λ_ h=>by exact (Wt 4 ((((h.f 4 O).f 3 O).f 3 O).f 3 O):))
  have a4:¬j<y.args.length:=by simpa using D
  rw [nn (by omega:y.args.length<=j)];refine Ce (Ex (Ex (cU (Et (ac (I (Yf ht O) (I (Yd 3 O O O aa) (I (bx O O) (ab O ?_)))))))));apply Lo 3 O O O O Y O O O O O
  ·intro a5;refine Vg (Yf ht O) (Vg (Yd 3 O O O aa) (Vg (bx O O) ?_));exact Gt 3 O O O
  refine ai O (ad (ac (ab O (ab O (I (eR O) (ab O ?_))))));apply La 4 O O O O Y O O O O O
  ·intro a6;refine Vg (Yf mL O) (Vg (Yd 3 O O O aa) (Vg (Yn h_ O) (Vg (ed O O) ?_)));rw [nV];exact Gt 4 O O O
  refine ab O ?_;apply Lo 9 O O O O Y O O O O O
  ·intro a9;refine Vg (Yf ht O) (Vg (Yd 3 O O O aa) (Vg (fh O O) (Vg (Ym O) ?_)));apply La 4 O O O O (.g O O O) O O O O O
   ·intro a';refine Vg (Yf lN O) (Vg (Yd 3 O O O aa) (Vg (Yn h_ O) (Vg (ed O O) ?_)));rw [nV];exact Gt 4 O O O
   exact Gt 5 O O O
  refine hs (tL (kA y.op y.body.length y.other.length)) ?_;refine ad (Cs (ac (ab O (ab O ?_))));apply Lo 4 O O O O Y O O O O O
  ·intro a_;refine Vg (Yf mL O) (Vg (Yd 3 O O O aa) (Vg (Yn h_ O) (Vg (ed O O) ?_)));rw [nV];exact Gt 4 O O O
  refine ad ?_;refine Cc O (λH=>?_) (λH=>?_)
  ·have q:(if (inner y.op||decide (0<y.body.length))=true then eS y.body (d+1) else c0)=eS y.body (d+1):=a8 H;refine Cr (ab O (I (Yf mL O) (I (Yd 3 O O O aa) (ab O (I (Yi O O O Z) ?_)))));refine hs (u a Z (d+1) C) ?_;refine ad (ac (I (Yf lN O) (I (Yd 3 O O O aa) (I (Yn h_ O) (I (ed O O) ?_)))));rw [nV];refine ad ?_;refine Cc O (λb=>?_) (λb=>?_)
   ·have l:(if 0<y.other.length then eS y.other (d+1) else c0)=eS y.other (d+1):=a8 (by simpa using b);refine Cr (ab O (I (Yf lN O) (I (Yd 3 O O O aa) (ab O (I (Yi O O O Z) ?_)))));refine hs (u a Z (d+1) s) ?_;refine Ln (Eb (Et (Cr (I (Yi O O O Z) (ab O (Ln ?_))))));rw [show c+dz (decide (10<cD.length))+dF (cD.take i) d+a7 (eM y.op).isNone+fV ((eM y.op).getD (false,0)) y.mod y.nm y.args.length+ek y.args 1+fe (kA y.op y.body.length y.other.length)+eS y.body (d+1)+eS y.other (d+1)=c+dz (decide (10<cD.length))+dF (cD.take (i+1)) d by rw [BO d o,BN,q,l]; simp only [bi.iy,xp,xt]];exact ct (i+1) Z Z (λ_ h=>(Wt 3 h:))
   have l:(if 0<y.other.length then eS y.other (d+1) else c0)=c0:=av (by simpa using b);refine Ck (Eb (Et (Cr (I (Yi O O O Z) (ab O (Ln ?_))))));rw [show c+dz (decide (10<cD.length))+dF (cD.take i) d+a7 (eM y.op).isNone+fV ((eM y.op).getD (false,0)) y.mod y.nm y.args.length+ek y.args 1+fe (kA y.op y.body.length y.other.length)+eS y.body (d+1)=c+dz (decide (10<cD.length))+dF (cD.take (i+1)) d by rw [BO d o,BN,q,l]; simp only [bi.iy,xp,xt]];exact ct (i+1) Z Z (λ_ h=>(Wt 3 h:))
  have q:(if (inner y.op||decide (0<y.body.length))=true then eS y.body (d+1) else c0)=c0:=av (λe=>by rw [show (inner y.op||decide (0<y.body.length))=false from H] at e; cases e);refine am (ac (I (Yf lN O) (I (Yd 3 O O O aa) (I (Yn h_ O) (I (ed O O) ?_)))));rw [nV];refine ad ?_;refine Cc O (λb=>?_) (λb=>?_)
  ·have l:(if 0<y.other.length then eS y.other (d+1) else c0)=eS y.other (d+1):=a8 (by simpa using b);refine Cr (ab O (I (Yf lN O) (I (Yd 3 O O O aa) (ab O (I (Yi O O O Z) ?_)))));refine hs (u a Z (d+1) s) ?_;refine Ln (Eb (Et (Cr (I (Yi O O O Z) (ab O (Ln ?_))))));rw [show c+dz (decide (10<cD.length))+dF (cD.take i) d+a7 (eM y.op).isNone+fV ((eM y.op).getD (false,0)) y.mod y.nm y.args.length+ek y.args 1+fe (kA y.op y.body.length y.other.length)+eS y.other (d+1)=c+dz (decide (10<cD.length))+dF (cD.take (i+1)) d by rw [BO d o,BN,q,l]; simp only [bi.iy,xp,xt]];exact ct (i+1) Z Z (λ_ h=>(Wt 3 h:))
  have l:(if 0<y.other.length then eS y.other (d+1) else c0)=c0:=av (by simpa using b);refine Ck (Eb (Et (Cr (I (Yi O O O Z) (ab O (Ln ?_))))));rw [show c+dz (decide (10<cD.length))+dF (cD.take i) d+a7 (eM y.op).isNone+fV ((eM y.op).getD (false,0)) y.mod y.nm y.args.length+ek y.args 1+fe (kA y.op y.body.length y.other.length)=c+dz (decide (10<cD.length))+dF (cD.take (i+1)) d by rw [BO d o,BN,q,l]; simp only [bi.iy,xp,xt]];exact ct (i+1) Z Z (λ_ h=>(Wt 3 h:))
 have ba:¬i<cD.length:=by simpa using z
 rw [nn Z,bi.iy,<-T0 x];refine Ce (Ex (Ex (cU ?_)));refine E0 O λw' p=>?_;exact ⟨O,p⟩
def LG:∀(l:List de) (i:Nat),wD (l.take i)<=wD l
 | [],i=>by simp
 | x::r,0=>by simp [wD]
 | x::r,i+1=>by have:=LG r i; simp only [hD,wD]; omega
def Fy:∀(l:List eI) (i:Nat),wP (l.take i)<=wP l
 | [],i=>by simp
 | x::r,0=>by simp [wP]
 | x::r,i+1=>by have:=Fy r i; simp only [hD,wP]; omega
variable {sv:List eI} {g8:eI}
def y_ (h:sv[ae]? = some g8):wP (sv.take ae)+(1+g8.nm.length+wN g8.params+wN g8.aH+dP g8.body)<=wP sv:=by
 have c:=Fy sv (ae+1);rw [j2 h] at c
 have:∀a b:List eI,wP (a++b)=wP a+wP b:=by
   intro a b
   induction a with
   | nil=>simp [wP]
   | cons y a d=>simp only [bt,wP,d]; omega
 rw [this] at c;simp only [wP] at c;omega
def LH:∀a b:List de,aI (a++b)=aI a+aI b
 | [],b=>by apply bi.ext'<;>simp [bi.i_,bi.ja,bi.gF,aI,c0]
 | x::a,b=>by
   rw [bt,show ∀q,aI (x::q)=g5 x+aI q from λ_=>rfl,LH a b,show ∀q,aI (x::q)=g5 x+aI q from λ_=>rfl,bi.iy]
def T2 {l:List de}  {s:de} (h:l[ae]? = some s):aI (l.take (ae+1))=aI (l.take ae)+g5 s:=by rw [j2 h,LH]; rfl
def LI:∀a b:List eI,fL (a++b)=fL a+fL b
 | [],b=>by apply bi.ext'<;>simp [bi.i_,bi.ja,bi.gF,fL,c0]
 | x::a,b=>by
   rw [bt,show ∀q,fL (x::q)=kc x+fL q from λ_=>rfl,LI a b,show ∀q,fL (x::q)=kc x+fL q from λ_=>rfl,bi.iy]
def T3 (h:sv[ae]? = some g8):fL (sv.take (ae+1))=fL (sv.take ae)+kc g8:=by rw [j2 h,LI]; rfl
def LJ (n:Nat):decide ((4:Int)<(n:Int))=decide (4<n):=by rw [j9]; simp; omega
def LK (n:Nat):decide ((6:Int)<(n:Int))=decide (6<n):=by rw [j9]; simp; omega
def eN (i:Nat):Nat:=if i=0 then 4 else if i=1 then 2 else 1
def cE (c:bi) (i:Nat):Nat:=if i=0 then c.k else if i=1 then c.m else c.f
def T4 {i:Nat} (h:i<3):(#[.int .i64 4,.int .i64 2,.int .i64 1]:Array Value)[i]? = some (.int .i64 (eN i:Int)):=by
 match i,h with
 | 0,_=>rfl
 | 1,_=>rfl
 | 2,_=>rfl
def T5 (i:Nat):eN i<10:=by unfold eN; split; omega; split<;>omega
def T6 {c:bi} {a bs i:Nat} (h:i<3) {T:TypeId} {b:Nat×Nat}:gE (.cells #[.int .i64 0,.int .i64 (c.f:Int),.int .i64 (c.m:Int),.int .i64 0,.int .i64 (c.k:Int),.int .i64 0,.int .i64 0,.int .i64 0,.int .i64 0,.int .i64 0,.map (some a),.map (some bs)] T b) (0+0+eN i*1)=some (.int .i64 (cE c i:Int)):=by
 match i,h with
 | 0,_=>rfl
 | 1,_=>rfl
 | 2,_=>rfl
variable {g6:bi}
def T7 {i:Nat} (h:i<3) (d:∀j,j<i->cE g6 j=0) (c:0<cE g6 i):(eN i:Int)=qQ g6:=by
 match i,h,d,c with
 | 0,_,_,c=>unfold qQ; rw [a8 (show 0<g6.k from c)]; rfl
 | 1,_,d,c=>have:=d 0 Z; unfold qQ; rw [av (by simp [cE] at this; omega),a8 (show 0<g6.m from c)]; rfl
 | 2,_,d,c=>have a:=d 0 Z; have b:=d 1 Z; unfold qQ; rw [av (by simp [cE] at a; omega),av (by simp [cE] at b; omega),a8 (show 0<g6.f from c)]; rfl
def T8 (h:∀j,j<3->cE g6 j=0):qQ g6=0:=by
 have a:=h 0 Z; have b:=h 1 Z; have d:=h 2 Z;simp [cE] at a b d;unfold qQ;rw [av Z,av Z,av Z]
def T9:hx prog 252=some [(0,10),(10,1),(11,1)]:=aa
def T':zeroOf prog 252=some (.agg #[.int .i64 0,.int .i64 0,.int .i64 0,.int .i64 0,.int .i64 0,.int .i64 0,.int .i64 0,.int .i64 0,.int .i64 0,.int .i64 0,.map none,.map none]):=aa
def g7:cJ prog 27 0=some 0:=aa
def j4:cJ prog 27 1=some 1:=aa
def oO:cJ prog 27 2=some 2:=aa
def nW:ga prog 23=some 4:=aa
def lh:cJ prog 27 3=some 3:=aa
def j5:ga prog 24=some 5:=aa
def mM:ig prog 109=some 4:=aa
def oP:zeroOf prog 109=some (.agg #[.int .i64 0,st [],.bool false,.int .i64 0]):=aa
def pA:dV prog 109=some 4:=aa
def ru:ig prog 113=some 5:=aa
def pB:zeroOf prog 113=some (.agg #[st [],.bool false,.slice none 0 0,.slice none 0 0,.slice none 0 0]):=aa
def dq:dV prog 113=some 5:=aa
def za:cJ prog 113 0=some 0:=aa
def kT:cJ prog 113 2=some 2:=aa
def nX:cJ prog 113 3=some 3:=aa
def vq:cJ prog 113 4=some 4:=aa
def vr:cJ prog 27 4=some 4:=aa
def T_:uw prog 256=some (3,1):=aa
def Ua:zeroOf prog 256=some (.agg #[.int .i64 0,.int .i64 0,.int .i64 0]):=aa
def Ub:Aw prog 256=some 3:=aa
def LL (H:View) (ke ks:Nat) (r:iB) (m:cm) (w:World) (F:Le H w) (a:jb ke ks H r m) (af:wM m<=9007199254740992) :
   Calls prog 68 #[.agg (fi m r).toArray] w λe w'=>e = .returned (.int .i64 (iA m))/\Ext w w':=by
 have ah:=DX m.nm;have aj:=wm m.aP;have ak:=jV ((decide (3<m.aP.length)||decide (10<m.decls.length))||decide (6<m.procs.length));have al:=DV m.decls;have an:=AK m.procs;have ao:=DW m.main 1;have ap:wM m=1+m.nm.length+wN m.aP+wD m.decls+wP m.procs+dP m.main:=rfl;have ar:c0.b6=0:=rfl;have av:=wj m.aP;have aw:=a.aP.cap;have ax:=a.aP.max;have ay:=a.decls.cap;have az:=a.decls.max;have aA:=a.procs.cap;have aB:=a.procs.max
 have G:∀i,(aI (m.decls.take i)).b6<=8*wD m.decls:=λi=>by have:=DV (m.decls.take i); have:=LG m.decls i; omega
 have J:∀i,(fL (m.procs.take i)).b6<=8*wP m.procs:=λi=>by have:=AK (m.procs.take i); have:=Fy m.procs i; omega
 have aC:(c0+ck [m.nm]).b6+16+m.aP.length<=1152921504606846976:=by simp only [bi.eO]; omega
 have aD:(c0+ck [m.nm]+ck m.aP).b6+16+m.aP.length<=1152921504606846976:=by simp only [bi.eO]; omega
 have aF:(c0+ck [m.nm]+ck m.aP+dz ((decide (3<m.aP.length)||decide (10<m.decls.length))||decide (6<m.procs.length))).b6+16+m.aP.length<=1152921504606846976:=by simp only [bi.eO]; omega
 have aG:(c0+ck [m.nm]+ck m.aP+dz ((decide (3<m.aP.length)||decide (10<m.decls.length))||decide (6<m.procs.length))+aI m.decls).b6+16+m.aP.length<=1152921504606846976:=by simp only [bi.eO]; omega
 have aL:(c0+ck [m.nm]+ck m.aP+dz ((decide (3<m.aP.length)||decide (10<m.decls.length))||decide (6<m.procs.length))+aI m.decls+fL m.procs).b6+16+8*dP m.main<=1152921504606846976:=by simp only [bi.eO]; omega
 refine enter func68 O 106 O O ?_;refine CE (Vs:=[H]) (Ws.init (by simp [F])) (ac ?_);refine WL.box Y O O λn=>?_;refine ai O (ad (ac ?_))
 refine WL.yn (ι:=Nat) Y O aK O (λb=>.map (some b)) (λb=>[aE b (dy kI (lK 9) 15)]) (λ_=>True) (λw l=>(TT w).mono λe w' h=>by
     obtain ⟨b,o,q⟩:=h
     exact ⟨b,o,trivial,q⟩) ?_
 intro g _
 refine WL.yn (ι:=Nat) Y O aK O (λb=>.map (some b)) (λb=>[aE b (dy kI nT 7)]) (λ_=>True) (λw l=>(TU w).mono λe w' h=>by
     obtain ⟨b,o,q⟩:=h
     exact ⟨b,o,trivial,q⟩) ?_
 intro bs _;refine I (Yb T' T9 O O) ?_;refine WL.box Y O O λs=>?_;refine dn 0 (.cells #[.int .i64 0,.int .i64 ((c0).f:Int),.int .i64 ((c0).m:Int),.int .i64 0,.int .i64 ((c0).k:Int),.int .i64 0,.int .i64 0,.int .i64 0,.int .i64 0,.int .i64 0,.map (some g),.map (some bs)] 252 (0,0)) O O (ai O (ad (ac (ab O (I (Yf g7 O) (I (Yd 3 O O O aa) ?_))))));refine Lb Y O ei O O O O λaM=>?_;refine h1 (T:=9) (m:=1) 0 [m.nm] O O (show 1<=1 by decide) bf λaN K=>?_;refine hs (xr K) ?_;refine ad (ac (ab O (I (Yf j4 O) (I (Yd 3 O O O aa) ?_))));refine hs (xr a.aP) ?_;refine ad (ac (ab O (I (Yf j4 O) (I (Yd 3 O O O aa) (I (Yn dT O) (I (ed O O) ?_))))));rw [vo];refine ab O ?_;apply Lo 4 O O O O Y O O O O O
 ·intro aO;refine Vg (Yf oO O) (Vg (Yd 3 O O O aa) (Vg (Yn nW O) (Vg (ed O O) ?_)));rw [BP];exact Gt 4 O O O
 refine ab O ?_;apply Lo 4 O O O O Y O O O O O
 ·intro aQ;refine Vg (Yf lh O) (Vg (Yd 3 O O O aa) (Vg (Yn j5 O) (Vg (ed O O) ?_)));rw [LK];exact Gt 4 O O O
 refine hs (xq ((decide (3<m.aP.length)||decide (10<m.decls.length))||decide (6<m.procs.length))) ?_;refine ad (Cs (ac (I (Yf oO O) (I (Yd 3 O O O aa) (I (Yn nW O) (ab O (ad (Cb ?_))))))));refine e0 (ι:=Nat) (λi=>[(44,.int .i64 (i:Int))]) [(1,_),(2,_),(3,_),(42,_),(43,_)] (λi=>Ws w [] [aE s (.cells #[.int .i64 0,.int .i64 ((c0+ck [m.nm]+ck m.aP+dz ((decide (3<m.aP.length)||decide (10<m.decls.length))||decide (6<m.procs.length))+aI (m.decls.take i)).f:Int),.int .i64 ((c0+ck [m.nm]+ck m.aP+dz ((decide (3<m.aP.length)||decide (10<m.decls.length))||decide (6<m.procs.length))+aI (m.decls.take i)).m:Int),.int .i64 0,.int .i64 ((c0+ck [m.nm]+ck m.aP+dz ((decide (3<m.aP.length)||decide (10<m.decls.length))||decide (6<m.procs.length))+aI (m.decls.take i)).k:Int),.int .i64 0,.int .i64 0,.int .i64 0,.int .i64 0,.int .i64 0,.map (some g),.map (some bs)] 252 (0,0)),aE g (dy kI (lK 9) 15),aE bs (dy kI nT 7),aE n (.cells (fi m r).toArray 27 (0,0))] [H]) (λi=>i<=m.decls.length) (λi=>m.decls.length-i) 0 (cx _) (λ_ h=>by have h:=h.aJ 3 O; have h:=h.aJ 2 O; have h:=h.aJ 3 O; have h:=h.aJ 3 O; have h:=Ws.cK h (b9:=[H]) au; exact h) ?_;intro i hi;refine ac (I (cy O O) (ad (Cs ?_)));refine Cc O (λt=>?_) (λt=>?_)
 ·have c:i<m.decls.length:=by simpa using t
  obtain ⟨d,E⟩:=dw c;obtain ⟨L,M,N,u⟩:=a.decls.aq i d E;have u:cw H L (M+i*4) d.cells:=u
  have P:c0+ck [m.nm]+ck m.aP+dz ((decide (3<m.aP.length)||decide (10<m.decls.length))||decide (6<m.procs.length))+aI (m.decls.take i)+g5 d=c0+ck [m.nm]+ck m.aP+dz ((decide (3<m.aP.length)||decide (10<m.decls.length))||decide (6<m.procs.length))+aI (m.decls.take (i+1)):=by rw [T2 E,<-bi.iy]
  have aR:=G i
  have aS:(c0+ck [m.nm]+ck m.aP+dz ((decide (3<m.aP.length)||decide (10<m.decls.length))||decide (6<m.procs.length))+aI (m.decls.take i)).b6+4<=4611686018427387904:=by simp only [bi.eO]; omega
  refine am (Cs (Cb (ac (I (Yo nW O O N Z) (I (eq 0 mM O O O (u)) ?_)))));refine Al Y O oP λaU=>?_;refine aT 0 Y O O O pA O O O (ad (Cr (ab O (I (cI 0 O O mM O) (Lf 1 O ?_)))));refine hs (MZ d) ?_;refine Ln (Eb (Et (Cr (I (Yi O O O Z) (ab O (Ln ?_))))));rw [P];exact ct (i+1) Z Z (λ_ h=>by exact (Wt 4 ((((h.f 4 O).f 4 O).f 4 O).f 3 O):))
 have aV:¬i<m.decls.length:=by simpa using t
 rw [nn Z];refine Ce (Ex (Ex (cU (Et (Cs (ac (I (Yf lh O) (I (Yd 3 O O O aa) (I (Yn j5 O) (ab O (ad (Cb ?_))))))))))));refine e0 (ι:=Nat) (λj=>[(55,.int .i64 (j:Int))]) [(1,_),(2,_),(3,_),(53,_),(54,_)] (λj=>Ws w [] [aE s (.cells #[.int .i64 0,.int .i64 ((c0+ck [m.nm]+ck m.aP+dz ((decide (3<m.aP.length)||decide (10<m.decls.length))||decide (6<m.procs.length))+aI m.decls+fL (m.procs.take j)).f:Int),.int .i64 ((c0+ck [m.nm]+ck m.aP+dz ((decide (3<m.aP.length)||decide (10<m.decls.length))||decide (6<m.procs.length))+aI m.decls+fL (m.procs.take j)).m:Int),.int .i64 0,.int .i64 ((c0+ck [m.nm]+ck m.aP+dz ((decide (3<m.aP.length)||decide (10<m.decls.length))||decide (6<m.procs.length))+aI m.decls+fL (m.procs.take j)).k:Int),.int .i64 0,.int .i64 0,.int .i64 0,.int .i64 0,.int .i64 0,.map (some g),.map (some bs)] 252 (0,0)),aE g (dy kI (lK 9) 15),aE bs (dy kI nT 7),aE n (.cells (fi m r).toArray 27 (0,0))] [H]) (λj=>j<=m.procs.length) (λj=>m.procs.length-j) 0 (cx _) ag ?_;intro j v;refine ac (I (cy O O) (ad (Cs ?_)));refine Cc O (λx=>?_) (λx=>?_)
 ·have c:j<m.procs.length:=by simpa using x
  obtain ⟨p,y⟩:=dw c;obtain ⟨aW,aX,Q,R⟩:=a.procs.aq j p y;obtain ⟨aY,a0,a1,a2,a3,a4,S,z,A,U⟩:=R;have a5:=y_ y;have a6:=J j;have a7:=AK (m.procs.take j);have a8:=DX p.nm;have a9:=wm p.params;have a':=wm p.aH;have a_:=jV (decide (3<p.params.length)||decide (4<p.aH.length));have ba:=wj p.params;have bb:=wj p.aH;have bc:=z.cap;have bd:=z.max;have be:=A.cap;have bg:=A.max
  have V:c0+ck [m.nm]+ck m.aP+dz ((decide (3<m.aP.length)||decide (10<m.decls.length))||decide (6<m.procs.length))+aI m.decls+fL (m.procs.take j)+ck [p.nm]+ck p.params+ck p.aH+dz (decide (3<p.params.length)||decide (4<p.aH.length))+eS p.body 1=c0+ck [m.nm]+ck m.aP+dz ((decide (3<m.aP.length)||decide (10<m.decls.length))||decide (6<m.procs.length))+aI m.decls+fL (m.procs.take (j+1)):=by rw [T3 y,kc]; simp only [bi.iy]
  have bh:(c0+ck [m.nm]+ck m.aP+dz ((decide (3<m.aP.length)||decide (10<m.decls.length))||decide (6<m.procs.length))+aI m.decls+fL (m.procs.take j)).b6+16+p.params.length+p.aH.length+8*dP p.body<=1152921504606846976:=by simp only [bi.eO]; omega
  have bj:(c0+ck [m.nm]+ck m.aP+dz ((decide (3<m.aP.length)||decide (10<m.decls.length))||decide (6<m.procs.length))+aI m.decls+fL (m.procs.take j)+ck [p.nm]).b6+16+p.params.length+p.aH.length+8*dP p.body<=1152921504606846976:=by simp only [bi.eO]; omega
  have bk:(c0+ck [m.nm]+ck m.aP+dz ((decide (3<m.aP.length)||decide (10<m.decls.length))||decide (6<m.procs.length))+aI m.decls+fL (m.procs.take j)+ck [p.nm]+ck p.params).b6+16+p.params.length+p.aH.length+8*dP p.body<=1152921504606846976:=by simp only [bi.eO]; omega
  have bl:(c0+ck [m.nm]+ck m.aP+dz ((decide (3<m.aP.length)||decide (10<m.decls.length))||decide (6<m.procs.length))+aI m.decls+fL (m.procs.take j)+ck [p.nm]+ck p.params+ck p.aH).b6+16+p.params.length+p.aH.length+8*dP p.body<=1152921504606846976:=by simp only [bi.eO]; omega
  have bm:(c0+ck [m.nm]+ck m.aP+dz ((decide (3<m.aP.length)||decide (10<m.decls.length))||decide (6<m.procs.length))+aI m.decls+fL (m.procs.take j)+ck [p.nm]+ck p.params+ck p.aH+dz (decide (3<p.params.length)||decide (4<p.aH.length))).b6+16+p.params.length+p.aH.length+8*dP p.body<=1152921504606846976:=by simp only [bi.eO]; omega
  refine am (Cs (Cb (ac (I (Yo j5 O O Q Z) (I (eq 0 ru O O O (S)) ?_)))));refine Al Y O pB λbn=>?_;refine aT 0 Y O O O dq O O O (ad (ac (ab O (I (Yf za O) (I (Yd 0 O O O aa) ?_)))));refine Lb Y O ei O O O O λbo=>?_;refine h1 (T:=9) (m:=1) 0 [p.nm] O O (show 1<=1 by decide) bf λbp W=>?_;refine Lf 1 O ?_;refine hs (xr W) ?_;refine ad (ac (ab O (I (Yf kT O) (I (Yd 1 O O O aa) ?_))));refine hs (xr z) ?_;refine ad (ac (ab O (I (Yf nX O) (I (Yd 1 O O O aa) ?_))));refine hs (xr A) ?_;refine ad (ac (ab O (I (Yf kT O) (I (Yd 1 O O O aa) (I (Yn dT O) (I (ed O O) ?_))))));rw [vo];refine ab O ?_;apply Lo 4 O O O O Y O O O O O
  ·intro bq;refine Vg (Yf nX O) (Vg (Yd 1 O O O aa) (Vg (Yn dT O) (Vg (ed O O) ?_)));rw [LJ];exact Gt 4 O O O
  refine hs (xq (decide (3<p.params.length)||decide (4<p.aH.length))) ?_;refine ad (Cr (ab O (I (Yf vq O) (I (Yd 1 O O O aa) (Lf 3 O (Lf 3 O (Lf 2 O ?_)))))));refine hs (LF ks 1 U) ?_;refine Ln (Eb (Et (Cr (I (Yi O O O Z) (ab O (Ln ?_))))));rw [V];exact ct (j+1) Z Z (λ_ h=>by exact (Wv 1 (Wt 4 ((((h.f 4 O).f 3 O).f 3 O).f 3 O)):))
 have br:¬j<m.procs.length:=by simpa using x
 rw [nn Z];refine Ce (Ex (Ex (cU (Et (ac (ab O (I (Yf vr O) (I (Yd 3 O O O aa) ?_))))))));refine hs (LF ks 1 a.main) ?_;refine ad (Cs (ac (I (Iz Ua T_ O O) (ab O (ad (Cb ?_))))));refine e0 (ι:=Nat) (λi=>[(94,.int .i64 (i:Int))]) [(3,_),(93,_)] (λi=>Ws w [] [aE s (.cells #[.int .i64 0,.int .i64 ((c0+ck [m.nm]+ck m.aP+dz ((decide (3<m.aP.length)||decide (10<m.decls.length))||decide (6<m.procs.length))+aI m.decls+fL m.procs+eS m.main 1).f:Int),.int .i64 ((c0+ck [m.nm]+ck m.aP+dz ((decide (3<m.aP.length)||decide (10<m.decls.length))||decide (6<m.procs.length))+aI m.decls+fL m.procs+eS m.main 1).m:Int),.int .i64 0,.int .i64 ((c0+ck [m.nm]+ck m.aP+dz ((decide (3<m.aP.length)||decide (10<m.decls.length))||decide (6<m.procs.length))+aI m.decls+fL m.procs+eS m.main 1).k:Int),.int .i64 0,.int .i64 0,.int .i64 0,.int .i64 0,.int .i64 0,.map (some g),.map (some bs)] 252 (0,0)),aE g (dy kI (lK 9) 15),aE bs (dy kI nT 7),aE n (.cells (fi m r).toArray 27 (0,0))] [H]) (λi=>i<=3/\∀j,j<i->cE (c0+ck [m.nm]+ck m.aP+dz ((decide (3<m.aP.length)||decide (10<m.decls.length))||decide (6<m.procs.length))+aI m.decls+fL m.procs+eS m.main 1) j=0) (λi=>3-i) 0 ⟨cx _,au⟩ ag ?_;intro i ⟨hi,B⟩;refine ac (I (cy O O) (ad (Cs ?_)));refine Cc O (λC=>?_) (λC=>?_)
 ·have c:i<3:=by simp at C; omega
  refine am (Cs (Cb (ac (I (H0 (i:=i) Ub O O c (T4 c)) (ai O (ad (ac (ab O (ab O (I (bV O) (I (Yf vm O) ?_)))))))))));refine I (ux (i:=eN i) vn O O (T5 i)) (I (Yd 0 O O (T6 c) aa) (I (ed O O) (ad ?_)));refine Cc O (λD=>?_) (λD=>?_)
  ·have X:0<cE (c0+ck [m.nm]+ck m.aP+dz ((decide (3<m.aP.length)||decide (10<m.decls.length))||decide (6<m.procs.length))+aI m.decls+fL m.procs+eS m.main 1) i:=by simpa using D
   refine ac (ab O (ai O (ad (aZ (cf (Er (Er (cf (Er ?_)))))))));refine R1 O O λw' l=>?_;refine ⟨?_,l.fr⟩;rw [T7 c B X,show c0+ck [m.nm]+ck m.aP+dz ((decide (3<m.aP.length)||decide (10<m.decls.length))||decide (6<m.procs.length))+aI m.decls+fL m.procs+eS m.main 1=jP m by rw [jP,xt]]
   rfl
  have ae:cE (c0+ck [m.nm]+ck m.aP+dz ((decide (3<m.aP.length)||decide (10<m.decls.length))||decide (6<m.procs.length))+aI m.decls+fL m.procs+eS m.main 1) i=0:=by simp at D; omega
  refine Ck (Eb (Et (Cr (I (Yi O O O Z) (ab O (Ln ?_))))));exact ct (i+1) Z ⟨Z,λj v=>by rcases gT.1 v with h | rfl; exact B j h; exact ae⟩ ag
 have bt:¬i<3:=by simp at C; omega
 refine Ce (Ex (Ex (cU (Et (ac (ai O (ad (aZ ?_))))))));refine R1 O O λw' l=>?_;refine ⟨?_,l.fr⟩;rw [iA,show jP m=c0+ck [m.nm]+ck m.aP+dz ((decide (3<m.aP.length)||decide (10<m.decls.length))||decide (6<m.procs.length))+aI m.decls+fL m.procs+eS m.main 1 by rw [jP,xt],T8 λj v=>B j Z]
def Uc (l:List Tx):(TW l).length=l.length:=by simp [TW]
def Ud (h:(hB bH ae).b6=0):e9 bH.op bH.n bH.mod bH.nm bH.args ae:=by cases bH; exact yY h
def M0 (x:ak):h9 x=lI x.op x.n x.mod x.nm (fz x.args):=by cases x; exact KF _ _ _ _ _
def qp {l:List a9}  (h:l.length=ae) (hi:aB<ae):∃y,l[aB]? = some y:=⟨_,dM (by omega)⟩
def oQ {d i:Nat} :∀{l:List ak},(ek l d).b6=0->l[i]? = some bH->(hB bH d).b6=0
 | [],_,h=>by simp at h
 | x::r,a,h=>by
   obtain ⟨b,c⟩:=EZ a
   cases i with
   | zero=>simp at h; subst h; exact b
   | succ i=>exact oQ (i:=i) c (by simpa using h)
def Ct (h:bH.op=2):h9 bH=[[105,110]]:=by rw [M0,lI,av Z,a8 h]; rfl
def Cy:dV prog 222=some 1:=aa
def Uf (h:(iz dA ae).b6=0):nN dA.op dA.mod dA.nm dA.args dA.body dA.other ae:=by cases dA; exact yZ h
def LO {d i:Nat} :∀{l:List bE},(dF l d).b6=0->l[i]? = some dA->(iz dA d).b6=0
 | [],_,h=>by simp at h
 | x::r,a,h=>by
   obtain ⟨b,c⟩:=E4 a
   cases i with
   | zero=>simp at h; subst h; exact b
   | succ i=>exact LO (i:=i) c (by simpa using h)
variable {aL:Int} {dH:Tx} {jH:List bE}
def zb (h:nN aL bZ dH ax cD jH ae) (a:aL≠3) (b:aL≠2):ax.length=1:=by rw [h.len a,av b]
def Ug (h:nN aL bZ dH ax cD jH ae) (a:aL=2):ax.length=2:=by rw [h.len Z,a8 a]
def Uh:Aw prog 437=some 9:=aa
def LP:zeroOf prog 437=some (.agg #[st [],st [],st [],st [],st [],st [],st [],st [],st []]):=aa
def Ui:uw prog 437=some (9,1):=aa
def Uj:dV prog 437=some 9:=aa
def Uk:ig prog 437=some 9:=aa
def Ul (w:World) :
   Calls prog 350 #[] w λe w'=>e = .returned (.agg (opsL.map st).toArray)/\Ext w w':=by
 refine enter func350 O 2 O O ?_;refine CE (Vs:=[]) (Ws.init au) (ac ?_);refine Al Y O LP λb=>?_;refine ad (ac (I (Iz LP Ui O O) (aT 0 Y O O O Uj O O O (ad (aZ ?_)))));refine WE.fm (hW O (ej 0 O O Uk O)) λw' a=>?_;exact ⟨O,a.fr⟩
variable {gY:Type}
def jG {f:a9->List gY} {l:List a9}  {x:a9} (h:l[ae]? = some x):(l.take (ae+1)).flatMap f=(l.take ae).flatMap f++f x:=by rw [j2 h]; simp
def BQ {f:a9->List gY} {l:List a9}  {x:a9} (h:l[ae]? = some x):((l.take ae).flatMap f).length+(f x).length<=(l.flatMap f).length:=by
 conv=>rhs; rw [<-pR (ae+1) l]
 rw [xU,bT,jG h,bT];omega
def Um (m:cm):(oK m).length=3+(m.aP.flatMap gi).length+(m.decls.flatMap sk).length+(m.procs.flatMap c6).length+1+(ld m.main).length+1:=by
 unfold oK;simp only [bT,b5,b8]
def Un (p:eI):(c6 p).length=(ri p.ao).length+3+(jh (p.params.map λs=>[s])).length+1+(p.aH.flatMap pr).length+(ld p.body).length:=by
 unfold c6;simp only [bT,b5,b8]
def sg (l:List Tx):List (List Tx):=l.map λs=>[s]
def Uo (p:eI):(c6 p).length=(ri p.ao).length+3+(jh (sg p.params)).length+1+(p.aH.flatMap pr).length+(ld p.body).length:=Un p
variable {bp:cm}
def Up (h:(jP bp).b6=0):hH (TW (oK bp))=J (oK bp):=SO (KC h)
def Nu (h:iA bp=0) (b:(oK bp).length<=1099511627776):(J (oK bp)).length<=15393162788864:=by
 have a:=BD.1 h;rw [<-Up a];have:=If (TW (oK bp)) (S5 a);rw [Uc] at this;omega
def zd:cJ prog 109 2=some 2:=aa
def Fz:cJ prog 113 1=some 1:=aa
def LQ (mod nm:Tx):(kP mod nm).length<=3:=by unfold kP; split<;>simp
def ze:∀l:List (List Tx),(jh l).length<=(l.map λx=>x.length+1).sum
 | []=>cx _
 | [x]=>by simp [jh]
 | x::y::r=>by
   have:=ze (y::r);simp only [jh,bT,jn,C2,b5,b8] at this ⊢;omega
def LR:∀(l:List (List Tx)),(at_ l 0).length+(at_ l 1).length<=(l.map λx=>x.length+1).sum
 | []=>by simp [at_]
 | [x]=>by simp [at_]
 | x::y::r=>by simp [at_]; omega
def Ur (op n:Int) (mod nm:Tx) (a:List (List Tx)):(lI op n mod nm a).length<=5+(a.map λx=>x.length+1).sum:=by
 have b:=LQ mod nm; have c:=ze a; have d:=LR a;unfold lI bO
 repeat' split
 all_goals (try simp only [bT,b5,b8])
 all_goals omega
mutual
def Us:∀x:ak,(h9 x).length+1<=7*wE x
 | .mk op n mod nm args=>by
   have a:=Ur op n mod nm (fz args); have b:=FA args;rw [h9,wE];omega
def FA:∀l:List ak,((fz l).map λx=>x.length+1).sum<=7*ff l
 | []=>by simp [fz]
 | x::r=>by
   have a:=Us x; have b:=FA r;rw [fz,ff,jn,C2];omega
end
def Ut (op:Int) (mod nm:Tx) (a:List (List Tx)) (b:List Tx) (c:Nat) (o:List Tx):(l6 op mod nm a b c o).length<=8+(a.map λx=>x.length+1).sum+b.length+o.length:=by
 have d:=LQ mod nm; have e:=ze a; have f:=LR a;unfold l6 bO oJ
 repeat' split
 all_goals (try simp only [bT,b5,b8])
 all_goals omega
mutual
def Uu:∀x:bE,(cb x).length+1<=9*wS x
 | .mk op mod nm args body other=>by
   have a:=Ut op mod nm (fz args) (iG body) other.length (iG other); have b:=FA args; have c:=BR body; have d:=BR other;rw [cb,wS];omega
def BR:∀l:List bE,(iG l).length<=9*dP l
 | []=>by simp [iG]
 | x::r=>by
   have a:=Uu x; have b:=BR r;rw [iG,dP,bT];omega
end
def LS:∀l:List Tx,(l.flatMap gi).length<=9*wN l
 | []=>by simp
 | x::r=>by
   have:=LS r;rw [i7,bT,wN];simp only [gi,b5,b8];omega
def LU:∀l:List Tx,(l.flatMap pr).length<=9*wN l
 | []=>by simp
 | x::r=>by
   have:=LU r;rw [i7,bT,wN];simp only [pr,b5,b8];omega
def LV (b:Bool):(ri b).length<=1:=by cases b<;>decide
def Dr:∀l:List de,(l.flatMap sk).length<=9*wD l
 | []=>by simp
 | x::r=>by
   have:=Dr r; have:=LV x.ao
   have h:(sj x).length<=5:=by
     unfold sj
     split
     · simp
     · split
       · simp
       · split<;>simp
   rw [i7,bT,wD,sk];simp only [bT,b5,b8];omega
def Uv (l:List Tx):(jh (sg l)).length<=9*wN l:=by
 have h:=ze (sg l)
 have:((sg l).map λx=>x.length+1).sum<=9*wN l:=by
   unfold sg
   induction l with
   | nil=>simp
   | cons x r a=>
     have:=a (ze _);simp only [jn,C2,b5,b8,wN] at this ⊢;omega
 omega
def LX (l:List bE):(ld l).length<=2+9*dP l:=by
 have:=BR l;unfold ld oJ;simp only [bT,b5,b8];omega
def LY:∀l:List eI,(l.flatMap c6).length<=9*wP l
 | []=>by simp
 | x::r=>by
   have:=LY r; have:=LV x.ao; have:=Uo x; have:=Uv x.params; have:=LU x.aH; have:=LX x.body;rw [i7,bT,wP];omega
def Uw (m:cm):(oK m).length<=9*wM m:=by
 have:=Um m; have:=LS m.aP; have:=Dr m.decls; have:=LY m.procs; have:=LX m.main;unfold wM;omega
def bh:ig prog 27=some 5:=aa
abbrev bB (a:Nat) (r:Option Addr×Nat) (l:Tk):List ah:=[aE a (.cells #[.slice r.1 l.length r.2] 227 (0,0))]
def g_:List PanicEntry:=[⟨.iface 229 (.agg #[]),false,false⟩]
def kq:List Tx->Tk->Option Tk
 | [],l=>some l
 | w::ws,l=>(bQ w l).bind (kq ws)
def e7 (w:Tx) (l:Tk):kq [w] l=bQ w l:=by unfold kq; cases bQ w l<;>rfl
def LZ (v w:Tx) (l:Tk):kq [v,w] l=(bQ v l).bind (bQ w):=by
 unfold kq
 cases bQ v l with
 | none=>rfl
 | some q=>exact e7 w q
def L0:∀{b:List Tx} {l r:Tk},h' l->kq b l=some r->h' r
 | [],l,r,a,h=>by injection h with h; subst h; exact a
 | w::b,l,r,a,h=>by
   obtain ⟨q,c,d⟩:=cN.1 h;exact L0 (KL a c) d
def FB (s:Tx) (t:Tok) (r:Tk):bQ s (t::r)=if (t.text==s)=true then some r else none:=rfl
variable {aj bS:Tk}
def iS (h:bQ bZ aj=some bS):bS.length+1=aj.length:=by
 cases aj with
 | nil=>cases h
 | cons t r=>
   rw [FB] at h
   split at h
   · injection h with h; subst h; rfl
   · cases h
def Ux (h:bQ bZ aj=some bS):kq (bZ::eG) aj=kq eG bS:=by show (bQ bZ aj).bind (kq eG)=_; rw [h]; rfl
def Uy (h:bQ bZ aj=none):kq (bZ::eG) aj=none:=by show (bQ bZ aj).bind (kq eG)=_; rw [h]; rfl
structure dB (l:Tk):Prop where
 all:h' l
 len:l.length<=4096
def sp (h:dB aj) (e:g0 aj eG bS):dB bS:=⟨e.ok,by have:=h.len; rw [e.2,bT] at this; omega⟩
def iT (h:dB aj) (e:bQ bZ aj=some bS):dB bS:=⟨KL h.all e,by have:=iS e; have:=h.len; omega⟩
def zf:∀{a:List Tx} {l q:Tk},kq a l=some q->q.length+a.length=l.length
 | [],l,q,h=>by injection h with h; subst h; rfl
 | w::a,l,q,h=>by
   obtain ⟨d,b,c⟩:=cN.1 h;have:=iS b; have:=zf c;simp only [b5];omega
def iU (h:dB aj) (e:kq eG aj=some bS):dB bS:=⟨L0 h.all e,by have:=zf e; have:=h.len; omega⟩
def qq (h:dB aj) (e:gQ aj=some (bZ,bS)):dB bS:=sp h (rl h.all e).1
def FC (h:dB aj) (e:ce aj=some (aL,bS)):dB bS:=sp h (E' h.all e)
def Dx {p:Tx×Tx} (h:dB aj) (e:mF aj=some (p,bS)):dB bS:=sp h (E_ (mod:=p.1) (nm:=p.2) h.all e)
def pC (h:dB aj) (e:a6 ae aj=some (bH,bS)):dB bS:=sp h (xj ae aj bH bS h.all e)
def pD (h:dB aj) (e:a6 ae aj=some (bH,bS)):bS.length+1<=aj.length:=by
 have a:=(xj ae aj bH bS h.all e).2;have b:=Kl bH;rw [a]
 cases c:h9 bH with
 | nil=>exact absurd c b
 | cons y t=>simp
def Uz (h:eG[ae]? = some bZ):eG.drop ae=bZ::eG.drop (ae+1):=by
 obtain ⟨hi,e⟩:=cS.1 h;rw [<-e];exact CM hi
def pE:cJ prog 227 0=some 0:=aa
def sq:hx prog 229=some []:=aa
def sr:zeroOf prog 229=some (.agg #[]):=aa
def ss:prog.concrete 229=true:=aa
def UA:AL prog 234 2=some 2:=aa
def UB:AL prog 234 1=some 1:=aa
def UC (c:Nat) (d:View) (r:Option Addr×Nat) (l:Tk) (s:Tx) (w:World) (f:Sl dW 3 d r.1 r.2 l) (g:Ws w (List.flatMap ah.ids (bB c r l)) (bB c r l) [d] w) :
   Calls prog 209 #[.pointer (some ⟨c,0,none⟩),st s] w λe w'=>∃i:Bool×(Option Addr×Nat)×Tk,e = .returned (.bool i.1)/\((i.1=true->bQ s l=some i.2.2)/\(i.1=false->bQ s l=none/\l=i.2.2)/\Sl dW 3 d i.2.1.1 i.2.1.2 i.2.2)/\Ws w (List.flatMap ah.ids (bB c r l)) (bB c i.2.1 i.2.2) [d] w':=by
 have m:=f.cap;have y:=f.max;have j:=f.drop 1;refine enter func209 O 33 O O ?_;refine CE g (ac (ai O (ad (ac (ab O (I (bV O) (I (Yf pE O) (I (Yd 0 O O O aa) ?_))))))));refine I (Yn ro O) (I (ed O O) (ab O ?_));apply La 9 (x:=((l.head?.map λt=>t.text==s).getD false)) O O O O Y O O O O O
 ·intro n
  obtain ⟨t,a,rfl⟩:∃t a,l=t::a:=by
    cases l with
    | nil=>simp at n
    | cons t a=>exact ⟨t,a,rfl⟩
  obtain ⟨o,p,q,k⟩:=f.aq 0 t rfl;have k:cw d o (p+0*3) t.cells:=k;refine Vg (Ym O) (Vg (bV O) (Vg (Yf pE O) (Vg (Yd 0 O O O aa) (Vg (Yo (i:=0) ro O O q au) (Vg (Yf TB O) (Vg (cC 0 aa O O (k 2 _ O)) (Vg (Ym O) ?_)))))));refine Vg (mT O O) ?_;exact Gt 9 O O O
 refine ai O (ad (Cs (ac (ab O (ad ?_)))));refine Cc O (λb=>?_) (λb=>?_)
 ·obtain ⟨t,a,rfl⟩:∃t a,l=t::a:=by
    cases l with
    | nil=>simp at b
    | cons t a=>exact ⟨t,a,rfl⟩
  have u:(t.text==s)=true:=by simpa using b
  have j:=j au;refine Cr (ab O (ab O (I (bV O) (I (Yf pE O) (I (Yd 0 O O O aa) (I (Am 1 ro O O O au m) (I (bV O) ?_)))))));refine I (Yf pE O) (aT 0 Y O O O Cy O O O (ad (ac (ab O (ai O (ad (aZ ?_)))))));refine R1 O O λw' g=>?_;exact ⟨(true,(if r.2-1=0 then r.1 else r.1.map (·.add (1*3)),r.2-1),a),by rw [b],⟨λ_=>by rw [FB,a8 u],λh=>(by cases h),j⟩,g⟩
 have v:bQ s l=none:=by
   cases l with
   | nil=>rfl
   | cons t a=>rw [FB,av]; intro h; simp [h] at b
 refine am (ac (ab O (ai O (ad (aZ ?_)))));refine R1 O O λw' g=>?_;exact ⟨(false,r,l),by rw [b],⟨λh=>(by cases h),λ_=>⟨v,O⟩,f⟩,g⟩
def ip (a:Nat) (b:View) (r:Option Addr×Nat) (l:Tk) (s:Tx) (c:Sl dW 3 b r.1 r.2 l):zc prog 209 [.pointer (some ⟨a,0,none⟩),st s] ((bB a r l)) [b] (ι:=Bool×(Option Addr×Nat)×Tk) (λi=>.bool i.1) (λi=>bB a i.2.1 i.2.2) (λi=>(i.1=true->bQ s l=some i.2.2)/\(i.1=false->bQ s l=none/\l=i.2.2)/\Sl dW 3 b i.2.1.1 i.2.1.2 i.2.2):=⟨aK,λw d=>UC a b r l s w c d⟩
def UD (c:Nat) (d:View) (r:Option Addr×Nat) (l:Tk) (H:View) (a:Option Addr) (n:Nat) (b:List Tx) (w:World) (k:Sl rdStr 1 H a n b) (z:Sl dW 3 d r.1 r.2 l) (f:Ws w (List.flatMap ah.ids (bB c r l)) (bB c r l) [d,H] w) :
   Calls prog 207 #[.pointer (some ⟨c,0,none⟩),.slice a b.length n] w λe w'=>(∃(i:Option Addr×Nat) (q:Tk),e = .returned (.tuple #[])/\kq b l=some q/\Sl dW 3 d i.1 i.2 q/\Ws w (List.flatMap ah.ids (bB c r l)) (bB c i q) [d,H] w')\/(∃(i:Option Addr×Nat) (q:Tk),e = .panicked g_/\kq b l=none/\Ws w (List.flatMap ah.ids (bB c r l)) (bB c i q) [d,H] w'):=by
 have K:=k.cap;have L:=k.max;refine enter func207 O 19 O O ?_;refine CE f (ac (ab O (I (Yn dT O) (ab O (ad (Cb ?_))))));refine e0 (ι:=Nat×(Option Addr×Nat)×Tk) (λg=>[(8,.int .i64 (g.1:Int))]) [(0,_),(6,_),(7,_)] (λg=>Ws w (List.flatMap ah.ids (bB c r l)) (bB c g.2.1 g.2.2) [d,H]) (λg=>g.1<=b.length/\kq b l=kq (b.drop g.1) g.2.2/\Sl dW 3 d g.2.1.1 g.2.1.2 g.2.2) (λg=>b.length-g.1) (0,r,l) ⟨cx _,O,z⟩ ag ?_;intro g ⟨hi,j,s⟩;refine ac (I (cy O O) (ad (Cs ?_)));refine Cc O (λm=>?_) (λm=>?_)
 ·have A:g.1<b.length:=by simpa using m
  obtain ⟨x,t⟩:=dw A;obtain ⟨B,C,M,o⟩:=k.aq g.1 x t;have o:cw H B (C+g.1*1) (eE x):=o;have u:=Uz t;refine am (Cs (Cb (ac (I (Yo dT O O sH Z) (I (cC 1 aa O O (o 0 _ O)) (ai O (ad (ac (ab O (ab O ?_))))))))));refine WL.kw (ip c d g.2.1 g.2.2 x s) ?_;intro ⟨N,v,y⟩ ⟨D,E,F⟩;refine I (eR O) (ad ?_);refine Cc O (λp=>?_) (λp=>?_)
  ·obtain ⟨G,P⟩:=E (by simpa using p);refine Cr (I (Yb sr sq O O) (I (pZ ss O) ?_));refine WL.panic Y O ?_;refine WE.b' (Ep (Ep (WE.b' ?_)));refine an λw' f=>?_;exact .inr ⟨v,y,O,by rw [j,u,Uy G],(by have h:=f; exact h)⟩
  have J:=D (by simpa using p);refine Ck (Eb (Et (Cr (I (Yi O O O Z) (ab O (Ln ?_))))));exact ct ((g.1+1,v,y):Nat×(Option Addr×Nat)×Tk) (by show b.length-(g.1+1)<b.length-g.1; omega) ⟨by show g.1+1<=b.length; omega,by rw [j,u,Ux J],F⟩ ag
 have Q:¬g.1<b.length:=by simpa using m
 rw [C3 Z] at j;refine Ce (Ex (Ex (cU ?_)));refine E0 O λw' f=>?_;exact .inl ⟨g.2.1,g.2.2,O,by rw [j]; rfl,s,f⟩
def iV (b:Nat) (d:View) (r:Option Addr×Nat) (l:Tk) (H:View) (a:Option Addr) (n:Nat) (c:List Tx) (m:Sl rdStr 1 H a n c) (o:Sl dW 3 d r.1 r.2 l):vh prog 207 [.pointer (some ⟨b,0,none⟩),.slice a c.length n] ((bB b r l)) [d,H] (ι:=(Option Addr×Nat)×Tk) (κ:=(Option Addr×Nat)×Tk) (λ_=>.tuple #[]) (λi=>bB b i.1 i.2) (λi=>kq c l=some i.2/\Sl dW 3 d i.1.1 i.1.2 i.2) (λ_=>g_) (λi=>bB b i.1 i.2) (λ_=>kq c l=none):=⟨aK,λw p=>(UD b d r l H _ _ c w m o p).mono λe w' h=>by
   rcases h with ⟨f,q,g,j,k,s⟩ | ⟨f,q,g,j,k⟩
   · exact .inl ⟨(f,q),g,⟨j,k⟩,s⟩
   · exact .inr ⟨(f,q),g,j,k⟩⟩
def UE (b:Nat) (c:View) (r:Option Addr×Nat) (l:Tk) (k:Int) (w:World) (f:Sl dW 3 c r.1 r.2 l) (g:Ws w (List.flatMap ah.ids (bB b r l)) (bB b r l) [c] w) :
   Calls prog 259 #[.pointer (some ⟨b,0,none⟩),.int .i64 k] w λe w'=>(∃(t:Tok) (j:Option Addr×Nat) (q:Tk),e = .returned (.agg #[.int .i64 t.kind,.int .i64 t.n,st t.text])/\nc k l=some (t,q)/\Sl dW 3 c j.1 j.2 q/\Ws w (List.flatMap ah.ids (bB b r l)) (bB b j q) [c] w')\/(∃(j:Option Addr×Nat) (q:Tk),e = .panicked g_/\nc k l=none/\Ws w (List.flatMap ah.ids (bB b r l)) (bB b j q) [c] w'):=by
 have v:=f.cap;have C:=f.max;have o:=f.drop 1;refine enter func259 O 40 O O ?_;refine CE g (ac ?_);refine Al Y O vk λD=>?_;refine ad (Cs (ac (ab O (I (bV O) (I (Yf pE O) (I (Yd 1 O O O aa) (I (Yn ro O) (I (bx O O) (ab O ?_)))))))));apply Lo 9 (x:=(!((l.head?.map λt=>t.kind==k).getD false))) O O O O Y O O O O O
 ·intro y
  obtain ⟨t,a,rfl⟩:∃t a,l=t::a:=by
    cases l with
    | nil=>simp at y
    | cons t a=>exact ⟨t,a,rfl⟩
  obtain ⟨p,s,u,d⟩:=f.aq 0 t rfl;have d:cw c p (s+0*3) t.cells:=d;refine Vg (Ym O) (Vg (bV O) (Vg (Yf pE O) (Vg (Yd 1 O O O aa) (Vg (Yo (i:=0) ro O O u au) (Vg (Yf Lk O) (Vg (cC 0 aa O O (d 0 _ O)) (Vg (Ym O) ?_)))))));refine Vg (fh O O) ?_;exact Gt 9 O O O
 refine ad ?_;refine Cc O (λm=>?_) (λm=>?_)
 ·have z:nc k l=none:=by
    cases l with
    | nil=>rfl
    | cons t a=>
      simp only [nc];rw [av];intro h;simp [h] at m;omega
  refine Cr (I (Yb sr sq O O) (I (pZ ss O) ?_));refine WL.panic Y O ?_;refine Ep ?_;refine an λw' g=>?_;exact .inr ⟨r,l,O,z,(by have h:=g; have h:=h.aJ 1 O; have h:=Wt 1 h; exact h)⟩
 obtain ⟨t,a,rfl⟩:∃t a,l=t::a:=by
   cases l with
   | nil=>simp at m
   | cons t a=>exact ⟨t,a,rfl⟩
 have A:t.kind=k:=by simp at m; exact m.2
 have B:nc k (t::a)=some (t,a):=by simp only [nc]; rw [a8 A]
 have o:=o au;obtain ⟨p,s,u,d⟩:=f.aq 0 t rfl;have d:cw c p (s+0*3) t.cells:=d;refine am (ac (ab O (I (bV O) (I (Yf pE O) (I (Yd 1 O O O aa) (I (Yo (i:=0) ro O O u au) (I (eq 0 xo O O O (d)) ?_)))))));refine Al Y O vk λE=>?_;refine aT 0 Y O O O y' O O O (ad (ac (ab O (ab O (I (bV O) (I (Yf pE O) (I (Yd 2 O O O aa) (I (Am 1 ro O O O au v) ?_))))))));refine I (bV O) (I (Yf pE O) (aT 2 Y O O O Cy O O O (ad (ac (I (cI 0 O O xo O) (aT 1 Y O O O y' O O O (ad (aZ ?_))))))));refine WE.fm (hW O (ej 1 O O xo O)) λw' g=>?_;exact .inl ⟨t,(if r.2-1=0 then r.1 else r.1.map (·.add (1*3)),r.2-1),a,O,B,o,Wd 2 g⟩
def Dy (a:Nat) (b:View) (r:Option Addr×Nat) (l:Tk) (k:Int) (j:Sl dW 3 b r.1 r.2 l):vh prog 259 [.pointer (some ⟨a,0,none⟩),.int .i64 k] ((bB a r l)) [b] (ι:=Tok×(Option Addr×Nat)×Tk) (κ:=(Option Addr×Nat)×Tk) (λi=>.agg #[.int .i64 i.1.kind,.int .i64 i.1.n,st i.1.text]) (λi=>bB a i.2.1 i.2.2) (λi=>nc k l=some (i.1,i.2.2)/\Sl dW 3 b i.2.1.1 i.2.1.2 i.2.2) (λ_=>g_) (λi=>bB a i.1 i.2) (λ_=>nc k l=none):=⟨aK,λw m=>(UE a b r l k w j m).mono λe w' h=>by
   rcases h with ⟨t,c,q,d,f,g,o⟩ | ⟨c,q,d,f,g⟩
   · exact .inl ⟨(t,c,q),d,⟨f,g⟩,o⟩
   · exact .inr ⟨(c,q),d,f,g⟩⟩
def UF (a:Nat) (c:View) (r:Option Addr×Nat) (l:Tk) (w:World) (m:Sl dW 3 c r.1 r.2 l) (b:Ws w (List.flatMap ah.ids (bB a r l)) (bB a r l) [c] w) :
   Calls prog 208 #[.pointer (some ⟨a,0,none⟩)] w λe w'=>(∃(s:Tx) (d:Option Addr×Nat) (q:Tk),e = .returned (st s)/\gQ l=some (s,q)/\Sl dW 3 c d.1 d.2 q/\Ws w (List.flatMap ah.ids (bB a r l)) (bB a d q) [c] w')\/(∃(d:Option Addr×Nat) (q:Tk),e = .panicked g_/\gQ l=none/\Ws w (List.flatMap ah.ids (bB a r l)) (bB a d q) [c] w'):=by
 refine enter func208 O 13 O O ?_;refine CE b (ac (ai O (ad (ac (ab O ?_)))));refine WL.kx (Dy a c r l 1 m) ?_ ?_
 ·intro ⟨n,o⟩ p;refine Ep ?_;refine an λw' b=>?_;exact .inr ⟨n,o,O,by unfold gQ; rw [p]; rfl,(by have h:=b; exact h)⟩
 intro ⟨i,j,f⟩ ⟨k,t⟩;refine I (IA UA O O) (ai O (ad (Cs (ac (ab O (Lp Y O aK O (λw b=>BM _ w) (I (eR O) (ad ?_))))))));refine Cc O (λg=>?_) (λg=>?_)
 ·have u:gQ l=none:=by unfold gQ; rw [k]; simp only [cM]; rw [av (by simpa using g)]
  refine Cr (I (Yb sr sq O O) (I (pZ ss O) ?_));refine WL.panic Y O ?_;refine Ep ?_;refine an λw' b=>?_;exact .inr ⟨j,f,O,u,(by have h:=b; exact h)⟩
 have v:gQ l=some (i.text,f):=by unfold gQ; rw [k]; simp only [cM]; rw [a8 (by simpa using g)]
 refine am (ac (ab O (ai O (ad (aZ ?_)))));refine R1 O O λw' b=>?_;exact .inl ⟨i.text,j,f,O,v,t,b⟩
def qr (a:Nat) (b:View) (r:Option Addr×Nat) (l:Tk) (j:Sl dW 3 b r.1 r.2 l):vh prog 208 [.pointer (some ⟨a,0,none⟩)] ((bB a r l)) [b] (ι:=(Tx)×(Option Addr×Nat)×Tk) (κ:=(Option Addr×Nat)×Tk) (λi=>st i.1) (λi=>bB a i.2.1 i.2.2) (λi=>gQ l=some (i.1,i.2.2)/\Sl dW 3 b i.2.1.1 i.2.1.2 i.2.2) (λ_=>g_) (λi=>bB a i.1 i.2) (λ_=>gQ l=none):=⟨aK,λw k=>(UF a b r l w j k).mono λe w' h=>by
   rcases h with ⟨t,c,q,d,f,g,m⟩ | ⟨c,q,d,f,g⟩
   · exact .inl ⟨(t,c,q),d,⟨f,g⟩,m⟩
   · exact .inr ⟨(c,q),d,f,g⟩⟩
def UG (a:Nat) (b:View) (r:Option Addr×Nat) (l:Tk) (w:World) (f:Sl dW 3 b r.1 r.2 l) (c:Ws w (List.flatMap ah.ids (bB a r l)) (bB a r l) [b] w) :
   Calls prog 260 #[.pointer (some ⟨a,0,none⟩)] w λe w'=>(∃(n:Int) (d:Option Addr×Nat) (q:Tk),e = .returned (.int .i64 n)/\ce l=some (n,q)/\Sl dW 3 b d.1 d.2 q/\Ws w (List.flatMap ah.ids (bB a r l)) (bB a d q) [b] w')\/(∃(d:Option Addr×Nat) (q:Tk),e = .panicked g_/\ce l=none/\Ws w (List.flatMap ah.ids (bB a r l)) (bB a d q) [b] w'):=by
 refine enter func260 O 6 O O ?_;refine CE c (ac (ai O (ad (ac (ab O ?_)))));refine WL.kx (Dy a b r l 2 f) ?_ ?_
 ·intro ⟨g,i⟩ j;refine Ep ?_;refine an λw' c=>?_;exact .inr ⟨g,i,O,by unfold ce; rw [j]; rfl,(by have h:=c; exact h)⟩
 intro ⟨k,m,o⟩ ⟨p,s⟩;refine I (IA UB O O) (ai O (ad (aZ ?_)));refine R1 O O λw' c=>?_;exact .inl ⟨k.n,m,o,O,by unfold ce; rw [p]; rfl,s,c⟩
def FD (a:Nat) (b:View) (r:Option Addr×Nat) (l:Tk) (j:Sl dW 3 b r.1 r.2 l):vh prog 260 [.pointer (some ⟨a,0,none⟩)] ((bB a r l)) [b] (ι:=(Int)×(Option Addr×Nat)×Tk) (κ:=(Option Addr×Nat)×Tk) (λi=>.int .i64 i.1) (λi=>bB a i.2.1 i.2.2) (λi=>ce l=some (i.1,i.2.2)/\Sl dW 3 b i.2.1.1 i.2.1.2 i.2.2) (λ_=>g_) (λi=>bB a i.1 i.2) (λ_=>ce l=none):=⟨aK,λw k=>(UG a b r l w j k).mono λe w' h=>by
   rcases h with ⟨t,c,q,d,f,g,m⟩ | ⟨c,q,d,f,g⟩
   · exact .inl ⟨(t,c,q),d,⟨f,g⟩,m⟩
   · exact .inr ⟨(c,q),d,f,g⟩⟩
def UH (a:Nat) (c:View) (r:Option Addr×Nat) (l:Tk) (w:World) (v:dB l) (x:Sl dW 3 c r.1 r.2 l) (b:Ws w (List.flatMap ah.ids (bB a r l)) (bB a r l) [c] w) :
   Calls prog 314 #[.pointer (some ⟨a,0,none⟩)] w λe w'=>(∃(p:Tx×Tx) (d:Option Addr×Nat) (q:Tk),e = .returned (.tuple #[st p.1,st p.2])/\mF l=some (p,q)/\Sl dW 3 c d.1 d.2 q/\Ws w (List.flatMap ah.ids (bB a r l)) (bB a d q) [c] w')\/(∃(d:Option Addr×Nat) (q:Tk),e = .panicked g_/\mF l=none/\Ws w (List.flatMap ah.ids (bB a r l)) (bB a d q) [c] w'):=by
 refine enter func314 O 13 O O ?_;refine CE b (ac (ai O (ai O (ad (ac (ab O ?_))))));refine WL.kx (qr a c r l x) ?_ ?_
 ·intro ⟨g,i⟩ j;refine Ep ?_;refine an λw' b=>?_;exact .inr ⟨g,i,O,by unfold mF; rw [j]; rfl,(by have h:=b; exact h)⟩
 intro ⟨n,y,o⟩ ⟨f,z⟩;have A:=qq v f;refine ai O (ad (Cs (ac (ab O ?_))));refine WL.kw (ip a c y o [46] z) ?_;intro ⟨L,s,B⟩ ⟨C,D,t⟩;refine ad ?_;refine Cc O (λk=>?_) (λk=>?_)
 ·have m:=C k;have E:=iT A m;refine ac (ab O (ab O ?_));refine WL.kx (qr a c s B t) ?_ ?_
  ·intro ⟨g,i⟩ j;refine Ep (Ep ?_);refine an λw' b=>?_;exact .inr ⟨g,i,O,by unfold mF; rw [f]; simp only [cM]; rw [m]; simp only; rw [j]; rfl,(by have h:=b; exact h)⟩
  intro ⟨F,G,H⟩ ⟨u,I⟩;have M:=qq E u;refine ai O (ai O (ad (aZ (Er ?_))));refine WE.jp O O O λw' b=>?_;exact .inl ⟨(n,F),G,H,O,by unfold mF; rw [f]; simp only [cM]; rw [m]; simp only; rw [u]; rfl,I,b⟩
 obtain ⟨J,K⟩:=D k;subst K;refine am (ac (ab O (ai O (ai O (ad (aZ ?_))))));refine WE.jp O O O λw' b=>?_;exact .inl ⟨([],n),s,o,O,by unfold mF; rw [f]; simp only [cM]; rw [J],t,b⟩
def L3 (a:Nat) (b:View) (r:Option Addr×Nat) (l:Tk) (j:dB l) (k:Sl dW 3 b r.1 r.2 l):vh prog 314 [.pointer (some ⟨a,0,none⟩)] ((bB a r l)) [b] (ι:=(Tx×Tx)×(Option Addr×Nat)×Tk) (κ:=(Option Addr×Nat)×Tk) (λi=>.tuple #[st i.1.1,st i.1.2]) (λi=>bB a i.2.1 i.2.2) (λi=>mF l=some (i.1,i.2.2)/\Sl dW 3 b i.2.1.1 i.2.1.2 i.2.2) (λ_=>g_) (λi=>bB a i.1 i.2) (λ_=>mF l=none):=⟨aK,λw m=>(UH a b r l w j k m).mono λe w' h=>by
   rcases h with ⟨t,c,q,d,f,g,n⟩ | ⟨c,q,d,f,g⟩
   · exact .inl ⟨(t,c,q),d,⟨f,g⟩,n⟩
   · exact .inr ⟨(c,q),d,f,g⟩⟩
abbrev XE:=ak×Option Addr×Nat
def XE.cells (e:XE):List Value:=qS e.1 e.2.1 e.2.2
def XE.dk (e:XE):(XE.cells e).length=5:=rfl
def XE.one (e:XE):(XE.cells e).all (·.oneCell')=true:=rfl
def li (H:View) (b o:Nat) (e:XE):Prop:=cw H b o (XE.cells e)
def iq (J:View) (f:Nat) (es:List XE):Prop:=∀e ∈ es,Sl (gn f) 5 J e.2.1 e.2.2 e.1.args
def iq.nil (J:View) (f:Nat):iq J f []:=by intro e h; simp at h
variable {b_ fW:View} {xO:List XE}
def iq.snoc {e:XE} (h:iq bc ae xO) (d:bK bc fW) (f:bK b_ fW) (g:Sl (gn ae) 5 b_ e.2.1 e.2.2 e.1.args):iq fW ae (xO++[e]):=by
 intro x a
 rcases fB.1 a with a | a
 · exact (h x a).imp λb o y c=>qU d (eH _) b o y c
 · rw [fH] at a
   subst a;exact g.imp λb o y c=>qU f (eH _) b o y c
def lj (h:Sl li 5 bc cj aB xO) (hv:bK bc fW) (d:bK b_ fW) (f:iq b_ ae xO):Sl (gn (ae+1)) 5 fW cj aB (xO.map (·.1)):=by
 refine ⟨by simpa using h.cap,h.max,h.spot,λi x a=>?_⟩;rw [gS] at a;obtain ⟨e,c,rfl⟩:=dX.1 a;obtain ⟨b,o,g,j⟩:=h.aq i e c;exact ⟨b,o,g,e.2.1,e.2.2,cw.mono hv j,(f e (gu c)).imp λb o y k=>qU d (eH _) b o y k⟩
def zh (h:Sl (gn ae) 5 bc cj aB ax) (hv:bK bc b_):Sl (gn ae) 5 b_ cj aB ax:=h.imp λb o y a=>qU hv (eH _) b o y a
structure GA where
 es:List XE
 a:Option Addr
 c:Nat
 J:View
 r:Option Addr×Nat
 q:Tk
def BS (b:View) (f:Nat):Prop:=∀(a:Nat) (r:Option Addr×Nat) (l:Tk) (d:Nat) (w:World),f+d=7->dB l->Sl dW 3 b r.1 r.2 l->Ws w (List.flatMap ah.ids (bB a r l)) (bB a r l) [b] w->
 Calls prog 313 #[.pointer (some ⟨a,0,none⟩),.int .i64 (d:Int)] w λe w'=>(∃(x:ak) (s:Option Addr×Nat) (c:Option Addr×Nat) (q:Tk),e = .returned (.agg #[.int .i64 (x).op,.int .i64 (x).n,st (x).mod,st (x).nm,.slice s.1 (x).args.length s.2])/\a6 f l=some (x,q)/\Sl (gn f) 5 (nv w w') s.1 s.2 x.args/\Sl dW 3 b c.1 c.2 q/\Ws w (List.flatMap ah.ids (bB a r l)) (bB a c q) [b] w')\/(∃(c:Option Addr×Nat) (q:Tk),e = .panicked g_/\a6 f l=none/\Ws w (List.flatMap ah.ids (bB a r l)) (bB a c q) [b] w')
variable {a5:Tk->Option (ak×Tk)} {hr:Tk}
def UI (a:a5 aj=some (bH,bS)) (b:bQ [41] bS=some hr):l7 a5 (ae+1) aj=some ([bH],hr):=by rw [l7,a]; simp only [cM]; rw [b]
def UJ (a:a5 aj=some (bH,bS)) (b:bQ [41] bS=none) (c:bQ [44] bS=some hr):l7 a5 (ae+1) aj=(l7 a5 ae hr).map λp=>(bH::p.1,p.2):=by rw [l7,a]; simp only [cM]; rw [b]; simp only; rw [c]
def UK (a:a5 aj=some (bH,bS)) (b:bQ [41] bS=none) (c:bQ [44] bS=none):l7 a5 (ae+1) aj=none:=by rw [l7,a]; simp only [cM]; rw [b]; simp only; rw [c]
def UL (a:a5 aj=none):l7 a5 (ae+1) aj=none:=by rw [l7,a]; rfl
def L5:∀(a:List Tx) (i k:Nat) (w:Tx) (l q:Tk),a[i]? = some w->(∀j v,j<i->a[j]? = some v->bQ v l=none)->bQ w l=some q->oM a k l=some (k+i,q)
 | [],i,k,w,l,q,h,_,_=>by simp at h
 | v::a,0,k,w,l,q,h,_,b=>by
   simp at h; subst h;rw [oM,b]; rfl
 | v::a,i+1,k,w,l,q,h,c,b=>by
   rw [oM,c 0 v Z rfl];simp only;rw [L5 a i (k+1) w l q (by simpa using h) (λj u e d=>c (j+1) u Z (by simpa using d)) b]
   congr 2
   omega
def L6:∀(a:List Tx) (k:Nat) (l:Tk),(∀w ∈ a,bQ w l=none)->oM a k l=none
 | [],_,_,_=>rfl
 | w::a,k,l,h=>by
   rw [oM,h w au];exact L6 a (k+1) l λv hv=>h v (cz _ hv)
def UM (h:opsL[ae]? = some bZ):((opsL.map st).toArray)[ae]? = some (st bZ):=by
 rw [zQ,gS,h]; rfl
def bP:hc prog 237 239 (.agg #[.int .i64 0,.int .i64 0,st [],st [],.slice none 0 0]) 5 72:=jr aa
def pF (j:BS bc ae) (a:Nat) (r:Option Addr×Nat) (l:Tk) (d:Nat) (u:ae+d=7) (k:dB l) (m:Sl dW 3 bc r.1 r.2 l):zm prog 313 [.pointer (some ⟨a,0,none⟩),.int .i64 (d:Int)] (bB a r l) [bc] (ι:=(ak×(Option Addr×Nat))×(Option Addr×Nat)×Tk) (κ:=(Option Addr×Nat)×Tk) (λi=>.agg #[.int .i64 (i.1.1).op,.int .i64 (i.1.1).n,st (i.1.1).mod,st (i.1.1).nm,.slice i.1.2.1 (i.1.1).args.length i.1.2.2]) (λi=>bB a i.2.1 i.2.2) (λF i=>a6 ae l=some (i.1.1,i.2.2)/\Sl (gn ae) 5 F i.1.2.1 i.1.2.2 i.1.1.args/\Sl dW 3 bc i.2.1.1 i.2.1.2 i.2.2) (λ_=>g_) (λi=>bB a i.1 i.2) (λ_=>a6 ae l=none):=⟨⟨aK,λ_ _ h=>h⟩,λw o=>(j a r l d w Z k m o).mono λe w' h=>by
   rcases h with ⟨x,s,b,q,c,f,g,p,t⟩ | ⟨b,q,c,f,g⟩
   · exact .inl ⟨((x,s),b,q),c,⟨f,g,p⟩,t⟩
   · exact .inr ⟨(b,q),c,f,g⟩⟩
def L7 (i:Nat) (b:View) (r:Option Addr×Nat) (l:Tk) (f d:Nat) (w:World) (ap:BS b f) (aq:f+d=7) (y:dB l) (ar:Sl dW 3 b r.1 r.2 l) (j:Ws w (List.flatMap ah.ids (bB i r l)) (bB i r l) [b] w) :
   Calls prog 315 #[.pointer (some ⟨i,0,none⟩),.int .i64 (d:Int)] w λe w'=>(∃(xs:List ak) (s:Option Addr×Nat) (u:Option Addr×Nat) (q:Tk),e = .returned (.slice s.1 xs.length s.2)/\lJ (a6 f) l=some (xs,q)/\Sl (gn (f+1)) 5 (nv w w') s.1 s.2 xs/\Sl dW 3 b u.1 u.2 q/\Ws w (List.flatMap ah.ids (bB i r l)) (bB i u q) [b] w')\/(∃(u:Option Addr×Nat) (q:Tk),e = .panicked g_/\lJ (a6 f) l=none/\Ws w (List.flatMap ah.ids (bB i r l)) (bB i u q) [b] w'):=by
 refine enter func315 O 21 O O ?_;refine CE j (ac (ai O (ad (ac (ai O (LW (λ_ h=>h.g3 239 5) ?_))))));refine WL.v0 ?_;refine ad (Cs (ac (ab O (Lf 1 O ?_))));refine WL.kw (ip i b r l [41] ar) ?_;intro ⟨aQ,I,av⟩ ⟨aw,ax,K⟩;refine ad ?_;refine Cc O (λB=>?_) (λB=>?_)
 ·have L:=aw B;have aR:=iT y L;refine ac (ab O (ai O (ad (aZ (Er ?_)))));refine R1 O O λw' j=>?_;exact .inl ⟨[],(none,0),I,av,O,by rw [lJ,L],Sl.nil,K,Wv 1 (Wt 1 j)⟩
 obtain ⟨ay,az⟩:=ax B;subst az;refine am (Cb ?_);refine e0 (ι:=GA) (λg=>[(5,.slice g.a g.es.length g.c)]) [(0,_),(1,_)] (λg=>Ws w (List.flatMap ah.ids (bB i r l)) (bB i g.r g.q++[cW 239 5 XE.cells g.a g.c g.es]) [g.J,b]) (λg=>(g.es.length+g.q.length<=l.length/\dB g.q)/\Sl dW 3 b g.r.1 g.r.2 g.q/\(eD w g.J/\iq g.J f g.es)/\∃n,g.q.length<n/\lJ (a6 f) l=(l7 (a6 f) n g.q).map λp=>(g.es.map (·.1)++p.1,p.2)) (λg=>g.q.length) ⟨[],none,0,v0,I,l⟩ ⟨⟨au,y⟩,K,⟨ol w,iq.nil _ _⟩,l.length+1,au,by rw [lJ,ay]; simp⟩ (λ_ h=>by have h:=Ws.cK h (b9:=[v0,b]) au; exact h) ?_;intro g ⟨⟨aS,C⟩,aA,⟨M,N⟩,o⟩;refine Cb (ac (ab O (ab O (ab O ?_))));refine WL.ke (pF (ap) i g.r g.q d aq C aA) ?_ ?_
 ·intro ⟨D,E⟩ F;refine Ep (WE.b' (Ep (WE.b' ?_)));refine an λw' j=>?_;obtain ⟨n,P,o⟩:=o;obtain ⟨n,rfl⟩:∃k,n=k+1:=⟨n-1,Z⟩;exact .inr ⟨D,E,O,by rw [o,UL F]; rfl,(by have h:=j; have h:=Wt 1 h; have h:=Ws.cK h (b9:=[b]) au; exact h)⟩
 intro aT ⟨⟨z,t⟩,aB,A⟩ Q ⟨v,R,aC⟩;have S:dB A:=pC C v;have aU:A.length+1<=List.length (g.q):=pD C v;refine WL.jc λU V W X=>?_;refine Lb Y O bP O O O O λaV=>?_;refine dn 0 (.cells (XE.cells (z,t.1,t.2)).toArray 239 (0,0)) O O ?_;refine LA ((z,t.1,t.2):XE) 2 0 Y O bP O O O O O O (by have:=y.len; omega) (by have:=y.len; omega) λaa ae=>?_;refine ai O (ad (Cs (ac (ab O (Lf 1 O ?_)))));refine WL.kw (ip i b aB A [41] aC) ?_;intro ⟨aW,af,aD⟩ ⟨aF,aG,ag⟩;refine ad ?_;refine Cc O (λG=>?_) (λG=>?_)
 ·have aj:=aF G;have aX:=iT S aj;obtain ⟨n,P,o⟩:=o;obtain ⟨n,rfl⟩:∃k,n=k+1:=⟨n-1,Z⟩;refine Cs ?_;refine WC.mu (rd:=li) 2 O (λk al=>by simp [bB,aE] at al; subst al; simp [eQ,bB,aE,cq]) XE.dk eZ λaY aH aI=>?_;refine Cr (ab O (ai O (ad (aZ (Er (cf (Er (cf ?_))))))));refine R1 O O λw' j=>?_;exact .inl ⟨(g.es++[(z,t.1,t.2)]).map (·.1),(aa,ae),af,aD,by rw [gD],by rw [o,UI v aj]; simp,lj aI (c8 j au aH) (c8 j au (X _ Q M)) (iq.snoc N W V R),ag,Wv 2 (Wt 1 j)⟩
 obtain ⟨ao,aK⟩:=aG G;subst aK;obtain ⟨n,P,o⟩:=o;obtain ⟨n,rfl⟩:∃k,n=k+1:=⟨n-1,Z⟩;refine am (Cr (ab O ?_));refine Lb Y O ei O O O O λa0=>?_;refine h1 (T:=9) (m:=1) 0 [[44]] O O (show 1<=1 by decide) bf λaL aM=>?_;refine WL.kx (iV i b af A aL _ _ [[44]] aM ag) ?_ ?_
 ·intro ⟨D,E⟩ F;refine WE.b' (Ep (WE.b' ?_));refine an λw' j=>?_;exact .inr ⟨D,E,O,by rw [o,UK v ao ((e7 _ _).symm.trans F)]; rfl,(by have h:=j; have h:=Wt 1 h; have h:=Ws.cK h (b9:=[b]) au; exact h)⟩
 intro ⟨aN,H⟩ ⟨x,aO⟩;have aP:=iU S x;refine Ln (Eb ?_)
 exact ct (⟨g.es++[(z,t.1,t.2)],aa,ae,U,aN,H⟩:GA) (by have:=zf x; simp at this; show H.length<g.q.length; omega) ⟨⟨by have:=zf x; simp at this ⊢; omega,aP⟩,aO,⟨X _ Q M,iq.snoc N W V R⟩,n,(show H.length<n by have:=zf x; simp at this; omega),by rw [o,UJ v ao ((e7 _ _).symm.trans x)]; simp [pU]⟩ (λ_ h=>by
     have h:=h.aJ 2 rfl;have h:=h.aJ 1 rfl;have h:=Wt 2 h;have h:=Ws.cK h (b9:=[U,b]) au
     exact h)
def UN (h:bQ [105,110] aj=some bS):nP a5 aj=some (ak.mk 2 0 [] [] [],bS):=by unfold nP; rw [show gh=[105,110] from rfl,h]
def L8 (a:bQ [105,110] aj=none) (h:bQ [33] aj=some bS):nP a5 aj=(a5 bS).map λx=>(ak.mk 6 0 [] [] [x.1],x.2):=by unfold nP; rw [show gh=[105,110] from rfl,a]; simp only; rw [h]
def L9 (a:bQ [105,110] aj=none) (b:bQ [33] aj=none) (h:bQ [40] aj=some bS):nP a5 aj=ne a5 bS:=by unfold nP; rw [show gh=[105,110] from rfl,a]; simp only; rw [b]; simp only; rw [h]
def vt (a:bQ [105,110] aj=none) (b:bQ [33] aj=none) (h:bQ [40] aj=none):nP a5 aj=(mF aj).bind λp=>pw a5 p.1.1 p.1.2 p.2:=by unfold nP; rw [show gh=[105,110] from rfl,a]; simp only; rw [b]; simp only; rw [h]
def FE (h:bQ [91] aj=some bS):pw a5 bZ dH aj=(a5 bS).bind λx=>(bQ [93] x.2).map λr=>(ak.mk 4 0 bZ dH [x.1],r):=by unfold pw; rw [h]
def DZ {l q:Tk} (a:bQ [91] l=none) (h:bQ [40] l=some q):pw a5 bZ dH l=(lJ a5 q).map λq=>(ak.mk 5 0 bZ dH q.1,q.2):=by unfold pw; rw [a]; simp only; rw [h]
def UO (a:bQ [91] aj=none) (h:bQ [40] aj=none):pw a5 bZ dH aj=some (ak.mk 3 0 bZ dH [],aj):=by unfold pw; rw [a]; simp only; rw [h]
def UP (a:ae+aB=7) (h:6<aB\/aj=[]):a6 ae aj=none:=by
 rcases h with h | rfl
 · obtain rfl:ae=0:=Z
   rfl
 · cases ae<;>rfl
def UQ (h:bI.kind=2):a6 (ae+1) (bI::aj)=some (ak.mk 1 bI.n [] [] [],aj):=by rw [a6,a8 h]
def UR {f:Nat}  {r:Tk} (h:¬bI.kind=2):a6 (f+1) (bI::r)=nP (a6 f) (bI::r):=by rw [a6,av h]
def L_ (h:bI.kind=2):ce (bI::aj)=some (bI.n,aj):=by simp [ce,nc,h]
def nY:hx prog 239=some [(0,1),(1,1),(2,1),(3,1),(4,1)]:=aa
def rx:dV prog 237=some 1:=aa
def US (b:Nat) (c:View) (r:Option Addr×Nat) (l:Tk) (f d:Nat) (w:World) (Q:BS c f) (R:f+d=7) (F:dB l) (af:Sl dW 3 c r.1 r.2 l) (a:Ws w (List.flatMap ah.ids (bB b r l)) (bB b r l) [c] w) :
   Calls prog 349 #[.pointer (some ⟨b,0,none⟩),.int .i64 (d:Int)] w λe w'=>(∃(x:ak) (s:Option Addr×Nat) (u:Option Addr×Nat) (q:Tk),e = .returned (.agg #[.int .i64 (x).op,.int .i64 (x).n,st (x).mod,st (x).nm,.slice s.1 (x).args.length s.2])/\ne (a6 f) l=some (x,q)/\Sl (gn (f+1)) 5 (nv w w') s.1 s.2 x.args/\Sl dW 3 c u.1 u.2 q/\Ws w (List.flatMap ah.ids (bB b r l)) (bB b u q) [c] w')\/(∃(u:Option Addr×Nat) (q:Tk),e = .panicked g_/\ne (a6 f) l=none/\Ws w (List.flatMap ah.ids (bB b r l)) (bB b u q) [c] w'):=by
 refine enter func349 O 35 O O ?_;refine CE a (ac ?_);refine Al Y O jJ λag=>?_;refine dn 0 (.cells (qS (ak.mk 0 0 [] [] []) none 0).toArray 239 (0,0)) O O (ad (ac (ab O (ab O (Lf 1 O ?_)))));refine WL.ke (pF (Q) b r l d R F af) ?_ ?_
 ·intro ⟨y,z⟩ A;refine Ep ?_;refine an λw' a=>?_;exact .inr ⟨y,z,O,by rw [ne,A]; rfl,(by have h:=a; have h:=Wt 1 h; exact h)⟩
 intro aj ⟨⟨G,B⟩,al,p⟩ ao ⟨t,ap,aq⟩;have ar:dB p:=pC F t;have aV:p.length+1<=List.length (l):=pD F t;refine Al Y O jJ λau=>?_;refine aT 0 Y O O O ng O O O (ad (Cs (ac (Lp Y O aK O (λw a=>Ul w) (ab O (ad (Cb ?_)))))));refine e0 (ι:=Nat×(Option Addr×Nat)) (λg=>[(13,.int .i64 (g.1:Int))]) [(0,_),(1,_),(4,_),(5,_),(12,_)] (λg=>Ws w (List.flatMap ah.ids (bB b r l)) (bB b g.2 p++[aE au (.cells (XE.cells (G,B.1,B.2)).toArray 239 (0,0)),aE ag (.cells (qS (ak.mk 0 0 [] [] []) none 0).toArray 239 (0,0))]) [aj,c]) (λg=>g.1<=9/\(∀j v,j<g.1->opsL[j]? = some v->bQ v p=none)/\Sl dW 3 c g.2.1 g.2.2 p) (λg=>9-g.1) (0,al) ⟨cx _,by simp,aq⟩ (λ_ h=>(((h.f 2 O).f 1 O).f 2 O:)) ?_;intro g ⟨hi,H,av⟩;refine ac (I (cy O O) (ad (Cs ?_)));refine Cc O (λJ=>?_) (λJ=>?_)
 ·have S:g.1<9:=by simp at J; omega
  obtain ⟨o,K⟩:∃o,opsL[g.1]? = some o:=⟨_,dM (by show g.1<9; exact S)⟩;refine am (Cs (Cb (ac (ab O (I (H0 (i:=g.1) Uh O O S (UM K)) (ai O (ai O (ad (ac (ab O (ab O ?_)))))))))));refine WL.kw (ip b c g.2 p o av) ?_;intro ⟨aW,U,C⟩ ⟨aw,ax,V⟩;refine ad ?_;refine Cc O (λL=>?_) (λL=>?_)
  ·have W:=aw L;have M:=iT ar W
   have N:oM opsL 0 p=some (g.1,C):=by rw [L5 opsL g.1 0 o p C K H W,gC]
   refine ac (ab O (ab O ?_));refine WL.ke (pF (Q) b U C d R M V) ?_ ?_
   ·intro ⟨y,z⟩ A;refine Ep (WE.b' (Ep (Ep (WE.b' (Ep ?_)))));refine an λw' a=>?_;exact .inr ⟨y,z,O,by rw [ne,t]; simp only [cM]; rw [N]; simp only [cM]; rw [A]; rfl,(by have h:=a; have h:=Wt 1 h; have h:=Ws.cK h (b9:=[c]) (by simp); exact h)⟩
   intro aX ⟨⟨X,Z⟩,ay,P⟩ az ⟨D,aA,aB⟩;have aC:dB P:=pC M D;have aY:P.length+1<=List.length (C):=pD M D;refine WL.jc λaD aF aG aH=>?_;refine Al Y O jJ λa0=>?_;refine aT 0 Y O O O ng O O O (ad (ac (ab O ?_)));refine Lb Y O ei O O O O λa1=>?_;refine h1 (T:=9) (m:=1) 0 [[41]] O O (show 1<=1 by decide) (by decide) λaI aJ=>?_;refine Lf 1 O ?_;refine WL.kx (iV b c ay P aI _ _ [[41]] aJ aB) ?_ ?_
   ·intro ⟨y,z⟩ A;refine Ep (WE.b' (Ep (Ep (WE.b' (Ep ?_)))));refine an λw' a=>?_;exact .inr ⟨y,z,O,by rw [ne,t]; simp only [cM]; rw [N]; simp only [cM]; rw [D]; simp only [cM]; rw [<-e7,A]; rfl,(by have h:=a; have h:=Wt 1 h; have h:=Ws.cK h (b9:=[c]) (by simp); exact h)⟩
   intro ⟨aL,aM⟩ ⟨aa,aN⟩;have a2:=iU aC aa;refine ad (ac (ab O (I (uq ((7:Int)+(g.1:Int)) O O O (by omega)) (I (cI 2 O O fY O) (I (cI 1 O O fY O) ?_)))));refine Lb Y O bP O O O O λaO=>?_;refine LN (rd:=li) (f:=XE.cells) (m:=2) 0 [(G,B.1,B.2),(X,Z.1,Z.2)] O O (λk ae=>by simp [bB,aE] at ae; subst ae; simp [eQ,bB,aE,cq]) XE.dk (λ_ _ _ _ h=>h) (show 2<=2 by decide) (by decide) λa3 aP aQ=>?_;refine I (Yb jJ nY O O) (aT 3 Y O O O ng O O O (ad (aZ (cf (Er (Er (cf (Er ?_))))))));refine WE.fm (hW O (ej 3 O O fY O)) λw' a=>?_;exact .inl ⟨ak.mk (7+(g.1:Int)) 0 [] [] [G,X],(some ⟨aO,0,none⟩,2),aL,aM,O,by rw [ne,t]; simp only [cM]; rw [N]; simp only [cM]; rw [D]; simp only [cM]; rw [<-e7,aa]; rfl,lj aQ (c8 a (by simp) aP) (c8 a (by simp) (aH _ az ao)) (((iq.nil aD f).snoc (bK.refl _) aG ap).snoc (bK.refl _) aF aA),aN,Wv 3 (Wt 1 a)⟩
  obtain ⟨aR,aS⟩:=ax L;subst aS;refine Ck (Eb (Et (Cr (I (Yi O O O (by omega)) (ab O (Ln ?_))))))
  exact ct ((g.1+1,U):Nat×(Option Addr×Nat)) (by show 9-(g.1+1)<9-g.1; omega) ⟨by show g.1+1<=9; omega,λj v E hv=>by
      rcases gT.1 E with h | rfl
      · exact H j v h hv
      · rw [K] at hv; injection hv with hv; subst hv; exact aR,V⟩ (λ_ h=>h)
 have a4:¬g.1<9:=by simp at J; omega
 have aU:oM opsL 0 p=none:=L6 _ _ _ λv hv=>by
   obtain ⟨j,E⟩:=ln hv;exact H j v (by have:=(cS.1 E).1; have:opsL.length=9:=rfl; omega) E
 refine Ce (Ex (Ex (cU (Et (Cr (I (Yb sr sq O O) (I (pZ ss O) ?_)))))));refine WL.panic Y O ?_;refine an λw' a=>?_;exact .inr ⟨g.2,p,O,by rw [ne,t]; simp only [cM]; rw [aU]; rfl,(by have h:=a; have h:=Wt 1 h; have h:=Ws.cK h (b9:=[c]) (by simp); exact h)⟩
def tO (c:View) (f:Nat) (b:Nat) (r:Option Addr×Nat) (l:Tk) (d:Nat) (w:World) (a1:f+d=7) (K:dB l) (M:Sl dW 3 c r.1 r.2 l) (a:Ws w (List.flatMap ah.ids (bB b r l)) (bB b r l) [c] w) :
   Calls prog 313 #[.pointer (some ⟨b,0,none⟩),.int .i64 (d:Int)] w λe w'=>(∃(x:ak) (s:Option Addr×Nat) (j:Option Addr×Nat) (q:Tk),e = .returned (.agg #[.int .i64 (x).op,.int .i64 (x).n,st (x).mod,st (x).nm,.slice s.1 (x).args.length s.2])/\a6 f l=some (x,q)/\Sl (gn f) 5 (nv w w') s.1 s.2 x.args/\Sl dW 3 c j.1 j.2 q/\Ws w (List.flatMap ah.ids (bB b r l)) (bB b j q) [c] w')\/(∃(j:Option Addr×Nat) (q:Tk),e = .panicked g_/\a6 f l=none/\Ws w (List.flatMap ah.ids (bB b r l)) (bB b j q) [c] w'):=by
 induction f using Nat.strongRecOn generalizing b r l d w
 rename_i f a2;have ci:=M.cap;have cj:=M.max;refine enter func313 O 83 O O ?_;refine CE a (ac ?_);refine Al Y O jJ λck=>?_;refine dn 0 (.cells (qS (ak.mk 0 0 [] [] []) none 0).toArray 239 (0,0)) O O (ad (Cs (ac (ab O (I (ed O O) (ab O ?_))))));apply Lo 6 O O O O Y O O O O O
 ·intro cl;refine Vg (Ym O) (Vg (bV O) (Vg (Yf pE O) (Vg (Yd 1 O O O aa) (Vg (Yn ro O) (Vg (bx O O) ?_)))));exact Gt 6 O O O
 refine ad ?_;refine Cc O (λN=>?_) (λN=>?_)
 ·have a3:a6 f l=none:=UP a1 (by
    simp at N
    rcases N with h | h
    · left; omega
    · right; exact h)
  refine Cr (I (Yb sr sq O O) (I (pZ ss O) ?_));refine WL.panic Y O ?_;refine Ep ?_;refine an λw' a=>?_;exact .inr ⟨r,l,O,a3,(by have h:=a; have h:=h.aJ 1 O; have h:=Wt 1 h; exact h)⟩
 have cm:¬6<d:=by
   intro h
   have v:(6:Int)<(d:Int):=Z
   simp [v] at N
 obtain ⟨f,rfl⟩:∃k,f=k+1:=⟨f-1,Z⟩
 obtain ⟨A,E,rfl⟩:∃t r,l=t::r:=by
   cases l with
   | nil=>simp at N
   | cons t r=>exact ⟨t,r,rfl⟩
 obtain ⟨a4,a5,a7,U⟩:=M.aq 0 A rfl;have U:cw c a4 (a5+0*3) A.cells:=U;have Q:BS c f:=λb r l d w B v C P=>a2 f Z b r l d w B v C P;refine am (Cs (Cb (ac (ab O (I (bV O) (I (Yf pE O) (I (Yd 1 O O O aa) (I (Yo (i:=0) ro O O a7 au) (I (Yf Lk O) (I (cC 0 aa O O (U 0 _ O)) ?_))))))))));refine I (bx O O) (ai O (ad ?_));refine Cc O (λV=>?_) (λV=>?_)
 ·have y:A.kind=2:=by simpa using V
  refine ac (ab O (Lf 1 O ?_));refine WL.kx (FD b c r (A::E) M) ?_ ?_
  ·intro ⟨o,p⟩ g;refine Ep (WE.b' (Ep ?_));refine an λw' a=>?_;rw [L_ y] at g;cases g
  intro ⟨cn,a8,co⟩ ⟨G,a9⟩;have cp:=FC K G;refine I (Yb jJ nY O O) ?_;rw [L_ y] at G
  injection G with G
  injection G with a' G
  subst a';subst G;refine aT 1 Y O O O ng O O O (ad (aZ (cf (Er ?_))));refine WE.fm (hW O (ej 1 O O fY O)) λw' a=>?_;exact .inl ⟨ak.mk 1 A.n [] [] [],(none,0),a8,E,O,UQ y,Sl.nil,a9,Wt 1 a⟩
 have y:¬A.kind=2:=by simpa using V
 have u:=UR (f:=f) (r:=E) y;refine ac (ab O (Lf 1 O ?_));refine WL.kw (ip b c r (A::E) [105,110] M) ?_;intro ⟨cr,aD,a_⟩ ⟨ba,bb,aF⟩;refine ai O (ad ?_);refine Cc O (λW=>?_) (λW=>?_)
 ·have aG:=ba W;have cs:=iT K aG;refine ac (I (Yb jJ nY O O) (aT 1 Y O O O ng O O O (ad (aZ (cf (Er ?_))))));refine WE.fm (hW O (ej 1 O O fY O)) λw' a=>?_;exact .inl ⟨ak.mk 2 0 [] [] [],(none,0),aD,a_,O,by rw [u,UN aG],Sl.nil,aF,Wt 1 a⟩
 obtain ⟨z,bc⟩:=bb W;subst bc;refine ac (ab O ?_);refine WL.kw (ip b c aD (A::E) [33] aF) ?_;intro ⟨ct,aH,aI⟩ ⟨bd,be,aL⟩;refine ai O (ad ?_);refine Cc O (λX=>?_) (λX=>?_)
 ·have ae:=bd X;have af:=iT K ae;refine ac (ab O (ab O (I (Yi O O O Z) ?_)));refine WL.ke (pF (Q) b aH aI (d+1) Z af aL) ?_ ?_
  ·intro ⟨o,p⟩ g;refine Ep (WE.b' (Ep ?_));refine an λw' a=>?_;exact .inr ⟨o,p,O,by rw [u,L8 z ae,g]; rfl,(by have h:=a; have h:=Wt 1 h; exact h)⟩
  intro bg ⟨⟨aM,aN⟩,bh,ag⟩ bj ⟨aj,bk,bl⟩;have cu:dB ag:=pC af aj;have cv:ag.length+1<=List.length (aI):=pD af aj;refine Lb Y O bP O O O O λbm=>?_;refine LN (rd:=li) (f:=XE.cells) (m:=1) 0 [(aM,aN.1,aN.2)] O O (λk y=>by simp [bB,aE] at y; subst y; simp [eQ,bB,aE,cq]) XE.dk eZ (show 1<=1 by decide) bf λcx bn bo=>?_;refine I (Yb jJ nY O O) (aT 1 Y O O O ng O O O (ad (aZ (cf (Er ?_)))));refine WE.fm (hW O (ej 1 O O fY O)) λw' a=>?_;exact .inl ⟨ak.mk 6 0 [] [] [aM],(some ⟨bm,0,none⟩,1),bh,ag,O,by rw [u,L8 z ae,aj]; rfl,lj bo (c8 a au bn) (c8 a au bj) ((iq.nil bg f).snoc (bK.refl _) (bK.refl _) bk),bl,Wv 2 (Wt 1 a)⟩
 obtain ⟨D,bp⟩:=be X;subst bp;refine ac (ab O ?_);refine WL.kw (ip b c aH (A::E) [40] aL) ?_;intro ⟨cy,aO,al⟩ ⟨bq,br,aP⟩;refine ai O (ad ?_);refine Cc O (λao=>?_) (λao=>?_)
 ·have ap:=bq ao;have bs:=iT K ap;refine ac (ab O (ab O (I (Yi O O O Z) ?_)))
  refine oj (ι:=((ak)×(Option Addr×Nat))×(Option Addr×Nat)×Tk) (κ:=(Option Addr×Nat)×Tk) [_] _ Y O aK O O (λi=>.agg #[.int .i64 (i.1.1).op,.int .i64 (i.1.1).n,st (i.1.1).mod,st (i.1.1).nm,.slice i.1.2.1 (i.1.1).args.length i.1.2.2]) (λi=>bB b i.2.1 i.2.2) (λF i=>ne (a6 f) al=some (i.1.1,i.2.2)/\Sl (gn (f+1)) 5 F i.1.2.1 i.1.2.2 i.1.1.args/\Sl dW 3 c i.2.1.1 i.2.1.2 i.2.2) (λ_=>g_) (λi=>bB b i.1 i.2) (λ_=>ne (a6 f) al=none) ([c]) au qy (λw a=>(US b c aO al f (d+1) w Q Z bs aP a).mono λe w' h=>by
      rcases h with ⟨x,s,j,q,B,v,C,P,ar⟩ | ⟨j,q,B,v,C⟩
      · exact .inl ⟨((x,s),j,q),B,⟨v,C,P⟩,ar⟩
      · exact .inr ⟨(j,q),B,v,C⟩) ?_ ?_
  ·intro ⟨o,p⟩ g;refine Ep (WE.b' (Ep ?_));refine an λw' a=>?_;exact .inr ⟨o,p,O,by rw [u,L9 z D ap,g],(by have h:=a; have h:=Wt 1 h; exact h)⟩
  intro cz ⟨⟨bt,bu⟩,bv,bw⟩ bz ⟨bC,bD,bE⟩;refine aT 1 Y O O O ng O O O (ad (aZ (cf (Er ?_))));refine WE.fm (hW O (ej 1 O O fY O)) λw' a=>?_;exact .inl ⟨bt,bu,bv,bw,O,by rw [u,L9 z D ap,bC],zh bD (c8 a au bz),bE,Wv 1 (Wt 1 a)⟩
 obtain ⟨H,bF⟩:=br ao;subst bF;refine Ck (Eb (Et (ac (ab O ?_))));refine WL.kx (L3 b c aO (A::E) K aP) ?_ ?_
 ·intro ⟨o,p⟩ g;refine Ep ?_;refine an λw' a=>?_;exact .inr ⟨o,p,O,by rw [u,vt z D H,g]; rfl,(by have h:=a; have h:=Wt 1 h; exact h)⟩
 intro ⟨L,bG,av⟩ ⟨J,bH⟩;have aQ:=Dx K J;refine ab O (I (Yx O O) (I (Yx O O) (ai O (ai O (ad (ac (ab O (ab O ?_))))))));refine I (Yb jJ nY O O) ?_;refine Al Y O jJ λcA=>?_;refine aT 0 Y O O O ng O O O (ad (Cs (Cb (ac (ab O (Lf 1 O ?_))))));refine WL.kw (ip b c bG av [91] bH) ?_;intro ⟨cB,aR,aS⟩ ⟨bI,bJ,aU⟩;refine ai O (ad ?_);refine Cc O (λaw=>?_) (λaw=>?_)
 ·have R:=bI aw;have ax:=iT aQ R;refine ac (ab O (ab O (I (Yi O O O Z) ?_)));refine WL.ke (pF (Q) b aR aS (d+1) Z ax aU) ?_ ?_
  ·intro ⟨o,p⟩ g;refine Ep (WE.b' (Ep ?_));refine an λw' a=>?_;exact .inr ⟨o,p,O,by rw [u,vt z D H,J]; simp only [cM]; rw [FE R,g]; rfl,(by have h:=a; have h:=Wt 1 h; exact h)⟩
  intro bL ⟨⟨aV,aW⟩,bM,ay⟩ bN ⟨S,bO,bQ⟩;have bR:dB ay:=pC ax S;have cD:ay.length+1<=List.length (aS):=pD ax S;refine Lb Y O bP O O O O λbS=>?_;refine LN (rd:=li) (f:=XE.cells) (m:=1) 0 [(aV,aW.1,aW.2)] O O (λk y=>by simp [bB,aE] at y; subst y; simp [eQ,bB,aE,cq]) XE.dk eZ (show 1<=1 by decide) bf λcE bT bU=>?_;refine I (Yf jI O) (aT 1 Y O O O dr O O O (I (Yf bA O) (aT 1 Y O O O rx O O O (ad (Cr (ab O ?_))))));refine Lb Y O ei O O O O λcF=>?_;refine h1 (T:=9) (m:=1) 0 [[93]] O O (show 1<=1 by decide) bf λbW bX=>?_;refine WL.kx (iV b c bM ay bW _ _ [[93]] bX bQ) ?_ ?_
  ·intro ⟨o,p⟩ g;refine WE.b' (Ep ?_);refine an λw' a=>?_;exact .inr ⟨o,p,O,by rw [u,vt z D H,J]; simp only [cM]; rw [FE R,S]; simp only [cM]; rw [<-e7,g]; rfl,(by have h:=a; have h:=Wt 1 h; have h:=Ws.cK h (b9:=[c]) au; exact h)⟩
  intro ⟨bY,bZ⟩ ⟨aX,b0⟩;have cG:=iU bR aX;refine Ln (Eb (Et (ac (I (cI 1 O O fY O) (aT 2 Y O O O ng O O O (ad (aZ ?_)))))));refine WE.fm (hW O (ej 2 O O fY O)) λw' a=>?_;exact .inl ⟨ak.mk 4 0 L.1 L.2 [aV],(some ⟨bS,0,none⟩,1),bY,bZ,O,by rw [u,vt z D H,J]; simp only [cM]; rw [FE R,S]; simp only [cM]; rw [<-e7,aX]; rfl,lj bU (c8 a au bT) (c8 a au bN) ((iq.nil bL f).snoc (bK.refl _) (bK.refl _) bO),b0,Wv 3 (Wt 1 a)⟩
 obtain ⟨az,b1⟩:=bJ aw;subst b1;refine ac (ab O ?_);refine WL.kw (ip b c aR av [40] aU) ?_;intro ⟨cH,aY,aA⟩ ⟨b2,b3,a0⟩;refine ai O (ad ?_);refine Cc O (λaB=>?_) (λaB=>?_)
 ·have aC:=b2 aB;have b4:=iT aQ aC;refine Cr (ab O (ab O (I (Yi O O O Z) ?_)))
  refine oj (ι:=((List ak)×(Option Addr×Nat))×(Option Addr×Nat)×Tk) (κ:=(Option Addr×Nat)×Tk) [_] _ Y O aK O O (λi=>.slice i.1.2.1 i.1.1.length i.1.2.2) (λi=>bB b i.2.1 i.2.2) (λF i=>lJ (a6 f) aA=some (i.1.1,i.2.2)/\Sl (gn (f+1)) 5 F i.1.2.1 i.1.2.2 i.1.1/\Sl dW 3 c i.2.1.1 i.2.1.2 i.2.2) (λ_=>g_) (λi=>bB b i.1 i.2) (λ_=>lJ (a6 f) aA=none) ([c]) au qy (λw a=>(L7 b c aY aA f (d+1) w Q Z b4 a0 a).mono λe w' h=>by
      rcases h with ⟨x,s,j,q,B,v,C,P,ar⟩ | ⟨j,q,B,v,C⟩
      · exact .inl ⟨((x,s),j,q),B,⟨v,C,P⟩,ar⟩
      · exact .inr ⟨(j,q),B,v,C⟩) ?_ ?_
  ·intro ⟨o,p⟩ g;refine WE.b' (Ep ?_);refine an λw' a=>?_;exact .inr ⟨o,p,O,by rw [u,vt z D H,J]; simp only [cM]; rw [DZ az aC,g]; rfl,(by have h:=a; have h:=Wt 1 h; exact h)⟩
  intro cJ ⟨⟨b6,b7⟩,b_,ca⟩ cb ⟨cc,cd,ce⟩;refine I (Yf jI O) (aT 1 Y O O O dr O O O (I (Yf bA O) (aT 1 Y O O O rx O O O (Ln (Eb (Et (ac (I (cI 1 O O fY O) (aT 2 Y O O O ng O O O (ad (aZ ?_)))))))))));refine WE.fm (hW O (ej 2 O O fY O)) λw' a=>?_;exact .inl ⟨ak.mk 5 0 L.1 L.2 b6,b7,b_,ca,O,by rw [u,vt z D H,J]; simp only [cM]; rw [DZ az aC,cc]; rfl,zh cd (c8 a au cb),ce,Wv 1 (Wt 1 a)⟩
 obtain ⟨cg,ch⟩:=b3 aB;subst ch;refine Ck (Eb (Et (ac (I (cI 1 O O fY O) (aT 2 Y O O O ng O O O (ad (aZ ?_)))))));refine WE.fm (hW O (ej 2 O O fY O)) λw' a=>?_;exact .inl ⟨ak.mk 3 0 L.1 L.2 [],(none,0),aY,av,O,by rw [u,vt z D H,J]; simp only [cM]; rw [UO az cg],Sl.nil,a0,Wt 1 a⟩
structure pG where
 s1:Option Addr×Nat
 s2:Option Addr×Nat
 s3:Option Addr×Nat
abbrev SX:=bE×pG
def SX.cells (e:SX):List Value:=qT e.1 e.2.s1.1 e.2.s1.2 e.2.s2.1 e.2.s2.2 e.2.s3.1 e.2.s3.2
def SX.dk (e:SX):(SX.cells e).length=6:=rfl
def BU (H:View) (b o:Nat) (e:SX):Prop:=cw H b o (SX.cells e)
structure vu (f:Nat) (N:View) (x:bE) (p:pG):Prop where
 args:Sl (gn 7) 5 N p.s1.1 p.s1.2 x.args
 body:Sl (e5 7 f) 6 N p.s2.1 p.s2.2 x.body
 other:Sl (e5 7 f) 6 N p.s3.1 p.s3.2 x.other
def su (h:Sl (e5 7 ae) 6 bc cj aB cD) (hv:bK bc b_):Sl (e5 7 ae) 6 b_ cj aB cD:=h.imp λb o y a=>nw hv (eH _) (eH _) b o y a
def vu.mv {p:pG} (h:vu ae bc dA p) (hv:bK bc b_):vu ae b_ dA p:=⟨zh h.args hv,su h.body hv,su h.other hv⟩
def qs (J:View) (f:Nat) (es:List SX):Prop:=∀e ∈ es,vu f J e.1 e.2
def qs.nil (J:View) (f:Nat):qs J f []:=by intro e h; simp at h
variable {zg:List SX}
def qs.snoc {e:SX} (h:qs bc ae zg) (b:bK bc fW) (c:bK b_ fW) (d:vu ae b_ e.1 e.2):qs fW ae (zg++[e]):=by
 intro x a
 rcases fB.1 a with a | a
 · exact (h x a).mv b
 · rw [fH] at a
   subst a;exact d.mv c
def FF (h:Sl BU 6 bc cj aB zg) (hv:bK bc fW) (f:bK b_ fW) (g:qs b_ ae zg):Sl (e5 7 (ae+1)) 6 fW cj aB (zg.map (·.1)):=by
 refine ⟨by simpa using h.cap,h.max,h.spot,λi x c=>?_⟩;rw [gS] at c;obtain ⟨e,d,rfl⟩:=dX.1 c;obtain ⟨b,o,j,k⟩:=h.aq i e d;have a:=(g e (gu d)).mv f;exact ⟨b,o,j,e.2.s1.1,e.2.s1.2,e.2.s2.1,e.2.s2.2,e.2.s3.1,e.2.s3.2,cw.mono hv k,a.args,a.body,a.other⟩
structure GS where
 es:List SX
 a:Option Addr
 c:Nat
 J:View
 r:Option Addr×Nat
 q:Tk
def Mb (b:View) (f:Nat):Prop:=∀(a:Nat) (r:Option Addr×Nat) (l:Tk) (d:Nat) (w:World),f+d=7->dB l->Sl dW 3 b r.1 r.2 l->Ws w (List.flatMap ah.ids (bB a r l)) (bB a r l) [b] w->
 Calls prog 212 #[.pointer (some ⟨a,0,none⟩),.int .i64 (d:Int)] w λe w'=>(∃(x:List bE) (s:Option Addr×Nat) (c:Option Addr×Nat) (q:Tk),e = .returned (.slice s.1 x.length s.2)/\hq f l=some (x,q)/\Sl (e5 7 f) 6 (nv w w') s.1 s.2 x/\Sl dW 3 b c.1 c.2 q/\Ws w (List.flatMap ah.ids (bB a r l)) (bB a c q) [b] w')\/(∃(c:Option Addr×Nat) (q:Tk),e = .panicked g_/\hq f l=none/\Ws w (List.flatMap ah.ids (bB a r l)) (bB a c q) [b] w')
def zj (h:dB aj) (e:hq ae aj=some (cD,bS)):dB bS:=sp h (y4 ae aj cD bS h.all e)
def UT (h:dB aj) (e:aY (hq ae) aj=some (dA,bS)):dB bS:=sp h (Fc (y4 ae) h.all e)
def UU (h:dB aj) (e:lJ (a6 6) aj=some (ax,bS)):dB bS:=by
 unfold lJ at e
 cases a:bQ [41] aj with
 | some q=>
   rw [a] at e;simp only [eY,dC] at e;obtain ⟨_,rfl⟩:=e;exact iT h a
 | none=>
   rw [a] at e;exact sp h (Fa (xj 6) _ _ _ _ h.all e)
def zk (h:kq [bZ,dH] aj=some bS):∃a,bQ bZ aj=some a/\bQ dH a=some bS:=by rw [LZ] at h; exact cN.1 h
def UV (h:kq [bZ,dH] aj=none):bQ bZ aj=none\/∃a,bQ bZ aj=some a/\bQ dH a=none:=by
 rw [LZ] at h
 cases hv:bQ bZ aj with
 | none=>exact .inl rfl
 | some a=>rw [hv] at h; exact .inr ⟨a,rfl,h⟩
variable {xv:Tk->Option (bE×Tk)}
def UW (h:bQ [125] aj=some bS):nQ xv (ae+1) aj=some ([],bS):=by rw [nQ,h]
def UX (h:bQ [125] aj=none) (a:xv aj=some (dA,bS)):nQ xv (ae+1) aj=(nQ xv ae bS).map λp=>(dA::p.1,p.2):=by rw [nQ,h]; simp only; rw [a]; rfl
def UY (h:bQ [125] aj=none) (a:xv aj=none):nQ xv (ae+1) aj=none:=by rw [nQ,h]; simp only; rw [a]; rfl
def zl:dV prog 25=some 1:=aa
def xw:dV prog 9=some 1:=aa
def BV:hc prog 25 241 (.agg #[.int .i64 0,st [],st [],.slice none 0 0,.slice none 0 0,.slice none 0 0]) 6 112:=jr aa
def UZ (b:Nat) (c:View) (r:Option Addr×Nat) (l:Tk) (f d:Nat) (w:World) (aM:Mb c f) (d8:f+(d+1)=7) (Z:dB l) (cr:Sl dW 3 c r.1 r.2 l) (a:Ws w (List.flatMap ah.ids (bB b r l)) (bB b r l) [c] w) :
   Calls prog 261 #[.pointer (some ⟨b,0,none⟩),.int .i64 (d:Int)] w λe w'=>(∃(x:bE) (p:pG) (B:Option Addr×Nat) (q:Tk),e = .returned (.agg #[.int .i64 (x).op,st (x).mod,st (x).nm,.slice (p).s1.1 (x).args.length (p).s1.2,.slice (p).s2.1 (x).body.length (p).s2.2,.slice (p).s3.1 (x).other.length (p).s3.2])/\aY (hq f) l=some (x,q)/\vu f (nv w w') x p/\Sl dW 3 c B.1 B.2 q/\Ws w (List.flatMap ah.ids (bB b r l)) (bB b B q) [c] w')\/(∃(B:Option Addr×Nat) (q:Tk),e = .panicked g_/\aY (hq f) l=none/\Ws w (List.flatMap ah.ids (bB b r l)) (bB b B q) [c] w'):=by
 refine enter func261 O 104 O O ?_;refine CE a (ac ?_);refine Al Y O rt λd9=>?_;refine dn 0 (.cells (qT (bE.mk 0 [] [] [] [] []) none 0 none 0 none 0).toArray 241 (0,0)) O O (ad (ac ?_));refine Al Y O rt λd'=>?_;refine dn 0 (.cells (qT (bE.mk 0 [] [] [] [] []) none 0 none 0 none 0).toArray 241 (0,0)) O O (ad (Cs (Cb (ac (ab O (Lf 2 O ?_))))));refine WL.kw (ip b c r l [105,102] cr) ?_;intro ⟨d_,bo,bp⟩ ⟨cs,ct,bq⟩;refine ai O (ad ?_);refine Cc O (λaN=>?_) (λaN=>?_)
 ·have V:=cs aN;have aO:=iT Z V;refine ac (ab O ?_);refine WL.ke (pF ((λb r l d w o t u y=>tO c 6 b r l d w o t u y)) b bo bp 1 O aO bq) ?_ ?_
  ·intro ⟨j,n⟩ g;refine Ep (WE.b' (Ep ?_));refine an λw' a=>?_;exact .inr ⟨j,n,O,by simp only [aY,gR,gz,gO,gP,gA,gB,V,g,cM,dN,eb,eu],(by have h:=a; have h:=Wt 1 h; exact h)⟩
  intro br ⟨⟨aP,bs⟩,cu,ag⟩ bt ⟨W,bu,cv⟩;have bv:dB ag:=pC aO W;have ea:ag.length+1<=List.length (bp):=pD aO W;refine Lb Y O bP O O O O λbw=>?_;refine LN (rd:=li) (f:=XE.cells) (m:=1) 0 [(aP,bs.1,bs.2)] O O (λk C=>by simp [bB,aE] at C; subst C; simp [eQ,bB,aE,cq]) XE.dk (λ_ _ _ _ h=>h) (show 1<=1 by decide) (by decide) λec bz bA=>?_;refine I (Yf ht O) (aT 1 Y O O O dr O O O (I (Yf h5 O) (aT 1 Y O O O rx O O O (ad (ac (ab O (ab O (I (Yi O O O (by omega)) ?_))))))))
  refine oj (ι:=((List bE)×(Option Addr×Nat))×(Option Addr×Nat)×Tk) (κ:=(Option Addr×Nat)×Tk) [_] _ Y O aK O O (λi=>.slice i.1.2.1 i.1.1.length i.1.2.2) (λi=>bB b i.2.1 i.2.2) (λF i=>hq f ag=some (i.1.1,i.2.2)/\Sl (e5 7 f) 6 F i.1.2.1 i.1.2.2 i.1.1/\Sl dW 3 c i.2.1.1 i.2.1.2 i.2.2) (λ_=>g_) (λi=>bB b i.1 i.2) (λ_=>hq f ag=none) ([c]) (by simp) (λ_ _ h=>h) (λw a=>(aM b cu ag (d+1) w (by omega) bv cv a).mono λe w' h=>by
      rcases h with ⟨x,s,B,q,o,t,u,y,X⟩ | ⟨B,q,o,t,u⟩
      · exact .inl ⟨((x,s),B,q),o,⟨t,u,y⟩,X⟩
      · exact .inr ⟨(B,q),o,t,u⟩) ?_ ?_
  ·intro ⟨j,n⟩ g;refine Ep (WE.b' (Ep ?_));refine an λw' a=>?_;exact .inr ⟨j,n,O,by simp only [aY,gR,gz,gO,gP,gA,gB,V,W,g,cM,dN,eb,eu],(by have h:=a; have h:=Wt 1 h; have h:=Ws.cK h (b9:=[c]) (by simp); exact h)⟩
  intro ed ⟨⟨bC,bD⟩,cw,aQ⟩ bF ⟨aj,bG,cx⟩;have cy:dB aQ:=zj bv aj;refine I (Yf mL O) (aT 1 Y O O O zl O O O (ad (Cs (ac (ab O ?_)))));refine WL.kw (ip b c cw aQ [101,108,115,101] cx) ?_;intro ⟨ee,bH,aR⟩ ⟨cz,cA,bI⟩;refine ad ?_;refine Cc O (λaS=>?_) (λaS=>?_)
  ·have au:=cz aS;have bJ:=iT cy au;refine ac (ab O (ab O (I (Yi O O O (by omega)) ?_)))
   refine oj (ι:=((List bE)×(Option Addr×Nat))×(Option Addr×Nat)×Tk) (κ:=(Option Addr×Nat)×Tk) [_] _ Y O aK O O (λi=>.slice i.1.2.1 i.1.1.length i.1.2.2) (λi=>bB b i.2.1 i.2.2) (λF i=>hq f aR=some (i.1.1,i.2.2)/\Sl (e5 7 f) 6 F i.1.2.1 i.1.2.2 i.1.1/\Sl dW 3 c i.2.1.1 i.2.1.2 i.2.2) (λ_=>g_) (λi=>bB b i.1 i.2) (λ_=>hq f aR=none) ([c]) (by simp) (λ_ _ h=>h) (λw a=>(aM b bH aR (d+1) w (by omega) bJ bI a).mono λe w' h=>by
       rcases h with ⟨x,s,B,q,o,t,u,y,X⟩ | ⟨B,q,o,t,u⟩
       · exact .inl ⟨((x,s),B,q),o,⟨t,u,y⟩,X⟩
       · exact .inr ⟨(B,q),o,t,u⟩) ?_ ?_
   ·intro ⟨j,n⟩ g;refine Ep (Ep (WE.b' (Ep ?_)));refine an λw' a=>?_;exact .inr ⟨j,n,O,by simp only [aY,gR,gz,gO,gP,gA,gB,V,W,aj,au,g,cM,dN,eb,eu],(by have h:=a; have h:=Wt 1 h; have h:=Ws.cK h (b9:=[c]) (by simp); exact h)⟩
   intro ef ⟨⟨aU,cB⟩,bL,aV⟩ cC ⟨aW,cD,cE⟩;have eg:dB aV:=zj bJ aW;refine I (Yf lN O) (aT 1 Y O O O zl O O O (ad (ac (I (Yf lN O) (I (Yd 1 O O O aa) (I (Yn h_ O) (I (bx O O) (ad ?_))))))));refine Cc O (λaX=>?_) (λaX=>?_)
   ·have a0:aU.length=0:=by simpa using aX
    refine Cr (I (Yb sr sq O O) (I (pZ ss O) ?_));refine WL.panic Y O ?_;refine Ep (WE.b' (Ep ?_));refine an λw' a=>?_;exact .inr ⟨bL,aV,O,by simp only [aY,gR,gz,gO,gP,gA,gB,V,W,aj,au,aW,cM,dN,eb,eu,a8 a0],(by have h:=a; have h:=Wt 1 h; have h:=Ws.cK h (b9:=[c]) (by simp); exact h)⟩
   have a0:¬aU.length=0:=by simpa using aX
   refine am (ac (I (cI 1 O O iR O) (aT 2 Y O O O pz O O O (ad (aZ (cf (Er ?_)))))));refine WE.fm (hW O (ej 2 O O iR O)) λw' a=>?_;exact .inl ⟨bE.mk 4 [] [] [aP] bC aU,⟨(some ⟨bw,0,none⟩,1),bD,cB⟩,bL,aV,O,by simp only [aY,gR,gz,gO,gP,gA,gB,V,W,aj,au,aW,cM,dN,eb,eu,av a0],⟨(lj bA (c8 a (by simp) bz) (c8 a (by simp) bt) ((iq.nil br 6).snoc (bK.refl _) (bK.refl _) bu)),(su bG (c8 a (by simp) bF)),(su cD (c8 a (by simp) cC))⟩,cE,Wv 4 (Wt 1 a)⟩
  obtain ⟨cF,cG⟩:=cA aS;subst cG;refine am (ac (I (cI 1 O O iR O) (aT 2 Y O O O pz O O O (ad (aZ (cf (Er ?_)))))));refine WE.fm (hW O (ej 2 O O iR O)) λw' a=>?_;exact .inl ⟨bE.mk 4 [] [] [aP] bC [],⟨(some ⟨bw,0,none⟩,1),bD,((none,0):Option Addr×Nat)⟩,bH,aQ,O,by simp only [aY,gR,gz,gO,gP,gA,gB,V,W,aj,cF,cM,dN,eb,eu],⟨(lj bA (c8 a (by simp) bz) (c8 a (by simp) bt) ((iq.nil br 6).snoc (bK.refl _) (bK.refl _) bu)),(su bG (c8 a (by simp) bF)),Sl.nil⟩,bI,Wv 3 (Wt 1 a)⟩
 obtain ⟨v,cH⟩:=ct aN;subst cH;refine ac (ab O ?_);refine WL.kw (ip b c bo l [119,104,105,108,101] bq) ?_;intro ⟨eh,bM,bN⟩ ⟨cJ,cL,bO⟩;refine ai O (ad ?_);refine Cc O (λa1=>?_) (λa1=>?_)
 ·have aw:=cJ a1;have a2:=iT Z aw;refine ac (ab O ?_);refine WL.ke (pF ((λb r l d w o t u y=>tO c 6 b r l d w o t u y)) b bM bN 1 O a2 bO) ?_ ?_
  ·intro ⟨j,n⟩ g;refine Ep (WE.b' (Ep ?_));refine an λw' a=>?_;exact .inr ⟨j,n,O,by simp only [aY,gR,gz,gO,gP,gA,gB,v,aw,g,cM,dN,eb,eu],(by have h:=a; have h:=Wt 1 h; exact h)⟩
  intro cN ⟨⟨bQ,bR⟩,cO,al⟩ cP ⟨ax,cQ,cR⟩;have bS:dB al:=pC a2 ax;have ek:al.length+1<=List.length (bN):=pD a2 ax;refine Lb Y O bP O O O O λcS=>?_;refine LN (rd:=li) (f:=XE.cells) (m:=1) 0 [(bQ,bR.1,bR.2)] O O (λk C=>by simp [bB,aE] at C; subst C; simp [eQ,bB,aE,cq]) XE.dk (λ_ _ _ _ h=>h) (show 1<=1 by decide) (by decide) λel cT cU=>?_;refine I (Yf ht O) (aT 1 Y O O O dr O O O (I (Yf h5 O) (aT 1 Y O O O rx O O O (ad (ac (ab O (ab O (I (Yi O O O (by omega)) ?_))))))))
  refine oj (ι:=((List bE)×(Option Addr×Nat))×(Option Addr×Nat)×Tk) (κ:=(Option Addr×Nat)×Tk) [_] _ Y O aK O O (λi=>.slice i.1.2.1 i.1.1.length i.1.2.2) (λi=>bB b i.2.1 i.2.2) (λF i=>hq f al=some (i.1.1,i.2.2)/\Sl (e5 7 f) 6 F i.1.2.1 i.1.2.2 i.1.1/\Sl dW 3 c i.2.1.1 i.2.1.2 i.2.2) (λ_=>g_) (λi=>bB b i.1 i.2) (λ_=>hq f al=none) ([c]) (by simp) (λ_ _ h=>h) (λw a=>(aM b cO al (d+1) w (by omega) bS cR a).mono λe w' h=>by
      rcases h with ⟨x,s,B,q,o,t,u,y,X⟩ | ⟨B,q,o,t,u⟩
      · exact .inl ⟨((x,s),B,q),o,⟨t,u,y⟩,X⟩
      · exact .inr ⟨(B,q),o,t,u⟩) ?_ ?_
  ·intro ⟨j,n⟩ g;refine Ep (WE.b' (Ep ?_));refine an λw' a=>?_;exact .inr ⟨j,n,O,by simp only [aY,gR,gz,gO,gP,gA,gB,v,aw,ax,g,cM,dN,eb,eu],(by have h:=a; have h:=Wt 1 h; have h:=Ws.cK h (b9:=[c]) (by simp); exact h)⟩
  intro em ⟨⟨cV,cW⟩,cX,bT⟩ cY ⟨bU,cZ,c0⟩;have en:dB bT:=zj bS bU;refine I (Yf mL O) (aT 1 Y O O O zl O O O (ad (ac (I (cI 1 O O iR O) (aT 2 Y O O O pz O O O (ad (aZ (cf (Er ?_)))))))));refine WE.fm (hW O (ej 2 O O iR O)) λw' a=>?_;exact .inl ⟨bE.mk 5 [] [] [bQ] cV [],⟨(some ⟨cS,0,none⟩,1),cW,((none,0):Option Addr×Nat)⟩,cX,bT,O,by simp only [aY,gR,gz,gO,gP,gA,gB,v,aw,ax,bU,cM,dN,eb,eu],⟨(lj cU (c8 a (by simp) cT) (c8 a (by simp) cP) ((iq.nil cN 6).snoc (bK.refl _) (bK.refl _) cQ)),(su cZ (c8 a (by simp) cY)),Sl.nil⟩,c0,Wv 3 (Wt 1 a)⟩
 obtain ⟨A,c1⟩:=cL a1;subst c1;refine ac (ab O ?_);refine WL.kw (ip b c bM l [114,101,116,117,114,110] bO) ?_;intro ⟨eo,bV,bW⟩ ⟨c2,c3,bX⟩;refine ai O (ad ?_);refine Cc O (λa3=>?_) (λa3=>?_)
 ·have ay:=c2 a3;have a4:=iT Z ay;refine Cr (ab O ?_);refine WL.ke (pF ((λb r l d w o t u y=>tO c 6 b r l d w o t u y)) b bV bW 1 O a4 bX) ?_ ?_
  ·intro ⟨j,n⟩ g;refine WE.b' (Ep ?_);refine an λw' a=>?_;exact .inr ⟨j,n,O,by simp only [aY,gR,gz,gO,gP,gA,gB,v,A,ay,g,cM,dN,eb,eu],(by have h:=a; have h:=Wt 1 h; exact h)⟩
  intro c4 ⟨⟨bY,bZ⟩,c5,a5⟩ c6 ⟨az,c7,c9⟩;have c':dB a5:=pC a4 az;have ep:a5.length+1<=List.length (bW):=pD a4 az;refine Lb Y O bP O O O O λc_=>?_;refine LN (rd:=li) (f:=XE.cells) (m:=1) 0 [(bY,bZ.1,bZ.2)] O O (λk C=>by simp [bB,aE] at C; subst C; simp [eQ,bB,aE,cq]) XE.dk (λ_ _ _ _ h=>h) (show 1<=1 by decide) (by decide) λeq da db=>?_;refine I (Yf ht O) (aT 1 Y O O O dr O O O (I (Yf h5 O) (aT 1 Y O O O rx O O O (Ln (Eb (Et (ac (ab O ?_))))))));refine Lb Y O ei O O O O λao=>?_;refine h1 (T:=9) (m:=1) 0 [[59]] O O (show 1<=1 by decide) (by decide) λJ K=>?_;refine WL.kx (iV b c c5 a5 J _ _ [[59]] K c9) ?_ ?_
  ·intro ⟨j,n⟩ g;rw [e7] at g;refine Ep ?_;refine an λw' a=>?_;exact .inr ⟨j,n,O,by simp only [aY,gR,gz,gO,gP,gA,gB,v,A,ay,az,g,cM,dN,eb,eu],(by have h:=a; have h:=Wt 1 h; have h:=Ws.cK h (b9:=[c]) (by simp); exact h)⟩
  intro ⟨L,M⟩ ⟨z,N⟩;have ap:=iU c' z;rw [e7] at z;refine ad (ac (I (cI 1 O O iR O) (aT 2 Y O O O pz O O O (ad (aZ ?_)))));refine WE.fm (hW O (ej 2 O O iR O)) λw' a=>?_;exact .inl ⟨bE.mk 6 [] [] [bY] [] [],⟨(some ⟨c_,0,none⟩,1),((none,0):Option Addr×Nat),((none,0):Option Addr×Nat)⟩,L,M,O,by simp only [aY,gR,gz,gO,gP,gA,gB,v,A,ay,az,z,cM,dN,eb,eu],⟨(lj db (c8 a (by simp) da) (c8 a (by simp) c6) ((iq.nil c4 6).snoc (bK.refl _) (bK.refl _) c7)),Sl.nil,Sl.nil⟩,N,Wv 3 (Wt 1 a)⟩
 obtain ⟨D,dc⟩:=c3 a3;subst dc;refine ac (ab O ?_);refine WL.kw (ip b c bV l [111,117,116] bX) ?_;intro ⟨er,b0,b1⟩ ⟨dd,de,b2⟩;refine ai O (ad ?_);refine Cc O (λa7=>?_) (λa7=>?_)
 ·have aA:=dd a7;have a9:=iT Z aA;refine Cr (ab O ?_);refine WL.ke (pF ((λb r l d w o t u y=>tO c 6 b r l d w o t u y)) b b0 b1 1 O a9 b2) ?_ ?_
  ·intro ⟨j,n⟩ g;refine WE.b' (Ep ?_);refine an λw' a=>?_;exact .inr ⟨j,n,O,by simp only [aY,gR,gz,gO,gP,gA,gB,v,A,D,aA,g,cM,dN,eb,eu],(by have h:=a; have h:=Wt 1 h; exact h)⟩
  intro df ⟨⟨b3,b4⟩,dg,a'⟩ dh ⟨aB,di,dj⟩;have dl:dB a':=pC a9 aB;have es:a'.length+1<=List.length (b1):=pD a9 aB;refine Lb Y O bP O O O O λdm=>?_;refine LN (rd:=li) (f:=XE.cells) (m:=1) 0 [(b3,b4.1,b4.2)] O O (λk C=>by simp [bB,aE] at C; subst C; simp [eQ,bB,aE,cq]) XE.dk (λ_ _ _ _ h=>h) (show 1<=1 by decide) (by decide) λet dp dq=>?_;refine I (Yf ht O) (aT 1 Y O O O dr O O O (I (Yf h5 O) (aT 1 Y O O O rx O O O (Ln (Eb (Et (ac (ab O ?_))))))));refine Lb Y O ei O O O O λao=>?_;refine h1 (T:=9) (m:=1) 0 [[59]] O O (show 1<=1 by decide) (by decide) λJ K=>?_;refine WL.kx (iV b c dg a' J _ _ [[59]] K dj) ?_ ?_
  ·intro ⟨j,n⟩ g;rw [e7] at g;refine Ep ?_;refine an λw' a=>?_;exact .inr ⟨j,n,O,by simp only [aY,gR,gz,gO,gP,gA,gB,v,A,D,aA,aB,g,cM,dN,eb,eu],(by have h:=a; have h:=Wt 1 h; have h:=Ws.cK h (b9:=[c]) (by simp); exact h)⟩
  intro ⟨L,M⟩ ⟨z,N⟩;have ap:=iU dl z;rw [e7] at z;refine ad (ac (I (cI 1 O O iR O) (aT 2 Y O O O pz O O O (ad (aZ ?_)))));refine WE.fm (hW O (ej 2 O O iR O)) λw' a=>?_;exact .inl ⟨bE.mk 7 [] [] [b3] [] [],⟨(some ⟨dm,0,none⟩,1),((none,0):Option Addr×Nat),((none,0):Option Addr×Nat)⟩,L,M,O,by simp only [aY,gR,gz,gO,gP,gA,gB,v,A,D,aA,aB,z,cM,dN,eb,eu],⟨(lj dq (c8 a (by simp) dp) (c8 a (by simp) dh) ((iq.nil df 6).snoc (bK.refl _) (bK.refl _) di)),Sl.nil,Sl.nil⟩,N,Wv 3 (Wt 1 a)⟩
 obtain ⟨E,ds⟩:=de a7;subst ds;refine ac (ab O ?_);refine WL.kx (L3 b c b0 l Z b2) ?_ ?_
 ·intro ⟨j,n⟩ g;refine Ep (WE.b' (Ep ?_));refine an λw' a=>?_;exact .inr ⟨j,n,O,by simp only [aY,gR,gz,gO,gP,gA,gB,v,A,D,E,g,cM,dN,eb,eu],(by have h:=a; have h:=Wt 1 h; exact h)⟩
 intro ⟨U,dt,a_⟩ ⟨G,du⟩;have ba:=Dx Z G;refine ab O (I (Yx O O) (I (Yx O O) (I (Yf qm O) (aT 1 Y O O O xw O O O (I (Yf qn O) (aT 1 Y O O O xw O O O (ad (Cb (ac ?_)))))))));refine ab O ?_;refine WL.kw (ip b c dt a_ [40] du) ?_;intro ⟨ev,b6,bb⟩ ⟨dv,dw,b7⟩;refine ai O (ad ?_);refine Cc O (λbc=>?_) (λbc=>?_)
 ·have aC:=dv bc;have b_:=iT ba aC;refine Cr (ab O ?_)
  refine oj (ι:=((List ak)×(Option Addr×Nat))×(Option Addr×Nat)×Tk) (κ:=(Option Addr×Nat)×Tk) [_] _ Y O aK O O (λi=>.slice i.1.2.1 i.1.1.length i.1.2.2) (λi=>bB b i.2.1 i.2.2) (λF i=>lJ (a6 6) bb=some (i.1.1,i.2.2)/\Sl (gn (6+1)) 5 F i.1.2.1 i.1.2.2 i.1.1/\Sl dW 3 c i.2.1.1 i.2.1.2 i.2.2) (λ_=>g_) (λi=>bB b i.1 i.2) (λ_=>lJ (a6 6) bb=none) ([c]) (by simp) (λ_ _ h=>h) (λw a=>(L7 b c b6 bb 6 (1) w (λb r l d w o t u y=>tO c 6 b r l d w o t u y) (by omega) b_ b7 a).mono λe w' h=>by
      rcases h with ⟨x,s,B,q,o,t,u,y,X⟩ | ⟨B,q,o,t,u⟩
      · exact .inl ⟨((x,s),B,q),o,⟨t,u,y⟩,X⟩
      · exact .inr ⟨(B,q),o,t,u⟩) ?_ ?_
  ·intro ⟨j,n⟩ g;refine WE.b' (WE.b' (Ep ?_));refine an λw' a=>?_;exact .inr ⟨j,n,O,by simp only [aY,gR,gz,gO,gP,gA,gB,v,A,D,E,G,aC,g,cM,dN,eb,eu],(by have h:=a; have h:=Wt 1 h; exact h)⟩
  intro ew ⟨⟨dx,dy⟩,dz,ca⟩ dA ⟨bd,dC,dD⟩;have dE:dB ca:=UU b_ bd;refine I (Yf ht O) (aT 1 Y O O O dr O O O (I (Yf h5 O) (aT 1 Y O O O rx O O O (Ln (Eb (Eb (Et (ac (ab O ?_)))))))));refine Lb Y O ei O O O O λao=>?_;refine h1 (T:=9) (m:=1) 0 [[59]] O O (show 1<=1 by decide) (by decide) λJ K=>?_;refine WL.kx (iV b c dz ca J _ _ [[59]] K dD) ?_ ?_
  ·intro ⟨j,n⟩ g;rw [e7] at g;refine Ep ?_;refine an λw' a=>?_;exact .inr ⟨j,n,O,by simp only [aY,gR,gz,gO,gP,gA,gB,v,A,D,E,G,aC,bd,g,cM,dN,eb,eu],(by have h:=a; have h:=Wt 1 h; have h:=Ws.cK h (b9:=[c]) (by simp); exact h)⟩
  intro ⟨L,M⟩ ⟨z,N⟩;have ap:=iU dE z;rw [e7] at z;refine ad (ac (I (cI 1 O O iR O) (aT 2 Y O O O pz O O O (ad (aZ ?_)))));refine WE.fm (hW O (ej 2 O O iR O)) λw' a=>?_;exact .inl ⟨bE.mk 3 U.1 U.2 dx [] [],⟨dy,((none,0):Option Addr×Nat),((none,0):Option Addr×Nat)⟩,L,M,O,by simp only [aY,gR,gz,gO,gP,gA,gB,v,A,D,E,G,aC,bd,z,cM,dN,eb,eu],⟨(zh dC (c8 a (by simp) dA)),Sl.nil,Sl.nil⟩,N,Wv 2 (Wt 1 a)⟩
 obtain ⟨H,dF⟩:=dw bc;subst dF;refine ac (ab O ?_);refine WL.kw (ip b c b6 a_ [91] b7) ?_;intro ⟨ex,cb,cc⟩ ⟨dG,dH,cd⟩;refine ai O (ad ?_);refine Cc O (λbe=>?_) (λbe=>?_)
 ·have P:=dG be;have bf:=iT ba P;refine ac (ab O ?_);refine WL.ke (pF ((λb r l d w o t u y=>tO c 6 b r l d w o t u y)) b cb cc 1 O bf cd) ?_ ?_
  ·intro ⟨j,n⟩ g;refine Ep (WE.b' (WE.b' (Ep ?_)));refine an λw' a=>?_;exact .inr ⟨j,n,O,by simp only [aY,gR,gz,gO,gP,gA,gB,v,A,D,E,G,H,P,g,cM,dN,eb,eu],(by have h:=a; have h:=Wt 1 h; exact h)⟩
  intro ey ⟨⟨aD,aF⟩,dI,bg⟩ ce ⟨Q,cg,dJ⟩;have dL:dB bg:=pC bf Q;have ez:bg.length+1<=List.length (cc):=pD bf Q;refine Al Y O jJ λeA=>?_;refine aT 0 Y O O O ng O O O (ad (ac (ab O ?_)));refine Lb Y O ei O O O O λeB=>?_;refine h1 (T:=9) (m:=2) 0 [[93],[61]] O O (show 2<=2 by decide) (by decide) λdM dO=>?_;refine Lf 1 O ?_;refine WL.kx (iV b c dI bg dM _ _ [[93],[61]] dO dJ) ?_ ?_
  ·intro ⟨j,n⟩ g;refine Ep (WE.b' (WE.b' (Ep ?_)));refine an λw' a=>?_
   rcases UV g with g | ⟨aq,dP,g⟩
   · exact .inr ⟨j,n,O,by simp only [aY,gR,gz,gO,gP,gA,gB,v,A,D,E,G,H,P,Q,g,cM,dN,eb,eu],(by have h:=a; have h:=Wt 1 h; have h:=Ws.cK h (b9:=[c]) (by simp); exact h)⟩
   · exact .inr ⟨j,n,O,by simp only [aY,gR,gz,gO,gP,gA,gB,v,A,D,E,G,H,P,Q,dP,g,cM,dN,eb,eu],(by have h:=a; have h:=Wt 1 h; have h:=Ws.cK h (b9:=[c]) (by simp); exact h)⟩
  intro ⟨dQ,ch⟩ ⟨ae,dR⟩;have bh:=iU dL ae;refine ad ?_;refine CU (λ_=>true) [2,0] [7] (.q true 0 (.q false 1 (.q false 4 (.e 2 (.e 3 (.e 5 (.q false 6 .nil) .stop) (.e 5 (.e 3 (.q false 6 .nil) .stop) .stop)) .stop)))) mixed (by kernel_rfl) (λ_ _ _ d _ _ h=>by cases d<;>exact h) ?_;refine U0 O (dK [2,0]) (cI 0 O O fY O) (U0 O (dK [2,0]) (Ym O) (U0 O (dK [2,0]) (Yf ht O) ?_));refine Ue O (dK [2,0]) ?_ WU.stop;refine WL.ke (pF ((λb r l d w o t u y=>tO c 6 b r l d w o t u y)) b dQ ch 1 O bh dR) ?_ ?_
  ·intro ⟨j,n⟩ g;refine Ep (WE.b' (WE.b' (Ep ?_)));refine an λw' a=>?_;obtain ⟨aq,R,S⟩:=zk ae;exact .inr ⟨j,n,O,by simp only [aY,gR,gz,gO,gP,gA,gB,v,A,D,E,G,H,P,Q,R,S,g,cM,dN,eb,eu],(by have h:=a; have h:=Wt 1 h; have h:=Ws.cK h (b9:=[c]) (by simp); exact h)⟩
  intro eC ⟨⟨aG,aH⟩,ci,aI⟩ cj ⟨af,ck,cl⟩;have cm:dB aI:=pC bh af;have eD:aI.length+1<=List.length (ch):=pD bh af;refine Ln (Eu ?_);refine Ue O (λ_ h=>(Wv 1 (Wo 0 (Wo 2 h)):)) ?_ ?_
  ·refine Lb Y O bP O O O O λbj=>?_;refine LN (rd:=li) (f:=XE.cells) (m:=2) 0 [(aD,aF.1,aF.2),(aG,aH.1,aH.2)] O O (λk C=>by simp [bB,aE] at C; subst C; simp [eQ,bB,aE,cq]) XE.dk (λ_ _ _ _ h=>h) (show 2<=2 by decide) (by decide) λdS bk bl=>?_;refine Ln (Eu ?_);refine Ue O (λ_ h=>(Wv 2 (Wo 0 (Wo 2 h)):)) ?_ WU.stop;refine aT 2 Y O O O dr O O O (Ln (Eu (U0 O (λ_ h=>(Wv 2 (Wo 0 (Wo 2 h)):)) (Yf h5 O) ?_)));refine WU.nil (λ_ h=>(Wv 2 (Wo 0 (Wo 2 h)):)) ?_;refine WS.e O ?_;refine aT 2 Y O O O rx O O O (Ln (Es ?_));refine WS.nil ?_;refine Eb (Eb (Et (ac (ab O ?_))));refine Lb Y O ei O O O O λao=>?_;refine h1 (T:=9) (m:=1) 0 [[59]] O O (show 1<=1 by decide) (by decide) λJ K=>?_;refine WL.kx (iV b c ci aI J _ _ [[59]] K cl) ?_ ?_
   ·intro ⟨j,n⟩ g;rw [e7] at g;refine Ep ?_;refine an λw' a=>?_;obtain ⟨aq,R,S⟩:=zk ae;exact .inr ⟨j,n,O,by simp only [aY,gR,gz,gO,gP,gA,gB,v,A,D,E,G,H,P,Q,R,S,af,g,cM,dN,eb,eu],(by have h:=a; have h:=Wt 1 h; have h:=Ws.cK h (b9:=[c]) (by simp); exact h)⟩
   intro ⟨L,M⟩ ⟨z,N⟩;have ap:=iU cm z;rw [e7] at z;refine ad (ac (I (cI 2 O O iR O) (aT 3 Y O O O pz O O O (ad (aZ ?_)))));refine WE.fm (hW O (ej 3 O O iR O)) λw' a=>?_;obtain ⟨aq,R,S⟩:=zk ae;exact .inl ⟨bE.mk 2 U.1 U.2 [aD,aG] [] [],⟨(some ⟨bj,0,none⟩,2),((none,0):Option Addr×Nat),((none,0):Option Addr×Nat)⟩,L,M,O,by simp only [aY,gR,gz,gO,gP,gA,gB,v,A,D,E,G,H,P,Q,R,S,af,z,cM,dN,eb,eu],⟨(lj bl (c8 a (by simp) bk) (bK.refl _) (((iq.nil (nv w w') 6).snoc (bK.refl _) (c8 a (by simp) ce) cg).snoc (bK.refl _) (c8 a (by simp) cj) ck)),Sl.nil,Sl.nil⟩,N,Wv 5 (Wt 1 a)⟩
  refine Ue O (λ_ h=>(Wv 1 (Wo 0 (Wo 2 h)):)) ?_ WU.stop;refine aT 2 Y O O O dr O O O (Ln (Eu ?_));refine Ue O (λ_ h=>(Wv 1 (Wo 0 (Wo 2 h)):)) ?_ WU.stop;refine Lb Y O bP O O O O λbj=>?_;refine LN (rd:=li) (f:=XE.cells) (m:=2) 0 [(aD,aF.1,aF.2),(aG,aH.1,aH.2)] O O (λk C=>by simp [bB,aE] at C; subst C; simp [eQ,bB,aE,cq]) XE.dk (λ_ _ _ _ h=>h) (show 2<=2 by decide) (by decide) λdS bk bl=>?_;refine Ln (Eu (U0 O (λ_ h=>(Wv 2 (Wo 0 (Wo 2 h)):)) (Yf h5 O) ?_));refine WU.nil (λ_ h=>(Wv 2 (Wo 0 (Wo 2 h)):)) ?_;refine WS.e O ?_;refine aT 2 Y O O O rx O O O (Ln (Es ?_));refine WS.nil ?_;refine Eb (Eb (Et (ac (ab O ?_))));refine Lb Y O ei O O O O λao=>?_;refine h1 (T:=9) (m:=1) 0 [[59]] O O (show 1<=1 by decide) (by decide) λJ K=>?_;refine WL.kx (iV b c ci aI J _ _ [[59]] K cl) ?_ ?_
  ·intro ⟨j,n⟩ g;rw [e7] at g;refine Ep ?_;refine an λw' a=>?_;obtain ⟨aq,R,S⟩:=zk ae;exact .inr ⟨j,n,O,by simp only [aY,gR,gz,gO,gP,gA,gB,v,A,D,E,G,H,P,Q,R,S,af,g,cM,dN,eb,eu],(by have h:=a; have h:=Wt 1 h; have h:=Ws.cK h (b9:=[c]) (by simp); exact h)⟩
  intro ⟨L,M⟩ ⟨z,N⟩;have ap:=iU cm z;rw [e7] at z;refine ad (ac (I (cI 2 O O iR O) (aT 3 Y O O O pz O O O (ad (aZ ?_)))));refine WE.fm (hW O (ej 3 O O iR O)) λw' a=>?_;obtain ⟨aq,R,S⟩:=zk ae;exact .inl ⟨bE.mk 2 U.1 U.2 [aD,aG] [] [],⟨(some ⟨bj,0,none⟩,2),((none,0):Option Addr×Nat),((none,0):Option Addr×Nat)⟩,L,M,O,by simp only [aY,gR,gz,gO,gP,gA,gB,v,A,D,E,G,H,P,Q,R,S,af,z,cM,dN,eb,eu],⟨(lj bl (c8 a (by simp) bk) (bK.refl _) (((iq.nil (nv w w') 6).snoc (bK.refl _) (c8 a (by simp) ce) cg).snoc (bK.refl _) (c8 a (by simp) cj) ck)),Sl.nil,Sl.nil⟩,N,Wv 5 (Wt 1 a)⟩
 obtain ⟨aJ,dT⟩:=dH be;subst dT;refine ac (ab O ?_);refine Lb Y O ei O O O O λeE=>?_;refine h1 (T:=9) (m:=1) 0 [[61]] O O (show 1<=1 by decide) (by decide) λdU dV=>?_;refine WL.kx (iV b c cb a_ dU _ _ [[61]] dV cd) ?_ ?_
 ·intro ⟨j,n⟩ g;rw [e7] at g;refine Ep (WE.b' (WE.b' (Ep ?_)));refine an λw' a=>?_;exact .inr ⟨j,n,O,by simp only [aY,gR,gz,gO,gP,gA,gB,v,A,D,E,G,H,aJ,g,cM,dN,eb,eu],(by have h:=a; have h:=Wt 1 h; have h:=Ws.cK h (b9:=[c]) (by simp); exact h)⟩
 intro ⟨dX,cn⟩ ⟨ar,dY⟩;have bm:=iU ba ar;rw [e7] at ar;refine ad (Cr (ab O ?_));refine WL.ke (pF ((λb r l d w o t u y=>tO c 6 b r l d w o t u y)) b dX cn 1 O bm dY) ?_ ?_
 ·intro ⟨j,n⟩ g;refine WE.b' (WE.b' (Ep ?_));refine an λw' a=>?_;exact .inr ⟨j,n,O,by simp only [aY,gR,gz,gO,gP,gA,gB,v,A,D,E,G,H,aJ,ar,g,cM,dN,eb,eu],(by have h:=a; have h:=Wt 1 h; have h:=Ws.cK h (b9:=[c]) (by simp); exact h)⟩
 intro dZ ⟨⟨co,cp⟩,d0,bn⟩ d1 ⟨aL,d2,d3⟩;have d4:dB bn:=pC bm aL;have eF:bn.length+1<=List.length (cn):=pD bm aL;refine Lb Y O bP O O O O λd5=>?_;refine LN (rd:=li) (f:=XE.cells) (m:=1) 0 [(co,cp.1,cp.2)] O O (λk C=>by simp [bB,aE] at C; subst C; simp [eQ,bB,aE,cq]) XE.dk (λ_ _ _ _ h=>h) (show 1<=1 by decide) (by decide) λeG d6 d7=>?_;refine I (Yf ht O) (aT 1 Y O O O dr O O O (I (Yf h5 O) (aT 1 Y O O O rx O O O (Ln (Eb (Eb (Et (ac (ab O ?_)))))))));refine Lb Y O ei O O O O λao=>?_;refine h1 (T:=9) (m:=1) 0 [[59]] O O (show 1<=1 by decide) (by decide) λJ K=>?_;refine WL.kx (iV b c d0 bn J _ _ [[59]] K d3) ?_ ?_
 ·intro ⟨j,n⟩ g;rw [e7] at g;refine Ep ?_;refine an λw' a=>?_;exact .inr ⟨j,n,O,by simp only [aY,gR,gz,gO,gP,gA,gB,v,A,D,E,G,H,aJ,ar,aL,g,cM,dN,eb,eu],(by have h:=a; have h:=Wt 1 h; have h:=Ws.cK h (b9:=[c]) (by simp); exact h)⟩
 intro ⟨L,M⟩ ⟨z,N⟩;have ap:=iU d4 z;rw [e7] at z;refine ad (ac (I (cI 1 O O iR O) (aT 2 Y O O O pz O O O (ad (aZ ?_)))));refine WE.fm (hW O (ej 2 O O iR O)) λw' a=>?_;exact .inl ⟨bE.mk 1 U.1 U.2 [co] [] [],⟨(some ⟨d5,0,none⟩,1),((none,0):Option Addr×Nat),((none,0):Option Addr×Nat)⟩,L,M,O,by simp only [aY,gR,gz,gO,gP,gA,gB,v,A,D,E,G,H,aJ,ar,aL,z,cM,dN,eb,eu],⟨(lj d7 (c8 a (by simp) d6) (c8 a (by simp) d1) ((iq.nil dZ 6).snoc (bK.refl _) (bK.refl _) d2)),Sl.nil,Sl.nil⟩,N,Wv 4 (Wt 1 a)⟩
def Mc (b:View) (f:Nat) (j:Nat) (r:Option Addr×Nat) (l:Tk) (d:Nat) (w:World) (aS:f+d=7) (E:dB l) (ag:Sl dW 3 b r.1 r.2 l) (o:Ws w (List.flatMap ah.ids (bB j r l)) (bB j r l) [b] w) :
   Calls prog 212 #[.pointer (some ⟨j,0,none⟩),.int .i64 (d:Int)] w λe w'=>(∃(x:List bE) (s:Option Addr×Nat) (t:Option Addr×Nat) (q:Tk),e = .returned (.slice s.1 x.length s.2)/\hq f l=some (x,q)/\Sl (e5 7 f) 6 (nv w w') s.1 s.2 x/\Sl dW 3 b t.1 t.2 q/\Ws w (List.flatMap ah.ids (bB j r l)) (bB j t q) [b] w')\/(∃(t:Option Addr×Nat) (q:Tk),e = .panicked g_/\hq f l=none/\Ws w (List.flatMap ah.ids (bB j r l)) (bB j t q) [b] w'):=by
 induction f using Nat.strongRecOn generalizing j r l d w
 rename_i f aj;refine enter func212 O 23 O O ?_;refine CE o (ac (ai O (ad (Cs (ac (ab O (I (ed O O) (ad ?_))))))));refine Cc O (λG=>?_) (λG=>?_)
 ·have ak:hq f l=none:=by
    obtain rfl:f=0:=by simp at G; omega
    rfl
  refine Cr (I (Yb sr sq O O) (I (pZ ss O) ?_));refine WL.panic Y O ?_;refine Ep ?_;refine an λw' o=>?_;exact .inr ⟨r,l,O,ak,(by have h:=o; exact h)⟩
 have aT:¬6<d:=by simp at G; omega
 obtain ⟨f,rfl⟩:∃k,f=k+1:=⟨f-1,Z⟩;have al:Mb b f:=λj r l d w v y z H=>aj f Z j r l d w v y z H;refine am (ac (ab O ?_));refine Lb Y O ei O O O O λaU=>?_;refine h1 (T:=9) (m:=1) 0 [[123]] O O (show 1<=1 by decide) bf λao ap=>?_;refine WL.kx (iV j b r l ao _ _ [[123]] ap ag) ?_ ?_
 ·intro ⟨K,L⟩ B;rw [e7] at B;refine Ep ?_;refine an λw' o=>?_;exact .inr ⟨K,L,O,by rw [hq,B]; rfl,(by have h:=o; have h:=Ws.cK h (b9:=[b]) au; exact h)⟩
 intro ⟨aq,M⟩ ⟨C,ar⟩;have av:=iU E C;rw [e7] at C;refine ad (ac (ai O (LW (λ_ h=>h.g3 241 6) ?_)));refine WL.v0 ?_;refine ad (Cs (Cb ?_));refine e0 (ι:=GS) (λg=>[(5,.slice g.a g.es.length g.c)]) [(0,_),(1,_),(4,_)] (λg=>Ws w (List.flatMap ah.ids (bB j r l)) (bB j g.r g.q++[cW 241 6 SX.cells g.a g.c g.es]) [g.J,b]) (λg=>(g.es.length+g.q.length<=l.length/\dB g.q)/\Sl dW 3 b g.r.1 g.r.2 g.q/\(eD w g.J/\qs g.J f g.es)/\∃n,g.q.length<n/\hq (f+1) l=(nQ (aY (hq f)) n g.q).map λp=>(g.es.map (·.1)++p.1,p.2)) (λg=>g.q.length) ⟨[],none,0,v0,aq,M⟩ ⟨⟨by have:M.length+1=l.length:=iS C; simp; omega,av⟩,ar,⟨ol w,qs.nil _ _⟩,M.length+1,au,by rw [hq,C]; simp⟩ (λ_ h=>by have h:=h.aJ 1 O; have h:=Ws.cK h (b9:=[v0,b]) au; exact h) ?_;intro g ⟨⟨aV,D⟩,aw,⟨S,U⟩,u⟩;refine Cs (ac (ab O ?_));refine WL.kw (ip j b g.r g.q [125] aw) ?_;intro ⟨aW,V,ax⟩ ⟨ay,az,W⟩;refine I (eR O) (ad ?_);refine Cc O (λN=>?_) (λN=>?_)
 ·obtain ⟨X,aA⟩:=az (by simpa using N);subst aA;obtain ⟨n,aB,u⟩:=u;obtain ⟨n,rfl⟩:∃k,n=k+1:=⟨n-1,Z⟩;refine am (Cb (Cr (ab O (ab O (ab O ?_)))))
  refine oj (ι:=(bE×pG)×(Option Addr×Nat)×Tk) (κ:=(Option Addr×Nat)×Tk) [_] _ Y O aK O O (λi=>.agg #[.int .i64 (i.1.1).op,st (i.1.1).mod,st (i.1.1).nm,.slice (i.1.2).s1.1 (i.1.1).args.length (i.1.2).s1.2,.slice (i.1.2).s2.1 (i.1.1).body.length (i.1.2).s2.2,.slice (i.1.2).s3.1 (i.1.1).other.length (i.1.2).s3.2]) (λi=>bB j i.2.1 i.2.2) (λF i=>aY (hq f) g.q=some (i.1.1,i.2.2)/\vu f F i.1.1 i.1.2/\Sl dW 3 b i.2.1.1 i.2.1.2 i.2.2) (λ_=>g_) (λi=>bB j i.1 i.2) (λ_=>aY (hq f) g.q=none) ([b]) au qy (λw o=>(UZ j b V g.q f d w al Z D W o).mono λe w' h=>by
      rcases h with ⟨x,s,t,q,v,y,z,H,aC⟩ | ⟨t,q,v,y,z⟩
      · exact .inl ⟨((x,s),t,q),v,⟨y,z,H⟩,aC⟩
      · exact .inr ⟨(t,q),v,y,z⟩) ?_ ?_
  ·intro ⟨K,L⟩ B;refine WE.b' (Ep (WE.b' (Ep ?_)));refine an λw' o=>?_;exact .inr ⟨K,L,O,by rw [u,UY X B]; rfl,(by have h:=o; have h:=Wt 1 h; have h:=Ws.cK h (b9:=[b]) au; exact h)⟩
  intro aX ⟨⟨P,Q⟩,aD,A⟩ aF ⟨R,aG,aH⟩;have aI:dB A:=UT D R;have a0:A.length<List.length (g.q):=S3 (y4 f) (D).all R;refine WL.jc λaa aL aM aN=>?_;refine Lb Y O BV O O O O λa1=>?_;refine dn 0 (.cells (SX.cells (P,Q)).toArray 241 (0,0)) O O ?_;refine LA ((P,Q):SX) 2 0 Y O BV O O O O O O (by have:=E.len; omega) (by have:=E.len; omega) λaO aP=>?_;refine ai O (Ln (Eb ?_))
  exact ct (⟨g.es++[(P,Q)],aO,aP,aa,aD,A⟩:GS) (by show A.length<g.q.length; omega) ⟨⟨by simp; omega,aI⟩,aH,⟨aN _ aF S,qs.snoc U aM aL aG⟩,n,(show A.length<n by omega),by rw [u,UX X R]; simp [pU]⟩ (λ_ h=>by
      have h:=h.aJ 2 rfl;have h:=h.aJ 2 rfl;have h:=Wt 2 h;have h:=Ws.cK h (b9:=[aa,b]) au
      exact h)
 have ae:=ay (by simpa using N);have a2:=iT D ae;obtain ⟨n,aB,u⟩:=u;obtain ⟨n,rfl⟩:∃k,n=k+1:=⟨n-1,Z⟩;refine Ce (Ex (Ex (cU (Et (Cs ?_)))));refine WC.mu (rd:=BU) 1 O (λk af=>by simp [bB,aE] at af; subst af; simp [eQ,bB,aE,cq]) SX.dk eZ λa3 aQ aR=>?_;refine Cr (ab O (ai O (ad (aZ ?_))));refine R1 O O λw' o=>?_;exact .inl ⟨g.es.map (·.1),(g.a,g.c),V,ax,by rw [gD],by rw [u,UW ae]; simp,FF aR (c8 o au aQ) (c8 o au S) U,W,(Wv 2 o)⟩
end Go.Proofs.YtgeahfjicmlocaaGreatDoor
end
