/- LinkSame: the code of a program does what the program means (proved in the second form, bulk at most 1048576). -/
import Derived.Ground.Names2Prog
import Derived.Ground.SlgnProg
import Derived.Lib.AtoiErrMem
import Derived.Shelf.LaysC
import Derived.Shelf.LaysM
import Derived.Shelf.Slices.Clone
import Derived.Shelf.Slices.Turned
import Derived.Shelf.SlicesE.Clone
import Derived.Shelf.Small.Bits
import Derived.Shelf.Small.Strs
import Derived.Shelf.Strconv.Atoi
import Derived.Shelf.Strconv.AtoiAll
import Derived.Shelf.Strconv.AtoiErrFast
import Derived.Shelf.Strconv.AtoiFail
import Derived.Shelf.Strconv.AtoiInnerAll
import Derived.Shelf.Strconv.AtoiLong
import Derived.Shelf.Strconv.Clone
import Derived.Shelf.Strconv.Itoa0
import Derived.Shelf.Strconv.Itoa1
import Derived.Shelf.Strconv.Itoa2
import Derived.Shelf.Strconv.Itoa3
import Derived.Shelf.Strconv.Lower
import Derived.Shelf.Strconv.ParseInt10
import Derived.Shelf.Strconv.ParseIntEmpty
import Derived.Shelf.Strconv.ParseUint10
import Derived.Shelf.Strconv.ParseUint10Any
import Derived.Shelf.Strconv.ParseUint10Empty
import Derived.Shelf.Strconv.ParseUint10b16
import Derived.Shelf.Strconv.ParseUint10b32
import Derived.Shelf.Strconv.ParseUint10b64
import Derived.Shelf.Strconv.ParseUint10b8
import Derived.Shelf.Strconv.ParseUintEmpty
import Derived.Shelf.Strconv.RangeError
import Derived.Shelf.Strconv.SyntaxError
import Derived.Shelf.Strconv.ToError
import Derived.Shelf.Strconv.ToErrorRange
import Derived.Shelf.Strings.Builder1
import Derived.Shelf.Strings.Search1
import Derived.Test.YtgeahfjicmlocaaGreatDoorProg
import Derived.Test.YtgeahfjicmlocaaGreatDoorRows
import Derived.Test.YtgeahfjicmlocaaGreatDoorM2
set_option linter.unusedVariables false
set_option linter.unusedSimpArgs false
set_option linter.defProp false
section
namespace Go.Bw
open Go
def rG:∀{l:List eb},(∀d ∈ l,(iI d).cA=0)->0<=bh l/\bh l<=32*(l.length:Int)
 | [],_=>by simp [bh]
 | d::r,h=>by
   have c:=rG (l:=r) λx b=>h x (by simp [b]);have a:=Ct (h d ai)
   have f:0<=jt d/\jt d<=32:=by
     unfold jt
     rcases a.kind with e | e | e
     · simp [e]
     · simp [e]
     · have:=a.n3 e; simp [e]; omega
   simp only [bh,gf];omega
structure Gj (m:df) (x:cP):Prop where
 name:hF x.name=true
 kind:(x.kind=1/\0<=x.n/\x.n<=1099511627775/\x.pl=0)\/(x.kind=2/\x.n=0/\0<=x.pl/\x.pl+1<=mm m)\/(x.kind=3/\1<=x.n/\x.n<=32/\0<=x.pl/\x.pl+x.n<=mm m)\/(x.kind=4/\∃(i:Nat) (p:f'),x.pl=i/\m.procs[i]? = some p/\x.n=(p.params.length:Int))
def LV:∀{l:List eb} {a:Int},(∀d ∈ l,(iI d).cA=0)->0<=a->∀x ∈ jL l a,hF x.name=true/\((x.kind=1/\0<=x.n/\x.n<=1099511627775/\x.pl=0)\/(x.kind=2/\x.n=0/\0<=x.pl/\x.pl+1<=a+bh l)\/(x.kind=3/\1<=x.n/\x.n<=32/\0<=x.pl/\x.pl+x.n<=a+bh l))
 | [],_,_,_,x,b=>by simp [jL] at b
 | d::r,a,h,g,x,b=>by
   have c:=Ct (h d ai);have i:=rG (l:=r) λx b=>h x (by simp [b])
   have j:0<=jt d:=by
     unfold jt
     rcases c.kind with e | e | e
     · simp [e]
     · simp [e]
     · have:=c.n3 e; simp [e]; omega
   simp only [jL] at b;simp only [bh]
   rcases ep.1 b with rfl | b
   · refine ⟨c.name,?_⟩
     unfold n_ jt
     rcases c.kind with e | e | e
     · have:=c.n1 e; simp [e]; omega
     · have:=c.n2 e; simp [e]; omega
     · have:=c.n3 e; simp [e]; omega
   · have f:=LV (l:=r) (a:=a+jt d) (λx b=>h x (by simp [b])) aa x b
     rw [show a+(jt d+bh r)=a+jt d+bh r by omega];exact f
def DN {m:df}:∀{l:List f'} {i:Nat},(∀p ∈ l,hF p.nm=true)->(∀(j:Nat) p,l[j]? = some p->m.procs[i+j]? = some p)->∀x ∈ lQ l i,hF x.name=true/\x.kind=4/\∃(j:Nat) (p:f'),x.pl=j/\m.procs[j]? = some p/\x.n=(p.params.length:Int)
 | [],_,_,_,x,a=>by simp [lQ] at a
 | p::r,i,h,b,x,a=>by
   simp only [lQ] at a
   rcases ep.1 a with rfl | a
   · exact ⟨h p ai,O,i,p,O,b 0 p O,O⟩
   · exact DN (l:=r) (i:=i+1) (λx a=>h x (by simp [a])) (λj q c=>by rw [show i+1+j=i+(j+1) by omega]; exact b (j+1) q c) x a
variable {bP:df}
def zi (h:lr bP):∀x ∈ fy bP,Gj bP x:=λx b=>by
 rcases ge.1 b with b | b
 · obtain ⟨c,a⟩:=LV h.decls (AK 0) x b
   rw [D_] at a;exact ⟨c,by rcases a with a | a | a; exact .inl a; exact .inr<|.inl a; exact .inr<|.inr<|.inl a⟩
 · obtain ⟨c,a⟩:=DN (m:=bP) (λp d=>(zf<|h.procs p d).name) (λj p d=>by rw [lK]; exact d) x b
   exact ⟨c,.inr<|.inr<|.inr a⟩
def xk (h:lr bP):0<=mm bP/\mm bP<=320:=by
 have:=rG h.decls;have:=h.e8;unfold mm;omega
def SR (h:lr bP) {x:cP} (b:Gj bP x):cH x=true:=by
 have d:=ze b.name;have f:=xk h;unfold cH aX;rw [d]
 rcases b.kind with ⟨e,a⟩ | ⟨e,a⟩ | ⟨e,a⟩ | ⟨e,i,p,a,c,g⟩
 · simp [e]; omega
 · simp [e]; omega
 · simp [e]; omega
 · have j:=(zf<|h.procs p<|az c).e8
   have k:=(cq.1 c).1;have l:=h.e8;simp [e]; omega
def Cv:∀(l:List cP) (ps:List Bool),(jM l ps).Sublist l
 | [],_=>by simp [jM]
 | x::l,[]=>by simp [jM]
 | x::l,p::ps=>by
   simp only [jM];cases p
   · simpa using (Cv l ps).cons x
   · simpa using (Cv l ps).cons_cons x
def zj (h:(gy bP).2=0):pJ (gy bP).1.1 (gy bP).1.2=0/\(gy bP).1.1=bP.nm/\lr bP:=by
 unfold gy at h ⊢
 split at h
 · rename_i b; exact absurd h b
 · rename_i b
   have e:ku bP=0:=by simpa using b
   have a:=LK (LU.1 e)
   split at h
   · cases h
   · rename_i c
     rw [ZX b,ZX c];refine ⟨?_,O,a⟩
     show pJ bP.nm (jM (fy bP)<|mn bP)=0
     have f:f_ ((fy bP).map (·.name))=false:=by
       cases g:f_ ((fy bP).map (·.name)) with
       | false=>rfl
       | true=>rw [g] at c; simp at c
     have d:=Cv (fy bP) (mn bP);have i:((jM (fy bP)<|mn bP).map (·.name)).Nodup:=(d.map (·.name)).nodup (j_.2 f);have j:=E5 (fy bP) (mn bP);rw [yN] at j;have m:=a.e8;unfold pJ;have k:(jM (fy bP)<|mn bP).all cH=true:=gN.2 λx l=>SR a<|zi a x<|d.subset l;rw [k,j_.1 i,ze a.name];simp;omega
section
variable {m:df} {aC:List Tx}
variable {ck:Tx} {Z:Nat}
def LX {l:List Tx}  (h:idxOf ck l 0=some Z):Z<l.length:=by
 have:=(pP h).2;rw [nX] at this;exact (cq.1 this).1
def Cw:∀{l:List cP} {x:cP},hI ck l=some x->x ∈ l
 | [],_,h=>by cases h
 | y::r,x,h=>by
   unfold hI at h
   split at h
   · injection h with h; subst h; simp
   · exact dT _<|Cw h
variable {fi:Tx} {aH:Int}
def zk (c:m.aA=[])   {it:cP} (h:gI (cp m [] aC) ck fi=some (aH,it)):(aH = -1/\0<=it.pl/\it.pl<(aC.length:Int))\/(aH=0/\it ∈ fy m):=by
 unfold gI at h
 split at h
 · split at h
   · rename_i i hi
     injection h with h; injection h with a b
     subst a b;have f:i<aC.length:=LX hi;exact .inl ⟨O,by show (0:Int)<=(i:Int); omega,by show (i:Int)<_; omega⟩
   · obtain ⟨x,d,e⟩:=dS.1 h
     injection e with a b
     subst a b;exact .inr ⟨O,Cw d⟩
 · unfold cp at h
   rw [c] at h;unfold kS at h;cases h
def m3 (m:df):List ec:=[aE (eB m [])]
def Cx (a:lr m) {pl n:Int} (d:0<=pl) (b:pl+n<=mm m) (e:0<=n):jv (m3 m) 0 pl n=true:=by
 have f:=xk a
 have c:mu (m3 m) ((0:Nat):Int) pl=false:=by
   unfold mu m3;simp;omega
 have:=tK (n:=n) (k:=aE (eB m [])) c rfl;rw [show (((0:Nat):Int))=0 from rfl] at this;rw [this,ZZ (show (aE<|eB m []).oi=true from rfl)];exact aaa b
def LY {i:Nat} {p:f'} (a:m.procs[i]? = some p):jf (m3 m) 0 i (p.params.length:Int)=true:=by
 have b:=(cq.1 a).1
 have c:mW (m3 m) ((0:Nat):Int) (i:Int)=false:=by
   unfold mW m3;simp
 have:=sk (n:=(p.params.length:Int)) (k:=aE (eB m [])) c rfl;rw [show (((0:Nat):Int))=0 from rfl] at this;rw [this,ZZ (show (aE<|eB m []).oi=true from rfl)]
 have e:(aE<|eB m []).parts=m.procs.map λp=>(p.params.length:Int):=by
   unfold aE eB;simp [qu]
 rw [e,i',e4,a,fu];simp;exact b
def ki {n:Nat} (h:pG aH n=false) (a:0<=aH):(n:Int)=aH:=by
 unfold pG at h;rw [aaa a] at h
 simpa using h
variable {e_:List bT}
def SS (o:lr m) (x:m.aA=[]) {op n:Int}    (r:F_ op n ck fi e_ Z) (a:(dy (cp m [] aC) op n ck fi e_.length).e=0) :
   node1 (m3 m) aC.length (dy (cp m [] aC) op n ck fi e_.length).op (dy (cp m [] aC) op n ck fi e_.length).n (dy (cp m [] aC) op n ck fi e_.length).m (dy (cp m [] aC) op n ck fi e_.length).pl e_.length=true:=by
 have B:=r.kind;have g:=r.num;have d:=r.xi
 by_cases j:aX op 3 5=true
 · have u:op=3\/op=4\/op=5:=by unfold aX at j; simp at j; omega
   have f:n=0:=by
     unfold jI at g
     have:¬op=1:=aa
     simpa [this] using g
   unfold dy at a ⊢;rw [ZZ j] at a ⊢
   cases s:gI (cp m [] aC) ck fi with
   | none=>rw [s] at a; cases a
   | some q=>
     obtain ⟨k,it⟩:=q;rw [s] at a;dsimp only at a ⊢
     rcases zk x s with ⟨rfl,y,z⟩ | ⟨rfl,A⟩
     · rw [ZZ rfl] at a ⊢
       have t:op=3:=by
         dsimp only at a
         split at a
         · assumption
         · cases a
       subst t;have b:=ki d a8;rw [show lf 3=0 from rfl] at b;unfold node1 qw;simp [f,b,y,z]
     · rw [ZX a8] at a ⊢
       have hi:=zi o it A
       rcases u with rfl | rfl | rfl
       · have b:=ki d a8
         rw [show lf 3=0 from rfl] at b
         rcases hi.kind with ⟨e,c⟩ | ⟨e,c⟩ | ⟨e,c⟩ | ⟨e,c⟩
         · rw [ZZ ⟨rfl,e⟩]
           unfold node1; simp [b]; omega
         · rw [ZX aa,ZZ ⟨rfl,e⟩]
           have:=Cx o (pl:=it.pl) (n:=1) c.2.1 c.2.2 a8;unfold node1; simp [b,f,this]
         · rw [ZX aa,ZX aa,ZX aa,ZX aa] at a; cases a
         · rw [ZX aa,ZX aa,ZX aa,ZX aa] at a; cases a
       · have b:=ki d a8
         rw [show lf 4=1 from rfl] at b;rw [ZX aa,ZX aa] at a ⊢
         rcases hi.kind with ⟨e,c⟩ | ⟨e,c⟩ | ⟨e,c⟩ | ⟨e,c⟩
         · rw [ZX aa,ZX aa] at a; cases a
         · rw [ZX aa,ZX aa] at a; cases a
         · rw [ZZ ⟨rfl,e⟩]
           have:=Cx o (pl:=it.pl) (n:=it.n) c.2.2.1 c.2.2.2 aa;unfold node1 qx; simp [b,this]; omega
         · rw [ZX aa,ZX aa] at a; cases a
       · rw [ZX aa,ZX aa,ZX aa] at a ⊢
         rcases hi.kind with ⟨e,c⟩ | ⟨e,c⟩ | ⟨e,c⟩ | ⟨e,i,p,c,l,t⟩
         · rw [ZX aa] at a; cases a
         · rw [ZX aa] at a; cases a
         · rw [ZX aa] at a; cases a
         · rw [ZZ ⟨rfl,e⟩] at a ⊢
           dsimp only at a ⊢
           have b:it.n=(e_.length:Int):=by
             split at a
             · assumption
             · cases a
           have:=LY l;rw [<-c,<-t,b] at this;unfold node1; simp [f,this]
 · have u:¬(op=3\/op=4\/op=5):=λh=>j (by unfold aX; simp; omega)
   unfold dy;rw [ZX j];dsimp only
   by_cases c:op=1
   · subst c
     have b:=ki d a8;rw [show lf 1=0 from rfl] at b;unfold jI at g;unfold node1; simp [b] at g ⊢; omega
   · have f:n=0:=by
       unfold jI at g
       simpa [c] using g
     by_cases l:op=2
     · subst l
       have b:=ki d a8;rw [show lf 2=0 from rfl] at b;unfold node1; simp [f,b]
     · by_cases v:op=6
       · subst v
         have b:=ki d a8;rw [show lf 6=1 from rfl] at b;unfold node1; simp [f,b]
       · have w:lf op=2:=by unfold lf; rw [ZX aa,ZX aa,ZX aa]
         have b:=ki d (by rw [w]; decide);rw [w] at b;unfold node1;rw [ZX c,ZX aa,ZX aa,ZX aa,ZX aa,ZX l,ZX v,ZZ aa];simp [f,b]
mutual
def SU (b:lr m) (c:m.aA=[]):∀(x:bT) (d:Nat),(iX x d).cA=0->ka (cp m [] aC) x=0->jg (m3 m) aC.length (og (cp m [] aC) x) d=true
 | .mk op n mod nm args,d,e,he=>by
   have a:=LD e;rw [tJ] at he;obtain ⟨f,g⟩:=ll.1 he;rw [Fa,jg]
   have h:(hK (cp m [] aC) (bT.mk op n mod nm args).args).length=args.length:=by rw [jJ,fu]; rfl
   rw [h];have i:=SS b c a f;have j:=rJ b c args (d+1) a.sub g;rw [aaa a.deep]
   show (node1 _ _ (dy (cp m [] aC) op n mod nm args.length).op (dy (cp m [] aC) op n mod nm args.length).n (dy (cp m [] aC) op n mod nm args.length).m (dy (cp m [] aC) op n mod nm args.length).pl args.length&&gA _ _ (hK (cp m [] aC) args) (d+1))=true
   rw [i,j]; rfl
def rJ (a:lr m) (b:m.aA=[]):∀(l:List bT) (d:Nat),(dZ l d).cA=0->ir (cp m [] aC) l=0->gA (m3 m) aC.length (hK (cp m [] aC) l) d=true
 | [],d,_,_=>by rw [hK,gA]
 | x::r,d,c,he=>by
   unfold dZ at c;unfold ir at he;obtain ⟨c1,c2⟩:=h1 c;obtain ⟨e,f⟩:=ll.1 he;rw [hK,gA,SU a b x d c1 e,rJ a b r d c2 f]; rfl
end
def SV (s:lr m) (y:m.aA=[])    {body other:List b9}  (t:zd aH ck fi e_ body other Z) (a:(dJ (cp m [] aC) aH ck fi e_.length).e=0) :
   (dJ (cp m [] aC) aH ck fi e_.length).op=aH/\aW (m3 m) aC.length (dJ (cp m [] aC) aH ck fi e_.length).op (dJ (cp m [] aC) aH ck fi e_.length).n (dJ (cp m [] aC) aH ck fi e_.length).m (dJ (cp m [] aC) aH ck fi e_.length).pl e_.length body.length other.length=true:=by
 have E:=t.kind;have l:=t.xi;have o:=t.form
 have r:(aH≠4/\aH≠5->body.length=0)/\(aH≠4->other.length=0):=by
   unfold iH inner at o;simp at o;refine ⟨λh=>?_,λh=>?_⟩
   · have:=o.1 h.1 h.2; simp [this]
   · have:=o.2 h; simp [this]
 by_cases g:aX aH 1 3=true
 · have u:aH=1\/aH=2\/aH=3:=by unfold aX at g; simp at g; omega
   have f:body.length=0:=r.1 aa;have d:other.length=0:=r.2 aa;unfold dJ at a ⊢;rw [ZZ g] at a ⊢
   cases v:gI (cp m [] aC) ck fi with
   | none=>rw [v] at a; cases a
   | some q=>
     obtain ⟨k,it⟩:=q;rw [v] at a;dsimp only at a ⊢
     rcases zk y v with ⟨rfl,z,A⟩ | ⟨rfl,B⟩
     · rcases u with rfl | rfl | rfl
       · have c:=ki l a8
         rw [show oX 1=1 from rfl] at c;rw [ZZ ⟨rfl,.inl rfl⟩];refine ⟨O,?_⟩;unfold aW qw;simp [c,f,d,z,A]
       · rw [ZX aa,ZZ rfl] at a; cases a
       · rw [ZX aa,ZZ rfl] at a; cases a
     · have hi:=zi s it B
       rcases u with rfl | rfl | rfl
       · have c:=ki l a8
         rw [show oX 1=1 from rfl] at c
         rcases hi.kind with ⟨e,b⟩ | ⟨e,b⟩ | ⟨e,b⟩ | ⟨e,b⟩
         · rw [ZX aa,ZX aa,ZX aa,ZX aa] at a; cases a
         · rw [ZZ ⟨rfl,.inr e⟩]
           have:=Cx s (pl:=it.pl) (n:=1) b.2.1 b.2.2 a8;refine ⟨O,?_⟩;unfold aW; simp [c,f,d,this]
         · rw [ZX aa,ZX aa,ZX aa,ZX aa] at a; cases a
         · rw [ZX aa,ZX aa,ZX aa,ZX aa] at a; cases a
       · have c:=ki l a8
         rw [show oX 2=2 from rfl] at c;rw [ZX aa,ZX aa] at a ⊢
         rcases hi.kind with ⟨e,b⟩ | ⟨e,b⟩ | ⟨e,b⟩ | ⟨e,b⟩
         · rw [ZX aa,ZX aa] at a; cases a
         · rw [ZX aa,ZX aa] at a; cases a
         · rw [ZZ ⟨rfl,e⟩]
           have:=Cx s (pl:=it.pl) (n:=it.n) b.2.2.1 b.2.2.2 aa;refine ⟨O,?_⟩;unfold aW qx; simp [c,f,d,this]; omega
         · rw [ZX aa,ZX aa] at a; cases a
       · rw [ZX aa,ZX aa,ZX aa] at a ⊢
         rcases hi.kind with ⟨e,b⟩ | ⟨e,b⟩ | ⟨e,b⟩ | ⟨e,i,p,b,C,D⟩
         · rw [ZX aa] at a; cases a
         · rw [ZX aa] at a; cases a
         · rw [ZX aa] at a; cases a
         · rw [ZZ ⟨rfl,e⟩] at a ⊢
           dsimp only at a ⊢
           have c:it.n=(e_.length:Int):=by
             split at a
             · assumption
             · cases a
           have:=LY C;rw [<-b,<-D,c] at this;refine ⟨O,?_⟩;unfold aW; simp [f,d,this]
 · have u:¬(aH=1\/aH=2\/aH=3):=λh=>g (by unfold aX; simp; omega)
   unfold dJ;rw [ZX g];dsimp only;refine ⟨O,?_⟩
   have x:oX aH=1:=by unfold oX; rw [ZX aa,ZX aa]
   have c:=ki l (by rw [x]; decide);rw [x] at c;unfold aW;rw [ZX aa,ZX aa,ZX aa]
   by_cases j:aH=4
   · rw [ZZ j]; simp [c]
   · have d:=r.2 j
     by_cases w:aH=5
     · rw [ZX j,ZZ w]; simp [c,d]
     · have f:=r.1 ⟨j,w⟩
       rw [ZX j,ZX w,ZZ aa]; simp [c,d,f]
def xl {d len:Nat} {c:bM} (h:(oW d len c).cA=0):d<=6/\len<=10/\c.cA=0:=by
 unfold oW at h
 split at h
 · cases h
 · obtain ⟨a,b⟩:=h1 h
   have:=zc a;simp at this;exact ⟨aa,aa,b⟩
mutual
def Nc (b:lr m) (c:m.aA=[]):∀(x:b9) (d:Nat),(n6 x d).cA=0->ju (cp m [] aC) x=0->jN (m3 m) aC.length (oh (cp m [] aC) x) d=true
 | .mk op mod nm args body other,d,k,he=>by
   have e:=LF k;rw [rl] at he;obtain ⟨l,f⟩:=ll.1 he;obtain ⟨f,g⟩:=ll.1 f;obtain ⟨g,o⟩:=ll.1 g;rw [Fb,jN]
   have p:(hK (cp m [] aC) args).length=args.length:=by rw [jJ,fu]
   have q:(ft (cp m [] aC) body).length=body.length:=by rw [rm,fu]
   have r:(ft (cp m [] aC) other).length=other.length:=by rw [rm,fu]
   obtain ⟨s,t⟩:=SV b c e l;have u:=rJ b c args 1 e.exprs f
   show (aW _ _ (dJ (cp m [] aC) op mod nm args.length).op (dJ (cp m [] aC) op mod nm args.length).n (dJ (cp m [] aC) op mod nm args.length).m (dJ (cp m [] aC) op mod nm args.length).pl (hK (cp m [] aC) args).length (ft (cp m [] aC) body).length (ft (cp m [] aC) other).length&&(gA _ _ (hK (cp m [] aC) args) 1&&((!(qy (dJ (cp m [] aC) op mod nm args.length).op)||(decide (d+1<=6)&&(decide ((ft (cp m [] aC) body).length<=10)&&a9 _ _ (ft (cp m [] aC) body) (d+1))))&&(!(decide<|0<(ft (cp m [] aC) other).length)||(decide (d+1<=6)&&(decide ((ft (cp m [] aC) other).length<=10)&&a9 _ _ (ft (cp m [] aC) other) (d+1)))))))=true
   rw [p,q,r,t,u,s];simp only [ef];refine eH.2 ⟨?_,?_⟩
   · by_cases a:qy op=true
     · obtain ⟨h,i,j⟩:=xl (e.body (by rw [show inner op=true from a]; rfl))
       rw [aaa h,aaa i,Cy b c body (d+1) j g]; simp
     · simp [a]
   · by_cases a:0<other.length
     · obtain ⟨h,i,j⟩:=xl (e.other a)
       rw [aaa h,aaa i,Cy b c other (d+1) j o]; simp
     · rw [aaf a]; rfl
def Cy (a:lr m) (b:m.aA=[]):∀(l:List b9) (d:Nat),(dI l d).cA=0->a7 (cp m [] aC) l=0->a9 (m3 m) aC.length (ft (cp m [] aC) l) d=true
 | [],d,_,_=>by rw [ft,a9]
 | x::r,d,c,he=>by
   unfold dI at c;unfold a7 at he;obtain ⟨c1,c2⟩:=h1 c;obtain ⟨e,f⟩:=ll.1 he;rw [ft,a9,Nc a b x d c1 e,Cy a b r d c2 f]; rfl
end
def LZ (a:lr m) (b:m.aA=[]) {l:List b9} (c:(e' l 1).cA=0) (d:a7 (cp m [] aC) l=0):gO (m3 m) aC.length (ft (cp m [] aC) l) 1=true:=by
 obtain ⟨e,f,g⟩:=xl c;unfold gO;rw [rm,fu,<-rm,aaa e,aaa f,Cy a b l 1 g d]; rfl
end
def Gl {α:Type} {f:α->Int}:∀{l:List α},iY f l=0->∀x ∈ l,f x=0
 | [],_,x,a=>by simp at a
 | y::r,h,x,a=>by
   unfold iY at h;obtain ⟨b,c⟩:=ll.1 h
   rcases ep.1 a with rfl | a
   · exact b
   · exact Gl c x a
def Ni (a:lr bP) (b:bP.aA=[]) (e:mV bP []=0):jO [eB bP []]=0:=by
 unfold mV at e;obtain ⟨j,k⟩:=ll.1 e;have u:=xk a;have v:=a.e8
 have l:ig (eB bP []) []=true:=by
   unfold ig
   have a1:qz (eB bP []).nm (eB bP []).aA=true:=by
     show qz bP.nm bP.aA=true
     rw [b]; unfold qz; rw [j_.1 ai]; rfl
   have a2:cJ (eB bP [])=false:=by
     unfold cJ
     have m:(eB bP []).parts.length=bP.procs.length:=by unfold eB; simp
     have c:(eB bP []).aA.length=0:=by show bP.aA.length=0; rw [b]; rfl
     have n:(eB bP []).nm=bP.nm:=rfl;have d:(eB bP []).data=mm bP:=rfl;rw [m,c,n,d,ze a.name];simp;omega
   have a3:(eB bP []).parts.all (lm<|m3 bP)=true:=by
     refine gN.2 λx o=>?_;obtain ⟨p,f,rfl⟩:=q6.1 (show x ∈ bP.procs.map (qu bP []) from o);have g:=zf (a.procs p f);have h:=Gl j p f;unfold pO at h;obtain ⟨_,q⟩:=ll.1 h;have i:=LZ a b g.body q;rw [jE] at i;unfold lm qu;have w:=g.e8;rw [show ((p.params.length:Int)+(p.aC.length:Int))=((p.params.length+p.aC.length:Nat):Int) by omega,i];simp;omega
   have a4:gO (m3 bP) 0 (eB bP []).main 1=true:=LZ (aC:=[]) a b a.main k;rw [a1,a2,show aE (eB bP [])::[]=m3 bP from rfl,a3,a4]; rfl
 have r:rn [eB bP []]=true:=by
   unfold rn;have c:(eB bP []).aA=[]:=b;simp [H6,c]
 have s:lT [eB bP []] 512=true:=by
   unfold lT lT;have d:(eB bP []).data=mm bP:=rfl;rw [d];simp;omega
 have t:fd [eB bP []] (eB bP [])=[]:=by
   unfold fd;rw [show (eB bP []).aA=[] from b]; rfl
 unfold jO;rw [ZX ai,ZX (by rw [r]; decide),ZX (by unfold eS; rw [j_.1 ai]; decide),ZX (by rw [s]; decide),ZZ (by simp only [hM,List.all_nil,t,l]; rfl)]
def resolve_right {fs:List (Tx×List cP)} (h:(eF bP fs).2=0):(gy bP).2=0/\(bP.aA=[]->jO [(eF bP fs).1]=0):=by
 unfold eF at h ⊢
 split at h
 · rename_i a; exact absurd h a
 · rename_i a
   have d:(gy bP).2=0:=by simpa using a
   refine ⟨d,λe=>?_⟩;rw [ZX a]
   split at h
   · cases h
   · rename_i c
     rw [ZX c]
     split at h
     · cases h
     · rename_i f
       rw [ZX f]
       split at h
       · rename_i b; exact absurd h b
       · rename_i b
         rw [ZX b];have g:fs=[]:=uK (by rw [e] at c; simpa using c);subst g;exact Ni (zj d).2.2 e (by simpa using b)
end Go.Bw
end
section
namespace Go.Bw
open Go
def L0 {α β:Type} {p:Nat->α->β->Prop}:∀(l:List α) (s:Nat),(∀i x,l[i]? = some x->∃r,p (s+i) x r)->∃ys:List (α×β),ys.map (·.1)=l/\∀(i:Nat) y,ys[i]? = some y->p (s+i) y.1 y.2
 | [],_,_=>⟨[],rfl,λi y h=>by simp at h⟩
 | x::l,s,h=>by
   obtain ⟨r,b⟩:=h 0 x rfl
   obtain ⟨ys,c,d⟩:=L0 l (s+1) λi y a=>by
     obtain ⟨r,b⟩:=h (i+1) y a;exact ⟨r,by rw [show s+1+i=s+(i+1) by omega]; exact b⟩
   refine ⟨(x,r)::ys,by simp [c],λi y a=>?_⟩
   cases i with
   | zero=>simp at a; subst a; exact b
   | succ i=>rw [show s+(i+1)=s+1+i by omega]; exact d i y (by simpa using a)
end Go.Bw
end
section
namespace Go.Bw
open Go
abbrev nJ:=List UInt8×List cP
def aaB:List (List UInt8×nJ)->List UInt8->nJ
 | [],_=>([],[])
 | (k,f)::r,s=>if k=s then f else aaB r s
abbrev sF:=List UInt8
end Go.Bw
end
section
namespace Go.Bw
open Go
structure EJ (kH:List ec) (k:Int) (x:cP):Prop where
 pos:0<=k
 kind:(x.kind=1/\0<=x.n/\x.n<=1099511627775)\/(x.kind=2/\jv kH k x.pl 1=true)\/(x.kind=3/\1<=x.n/\x.n<=32/\jv kH k x.pl x.n=true)\/(x.kind=4/\jf kH k x.pl x.n=true)
def aaC (kH:List ec) (m:df) (fs:List nJ) (aC:List Tx):Prop:=∀mod nm k it,gI (cp m fs aC) mod nm=some (k,it)->(k = -1/\0<=it.pl/\it.pl<(aC.length:Int))\/EJ kH k it
section
variable {m:df} {aC:List Tx} {fs:List nJ} {kH:List ec}
variable {ck fi:Tx} {e_:List bT} {Z:Nat}
def SY (t:aaC kH m fs aC) {op n:Int}    (j:F_ op n ck fi e_ Z) (a:(dy (cp m fs aC) op n ck fi e_.length).e=0) :
   node1 (kH) aC.length (dy (cp m fs aC) op n ck fi e_.length).op (dy (cp m fs aC) op n ck fi e_.length).n (dy (cp m fs aC) op n ck fi e_.length).m (dy (cp m fs aC) op n ck fi e_.length).pl e_.length=true:=by
 have x:=j.kind;have g:=j.num;have d:=j.xi
 by_cases i:aX op 3 5=true
 · have o:op=3\/op=4\/op=5:=by unfold aX at i; simp at i; omega
   have f:n=0:=by
     unfold jI at g
     have:¬op=1:=aa
     simpa [this] using g
   unfold dy at a ⊢;rw [ZZ i] at a ⊢
   cases l:gI (cp m fs aC) ck fi with
   | none=>rw [l] at a; cases a
   | some q=>
     obtain ⟨k,it⟩:=q;rw [l] at a;dsimp only at a ⊢
     rcases t ck fi k it l with ⟨rfl,u,v⟩ | hi
     · rw [ZZ rfl] at a ⊢
       have w:op=3:=by
         dsimp only at a
         split at a
         · assumption
         · cases a
       subst w;have b:=ki d a8;rw [show lf 3=0 from rfl] at b;unfold node1 qw;simp [f,b,u,v]
     · have y:=hi.pos
       rw [ZX aa] at a ⊢
       rcases o with rfl | rfl | rfl
       · have b:=ki d a8
         rw [show lf 3=0 from rfl] at b
         rcases hi.kind with ⟨e,c⟩ | ⟨e,c⟩ | ⟨e,c⟩ | ⟨e,c⟩
         · rw [ZZ ⟨rfl,e⟩]
           unfold node1; simp [b]; omega
         · rw [ZX aa,ZZ ⟨rfl,e⟩]
           have:=c;unfold node1; simp [b,f,this]
         · rw [ZX aa,ZX aa,ZX aa,ZX aa] at a; cases a
         · rw [ZX aa,ZX aa,ZX aa,ZX aa] at a; cases a
       · have b:=ki d a8
         rw [show lf 4=1 from rfl] at b;rw [ZX aa,ZX aa] at a ⊢
         rcases hi.kind with ⟨e,c⟩ | ⟨e,c⟩ | ⟨e,c⟩ | ⟨e,c⟩
         · rw [ZX aa,ZX aa] at a; cases a
         · rw [ZX aa,ZX aa] at a; cases a
         · rw [ZZ ⟨rfl,e⟩]
           have:=c.2.2;unfold node1 qx; simp [b,this]; omega
         · rw [ZX aa,ZX aa] at a; cases a
       · rw [ZX aa,ZX aa,ZX aa] at a ⊢
         rcases hi.kind with ⟨e,c⟩ | ⟨e,c⟩ | ⟨e,c⟩ | ⟨e,c⟩
         · rw [ZX aa] at a; cases a
         · rw [ZX aa] at a; cases a
         · rw [ZX aa] at a; cases a
         · rw [ZZ ⟨rfl,e⟩] at a ⊢
           dsimp only at a ⊢
           have b:it.n=(e_.length:Int):=by
             split at a
             · assumption
             · cases a
           have:=c;rw [b] at this;unfold node1; simp [f,this]
 · have o:¬(op=3\/op=4\/op=5):=λh=>i (by unfold aX; simp; omega)
   unfold dy;rw [ZX i];dsimp only
   by_cases c:op=1
   · subst c
     have b:=ki d a8;rw [show lf 1=0 from rfl] at b;unfold jI at g;unfold node1; simp [b] at g ⊢; omega
   · have f:n=0:=by
       unfold jI at g
       simpa [c] using g
     by_cases p:op=2
     · subst p
       have b:=ki d a8;rw [show lf 2=0 from rfl] at b;unfold node1; simp [f,b]
     · by_cases r:op=6
       · subst r
         have b:=ki d a8;rw [show lf 6=1 from rfl] at b;unfold node1; simp [f,b]
       · have s:lf op=2:=by unfold lf; rw [ZX aa,ZX aa,ZX aa]
         have b:=ki d (by rw [s]; decide);rw [s] at b;unfold node1;rw [ZX c,ZX aa,ZX aa,ZX aa,ZX aa,ZX p,ZX r,ZZ aa];simp [f,b]
mutual
def SZ (b:aaC kH m fs aC):∀(x:bT) (d:Nat),(iX x d).cA=0->ka (cp m fs aC) x=0->jg (kH) aC.length (og (cp m fs aC) x) d=true
 | .mk op n mod nm args,d,c,he=>by
   have a:=LD c;rw [tJ] at he;obtain ⟨e,f⟩:=ll.1 he;rw [Fa,jg]
   have g:(hK (cp m fs aC) (bT.mk op n mod nm args).args).length=args.length:=by rw [jJ,fu]; rfl
   rw [g];have h:=SY b a e;have i:=Gm b args (d+1) a.sub f;rw [aaa a.deep]
   show (node1 _ _ (dy (cp m fs aC) op n mod nm args.length).op (dy (cp m fs aC) op n mod nm args.length).n (dy (cp m fs aC) op n mod nm args.length).m (dy (cp m fs aC) op n mod nm args.length).pl args.length&&gA _ _ (hK (cp m fs aC) args) (d+1))=true
   rw [h,i]; rfl
def Gm (a:aaC kH m fs aC):∀(l:List bT) (d:Nat),(dZ l d).cA=0->ir (cp m fs aC) l=0->gA (kH) aC.length (hK (cp m fs aC) l) d=true
 | [],d,_,_=>by rw [hK,gA]
 | x::r,d,b,he=>by
   unfold dZ at b;unfold ir at he;obtain ⟨c1,c2⟩:=h1 b;obtain ⟨c,e⟩:=ll.1 he;rw [hK,gA,SZ a x d c1 c,Gm a r d c2 e]; rfl
end
def Nj (v:aaC kH m fs aC) {op:Int}   {body other:List b9}  (p:zd op ck fi e_ body other Z) (a:(dJ (cp m fs aC) op ck fi e_.length).e=0) :
   (dJ (cp m fs aC) op ck fi e_.length).op=op/\aW (kH) aC.length (dJ (cp m fs aC) op ck fi e_.length).op (dJ (cp m fs aC) op ck fi e_.length).n (dJ (cp m fs aC) op ck fi e_.length).m (dJ (cp m fs aC) op ck fi e_.length).pl e_.length body.length other.length=true:=by
 have y:=p.kind;have j:=p.xi;have l:=p.form
 have o:(op≠4/\op≠5->body.length=0)/\(op≠4->other.length=0):=by
   unfold iH inner at l;simp at l;refine ⟨λh=>?_,λh=>?_⟩
   · have:=l.1 h.1 h.2; simp [this]
   · have:=l.2 h; simp [this]
 by_cases g:aX op 1 3=true
 · have r:op=1\/op=2\/op=3:=by unfold aX at g; simp at g; omega
   have f:body.length=0:=o.1 aa;have d:other.length=0:=o.2 aa;unfold dJ at a ⊢;rw [ZZ g] at a ⊢
   cases s:gI (cp m fs aC) ck fi with
   | none=>rw [s] at a; cases a
   | some q=>
     obtain ⟨k,it⟩:=q;rw [s] at a;dsimp only at a ⊢
     rcases v ck fi k it s with ⟨rfl,w,x⟩ | hi
     · rcases r with rfl | rfl | rfl
       · have b:=ki j a8
         rw [show oX 1=1 from rfl] at b;rw [ZZ ⟨rfl,.inl rfl⟩];refine ⟨O,?_⟩;unfold aW qw;simp [b,f,d,w,x]
       · rw [ZX aa,ZZ rfl] at a; cases a
       · rw [ZX aa,ZZ rfl] at a; cases a
     · have z:=hi.pos
       rcases r with rfl | rfl | rfl
       · have b:=ki j a8
         rw [show oX 1=1 from rfl] at b
         rcases hi.kind with ⟨e,c⟩ | ⟨e,c⟩ | ⟨e,c⟩ | ⟨e,c⟩
         · rw [ZX aa,ZX aa,ZX aa,ZX aa] at a; cases a
         · rw [ZZ ⟨rfl,.inr e⟩]
           have:=c;refine ⟨O,?_⟩;unfold aW; simp [b,f,d,this]
         · rw [ZX aa,ZX aa,ZX aa,ZX aa] at a; cases a
         · rw [ZX aa,ZX aa,ZX aa,ZX aa] at a; cases a
       · have b:=ki j a8
         rw [show oX 2=2 from rfl] at b;rw [ZX aa,ZX aa] at a ⊢
         rcases hi.kind with ⟨e,c⟩ | ⟨e,c⟩ | ⟨e,c⟩ | ⟨e,c⟩
         · rw [ZX aa,ZX aa] at a; cases a
         · rw [ZX aa,ZX aa] at a; cases a
         · rw [ZZ ⟨rfl,e⟩]
           have:=c.2.2;refine ⟨O,?_⟩;unfold aW qx; simp [b,f,d,this]; omega
         · rw [ZX aa,ZX aa] at a; cases a
       · rw [ZX aa,ZX aa,ZX aa] at a ⊢
         rcases hi.kind with ⟨e,c⟩ | ⟨e,c⟩ | ⟨e,c⟩ | ⟨e,c⟩
         · rw [ZX aa] at a; cases a
         · rw [ZX aa] at a; cases a
         · rw [ZX aa] at a; cases a
         · rw [ZZ ⟨rfl,e⟩] at a ⊢
           dsimp only at a ⊢
           have b:it.n=(e_.length:Int):=by
             split at a
             · assumption
             · cases a
           have:=c;rw [b] at this;refine ⟨O,?_⟩;unfold aW; simp [f,d,this]
 · have r:¬(op=1\/op=2\/op=3):=λh=>g (by unfold aX; simp; omega)
   unfold dJ;rw [ZX g];dsimp only;refine ⟨O,?_⟩
   have u:oX op=1:=by unfold oX; rw [ZX aa,ZX aa]
   have b:=ki j (by rw [u]; decide);rw [u] at b;unfold aW;rw [ZX aa,ZX aa,ZX aa]
   by_cases i:op=4
   · rw [ZZ i]; simp [b]
   · have d:=o.2 i
     by_cases t:op=5
     · rw [ZX i,ZZ t]; simp [b,d]
     · have f:=o.1 ⟨i,t⟩
       rw [ZX i,ZX t,ZZ aa]; simp [b,d,f]
mutual
def S1 (b:aaC kH m fs aC):∀(x:b9) (d:Nat),(n6 x d).cA=0->ju (cp m fs aC) x=0->jN (kH) aC.length (oh (cp m fs aC) x) d=true
 | .mk op mod nm args body other,d,j,he=>by
   have c:=LF j;rw [rl] at he;obtain ⟨k,e⟩:=ll.1 he;obtain ⟨e,f⟩:=ll.1 e;obtain ⟨f,l⟩:=ll.1 f;rw [Fb,jN]
   have o:(hK (cp m fs aC) args).length=args.length:=by rw [jJ,fu]
   have p:(ft (cp m fs aC) body).length=body.length:=by rw [rm,fu]
   have q:(ft (cp m fs aC) other).length=other.length:=by rw [rm,fu]
   obtain ⟨r,s⟩:=Nj b c k;have t:=Gm b args 1 c.exprs e
   show (aW _ _ (dJ (cp m fs aC) op mod nm args.length).op (dJ (cp m fs aC) op mod nm args.length).n (dJ (cp m fs aC) op mod nm args.length).m (dJ (cp m fs aC) op mod nm args.length).pl (hK (cp m fs aC) args).length (ft (cp m fs aC) body).length (ft (cp m fs aC) other).length&&(gA _ _ (hK (cp m fs aC) args) 1&&((!(qy (dJ (cp m fs aC) op mod nm args.length).op)||(decide (d+1<=6)&&(decide ((ft (cp m fs aC) body).length<=10)&&a9 _ _ (ft (cp m fs aC) body) (d+1))))&&(!(decide<|0<(ft (cp m fs aC) other).length)||(decide (d+1<=6)&&(decide ((ft (cp m fs aC) other).length<=10)&&a9 _ _ (ft (cp m fs aC) other) (d+1)))))))=true
   rw [o,p,q,s,t,r];simp only [ef];refine eH.2 ⟨?_,?_⟩
   · by_cases a:qy op=true
     · obtain ⟨g,h,i⟩:=xl (c.body (by rw [show inner op=true from a]; rfl))
       rw [aaa g,aaa h,Cz b body (d+1) i f]; simp
     · simp [a]
   · by_cases a:0<other.length
     · obtain ⟨g,h,i⟩:=xl (c.other a)
       rw [aaa g,aaa h,Cz b other (d+1) i l]; simp
     · rw [aaf a]; rfl
def Cz (a:aaC kH m fs aC):∀(l:List b9) (d:Nat),(dI l d).cA=0->a7 (cp m fs aC) l=0->a9 (kH) aC.length (ft (cp m fs aC) l) d=true
 | [],d,_,_=>by rw [ft,a9]
 | x::r,d,b,he=>by
   unfold dI at b;unfold a7 at he;obtain ⟨c1,c2⟩:=h1 b;obtain ⟨c,e⟩:=ll.1 he;rw [ft,a9,S1 a x d c1 c,Cz a r d c2 e]; rfl
end
def EZ (a:aaC kH m fs aC) {l:List b9} (b:(e' l 1).cA=0) (c:a7 (cp m fs aC) l=0):gO (kH) aC.length (ft (cp m fs aC) l) 1=true:=by
 obtain ⟨d,e,f⟩:=xl b;unfold gO;rw [rm,fu,<-rm,aaa d,aaa e,Cz a l 1 f c]; rfl
end
end Go.Bw
end
section
namespace Go.Bw
open Go
structure jz (ms:List df) (us:List b8):Prop where
 len:us.length=ms.length
 nd:(ms.map (·.nm)).Nodup
 at_:∀(n:Nat) (m:df),ms[n]? = some m->(gy m).2=0/\∃fs:List nJ,us[n]? = some (eB m fs)/\fs.length=m.aA.length/\mV m fs=0/\∀(i:Nat) (s:sF),m.aA[i]? = some s->∃(j:Nat) (m':df),j<n/\ms[j]? = some m'/\m'.nm=s/\fs[i]? = some (gy m').1
def Gn {s:sF}:∀{l:List sF} {j k:Nat},l.Nodup->l[j]? = some s->idxOf s l k=some (k+j)
 | [],j,k,_,h=>by simp at h
 | x::r,j,k,a,h=>by
   rw [aaG] at a;unfold idxOf
   cases j with
   | zero=>simp at h; subst h; simp
   | succ j=>
     rw [lL] at h
     have b:¬x=s:=λe=>by subst e; exact a.1<|az h
     rw [ZX b,Gn a.2 h]
     congr 1; omega
def L3 {mod nm:sF}:∀{us:List sF} {fs:List (List cP)} {k:Nat} {q:Int} {it:cP},kS mod nm us fs k=some (q,it)->∃(j:Nat) (f:List cP),us[j]? = some mod/\fs[j]? = some f/\q=((k+j+1:Nat):Int)/\it ∈ f
 | [],fs,k,q,it,h=>by unfold kS at h; cases h
 | u::us,[],k,q,it,h=>by unfold kS at h; cases h
 | u::us,f::fs,k,q,it,h=>by
   unfold kS at h
   have go:kS mod nm us fs (k+1)=some (q,it)->∃(j:Nat) (g:List cP),(u::us)[j]? = some mod/\(f::fs)[j]? = some g/\q=((k+j+1:Nat):Int)/\it ∈ g:=λh=>by
     obtain ⟨j,g,a,b,c,d⟩:=L3 h;exact ⟨j+1,g,by simpa using a,by simpa using b,by rw [c]; congr 1; omega,d⟩
   split at h
   · rename_i e
     split at h
     · rename_i x i
       injection h with h; injection h with l m
       subst l m;exact ⟨0,f,by simp [e],ai,O,Cw i⟩
     · exact go h
   · exact go h
def L4 {ks:List ec} {i:Nat} {k:ec} {m:df} (b:ks[i]? = some k) (hi:k.oi=true) (f:k.data=mm m) (g:k.parts=m.procs.map λp=>(p.params.length:Int)) (h:lr m) {x:cP} (l:Gj m x):EJ ks (i:Int) x:=by
 have r:=(cq.1 b).1;have s:=xk h
 have data (pl n:Int) (t:0<=pl) (a:pl+n<=mm m) (c:0<=n):jv ks (i:Int) pl n=true:=by
   have d:mu ks (i:Int) pl=false:=by
     unfold mu;simp only [i9,aad];omega
   rw [tK d b,ZZ hi,f];exact aaa a
 refine ⟨aa,?_⟩
 rcases l.kind with ⟨e,a⟩ | ⟨e,a⟩ | ⟨e,a⟩ | ⟨e,j,p,a,c,o⟩
 · exact .inl ⟨e,a.1,a.2.1⟩
 · exact .inr<|.inl ⟨e,data _ _ a.2.1 a.2.2 a8⟩
 · exact .inr<|.inr<|.inl ⟨e,a.1,a.2.1,data _ _ a.2.2.1 a.2.2.2 aa⟩
 · refine .inr<|.inr<|.inr ⟨e,?_⟩
   have d:mW ks (i:Int) x.pl=false:=by
     unfold mW;simp only [i9,aad];omega
   have q:=(cq.1 c).1;rw [sk d b,ZZ hi,g,a,o,i',e4,c,fu];simp;exact q
variable {dg:List df} {bJ:List b8}
def jz.names (a:jz dg bJ):eS bJ=dg.map (·.nm):=by
 refine r0 λn=>?_;unfold eS;rw [e4,e4]
 cases b:dg[n]? with
 | none=>
   have:bJ[n]? = none:=by rw [Ia,a.len]; exact Ia.1 b
   rw [this]; rfl
 | some m=>
   obtain ⟨_,fs,c,_⟩:=a.at_ n m b;rw [c]; rfl
variable {bP:df}
def jz.kn (a:jz dg bJ) {n i:Nat}  {s:sF} (g:dg[n]? = some bP) (d:bP.aA[i]? = some s) (fs:List nJ):∃(j:Nat) (m':df) (b:List nJ),j<n/\dg[j]? = some m'/\m'.nm=s/\bJ[j]? = some (eB m' b)/\(fd bJ<|eB bP fs)[i]? = some (aE<|eB m' b):=by
 obtain ⟨_,o,_,_,_,h⟩:=a.at_ n bP g;obtain ⟨j,m',m,c,e,_⟩:=h i s d;obtain ⟨_,b,f,_⟩:=a.at_ j m' c;refine ⟨j,m',b,m,c,e,f,?_⟩
 have hi:idxOf s (eS bJ) 0=some j:=by
   have:=Gn (k:=0) (s:=s) (l:=eS bJ) (j:=j) (by rw [a.names]; exact a.nd) (by rw [a.names,e4,c,dR,e]);rw [this,lK]
 unfold fd;rw [e4,show (eB bP fs).aA=bP.aA from rfl,d,dR];simp only [hi,f,dR,yc]
variable {Z:Nat}
def jz.it (n:jz dg bJ)  {m:df} {fs:List nJ} (t:dg[Z]? = some m) (H:bJ[Z]? = some (eB m fs)) (z:∀(i:Nat) (s:sF),m.aA[i]? = some s->∃(j:Nat) (m':df),j<Z/\dg[j]? = some m'/\m'.nm=s/\fs[i]? = some (gy m').1) (aC:List sF):aaC (aE (eB m fs)::fd bJ (eB m fs)) m fs aC:=by
 intro mod nm k it h;have u:=(zj (n.at_ Z m t).1).2.2
 have kp (m:df) (fs:List nJ):(aE<|eB m fs).parts=m.procs.map λp=>(p.params.length:Int):=by
   unfold aE eB;simp [qu]
 unfold gI at h
 split at h
 · split at h
   · rename_i i hi
     injection h with h; injection h with o g
     subst o g;have I:i<aC.length:=LX hi;exact .inl ⟨O,by show (0:Int)<=(i:Int); omega,by show (i:Int)<_; omega⟩
   · obtain ⟨x,q,e⟩:=dS.1 h
     injection e with o g
     subst o g;exact .inr<|L4 (i:=0) (m:=m) O O O (kp m fs) u<|zi u x<|Cw q
 · obtain ⟨j,f,a,b,c,d⟩:=L3 h
   have a:m.aA[j]? = some mod:=a;obtain ⟨r,m',o,g,A,B⟩:=z j mod a;obtain ⟨v,J,C,k1,k2,D,K,E⟩:=n.kn t a fs
   have F:r=v:=by
     have w:(dg.map (·.nm))[r]? = some mod:=by rw [e4,g,dR,A]
     have G:(dg.map (·.nm))[v]? = some mod:=by rw [e4,k2,dR,D]
     exact (e5 (cq.1 w).1 n.nd).1<|w.trans G.symm
   subst F;rw [g] at k2
   injection k2 with k2
   subst k2;have b:(fs.map (·.2))[j]? = some f:=b;rw [e4,B,dR] at b
   injection b with b
   subst b;have y:=(zj (n.at_ r m' g).1).2.2
   have q:it ∈ fy m':=by
     have l:=d;unfold gy at l
     split at l
     · simp at l
     · split at l
       · simp at l
       · exact (Cv _ _).subset l
   have:=L4 (ks:=aE (eB m fs)::fd bJ (eB m fs)) (i:=j+1) (m:=m') (by rw [lL]; exact E) rfl rfl (kp m' C) y (zi y it q);rw [c,lK];exact .inr this
def jz.S2 (a:jz dg bJ)   (b:dg[Z]? = some bP):bP.nm ∉ bP.aA:=by
 intro d;obtain ⟨i,hi⟩:=iE d;obtain ⟨_,fs,_,_,_,e⟩:=a.at_ Z bP b;obtain ⟨j,m',k,f,g,_⟩:=e i bP.nm hi
 have c:(dg.map (·.nm))[j]? = some bP.nm:=by rw [e4,f,dR,g]
 have h:(dg.map (·.nm))[Z]? = some bP.nm:=by rw [e4,b,dR]
 have:=(e5 (cq.1 c).1 a.nd).1 (c.trans h.symm);omega
def S3 (h:(gy bP).2=0):bP.aA.Nodup:=by
 unfold gy at h
 split at h
 · rename_i b; exact absurd h b
 · split at h
   · cases h
   · rename_i a
     exact j_.2 (by
       cases c:f_ bP.aA with
       | false=>rfl
       | true=>rw [c] at a; simp at a)
variable {cx:b8}
def jz.mX (b:jz dg bJ)  (r:cx ∈ bJ):ig cx (fd bJ cx)=true:=by
 obtain ⟨n,c⟩:=iE r;have t:=(cq.1 c).1;obtain ⟨m,d⟩:=cR (by rw [<-b.len]; exact t);obtain ⟨h,fs,e,A,i,j⟩:=b.at_ n m d;rw [c] at e
 injection e with e
 subst e;have a:=(zj h).2.2;have B:=xk a;have C:=a.e8;unfold mV at i;obtain ⟨f,g⟩:=ll.1 i;unfold ig
 have a1:qz (eB m fs).nm (eB m fs).aA=true:=Kg (by
   show (m.nm::m.aA).Nodup
   rw [aaG]; exact ⟨b.S2 d,S3 h⟩) (gN.2 λs u=>ze<|a.aA s u)
 have a2:cJ (eB m fs)=false:=by
   unfold cJ
   have f:(eB m fs).parts.length=m.procs.length:=by unfold eB; simp
   have g:(eB m fs).aA.length=m.aA.length:=rfl;have v:(eB m fs).nm=m.nm:=rfl;have w:(eB m fs).data=mm m:=rfl;rw [f,g,v,w,ze a.name];simp;omega
 have a3:(eB m fs).parts.all (lm<|aE (eB m fs)::fd bJ (eB m fs))=true:=by
   refine gN.2 λx y=>?_;obtain ⟨p,k,rfl⟩:=q6.1 (show x ∈ m.procs.map (qu m fs) from y);have l:=zf (a.procs p k);have o:=Gl f p k;unfold pO at o;obtain ⟨_,z⟩:=ll.1 o;have q:=EZ (b.it d c j<|p.params++p.aC) l.body z;rw [jE] at q;unfold lm qu;have D:=l.e8;rw [show ((p.params.length:Int)+(p.aC.length:Int))=((p.params.length+p.aC.length:Nat):Int) by omega,q];simp;omega
 have a4:gO (aE (eB m fs)::fd bJ (eB m fs)) 0 (eB m fs).main 1=true:=EZ (aC:=[]) (b.it d c j []) a.main g;rw [a1,a2,a3,a4]; rfl
def jz.ahead (a:jz dg bJ):rn bJ=true:=by
 unfold rn;refine gN.2 λn b=>?_;have c:=uJ.1 b;obtain ⟨m,d⟩:=cR (by rw [<-a.len]; exact c);obtain ⟨_,fs,e,_,_,f⟩:=a.at_ n m d;rw [e,a.names];refine gN.2 λs g=>?_;obtain ⟨i,hi⟩:=iE (show s ∈ m.aA from g);obtain ⟨j,m',k1,k2,h,_⟩:=f i s hi;rw [AJ];refine az (i:=j) ?_;rw [jq,ZZ k1,e4,k2,dR,h]
def jz.data (b:jz dg bJ):∀u ∈ bJ,0<=u.data/\u.data<=320:=λu d=>by
 obtain ⟨n,c⟩:=iE d;have e:=(cq.1 c).1;obtain ⟨m,f⟩:=cR (by rw [<-b.len]; exact e);obtain ⟨g,fs,a,_⟩:=b.at_ n m f;rw [c] at a
 injection a with a
 subst a;exact xk (zj g).2.2
def sG (l:List b8):Int:=(l.map (·.data)).sum
def L5:∀{l:List b8} {r:Int},(∀u ∈ l,0<=u.data)->sG l<=r->lT l r=true
 | [],r,_,_=>rfl
 | u::l,r,h,d=>by
   have e:=h u ai
   have f:sG (u::l)=u.data+sG l:=by simp [sG]
   have g:0<=sG l:=by
     have:∀{l:List b8},(∀u ∈ l,0<=u.data)->0<=sG l:=fun {l}=>by
       induction l with
       | nil=>intro _; simp [sG]
       | cons x t b=>intro h; have:=b λu a=>h u (by simp [a]); have:=h x ai; simp [sG] at *; omega
     exact this λu a=>h u (by simp [a])
   rw [lT,L5 (λx c=>h x (by simp [c])) aa];simp;omega
def jz.right (a:jz dg bJ) (e:1<=bJ.length/\bJ.length<=4) (c:sG bJ<=512):jO bJ=0:=by
 unfold jO
 have d:f_ (eS bJ)=false:=by rw [a.names]; exact j_.1 a.nd
 rw [ZX (by simp; omega),ZX (by rw [a.ahead]; decide),ZX (by rw [d]; decide),ZX (by rw [L5 (λu b=>(a.data u b).1) c]; decide),ZZ (gN.2 λu b=>a.mX b)]
def jz.alone (a:jz dg bJ)  (c:cx ∈ bJ):oq cx=true:=by
 have d:=a.mX c
 have e:(fd bJ cx).length=cx.aA.length:=by simp [fd]
 unfold oq;rw [<-e];refine KV (yx λk b=>?_) d;unfold fd at b;obtain ⟨s,_,rfl⟩:=q6.1 b
 split
 · rename_i i hi
   cases f:bJ[i]? with
   | none=>intro h; cases h
   | some z=>exact Cf<|a.mX<|az f
 · intro h; cases h
end Go.Bw
end
section
namespace Go.Bw
open Go
variable {cx:b8}
def S4 (h:oq cx=true):(fm cx).2=0\/(fm cx).2=2:=by
 unfold fm;rw [ZX (by rw [h]; decide)]
 split
 · exact .inr O
 · exact .inl O
def zl (h:oq cx=true) (a:(fm cx).2=0):(fm cx).1=eT cx/\(eT cx).g.code.length<=2048:=by
 unfold fm at a ⊢;rw [ZX (by rw [h]; decide)] at a ⊢
 split at a
 · cases a
 · rename_i b
   rw [ZX b];exact ⟨O,aa⟩
def ed (us:List b8):List av:=us.map λu=>(fm u).1.to
section
variable {dg:List df} {bJ:List b8}
def jz.kH (b:jz dg bJ) (u:b8):∀k ∈ fd bJ u,lj k:=by
 intro k a;unfold fd at a;obtain ⟨s,_,rfl⟩:=q6.1 a
 split
 · rename_i i hi
   cases c:bJ[i]? with
   | none=>intro h; cases h
   | some z=>exact Cf<|b.mX<|az c
 · intro h; cases h
variable {Z:Nat}
def S5 (h:bJ[Z]? = some cx):(ed bJ)[Z]? = some (fm cx).1.to:=by unfold ed; rw [e4,h]; rfl
def jz.obj (d:jz dg bJ) (e:∀u ∈ bJ,(fm u).2=0)  {o:av} (a:(ed bJ)[Z]? = some o):∃u,bJ[Z]? = some u/\o=(eT u).to/\(eT u).g.code.length<=2048:=by
 unfold ed at a;rw [e4] at a;obtain ⟨u,b,rfl⟩:=dS.1 a;have c:=az b;obtain ⟨f,h⟩:=zl (d.alone c) (e u c);exact ⟨u,b,by rw [f],h⟩
def jz.mod (b:jz dg bJ)   (c:bJ[Z]? = some cx):∃(m:df) (fs:List nJ),dg[Z]? = some m/\cx=eB m fs/\∀(i:Nat) (s:sF),m.aA[i]? = some s->∃(j:Nat) (m':df),j<Z/\dg[j]? = some m'/\m'.nm=s/\fs[i]? = some (gy m').1:=by
 have e:=(cq.1 c).1;obtain ⟨m,d⟩:=cR (by rw [<-b.len]; exact e);obtain ⟨_,fs,a,_,_,f⟩:=b.at_ Z m d;rw [c] at a
 injection a with a
 exact ⟨m,fs,d,a,f⟩
end
end Go.Bw
end
section
namespace Go.Proofs.YtgeahfjicmlocaaGreatDoor.Mch
open Go.Bw Go.Proofs.Tryz
structure eP where
 op:Int
 a:Int
 b:Int
deriving DecidableEq
def eP.cells (x:eP):List Value:=[.int .i64 x.op,.int .i64 x.a,.int .i64 x.b]
def Gp (a:View) (b o:Nat) (x:eP):Prop:=ar a b o x.cells
def zm (i:eP):Bool:=decide (i.op<1)||decide (22<i.op)
def nK (code:List eP) (data:Int):Int:=
 if (decide ((code.length:Int)<1)||decide (2048<(code.length:Int)))=true then 2
 else if code.any zm=true then 4
 else if (decide (data<0)||decide (512<data))=true then 3 else 0
variable {bB:Type} {sL:bB->Bool} {b_:List bB}
def any_false (h:∀(j:Nat) (x:bB),b_[j]? = some x->sL x=false):b_.any sL=false:=by
 rw [tg];intro x a;obtain ⟨j,b⟩:=iE a;simp [h j x b]
def any_true {j:Nat} {x:bB} (a:b_[j]? = some x) (h:sL x=true):b_.any sL=true:=q5.2 ⟨x,az a,h⟩
def nL:au prog 57 0=some 0:=ab
def kj:aat prog 55=some 3:=ab
def xm:hr prog 62=some 3:=ab
def h3:zeroOf prog 62=some (.agg #[.int .i64 0,.int .i64 0,.int .i64 0]):=ab
def Gq:aJ prog 62=some 3:=ab
def vz:au prog 62 0=some 0:=ab
def zn:au prog 57 1=some 1:=ab
def S6 (k:View) (a:Option Addr) (c:Nat) (code:List eP) (data:Int) (w:World) (u:Le k w) (m:Sl Gp 3 k a c code) :
   Calls prog 81 #[.agg #[.slice a code.length c,.int .i64 data]] w λe d=>e = .returned (.int .i64<|nK code data)/\Ext w d:=by
 have z:=m.cap;have A:=m.max;refine enter func81 O 39 O O ?_;refine CE (Vs:=[k]) (Ws.init (by simp [u]))<|ae ?_;refine WL.box Y O O λB=>?_;refine ag O<|ad<|Cs<|ae<|I (Yf nL O)<|I (Yd 0 O O O ab)<|I (Yn kj O)<|I (cI O O)<|ac O ?_;apply Lo 4 O O O O Y O O O O O
 ·intro C;refine Vg (Yf nL O)<|Vg (Yd 0 O O O ab)<|Vg (Yn kj O)<|Vg (eh O O) ?_;exact Gt 4 O O O
 refine ad ?_;refine Cc O (λf=>?_)<|λf=>?_
 ·refine ae<|ag O<|ad<|am<|Er ?_;refine R1 O O λd b=>?_;exact ⟨by rw [nK,ZZ f],b.fr⟩
 refine bW<|Cs<|ae<|I (Yf nL O)<|I (Yd 0 O O O ab)<|I (Yn kj O)<|ac O<|ad<|Cb ?_;refine ql (ι:=Nat) (λi=>[(18,.int .i64 (i:Int))]) [(1,_),(16,_),(17,_)] (λi=>i<=code.length/\∀j x,j<i->code[j]? = some x->zm x=false) (λi=>code.length-i) 0 ⟨di _,ai⟩ ?_;intro i ⟨hi,s⟩;refine ae<|I (cI O O)<|ad<|Cs ?_;refine Cc O (λn=>?_)<|λn=>?_
 ·have v:i<code.length:=by simpa using n
  obtain ⟨x,o⟩:=cR v;obtain ⟨pb,y,D,p⟩:=m.b5 i x o;have p:ar k pb (y+i*3) x.cells:=p;refine bW<|Cs<|Cb<|ae<|I (Yo kj O O x_ aa)<|I (dz 0 xm O O O<|p) ?_;refine Al Y O h3 λE=>?_;refine aT 0 Y O O O Gq O O O<|ad<|ae<|I (Yf vz O)<|I (Yd 0 O O O ab)<|I (cI O O)<|ac O ?_;apply Lo 3 O O O O Y O O O O O
  ·intro F;refine Vg (Yf vz O)<|Vg (Yd 0 O O O ab)<|Vg (eh O O) ?_;exact Gt 3 O O O
  refine ad ?_;refine Cc O (λq=>?_)<|λq=>?_
  ·refine ae<|ag O<|ad<|am<|cN<|Er<|Er<|cN<|Er ?_;refine R1 O O λd b=>?_;exact ⟨by rw [nK,ZX (by simp [f]),ZZ (any_true o q)],b.fr⟩
  refine Ck<|Eb<|Et<|Cr<|I (Yi O O O aa)<|ac O<|Ln ?_;exact c8 (i+1) aa ⟨aa,λj x l g=>by rcases ne.1 l with h | rfl; exact s j x h g; rw [o] at g; injection g with g; subst g; exact q⟩<|λ_ h=>Wd 1 h
 have G:¬i<code.length:=by simpa using n
 have t:code.any zm=false:=any_false λj x l=>s j x (by have:=(cq.1 l).1; omega) l;refine Ce<|Ex<|Ex<|dQ<|Et<|Cs<|ae<|I (Yf zn O)<|I (Yd 0 O O O ab)<|I (cI O O)<|ac O ?_;apply Lo 3 O O O O Y O O O O O
 ·intro H;refine Vg (Yf zn O)<|Vg (Yd 0 O O O ab)<|Vg (eh O O) ?_;exact Gt 3 O O O
 refine ad ?_;refine Cc O (λr=>?_)<|λr=>?_
 ·refine ae<|ag O<|ad<|am<|Er ?_;refine R1 O O λd b=>?_;exact ⟨by rw [nK,ZX (by simp [f]),ZX (by simp [t]),ZZ r],b.fr⟩
 refine bW<|ae<|ag O<|ad<|am ?_;refine R1 O O λd b=>?_;exact ⟨by rw [nK,ZX (by simp [f]),ZX (by simp [t]),ZX (by simp [r])],b.fr⟩
end Go.Proofs.YtgeahfjicmlocaaGreatDoor.Mch
end
section
namespace Go.Proofs.YtgeahfjicmlocaaGreatDoor.Mch
open Go.Bw Go.Proofs.Tryz
def mE (b:Bool):Int:=if b=true then 1 else 0
def jl (op a b:Int):Int×Bool:=
 if (op==9)=true then (IntKind.i64.wrap (a+b),true) else if (op==10)=true then (IntKind.i64.wrap (a-b),true) else if (op==11)=true then (IntKind.i64.wrap (a*b),true)
 else if (op==14)=true then (mE (a==b),true) else if (op==15)=true then (mE (decide<|a<b),true) else (0,false)
def eP.cD (x:eP):x.cells.length=3:=rfl
def CA (b:Bool) (w:World) :
   Calls prog 153 #[.bool b] w λe a=>e = .returned (.int .i64<|mE b)/\Ext w a:=by
 refine enter func153 O 4 O O ?_;refine CE (Vs:=[]) (Ws.init ai)<|ae<|ag O<|ad<|Cs<|ae<|ac O<|ad ?_;refine Cc O (λd=>?_)<|λd=>?_
 ·refine ae<|ag O<|ad<|am<|Er ?_;refine R1 O O λa c=>?_;exact ⟨by simp [mE, *],c.fr⟩
 refine bW<|ae<|ag O<|ad<|am ?_;refine R1 O O λa c=>?_;exact ⟨by simp [mE, *],c.fr⟩
def S7 (op a b:Int) (w:World) :
   Calls prog 146 #[.int .i64 op,.int .i64 a,.int .i64 b] w λe d=>e = .returned (.tuple #[.int .i64 (jl op a b).1,.bool (jl op a b).2])/\Ext w d:=by
 refine enter func146 O 36 O O ?_;refine CE (Vs:=[]) (Ws.init ai)<|ae<|ag O<|ag O<|ad<|Cs<|ae<|ac O<|ad<|Cb<|ae<|I (bz O O) ?_;refine ag O<|ad ?_;refine Cc O (λf=>?_)<|λf=>?_
 ·refine ae<|ac O<|ac O<|I (r3 O O)<|ag O<|ag O<|ad<|am<|cN<|Er ?_;refine WE.ng O O O λd c=>?_;exact ⟨by simp [jl, *],c.fr⟩
 refine ae<|I (bz O O)<|ag O<|ad ?_;refine Cc O (λg=>?_)<|λg=>?_
 ·refine ae<|ac O<|ac O<|I (AU O O)<|ag O<|ag O<|ad<|am<|cN<|Er ?_;refine WE.ng O O O λd c=>?_;exact ⟨by simp [jl, *],c.fr⟩
 refine ae<|I (bz O O)<|ag O<|ad ?_;refine Cc O (λh=>?_)<|λh=>?_
 ·refine ae<|ac O<|ac O<|I (Ip O O)<|ag O<|ag O<|ad<|am<|cN<|Er ?_;refine WE.ng O O O λd c=>?_;exact ⟨by simp [jl, *],c.fr⟩
 refine ae<|I (bz O O)<|ag O<|ad ?_;refine Cc O (λi=>?_)<|λi=>?_
 ·refine ae<|ac O<|ac O<|I (bz O O)<|Lp Y O aF O (λw c=>CA _ w)<|ag O<|ag O<|ad<|am<|cN<|Er ?_;refine WE.ng O O O λd c=>?_;exact ⟨by simp [jl, *],c.fr⟩
 refine ae<|I (bz O O)<|ag O<|ad ?_;refine Cc O (λj=>?_)<|λj=>?_
 ·refine ae<|ac O<|ac O<|I (cI O O)<|Lp Y O aF O (λw c=>CA _ w)<|ag O<|ag O<|ad<|am<|cN<|Er ?_;refine WE.ng O O O λd c=>?_;exact ⟨by simp [jl, *],c.fr⟩
 refine Ck<|Eb<|Et<|ae<|ag O<|ag O<|ad<|am ?_;refine WE.ng O O O λd c=>?_;exact ⟨by simp [jl, *],c.fr⟩
end Go.Proofs.YtgeahfjicmlocaaGreatDoor.Mch
end
section
namespace Go.Proofs.YtgeahfjicmlocaaGreatDoor.Mch
open Go.Bw Go.Proofs.Tryz
def iv (x:Int):List Value:=[.int .i64 x]
def h4 (x:Int):(iv x).length=1:=rfl
structure fv where
 la:Option Addr
 lc:Nat
 loc:List Int
 back:Int
def fv.cells (f:fv):List Value:=[.slice f.la f.loc.length f.lc,.int .i64 f.back]
def fv.own (f:fv):aQ:=cC 3 1 iv f.la f.lc f.loc
structure Pm where
 at_:Int
 pc:Int
 steps:Int
 stack:List Int
 cv:List (List Int×Int)
 bg:List Int
 out:List Int
 data:List Int
 aM:Int
structure ah where
 at_:Int
 pc:Int
 steps:Int
 stack:List Int
 cv:List fv
 bg:List Int
 out:List Int
 data:List Int
 aM:Int
 sa:Option Addr
 sc:Nat
 fa:Option Addr
 fc:Nat
 ia:Option Addr
 ic:Nat
 oa:Option Addr
 oc:Nat
 da:Option Addr
 dc:Nat
def fv.pu (f:fv):List Int×Int:=(f.loc,f.back)
def ah.pu (s:ah):Pm:=⟨s.at_,s.pc,s.steps,s.stack,s.cv.map fv.pu,s.bg,s.out,s.data,s.aM⟩
def ah.obj (s:ah):Obj:=.cells #[.int .i64 s.at_,.int .i64 s.pc,.int .i64 s.steps,.slice s.sa s.stack.reverse.length s.sc,.slice s.fa s.cv.reverse.length s.fc,.slice s.ia s.bg.length s.ic,.int .i64 0,.slice s.oa s.out.length s.oc,.slice s.da s.data.length s.dc,.int .i64 s.aM] 163 (0,0)
abbrev ah.own (b:Nat) (s:ah):List aQ:=[aq b s.obj,cC 3 1 iv s.sa s.sc s.stack.reverse,cC 269 2 fv.cells s.fa s.fc s.cv.reverse,cC 3 1 iv s.oa s.oc s.out,cC 3 1 iv s.da s.dc s.data,fZ (s.cv.map fv.own)]
inductive Rz (α:Type) where
 | ok (a:α) (m:Pm)
 | ov (e:Int) (m:Pm)
def Rz.bind {α β:Type} (r:Rz α) (f:α->Pm->Rz β):Rz β:=match r with
 | .ok a m=>f a m
 | .ov e m=>.ov e m
def ee (e:Int):List PanicEntry:=[⟨.iface 165<|.agg #[.int .i64 e],false,false⟩]
def cB (m:Pm):Rz Int:=match m.stack with
 | []=>.ov 6 m
 | x::r=>.ok x { m with stack:=r }
def eY (n:Int) (m:Pm):Rz Unit:=if m.stack.length=2048 then .ov 6 m else .ok () { m with stack:=n::m.stack }
def mF (m:Pm):Rz Unit:=if m.aM=m.pc then .ov 3 m else .ok () { m with aM:=IntKind.i64.wrap (m.aM+1) }
def k5 (op:Int) (m:Pm):Rz Unit:=if (decide (op<9)||decide (15<op))=true then .ov 6 m else (cB m).bind λb m=>(cB m).bind λa m=>
 if (jl op a b).2=true then eY (jl op a b).1 m else if b=0 then .ov 1 m else eY (if op=13 then a.tmod b else IntKind.i64.wrap (a.tdiv b)) m
def dD (a b:Int) (m:Pm):Rz Unit:=if ((((decide (a<0)||decide (b<0))||decide (2048<a))||decide (IntKind.i64.wrap (2048-a)<b))||decide ((m.stack.length:Int)<a))=true then .ov 6 m
 else .ok () { m with stack:=m.stack.drop a.toNat,cv:=match m.cv with | []=>[] | f::r=>((m.stack.take a.toNat).reverse++List.replicate b.toNat 0,f.2)::r }
def dP (to:Int) (m:Pm):Rz Unit:=(mF m).bind λ_ m=>if 24<m.cv.length then .ov 4 m else .ok () { m with cv:=([],m.at_)::m.cv,at_:=to }
def rK (m:Pm):Rz Unit:=if m.cv.length=1 then .ov 6 m else match m.cv with | []=>.ov 6 m | f::r=>.ok () { m with at_:=f.2,cv:=r }
def nM (m:Pm):Int×Pm:=match m.bg with | []=>(0,m) | x::r=>(x,{ m with bg:=r })
def aI (at_:Int) (n:Nat):Bool:=decide (at_<0)||decide ((n:Int)<=at_)
def S8:gX prog 165=some [(0,1)]:=ab
def L6:zeroOf prog 165=some (.agg #[.int .i64 0]):=ab
def S9:prog.concrete 165=true:=ab
def nN (b:Bool) (e:Int) (w:World) :
   Calls prog 84 #[.bool b,.int .i64 e] w λf a=>(∃_:Unit,f = .returned (.tuple #[])/\b=false/\Ext w a)\/(∃_:Unit,f = .panicked (ee e)/\b=true/\Ext w a):=by
 refine enter func84 O 8 O O ?_;refine CE (Vs:=[]) (Ws.init ai)<|ae<|ac O<|ad ?_;refine Cc O (λc=>?_)<|λc=>?_
 ·refine Cr<|ac O<|I (Yb L6 S8 O O)<|I (pB S9 O) ?_;refine WL.panic Y O ?_;refine bE λa d=>?_;exact .inr ⟨(),O,c,d.fr⟩
 refine Ck ?_;refine E0 O λa d=>?_;exact .inl ⟨(),O,c,d.fr⟩
end Go.Proofs.YtgeahfjicmlocaaGreatDoor.Mch
end
section
namespace Go.Proofs.YtgeahfjicmlocaaGreatDoor.Mch
open Go.Bw Go.Proofs.Tryz
def jV (a:View) (b o:Nat) (x:Int):Prop:=vc a b o=some (.int .i64 x)
def pX (a:View) (b o:Nat) (x:Int) (h:ar a b o (iv x)):jV a b o x:=h 0 _ rfl
def fv.cD (f:fv):f.cells.length=2:=rfl
structure ah.r' (HI:View) (s:ah):Prop where
 bg:Sl jV 1 HI s.ia s.ic s.bg
 ak:s.stack.length<=2048
 kk:1<=s.cv.length/\s.cv.length<=25
 out:s.out.length<=200
 aap:s.data.length<=512
abbrev ah.bZ (s:ah) (r:List Int):ah:={ s with stack:=r }
def ah.r'.stack {a:View} {s:ah} (h:s.r' a) {r:List Int} {sa:Option Addr} {sc:Nat} (b:r.length<=2048):ah.r' a { s with stack:=r,sa:=sa,sc:=sc }:=⟨h.bg,b,h.kk,h.out,h.aap⟩
def e3:aat prog 29=some 1:=ab
def l5:au prog 163 3=some 3:=ab
def mixed:prog.follows .mixedOrders=true:=ab
def jW:aJ prog 29=some 1:=ab
def gm:hf prog 29 3 (.int .i64 0) 1 8:=jb ab
def nO (c:Nat) (s:ah) (f:View)  (w:World) (g:s.r' f) (a:Ws w ((ah.own c s).flatMap aQ.ids) (ah.own c s) [f] w) :
   Calls prog 152 #[.pointer (some ⟨c,0,none⟩)] w λe i=>(∃r:Int×List Int,e = .returned (.int .i64 r.1)/\(cB s.pu = .ok r.1 (ah.bZ s r.2).pu/\(ah.bZ s r.2).r' f)/\Ws w ((ah.own c s).flatMap aQ.ids) (ah.own c<|ah.bZ s r.2) [f] i)\/(∃r:Int×ah,e = .panicked (ee r.1)/\cB s.pu = .ov r.1 r.2.pu/\Ws w ((ah.own c s).flatMap aQ.ids) (ah.own c r.2) [f] i):=by
 have l:s.stack.reverse.length=s.stack.length:=ai
 have u:s.cv.reverse.length=s.cv.length:=ai
 have v:=g.ak;have z:=g.kk;have A:=g.out;have B:=g.aap;refine enter func152 O 38 O O ?_;refine CE a<|ae<|ag O<|ad<|ae<|ac O<|I (bw O)<|I (Yf l5 O)<|I (Yd 0 O O O ab) ?_;refine I (Yn e3 O)<|I (bz O O) ?_
 refine c' (ι:=Unit) (κ:=Unit) [] _ Y O aF O O (λ_=>.tuple #[]) (λ_=>[]) (λ_=>(((s.stack.reverse.length:Nat):Int)==0)=false) (λ_=>ee 6) (λ_=>[]) (λ_=>(((s.stack.reverse.length:Nat):Int)==0)=true) ([]) ai (λw a=>(nN _ 6 w).mono λe i h=>by
     rcases h with ⟨_,m,n,o⟩ | ⟨_,m,n,o⟩
     · exact .inl ⟨(),m,n,a.ext o⟩
     · exact .inr ⟨(),m,n,a.ext o⟩) ?_ ?_
 ·intro _ j;refine Ep ?_;refine bE λi a=>?_;refine .inr ⟨(6,s),O,?_,a⟩
  have b:s.stack=[]:=by
    cases h:s.stack with
    | nil=>rfl
    | cons x r=>
      rw [l,h] at j;simp at j;omega
  unfold cB;rw [show s.pu.stack=[] from b]
 intro _ j;refine ad<|Cs ?_
 obtain ⟨x,r,b⟩:∃x r,s.stack=x::r:=by
   cases h:s.stack with
   | nil=>rw [l,h] at j; cases j
   | cons x r=>exact ⟨x,r,rfl⟩
 refine WC.re 1 O (by rw [l,b]; simp) λC t D E=>?_
 have F:s.stack.length=r.length+1:=by rw [b]; rfl
 refine CU (λ_=>true) [] [] (.q false 0<|.q false 1<|.q false 2<|.q true 3<|.q false 4<|.q false 5<|.q false 6<|.q true 7<|.q false 8<|.q false 9<|.q false 10<|.q true 11<|.q false 12 .nil) mixed ab (λ_ _ _ d _ _ h=>by cases d<;>exact h) ?_;refine U0 O ay (Ym O)<|U0 O ay (bw O)<|U0 O ay (Yf l5 O)<|U0 O ay (Yd 0 O O O ab)<|U0 O ay (Ym O)<|U0 O ay (bw O)<|U0 O ay (Yf l5 O)<|U0 O ay (Yd 0 O O O ab) ?_;refine U0 O ay (Yn e3 O)<|U0 O ay (py ((r.length:Nat):Int) O O aa aa)<|U0 O ay (Yo e3 O O t aa) ?_;refine U0 O ay (n4 (y:=x) 1 r.length 0 O O t O h4 (by rw [b,uO,nc ai]; simp) O ab) ?_;refine U0 O ay (Ya O) ?_;refine WU.nil ay ?_;refine WS.nil ?_;refine Et<|Cs ?_;refine CU (λ_=>true) [] [14] (.q false 0<|.q false 1<|.q false 2<|.q false 3<|.q true 4<|.q false 5<|.q false 6<|.q false 7<|.q true 8<|.q false 9<|.q false 10<|.q false 11<|.q false 12<|.q false 13 .nil) mixed ab (λ_ _ _ d _ _ h=>by cases d<;>exact h) ?_;refine U0 O ay (Ym O)<|U0 O ay (Ym O)<|U0 O ay (bw O)<|U0 O ay (Yf l5 O)<|U0 O ay (Yd 0 O O O ab)<|U0 O ay (Ym O)<|U0 O ay (bw O)<|U0 O ay (Yf l5 O) ?_;refine U0 O ay (Yd 0 O O O ab)<|U0 O ay (Yn e3 O)<|U0 O ay (py ((r.reverse.length:Nat):Int) O O (by simp; omega) (by simp; omega))<|U0 O ay (ZW r.reverse.length e3 O (λp k=>by rw [t] at k; injection k with k; subst k; rfl) O O (by simp; omega))<|U0 O ay (bw O)<|U0 O ay (Yf l5 O) ?_;refine WU.nil ay ?_;refine WS.e O ?_;refine aT 0 Y O O O jW O O O ?_;refine WL.yE 1 r.reverse O h4 (by simp [b]) (by rw [b]; simp) ?_;refine Ln<|Es ?_;refine WS.nil ?_;refine Et<|ae<|ac O<|ag O<|ad<|am ?_;refine R1 O O λi a=>?_;refine .inl ⟨(x,r),O,⟨?_,ah.r'.stack (r:=r) (sa:=s.sa) (sc:=s.sc) g aa⟩,a⟩;unfold cB;rw [show s.pu.stack=x::r from b]
 rfl
def pY (b:Nat) (s:ah) (c:View) (n:Int) (w:World) (d:s.r' c) (a:Ws w ((ah.own b s).flatMap aQ.ids) (ah.own b s) [c] w) :
   Calls prog 149 #[.pointer (some ⟨b,0,none⟩),.int .i64 n] w λe f=>(∃r:Unit×ah,e = .returned (.tuple #[])/\(eY n s.pu = .ok r.1 r.2.pu/\r.2.r' c)/\Ws w ((ah.own b s).flatMap aQ.ids) (ah.own b r.2) [c] f)\/(∃r:Int×ah,e = .panicked (ee r.1)/\eY n s.pu = .ov r.1 r.2.pu/\Ws w ((ah.own b s).flatMap aQ.ids) (ah.own b r.2) [c] f):=by
 have l:s.stack.reverse.length=s.stack.length:=ai
 have q:s.cv.reverse.length=s.cv.length:=ai
 have t:=d.ak;have u:=d.kk;have v:=d.out;have x:=d.aap;refine enter func149 O 21 O O ?_;refine CE a<|ae<|ac O<|I (bw O)<|I (Yf l5 O)<|I (Yd 0 O O O ab)<|I (Yn e3 O)<|I (bz O O) ?_
 refine c' (ι:=Unit) (κ:=Unit) [] _ Y O aF O O (λ_=>.tuple #[]) (λ_=>[]) (λ_=>(((s.stack.reverse.length:Nat):Int)==2048)=false) (λ_=>ee 6) (λ_=>[]) (λ_=>(((s.stack.reverse.length:Nat):Int)==2048)=true) ([]) ai (λw a=>(nN _ 6 w).mono λe f h=>by
     rcases h with ⟨_,i,j,k⟩ | ⟨_,i,j,k⟩
     · exact .inl ⟨(),i,j,a.ext k⟩
     · exact .inr ⟨(),i,j,a.ext k⟩) ?_ ?_
 ·intro _ g;refine Ep ?_;refine bE λf a=>?_;exact .inr ⟨(6,s),O,by rw [eY,ZZ (show s.pu.stack.length=2048 from by rw [l] at g; simp at g; show s.stack.length=2048; omega)],a⟩
 intro _ g;refine ad ?_
 have m:¬s.stack.length=2048:=by intro h; rw [l,h] at g; cases g
 refine Cr<|ac O<|ac O<|I (bw O)<|I (Yf l5 O)<|I (Yd 0 O O O ab)<|ac O ?_;refine Lb Y O gm O O O O λy=>?_;refine LA n 2 0 Y O gm O O O O O O aa aa λo p=>?_;rw [show s.stack.reverse++[n]=(n::s.stack).reverse by simp];refine I (bw O)<|I (Yf l5 O)<|aT 1 Y O O O jW O O O<|Ln ?_;refine E0 O λf a=>?_;exact .inl ⟨((),{ s with stack:=n::s.stack,sa:=o,sc:=p }),O,⟨by rw [eY,ZX (show ¬s.pu.stack.length=2048 from m)]; rfl,d.stack (by simp; omega)⟩,Wd 1 a⟩
end Go.Proofs.YtgeahfjicmlocaaGreatDoor.Mch
end
section
namespace Go.Proofs.YtgeahfjicmlocaaGreatDoor.Mch
open Go.Bw Go.Proofs.Tryz
def sI:au prog 163 4=some 4:=ab
def xo:aat prog 160=some 2:=ab
def pf:au prog 163 6=some 6:=ab
def sJ:au prog 64 3=some 3:=ab
def S_:au prog 163 1=some 1:=ab
def dL:aJ prog 3=some 1:=ab
def CB:au prog 163 5=some 5:=ab
def aaD (a:Option Addr) (c n:Nat) (i:Int) (w:World) (p:0<n->∃b o,a=some ⟨b,o,none⟩) :
   Calls prog 150 #[.slice a n c,.int .i64 i] w λe f=>(∃r:Nat×Nat,e = .returned (.pointer<|some ⟨r.1,r.2+i.toNat*1,none⟩)/\(aI i n=false/\a=some ⟨r.1,r.2,none⟩)/\Ext w f)\/(∃_:Unit,e = .panicked (ee 6)/\aI i n=true/\Ext w f):=by
 refine enter func150 O 17 O O ?_;refine CE (Vs:=[]) (Ws.init ai)<|ae<|ag O<|ad<|ae<|ac O<|I (cI O O)<|ac O ?_;apply Lo 4 O O O O Y O O O O O
 ·intro s;refine Vg (Ym O)<|Vg (Ym O)<|Vg (Yn e3 O)<|Vg (hS O O) ?_;exact Gt 4 O O O
 refine c' (ι:=Unit) (κ:=Unit) [] _ Y O aF O O (λ_=>.tuple #[]) (λ_=>[]) (λ_=>(aI i n)=false) (λ_=>ee 6) (λ_=>[]) (λ_=>(aI i n)=true) ([]) ai (λw d=>(nN _ 6 w).mono λe f h=>by
     rcases h with ⟨_,j,k,l⟩ | ⟨_,j,k,l⟩
     · exact .inl ⟨(),j,k,d.ext l⟩
     · exact .inr ⟨(),j,k,d.ext l⟩) ?_ ?_
 ·intro _ g;refine Ep ?_;refine bE λf d=>?_;exact .inr ⟨(),O,g,d.fr⟩
 intro _ g;refine ad<|Cs ?_
 have m:0<=i/\i<n:=by
   unfold aI at g;simp at g;omega
 obtain ⟨q,co,rfl⟩:=p aa;refine Cr<|ac O<|ac O<|I (En e3 O O m.1 m.2)<|ag O<|ad<|am ?_;refine R1 O O λf d=>?_;exact .inl ⟨(q,co),O,⟨g,O⟩,d.fr⟩
def xp (a:Nat) (s:ah) (c:View)  (w:World) (b:s.r' c) (f:Ws w ((ah.own a s).flatMap aQ.ids) (ah.own a s) [c] w) :
   Calls prog 151 #[.pointer (some ⟨a,0,none⟩)] w λe g=>∃r:Nat,e = .returned (.pointer<|some ⟨r,0+(s.cv.length-1)*2,none⟩)/\s.fa=some ⟨r,0,none⟩/\Ws w ((ah.own a s).flatMap aQ.ids) (ah.own a s) [c] g:=by
 have l:s.stack.reverse.length=s.stack.length:=ai
 have j:s.cv.reverse.length=s.cv.length:=ai
 have m:=b.ak;have n:=b.kk;have o:=b.out;have p:=b.aap;refine enter func151 O 14 O O ?_;refine CE f<|ae<|ag O<|ad<|Cs ?_;refine WC.re 2 O aa λk i t u=>?_;refine CU (λ_=>true) [] [] (.q false 0<|.q false 1<|.q false 2<|.q true 3<|.q false 4<|.q false 5<|.q false 6<|.q true 7<|.q false 8<|.q false 9<|.q false 10<|.q false 11 .nil) mixed ab (λ_ _ _ d _ _ h=>by cases d<;>exact h) ?_;refine U0 O ay (Ym O)<|U0 O ay (bw O)<|U0 O ay (Yf sI O)<|U0 O ay (Yd 0 O O O ab)<|U0 O ay (Ym O)<|U0 O ay (bw O)<|U0 O ay (Yf sI O)<|U0 O ay (Yd 0 O O O ab) ?_;refine U0 O ay (Yn xo O)<|U0 O ay (py ((s.cv.length-1:Nat):Int) O O (by rw [j]; omega) aa)<|U0 O ay (Yo xo O O i aa)<|U0 O ay (Ya O) ?_;refine WU.nil ay ?_;refine WS.nil ?_;refine Et<|am ?_;refine R1 O O λg f=>?_;exact ⟨k,O,i,f⟩
def L7 (c:Nat) (s:ah) (f:View)  (w:World) (a:s.r' f) (b:Ws w ((ah.own c s).flatMap aQ.ids) (ah.own c s) [f] w) :
   Calls prog 158 #[.pointer (some ⟨c,0,none⟩)] w λe g=>(∃r:Unit×ah,e = .returned (.tuple #[])/\(mF s.pu = .ok r.1 r.2.pu/\r.2.r' f)/\Ws w ((ah.own c s).flatMap aQ.ids) (ah.own c r.2) [f] g)\/(∃r:Int×ah,e = .panicked (ee r.1)/\mF s.pu = .ov r.1 r.2.pu/\Ws w ((ah.own c s).flatMap aQ.ids) (ah.own c r.2) [f] g):=by
 have n:s.stack.reverse.length=s.stack.length:=ai
 have o:s.cv.reverse.length=s.cv.length:=ai
 have p:=a.ak;have t:=a.kk;have u:=a.out;have v:=a.aap;refine enter func158 O 22 O O ?_;refine CE b<|Cs ?_;refine CU (λ_=>true) [] [] (.q false 0<|.q false 1<|.q false 2<|.q false 3<|.q true 4<|.q false 5<|.q false 6<|.q false 7<|.q true 8<|.q false 9<|.e 10 .nil .stop) mixed ab (λ_ _ _ d _ _ h=>by cases d<;>exact h) ?_;refine U0 O ay (Ym O)<|U0 O ay (bw O)<|U0 O ay (Yf pf O)<|U0 O ay (Yf sJ O)<|U0 O ay (Yd 0 O O O ab)<|U0 O ay (Ym O)<|U0 O ay (bw O)<|U0 O ay (Yf S_ O) ?_;refine U0 O ay (Yd 0 O O O ab)<|U0 O ay (bz O O) ?_;refine Ue O ay ?_ WU.stop
 refine c' (ι:=Unit) (κ:=Unit) [] _ Y O aF O O (λ_=>.tuple #[]) (λ_=>[]) (λ_=>(s.aM==s.pc)=false) (λ_=>ee 3) (λ_=>[]) (λ_=>(s.aM==s.pc)=true) ([]) ai (λw b=>(nN _ 3 w).mono λe g h=>by
     rcases h with ⟨_,i,j,k⟩ | ⟨_,i,j,k⟩
     · exact .inl ⟨(),i,j,b.ext k⟩
     · exact .inr ⟨(),i,j,b.ext k⟩) ?_ ?_
 ·intro _ l;refine Ep<|Ep ?_;refine bE λg b=>?_;exact .inr ⟨(3,s),O,by rw [mF,ZZ (show s.pu.aM=s.pu.pc from (by simpa using l:s.aM=s.pc))],b⟩
 intro _ l;refine Ln<|Eu ?_;refine WU.nil ay ?_;refine WS.nil ?_;refine Et ?_
 have m:¬s.aM=s.pc:=by simpa using l
 refine Cr<|ac O<|I (bw O)<|I (Yf pf O)<|I (Yf sJ O)<|I (Yd 0 O O O ab)<|I (r3 O O)<|I (bw O) ?_;refine I (Yf pf O)<|I (Yf sJ O)<|aT 0 Y O O O dL O O O<|Ln ?_;refine E0 O λg b=>?_;exact .inl ⟨((),{ s with aM:=IntKind.i64.wrap (s.aM+1) }),O,⟨by rw [mF,ZX (show ¬s.pu.aM=s.pu.pc from m)]; rfl,⟨a.bg,a.ak,a.kk,a.out,a.aap⟩⟩,b⟩
def Ta (d:Nat) (s:ah) (f:View) (op:Int) (w:World) (u:s.r' f) (b:Ws w ((ah.own d s).flatMap aQ.ids) (ah.own d s) [f] w) :
   Calls prog 154 #[.pointer (some ⟨d,0,none⟩),.int .i64 op] w λe g=>(∃r:Unit×ah,e = .returned (.tuple #[])/\(k5 op s.pu = .ok r.1 r.2.pu/\r.2.r' f)/\Ws w ((ah.own d s).flatMap aQ.ids) (ah.own d r.2) [f] g)\/(∃r:Int×ah,e = .panicked (ee r.1)/\k5 op s.pu = .ov r.1 r.2.pu/\Ws w ((ah.own d s).flatMap aQ.ids) (ah.own d r.2) [f] g):=by
 have D:s.stack.reverse.length=s.stack.length:=ai
 have E:s.cv.reverse.length=s.cv.length:=ai
 have F:=u.ak;have G:=u.kk;have H:=u.out;have J:=u.aap;refine enter func154 O 42 O O ?_;refine CE b<|ae<|ac O<|I (cI O O)<|ac O ?_;apply Lo 2 O O O O Y O O O O O
 ·intro K;refine Vg (Ym O)<|Vg (eh O O) ?_;exact Gt 2 O O O
 refine c' (ι:=Unit) (κ:=Unit) [] _ Y O aF O O (λ_=>.tuple #[]) (λ_=>[]) (λ_=>(decide (op<9)||decide (15<op))=false) (λ_=>ee 6) (λ_=>[]) (λ_=>(decide (op<9)||decide (15<op))=true) ([]) ai (λw b=>(nN _ 6 w).mono λe g h=>by
     rcases h with ⟨_,o,p,q⟩ | ⟨_,o,p,q⟩
     · exact .inl ⟨(),o,p,b.ext q⟩
     · exact .inr ⟨(),o,p,b.ext q⟩) ?_ ?_
 ·intro _ i;refine Ep ?_;refine bE λg b=>?_;exact .inr ⟨(6,s),O,by rw [k5,ZZ i],b⟩
 intro _ i;refine ad<|ae<|ac O ?_;refine c' (ι:=Int×List Int) (κ:=Int×ah) [_,_,_,_,_,_] _ Y O aF O O (λr=>.int .i64 r.1) (λr=>(ah.own d<|ah.bZ s r.2)) (λr=>cB s.pu = .ok r.1 (ah.bZ s r.2).pu/\(ah.bZ s r.2).r' f) (λr=>ee r.1) (λr=>(ah.own d r.2)) (λr=>cB s.pu = .ov r.1 r.2.pu) ([f]) ai (λw b=>nO d s f w u b) ?_ ?_
 ·intro a l;refine Ep ?_;refine bE λg b=>?_;exact .inr ⟨a,O,by rw [k5,ZX (by rw [i]; simp),l]; rfl,b⟩
 intro a ⟨l,C⟩;refine ag O<|ad<|ae<|ac O ?_;refine c' (ι:=Int×List Int) (κ:=Int×ah) [_,_,_,_,_,_] _ Y O aF O O (λr=>.int .i64 r.1) (λr=>(ah.own d<|ah.bZ (ah.bZ s a.2) r.2)) (λr=>cB (ah.bZ s a.2).pu = .ok r.1 (ah.bZ (ah.bZ s a.2) r.2).pu/\(ah.bZ (ah.bZ s a.2) r.2).r' f) (λr=>ee r.1) (λr=>(ah.own d r.2)) (λr=>cB (ah.bZ s a.2).pu = .ov r.1 r.2.pu) ([f]) ai (λw b=>nO d (ah.bZ s a.2) f w C b) ?_ ?_
 ·intro c m;refine Ep ?_;refine bE λg b=>?_;exact .inr ⟨c,O,by rw [k5,ZX (by rw [i]; simp),l]; show Rz.bind (cB (ah.bZ s a.2).pu) _=_; rw [m]; rfl,b⟩
 intro c ⟨m,y⟩;refine ag O<|ad<|ae<|ac O<|ac O<|ac O<|Lp Y O aF O (λw b=>S7 _ _ _ w)<|ac O<|I (Yx O O) ?_;refine I (Yx O O)<|ag O<|ag O<|ad<|Cs<|ae<|ac O<|I (gW O)<|ad ?_;refine Cc O (λz=>?_)<|λz=>?_
 ·have n:(jl op c.1 a.1).2=false:=by simpa using z
  refine ae<|ac O<|I (bz O O) ?_
  refine c' (ι:=Unit) (κ:=Unit) [] _ Y O aF O O (λ_=>.tuple #[]) (λ_=>[]) (λ_=>(a.1==0)=false) (λ_=>ee 1) (λ_=>[]) (λ_=>(a.1==0)=true) ([]) ai (λw b=>(nN _ 1 w).mono λe g h=>by
      rcases h with ⟨_,o,p,q⟩ | ⟨_,o,p,q⟩
      · exact .inl ⟨(),o,p,b.ext q⟩
      · exact .inr ⟨(),o,p,b.ext q⟩) ?_ ?_
  ·intro _ A;refine Ep<|Ep ?_;refine bE λg b=>?_;refine .inr ⟨(1,ah.bZ (ah.bZ s a.2) c.2),O,?_,b⟩;rw [k5,ZX (by rw [i]; simp),l]
   show Rz.bind (cB (ah.bZ s a.2).pu) _=_
   rw [m]
   show (if (jl op c.1 a.1).2=true then _ else _)=_
   rw [n,ZX ai,ZZ (by simpa using A)]
  intro _ A;refine ad<|Cs ?_
  have t:¬a.1=0:=by simpa using A
  refine Cr<|ac O<|ac O<|I (IF O O t)<|ag O<|ad<|ae<|ac O<|I (bz O O) ?_;refine ad ?_;refine Cc O (λB=>?_)<|λB=>?_
  ·have v:op=13:=by simpa using B
   refine Cr<|ac O<|ac O<|I (IG O O t)<|ag O<|ad<|Cr<|ac O<|ac O ?_;refine c' (ι:=Unit×ah) (κ:=Int×ah) [_,_,_,_,_,_] _ Y O aF O O (λr=>.tuple #[]) (λr=>(ah.own d r.2)) (λr=>eY (c.1.tmod a.1) (ah.bZ (ah.bZ s a.2) c.2).pu = .ok r.1 r.2.pu/\r.2.r' f) (λr=>ee r.1) (λr=>(ah.own d r.2)) (λr=>eY (c.1.tmod a.1) (ah.bZ (ah.bZ s a.2) c.2).pu = .ov r.1 r.2.pu) ([f]) ai (λw b=>pY d (ah.bZ (ah.bZ s a.2) c.2) f (c.1.tmod a.1) w y b) ?_ ?_
   ·intro j k;refine bE λg b=>?_;refine .inr ⟨j,O,?_,b⟩;rw [k5,ZX (by rw [i]; simp),l]
    show Rz.bind (cB (ah.bZ s a.2).pu) _=_
    rw [m]
    show (if (jl op c.1 a.1).2=true then _ else _)=_
    rw [n,ZX ai,ZX t,ZZ v];rw [k]
   intro j ⟨k,x⟩;refine Ln ?_;refine E0 O λg b=>?_;refine .inl ⟨((),j.2),O,⟨?_,x⟩,b⟩;rw [k5,ZX (by rw [i]; simp),l]
   show Rz.bind (cB (ah.bZ s a.2).pu) _=_
   rw [m]
   show (if (jl op c.1 a.1).2=true then _ else _)=_
   rw [n,ZX ai,ZX t,ZZ v];rw [k]
  have v:¬op=13:=by simpa using B
  refine bW<|Cr<|ac O<|ac O ?_;refine c' (ι:=Unit×ah) (κ:=Int×ah) [_,_,_,_,_,_] _ Y O aF O O (λr=>.tuple #[]) (λr=>(ah.own d r.2)) (λr=>eY (IntKind.i64.wrap<|c.1.tdiv a.1) (ah.bZ (ah.bZ s a.2) c.2).pu = .ok r.1 r.2.pu/\r.2.r' f) (λr=>ee r.1) (λr=>(ah.own d r.2)) (λr=>eY (IntKind.i64.wrap<|c.1.tdiv a.1) (ah.bZ (ah.bZ s a.2) c.2).pu = .ov r.1 r.2.pu) ([f]) ai (λw b=>pY d (ah.bZ (ah.bZ s a.2) c.2) f (IntKind.i64.wrap<|c.1.tdiv a.1) w y b) ?_ ?_
  ·intro j k;refine bE λg b=>?_;refine .inr ⟨j,O,?_,b⟩;rw [k5,ZX (by rw [i]; simp),l]
   show Rz.bind (cB (ah.bZ s a.2).pu) _=_
   rw [m]
   show (if (jl op c.1 a.1).2=true then _ else _)=_
   rw [n,ZX ai,ZX t,ZX v];rw [k]
  intro j ⟨k,x⟩;refine Ln ?_;refine E0 O λg b=>?_;refine .inl ⟨((),j.2),O,⟨?_,x⟩,b⟩;rw [k5,ZX (by rw [i]; simp),l]
  show Rz.bind (cB (ah.bZ s a.2).pu) _=_
  rw [m]
  show (if (jl op c.1 a.1).2=true then _ else _)=_
  rw [n,ZX ai,ZX t,ZX v];rw [k]
 have n:(jl op c.1 a.1).2=true:=by simpa using z
 refine bW<|Cr<|ac O<|ac O ?_;refine c' (ι:=Unit×ah) (κ:=Int×ah) [_,_,_,_,_,_] _ Y O aF O O (λr=>.tuple #[]) (λr=>(ah.own d r.2)) (λr=>eY ((jl op c.1 a.1).1) (ah.bZ (ah.bZ s a.2) c.2).pu = .ok r.1 r.2.pu/\r.2.r' f) (λr=>ee r.1) (λr=>(ah.own d r.2)) (λr=>eY ((jl op c.1 a.1).1) (ah.bZ (ah.bZ s a.2) c.2).pu = .ov r.1 r.2.pu) ([f]) ai (λw b=>pY d (ah.bZ (ah.bZ s a.2) c.2) f ((jl op c.1 a.1).1) w y b) ?_ ?_
 ·intro j k;refine bE λg b=>?_;refine .inr ⟨j,O,?_,b⟩;rw [k5,ZX (by rw [i]; simp),l]
  show Rz.bind (cB (ah.bZ s a.2).pu) _=_
  rw [m]
  show (if (jl op c.1 a.1).2=true then _ else _)=_
  rw [ZZ n];rw [k]
 intro j ⟨k,x⟩;refine Ln ?_;refine E0 O λg b=>?_;refine .inl ⟨((),j.2),O,⟨?_,x⟩,b⟩;rw [k5,ZX (by rw [i]; simp),l]
 show Rz.bind (cB (ah.bZ s a.2).pu) _=_
 rw [m]
 show (if (jl op c.1 a.1).2=true then _ else _)=_
 rw [ZZ n];rw [k]
def Tb (b:Nat) (s:ah) (c:View)  (w:World) (a:s.r' c) (d:Ws w ((ah.own b s).flatMap aQ.ids) (ah.own b s) [c] w) :
   Calls prog 159 #[.pointer (some ⟨b,0,none⟩)] w λe g=>(∃r:Int×ah,e = .returned (.int .i64 r.1)/\(Rz.ok (nM s.pu).1 (nM s.pu).2 = .ok r.1 r.2.pu/\r.2.r' c)/\Ws w ((ah.own b s).flatMap aQ.ids) (ah.own b r.2) [c] g)\/(∃r:Int×ah,e = .panicked (ee r.1)/\Rz.ok (nM s.pu).1 (nM s.pu).2 = .ov r.1 r.2.pu/\Ws w ((ah.own b s).flatMap aQ.ids) (ah.own b r.2) [c] g):=by
 have q:s.stack.reverse.length=s.stack.length:=ai
 have t:s.cv.reverse.length=s.cv.length:=ai
 have u:=a.ak;have v:=a.kk;have y:=a.out;have z:=a.aap;refine enter func159 O 25 O O ?_;refine CE d<|ae<|ag O<|ad<|Cs<|ae<|ac O<|I (bw O)<|I (Yf CB O)<|I (Yd 0 O O O ab) ?_;refine I (Yn e3 O)<|I (bz O O)<|ad ?_;refine Cc O (λj=>?_)<|λj=>?_
 ·have f:s.bg=[]:=by simpa using j
  refine ae<|ag O<|ad<|am<|Er ?_;refine R1 O O λg d=>?_;refine .inl ⟨(0,s),O,⟨?_,a⟩,d⟩;unfold nM;rw [show s.pu.bg=[] from f]
 obtain ⟨x,r,f⟩:∃x r,s.bg=x::r:=by
   cases h:s.bg with
   | nil=>rw [h] at j; cases j
   | cons x r=>exact ⟨x,r,rfl⟩
 obtain ⟨m,n,o,k⟩:=a.bg.b5 0 x (by rw [f]; rfl);have k:vc c m (n+0*1)=some (.int .i64 x):=k
 have A:s.bg.length=r.length+1:=by rw [f]; rfl
 have p:=a.bg.cap;refine bW<|ae<|ac O<|I (bw O)<|I (Yf CB O)<|I (Yd 0 O O O ab)<|I (Yo (i:=0) e3 O O o aa)<|I (eQ 0 ab O O<|k)<|ag O ?_;refine ad<|ae<|ac O<|ac O<|I (bw O)<|I (Yf CB O)<|I (Yd 0 O O O ab)<|I (yD 1 e3 O O O aa p)<|I (bw O) ?_;refine I (Yf CB O)<|aT 0 Y O O O jW O O O<|ad<|ae<|ac O<|ag O<|ad<|am ?_;refine R1 O O λg d=>?_;have l:=a.bg.drop 1 aa;rw [show s.bg.drop 1=r by rw [f]; rfl] at l;rw [show s.bg.length-1=r.length by omega] at d;refine .inl ⟨(x,{ s with bg:=r,ia:=_,ic:=s.ic-1 }),O,⟨?_,⟨l,a.ak,a.kk,a.out,a.aap⟩⟩,d⟩;unfold nM;rw [show s.pu.bg=x::r from f]
 rfl
end Go.Proofs.YtgeahfjicmlocaaGreatDoor.Mch
end
section
namespace Go.Proofs.YtgeahfjicmlocaaGreatDoor.Mch
open Go.Bw Go.Proofs.Tryz
def Tc:au prog 269 1=some 1:=ab
def qO:au prog 163 0=some 0:=ab
def L8:aJ prog 160=some 1:=ab
def Td:gX prog 269=some [(0,1),(1,1)]:=ab
def Te:zeroOf prog 269=some (.agg #[.slice none 0 0,.int .i64 0]):=ab
def vA:hf prog 160 269 (.agg #[.slice none 0 0,.int .i64 0]) 2 32:=jb ab
def Tf (b:Nat) (s:ah) (g:View)  (w:World) (c:s.r' g) (a:Ws w ((ah.own b s).flatMap aQ.ids) (ah.own b s) [g] w) :
   Calls prog 157 #[.pointer (some ⟨b,0,none⟩)] w λe j=>(∃r:Unit×ah,e = .returned (.tuple #[])/\(rK s.pu = .ok r.1 r.2.pu/\r.2.r' g)/\Ws w ((ah.own b s).flatMap aQ.ids) (ah.own b r.2) [g] j)\/(∃r:Int×ah,e = .panicked (ee r.1)/\rK s.pu = .ov r.1 r.2.pu/\Ws w ((ah.own b s).flatMap aQ.ids) (ah.own b r.2) [g] j):=by
 have A:s.stack.reverse.length=s.stack.length:=ai
 have t:s.cv.reverse.length=s.cv.length:=ai
 have B:=c.ak;have u:=c.kk;have C:=c.out;have D:=c.aap;refine enter func157 O 31 O O ?_;refine CE a<|ae<|ac O<|I (bw O)<|I (Yf sI O)<|I (Yd 0 O O O ab)<|I (Yn xo O)<|I (bz O O) ?_
 refine c' (ι:=Unit) (κ:=Unit) [] _ Y O aF O O (λ_=>.tuple #[]) (λ_=>[]) (λ_=>(((s.cv.reverse.length:Nat):Int)==1)=false) (λ_=>ee 6) (λ_=>[]) (λ_=>(((s.cv.reverse.length:Nat):Int)==1)=true) ([]) ai (λw a=>(nN _ 6 w).mono λe j h=>by
     rcases h with ⟨_,m,n,o⟩ | ⟨_,m,n,o⟩
     · exact .inl ⟨(),m,n,a.ext o⟩
     · exact .inr ⟨(),m,n,a.ext o⟩) ?_ ?_
 ·intro _ k;refine Ep ?_;refine bE λj a=>?_;refine .inr ⟨(6,s),O,?_,a⟩;rw [rK,ZZ (show s.pu.cv.length=1 by show (s.cv.map fv.pu).length=1; rw [t] at k; simp at k; simp; omega)]
 intro _ k;refine ad<|Cs ?_
 have x:¬s.cv.length=1:=by rw [t] at k; simp at k; omega
 obtain ⟨f,r,i⟩:∃f r,s.cv=f::r:=by
   cases h:s.cv with
   | nil=>rw [h] at u; simp at u
   | cons f r=>exact ⟨f,r,rfl⟩
 have z:s.cv.length=r.length+1:=by rw [i]; rfl
 refine WC.re 2 O aa λE F G H=>?_;refine Cr<|ac O<|ac O ?_;refine Lw (ι:=Nat) [_,_,_,_,_,_] _ Y O aF O O (λr=>.pointer<|some ⟨r,0+(s.cv.length-1)*2,none⟩) (λ_=>(ah.own b s)) (λr=>s.fa=some ⟨r,0,none⟩) [g] ai (λw a=>xp b s g w c a) ?_;intro J v;refine I (bw O)<|I (Yf Tc O) ?_;refine I (n4 (y:=f) 2 r.length 1 O O v (by rw [z]; simp) fv.cD (by rw [i,uO,nc ai]; simp) O ab) ?_;refine I (bw O)<|I (Yf qO O)<|aT 0 Y O O O dL O O O<|ad ?_;refine CU (λ_=>true) [] [14] (.q false 0<|.q false 1<|.q false 2<|.q false 3<|.q true 4<|.q false 5<|.q false 6<|.q false 7<|.q true 8<|.q false 9<|.q false 10<|.q false 11<|.q false 12<|.q false 13 .nil) mixed ab (λ_ _ _ d _ _ h=>by cases d<;>exact h) ?_;refine U0 O ay (Ym O)<|U0 O ay (Ym O)<|U0 O ay (bw O)<|U0 O ay (Yf sI O)<|U0 O ay (Yd 0 O O O ab)<|U0 O ay (Ym O)<|U0 O ay (bw O)<|U0 O ay (Yf sI O) ?_;refine U0 O ay (Yd 0 O O O ab)<|U0 O ay (Yn xo O)<|U0 O ay (py ((r.reverse.length:Nat):Int) O O (by simp; omega) (by simp; omega))<|U0 O ay (ZW r.reverse.length xo O (λp l=>by rw [v] at l; injection l with l; subst l; rfl) O O (by simp; omega))<|U0 O ay (bw O)<|U0 O ay (Yf sI O) ?_;refine WU.nil ay ?_;refine WS.e O ?_;refine aT 0 Y O O O L8 O O O ?_;refine WL.yE 2 r.reverse O fv.cD (by simp [i]) (by rw [i]; simp) ?_;refine Ln<|Es ?_;refine WS.nil ?_;refine E0 O λj a=>?_;have a:=Ws.dB (L:=[_,_,_,_,_,_]) a;rw [i] at a;have a:=a.P5 5 rfl;refine .inl ⟨((),{ s with at_:=f.back,cv:=r }),O,⟨?_,⟨c.bg,c.ak,⟨by show 1<=r.length; omega,by show r.length<=25; omega⟩,c.out,c.aap⟩⟩,a⟩;unfold rK;rw [ZX (show ¬s.pu.cv.length=1 by show ¬(s.cv.map fv.pu).length=1; simpa using x),show s.pu.cv=f.pu::r.map fv.pu by show s.cv.map fv.pu=_; rw [i]; rfl]
 rfl
def Tg (c:Nat) (s:ah) (f:View) (to:Int) (w:World) (i:s.r' f) (a:Ws w ((ah.own c s).flatMap aQ.ids) (ah.own c s) [f] w) :
   Calls prog 155 #[.pointer (some ⟨c,0,none⟩),.int .i64 to] w λe g=>(∃r:Unit×ah,e = .returned (.tuple #[])/\(dP to s.pu = .ok r.1 r.2.pu/\r.2.r' f)/\Ws w ((ah.own c s).flatMap aQ.ids) (ah.own c r.2) [f] g)\/(∃r:Int×ah,e = .panicked (ee r.1)/\dP to s.pu = .ov r.1 r.2.pu/\Ws w ((ah.own c s).flatMap aQ.ids) (ah.own c r.2) [f] g):=by
 have x:s.stack.reverse.length=s.stack.length:=ai
 have y:s.cv.reverse.length=s.cv.length:=ai
 have z:=i.ak;have A:=i.kk;have B:=i.out;have C:=i.aap;refine enter func155 O 31 O O ?_;refine CE a<|ae<|ac O ?_;refine c' (ι:=Unit×ah) (κ:=Int×ah) [_,_,_,_,_,_] _ Y O aF O O (λr=>.tuple #[]) (λr=>(ah.own c r.2)) (λr=>mF s.pu = .ok r.1 r.2.pu/\r.2.r' f) (λr=>ee r.1) (λr=>(ah.own c r.2)) (λr=>mF s.pu = .ov r.1 r.2.pu) ([f]) ai (λw a=>L7 c s f  w i a) ?_ ?_
 ·intro b l;refine Ep ?_;refine bE λg a=>?_;exact .inr ⟨b,O,by rw [dP,l]; rfl,a⟩
 intro b ⟨l,j⟩
 have p:b.2.cv.reverse.length=b.2.cv.length:=ai
 have D:=j.kk;refine ad<|ae<|ac O<|I (bw O)<|I (Yf sI O)<|I (Yd 0 O O O ab)<|I (Yn xo O)<|I (eh O O) ?_
 refine c' (ι:=Unit) (κ:=Unit) [] _ Y O aF O O (λ_=>.tuple #[]) (λ_=>[]) (λ_=>(decide<|24<((b.2.cv.reverse.length:Nat):Int))=false) (λ_=>ee 4) (λ_=>[]) (λ_=>(decide<|24<((b.2.cv.reverse.length:Nat):Int))=true) ([]) ai (λw a=>(nN _ 4 w).mono λe g h=>by
     rcases h with ⟨_,m,n,o⟩ | ⟨_,m,n,o⟩
     · exact .inl ⟨(),m,n,a.ext o⟩
     · exact .inr ⟨(),m,n,a.ext o⟩) ?_ ?_
 ·intro _ k;refine Ep ?_;refine bE λg a=>?_;refine .inr ⟨(4,b.2),O,?_,a⟩;rw [dP,l]
  show (if 24<b.2.pu.cv.length then _ else _)=_
  rw [ZZ (show 24<b.2.pu.cv.length by show 24<(b.2.cv.map fv.pu).length; rw [p] at k; simp at k; simp; omega)]
 intro _ k;refine ad<|Cs ?_
 have t:¬24<b.2.cv.length:=by rw [p] at k; simp at k; omega
 refine CU (λ_=>true) [2] [14] (.q false 0<|.q false 1<|.q false 2<|.q false 3<|.q true 4<|.q false 5<|.q false 6<|.q false 7<|.q true 8<|.q false 9<|.e 10 (.e 11 (.q false 12<|.q false 13 .nil) .stop) .stop) mixed ab (λ_ _ _ d _ _ h=>by cases d<;>exact h) ?_;refine U0 O (Wp 2) (Ym O)<|U0 O (Wp 2) (Ym O)<|U0 O (Wp 2) (bw O)<|U0 O (Wp 2) (Yf sI O)<|U0 O (Wp 2) (Yd 0 O O O ab)<|U0 O (Wp 2) (Ym O)<|U0 O (Wp 2) (bw O)<|U0 O (Wp 2) (Yf qO O) ?_;refine U0 O (Wp 2) (Yd 0 O O O ab)<|U0 O (Wp 2) (Yb Te Td O O) ?_;refine Ue O (Wp 2) ?_ WU.stop;refine Lb Y O vA O O O O λE=>?_;refine Ln<|Eu ?_;refine Ue O (λ_ h=>(Wo 2 (Wd 1 h):)) ?_ WU.stop;refine LA ⟨none,0,[],b.2.at_⟩ 3 0 Y O vA O O O O O O aa aa λu v=>?_;rw [show b.2.cv.reverse++[(⟨none,0,[],b.2.at_⟩:fv)]=((⟨none,0,[],b.2.at_⟩:fv)::b.2.cv).reverse by simp];refine Ln<|Eu<|U0 O (λ_ h=>(Wo 2 (Wd 1 h):)) (bw O)<|U0 O (λ_ h=>(Wo 2 (Wd 1 h):)) (Yf sI O) ?_;refine WU.nil (λ_ h=>(Wo 2 (Wd 1 h):)) ?_;refine WS.e O ?_;refine aT 1 Y O O O L8 O O O<|Ln<|Es ?_;refine WS.nil ?_;refine Et<|Cr<|ac O<|ac O<|I (bw O)<|I (Yf qO O)<|aT 1 Y O O O dL O O O<|Ln ?_;refine E0 O λg a=>?_;have a:=a.aj 6 rfl;have a:=a.aj 6 rfl;have a:=a.aj 6 rfl;have a:=a.aj 6 rfl;have a:=a.aj 6 rfl;have a:=a.aj 6 rfl;have a:=Ws.dB (L:=[_,_,_,_,_,_]) a;have a:=a.I5 5 rfl 3 1;refine .inl ⟨((),{ b.2 with at_:=to,cv:=⟨none,0,[],b.2.at_⟩::b.2.cv,fa:=u,fc:=v }),O,⟨?_,⟨j.bg,j.ak,⟨ai,by simp; omega⟩,j.out,j.aap⟩⟩,a⟩;rw [dP,l]
 show (if 24<b.2.pu.cv.length then _ else _)=_
 rw [ZX (show ¬24<b.2.pu.cv.length by show ¬24<(b.2.cv.map fv.pu).length; simpa using t)]
 rfl
end Go.Proofs.YtgeahfjicmlocaaGreatDoor.Mch
end
section
namespace Go.Proofs.YtgeahfjicmlocaaGreatDoor.Mch
open Go.Bw Go.Proofs.Tryz
def L9 (c:View) (b o:Nat) (x:Int) (h:jV c b o x):ar c b o (iv x):=λj v a=>by
 match j,a with
 | 0,a=>simp [iv] at a; subst a; exact h
 | j+1,a=>simp [iv] at a
def E1 (x:Int):(iv x).all (·.oneCell')=true:=rfl
def vB (a:View) (b o:Nat) (e:(Option Addr×Nat)×List Int):Prop:=vc a b o=some (.slice e.1.1 e.2.length e.1.2)/\Sl jV 1 a e.1.1 e.1.2 e.2
def bm (a:List ((Option Addr×Nat)×List Int)):Nat:=(a.map (·.2.length)).sum
def zp {a:List ((Option Addr×Nat)×List Int)} {i:Nat} {x:(Option Addr×Nat)×List Int} (h:a[i]? = some x):bm (a.take<|i+1)=bm (a.take i)+x.2.length:=by
 simp [bm,gV,h]
def zq (a:List ((Option Addr×Nat)×List Int)) (i:Nat):bm (a.take i)<=bm a:=by
 have e:bm a=bm (a.take i)+bm (a.drop i):=by
   unfold bm;rw [<-n8,<-qi,qg]
 omega
def zr (a:List ((Option Addr×Nat)×List Int)):(a.flatMap (·.2)).length=bm a:=by simp [bm,Ib]
def Gr (k:Nat):(madeCells (Value.int IntKind.i64 0).cells<|k*1)=((List.replicate k (0:Int)).flatMap iv).toArray:=by
 rw [Pz _ rfl]
 congr 1
 induction k with
 | zero=>rfl
 | succ k a=>simp only [AI,mM,iv]; rw [a]; rfl
def r_ (x y:fv) (r:List fv):(x::r).reverse.set r.length y=(y::r).reverse:=by simp [List.set_append]
def lw:prog.underlying 3=some (.int .i64):=ab
def vC:aat prog 178=some 1:=ab
def jR (f:View) (a:Option Addr) (c:Nat) (l:List Int) (w:World) (k:Le f w) (g:Sl jV 1 f a c l) (q:l.length*8<=140737488355328) :
   Calls prog 82 #[.slice a l.length c] w λe i=>∃r:Option Addr×Nat,e = .returned (.slice r.1 l.length r.2)/\Ext w i/\Sl jV 1 (nv w i) r.1 r.2 l:=by
 have s:=g.cap;have t:=g.max;refine enter func82 O 8 O O ?_;refine CE (Vs:=[f]) (Ws.init (by simp [k]))<|ae<|ag O<|ad<|Cs<|ae<|ac O<|I (pq e3 O)<|ad ?_;refine Cc O (λj=>?_)<|λj=>?_
 ·have m:l=[]:=by
    cases l with
    | nil=>rfl
    | cons x r=>obtain ⟨b,o,h,_⟩:=g.b5 0 x rfl; rw [h] at j; cases j
  refine ae<|ag O<|ad<|am<|Er ?_;refine R1 O O λi d=>?_;subst m;exact ⟨(none,0),O,d.fr,Sl.nil⟩
 refine bW<|ae ?_;refine WL.A4 Y O gm O O O λu=>?_;refine WL.yv (size:=1) 0 O (cQ 0) (di _) O ?_;refine WL.yz 0 ([]:List Int).length (([]:List Int).flatMap iv) O O O ?_;refine ac O ?_;refine WL.tu (ys:=l) (xs:=[]) 0 (λ_=>f) Y O gm O O O (λw d=>⟨d.vs f ai,g⟩) L9 h4 E1 (by simp; omega) (by simp; omega) λn p=>?_;refine ag O<|ad<|am ?_;refine R1 O O λi d=>?_;exact ⟨(n,p),O,d.fr,d.hW 0 O h4 pX⟩
def Th (m:Nat) (w:World) (k:m<=1048576) :
   Calls prog 273 #[.slice none 0 0,.int .i64 (m:Int)] w λe a=>∃r:Option Addr×Nat,e = .returned (.slice r.1 ([]:List Int).length r.2)/\Ws w [] [cC 3 1 iv r.1 r.2 ([]:List Int)] [] a:=by
 refine enter func273 O 27 O O ?_;refine CE (Vs:=[]) (Ws.init ai)<|ae<|ag O<|ad<|Cs<|ae<|ac O<|I (cI O O)<|ad ?_;refine Cc O (λc=>?_)<|λc=>?_
 ·exfalso
  simp at c;omega
 refine bW<|Cs<|ae<|ac O<|ac O<|I (Bo e3 O)<|ac O<|I (Yn e3 O)<|I (py 0 O O ai aa)<|I (py (m:Int) O O ai aa) ?_;refine ag O<|ad<|ae<|ac O<|I (eh O O)<|ad ?_;refine Cc O (λd=>?_)<|λd=>?_
 ·have g:0<m:=by simp at d; omega
  refine Cr<|ac O<|ac O<|I (Bo e3 O)<|I (ZW 0 e3 O ai O O<|di _)<|ac O ?_;refine WL.I6 m Y O gm lw O O g (by unfold maxLen; omega) aa λh f l n i j=>?_;refine WL.yv (m:=0) (cap:=f) (size:=1) 0 O (di _) i (by rw [j,tf]) ?_;refine WL.yz 0 ([]:List Int).length (([]:List Int).flatMap iv) O O ai ?_;refine ac O<|I (Yn e3 O)<|I (ZW ([]:List Int).length e3 O ai O O<|di _)<|ag O<|ad<|ae<|ac O<|ag O<|ad<|am ?_;refine R1 O O λa b=>?_;exact ⟨(some ⟨h,0,none⟩,f),O,b⟩
 refine bW<|ae<|ac O<|ag O<|ad<|am ?_;refine R1 O O λa b=>?_;exact ⟨(none,0),O,b.g4 3 1⟩
def se (f:View) (a:Option Addr) (c:Nat) (d:List ((Option Addr×Nat)×List Int)) (w:World) (z:Le f w) (k:Sl vB 1 f a c d) (A:bm d<=1048576) (H:d.length<=1048576) :
   Calls prog 234 #[.slice a d.length c] w λe m=>∃r:Option Addr×Nat,e = .returned (.slice r.1 (d.flatMap (·.2)).length r.2)/\Ws w [] [cC 3 1 iv r.1 r.2 (d.flatMap (·.2))] [f] m:=by
 have J:=k.cap;have K:=k.max;refine enter func234 O 36 O O ?_;refine CE (Vs:=[f]) (Ws.init (by simp [z]))<|ae<|ag O<|ad<|ae<|ag O<|ad<|Cs<|ae<|ac O<|I (Yn vC O) ?_;refine ac O<|ad<|Cb ?_;refine ql (ι:=Nat) (λi=>[(11,.int .i64 (i:Int)),(3,.int .i64 (bm (d.take i):Int))]) [(0,_),(2,_),(9,_),(10,_)] (λi=>i<=d.length) (λi=>d.length-i) 0 (di _) ?_;intro i hi;refine ae<|I (cI O O)<|ad<|Cs ?_;refine Cc O (λn=>?_)<|λn=>?_
 ·have o:i<d.length:=by simpa using n
  obtain ⟨x,h⟩:=cR o;obtain ⟨pb,B,p,q,t⟩:=k.b5 i x h;have u:=zp h;have C:=zq d (i+1);refine bW<|Cs<|Cb<|ae<|I (Yo vC O O p aa)<|I (eQ 0 ab O O<|q)<|ag O<|ad<|ae<|ac O<|ac O<|I (Yn e3 O) ?_;refine I (q_ (a:=bm (d.take i)) (b:=x.2.length) O O O O aa)<|ag O<|ad<|ae<|ac O<|I (cI O O)<|ad ?_;refine Cc O (λv=>?_)<|λv=>?_
  ·exfalso
   simp at v;omega
  refine Ck<|Eb<|Et<|Cr<|I (Yi O O O aa)<|ac O<|Ln ?_;rw [<-u];exact c8 (i+1) aa aa ay
 have l:i=d.length:=by simp at n; omega
 subst l;rw [gE];refine Ce<|Ex<|Ex<|dQ<|Et<|ae<|ac O ?_;refine Lw (ι:=Option Addr×Nat) [] _ Y O aF O O (λr=>.slice r.1 ([]:List Int).length r.2) (λr=>[cC 3 1 iv r.1 r.2 ([]:List Int)]) (λ_=>True) [] ai (λw j=>(Th (bm d) w A).mono λe m ⟨r,D,E⟩=>⟨r,D,trivial,E⟩) ?_;intro y _;refine ag O<|ad<|Cs<|ae<|ac O<|I (Yn vC O)<|ac O<|ad<|Cb ?_;refine ey (ι:=Nat×Option Addr×Nat) (λg=>[(27,.int .i64 (g.1:Int)),(6,.slice g.2.1 ((d.take g.1).flatMap (·.2)).length g.2.2)]) [(2,_),(25,_),(26,_)] (λg=>Ws w [] [cC 3 1 iv g.2.1 g.2.2 ((d.take g.1).flatMap (·.2))] [f]) (λg=>g.1<=d.length) (λg=>d.length-g.1) (0,y.1,y.2) (di _) ay ?_;intro g hi;refine ae<|I (cI O O)<|ad<|Cs ?_;refine Cc O (λs=>?_)<|λs=>?_
 ·have o:g.1<d.length:=by simpa using s
  obtain ⟨x,h⟩:=cR o;obtain ⟨pb,B,p,q,t⟩:=k.b5 g.1 x h;have u:=zp h;have C:=zq d (g.1+1);refine bW<|Cs<|Cb<|ae<|I (Yo vC O O p aa)<|I (eQ 0 ab O O<|q)<|ag O<|ad<|Cr<|ac O<|ac O ?_;refine WL.tu (xs:=(d.take g.1).flatMap (·.2)) (ys:=x.2) 0 (λ_=>f) Y O gm O O O (λw j=>⟨j.vs f ai,t⟩) L9 h4 E1 (by rw [zr]; omega) (by rw [zr]; omega) λF G=>?_;rw [show ((d.take g.1).flatMap (·.2))++x.2=(d.take<|g.1+1).flatMap (·.2) by rw [gV,h]; simp];refine ag O<|Ln<|Eb<|Et<|Cr<|I (Yi O O O aa)<|ac O<|Ln ?_;exact c8 ((g.1+1,F,G):Nat×Option Addr×Nat) (by first | omega | (dsimp only; omega)) (by first | omega | (dsimp only; omega)) ay
 have l:g.1=d.length:=by simp at s; omega
 refine Ce<|Ex<|Ex<|dQ<|Et<|ae<|ac O<|ag O<|ad<|am ?_;refine R1 O O λm j=>?_;rw [l,gE] at j;rw [l,gE];exact ⟨(g.2.1,g.2.2),O,j⟩
end Go.Proofs.YtgeahfjicmlocaaGreatDoor.Mch
end
section
namespace Go.Proofs.YtgeahfjicmlocaaGreatDoor.Mch
open Go.Bw Go.Proofs.Tryz
def sK:hf prog 178 29 (.slice none 0 0) 1 24:=jb ab
def zt:au prog 269 0=some 0:=ab
set_option maxHeartbeats 1000000 in
def Ti (n:Nat) (s:ah) (t:View) (a b:Int) (w:World) (k:s.r' t) (c:Ws w ((ah.own n s).flatMap aQ.ids) (ah.own n s) [t] w) :
   Calls prog 156 #[.pointer (some ⟨n,0,none⟩),.int .i64 a,.int .i64 b] w λe v=>(∃r:Unit×ah,e = .returned (.tuple #[])/\(dD a b s.pu = .ok r.1 r.2.pu/\r.2.r' t)/\Ws w ((ah.own n s).flatMap aQ.ids) (ah.own n r.2) [t] v)\/(∃r:Int×ah,e = .panicked (ee r.1)/\dD a b s.pu = .ov r.1 r.2.pu/\Ws w ((ah.own n s).flatMap aQ.ids) (ah.own n r.2) [t] v):=by
 have E:s.stack.reverse.length=s.stack.length:=ai
 have R:s.cv.reverse.length=s.cv.length:=ai
 have S:=k.ak;have N:=k.kk;have T:=k.out;have U:=k.aap;refine enter func156 O 63 O O ?_;refine CE c<|ae<|ac O<|I (cI O O)<|ac O ?_;apply Lo 2 O O O O Y O O O O O
 ·intro V;refine Vg (Ym O)<|Vg (cI O O) ?_;exact Gt 2 O O O
 refine ac O ?_;apply Lo 2 O O O O Y O O O O O
 ·intro W;refine Vg (Ym O)<|Vg (eh O O) ?_;exact Gt 2 O O O
 refine ac O ?_;apply Lo 4 O O O O Y O O O O O
 ·intro X;refine Vg (Ym O)<|Vg (Ym O)<|Vg (AU O O)<|Vg (eh O O) ?_;exact Gt 4 O O O
 refine ac O ?_;apply Lo 7 O O O O Y O O O O O
 ·intro Z;refine Vg (Ym O)<|Vg (Ym O)<|Vg (bw O)<|Vg (Yf l5 O)<|Vg (Yd 0 O O O ab)<|Vg (Yn e3 O)<|Vg (eh O O) ?_;exact Gt 7 O O O
 refine c' (ι:=Unit) (κ:=Unit) [] _ Y O aF O O (λ_=>.tuple #[]) (λ_=>[]) (λ_=>((((decide (a<0)||decide (b<0))||decide (2048<a))||decide (IntKind.i64.wrap (2048-a)<b))||decide (((s.stack.reverse.length:Nat):Int)<a))=false) (λ_=>ee 6) (λ_=>[]) (λ_=>((((decide (a<0)||decide (b<0))||decide (2048<a))||decide (IntKind.i64.wrap (2048-a)<b))||decide (((s.stack.reverse.length:Nat):Int)<a))=true) ([]) ai (λw c=>(nN _ 6 w).mono λe v h=>by
     rcases h with ⟨_,l,z,A⟩ | ⟨_,l,z,A⟩
     · exact .inl ⟨(),l,z,c.ext A⟩
     · exact .inr ⟨(),l,z,c.ext A⟩) ?_ ?_
 ·intro _ p;refine Ep ?_;refine bE λv c=>?_;rw [E] at p;exact .inr ⟨(6,s),O,by rw [dD,show s.pu.stack.length=s.stack.length from O,ZZ p],c⟩
 intro _ p;refine ad<|Cs ?_
 have af:0<=a/\0<=b/\a<=2048/\b<=2048-a/\a<=s.stack.length:=by
   rw [E] at p;simp only [i9,aad] at p;obtain ⟨⟨⟨⟨l,z⟩,A⟩,D⟩,al⟩:=p;rw [qk aa] at D;omega
 obtain ⟨f,r,m⟩:∃f r,s.cv=f::r:=by
   cases h:s.cv with
   | nil=>rw [h] at N; simp at N
   | cons f r=>exact ⟨f,r,rfl⟩
 have B:s.cv.length=r.length+1:=by rw [m]; rfl
 refine Cr<|ac O<|I (bw O)<|I (Yf l5 O)<|I (Yd 0 O O O ab)<|I (Yn e3 O)<|ac O<|I (py (((s.stack.length-a.toNat):Nat):Int) O O (by rw [E]; omega) aa) ?_;refine ag O<|ad<|Cs ?_;refine WC.P4 1 O λM Q am=>?_;refine CU (λ_=>true) [] [14] (.q false 0<|.q false 2<|.q false 3<|.q false 4<|.q true 5<|.q false 6<|.q false 7<|.q false 8<|.e 1 (.e 9 (.e 10 (.e 11 (.q false 12<|.q false 13 .nil) .stop) .stop) .stop)<|.e 9 (.e 1 (.e 10 (.e 11 (.q false 12<|.q false 13 .nil) .stop) .stop)<|.e 10 (.e 1 (.e 11 (.q false 12<|.q false 13 .nil) .stop) .stop) .stop) .stop) mixed ab (λ_ _ _ d _ _ h=>by cases d<;>exact h) ?_;refine U0 O ay (Ym O)<|U0 O ay (Ym O)<|U0 O ay (bw O)<|U0 O ay (Yf l5 O)<|U0 O ay (Yd 0 O O O ab)<|U0 O ay (Ym O)<|U0 O ay (yD (s.stack.length-a.toNat) e3 O O O aa Q)<|U0 O ay (Ym O) ?_;refine Ue O ay ?_ ?_
 ·refine Lw (ι:=Nat) [_,_,_,_,_,_] _ Y O aF O O (λr=>.pointer<|some ⟨r,0+(s.cv.length-1)*2,none⟩) (λ_=>(ah.own n s)) (λr=>s.fa=some ⟨r,0,none⟩) [t] ai (λw c=>xp n s t w k c) ?_;intro P F;refine Ln<|Eu ?_;refine Ue O ay ?_ WU.stop;refine WL.make Y O gm O O aa aa aa aa λo=>?_;refine dk 0 (.cells ((List.replicate b.toNat (0:Int)).flatMap iv).toArray 3 (0,0)) O (by rw [Gr])<|Ln<|Eu ?_;refine Ue O (λ_ h=>(Wd 1 h:)) ?_ WU.stop;refine Lb Y O sK O O O O λu=>?_;refine Ln<|Eu ?_;refine Ue O (λ_ h=>(Wd 2 h:)) ?_ WU.stop
  refine WL.yF (ι:=Option Addr×Nat) Y O aF O (λr=>.slice r.1 ((s.stack.take a.toNat).reverse++List.replicate b.toNat 0).length r.2) (λr=>[cC 3 1 iv r.1 r.2 (((s.stack.take a.toNat).reverse++List.replicate b.toNat 0))]) (λ_=>True) (λw c=>by
      have l:Sl jV 1 (hv w) s.sa s.sc s.stack.reverse:=c.Bf 3 rfl h4 pX;have l:=l.drop (s.stack.length-a.toNat) aa
      have z:Sl jV 1 (hv w) (some ⟨o,0,none⟩) b.toNat (List.replicate b.toNat (0:Int)):=⟨ai,aa,ai,λj x i=>⟨o,0,rfl,c.jd 1 rfl (by
        show ((List.replicate b.toNat (0:Int)).flatMap iv)[0+j*1]? = _
        have:=px h4 i (j:=0) a8;rw [lK];rw [tc] at this
        rw [this]; rfl)⟩⟩
      have G:(s.stack.reverse.drop<|s.stack.length-a.toNat).length=s.stack.reverse.length-(s.stack.length-a.toNat):=ai
      have H:(List.replicate b.toNat (0:Int)).length=b.toNat:=ai
      have J:Sl vB 1 (hv w) (some ⟨u,0,none⟩) 2 [((if s.sc-(s.stack.length-a.toNat)=0 then s.sa else s.sa.map (·.add<|(s.stack.length-a.toNat)*1),s.sc-(s.stack.length-a.toNat)),s.stack.reverse.drop (s.stack.length-a.toNat)),((some ⟨o,0,none⟩,b.toNat),List.replicate b.toNat (0:Int))]:=⟨ai,a8,ai,λj x i=>⟨u,0,rfl,by
        match j,i with
        | 0,i=>simp only [cm,aN] at i; subst i; exact ⟨by rw [G]; exact c.jd 0 rfl rfl,l⟩
        | 1,i=>simp only [lL,cm,aN] at i; subst i; exact ⟨by rw [H]; exact c.jd 0 rfl rfl,z⟩⟩⟩
      have B:[((if s.sc-(s.stack.length-a.toNat)=0 then s.sa else s.sa.map (·.add<|(s.stack.length-a.toNat)*1),s.sc-(s.stack.length-a.toNat)),s.stack.reverse.drop (s.stack.length-a.toNat)),((some (⟨o,0,none⟩:Addr),b.toNat),List.replicate b.toNat (0:Int))].flatMap (·.2)=((s.stack.take a.toNat).reverse++List.replicate b.toNat 0):=by
        simp only [mM,ot,wr];rw [Ec,show s.stack.length-(s.stack.length-a.toNat)=a.toNat by omega]
      have C:=se (hv w) (some ⟨u,0,none⟩) 2 _ w (jc w) J (by simp [bm]; omega) ai;rw [B] at C
      exact C.mono λe v ⟨r,A,D⟩=>⟨r,A,trivial,D.aB ai⟩) ?_
  intro g _;refine Ln<|Eu<|U0 O (λ_ h=>(Wd 3 h:)) (bw O)<|U0 O (λ_ h=>(Wd 3 h:)) (Yf zt O) ?_;refine WU.nil (λ_ h=>(Wd 3 h:)) ?_;refine WS.e O ?_;refine WL.storeT (y:=f) 5 r.length 0 ({ f with la:=g.1,lc:=g.2,loc:=((s.stack.take a.toNat).reverse++List.replicate b.toNat 0) }) Y O O O F (by rw [B]; simp) fv.cD (by rw [m,uO,nc ai]; simp) jW O O a8 O ?_;rw [show s.cv.reverse.set r.length { f with la:=g.1,lc:=g.2,loc:=((s.stack.take a.toNat).reverse++List.replicate b.toNat 0) }=({ f with la:=g.1,lc:=g.2,loc:=((s.stack.take a.toNat).reverse++List.replicate b.toNat 0) }::r).reverse by rw [m,r_]];refine Ln<|Es ?_;refine WS.nil ?_;refine Et<|Cr<|ac O<|ac O<|I (bw O)<|I (Yf l5 O)<|I (Yd 3 O O O ab)<|ac O<|I (ZW (s.stack.drop a.toNat).reverse.length e3 O M O ai (by simp; omega)) ?_;refine I (bw O)<|I (Yf l5 O)<|aT 3 Y O O O jW O O O ?_;refine WL.yE 4 (s.stack.drop a.toNat).reverse O h4 ai (by rw [oK]; congr 2; simp; omega) ?_;refine Ln ?_;refine E0 O λv c=>?_;have c:=c.aj 7 rfl;have c:=c.aj 7 rfl;have c:=c.aj 7 rfl;have c:=c.aj 7 rfl;have c:=c.aj 7 rfl;have c:=c.aj 5 rfl;have c:=c.aj 8 rfl;have c:=Ws.dB (L:=[_,_,_,_,_,_,_]) c;rw [m] at c;have c:=c.wK;have c:=Wd 1 c;have c:=c.aj 1 rfl;have c:=c.wL;have c:=c.aj 5 rfl;have c:=c.aj 5 rfl;have c:=c.aj 5 rfl;have c:=c.aj 5 rfl;have c:=c.aj 5 rfl;have c:=Ws.dB (L:=[_,_,_,_,_,_]) c
  have K:mc s.obj (0+3) (aZ<|.slice s.sa (s.stack.drop a.toNat).reverse.length s.sc)=ah.obj { s with stack:=s.stack.drop a.toNat,cv:={ f with la:=g.1,lc:=g.2,loc:=((s.stack.take a.toNat).reverse++List.replicate b.toNat 0) }::r }:=by
    unfold ah.obj;rw [show s.cv.reverse.length=({ f with la:=g.1,lc:=g.2,loc:=((s.stack.take a.toNat).reverse++List.replicate b.toNat 0) }::r).reverse.length by simp [m]]
    rfl
  rw [K] at c;refine .inl ⟨((),{ s with stack:=s.stack.drop a.toNat,cv:={ f with la:=g.1,lc:=g.2,loc:=((s.stack.take a.toNat).reverse++List.replicate b.toNat 0) }::r }),O,⟨?_,⟨k.bg,by show (s.stack.drop a.toNat).length<=2048; simp; omega,by show 1<=(r.length+1)/\r.length+1<=25; omega,k.out,k.aap⟩⟩,c⟩;rw [E] at p;unfold dD;rw [ZX (by rw [show s.pu.stack.length=s.stack.length from rfl,p]; simp),show s.pu.cv=f.pu::r.map fv.pu by show s.cv.map fv.pu=_; rw [m]; rfl]
  rfl
 refine Ue O ay ?_ WU.stop;refine WL.make Y O gm O O aa aa aa aa λo=>?_;refine dk 0 (.cells ((List.replicate b.toNat (0:Int)).flatMap iv).toArray 3 (0,0)) O (by rw [Gr])<|Ln<|Eu ?_;refine Ue O (λ_ h=>(Wd 1 h:)) ?_ ?_
 ·refine Lf 6 O<|Lf 6 O<|Lf 6 O<|Lf 6 O<|Lf 6 O<|Lf 6 O ?_;refine Lw (ι:=Nat) [_,_,_,_,_,_] _ Y O aF O O (λr=>.pointer<|some ⟨r,0+(s.cv.length-1)*2,none⟩) (λ_=>(ah.own n s)) (λr=>s.fa=some ⟨r,0,none⟩) [t] ai (λw c=>xp n s t w k c) ?_;intro P F;refine Ln<|Eu ?_;refine Ue O (λ_ h=>(Wt 6 h:)) ?_ WU.stop;refine Lb Y O sK O O O O λu=>?_;refine Ln<|Eu ?_;refine Ue O (λ_ h=>by exact (Wt 6 ((((((h.f 6 O).f 6 O).f 6 O).f 6 O).f 6 O).f 6 O):)) ?_ WU.stop
  refine WL.yF (ι:=Option Addr×Nat) Y O aF O (λr=>.slice r.1 ((s.stack.take a.toNat).reverse++List.replicate b.toNat 0).length r.2) (λr=>[cC 3 1 iv r.1 r.2 (((s.stack.take a.toNat).reverse++List.replicate b.toNat 0))]) (λ_=>True) (λw c=>by
      have l:Sl jV 1 (hv w) s.sa s.sc s.stack.reverse:=c.Bf 2 rfl h4 pX;have l:=l.drop (s.stack.length-a.toNat) aa
      have z:Sl jV 1 (hv w) (some ⟨o,0,none⟩) b.toNat (List.replicate b.toNat (0:Int)):=⟨ai,aa,ai,λj x i=>⟨o,0,rfl,c.jd 7 rfl (by
        show ((List.replicate b.toNat (0:Int)).flatMap iv)[0+j*1]? = _
        have:=px h4 i (j:=0) a8;rw [lK];rw [tc] at this
        rw [this]; rfl)⟩⟩
      have G:(s.stack.reverse.drop<|s.stack.length-a.toNat).length=s.stack.reverse.length-(s.stack.length-a.toNat):=ai
      have H:(List.replicate b.toNat (0:Int)).length=b.toNat:=ai
      have J:Sl vB 1 (hv w) (some ⟨u,0,none⟩) 2 [((if s.sc-(s.stack.length-a.toNat)=0 then s.sa else s.sa.map (·.add<|(s.stack.length-a.toNat)*1),s.sc-(s.stack.length-a.toNat)),s.stack.reverse.drop (s.stack.length-a.toNat)),((some ⟨o,0,none⟩,b.toNat),List.replicate b.toNat (0:Int))]:=⟨ai,a8,ai,λj x i=>⟨u,0,rfl,by
        match j,i with
        | 0,i=>simp only [cm,aN] at i; subst i; exact ⟨by rw [G]; exact c.jd 0 rfl rfl,l⟩
        | 1,i=>simp only [lL,cm,aN] at i; subst i; exact ⟨by rw [H]; exact c.jd 0 rfl rfl,z⟩⟩⟩
      have B:[((if s.sc-(s.stack.length-a.toNat)=0 then s.sa else s.sa.map (·.add<|(s.stack.length-a.toNat)*1),s.sc-(s.stack.length-a.toNat)),s.stack.reverse.drop (s.stack.length-a.toNat)),((some (⟨o,0,none⟩:Addr),b.toNat),List.replicate b.toNat (0:Int))].flatMap (·.2)=((s.stack.take a.toNat).reverse++List.replicate b.toNat 0):=by
        simp only [mM,ot,wr];rw [Ec,show s.stack.length-(s.stack.length-a.toNat)=a.toNat by omega]
      have C:=se (hv w) (some ⟨u,0,none⟩) 2 _ w (jc w) J (by simp [bm]; omega) ai;rw [B] at C
      exact C.mono λe v ⟨r,A,D⟩=>⟨r,A,trivial,D.aB ai⟩) ?_
  intro g _;refine Ln<|Eu<|U0 O (λ_ h=>by exact (Wt 6 ((((((h.f 7 O).f 7 O).f 7 O).f 7 O).f 7 O).f 7 O):)) (bw O)<|U0 O (λ_ h=>by exact (Wt 6 ((((((h.f 7 O).f 7 O).f 7 O).f 7 O).f 7 O).f 7 O):)) (Yf zt O) ?_;refine WU.nil (λ_ h=>by exact (Wt 6 ((((((h.f 7 O).f 7 O).f 7 O).f 7 O).f 7 O).f 7 O):)) ?_;refine WS.e O ?_;refine WL.storeT (y:=f) 4 r.length 0 ({ f with la:=g.1,lc:=g.2,loc:=((s.stack.take a.toNat).reverse++List.replicate b.toNat 0) }) Y O O O F (by rw [B]; simp) fv.cD (by rw [m,uO,nc ai]; simp) jW O O a8 O ?_;rw [show s.cv.reverse.set r.length { f with la:=g.1,lc:=g.2,loc:=((s.stack.take a.toNat).reverse++List.replicate b.toNat 0) }=({ f with la:=g.1,lc:=g.2,loc:=((s.stack.take a.toNat).reverse++List.replicate b.toNat 0) }::r).reverse by rw [m,r_]];refine Ln<|Es ?_;refine WS.nil ?_;refine Et<|Cr<|ac O<|ac O<|I (bw O)<|I (Yf l5 O)<|I (Yd 2 O O O ab)<|ac O<|I (ZW (s.stack.drop a.toNat).reverse.length e3 O M O ai (by simp; omega)) ?_;refine I (bw O)<|I (Yf l5 O)<|aT 2 Y O O O jW O O O ?_;refine WL.yE 3 (s.stack.drop a.toNat).reverse O h4 ai (by rw [oK]; congr 2; simp; omega) ?_;refine Ln ?_;refine E0 O λv c=>?_;have c:=c.aj 6 rfl;have c:=c.aj 6 rfl;have c:=c.aj 6 rfl;have c:=c.aj 6 rfl;have c:=c.aj 6 rfl;have c:=c.aj 5 rfl;have c:=c.aj 7 rfl;have c:=Ws.dB (L:=[_,_,_,_,_,_,_]) c;rw [m] at c;have c:=c.wK;have c:=Wd 1 c;have c:=c.aj 1 rfl;have c:=c.wL;have c:=c.aj 5 rfl;have c:=c.aj 5 rfl;have c:=c.aj 5 rfl;have c:=c.aj 5 rfl;have c:=c.aj 5 rfl;have c:=Ws.dB (L:=[_,_,_,_,_,_]) c
  have K:mc s.obj (0+3) (aZ<|.slice s.sa (s.stack.drop a.toNat).reverse.length s.sc)=ah.obj { s with stack:=s.stack.drop a.toNat,cv:={ f with la:=g.1,lc:=g.2,loc:=((s.stack.take a.toNat).reverse++List.replicate b.toNat 0) }::r }:=by
    unfold ah.obj;rw [show s.cv.reverse.length=({ f with la:=g.1,lc:=g.2,loc:=((s.stack.take a.toNat).reverse++List.replicate b.toNat 0) }::r).reverse.length by simp [m]]
    rfl
  rw [K] at c;refine .inl ⟨((),{ s with stack:=s.stack.drop a.toNat,cv:={ f with la:=g.1,lc:=g.2,loc:=((s.stack.take a.toNat).reverse++List.replicate b.toNat 0) }::r }),O,⟨?_,⟨k.bg,by show (s.stack.drop a.toNat).length<=2048; simp; omega,by show 1<=(r.length+1)/\r.length+1<=25; omega,k.out,k.aap⟩⟩,c⟩;rw [E] at p;unfold dD;rw [ZX (by rw [show s.pu.stack.length=s.stack.length from rfl,p]; simp),show s.pu.cv=f.pu::r.map fv.pu by show s.cv.map fv.pu=_; rw [m]; rfl]
  rfl
 refine Ue O (λ_ h=>(Wd 1 h:)) ?_ WU.stop;refine Lb Y O sK O O O O λu=>?_;refine Ln<|Eu ?_;refine Ue O (λ_ h=>(Wd 2 h:)) ?_ WU.stop;refine Lf 7 O<|Lf 7 O<|Lf 7 O<|Lf 7 O<|Lf 7 O<|Lf 7 O ?_;refine Lw (ι:=Nat) [_,_,_,_,_,_] _ Y O aF O O (λr=>.pointer<|some ⟨r,0+(s.cv.length-1)*2,none⟩) (λ_=>(ah.own n s)) (λr=>s.fa=some ⟨r,0,none⟩) [t] ai (λw c=>xp n s t w k c) ?_;intro P F;refine Ln<|Eu ?_;refine Ue O (λ_ h=>(Wt 6 h:)) ?_ WU.stop
 refine WL.yF (ι:=Option Addr×Nat) Y O aF O (λr=>.slice r.1 ((s.stack.take a.toNat).reverse++List.replicate b.toNat 0).length r.2) (λr=>[cC 3 1 iv r.1 r.2 (((s.stack.take a.toNat).reverse++List.replicate b.toNat 0))]) (λ_=>True) (λw c=>by
     have l:Sl jV 1 (hv w) s.sa s.sc s.stack.reverse:=c.Bf 1 rfl h4 pX;have l:=l.drop (s.stack.length-a.toNat) aa
     have z:Sl jV 1 (hv w) (some ⟨o,0,none⟩) b.toNat (List.replicate b.toNat (0:Int)):=⟨ai,aa,ai,λj x i=>⟨o,0,rfl,c.jd 7 rfl (by
       show ((List.replicate b.toNat (0:Int)).flatMap iv)[0+j*1]? = _
       have:=px h4 i (j:=0) a8;rw [lK];rw [tc] at this
       rw [this]; rfl)⟩⟩
     have G:(s.stack.reverse.drop<|s.stack.length-a.toNat).length=s.stack.reverse.length-(s.stack.length-a.toNat):=ai
     have H:(List.replicate b.toNat (0:Int)).length=b.toNat:=ai
     have J:Sl vB 1 (hv w) (some ⟨u,0,none⟩) 2 [((if s.sc-(s.stack.length-a.toNat)=0 then s.sa else s.sa.map (·.add<|(s.stack.length-a.toNat)*1),s.sc-(s.stack.length-a.toNat)),s.stack.reverse.drop (s.stack.length-a.toNat)),((some ⟨o,0,none⟩,b.toNat),List.replicate b.toNat (0:Int))]:=⟨ai,a8,ai,λj x i=>⟨u,0,rfl,by
       match j,i with
       | 0,i=>simp only [cm,aN] at i; subst i; exact ⟨by rw [G]; exact c.jd 6 rfl rfl,l⟩
       | 1,i=>simp only [lL,cm,aN] at i; subst i; exact ⟨by rw [H]; exact c.jd 6 rfl rfl,z⟩⟩⟩
     have B:[((if s.sc-(s.stack.length-a.toNat)=0 then s.sa else s.sa.map (·.add<|(s.stack.length-a.toNat)*1),s.sc-(s.stack.length-a.toNat)),s.stack.reverse.drop (s.stack.length-a.toNat)),((some (⟨o,0,none⟩:Addr),b.toNat),List.replicate b.toNat (0:Int))].flatMap (·.2)=((s.stack.take a.toNat).reverse++List.replicate b.toNat 0):=by
       simp only [mM,ot,wr];rw [Ec,show s.stack.length-(s.stack.length-a.toNat)=a.toNat by omega]
     have C:=se (hv w) (some ⟨u,0,none⟩) 2 _ w (jc w) J (by simp [bm]; omega) ai;rw [B] at C
     exact C.mono λe v ⟨r,A,D⟩=>⟨r,A,trivial,D.aB ai⟩) ?_
 intro g _;refine Ln<|Eu<|U0 O (λ_ h=>by exact (Wt 6 ((((((h.f 6 O).f 6 O).f 6 O).f 6 O).f 6 O).f 6 O):)) (bw O)<|U0 O (λ_ h=>by exact (Wt 6 ((((((h.f 6 O).f 6 O).f 6 O).f 6 O).f 6 O).f 6 O):)) (Yf zt O) ?_;refine WU.nil (λ_ h=>by exact (Wt 6 ((((((h.f 6 O).f 6 O).f 6 O).f 6 O).f 6 O).f 6 O):)) ?_;refine WS.e O ?_;refine WL.storeT (y:=f) 3 r.length 0 ({ f with la:=g.1,lc:=g.2,loc:=((s.stack.take a.toNat).reverse++List.replicate b.toNat 0) }) Y O O O F (by rw [B]; simp) fv.cD (by rw [m,uO,nc ai]; simp) jW O O a8 O ?_;rw [show s.cv.reverse.set r.length { f with la:=g.1,lc:=g.2,loc:=((s.stack.take a.toNat).reverse++List.replicate b.toNat 0) }=({ f with la:=g.1,lc:=g.2,loc:=((s.stack.take a.toNat).reverse++List.replicate b.toNat 0) }::r).reverse by rw [m,r_]];refine Ln<|Es ?_;refine WS.nil ?_;refine Et<|Cr<|ac O<|ac O<|I (bw O)<|I (Yf l5 O)<|I (Yd 1 O O O ab)<|ac O<|I (ZW (s.stack.drop a.toNat).reverse.length e3 O M O ai (by simp; omega)) ?_;refine I (bw O)<|I (Yf l5 O)<|aT 1 Y O O O jW O O O ?_;refine WL.yE 2 (s.stack.drop a.toNat).reverse O h4 ai (by rw [oK]; congr 2; simp; omega) ?_;refine Ln ?_;refine E0 O λv c=>?_;have c:=c.aj 6 rfl;have c:=Ws.dB (L:=[_,_,_,_,_,_,_]) c;rw [m] at c;have c:=c.wK;have c:=Wd 1 c;have c:=c.aj 1 rfl;have c:=c.wL;have c:=c.aj 5 rfl;have c:=c.aj 5 rfl;have c:=c.aj 5 rfl;have c:=c.aj 5 rfl;have c:=c.aj 5 rfl;have c:=Ws.dB (L:=[_,_,_,_,_,_]) c
 have K:mc s.obj (0+3) (aZ<|.slice s.sa (s.stack.drop a.toNat).reverse.length s.sc)=ah.obj { s with stack:=s.stack.drop a.toNat,cv:={ f with la:=g.1,lc:=g.2,loc:=((s.stack.take a.toNat).reverse++List.replicate b.toNat 0) }::r }:=by
   unfold ah.obj;rw [show s.cv.reverse.length=({ f with la:=g.1,lc:=g.2,loc:=((s.stack.take a.toNat).reverse++List.replicate b.toNat 0) }::r).reverse.length by simp [m]]
   rfl
 rw [K] at c;refine .inl ⟨((),{ s with stack:=s.stack.drop a.toNat,cv:={ f with la:=g.1,lc:=g.2,loc:=((s.stack.take a.toNat).reverse++List.replicate b.toNat 0) }::r }),O,⟨?_,⟨k.bg,by show (s.stack.drop a.toNat).length<=2048; simp; omega,by show 1<=(r.length+1)/\r.length+1<=25; omega,k.out,k.aap⟩⟩,c⟩;rw [E] at p;unfold dD;rw [ZX (by rw [show s.pu.stack.length=s.stack.length from rfl,p]; simp),show s.pu.cv=f.pu::r.map fv.pu by show s.cv.map fv.pu=_; rw [m]; rfl]
 rfl
end Go.Proofs.YtgeahfjicmlocaaGreatDoor.Mch
end
section
namespace Go.Proofs.YtgeahfjicmlocaaGreatDoor.Mch
open Go.Bw Go.Proofs.Tryz
abbrev ah.aV (s:ah):ah:={ s with at_:=IntKind.i64.wrap (s.at_+1) }
def Pm.aV (m:Pm):Pm:={ m with at_:=IntKind.i64.wrap (m.at_+1) }
variable {an:View} {sH:ah}
def ah.r'.at (h:sH.r' an) (a:Int):ah.r' an { sH with at_:=a }:=⟨h.bg,h.ak,h.kk,h.out,h.aap⟩
def aaE (m:Pm):List Int:=match m.cv with | []=>[] | f::_=>f.1
def mL (m:Pm) (k:Nat) (n:Int):Pm:={ m with cv:=match m.cv with | []=>[] | f::r=>(f.1.set k n,f.2)::r }
def cX (i:eP) (m:Pm):Rz Unit:=
 if (i.op==1)=true then eY i.a m
 else if (i.op==2)=true then (if aI i.a (aaE m).length=true then .ov 6 m else eY ((aaE m)[i.a.toNat]?.getD 0) m)
 else if (i.op==3)=true then (cB m).bind λn m=>if aI i.a (aaE m).length=true then .ov 6 m else .ok () (mL m i.a.toNat n)
 else if (i.op==4)=true then (if aI i.a m.data.length=true then .ov 6 m else eY (m.data[i.a.toNat]?.getD 0) m)
 else if (i.op==5)=true then (cB m).bind λn m=>if aI i.a m.data.length=true then .ov 6 m else .ok () { m with data:=m.data.set i.a.toNat n }
 else if (i.op==6)=true then (cB m).bind λn m=>if (decide (n<0)||decide (i.b<=n))=true then .ov 2 m else eY (IntKind.i64.wrap<|i.a+n) m
 else if (i.op==7)=true then (cB m).bind λn m=>if aI n m.data.length=true then .ov 6 m else eY (m.data[n.toNat]?.getD 0) m
 else if (i.op==8)=true then (cB m).bind λn m=>(cB m).bind λk m=>if aI k m.data.length=true then .ov 6 m else .ok () { m with data:=m.data.set k.toNat n }
 else if (i.op==9)=true then (cB m).bind λn m=>eY (mE<|n==0) m
 else if (i.op==22)=true then (cB m).bind λn m=>eY (mE<|n != 0) m
 else if (i.op==10)=true then k5 i.a m
 else if (i.op==11)=true then .ok () { m with at_:=i.a }
 else if (i.op==12)=true then (cB m).bind λn m=>if (n==0)=true then .ok () { m with at_:=i.a } else .ok () m
 else if (i.op==13)=true then dP i.a m
 else if (i.op==14)=true then dD i.a i.b m
 else if (i.op==15)=true then rK m
 else if (i.op==16)=true then mF m
 else if (i.op==17)=true then (cB m).bind λ_ m=>.ok () m
 else if (i.op==18)=true then eY (nM m).1 (nM m).2
 else if (i.op==19)=true then (cB m).bind λn m=>if m.out.length=200 then .ov 5 m else .ok () { m with out:=m.out++[n] }
 else if (i.op==20)=true then .ov 0 m
 else .ok () m
def aah (i:eP) (m:Pm):Rz Unit:=cX i m.aV
variable {sX:fv} {mG:List fv}
def Tj {s:ah}   (a:s.cv=sX::mG) (k:Nat) (n:Int):s.obj=ah.obj { s with cv:={ sX with loc:=sX.loc.set k n }::mG }/\cC 269 2 fv.cells s.fa s.fc s.cv.reverse=cC 269 2 fv.cells s.fa s.fc ({ sX with loc:=sX.loc.set k n }::mG).reverse:=by
 constructor
 · simp [ah.obj,a]
 · simp [a,fv.cells,cC]
def Gu (s:ah) (k:Nat) (n:Int):s.obj=ah.obj { s with data:=s.data.set k n }:=by simp [ah.obj]
def zu {s:ah} {f:fv}  (a:s.cv=f::mG):aaE s.pu=f.loc:=by
 show (match s.cv.map fv.pu with | []=>[] | f::_=>f.1)=_
 rw [a]; rfl
def Nl {s:ah} {f:fv} {r:List fv} (a:s.cv=f::r) (k:Nat) (n:Int):mL s.pu k n=ah.pu { s with cv:={ f with loc:=f.loc.set k n }::r }:=by
 show ({ s.pu with cv:=match s.cv.map fv.pu with | []=>[] | f::r=>(f.1.set k n,f.2)::r }:Pm)=_
 rw [a]; rfl
def L_ (h:sH.r' an):∃f r,sH.cv=f::r:=by
 have:=h.kk.1
 cases a:sH.cv with
 | nil=>rw [a] at this; simp at this
 | cons f r=>exact ⟨f,r,rfl⟩
def Ma (a:sH.cv=sX::mG):sH.cv.reverse[sH.cv.length-1]? = some sX:=by
 rw [a,uO,nc ai]; simp
def rL {i:Int} {n:Nat} (h:aI i n=false):0<=i/\i.toNat<n:=by
 unfold aI at h;simp at h;omega
def m4:au prog 62 1=some 1:=ab
def eq:au prog 64 2=some 2:=ab
def Gv:au prog 62 2=some 2:=ab
def sM:au prog 64 1=some 1:=ab
set_option maxHeartbeats 4000000 in
def Tl (g:Nat) (s:ah) (j:View) (i:eP) (w:World) (aH:s.r' j) (c:Ws w ((ah.own g s).flatMap aQ.ids) (ah.own g s) [j] w) :
   Calls prog 85 #[.pointer (some ⟨g,0,none⟩),.agg #[.int .i64 i.op,.int .i64 i.a,.int .i64 i.b]] w λe k=>(∃r:Unit×ah,e = .returned (.tuple #[])/\(aah i s.pu = .ok r.1 r.2.pu/\r.2.r' j)/\Ws w ((ah.own g s).flatMap aQ.ids) (ah.own g r.2) [j] k)\/(∃r:Int×ah,e = .panicked (ee r.1)/\aah i s.pu = .ov r.1 r.2.pu/\Ws w ((ah.own g s).flatMap aQ.ids) (ah.own g r.2) [j] k):=by
 have co:s.stack.reverse.length=s.stack.length:=ai
 have cp:s.cv.reverse.length=s.cv.length:=ai
 have cq:=aH.ak;have cr:=aH.kk;have cs:=aH.out;have a1:=aH.aap;refine enter func85 O 225 O O ?_;refine CE c<|ae ?_;refine WL.box Y O O λcu=>?_;refine ad<|ae<|ac O<|I (bw O)<|I (Yf qO O)<|I (Yd 1 O O O ab)<|I (r3 O O)<|I (bw O)<|I (Yf qO O) ?_;refine aT 1 Y O O O dL O O O<|dk 1 (ah.obj<|ah.aV s) O O ?_;have D:ah.r' j (ah.aV s):=aH.at _;refine ad<|ae<|I (Yf vz O)<|I (Yd 0 O O O ab)<|ad<|Cb<|ae<|I (bz O O)<|ag O<|ad ?_;refine Cc O (λl=>?_)<|λl=>?_
 ·refine Cr<|ac O<|I (Yf m4 O)<|I (Yd 0 O O O ab)<|Lf 6 O<|Lf 6 O<|Lf 6 O<|Lf 6 O ?_;refine Lf 6 O<|Lf 6 O ?_;refine c' (ι:=Unit×ah) (κ:=Int×ah) [_,_,_,_,_,_] _ Y O aF O O (λr=>.tuple #[]) (λr=>(ah.own g r.2)) (λr=>eY i.a (ah.aV s).pu = .ok r.1 r.2.pu/\r.2.r' j) (λr=>ee r.1) (λr=>(ah.own g r.2)) (λr=>eY i.a (ah.aV s).pu = .ov r.1 r.2.pu) ([j]) ai (λw c=>pY g (ah.aV s) j i.a w D c) ?_ ?_
  ·intro a2 a3;refine WE.bS ?_;refine bE λk c=>?_;have c:=Ws.dB (L:=[_,_,_,_,_,_]) c;refine .inr ⟨a2,O,?_,c⟩;unfold aah cX;rw [show s.pu.aV=(ah.aV s).pu from rfl];simp only [l,dV,Z9,Z'];exact a3
  intro a2 ⟨a3,bQ⟩;refine Ln<|Eb ?_;refine E0 O λk c=>?_;have c:=Ws.dB (L:=[_,_,_,_,_,_]) c;refine .inl ⟨((),a2.2),O,⟨?_,bQ⟩,c⟩;unfold aah cX;rw [show s.pu.aV=(ah.aV s).pu from rfl];simp only [l,dV,Z9,Z'];exact a3
 refine ae<|I (bz O O)<|ag O<|ad ?_;refine Cc O (λm=>?_)<|λm=>?_
 ·obtain ⟨f,r,U⟩:=L_ D;refine WC.fact (p:=0<f.loc.length->∃b o,f.la=some ⟨b,o,none⟩) (λw c X=>I7 (As:=(ah.aV s).cv.map fv.own) c 6 O (by rw [U]; exact km) X) λa4=>?_;have a5:=Ma U;refine CU (λ_=>true) [] [11] (.q false 0<|.q false 1<|.q false 6<|.q true 7<|.e 2 (.q false 3<|.q false 4<|.q true 5<|.e 8 (.q false 9<|.q true 10 .nil) .stop) .stop) mixed ab (λ_ _ _ d _ _ h=>by cases d<;>exact h) ?_;refine U0 O ay (Ym O)<|U0 O ay (Ym O)<|U0 O ay (Yf m4 O)<|U0 O ay (Yd 0 O O O ab) ?_;refine Ue O ay ?_ WU.stop;refine Lf 6 O<|Lf 6 O<|Lf 6 O<|Lf 6 O<|Lf 6 O<|Lf 6 O ?_;refine Lw (ι:=Nat) [_,_,_,_,_,_] _ Y O aF O O (λr=>.pointer<|some ⟨r,0+((ah.aV s).cv.length-1)*2,none⟩) (λ_=>(ah.own g<|ah.aV s)) (λr=>(ah.aV s).fa=some ⟨r,0,none⟩) [j] ai (λw c=>xp g (ah.aV s) j w D c) ?_;intro cw bR;refine Ln<|Eu<|U0 O (λ_ h=>(h.f 6 O:)) (bw O)<|U0 O (λ_ h=>(h.f 6 O:)) (Yf zt O)<|U0 O (λ_ h=>(h.f 6 O:)) (n4 (y:=f) 3 (s.cv.length-1) 0 O O bR O fv.cD a5 O ab) ?_;refine Ue O (λ_ h=>(h.f 6 O:)) ?_ WU.stop
  refine c' (ι:=Nat×Nat) (κ:=Unit) [] _ Y O aF O O (λr=>.pointer<|some ⟨r.1,r.2+(i.a).toNat*1,none⟩) (λ_=>[]) (λr=>aI (i.a) (f.loc.length)=false/\f.la=some ⟨r.1,r.2,none⟩) (λ_=>ee 6) (λ_=>[]) (λ_=>aI (i.a) (f.loc.length)=true) ([]) ai (λw c=>(aaD f.la _ (f.loc.length) (i.a) w a4).mono λe k h=>by
      rcases h with ⟨r,A,B,C⟩ | ⟨_,A,B,C⟩
      · exact .inl ⟨r,A,B,c.ext C⟩
      · exact .inr ⟨(),A,B,c.ext C⟩) ?_ ?_
  ·intro _ aJ;refine Ep<|WE.bS ?_;refine bE λk c=>?_;have c:=Ws.dB (L:=[_,_,_,_,_,_]) c;refine .inr ⟨(6,(ah.aV s)),O,?_,c⟩;unfold aah cX;rw [show s.pu.aV=(ah.aV s).pu from rfl];simp only [l,m,dV,Z9,Z'];rw [zu (s:=(ah.aV s)) U,ZZ aJ]
  intro cx ⟨aJ,bT⟩;obtain ⟨aM,a6⟩:∃x,f.loc[i.a.toNat]? = some x:=⟨_,c6 (rL aJ).2⟩;refine Ln<|Eu<|U0 O (λ_ h=>(h.f 6 O:)) (bw O)<|U0 O (λ_ h=>(h.f 6 O:)) (P7 (xs:=f.loc) (y:=aM) 6 i.a.toNat 0 O O (by rw [U]; exact km) bT O h4 a6 O ab) ?_;refine WU.nil (λ_ h=>(h.f 6 O:)) ?_;refine WS.e O ?_;refine c' (ι:=Unit×ah) (κ:=Int×ah) [_,_,_,_,_,_] _ Y O aF O O (λr=>.tuple #[]) (λr=>(ah.own g r.2)) (λr=>eY aM (ah.aV s).pu = .ok r.1 r.2.pu/\r.2.r' j) (λr=>ee r.1) (λr=>(ah.own g r.2)) (λr=>eY aM (ah.aV s).pu = .ov r.1 r.2.pu) ([j]) ai (λw c=>pY g (ah.aV s) j aM w D c) ?_ ?_
  ·intro a7 a9;refine Ep<|WE.bS ?_;refine bE λk c=>?_;have c:=Ws.dB (L:=[_,_,_,_,_,_]) c;refine .inr ⟨a7,O,?_,c⟩;unfold aah cX;rw [show s.pu.aV=(ah.aV s).pu from rfl];simp only [l,m,dV,Z9,Z'];rw [zu (s:=(ah.aV s)) U,aJ,ZX ai,a6];exact a9
  intro a7 ⟨a9,bU⟩;refine Ln<|Es ?_;refine WS.nil ?_;refine Eb ?_;refine E0 O λk c=>?_;have c:=Ws.dB (L:=[_,_,_,_,_,_]) c;refine .inl ⟨((),a7.2),O,⟨?_,bU⟩,c⟩;unfold aah cX;rw [show s.pu.aV=(ah.aV s).pu from rfl];simp only [l,m,dV,Z9,Z'];rw [zu (s:=(ah.aV s)) U,aJ,ZX ai,a6];exact a9
 refine ae<|I (bz O O)<|ag O<|ad ?_;refine Cc O (λn=>?_)<|λn=>?_
 ·refine ae<|ac O<|Lf 6 O<|Lf 6 O<|Lf 6 O<|Lf 6 O<|Lf 6 O<|Lf 6 O ?_;refine c' (ι:=Int×List Int) (κ:=Int×ah) [_,_,_,_,_,_] _ Y O aF O O (λr=>.int .i64 r.1) (λr=>(ah.own g<|ah.bZ (ah.aV s) r.2)) (λr=>cB (ah.aV s).pu = .ok r.1 (ah.bZ (ah.aV s) r.2).pu/\(ah.bZ (ah.aV s) r.2).r' j) (λr=>ee r.1) (λr=>(ah.own g r.2)) (λr=>cB (ah.aV s).pu = .ov r.1 r.2.pu) ([j]) ai (λw c=>nO g (ah.aV s) j w D c) ?_ ?_
  ·intro Q aN;refine Ep<|WE.bS ?_;refine bE λk c=>?_;have c:=Ws.dB (L:=[_,_,_,_,_,_]) c;refine .inr ⟨Q,O,?_,c⟩;unfold aah cX;rw [show s.pu.aV=(ah.aV s).pu from rfl];simp only [l,m,n,dV,Z9,Z'];rw [aN]
   rfl
  intro Q ⟨aN,a'⟩;refine ag O<|ad ?_;obtain ⟨f,r,U⟩:=L_ a';refine WC.fact (p:=0<f.loc.length->∃b o,f.la=some ⟨b,o,none⟩) (λw c X=>I7 (As:=(ah.bZ (ah.aV s) Q.2).cv.map fv.own) c 5 O (by rw [U]; exact km) X) λa4=>?_;have a5:=Ma U;refine CU (λ_=>true) [] [10] (.q false 0<|.q false 5<|.q true 6<|.q false 8<|.e 1 (.q false 2<|.q false 3<|.q true 4<|.e 7 (.q false 9 .nil) .stop) .stop) mixed ab (λ_ _ _ d _ _ h=>by cases d<;>exact h) ?_;refine U0 O ay (Ym O)<|U0 O ay (Yf m4 O)<|U0 O ay (Yd 6 O O O ab)<|U0 O ay (Ym O) ?_;refine Ue O ay ?_ WU.stop;refine Lw (ι:=Nat) [_,_,_,_,_,_] _ Y O aF O O (λr=>.pointer<|some ⟨r,0+((ah.bZ (ah.aV s) Q.2).cv.length-1)*2,none⟩) (λ_=>(ah.own g<|ah.bZ (ah.aV s) Q.2)) (λr=>(ah.bZ (ah.aV s) Q.2).fa=some ⟨r,0,none⟩) [j] ai (λw c=>xp g (ah.bZ (ah.aV s) Q.2) j w a' c) ?_;intro cy bV;refine Ln<|Eu<|U0 O ay (bw O)<|U0 O ay (Yf zt O)<|U0 O ay (n4 (y:=f) 2 (s.cv.length-1) 0 O O bV O fv.cD a5 O ab) ?_;refine Ue O ay ?_ WU.stop
  refine c' (ι:=Nat×Nat) (κ:=Unit) [] _ Y O aF O O (λr=>.pointer<|some ⟨r.1,r.2+(i.a).toNat*1,none⟩) (λ_=>[]) (λr=>aI (i.a) (f.loc.length)=false/\f.la=some ⟨r.1,r.2,none⟩) (λ_=>ee 6) (λ_=>[]) (λ_=>aI (i.a) (f.loc.length)=true) ([]) ai (λw c=>(aaD f.la _ (f.loc.length) (i.a) w a4).mono λe k h=>by
      rcases h with ⟨r,A,B,C⟩ | ⟨_,A,B,C⟩
      · exact .inl ⟨r,A,B,c.ext C⟩
      · exact .inr ⟨(),A,B,c.ext C⟩) ?_ ?_
  ·intro _ aO;refine Ep<|WE.bS ?_;refine bE λk c=>?_;have c:=Ws.dB (L:=[_,_,_,_,_,_]) c;refine .inr ⟨(6,(ah.bZ (ah.aV s) Q.2)),O,?_,c⟩;unfold aah cX;rw [show s.pu.aV=(ah.aV s).pu from rfl];simp only [l,m,n,dV,Z9,Z'];rw [aN]
   show (if aI i.a (aaE (ah.bZ (ah.aV s) Q.2).pu).length=true then _ else _)=_
   rw [zu (s:=(ah.bZ (ah.aV s) Q.2)) U,ZZ aO]
  intro cz ⟨aO,bW⟩;obtain ⟨bX,bY⟩:∃x,f.loc[i.a.toNat]? = some x:=⟨_,c6 (rL aO).2⟩;refine Ln<|Eu<|U0 O ay (bw O) ?_;refine WU.nil ay ?_;refine WS.e O ?_;refine WL.nn (A':=fZ (fv.own f::r.map fv.own)) 5 O (by rw [U]; rfl) ?_;refine Lf 5 O ?_;refine WL.I3 ?_;refine WL.storeT (y:=bX) 0 i.a.toNat 0 Q.1 Y O O O bW O h4 bY dL O O a8 O ?_;refine WL.I4 ?_;refine Ln<|Es ?_;refine WS.nil ?_;refine Eb ?_;refine E0 O λk c=>?_;have c:=c.aj 5 rfl;have c:=c.aj 5 rfl;have c:=c.aj 5 rfl;have c:=c.aj 5 rfl;have c:=c.aj 5 rfl;have c:=Ws.dB (L:=[_,_,_,_,_,_]) c;have e:=Tj (s:=(ah.bZ (ah.aV s) Q.2)) U i.a.toNat Q.1;have c:=c.nn 0 rfl (congrArg (aq g) e.1);have c:=c.nn 2 rfl e.2;refine .inl ⟨((),{ (ah.bZ (ah.aV s) Q.2) with cv:={ f with loc:=f.loc.set i.a.toNat Q.1 }::r }),O,⟨?_,⟨D.bg,a'.ak,by have:=D.kk; rw [show ((ah.aV s)).cv=f::r from U] at this; exact this,D.out,D.aap⟩⟩,c⟩;unfold aah cX;rw [show s.pu.aV=(ah.aV s).pu from rfl];simp only [l,m,n,dV,Z9,Z'];rw [aN]
  show (if aI i.a (aaE (ah.bZ (ah.aV s) Q.2).pu).length=true then _ else _)=_
  rw [zu (s:=(ah.bZ (ah.aV s) Q.2)) U,aO,ZX ai]
  show Rz.ok () (mL (ah.bZ (ah.aV s) Q.2).pu i.a.toNat Q.1)=_
  rw [Nl (s:=(ah.bZ (ah.aV s) Q.2)) U]
 refine ae<|I (bz O O)<|ag O<|ad ?_;refine Cc O (λt=>?_)<|λt=>?_
 ·refine WC.fact (p:=0<s.data.length->∃b o,s.da=some ⟨b,o,none⟩) (λw c X=>Bp c 5 O X) λam=>?_;refine CU (λ_=>true) [] [11] (.q false 0<|.q false 1<|.q false 2<|.q false 3<|.q false 4<|.q true 5<|.q false 6<|.q true 7<|.e 8 (.q false 9<|.q true 10 .nil) .stop) mixed ab (λ_ _ _ d _ _ h=>by cases d<;>exact h) ?_;refine U0 O ay (Ym O)<|U0 O ay (Ym O)<|U0 O ay (bw O)<|U0 O ay (Yf pf O)<|U0 O ay (Yf eq O)<|U0 O ay (Yd 1 O O O ab)<|U0 O ay (Yf m4 O)<|U0 O ay (Yd 0 O O O ab) ?_;refine Ue O ay ?_ WU.stop
  refine c' (ι:=Nat×Nat) (κ:=Unit) [] _ Y O aF O O (λr=>.pointer<|some ⟨r.1,r.2+(i.a).toNat*1,none⟩) (λ_=>[]) (λr=>aI (i.a) (s.data.length)=false/\s.da=some ⟨r.1,r.2,none⟩) (λ_=>ee 6) (λ_=>[]) (λ_=>aI (i.a) (s.data.length)=true) ([]) ai (λw c=>(aaD s.da _ (s.data.length) (i.a) w am).mono λe k h=>by
      rcases h with ⟨r,A,B,C⟩ | ⟨_,A,B,C⟩
      · exact .inl ⟨r,A,B,c.ext C⟩
      · exact .inr ⟨(),A,B,c.ext C⟩) ?_ ?_
  ·intro _ aK;refine Ep<|WE.bS ?_;refine bE λk c=>?_;have c:=c.aj 6 rfl;have c:=c.aj 6 rfl;have c:=c.aj 6 rfl;have c:=c.aj 6 rfl;have c:=c.aj 6 rfl;have c:=c.aj 6 rfl;have c:=Ws.dB (L:=[_,_,_,_,_,_]) c;refine .inr ⟨(6,(ah.aV s)),O,?_,c⟩;unfold aah cX;rw [show s.pu.aV=(ah.aV s).pu from rfl];simp only [l,m,n,t,dV,Z9,Z']
   show (if aI i.a s.data.length=true then _ else _)=_
   rw [ZZ aK]
  intro cA ⟨aK,b0⟩;obtain ⟨aP,a_⟩:∃x,s.data[i.a.toNat]? = some x:=⟨_,c6 (rL aK).2⟩;refine Ln<|Eu<|U0 O ay (bw O)<|U0 O ay (n4 (y:=aP) 5 i.a.toNat 0 O O b0 O h4 a_ O ab) ?_;refine WU.nil ay ?_;refine WS.e O ?_;refine Lf 6 O<|Lf 6 O<|Lf 6 O<|Lf 6 O<|Lf 6 O<|Lf 6 O ?_;refine c' (ι:=Unit×ah) (κ:=Int×ah) [_,_,_,_,_,_] _ Y O aF O O (λr=>.tuple #[]) (λr=>(ah.own g r.2)) (λr=>eY aP (ah.aV s).pu = .ok r.1 r.2.pu/\r.2.r' j) (λr=>ee r.1) (λr=>(ah.own g r.2)) (λr=>eY aP (ah.aV s).pu = .ov r.1 r.2.pu) ([j]) ai (λw c=>pY g (ah.aV s) j aP w D c) ?_ ?_
  ·intro ba bb;refine Ep<|WE.bS ?_;refine bE λk c=>?_;have c:=Ws.dB (L:=[_,_,_,_,_,_]) c;refine .inr ⟨ba,O,?_,c⟩;unfold aah cX;rw [show s.pu.aV=(ah.aV s).pu from rfl];simp only [l,m,n,t,dV,Z9,Z']
   show (if aI i.a s.data.length=true then _ else _)=_
   rw [aK,ZX ai]
   show eY (s.data[i.a.toNat]?.getD 0) _=_
   rw [a_];exact bb
  intro ba ⟨bb,b1⟩;refine Ln<|Es ?_;refine WS.nil ?_;refine Eb ?_;refine E0 O λk c=>?_;have c:=Ws.dB (L:=[_,_,_,_,_,_]) c;refine .inl ⟨((),ba.2),O,⟨?_,b1⟩,c⟩;unfold aah cX;rw [show s.pu.aV=(ah.aV s).pu from rfl];simp only [l,m,n,t,dV,Z9,Z']
  show (if aI i.a s.data.length=true then _ else _)=_
  rw [aK,ZX ai]
  show eY (s.data[i.a.toNat]?.getD 0) _=_
  rw [a_];exact bb
 refine ae<|I (bz O O)<|ag O<|ad ?_;refine Cc O (λu=>?_)<|λu=>?_
 ·refine ae<|ac O<|Lf 6 O<|Lf 6 O<|Lf 6 O<|Lf 6 O<|Lf 6 O<|Lf 6 O ?_;refine c' (ι:=Int×List Int) (κ:=Int×ah) [_,_,_,_,_,_] _ Y O aF O O (λr=>.int .i64 r.1) (λr=>(ah.own g<|ah.bZ (ah.aV s) r.2)) (λr=>cB (ah.aV s).pu = .ok r.1 (ah.bZ (ah.aV s) r.2).pu/\(ah.bZ (ah.aV s) r.2).r' j) (λr=>ee r.1) (λr=>(ah.own g r.2)) (λr=>cB (ah.aV s).pu = .ov r.1 r.2.pu) ([j]) ai (λw c=>nO g (ah.aV s) j w D c) ?_ ?_
  ·intro an aR;refine Ep<|WE.bS ?_;refine bE λk c=>?_;have c:=Ws.dB (L:=[_,_,_,_,_,_]) c;refine .inr ⟨an,O,?_,c⟩;unfold aah cX;rw [show s.pu.aV=(ah.aV s).pu from rfl];simp only [l,m,n,t,u,dV,Z9,Z'];rw [aR]
   rfl
  intro an ⟨aR,b2⟩;refine ag O<|ad ?_;refine WC.fact (p:=0<s.data.length->∃b o,s.da=some ⟨b,o,none⟩) (λw c X=>Bp c 4 O X) λam=>?_;refine CU (λ_=>true) [] [10] (.q false 0<|.q false 1<|.q false 2<|.q false 3<|.q true 4<|.q false 5<|.q true 6<|.q false 8<|.e 7 (.q false 9 .nil) .stop) mixed ab (λ_ _ _ d _ _ h=>by cases d<;>exact h) ?_;refine U0 O ay (Ym O)<|U0 O ay (bw O)<|U0 O ay (Yf pf O)<|U0 O ay (Yf eq O)<|U0 O ay (Yd 0 O O O ab)<|U0 O ay (Yf m4 O)<|U0 O ay (Yd 6 O O O ab)<|U0 O ay (Ym O) ?_;refine Ue O ay ?_ WU.stop
  refine c' (ι:=Nat×Nat) (κ:=Unit) [] _ Y O aF O O (λr=>.pointer<|some ⟨r.1,r.2+(i.a).toNat*1,none⟩) (λ_=>[]) (λr=>aI (i.a) (s.data.length)=false/\s.da=some ⟨r.1,r.2,none⟩) (λ_=>ee 6) (λ_=>[]) (λ_=>aI (i.a) (s.data.length)=true) ([]) ai (λw c=>(aaD s.da _ (s.data.length) (i.a) w am).mono λe k h=>by
      rcases h with ⟨r,A,B,C⟩ | ⟨_,A,B,C⟩
      · exact .inl ⟨r,A,B,c.ext C⟩
      · exact .inr ⟨(),A,B,c.ext C⟩) ?_ ?_
  ·intro _ aS;refine Ep<|WE.bS ?_;refine bE λk c=>?_;have c:=Ws.dB (L:=[_,_,_,_,_,_]) c;refine .inr ⟨(6,(ah.bZ (ah.aV s) an.2)),O,?_,c⟩;unfold aah cX;rw [show s.pu.aV=(ah.aV s).pu from rfl];simp only [l,m,n,t,u,dV,Z9,Z'];rw [aR]
   show (if aI i.a s.data.length=true then _ else _)=_
   rw [ZZ aS]
  intro cC ⟨aS,b3⟩;obtain ⟨b4,b5⟩:∃x,s.data[i.a.toNat]? = some x:=⟨_,c6 (rL aS).2⟩;refine Ln<|Eu<|U0 O ay (bw O) ?_;refine WU.nil ay ?_;refine WS.e O ?_;refine WL.storeT (y:=b4) 4 i.a.toNat 0 an.1 Y O O O b3 O h4 b5 dL O O a8 O ?_;refine Ln<|Es ?_;refine WS.nil ?_;refine Eb ?_;refine E0 O λk c=>?_;have c:=Ws.dB (L:=[_,_,_,_,_,_]) c;have c:=c.nn 0 rfl (congrArg (aq g)<|Gu (ah.bZ (ah.aV s) an.2) i.a.toNat an.1);refine .inl ⟨((),{ (ah.bZ (ah.aV s) an.2) with data:=s.data.set i.a.toNat an.1 }),O,⟨?_,⟨D.bg,b2.ak,D.kk,D.out,by show (s.data.set i.a.toNat an.1).length<=512; simp; exact a1⟩⟩,c⟩;unfold aah cX;rw [show s.pu.aV=(ah.aV s).pu from rfl];simp only [l,m,n,t,u,dV,Z9,Z'];rw [aR]
  show (if aI i.a s.data.length=true then _ else _)=_
  rw [aS,ZX ai]
  rfl
 refine ae<|I (bz O O)<|ag O<|ad ?_;refine Cc O (λv=>?_)<|λv=>?_
 ·refine ae<|ac O<|Lf 6 O<|Lf 6 O<|Lf 6 O<|Lf 6 O<|Lf 6 O<|Lf 6 O ?_;refine c' (ι:=Int×List Int) (κ:=Int×ah) [_,_,_,_,_,_] _ Y O aF O O (λr=>.int .i64 r.1) (λr=>(ah.own g<|ah.bZ (ah.aV s) r.2)) (λr=>cB (ah.aV s).pu = .ok r.1 (ah.bZ (ah.aV s) r.2).pu/\(ah.bZ (ah.aV s) r.2).r' j) (λr=>ee r.1) (λr=>(ah.own g r.2)) (λr=>cB (ah.aV s).pu = .ov r.1 r.2.pu) ([j]) ai (λw c=>nO g (ah.aV s) j w D c) ?_ ?_
  ·intro R aL;refine Ep<|WE.bS ?_;refine bE λk c=>?_;have c:=Ws.dB (L:=[_,_,_,_,_,_]) c;refine .inr ⟨R,O,?_,c⟩;unfold aah cX;rw [show s.pu.aV=(ah.aV s).pu from rfl];simp only [l,m,n,t,u,v,dV,Z9,Z'];rw [aL]
   rfl
  intro R ⟨aL,b6⟩;refine ag O<|ad<|ae<|ac O<|I (cI O O)<|ac O ?_;apply Lo 4 O O O O Y O O O O O
  ·intro cE;refine Vg (Ym O)<|Vg (Yf Gv O)<|Vg (Yd 6 O O O ab)<|Vg (hS O O) ?_;exact Gt 4 O O O
  refine c' (ι:=Unit) (κ:=Unit) [] _ Y O aF O O (λ_=>.tuple #[]) (λ_=>[]) (λ_=>(decide (R.1<0)||decide (i.b<=R.1))=false) (λ_=>ee 2) (λ_=>[]) (λ_=>(decide (R.1<0)||decide (i.b<=R.1))=true) ([]) ai (λw c=>(nN _ 2 w).mono λe k h=>by
      rcases h with ⟨_,A,B,C⟩ | ⟨_,A,B,C⟩
      · exact .inl ⟨(),A,B,c.ext C⟩
      · exact .inr ⟨(),A,B,c.ext C⟩) ?_ ?_
  ·intro _ aU;refine Ep<|WE.bS ?_;refine bE λk c=>?_;have c:=Ws.dB (L:=[_,_,_,_,_,_]) c;refine .inr ⟨(2,(ah.bZ (ah.aV s) R.2)),O,?_,c⟩;unfold aah cX;rw [show s.pu.aV=(ah.aV s).pu from rfl];simp only [l,m,n,t,u,v,dV,Z9,Z'];rw [aL]
   show (if (decide (R.1<0)||decide (i.b<=R.1))=true then _ else _)=_
   rw [ZZ aU]
  intro _ aU;refine ad<|Cr<|ac O<|I (Yf m4 O)<|I (Yd 6 O O O ab)<|ac O<|I (r3 O O) ?_;refine c' (ι:=Unit×ah) (κ:=Int×ah) [_,_,_,_,_,_] _ Y O aF O O (λr=>.tuple #[]) (λr=>(ah.own g r.2)) (λr=>eY (IntKind.i64.wrap<|i.a+R.1) (ah.bZ (ah.aV s) R.2).pu = .ok r.1 r.2.pu/\r.2.r' j) (λr=>ee r.1) (λr=>(ah.own g r.2)) (λr=>eY (IntKind.i64.wrap<|i.a+R.1) (ah.bZ (ah.aV s) R.2).pu = .ov r.1 r.2.pu) ([j]) ai (λw c=>pY g (ah.bZ (ah.aV s) R.2) j (IntKind.i64.wrap<|i.a+R.1) w b6 c) ?_ ?_
  ·intro bc bd;refine WE.bS ?_;refine bE λk c=>?_;have c:=Ws.dB (L:=[_,_,_,_,_,_]) c;refine .inr ⟨bc,O,?_,c⟩;unfold aah cX;rw [show s.pu.aV=(ah.aV s).pu from rfl];simp only [l,m,n,t,u,v,dV,Z9,Z'];rw [aL]
   show (if (decide (R.1<0)||decide (i.b<=R.1))=true then _ else _)=_
   rw [aU,ZX ai];exact bd
  intro bc ⟨bd,b7⟩;refine Ln<|Eb ?_;refine E0 O λk c=>?_;have c:=Ws.dB (L:=[_,_,_,_,_,_]) c;refine .inl ⟨((),bc.2),O,⟨?_,b7⟩,c⟩;unfold aah cX;rw [show s.pu.aV=(ah.aV s).pu from rfl];simp only [l,m,n,t,u,v,dV,Z9,Z'];rw [aL]
  show (if (decide (R.1<0)||decide (i.b<=R.1))=true then _ else _)=_
  rw [aU,ZX ai];exact bd
 refine ae<|I (bz O O)<|ag O<|ad ?_;refine Cc O (λz=>?_)<|λz=>?_
 ·refine WC.fact (p:=0<s.data.length->∃b o,s.da=some ⟨b,o,none⟩) (λw c X=>Bp c 5 O X) λam=>?_;refine CU (λ_=>true) [1,1] [11] (.q false 0<|.q false 1<|.q false 2<|.q false 3<|.q false 4<|.q false 6<|.e 5 (.e 7 (.e 8 (.q false 9<|.q true 10 .nil) .stop) .stop)<|.e 7 (.e 5 (.e 8 (.q false 9<|.q true 10 .nil) .stop) .stop) .stop) mixed ab (λ_ _ _ d _ _ h=>by cases d<;>exact h) ?_;refine U0 O (ct [1,1]) (Ym O)<|U0 O (ct [1,1]) (Ym O)<|U0 O (ct [1,1]) (bw O)<|U0 O (ct [1,1]) (Yf pf O)<|U0 O (ct [1,1]) (Yf eq O)<|U0 O (ct [1,1]) (Ym O) ?_;refine Ue O (ct [1,1]) ?_ ?_
  ·refine I (Yd 1 O O O ab)<|Ln<|Eu ?_;refine Ue O (ct [1,1]) ?_ WU.stop;refine Lf 6 O<|Lf 6 O<|Lf 6 O<|Lf 6 O<|Lf 6 O<|Lf 6 O ?_;refine c' (ι:=Int×List Int) (κ:=Int×ah) [_,_,_,_,_,_] _ Y O aF O O (λr=>.int .i64 r.1) (λr=>(ah.own g<|ah.bZ (ah.aV s) r.2)) (λr=>cB (ah.aV s).pu = .ok r.1 (ah.bZ (ah.aV s) r.2).pu/\(ah.bZ (ah.aV s) r.2).r' j) (λr=>ee r.1) (λr=>(ah.own g r.2)) (λr=>cB (ah.aV s).pu = .ov r.1 r.2.pu) ([j]) ai (λw c=>nO g (ah.aV s) j w D c) ?_ ?_
   ·intro F Z;refine Ep<|WE.bS ?_;refine bE λk c=>?_;have c:=Ws.dB (L:=[_,_,_,_,_,_]) c;refine .inr ⟨F,O,?_,c⟩;unfold aah cX;rw [show s.pu.aV=(ah.aV s).pu from rfl];simp only [l,m,n,t,u,v,z,dV,Z9,Z'];rw [Z]
    rfl
   intro F ⟨Z,be⟩;refine Ln<|Eu ?_;refine Ue O (λ_ h=>(Wo 1 (Wo 1<|h.f 6 O):)) ?_ WU.stop
   refine c' (ι:=Nat×Nat) (κ:=Unit) [] _ Y O aF O O (λr=>.pointer<|some ⟨r.1,r.2+(F.1).toNat*1,none⟩) (λ_=>[]) (λr=>aI (F.1) (s.data.length)=false/\s.da=some ⟨r.1,r.2,none⟩) (λ_=>ee 6) (λ_=>[]) (λ_=>aI (F.1) (s.data.length)=true) ([]) ai (λw c=>(aaD s.da _ (s.data.length) (F.1) w am).mono λe k h=>by
       rcases h with ⟨r,A,B,C⟩ | ⟨_,A,B,C⟩
       · exact .inl ⟨r,A,B,c.ext C⟩
       · exact .inr ⟨(),A,B,c.ext C⟩) ?_ ?_
   ·intro _ af;refine Ep<|WE.bS ?_;refine bE λk c=>?_;have c:=Ws.dB (L:=[_,_,_,_,_,_]) c;refine .inr ⟨(6,(ah.bZ (ah.aV s) F.2)),O,?_,c⟩;unfold aah cX;rw [show s.pu.aV=(ah.aV s).pu from rfl];simp only [l,m,n,t,u,v,z,dV,Z9,Z'];rw [Z]
    show (if aI F.1 s.data.length=true then _ else _)=_
    rw [ZZ af]
   intro b8 ⟨af,bf⟩;obtain ⟨ao,az⟩:∃x,s.data[F.1.toNat]? = some x:=⟨_,c6 (rL af).2⟩;refine Ln<|Eu<|U0 O (λ_ h=>(Wo 1 (Wo 1<|h.f 6 O):)) (bw O)<|U0 O (λ_ h=>(Wo 1 (Wo 1<|h.f 6 O):)) (n4 (y:=ao) 3 F.1.toNat 0 O O bf O h4 az O ab) ?_;refine WU.nil (λ_ h=>(Wo 1 (Wo 1<|h.f 6 O):)) ?_;refine WS.e O ?_;refine c' (ι:=Unit×ah) (κ:=Int×ah) [_,_,_,_,_,_] _ Y O aF O O (λr=>.tuple #[]) (λr=>(ah.own g r.2)) (λr=>eY ao (ah.bZ (ah.aV s) F.2).pu = .ok r.1 r.2.pu/\r.2.r' j) (λr=>ee r.1) (λr=>(ah.own g r.2)) (λr=>eY ao (ah.bZ (ah.aV s) F.2).pu = .ov r.1 r.2.pu) ([j]) ai (λw c=>pY g (ah.bZ (ah.aV s) F.2) j ao w be c) ?_ ?_
   ·intro aA aB;refine Ep<|WE.bS ?_;refine bE λk c=>?_;have c:=Ws.dB (L:=[_,_,_,_,_,_]) c;refine .inr ⟨aA,O,?_,c⟩;unfold aah cX;rw [show s.pu.aV=(ah.aV s).pu from rfl];simp only [l,m,n,t,u,v,z,dV,Z9,Z'];rw [Z]
    show (if aI F.1 s.data.length=true then _ else _)=_
    rw [af,ZX ai]
    show eY (s.data[F.1.toNat]?.getD 0) _=_
    rw [az];exact aB
   intro aA ⟨aB,bh⟩;refine Ln<|Es ?_;refine WS.nil ?_;refine Eb ?_;refine E0 O λk c=>?_;have c:=Ws.dB (L:=[_,_,_,_,_,_]) c;refine .inl ⟨((),aA.2),O,⟨?_,bh⟩,c⟩;unfold aah cX;rw [show s.pu.aV=(ah.aV s).pu from rfl];simp only [l,m,n,t,u,v,z,dV,Z9,Z'];rw [Z]
   show (if aI F.1 s.data.length=true then _ else _)=_
   rw [af,ZX ai]
   show eY (s.data[F.1.toNat]?.getD 0) _=_
   rw [az];exact aB
  refine Ue O (ct [1,1]) ?_ WU.stop;refine Lf 6 O<|Lf 6 O<|Lf 6 O<|Lf 6 O<|Lf 6 O<|Lf 6 O ?_;refine c' (ι:=Int×List Int) (κ:=Int×ah) [_,_,_,_,_,_] _ Y O aF O O (λr=>.int .i64 r.1) (λr=>(ah.own g<|ah.bZ (ah.aV s) r.2)) (λr=>cB (ah.aV s).pu = .ok r.1 (ah.bZ (ah.aV s) r.2).pu/\(ah.bZ (ah.aV s) r.2).r' j) (λr=>ee r.1) (λr=>(ah.own g r.2)) (λr=>cB (ah.aV s).pu = .ov r.1 r.2.pu) ([j]) ai (λw c=>nO g (ah.aV s) j w D c) ?_ ?_
  ·intro F Z;refine Ep<|WE.bS ?_;refine bE λk c=>?_;have c:=Ws.dB (L:=[_,_,_,_,_,_]) c;refine .inr ⟨F,O,?_,c⟩;unfold aah cX;rw [show s.pu.aV=(ah.aV s).pu from rfl];simp only [l,m,n,t,u,v,z,dV,Z9,Z'];rw [Z]
   rfl
  intro F ⟨Z,be⟩;refine Ln<|Eu ?_;refine Ue O (λ_ h=>(Wo 1 (Wo 1<|h.f 6 O):)) ?_ WU.stop;refine I (Yd 0 O O O ab)<|Ln<|Eu ?_;refine Ue O (λ_ h=>(Wo 1 (Wo 1<|h.f 6 O):)) ?_ WU.stop
  refine c' (ι:=Nat×Nat) (κ:=Unit) [] _ Y O aF O O (λr=>.pointer<|some ⟨r.1,r.2+(F.1).toNat*1,none⟩) (λ_=>[]) (λr=>aI (F.1) (s.data.length)=false/\s.da=some ⟨r.1,r.2,none⟩) (λ_=>ee 6) (λ_=>[]) (λ_=>aI (F.1) (s.data.length)=true) ([]) ai (λw c=>(aaD s.da _ (s.data.length) (F.1) w am).mono λe k h=>by
      rcases h with ⟨r,A,B,C⟩ | ⟨_,A,B,C⟩
      · exact .inl ⟨r,A,B,c.ext C⟩
      · exact .inr ⟨(),A,B,c.ext C⟩) ?_ ?_
  ·intro _ af;refine Ep<|WE.bS ?_;refine bE λk c=>?_;have c:=Ws.dB (L:=[_,_,_,_,_,_]) c;refine .inr ⟨(6,(ah.bZ (ah.aV s) F.2)),O,?_,c⟩;unfold aah cX;rw [show s.pu.aV=(ah.aV s).pu from rfl];simp only [l,m,n,t,u,v,z,dV,Z9,Z'];rw [Z]
   show (if aI F.1 s.data.length=true then _ else _)=_
   rw [ZZ af]
  intro b8 ⟨af,bf⟩;obtain ⟨ao,az⟩:∃x,s.data[F.1.toNat]? = some x:=⟨_,c6 (rL af).2⟩;refine Ln<|Eu<|U0 O (λ_ h=>(Wo 1 (Wo 1<|h.f 6 O):)) (bw O)<|U0 O (λ_ h=>(Wo 1 (Wo 1<|h.f 6 O):)) (n4 (y:=ao) 3 F.1.toNat 0 O O bf O h4 az O ab) ?_;refine WU.nil (λ_ h=>(Wo 1 (Wo 1<|h.f 6 O):)) ?_;refine WS.e O ?_;refine c' (ι:=Unit×ah) (κ:=Int×ah) [_,_,_,_,_,_] _ Y O aF O O (λr=>.tuple #[]) (λr=>(ah.own g r.2)) (λr=>eY ao (ah.bZ (ah.aV s) F.2).pu = .ok r.1 r.2.pu/\r.2.r' j) (λr=>ee r.1) (λr=>(ah.own g r.2)) (λr=>eY ao (ah.bZ (ah.aV s) F.2).pu = .ov r.1 r.2.pu) ([j]) ai (λw c=>pY g (ah.bZ (ah.aV s) F.2) j ao w be c) ?_ ?_
  ·intro aA aB;refine Ep<|WE.bS ?_;refine bE λk c=>?_;have c:=Ws.dB (L:=[_,_,_,_,_,_]) c;refine .inr ⟨aA,O,?_,c⟩;unfold aah cX;rw [show s.pu.aV=(ah.aV s).pu from rfl];simp only [l,m,n,t,u,v,z,dV,Z9,Z'];rw [Z]
   show (if aI F.1 s.data.length=true then _ else _)=_
   rw [af,ZX ai]
   show eY (s.data[F.1.toNat]?.getD 0) _=_
   rw [az];exact aB
  intro aA ⟨aB,bh⟩;refine Ln<|Es ?_;refine WS.nil ?_;refine Eb ?_;refine E0 O λk c=>?_;have c:=Ws.dB (L:=[_,_,_,_,_,_]) c;refine .inl ⟨((),aA.2),O,⟨?_,bh⟩,c⟩;unfold aah cX;rw [show s.pu.aV=(ah.aV s).pu from rfl];simp only [l,m,n,t,u,v,z,dV,Z9,Z'];rw [Z]
  show (if aI F.1 s.data.length=true then _ else _)=_
  rw [af,ZX ai]
  show eY (s.data[F.1.toNat]?.getD 0) _=_
  rw [az];exact aB
 refine ae<|I (bz O O)<|ag O<|ad ?_;refine Cc O (λE=>?_)<|λE=>?_
 ·refine ae<|ac O<|Lf 6 O<|Lf 6 O<|Lf 6 O<|Lf 6 O<|Lf 6 O<|Lf 6 O ?_;refine c' (ι:=Int×List Int) (κ:=Int×ah) [_,_,_,_,_,_] _ Y O aF O O (λr=>.int .i64 r.1) (λr=>(ah.own g<|ah.bZ (ah.aV s) r.2)) (λr=>cB (ah.aV s).pu = .ok r.1 (ah.bZ (ah.aV s) r.2).pu/\(ah.bZ (ah.aV s) r.2).r' j) (λr=>ee r.1) (λr=>(ah.own g r.2)) (λr=>cB (ah.aV s).pu = .ov r.1 r.2.pu) ([j]) ai (λw c=>nO g (ah.aV s) j w D c) ?_ ?_
  ·intro G au;refine Ep<|WE.bS ?_;refine bE λk c=>?_;have c:=Ws.dB (L:=[_,_,_,_,_,_]) c;refine .inr ⟨G,O,?_,c⟩;unfold aah cX;rw [show s.pu.aV=(ah.aV s).pu from rfl];simp only [l,m,n,t,u,v,z,E,dV,Z9,Z'];rw [au]
   rfl
  intro G ⟨au,bN⟩;refine ag O<|ad ?_;refine WC.fact (p:=0<s.data.length->∃b o,s.da=some ⟨b,o,none⟩) (λw c X=>Bp c 4 O X) λam=>?_;refine CU (λ_=>true) [0,0] [10] (.q false 0<|.q false 1<|.q false 2<|.q false 3<|.q false 5<|.q false 8<|.e 4 (.e 6 (.e 7 (.q false 9 .nil) .stop) .stop)<|.e 6 (.e 4 (.e 7 (.q false 9 .nil) .stop) .stop) .stop) mixed ab (λ_ _ _ d _ _ h=>by cases d<;>exact h) ?_;refine U0 O (ct [0,0]) (Ym O)<|U0 O (ct [0,0]) (bw O)<|U0 O (ct [0,0]) (Yf pf O)<|U0 O (ct [0,0]) (Yf eq O)<|U0 O (ct [0,0]) (Ym O)<|U0 O (ct [0,0]) (Ym O) ?_;refine Ue O (ct [0,0]) ?_ ?_
  ·refine I (Yd 0 O O O ab)<|Ln<|Eu ?_;refine Ue O (ct [0,0]) ?_ WU.stop;refine c' (ι:=Int×List Int) (κ:=Int×ah) [_,_,_,_,_,_] _ Y O aF O O (λr=>.int .i64 r.1) (λr=>(ah.own g<|ah.bZ (ah.bZ (ah.aV s) G.2) r.2)) (λr=>cB (ah.bZ (ah.aV s) G.2).pu = .ok r.1 (ah.bZ (ah.bZ (ah.aV s) G.2) r.2).pu/\(ah.bZ (ah.bZ (ah.aV s) G.2) r.2).r' j) (λr=>ee r.1) (λr=>(ah.own g r.2)) (λr=>cB (ah.bZ (ah.aV s) G.2).pu = .ov r.1 r.2.pu) ([j]) ai (λw c=>nO g (ah.bZ (ah.aV s) G.2) j w bN c) ?_ ?_
   ·intro H ap;refine Ep<|WE.bS ?_;refine bE λk c=>?_;have c:=Ws.dB (L:=[_,_,_,_,_,_]) c;refine .inr ⟨H,O,?_,c⟩;unfold aah cX;rw [show s.pu.aV=(ah.aV s).pu from rfl];simp only [l,m,n,t,u,v,z,E,dV,Z9,Z'];rw [au]
    show Rz.bind (cB (ah.bZ (ah.aV s) G.2).pu) _=_
    rw [ap]
    rfl
   intro H ⟨ap,bi⟩;refine Ln<|Eu ?_;refine Ue O (ct [0,0]) ?_ WU.stop
   refine c' (ι:=Nat×Nat) (κ:=Unit) [] _ Y O aF O O (λr=>.pointer<|some ⟨r.1,r.2+(H.1).toNat*1,none⟩) (λ_=>[]) (λr=>aI (H.1) (s.data.length)=false/\s.da=some ⟨r.1,r.2,none⟩) (λ_=>ee 6) (λ_=>[]) (λ_=>aI (H.1) (s.data.length)=true) ([]) ai (λw c=>(aaD s.da _ (s.data.length) (H.1) w am).mono λe k h=>by
       rcases h with ⟨r,A,B,C⟩ | ⟨_,A,B,C⟩
       · exact .inl ⟨r,A,B,c.ext C⟩
       · exact .inr ⟨(),A,B,c.ext C⟩) ?_ ?_
   ·intro _ ar;refine Ep<|WE.bS ?_;refine bE λk c=>?_;have c:=Ws.dB (L:=[_,_,_,_,_,_]) c;refine .inr ⟨(6,(ah.bZ (ah.bZ (ah.aV s) G.2) H.2)),O,?_,c⟩;unfold aah cX;rw [show s.pu.aV=(ah.aV s).pu from rfl];simp only [l,m,n,t,u,v,z,E,dV,Z9,Z'];rw [au]
    show Rz.bind (cB (ah.bZ (ah.aV s) G.2).pu) _=_
    rw [ap]
    show (if aI H.1 s.data.length=true then _ else _)=_
    rw [ZZ ar]
   intro b9 ⟨ar,bj⟩;obtain ⟨bk,bl⟩:∃x,s.data[H.1.toNat]? = some x:=⟨_,c6 (rL ar).2⟩;refine Ln<|Eu<|U0 O (ct [0,0]) (bw O) ?_;refine WU.nil (ct [0,0]) ?_;refine WS.e O ?_;refine WL.storeT (y:=bk) 4 H.1.toNat 0 G.1 Y O O O bj O h4 bl dL O O a8 O ?_;refine Ln<|Es ?_;refine WS.nil ?_;refine Eb ?_;refine E0 O λk c=>?_;have c:=Ws.dB (L:=[_,_,_,_,_,_]) c;have c:=c.nn 0 rfl (congrArg (aq g)<|Gu (ah.bZ (ah.bZ (ah.aV s) G.2) H.2) H.1.toNat G.1);refine .inl ⟨((),{ (ah.bZ (ah.bZ (ah.aV s) G.2) H.2) with data:=s.data.set H.1.toNat G.1 }),O,⟨?_,⟨D.bg,bi.ak,D.kk,D.out,by show (s.data.set H.1.toNat G.1).length<=512; simp; exact a1⟩⟩,c⟩;unfold aah cX;rw [show s.pu.aV=(ah.aV s).pu from rfl];simp only [l,m,n,t,u,v,z,E,dV,Z9,Z'];rw [au]
   show Rz.bind (cB (ah.bZ (ah.aV s) G.2).pu) _=_
   rw [ap]
   show (if aI H.1 s.data.length=true then _ else _)=_
   rw [ar,ZX ai]
   rfl
  refine Ue O (ct [0,0]) ?_ WU.stop;refine c' (ι:=Int×List Int) (κ:=Int×ah) [_,_,_,_,_,_] _ Y O aF O O (λr=>.int .i64 r.1) (λr=>(ah.own g<|ah.bZ (ah.bZ (ah.aV s) G.2) r.2)) (λr=>cB (ah.bZ (ah.aV s) G.2).pu = .ok r.1 (ah.bZ (ah.bZ (ah.aV s) G.2) r.2).pu/\(ah.bZ (ah.bZ (ah.aV s) G.2) r.2).r' j) (λr=>ee r.1) (λr=>(ah.own g r.2)) (λr=>cB (ah.bZ (ah.aV s) G.2).pu = .ov r.1 r.2.pu) ([j]) ai (λw c=>nO g (ah.bZ (ah.aV s) G.2) j w bN c) ?_ ?_
  ·intro H ap;refine Ep<|WE.bS ?_;refine bE λk c=>?_;have c:=Ws.dB (L:=[_,_,_,_,_,_]) c;refine .inr ⟨H,O,?_,c⟩;unfold aah cX;rw [show s.pu.aV=(ah.aV s).pu from rfl];simp only [l,m,n,t,u,v,z,E,dV,Z9,Z'];rw [au]
   show Rz.bind (cB (ah.bZ (ah.aV s) G.2).pu) _=_
   rw [ap]
   rfl
  intro H ⟨ap,bi⟩;refine Ln<|Eu ?_;refine Ue O (ct [0,0]) ?_ WU.stop;refine I (Yd 0 O O O ab)<|Ln<|Eu ?_;refine Ue O (ct [0,0]) ?_ WU.stop
  refine c' (ι:=Nat×Nat) (κ:=Unit) [] _ Y O aF O O (λr=>.pointer<|some ⟨r.1,r.2+(H.1).toNat*1,none⟩) (λ_=>[]) (λr=>aI (H.1) (s.data.length)=false/\s.da=some ⟨r.1,r.2,none⟩) (λ_=>ee 6) (λ_=>[]) (λ_=>aI (H.1) (s.data.length)=true) ([]) ai (λw c=>(aaD s.da _ (s.data.length) (H.1) w am).mono λe k h=>by
      rcases h with ⟨r,A,B,C⟩ | ⟨_,A,B,C⟩
      · exact .inl ⟨r,A,B,c.ext C⟩
      · exact .inr ⟨(),A,B,c.ext C⟩) ?_ ?_
  ·intro _ ar;refine Ep<|WE.bS ?_;refine bE λk c=>?_;have c:=Ws.dB (L:=[_,_,_,_,_,_]) c;refine .inr ⟨(6,(ah.bZ (ah.bZ (ah.aV s) G.2) H.2)),O,?_,c⟩;unfold aah cX;rw [show s.pu.aV=(ah.aV s).pu from rfl];simp only [l,m,n,t,u,v,z,E,dV,Z9,Z'];rw [au]
   show Rz.bind (cB (ah.bZ (ah.aV s) G.2).pu) _=_
   rw [ap]
   show (if aI H.1 s.data.length=true then _ else _)=_
   rw [ZZ ar]
  intro b9 ⟨ar,bj⟩;obtain ⟨bk,bl⟩:∃x,s.data[H.1.toNat]? = some x:=⟨_,c6 (rL ar).2⟩;refine Ln<|Eu<|U0 O (ct [0,0]) (bw O) ?_;refine WU.nil (ct [0,0]) ?_;refine WS.e O ?_;refine WL.storeT (y:=bk) 4 H.1.toNat 0 G.1 Y O O O bj O h4 bl dL O O a8 O ?_;refine Ln<|Es ?_;refine WS.nil ?_;refine Eb ?_;refine E0 O λk c=>?_;have c:=Ws.dB (L:=[_,_,_,_,_,_]) c;have c:=c.nn 0 rfl (congrArg (aq g)<|Gu (ah.bZ (ah.bZ (ah.aV s) G.2) H.2) H.1.toNat G.1);refine .inl ⟨((),{ (ah.bZ (ah.bZ (ah.aV s) G.2) H.2) with data:=s.data.set H.1.toNat G.1 }),O,⟨?_,⟨D.bg,bi.ak,D.kk,D.out,by show (s.data.set H.1.toNat G.1).length<=512; simp; exact a1⟩⟩,c⟩;unfold aah cX;rw [show s.pu.aV=(ah.aV s).pu from rfl];simp only [l,m,n,t,u,v,z,E,dV,Z9,Z'];rw [au]
  show Rz.bind (cB (ah.bZ (ah.aV s) G.2).pu) _=_
  rw [ap]
  show (if aI H.1 s.data.length=true then _ else _)=_
  rw [ar,ZX ai]
  rfl
 refine ae<|I (bz O O)<|ag O<|ad ?_;refine Cc O (λJ=>?_)<|λJ=>?_
 ·refine Cr<|ac O<|ac O<|Lf 6 O<|Lf 6 O<|Lf 6 O<|Lf 6 O<|Lf 6 O ?_;refine Lf 6 O ?_;refine c' (ι:=Int×List Int) (κ:=Int×ah) [_,_,_,_,_,_] _ Y O aF O O (λr=>.int .i64 r.1) (λr=>(ah.own g<|ah.bZ (ah.aV s) r.2)) (λr=>cB (ah.aV s).pu = .ok r.1 (ah.bZ (ah.aV s) r.2).pu/\(ah.bZ (ah.aV s) r.2).r' j) (λr=>ee r.1) (λr=>(ah.own g r.2)) (λr=>cB (ah.aV s).pu = .ov r.1 r.2.pu) ([j]) ai (λw c=>nO g (ah.aV s) j w D c) ?_ ?_
  ·intro av aW;refine WE.bS ?_;refine bE λk c=>?_;have c:=Ws.dB (L:=[_,_,_,_,_,_]) c;refine .inr ⟨av,O,?_,c⟩;unfold aah cX;rw [show s.pu.aV=(ah.aV s).pu from rfl];simp only [l,m,n,t,u,v,z,E,J,dV,Z9,Z'];rw [aW]
   rfl
  intro av ⟨aW,b'⟩;refine I (bz O O)<|Lp Y O aF O (λw c=>CA _ w) ?_;refine c' (ι:=Unit×ah) (κ:=Int×ah) [_,_,_,_,_,_] _ Y O aF O O (λr=>.tuple #[]) (λr=>(ah.own g r.2)) (λr=>eY (mE<|av.1==0) (ah.bZ (ah.aV s) av.2).pu = .ok r.1 r.2.pu/\r.2.r' j) (λr=>ee r.1) (λr=>(ah.own g r.2)) (λr=>eY (mE<|av.1==0) (ah.bZ (ah.aV s) av.2).pu = .ov r.1 r.2.pu) ([j]) ai (λw c=>pY g (ah.bZ (ah.aV s) av.2) j (mE<|av.1==0) w b' c) ?_ ?_
  ·intro bm bn;refine WE.bS ?_;refine bE λk c=>?_;have c:=Ws.dB (L:=[_,_,_,_,_,_]) c;refine .inr ⟨bm,O,?_,c⟩;unfold aah cX;rw [show s.pu.aV=(ah.aV s).pu from rfl];simp only [l,m,n,t,u,v,z,E,J,dV,Z9,Z'];rw [aW];exact bn
  intro bm ⟨bn,b_⟩;refine Ln<|Eb ?_;refine E0 O λk c=>?_;have c:=Ws.dB (L:=[_,_,_,_,_,_]) c;refine .inl ⟨((),bm.2),O,⟨?_,b_⟩,c⟩;unfold aah cX;rw [show s.pu.aV=(ah.aV s).pu from rfl];simp only [l,m,n,t,u,v,z,E,J,dV,Z9,Z'];rw [aW];exact bn
 refine ae<|I (bz O O)<|ag O<|ad ?_;refine Cc O (λK=>?_)<|λK=>?_
 ·refine Cr<|ac O<|ac O<|Lf 6 O<|Lf 6 O<|Lf 6 O<|Lf 6 O<|Lf 6 O ?_;refine Lf 6 O ?_;refine c' (ι:=Int×List Int) (κ:=Int×ah) [_,_,_,_,_,_] _ Y O aF O O (λr=>.int .i64 r.1) (λr=>(ah.own g<|ah.bZ (ah.aV s) r.2)) (λr=>cB (ah.aV s).pu = .ok r.1 (ah.bZ (ah.aV s) r.2).pu/\(ah.bZ (ah.aV s) r.2).r' j) (λr=>ee r.1) (λr=>(ah.own g r.2)) (λr=>cB (ah.aV s).pu = .ov r.1 r.2.pu) ([j]) ai (λw c=>nO g (ah.aV s) j w D c) ?_ ?_
  ·intro aw aX;refine WE.bS ?_;refine bE λk c=>?_;have c:=Ws.dB (L:=[_,_,_,_,_,_]) c;refine .inr ⟨aw,O,?_,c⟩;unfold aah cX;rw [show s.pu.aV=(ah.aV s).pu from rfl];simp only [l,m,n,t,u,v,z,E,J,K,dV,Z9,Z'];rw [aX]
   rfl
  intro aw ⟨aX,ca⟩;refine I (h9 O O)<|Lp Y O aF O (λw c=>CA _ w) ?_;refine c' (ι:=Unit×ah) (κ:=Int×ah) [_,_,_,_,_,_] _ Y O aF O O (λr=>.tuple #[]) (λr=>(ah.own g r.2)) (λr=>eY (mE<|aw.1 != 0) (ah.bZ (ah.aV s) aw.2).pu = .ok r.1 r.2.pu/\r.2.r' j) (λr=>ee r.1) (λr=>(ah.own g r.2)) (λr=>eY (mE<|aw.1 != 0) (ah.bZ (ah.aV s) aw.2).pu = .ov r.1 r.2.pu) ([j]) ai (λw c=>pY g (ah.bZ (ah.aV s) aw.2) j (mE<|aw.1 != 0) w ca c) ?_ ?_
  ·intro bo bp;refine WE.bS ?_;refine bE λk c=>?_;have c:=Ws.dB (L:=[_,_,_,_,_,_]) c;refine .inr ⟨bo,O,?_,c⟩;unfold aah cX;rw [show s.pu.aV=(ah.aV s).pu from rfl];simp only [l,m,n,t,u,v,z,E,J,K,dV,Z9,Z'];rw [aX];exact bp
  intro bo ⟨bp,cb⟩;refine Ln<|Eb ?_;refine E0 O λk c=>?_;have c:=Ws.dB (L:=[_,_,_,_,_,_]) c;refine .inl ⟨((),bo.2),O,⟨?_,cb⟩,c⟩;unfold aah cX;rw [show s.pu.aV=(ah.aV s).pu from rfl];simp only [l,m,n,t,u,v,z,E,J,K,dV,Z9,Z'];rw [aX];exact bp
 refine ae<|I (bz O O)<|ag O<|ad ?_;refine Cc O (λM=>?_)<|λM=>?_
 ·refine Cr<|ac O<|I (Yf m4 O)<|I (Yd 0 O O O ab)<|Lf 6 O<|Lf 6 O<|Lf 6 O<|Lf 6 O ?_;refine Lf 6 O<|Lf 6 O ?_;refine c' (ι:=Unit×ah) (κ:=Int×ah) [_,_,_,_,_,_] _ Y O aF O O (λr=>.tuple #[]) (λr=>(ah.own g r.2)) (λr=>k5 i.a (ah.aV s).pu = .ok r.1 r.2.pu/\r.2.r' j) (λr=>ee r.1) (λr=>(ah.own g r.2)) (λr=>k5 i.a (ah.aV s).pu = .ov r.1 r.2.pu) ([j]) ai (λw c=>Ta g (ah.aV s) j i.a w D c) ?_ ?_
  ·intro bq br;refine WE.bS ?_;refine bE λk c=>?_;have c:=Ws.dB (L:=[_,_,_,_,_,_]) c;refine .inr ⟨bq,O,?_,c⟩;unfold aah cX;rw [show s.pu.aV=(ah.aV s).pu from rfl];simp only [l,m,n,t,u,v,z,E,J,K,M,dV,Z9,Z'];exact br
  intro bq ⟨br,cc⟩;refine Ln<|Eb ?_;refine E0 O λk c=>?_;have c:=Ws.dB (L:=[_,_,_,_,_,_]) c;refine .inl ⟨((),bq.2),O,⟨?_,cc⟩,c⟩;unfold aah cX;rw [show s.pu.aV=(ah.aV s).pu from rfl];simp only [l,m,n,t,u,v,z,E,J,K,M,dV,Z9,Z'];exact br
 refine ae<|I (bz O O)<|ag O<|ad ?_;refine Cc O (λN=>?_)<|λN=>?_
 ·refine Cr<|ac O<|I (Yf m4 O)<|I (Yd 0 O O O ab)<|I (bw O)<|I (Yf qO O)<|aT 1 Y O O O dL O O O<|Ln<|Eb ?_;refine E0 O λk c=>?_;have c:=c.aj 6 rfl;have c:=c.aj 6 rfl;have c:=c.aj 6 rfl;have c:=c.aj 6 rfl;have c:=c.aj 6 rfl;have c:=c.aj 6 rfl;have c:=Ws.dB (L:=[_,_,_,_,_,_]) c;refine .inl ⟨((),{ (ah.aV s) with at_:=i.a }),O,⟨?_,D.at i.a⟩,c⟩;unfold aah cX;rw [show s.pu.aV=(ah.aV s).pu from rfl];simp only [l,m,n,t,u,v,z,E,J,K,M,N,dV,Z9,Z']
  all_goals rfl
 refine ae<|I (bz O O)<|ag O<|ad ?_;refine Cc O (λP=>?_)<|λP=>?_
 ·refine ae<|ac O<|Lf 6 O<|Lf 6 O<|Lf 6 O<|Lf 6 O<|Lf 6 O<|Lf 6 O ?_;refine c' (ι:=Int×List Int) (κ:=Int×ah) [_,_,_,_,_,_] _ Y O aF O O (λr=>.int .i64 r.1) (λr=>(ah.own g<|ah.bZ (ah.aV s) r.2)) (λr=>cB (ah.aV s).pu = .ok r.1 (ah.bZ (ah.aV s) r.2).pu/\(ah.bZ (ah.aV s) r.2).r' j) (λr=>ee r.1) (λr=>(ah.own g r.2)) (λr=>cB (ah.aV s).pu = .ov r.1 r.2.pu) ([j]) ai (λw c=>nO g (ah.aV s) j w D c) ?_ ?_
  ·intro aE aY;refine Ep<|WE.bS ?_;refine bE λk c=>?_;have c:=Ws.dB (L:=[_,_,_,_,_,_]) c;refine .inr ⟨aE,O,?_,c⟩;unfold aah cX;rw [show s.pu.aV=(ah.aV s).pu from rfl];simp only [l,m,n,t,u,v,z,E,J,K,M,N,P,dV,Z9,Z'];rw [aY]
   rfl
  intro aE ⟨aY,bO⟩;refine I (bz O O)<|ad ?_;refine Cc O (λbs=>?_)<|λbs=>?_
  ·refine Cr<|ac O<|I (Yf m4 O)<|I (Yd 6 O O O ab)<|I (bw O)<|I (Yf qO O)<|aT 0 Y O O O dL O O O<|Ln<|Eb ?_;refine E0 O λk c=>?_;have c:=Ws.dB (L:=[_,_,_,_,_,_]) c;refine .inl ⟨((),{ (ah.bZ (ah.aV s) aE.2) with at_:=i.a }),O,⟨?_,bO.at _⟩,c⟩;unfold aah cX;rw [show s.pu.aV=(ah.aV s).pu from rfl];simp only [l,m,n,t,u,v,z,E,J,K,M,N,P,dV,Z9,Z'];rw [aY]
   show (if (aE.1==0)=true then _ else _)=_
   rw [bs]
   rfl
  refine Ck<|Eb ?_;refine E0 O λk c=>?_;have c:=Ws.dB (L:=[_,_,_,_,_,_]) c;refine .inl ⟨((),(ah.bZ (ah.aV s) aE.2)),O,⟨?_,bO⟩,c⟩;unfold aah cX;rw [show s.pu.aV=(ah.aV s).pu from rfl];simp only [l,m,n,t,u,v,z,E,J,K,M,N,P,dV,Z9,Z'];rw [aY]
  show (if (aE.1==0)=true then _ else _)=_
  rw [bs]
  rfl
 refine ae<|I (bz O O)<|ag O<|ad ?_;refine Cc O (λS=>?_)<|λS=>?_
 ·refine Cr<|ac O<|I (Yf m4 O)<|I (Yd 0 O O O ab)<|Lf 6 O<|Lf 6 O<|Lf 6 O<|Lf 6 O ?_;refine Lf 6 O<|Lf 6 O ?_;refine c' (ι:=Unit×ah) (κ:=Int×ah) [_,_,_,_,_,_] _ Y O aF O O (λr=>.tuple #[]) (λr=>(ah.own g r.2)) (λr=>dP i.a (ah.aV s).pu = .ok r.1 r.2.pu/\r.2.r' j) (λr=>ee r.1) (λr=>(ah.own g r.2)) (λr=>dP i.a (ah.aV s).pu = .ov r.1 r.2.pu) ([j]) ai (λw c=>Tg g (ah.aV s) j i.a w D c) ?_ ?_
  ·intro bt bu;refine WE.bS ?_;refine bE λk c=>?_;have c:=Ws.dB (L:=[_,_,_,_,_,_]) c;refine .inr ⟨bt,O,?_,c⟩;unfold aah cX;rw [show s.pu.aV=(ah.aV s).pu from rfl];simp only [l,m,n,t,u,v,z,E,J,K,M,N,P,S,dV,Z9,Z'];exact bu
  intro bt ⟨bu,cd⟩;refine Ln<|Eb ?_;refine E0 O λk c=>?_;have c:=Ws.dB (L:=[_,_,_,_,_,_]) c;refine .inl ⟨((),bt.2),O,⟨?_,cd⟩,c⟩;unfold aah cX;rw [show s.pu.aV=(ah.aV s).pu from rfl];simp only [l,m,n,t,u,v,z,E,J,K,M,N,P,S,dV,Z9,Z'];exact bu
 refine ae<|I (bz O O)<|ag O<|ad ?_;refine Cc O (λT=>?_)<|λT=>?_
 ·refine Cr<|ac O<|I (Yf m4 O)<|I (Yd 0 O O O ab)<|I (Yf Gv O)<|I (Yd 0 O O O ab)<|Lf 6 O<|Lf 6 O ?_;refine Lf 6 O<|Lf 6 O<|Lf 6 O<|Lf 6 O ?_;refine c' (ι:=Unit×ah) (κ:=Int×ah) [_,_,_,_,_,_] _ Y O aF O O (λr=>.tuple #[]) (λr=>(ah.own g r.2)) (λr=>dD i.a i.b (ah.aV s).pu = .ok r.1 r.2.pu/\r.2.r' j) (λr=>ee r.1) (λr=>(ah.own g r.2)) (λr=>dD i.a i.b (ah.aV s).pu = .ov r.1 r.2.pu) ([j]) ai (λw c=>Ti g (ah.aV s) j i.a i.b w D c) ?_ ?_
  ·intro bv bx;refine WE.bS ?_;refine bE λk c=>?_;have c:=Ws.dB (L:=[_,_,_,_,_,_]) c;refine .inr ⟨bv,O,?_,c⟩;unfold aah cX;rw [show s.pu.aV=(ah.aV s).pu from rfl];simp only [l,m,n,t,u,v,z,E,J,K,M,N,P,S,T,dV,Z9,Z'];exact bx
  intro bv ⟨bx,ce⟩;refine Ln<|Eb ?_;refine E0 O λk c=>?_;have c:=Ws.dB (L:=[_,_,_,_,_,_]) c;refine .inl ⟨((),bv.2),O,⟨?_,ce⟩,c⟩;unfold aah cX;rw [show s.pu.aV=(ah.aV s).pu from rfl];simp only [l,m,n,t,u,v,z,E,J,K,M,N,P,S,T,dV,Z9,Z'];exact bx
 refine ae<|I (bz O O)<|ag O<|ad ?_;refine Cc O (λV=>?_)<|λV=>?_
 ·refine Cr<|ac O<|Lf 6 O<|Lf 6 O<|Lf 6 O<|Lf 6 O<|Lf 6 O<|Lf 6 O ?_;refine c' (ι:=Unit×ah) (κ:=Int×ah) [_,_,_,_,_,_] _ Y O aF O O (λr=>.tuple #[]) (λr=>(ah.own g r.2)) (λr=>rK (ah.aV s).pu = .ok r.1 r.2.pu/\r.2.r' j) (λr=>ee r.1) (λr=>(ah.own g r.2)) (λr=>rK (ah.aV s).pu = .ov r.1 r.2.pu) ([j]) ai (λw c=>Tf g (ah.aV s) j  w D c) ?_ ?_
  ·intro bA bB;refine WE.bS ?_;refine bE λk c=>?_;have c:=Ws.dB (L:=[_,_,_,_,_,_]) c;refine .inr ⟨bA,O,?_,c⟩;unfold aah cX;rw [show s.pu.aV=(ah.aV s).pu from rfl];simp only [l,m,n,t,u,v,z,E,J,K,M,N,P,S,T,V,dV,Z9,Z'];exact bB
  intro bA ⟨bB,cf⟩;refine Ln<|Eb ?_;refine E0 O λk c=>?_;have c:=Ws.dB (L:=[_,_,_,_,_,_]) c;refine .inl ⟨((),bA.2),O,⟨?_,cf⟩,c⟩;unfold aah cX;rw [show s.pu.aV=(ah.aV s).pu from rfl];simp only [l,m,n,t,u,v,z,E,J,K,M,N,P,S,T,V,dV,Z9,Z'];exact bB
 refine ae<|I (bz O O)<|ag O<|ad ?_;refine Cc O (λW=>?_)<|λW=>?_
 ·refine Cr<|ac O<|Lf 6 O<|Lf 6 O<|Lf 6 O<|Lf 6 O<|Lf 6 O<|Lf 6 O ?_;refine c' (ι:=Unit×ah) (κ:=Int×ah) [_,_,_,_,_,_] _ Y O aF O O (λr=>.tuple #[]) (λr=>(ah.own g r.2)) (λr=>mF (ah.aV s).pu = .ok r.1 r.2.pu/\r.2.r' j) (λr=>ee r.1) (λr=>(ah.own g r.2)) (λr=>mF (ah.aV s).pu = .ov r.1 r.2.pu) ([j]) ai (λw c=>L7 g (ah.aV s) j  w D c) ?_ ?_
  ·intro bC bD;refine WE.bS ?_;refine bE λk c=>?_;have c:=Ws.dB (L:=[_,_,_,_,_,_]) c;refine .inr ⟨bC,O,?_,c⟩;unfold aah cX;rw [show s.pu.aV=(ah.aV s).pu from rfl];simp only [l,m,n,t,u,v,z,E,J,K,M,N,P,S,T,V,W,dV,Z9,Z'];exact bD
  intro bC ⟨bD,cg⟩;refine Ln<|Eb ?_;refine E0 O λk c=>?_;have c:=Ws.dB (L:=[_,_,_,_,_,_]) c;refine .inl ⟨((),bC.2),O,⟨?_,cg⟩,c⟩;unfold aah cX;rw [show s.pu.aV=(ah.aV s).pu from rfl];simp only [l,m,n,t,u,v,z,E,J,K,M,N,P,S,T,V,W,dV,Z9,Z'];exact bD
 refine ae<|I (bz O O)<|ag O<|ad ?_;refine Cc O (λal=>?_)<|λal=>?_
 ·refine Cr<|ac O<|Lf 6 O<|Lf 6 O<|Lf 6 O<|Lf 6 O<|Lf 6 O<|Lf 6 O ?_;refine c' (ι:=Int×List Int) (κ:=Int×ah) [_,_,_,_,_,_] _ Y O aF O O (λr=>.int .i64 r.1) (λr=>(ah.own g<|ah.bZ (ah.aV s) r.2)) (λr=>cB (ah.aV s).pu = .ok r.1 (ah.bZ (ah.aV s) r.2).pu/\(ah.bZ (ah.aV s) r.2).r' j) (λr=>ee r.1) (λr=>(ah.own g r.2)) (λr=>cB (ah.aV s).pu = .ov r.1 r.2.pu) ([j]) ai (λw c=>nO g (ah.aV s) j w D c) ?_ ?_
  ·intro bF bG;refine WE.bS ?_;refine bE λk c=>?_;have c:=Ws.dB (L:=[_,_,_,_,_,_]) c;refine .inr ⟨bF,O,?_,c⟩;unfold aah cX;rw [show s.pu.aV=(ah.aV s).pu from rfl];simp only [l,m,n,t,u,v,z,E,J,K,M,N,P,S,T,V,W,al,dV,Z9,Z'];rw [bG]
   rfl
  intro bF ⟨bG,ch⟩;refine Ln<|Eb ?_;refine E0 O λk c=>?_;have c:=Ws.dB (L:=[_,_,_,_,_,_]) c;refine .inl ⟨((),(ah.bZ (ah.aV s) bF.2)),O,⟨?_,ch⟩,c⟩;unfold aah cX;rw [show s.pu.aV=(ah.aV s).pu from rfl];simp only [l,m,n,t,u,v,z,E,J,K,M,N,P,S,T,V,W,al,dV,Z9,Z'];rw [bG]
  rfl
 refine ae<|I (bz O O)<|ag O<|ad ?_;refine Cc O (λax=>?_)<|λax=>?_
 ·refine Cr<|ac O<|ac O<|Lf 6 O<|Lf 6 O<|Lf 6 O<|Lf 6 O<|Lf 6 O ?_;refine Lf 6 O ?_;refine c' (ι:=Int×ah) (κ:=Int×ah) [_,_,_,_,_,_] _ Y O aF O O (λr=>.int .i64 r.1) (λr=>(ah.own g r.2)) (λr=>Rz.ok (nM (ah.aV s).pu).1 (nM (ah.aV s).pu).2 = .ok r.1 r.2.pu/\r.2.r' j) (λr=>ee r.1) (λr=>(ah.own g r.2)) (λr=>Rz.ok (nM (ah.aV s).pu).1 (nM (ah.aV s).pu).2 = .ov r.1 r.2.pu) ([j]) ai (λw c=>Tb g (ah.aV s) j  w D c) ?_ ?_
  ·intro aC aZ;refine WE.bS ?_;refine bE λk c=>?_;cases aZ
  intro aC ⟨aZ,ci⟩;refine c' (ι:=Unit×ah) (κ:=Int×ah) [_,_,_,_,_,_] _ Y O aF O O (λr=>.tuple #[]) (λr=>(ah.own g r.2)) (λr=>eY aC.1 aC.2.pu = .ok r.1 r.2.pu/\r.2.r' j) (λr=>ee r.1) (λr=>(ah.own g r.2)) (λr=>eY aC.1 aC.2.pu = .ov r.1 r.2.pu) ([j]) ai (λw c=>pY g aC.2 j aC.1 w ci c) ?_ ?_
  ·intro bH bI;refine WE.bS ?_;refine bE λk c=>?_;have c:=Ws.dB (L:=[_,_,_,_,_,_]) c;refine .inr ⟨bH,O,?_,c⟩;unfold aah cX;rw [show s.pu.aV=(ah.aV s).pu from rfl];simp only [l,m,n,t,u,v,z,E,J,K,M,N,P,S,T,V,W,al,ax,dV,Z9,Z']
   injection aZ with bJ bK
   rw [bJ,bK];exact bI
  intro bH ⟨bI,cj⟩;refine Ln<|Eb ?_;refine E0 O λk c=>?_;have c:=Ws.dB (L:=[_,_,_,_,_,_]) c;refine .inl ⟨((),bH.2),O,⟨?_,cj⟩,c⟩;unfold aah cX;rw [show s.pu.aV=(ah.aV s).pu from rfl];simp only [l,m,n,t,u,v,z,E,J,K,M,N,P,S,T,V,W,al,ax,dV,Z9,Z']
  injection aZ with bJ bK
  rw [bJ,bK];exact bI
 refine ae<|I (bz O O)<|ag O<|ad ?_;refine Cc O (λaG=>?_)<|λaG=>?_
 ·refine ae<|ac O<|Lf 6 O<|Lf 6 O<|Lf 6 O<|Lf 6 O<|Lf 6 O<|Lf 6 O ?_;refine c' (ι:=Int×List Int) (κ:=Int×ah) [_,_,_,_,_,_] _ Y O aF O O (λr=>.int .i64 r.1) (λr=>(ah.own g<|ah.bZ (ah.aV s) r.2)) (λr=>cB (ah.aV s).pu = .ok r.1 (ah.bZ (ah.aV s) r.2).pu/\(ah.bZ (ah.aV s) r.2).r' j) (λr=>ee r.1) (λr=>(ah.own g r.2)) (λr=>cB (ah.aV s).pu = .ov r.1 r.2.pu) ([j]) ai (λw c=>nO g (ah.aV s) j w D c) ?_ ?_
  ·intro aD a0;refine Ep<|WE.bS ?_;refine bE λk c=>?_;have c:=Ws.dB (L:=[_,_,_,_,_,_]) c;refine .inr ⟨aD,O,?_,c⟩;unfold aah cX;rw [show s.pu.aV=(ah.aV s).pu from rfl];simp only [l,m,n,t,u,v,z,E,J,K,M,N,P,S,T,V,W,al,ax,aG,dV,Z9,Z'];rw [a0]
   rfl
  intro aD ⟨a0,ck⟩;refine ag O<|ad<|ae<|ac O<|I (bw O)<|I (Yf pf O)<|I (Yf sM O)<|I (Yd 0 O O O ab)<|I (Yn e3 O) ?_;refine I (bz O O) ?_
  refine c' (ι:=Unit) (κ:=Unit) [] _ Y O aF O O (λ_=>.tuple #[]) (λ_=>[]) (λ_=>(((s.out.length:Nat):Int)==200)=false) (λ_=>ee 5) (λ_=>[]) (λ_=>(((s.out.length:Nat):Int)==200)=true) ([]) ai (λw c=>(nN _ 5 w).mono λe k h=>by
      rcases h with ⟨_,A,B,C⟩ | ⟨_,A,B,C⟩
      · exact .inl ⟨(),A,B,c.ext C⟩
      · exact .inr ⟨(),A,B,c.ext C⟩) ?_ ?_
  ·intro _ bL;refine Ep<|WE.bS ?_;refine bE λk c=>?_;have c:=Ws.dB (L:=[_,_,_,_,_,_]) c;refine .inr ⟨(5,(ah.bZ (ah.aV s) aD.2)),O,?_,c⟩;unfold aah cX;rw [show s.pu.aV=(ah.aV s).pu from rfl];simp only [l,m,n,t,u,v,z,E,J,K,M,N,P,S,T,V,W,al,ax,aG,dV,Z9,Z'];rw [a0]
   show (if s.out.length=200 then _ else _)=_
   rw [ZZ (by simp at bL; omega)]
  intro _ bL;refine ad ?_
  have cl:¬s.out.length=200:=by simp at bL; omega
  refine Cr<|ac O<|ac O<|I (bw O)<|I (Yf pf O)<|I (Yf sM O)<|I (Yd 0 O O O ab)<|ac O ?_;refine Lb Y O gm O O O O λcF=>?_;refine LA (xs:=s.out) aD.1 4 0 Y O gm O O O O O O aa aa λcm cn=>?_;refine I (bw O)<|I (Yf pf O)<|I (Yf sM O)<|aT 1 Y O O O jW O O O<|Ln<|Eb ?_;refine E0 O λk c=>?_;have c:=c.aj 6 rfl;have c:=c.aj 6 rfl;have c:=c.aj 6 rfl;have c:=c.aj 6 rfl;have c:=c.aj 6 rfl;have c:=c.aj 6 rfl;have c:=Ws.dB (L:=[_,_,_,_,_,_]) c;refine .inl ⟨((),{ (ah.bZ (ah.aV s) aD.2) with out:=s.out++[aD.1],oa:=cm,oc:=cn }),O,⟨?_,⟨D.bg,ck.ak,D.kk,by show (s.out++[aD.1]).length<=200; simp; omega,D.aap⟩⟩,c⟩;unfold aah cX;rw [show s.pu.aV=(ah.aV s).pu from rfl];simp only [l,m,n,t,u,v,z,E,J,K,M,N,P,S,T,V,W,al,ax,aG,dV,Z9,Z'];rw [a0]
  show (if s.out.length=200 then _ else _)=_
  rw [ZX cl]
  rfl
 refine ae<|I (bz O O)<|ag O<|ad ?_;refine Cc O (λbM=>?_)<|λbM=>?_
 ·refine Cr ?_
  refine c' (ι:=Unit) (κ:=Unit) [] _ Y O aF O O (λ_=>.tuple #[]) (λ_=>[]) (λ_=>(true)=false) (λ_=>ee 0) (λ_=>[]) (λ_=>(true)=true) ([]) ai (λw c=>(nN _ 0 w).mono λe k h=>by
      rcases h with ⟨_,A,B,C⟩ | ⟨_,A,B,C⟩
      · exact .inl ⟨(),A,B,c.ext C⟩
      · exact .inr ⟨(),A,B,c.ext C⟩) ?_ ?_
  ·intro _ bP;refine WE.bS ?_;refine bE λk c=>?_;have c:=c.aj 6 rfl;have c:=c.aj 6 rfl;have c:=c.aj 6 rfl;have c:=c.aj 6 rfl;have c:=c.aj 6 rfl;have c:=c.aj 6 rfl;have c:=Ws.dB (L:=[_,_,_,_,_,_]) c;refine .inr ⟨(0,(ah.aV s)),O,?_,c⟩;unfold aah cX;rw [show s.pu.aV=(ah.aV s).pu from rfl];simp only [l,m,n,t,u,v,z,E,J,K,M,N,P,S,T,V,W,al,ax,aG,bM,dV,Z9,Z']
   all_goals rfl
  intro _ bP;refine Ln<|Eb ?_;refine E0 O λk c=>?_;cases bP
 refine Ck<|Eb ?_;refine E0 O λk c=>?_;have c:=c.aj 6 rfl;have c:=c.aj 6 rfl;have c:=c.aj 6 rfl;have c:=c.aj 6 rfl;have c:=c.aj 6 rfl;have c:=c.aj 6 rfl;have c:=Ws.dB (L:=[_,_,_,_,_,_]) c;refine .inl ⟨((),(ah.aV s)),O,⟨?_,D⟩,c⟩;unfold aah cX;rw [show s.pu.aV=(ah.aV s).pu from rfl];simp only [l,m,n,t,u,v,z,E,J,K,M,N,P,S,T,V,W,al,ax,aG,bM,dV,Z9,Z']
 all_goals rfl
end Go.Proofs.YtgeahfjicmlocaaGreatDoor.Mch
end
section
namespace Go.Proofs.YtgeahfjicmlocaaGreatDoor.Mch
open Go.Bw Go.Proofs.Tryz
def Tm {P:Program} {l:List (Nat×Value)} {W:World->Prop} {d:Option Tmp} {ty:TypeId} {pos:String} {af:Array Edge} {g:Option (Nat×Bool)} {x:Operand} {t u:TypeId} {v:Value} (h:∀(w:World) (v:Value),(Instr.typeAssert (.iface t v) u t true).run P w = .ok (.tuple #[v,.bool true]) w) (a:bK l x=some (.iface t v)) :
   Yl P l W ⟨d,.typeAssert x u t true,ty,pos,af,g⟩ (.tuple #[v,.bool true]):=λc w b _=>by
 simp only [execOp,b x _ a,Sem.run_bind,h w v,Result.andThen_ok,Sem.run_pure]
def Tn (e:Int) (s:ah):Obj:=.cells #[.int .i64 e,.slice s.oa s.out.length s.oc,.slice s.da s.data.length s.dc,.int .i64 s.aM] 64 (0,0)
def To:∀(w:World) (v:Value),(Instr.typeAssert (.iface 165 v) 20 165 true).run prog w = .ok (.tuple #[v,.bool true]) w:=λw v=>by kernel_rfl
def lx:hr prog 64=some 4:=ab
def Tp:aJ prog 165=some 1:=ab
def Tq:au prog 165 0=some 0:=ab
def zv:au prog 64 0=some 0:=ab
def CD:au prog 163 2=some 2:=ab
def pg:aJ prog 64=some 4:=ab
def l6:aJ prog 30=some 1:=ab
def mN (b c f g a:Nat) (s:ah) (x:Int) (k l m n o p:Value) (w:World) (r:Ws w ([aq b (.cells #[.pointer (some ⟨a,0,none⟩)] 159 (0,0)),aq c (.cells #[k,l,m,n] 64 (0,0)),aq f (.cells #[o] 3 (0,0)),aq g (.cells #[p] 30 (0,0)),aq a s.obj].flatMap aQ.ids) [aq b (.cells #[.pointer (some ⟨a,0,none⟩)] 159 (0,0)),aq c (.cells #[k,l,m,n] 64 (0,0)),aq f (.cells #[o] 3 (0,0)),aq g (.cells #[p] 30 (0,0)),aq a s.obj] [] w) :
   CallsD prog 83 #[.pointer (some ⟨b,0,none⟩),.pointer (some ⟨c,0,none⟩),.pointer (some ⟨f,0,none⟩),.pointer (some ⟨g,0,none⟩)] (.panicking [⟨.iface 165<|.agg #[.int .i64 x],false,false⟩]) w λe u t=>u = .panicking [⟨.iface 165<|.agg #[.int .i64 x],true,false⟩]/\(e = .returned (.tuple #[])/\Ws w ([aq b (.cells #[.pointer (some ⟨a,0,none⟩)] 159 (0,0)),aq c (.cells #[k,l,m,n] 64 (0,0)),aq f (.cells #[o] 3 (0,0)),aq g (.cells #[p] 30 (0,0)),aq a s.obj].flatMap aQ.ids) [aq b (.cells #[.pointer (some ⟨a,0,none⟩)] 159 (0,0)),aq c (Tn x s),aq f (.cells #[.int .i64 s.steps] 3 (0,0)),aq g (.cells #[.int .i64 0] 30 (0,0)),aq a (mc s.obj 6 [.int .i64 x])] [] t):=by
 refine ix func83 O 31 O O O O O (λ_=>rfl) (.inr ⟨_,O,O,O⟩) ?_;refine LW (W':=Ws w ([aq b (.cells #[.pointer (some ⟨a,0,none⟩)] 159 (0,0)),aq c (.cells #[k,l,m,n] 64 (0,0)),aq f (.cells #[o] 3 (0,0)),aq g (.cells #[p] 30 (0,0)),aq a s.obj].flatMap aQ.ids) [aq b (.cells #[.pointer (some ⟨a,0,none⟩)] 159 (0,0)),aq c (.cells #[k,l,m,n] 64 (0,0)),aq f (.cells #[o] 3 (0,0)),aq g (.cells #[p] 30 (0,0)),aq a s.obj] []) (λ_ e=>by subst e; exact r) ?_;refine ag O<|ad<|ae<|ac O<|I (Tm To O)<|ac O<|I (Yx O O)<|I (Yx O O) ?_;refine Al Y O L6 λy=>?_;refine aT 0 Y O O O Tp O O O<|ag O<|ad<|ae<|ac O<|ad ?_;refine WC.AP O ?_;refine ae<|I (Yd 1 O O O ab)<|I (Yf Tq O)<|I (Yd 0 O O (v:=.int .i64 x) O ab)<|I (bw O)<|I (Yf pf O)<|I (Yf zv O)<|aT 5 Y O O O dL O O O ?_;refine dk 5 (mc s.obj 6 [.int .i64 x]) O O<|ad ?_;refine CU (λ_=>true) [] [8,9,10] (.q true 0<|.q false 1<|.q false 2<|.q true 3<|.q true 4<|.q false 5<|.q false 6<|.q true 7 .nil) mixed ab (λ_ _ _ d _ _ h=>by cases d<;>exact h) ?_;refine U0 O ay (Yd 1 O O O ab)<|U0 O ay (bw O)<|U0 O ay (Yf pf O) ?_
 refine U0 O ay (AW lx O (cs:=[.int .i64 x,.slice s.oa s.out.length s.oc,.slice s.da s.data.length s.dc,.int .i64 s.aM]) O (λw r j v hv=>by
   refine cell_of_heap (r.kn _<|aY (i:=5) O) ?_
   match j,hv with
   | 0,hv=>exact hv
   | 1,hv=>exact hv
   | 2,hv=>exact hv
   | 3,hv=>exact hv)) ?_
 refine U0 O ay (Yd 1 O O O ab)<|U0 O ay (bw O)<|U0 O ay (Yf CD O)<|U0 O ay (Yd 5 O O O ab) ?_;refine WU.nil ay ?_;refine WS.e O ?_;refine aT 2 Y O O O pg O O O<|Ln<|Es ?_;refine WS.e O ?_;refine aT 3 Y O O O dL O O O<|Ln<|Es ?_;refine WS.e O ?_;refine aT 4 Y O O O l6 O O O<|Ln<|Es ?_;refine WS.nil ?_;refine E0 O λt r=>?_;exact ⟨O,Wd 1 r⟩
end Go.Proofs.YtgeahfjicmlocaaGreatDoor.Mch
end
section
namespace Go.Proofs.YtgeahfjicmlocaaGreatDoor.Mch
open Go.Bw Go.Proofs.Tryz
def Rz.st {α:Type} (r:Rz α):Pm:=match r with | .ok _ m=>m | .ov _ m=>m
def Pm.kp (m:Pm):Int×Int:=(m.pc,m.steps)
variable {s_:Int×Int}
def Rz.zw {α β:Type} {r:Rz α} {f:α->Pm->Rz β}  (b:r.st.kp=s_) (c:∀a m,m.kp=s_->(f a m).st.kp=s_):(r.bind f).st.kp=s_:=by
 cases r with
 | ok a m=>exact c a m b
 | ov e m=>exact b
def Gw {α:Type} {c:Prop} [Decidable c] {a b:Rz α}  (d:a.st.kp=s_) (e:b.st.kp=s_):(if c then a else b).st.kp=s_:=by
 split
 · exact d
 · exact e
def CF (m:Pm):(cB m).st.kp=m.kp:=by unfold cB; split<;>rfl
def zx (n:Int) (m:Pm):(eY n m).st.kp=m.kp:=by unfold eY; split<;>rfl
def Mb (m:Pm):(mF m).st.kp=m.kp:=by unfold mF; split<;>rfl
def Tr (op:Int) (m:Pm):(k5 op m).st.kp=m.kp:=by
 unfold k5
 split
 · rfl
 · refine Rz.zw (CF m) λb e d=>Rz.zw (by rw [CF,d]) λa f c=>?_
   split
   · rw [zx,c]
   · split
     · exact c
     · rw [zx,c]
def Ts (a b:Int) (m:Pm):(dD a b m).st.kp=m.kp:=by unfold dD; split<;>rfl
def Tt (to:Int) (m:Pm):(dP to m).st.kp=m.kp:=by
 unfold dP;refine Rz.zw (Mb m) λ_ b a=>?_
 split
 · exact a
 · exact a
def Tu (m:Pm):(rK m).st.kp=m.kp:=by
 unfold rK
 split
 · rfl
 · split<;>rfl
def Mc (m:Pm):(nM m).2.kp=m.kp:=by unfold nM; split<;>rfl
def Tv (i:eP) (m:Pm):(aah i m).st.kp=m.kp:=by
 have b:m.aV.kp=m.kp:=rfl;rw [<-b];unfold aah
 generalize m.aV=m
 unfold cX
 repeat' apply Gw
 all_goals first
   | rfl
   | exact zx _ _
   | exact Tr _ _
   | exact Tt _ _
   | exact Ts _ _ _
   | exact Tu _
   | exact Mb _
   | (rw [zx,Mc]; done)
   | exact Mc _
   | (split<;>rfl)
   | (refine Rz.zw (CF m) λn d a=>?_
      repeat' apply Gw
      all_goals first
        | exact a
        | (rw [zx,a]; done)
        | (refine Rz.zw (by rw [CF,a]) λk e c=>?_
           repeat' apply Gw
           all_goals exact c))
def Pm.tk (m:Pm):Pm:={ m with steps:=IntKind.i64.wrap (m.steps+1) }
def iterM (code:List eP) (aD:Int) (m:Pm):Rz Unit:=if (m.steps==aD)=true then .ov 7 m else if aI m.at_ code.length=true then .ov 6 m.tk else aah (code[m.at_.toNat]?.getD ⟨0,0,0⟩) m.tk
def runK (code:List eP) (aD:Int):Nat->Pm->Int×Pm
 | 0,m=>(7,m)
 | k+1,m=>match iterM code aD m with
   | .ov e m'=>(e,m')
   | .ok _ m'=>runK code aD k m'
def Tw {code:List eP} {aD:Int} {m m':Pm} (d:aD<=134217728) (f:0<=m.steps) (g:m.steps<=aD) (h:iterM code aD m = .ok () m'):m'.steps=m.steps+1/\m.steps<aD:=by
 unfold iterM at h
 split at h
 · cases h
 · rename_i b
   have c:m.steps<aD:=by simp at b; omega
   split at h
   · cases h
   · have a:=Tv (code[m.at_.toNat]?.getD ⟨0,0,0⟩) m.tk
     rw [h] at a;have e:m'.steps=m.tk.steps:=congrArg Prod.snd a;refine ⟨?_,c⟩;rw [e]
     show IntKind.i64.wrap (m.steps+1)=_
     rw [qk aa]
structure kZ where
 fin:Int
 out:List Int
 data:List Int
 aM:Int
deriving DecidableEq
def zy (aM:Int) (bg:List Int) (data:Int):Pm:=⟨0,aM,0,[],[([],0)],bg,[],List.replicate data.toNat 0,0⟩
def l7 (code:List eP) (data:Int) (bg:List Int) (aM steps:Int):Int:=
 if nK code data=0 then if 64<bg.length then 2 else if (((decide (aM<0)||decide (2000<aM))||decide (steps<0))||decide (134217728<steps))=true then 3 else 0 else nK code data
def hQ (code:List eP) (data:Int) (bg:List Int) (aM steps:Int):kZ×Int:=
 if l7 code data bg aM steps=0 then
   let r:=runK code steps (steps.toNat+1) (zy aM bg data)
   (⟨r.1,r.2.out,r.2.data,r.2.aM⟩,r.2.steps)
 else (⟨0,[],[],0⟩,0)
end Go.Proofs.YtgeahfjicmlocaaGreatDoor.Mch
end
section
namespace Go.Proofs.YtgeahfjicmlocaaGreatDoor.Mch
open Go.Bw Go.Proofs.Tryz
abbrev ah.tk (s:ah):ah:={ s with steps:=IntKind.i64.wrap (s.steps+1) }
def ah.r'.tk {a:View} {s:ah} (h:s.r' a):ah.r' a (ah.tk s):=⟨h.bg,h.ak,h.kk,h.out,h.aap⟩
variable {wi:List eP} {aH:Int}
def NC (h:nK wi aH=0):0<=aH/\aH<=512:=by
 unfold nK at h
 split at h
 · cases h
 · split at h
   · cases h
   · split at h
     · cases h
     · rename_i a; simp at a; omega
def zz:madeCells (Value.agg #[.slice none 0 0,.int .i64 0]).cells ((1:Int).toNat*2) = #[.slice none 0 0,.int .i64 0]:=ab
variable {xq CG:Pm}
def CI {e:Int} (k:Nat) (h:iterM wi aH xq = .ov e CG):runK wi aH (k+1) xq=(e,CG):=by simp [runK,h]
def Ty (k:Nat) (h:iterM wi aH xq = .ok () CG):runK wi aH (k+1) xq=runK wi aH k CG:=by simp [runK,h]
def ph:zeroOf prog 64=some (.agg #[.int .i64 0,.slice none 0 0,.slice none 0 0,.int .i64 0]):=ab
def l8:zeroOf prog 3=some (.int .i64 0):=ab
def zA:zeroOf prog 30=some (.int .i64 0):=ab
def t':hr prog 57=some 2:=ab
def t_:gX prog 64=some [(0,1),(1,1),(2,1),(3,1)]:=ab
def xr:gX prog 163=some [(0,1),(1,1),(2,1),(3,1),(4,1),(5,1),(6,4)]:=ab
def xt:zeroOf prog 163=some (.agg #[.int .i64 0,.int .i64 0,.int .i64 0,.slice none 0 0,.slice none 0 0,.slice none 0 0,.int .i64 0,.slice none 0 0,.slice none 0 0,.int .i64 0]):=ab
def vE:zeroOf prog 159=some (.pointer none):=ab
def g2:aJ prog 159=some 1:=ab
set_option maxHeartbeats 4000000 in
def Md (l:View) (a:Option Addr) (c:Nat) (code:List eP) (data:Int) (E:View) (F:Option Addr) (G:Nat) (bg:List Int) (aM steps:Int) (w:World) (aw:Le l w) (S:Sl Gp 3 l a c code) (ax:Le E w) (H:Sl jV 1 E F G bg) :
   Calls prog 20 #[.agg #[.slice a code.length c,.int .i64 data],.slice F bg.length G,.int .i64 aM,.int .i64 steps] w λe p=>∃r:(Option Addr×Nat)×(Option Addr×Nat),e = .returned (.tuple #[.agg #[.int .i64 (hQ code data bg aM steps).1.fin,.slice r.1.1 (hQ code data bg aM steps).1.out.length r.1.2,.slice r.2.1 (hQ code data bg aM steps).1.data.length r.2.2,.int .i64 (hQ code data bg aM steps).1.aM],.int .i64 (hQ code data bg aM steps).2,.int .i64 (l7 code data bg aM steps)])/\Ext w p/\Sl jV 1 (nv w p) r.1.1 r.1.2 (hQ code data bg aM steps).1.out/\Sl jV 1 (nv w p) r.2.1 r.2.2 (hQ code data bg aM steps).1.data:=by
 have aH:=S.cap;have aJ:=S.max;have aK:=H.cap;have aL:=H.max;refine Be func20 O 92 O O ?_;refine CE (Vs:=[l,E]) (Ws.init (by simp [aw,ax]))<|ae ?_;refine WL.box Y O O λZ=>?_;refine Al Y O ph λJ=>?_;refine Al Y O l8 λK=>?_;refine Al Y O zA λL=>?_;refine ad<|Cs<|ae<|I (db 3 O O t' O)<|Lp Y O aF O (λw b=>S6 l a c code data w b.V S)<|ag O<|ad<|ae<|ac O<|I (h9 O O)<|ad ?_;refine Cc O (λaf=>?_)<|λaf=>?_
 ·have M:¬nK code data=0:=by simpa using af
  refine ae<|I (Yb ph t_ O O)<|ac O<|aT 2 Y O O O pg O O O<|aT 1 Y O O O dL O O O<|aT 0 Y O O O l6 O O O<|ad<|am<|Er ?_;refine WE.r9 (uW O (eM 2 O O lx O) (h6 1 O O O ab)<|h6 0 O O O ab) λp b=>?_
  have k:(l7 code data bg aM steps)=nK code data:=by unfold l7; rw [ZX M]
  have t:(hQ code data bg aM steps)=(⟨0,[],[],0⟩,0):=by unfold hQ; rw [k]; simp [M]
  rw [t,k];exact ⟨((none,0),(none,0)),O,b.fr,Sl.nil,Sl.nil⟩
 have M:nK code data=0:=by simpa using af
 have B:=NC M;refine bW<|Cs<|ae<|ac O<|I (Yn e3 O)<|I (eh O O)<|ad ?_;refine Cc O (λak=>?_)<|λak=>?_
 ·have T:64<bg.length:=by simp at ak; omega
  refine ae<|I (Yb ph t_ O O)<|aT 2 Y O O O pg O O O<|aT 1 Y O O O dL O O O<|aT 0 Y O O O l6 O O O<|ad<|am<|Er ?_;refine WE.r9 (uW O (eM 2 O O lx O) (h6 1 O O O ab)<|h6 0 O O O ab) λp b=>?_
  have k:(l7 code data bg aM steps)=2:=by unfold l7; rw [ZZ M,ZZ T]
  have t:(hQ code data bg aM steps)=(⟨0,[],[],0⟩,0):=by unfold hQ; rw [k]; simp
  rw [t,k];exact ⟨((none,0),(none,0)),O,b.fr,Sl.nil,Sl.nil⟩
 have T:¬64<bg.length:=by simp at ak; omega
 refine bW<|Cs<|ae<|ac O<|I (cI O O)<|ac O ?_;apply Lo 2 O O O O Y O O O O O
 ·intro ap;refine Vg (Ym O)<|Vg (eh O O) ?_;exact Gt 2 O O O
 refine ac O ?_;apply Lo 2 O O O O Y O O O O O
 ·intro aN;refine Vg (Ym O)<|Vg (cI O O) ?_;exact Gt 2 O O O
 refine ac O ?_;apply Lo 2 O O O O Y O O O O O
 ·intro aO;refine Vg (Ym O)<|Vg (eh O O) ?_;exact Gt 2 O O O
 refine ad ?_;refine Cc O (λU=>?_)<|λU=>?_
 ·refine ae<|I (Yb ph t_ O O)<|aT 2 Y O O O pg O O O<|aT 1 Y O O O dL O O O<|aT 0 Y O O O l6 O O O<|ad<|am<|Er ?_;refine WE.r9 (uW O (eM 2 O O lx O) (h6 1 O O O ab)<|h6 0 O O O ab) λp b=>?_
  have k:(l7 code data bg aM steps)=3:=by unfold l7; rw [ZZ M,ZX T,ZZ U]
  have t:(hQ code data bg aM steps)=(⟨0,[],[],0⟩,0):=by unfold hQ; rw [k]; simp
  rw [t,k];exact ⟨((none,0),(none,0)),O,b.fr,Sl.nil,Sl.nil⟩
 have k:(l7 code data bg aM steps)=0:=by unfold l7; rw [ZZ M,ZX T,U]; simp
 have au:0<=aM/\aM<=2000/\0<=steps/\steps<=134217728:=by simp at U; omega
 refine bW ?_;refine WC.yG (ι:=(Nat×Nat×Nat)×(View×Option Addr×Nat)) (λq=>[(3,.int .i64 steps),(4,.pointer (some ⟨Z,0,none⟩)),(8,.pointer (some ⟨J,0,none⟩)),(9,.pointer (some ⟨K,0,none⟩)),(10,.pointer (some ⟨L,0,none⟩)),(12,.pointer (some ⟨q.1.2.2,0,none⟩))]) (λq=>Ws w [] [aq q.1.2.2 (.cells #[.pointer (some ⟨q.1.2.1,0,none⟩)] 159 (0,0)),aq q.1.2.1 (.cells #[.int .i64 0,.int .i64 aM,.int .i64 0,.slice none 0 0,.slice (some ⟨q.1.1,0,none⟩) 1 1,.slice q.2.2.1 bg.length q.2.2.2,.int .i64 0,.slice none 0 0,.slice none 0 0,.int .i64 0] 163 (0,0)),aq q.1.1 (.cells #[.slice none 0 0,.int .i64 0] 269 (0,0)),aq L (.cells (Value.cells<|.int .i64 0) 30 (0,0)),aq K (.cells (Value.cells<|.int .i64 0) 3 (0,0)),aq J (.cells (Value.cells<|.agg #[.int .i64 0,.slice none 0 0,.slice none 0 0,.int .i64 0]) 64 (0,0)),aq Z (.cells (Value.agg #[.slice a code.length c,.int .i64 data]).cells 57 (0,0))] [q.2.1,l]) (λq=>Sl jV 1 q.2.1 q.2.2.1 q.2.2.2 bg) ?_ ?_
 ·refine CU (mg [.cell 8 64,.cell 9 3,.cell 10 30]) [] [7] (.q false 0<|.q false 2<|.e 1 (.e 3 (.q false 4<|.e 5 (.e 6 .nil .stop)<|.e 6 (.e 5 .nil .stop) .stop)<|.e 6 (.e 3 (.q false 4<|.e 5 .nil .stop) .stop) .stop)<|.e 3 (.e 1 (.q false 4<|.e 5 (.e 6 .nil .stop)<|.e 6 (.e 5 .nil .stop) .stop)<|.e 6 (.e 1 (.q false 4<|.e 5 .nil .stop) .stop) .stop)<|.e 6 (.e 1 (.e 3 (.q false 4<|.e 5 .nil .stop) .stop)<|.e 3 (.e 1 (.q false 4<|.e 5 .nil .stop) .stop) .stop) .stop) mixed ab (λ_ _ _ _ _ B h=>oR (fn:=f20) [.cell 8 64,.cell 9 3,.cell 10 30] O B h) ?_;refine U0 O ay (Ym O)<|U0 O ay (Ym O) ?_;refine Ue O ay ?_ ?_
  ·refine WL.make Y O vA O O aa aa aa aa λu=>?_;refine dk 0 (.cells #[.slice none 0 0,.int .i64 0] 269 (0,0)) O (by rw [zz])<|Ln<|Eu ?_;refine Ue O (λ_ h=>(Wd 1 h:)) ?_ ?_
   ·refine Ld Y O aF O (λr:Option Addr×Nat=>.slice r.1 bg.length r.2) (λD r=>Sl jV 1 D r.1 r.2 bg) (λw b=>jR E F G bg w b.V H aa) ?_;intro d i W v;refine Ln<|Eu<|U0 O (λ_ h=>(Wv 1 (Wd 1 h):)) (Yb xt xr O O) ?_;refine Ue O (λ_ h=>(Wv 1 (Wd 1 h):)) ?_ ?_
    ·refine WL.box Y O O λn=>?_;refine Ln<|Eu ?_;refine Ue O (λ_ h=>(Wv 1 (Wd 2 h):)) ?_ WU.stop;refine Al Y O vE λo=>?_;refine Ln<|Eu ?_;refine WU.nil (λ_ h=>(Wv 1 (Wd 3 h):)) ?_;refine WS.e O ?_;refine aT 0 Y O O O g2 O O O<|Ln<|Es ?_;refine WS.nil ?_
     exact h' ((u,n,o),d,i.1,i.2) v (λ_ h=>by
       have h:=h.aj 6 rfl;have h:=h.aj 6 rfl;have h:=h.aj 6 rfl;have h:=h.aj 6 rfl;have h:=h.aj 6 rfl;have h:=h.aj 6 rfl;have h:=h.aj 6 rfl;have h:=Ws.aB h (b7:=[d,l]) ai
       exact h)
    refine Ue O (λ_ h=>(Wv 1 (Wd 1 h):)) ?_ WU.stop;refine Al Y O vE λo=>?_;refine Ln<|Eu ?_;refine Ue O (λ_ h=>(Wv 1 (Wd 2 h):)) ?_ WU.stop;refine WL.box Y O O λn=>?_;refine Ln<|Eu ?_;refine WU.nil (λ_ h=>(Wv 1 (Wd 3 h):)) ?_;refine WS.e O ?_;refine aT 1 Y O O O g2 O O O<|Ln<|Es ?_;refine WS.nil ?_
    exact h' ((u,n,o),d,i.1,i.2) v (λ_ h=>by
      have h:=h.aj 6 rfl;have h:=h.aj 6 rfl;have h:=h.aj 6 rfl;have h:=h.aj 6 rfl;have h:=h.aj 6 rfl;have h:=h.aj 5 rfl;have h:=h.aj 6 rfl;have h:=Ws.aB h (b7:=[d,l]) ai
      exact h)
   refine Ue O (λ_ h=>(Wd 1 h:)) ?_ WU.stop;refine Al Y O vE λo=>?_;refine Ln<|Eu ?_;refine Ue O (λ_ h=>(Wd 2 h:)) ?_ WU.stop;refine Ld Y O aF O (λr:Option Addr×Nat=>.slice r.1 bg.length r.2) (λD r=>Sl jV 1 D r.1 r.2 bg) (λw b=>jR E F G bg w b.V H aa) ?_;intro d i W v;refine Ln<|Eu<|U0 O (λ_ h=>(Wv 1 (Wd 2 h):)) (Yb xt xr O O) ?_;refine Ue O (λ_ h=>(Wv 1 (Wd 2 h):)) ?_ WU.stop;refine WL.box Y O O λn=>?_;refine Ln<|Eu ?_;refine WU.nil (λ_ h=>(Wv 1 (Wd 3 h):)) ?_;refine WS.e O ?_;refine aT 1 Y O O O g2 O O O<|Ln<|Es ?_;refine WS.nil ?_
   exact h' ((u,n,o),d,i.1,i.2) v (λ_ h=>by
     have h:=h.aj 6 rfl;have h:=h.aj 6 rfl;have h:=h.aj 6 rfl;have h:=h.aj 6 rfl;have h:=h.aj 6 rfl;have h:=h.aj 5 rfl;have h:=h.aj 6 rfl;have h:=Ws.aB h (b7:=[d,l]) ai
     exact h)
  refine Ue O ay ?_ ?_
  ·refine Ld Y O aF O (λr:Option Addr×Nat=>.slice r.1 bg.length r.2) (λD r=>Sl jV 1 D r.1 r.2 bg) (λw b=>jR E F G bg w b.V H aa) ?_;intro d i W v;refine Ln<|Eu ?_;refine Ue O (λ_ h=>(Wv 1 h:)) ?_ ?_
   ·refine WL.make Y O vA O O aa aa aa aa λu=>?_;refine dk 0 (.cells #[.slice none 0 0,.int .i64 0] 269 (0,0)) O (by rw [zz])<|Ln<|Eu<|U0 O (λ_ h=>(Wv 1 (Wd 1 h):)) (Yb xt xr O O) ?_;refine Ue O (λ_ h=>(Wv 1 (Wd 1 h):)) ?_ ?_
    ·refine WL.box Y O O λn=>?_;refine Ln<|Eu ?_;refine Ue O (λ_ h=>(Wv 1 (Wd 2 h):)) ?_ WU.stop;refine Al Y O vE λo=>?_;refine Ln<|Eu ?_;refine WU.nil (λ_ h=>(Wv 1 (Wd 3 h):)) ?_;refine WS.e O ?_;refine aT 0 Y O O O g2 O O O<|Ln<|Es ?_;refine WS.nil ?_
     exact h' ((u,n,o),d,i.1,i.2) v (λ_ h=>by
       have h:=h.aj 6 rfl;have h:=h.aj 6 rfl;have h:=h.aj 6 rfl;have h:=h.aj 6 rfl;have h:=h.aj 6 rfl;have h:=h.aj 6 rfl;have h:=h.aj 6 rfl;have h:=Ws.aB h (b7:=[d,l]) ai
       exact h)
    refine Ue O (λ_ h=>(Wv 1 (Wd 1 h):)) ?_ WU.stop;refine Al Y O vE λo=>?_;refine Ln<|Eu ?_;refine Ue O (λ_ h=>(Wv 1 (Wd 2 h):)) ?_ WU.stop;refine WL.box Y O O λn=>?_;refine Ln<|Eu ?_;refine WU.nil (λ_ h=>(Wv 1 (Wd 3 h):)) ?_;refine WS.e O ?_;refine aT 1 Y O O O g2 O O O<|Ln<|Es ?_;refine WS.nil ?_
    exact h' ((u,n,o),d,i.1,i.2) v (λ_ h=>by
      have h:=h.aj 6 rfl;have h:=h.aj 6 rfl;have h:=h.aj 6 rfl;have h:=h.aj 6 rfl;have h:=h.aj 6 rfl;have h:=h.aj 5 rfl;have h:=h.aj 6 rfl;have h:=Ws.aB h (b7:=[d,l]) ai
      exact h)
   refine Ue O (λ_ h=>(Wv 1 h:)) ?_ WU.stop;refine Al Y O vE λo=>?_;refine Ln<|Eu ?_;refine Ue O (λ_ h=>(Wv 1 (Wd 1 h):)) ?_ WU.stop;refine WL.make Y O vA O O aa aa aa aa λu=>?_;refine dk 0 (.cells #[.slice none 0 0,.int .i64 0] 269 (0,0)) O (by rw [zz])<|Ln<|Eu<|U0 O (λ_ h=>(Wv 1 (Wd 2 h):)) (Yb xt xr O O) ?_;refine Ue O (λ_ h=>(Wv 1 (Wd 2 h):)) ?_ WU.stop;refine WL.box Y O O λn=>?_;refine Ln<|Eu ?_;refine WU.nil (λ_ h=>(Wv 1 (Wd 3 h):)) ?_;refine WS.e O ?_;refine aT 2 Y O O O g2 O O O<|Ln<|Es ?_;refine WS.nil ?_
   exact h' ((u,n,o),d,i.1,i.2) v (λ_ h=>by
     have h:=h.aj 6 rfl;have h:=h.aj 6 rfl;have h:=h.aj 6 rfl;have h:=h.aj 6 rfl;have h:=h.aj 5 rfl;have h:=h.aj 5 rfl;have h:=h.aj 6 rfl;have h:=Ws.aB h (b7:=[d,l]) ai
     exact h)
  refine Ue O ay ?_ WU.stop;refine Al Y O vE λo=>?_;refine Ln<|Eu ?_;refine Ue O (λ_ h=>(Wd 1 h:)) ?_ ?_
  ·refine WL.make Y O vA O O aa aa aa aa λu=>?_;refine dk 0 (.cells #[.slice none 0 0,.int .i64 0] 269 (0,0)) O (by rw [zz])<|Ln<|Eu ?_;refine Ue O (λ_ h=>(Wd 2 h:)) ?_ WU.stop;refine Ld Y O aF O (λr:Option Addr×Nat=>.slice r.1 bg.length r.2) (λD r=>Sl jV 1 D r.1 r.2 bg) (λw b=>jR E F G bg w b.V H aa) ?_;intro d i W v;refine Ln<|Eu<|U0 O (λ_ h=>(Wv 1 (Wd 2 h):)) (Yb xt xr O O) ?_;refine Ue O (λ_ h=>(Wv 1 (Wd 2 h):)) ?_ WU.stop;refine WL.box Y O O λn=>?_;refine Ln<|Eu ?_;refine WU.nil (λ_ h=>(Wv 1 (Wd 3 h):)) ?_;refine WS.e O ?_;refine aT 2 Y O O O g2 O O O<|Ln<|Es ?_;refine WS.nil ?_
   exact h' ((u,n,o),d,i.1,i.2) v (λ_ h=>by
     have h:=h.aj 6 rfl;have h:=h.aj 6 rfl;have h:=h.aj 6 rfl;have h:=h.aj 6 rfl;have h:=h.aj 5 rfl;have h:=h.aj 5 rfl;have h:=h.aj 6 rfl;have h:=Ws.aB h (b7:=[d,l]) ai
     exact h)
  refine Ue O (λ_ h=>(Wd 1 h:)) ?_ WU.stop;refine Ld Y O aF O (λr:Option Addr×Nat=>.slice r.1 bg.length r.2) (λD r=>Sl jV 1 D r.1 r.2 bg) (λw b=>jR E F G bg w b.V H aa) ?_;intro d i W v;refine Ln<|Eu ?_;refine Ue O (λ_ h=>(Wv 1 (Wd 1 h):)) ?_ WU.stop;refine WL.make Y O vA O O aa aa aa aa λu=>?_;refine dk 0 (.cells #[.slice none 0 0,.int .i64 0] 269 (0,0)) O (by rw [zz])<|Ln<|Eu<|U0 O (λ_ h=>(Wv 1 (Wd 2 h):)) (Yb xt xr O O) ?_;refine Ue O (λ_ h=>(Wv 1 (Wd 2 h):)) ?_ WU.stop;refine WL.box Y O O λn=>?_;refine Ln<|Eu ?_;refine WU.nil (λ_ h=>(Wv 1 (Wd 3 h):)) ?_;refine WS.e O ?_;refine aT 2 Y O O O g2 O O O<|Ln<|Es ?_;refine WS.nil ?_
  exact h' ((u,n,o),d,i.1,i.2) v (λ_ h=>by
    have h:=h.aj 6 rfl;have h:=h.aj 6 rfl;have h:=h.aj 6 rfl;have h:=h.aj 6 rfl;have h:=h.aj 5 rfl;have h:=h.aj 5 rfl;have h:=h.aj 6 rfl;have h:=Ws.aB h (b7:=[d,l]) ai
    exact h)
 intro q az;refine Cs ?_;refine CU (mg [.cell 8 64,.cell 9 3,.cell 10 30]) [] [7] (.q true 0<|.q false 1<|.q true 2<|.e 3 (.q false 4<|.q false 5<|.q false 6 .nil) .stop) mixed ab (λ_ _ _ _ _ B h=>oR (fn:=f20) [.cell 8 64,.cell 9 3,.cell 10 30] O B h) ?_;refine U0 O ay (Yd 0 O O O ab)<|U0 O ay (Yf zn O)<|U0 O ay (Yd 6 O O O ab) ?_;refine Ue O ay ?_ WU.stop;refine WL.make Y O gm O O aa aa aa aa λav=>?_;refine dk 0 (.cells ((List.replicate data.toNat (0:Int)).flatMap iv).toArray 3 (0,0)) O (by rw [Gr])<|Ln<|Eu<|U0 O (λ_ h=>(Wd 1 h:)) (bw O)<|U0 O (λ_ h=>(Wd 1 h:)) (Yf pf O)<|U0 O (λ_ h=>(Wd 1 h:)) (Yf eq O) ?_;refine WU.nil (λ_ h=>(Wd 1 h:)) ?_;refine WS.e O ?_;refine aT 2 Y O O O jW O O O<|Ln<|Es ?_;refine WS.nil ?_;refine Et<|ae<|I (wF O) ?_;refine WL.defer Y O ?_;refine ad<|Cb ?_
 refine ey (ι:=ah) (λs=>[]) [(3,_),(4,_),(8,_),(9,_),(10,_),(12,_)] (λs=>Ws w [] (ah.own q.1.2.1 s++[aq q.1.2.2 (.cells #[.pointer (some ⟨q.1.2.1,0,none⟩)] 159 (0,0)),aq L (.cells (Value.cells<|.int .i64 0) 30 (0,0)),aq K (.cells (Value.cells<|.int .i64 0) 3 (0,0)),aq J (.cells (Value.cells<|.agg #[.int .i64 0,.slice none 0 0,.slice none 0 0,.int .i64 0]) 64 (0,0)),aq Z (.cells (Value.agg #[.slice a code.length c,.int .i64 data]).cells 57 (0,0))]) [q.2.1,l]) (λs=>s.r' q.2.1/\0<=s.steps/\s.steps<=steps/\runK code steps ((steps-s.steps).toNat+1) s.pu=runK code steps (steps.toNat+1) (zy aM bg data)) (λs=>(steps-s.steps).toNat) ({ at_:=0,pc:=aM,steps:=0,stack:=[],cv:=[⟨none,0,[],0⟩],bg:=bg,out:=[],data:=List.replicate data.toNat 0,aM:=0,sa:=none,sc:=0,fa:=some ⟨q.1.1,0,none⟩,fc:=1,ia:=q.2.2.1,ic:=q.2.2.2,oa:=none,oc:=0,da:=some ⟨av,0,none⟩,dc:=data.toNat }:ah) ⟨⟨az,ai,ai,ai,by simp; omega⟩,AK _,au.2.2.1,by simp; rfl⟩ (λ_ h=>by
   have h:=h.mQ (f:=iv) (c:=data.toNat) 0 rfl h4 ai (by unfold maxLen; omega);have h:=h.mQ (f:=fv.cells) (xs:=[⟨none,0,[],0⟩]) (c:=1) 3 rfl fv.cD rfl a8;have h:=h.nn 2 rfl (show _=aq q.1.2.1 (ah.obj ({ at_:=0,pc:=aM,steps:=0,stack:=[],cv:=[⟨none,0,[],0⟩],bg:=bg,out:=[],data:=List.replicate data.toNat 0,aM:=0,sa:=none,sc:=0,fa:=some ⟨q.1.1,0,none⟩,fc:=1,ia:=q.2.2.1,ic:=q.2.2.2,oa:=none,oc:=0,da:=some ⟨av,0,none⟩,dc:=data.toNat }:ah)) by simp [ah.obj,mc,aZ]);have h:=h.g4 3 1;have h:=h.g4 3 1;have h:=h.Fv;have h:=h.I5 0 rfl 3 1;have h:=h.aj 0 rfl;have h:=h.aj 3 rfl;have h:=h.aj 2 rfl;have h:=h.aj 6 rfl;have h:=h.aj 4 rfl;have h:=h.aj 6 rfl
   exact h) ?_
 intro s ⟨ap,aA,aC,Q⟩;refine Cb<|ae<|I (Yd 6 O O O ab)<|I (bw O)<|I (Yf CD O)<|I (Yd 0 O O O ab)<|ac O<|I (bz O O) ?_
 refine c' (ι:=Unit) (κ:=Unit) [] _ Y O aF O O (λ_=>.tuple #[]) (λ_=>[]) (λ_=>(s.steps==steps)=false) (λ_=>ee 7) (λ_=>[]) (λ_=>(s.steps==steps)=true) ([]) ai (λw b=>(nN _ 7 w).mono λe p h=>by
     rcases h with ⟨_,y,z,A⟩ | ⟨_,y,z,A⟩
     · exact .inl ⟨(),y,z,b.ext A⟩
     · exact .inr ⟨(),y,z,b.ext A⟩) ?_ ?_
 ·intro _ N;refine Ep<|WE.bS<|Ep<|WE.bS ?_;refine WE.front 0 O ?_;refine WE.front 7 O ?_;refine WE.front 8 O ?_;refine WE.front 9 O ?_;refine WE.front 9 O ?_;refine WE.qo aF (cO [_,_,_,_,_] _ _ O<|λw b=>mN q.1.2.2 J K L q.1.2.1 s 7 _ _ _ _ _ _ w b) (uW O (eM 1 O O lx O) (h6 2 O O O ab)<|h6 3 O O O ab) λp b=>?_
  have C:iterM code steps s.pu = .ov 7 s.pu:=by unfold iterM; rw [ZZ (show (s.pu.steps==steps)=true from N)]
  have t:(hQ code data bg aM steps)=(⟨7,s.out,s.data,s.aM⟩,s.steps):=by
    unfold hQ;rw [ZZ k,<-Q,CI _ C]
    rfl
  rw [t,k];exact ⟨((s.oa,s.oc),(s.da,s.dc)),O,b.fr,b.hW 7 O h4 pX,b.hW 8 O h4 pX⟩
 intro _ N;refine ad<|ae<|I (Yd 6 O O O ab)<|I (bw O)<|I (Yf CD O)<|I (Yd 0 O O O ab)<|I (r3 O O)<|I (bw O)<|I (Yf CD O) ?_;refine aT 0 Y O O O dL O O O<|dk 0 (ah.obj<|ah.tk s) O O<|ad<|Cs ?_
 rcases Int.lt_or_le s.at_ 0 with R | R
 ·skip
  refine CU (mg [.cell 8 64,.cell 9 3,.cell 10 30]) [] [] (.q true 0<|.q false 1<|.q false 2<|.q true 3<|.q false 4<|.q false 5<|.q false 6<|.q false 7<|.q false 8<|.q false 9<|.q false 10<|.q false 11<|.q false 12<|.q false 13<|.q false 14<|.e 15 .nil .stop) mixed ab (λ_ _ _ _ _ B h=>oR (fn:=f20) [.cell 8 64,.cell 9 3,.cell 10 30] O B h) ?_;refine U0 O ay (Yd 6 O O O ab)<|U0 O ay (bw O)<|U0 O ay (Yf qO O)<|U0 O ay (Yd 0 O O O ab)<|U0 O ay (P8 O O R)<|U0 O ay (Ym O) ?_;refine WU.skip O O O O O O ay ?_;refine WU.skip O O O O O O ay ?_;refine WU.skip O O O O O O ay ?_;refine WU.skip O O O O O O ay ?_;refine WU.skip O O O O O O ay ?_;refine WU.skip O O O O O O ay ?_;refine WU.skip O O O O O O ay ?_;refine WU.skip O O O O O O ay ?_;refine U0 O ay (Im O O O) ?_;refine Ue O ay ?_ WU.stop
  refine c' (ι:=Unit) (κ:=Unit) [] _ Y O aF O O (λ_=>.tuple #[]) (λ_=>[]) (λ_=>(true)=false) (λ_=>ee 6) (λ_=>[]) (λ_=>(true)=true) ([]) ai (λw b=>(nN _ 6 w).mono λe p h=>by
      rcases h with ⟨_,y,z,A⟩ | ⟨_,y,z,A⟩
      · exact .inl ⟨(),y,z,b.ext A⟩
      · exact .inr ⟨(),y,z,b.ext A⟩) ?_ ?_
  ·intro _ P;refine Ep<|Ep<|WE.bS<|Ep<|WE.bS ?_;refine WE.front 0 O ?_;refine WE.front 7 O ?_;refine WE.front 8 O ?_;refine WE.front 9 O ?_;refine WE.front 9 O ?_;refine WE.qo aF (cO [_,_,_,_,_] _ _ O<|λw b=>mN q.1.2.2 J K L q.1.2.1 (ah.tk s) 6 _ _ _ _ _ _ w b) (uW O (eM 1 O O lx O) (h6 2 O O O ab)<|h6 3 O O O ab) λp b=>?_
   have C:iterM code steps s.pu = .ov 6 (ah.tk s).pu:=by
     unfold iterM;rw [ZX (show ¬(s.pu.steps==steps)=true by rw [show s.pu.steps=s.steps from rfl,N]; simp),ZZ (show aI s.pu.at_ code.length=true by show aI s.at_ code.length=true; unfold aI; simp [R])]
     rfl
   have t:(hQ code data bg aM steps)=(⟨6,(ah.tk s).out,(ah.tk s).data,(ah.tk s).aM⟩,(ah.tk s).steps):=by
     unfold hQ;rw [ZZ k,<-Q,CI _ C]
     rfl
   rw [t,k];exact ⟨(((ah.tk s).oa,(ah.tk s).oc),((ah.tk s).da,(ah.tk s).dc)),O,b.fr,b.hW 7 O h4 pX,b.hW 8 O h4 pX⟩
  intro _ P;cases P
 skip
 refine CU (mg [.cell 8 64,.cell 9 3,.cell 10 30]) [] [] (.q true 0<|.q false 1<|.q false 2<|.q true 3<|.q false 4<|.q false 5<|.q true 6<|.q false 7<|.q false 8<|.q true 9<|.q false 10<|.q true 11<|.q false 12<|.q false 13<|.q false 14<|.e 15 .nil .stop) mixed ab (λ_ _ _ _ _ B h=>oR (fn:=f20) [.cell 8 64,.cell 9 3,.cell 10 30] O B h) ?_;refine U0 O ay (Yd 6 O O O ab)<|U0 O ay (bw O)<|U0 O ay (Yf qO O)<|U0 O ay (Yd 0 O O O ab)<|U0 O ay (P9 O O R)<|U0 O ay (Ym O) ?_;refine Uq O (.g O O O) O ay (Yd 6 O O O ab) ?_;refine Uq O (.g O O O) O ay (bw O) ?_;refine Uq O (.g O O O) O ay (Yf qO O) ?_;refine Uq O (.g O O O) O ay (Yd 0 O O O ab) ?_;refine Uq O (.g O O O) O ay (Yf nL O) ?_;refine Uq O (.g O O O) O ay (Yd 10 O O O ab) ?_;refine Uq O (.g O O O) O ay (Yn kj O) ?_;refine Uq O (.g O O O) O ay (hS O O) ?_;refine U0 O ay (Im O O O) ?_;refine Ue O ay ?_ WU.stop
 refine c' (ι:=Unit) (κ:=Unit) [] _ Y O aF O O (λ_=>.tuple #[]) (λ_=>[]) (λ_=>(decide<|(code.length:Int)<=s.at_)=false) (λ_=>ee 6) (λ_=>[]) (λ_=>(decide<|(code.length:Int)<=s.at_)=true) ([]) ai (λw b=>(nN _ 6 w).mono λe p h=>by
     rcases h with ⟨_,y,z,A⟩ | ⟨_,y,z,A⟩
     · exact .inl ⟨(),y,z,b.ext A⟩
     · exact .inr ⟨(),y,z,b.ext A⟩) ?_ ?_
 ·intro _ P;refine Ep<|Ep<|WE.bS<|Ep<|WE.bS ?_;refine WE.front 0 O ?_;refine WE.front 7 O ?_;refine WE.front 8 O ?_;refine WE.front 9 O ?_;refine WE.front 9 O ?_;refine WE.qo aF (cO [_,_,_,_,_] _ _ O<|λw b=>mN q.1.2.2 J K L q.1.2.1 (ah.tk s) 6 _ _ _ _ _ _ w b) (uW O (eM 1 O O lx O) (h6 2 O O O ab)<|h6 3 O O O ab) λp b=>?_
  have C:iterM code steps s.pu = .ov 6 (ah.tk s).pu:=by
    unfold iterM;rw [ZX (show ¬(s.pu.steps==steps)=true by rw [show s.pu.steps=s.steps from rfl,N]; simp),ZZ (show aI s.pu.at_ code.length=true by show aI s.at_ code.length=true; unfold aI; simp; exact Or.inr (by simpa using P))]
    rfl
  have t:(hQ code data bg aM steps)=(⟨6,(ah.tk s).out,(ah.tk s).data,(ah.tk s).aM⟩,(ah.tk s).steps):=by
    unfold hQ;rw [ZZ k,<-Q,CI _ C]
    rfl
  rw [t,k];exact ⟨(((ah.tk s).oa,(ah.tk s).oc),((ah.tk s).da,(ah.tk s).dc)),O,b.fr,b.hW 7 O h4 pX,b.hW 8 O h4 pX⟩
 intro _ P
 have X:aI s.at_ code.length=false:=by unfold aI; rw [P]; simp; omega
 refine Ln<|Eu ?_;refine WU.nil ay ?_;refine WS.nil ?_;refine Et ?_;obtain ⟨x,al⟩:∃x,code[s.at_.toNat]? = some x:=⟨_,c6 (rL X).2⟩;obtain ⟨pb,aD,aE,an⟩:=S.b5 _ x al;have an:ar l pb (aD+s.at_.toNat*3) x.cells:=an;have aP:=(rL X).2;refine CU (mg [.cell 8 64,.cell 9 3,.cell 10 30]) [] [9] (.q true 0<|.q false 1<|.q true 2<|.q true 3<|.q false 4<|.q false 5<|.q true 6<|.q false 7<|.q true 8 .nil) mixed ab (λ_ _ _ _ _ B h=>oR (fn:=f20) [.cell 8 64,.cell 9 3,.cell 10 30] O B h) ?_;refine U0 O ay (Yd 6 O O O ab)<|U0 O ay (Yf nL O)<|U0 O ay (Yd 10 O O O ab)<|U0 O ay (Yd 6 O O O ab)<|U0 O ay (bw O)<|U0 O ay (Yf qO O)<|U0 O ay (Yd 0 O O O ab)<|U0 O ay (wC kj O O aE R (by show s.at_<(code.length:Int); omega)) ?_;refine U0 O ay (dz 1 xm O O O<|an) ?_;refine WU.nil ay ?_;refine WS.e O ?_;refine c' (ι:=Unit×ah) (κ:=Int×ah) [_,_,_,_,_,_] _ Y O aF O O (λr=>.tuple #[]) (λr=>(ah.own q.1.2.1 r.2)) (λr=>aah x (ah.tk s).pu = .ok r.1 r.2.pu/\r.2.r' q.2.1) (λr=>ee r.1) (λr=>(ah.own q.1.2.1 r.2)) (λr=>aah x (ah.tk s).pu = .ov r.1 r.2.pu) ([q.2.1]) ai (λw b=>Tl q.1.2.1 (ah.tk s) q.2.1 x w ap.tk b) ?_ ?_
 ·intro j ao;refine Ep<|WE.bS<|Ep<|WE.bS ?_;refine WE.front 0 O ?_;refine WE.front 7 O ?_;refine WE.front 8 O ?_;refine WE.front 9 O ?_;refine WE.front 9 O ?_;refine WE.qo aF (cO [_,_,_,_,_] _ _ O<|λw b=>mN q.1.2.2 J K L q.1.2.1 j.2 j.1 _ _ _ _ _ _ w b) (uW O (eM 1 O O lx O) (h6 2 O O O ab)<|h6 3 O O O ab) λp b=>?_
  have C:iterM code steps s.pu = .ov j.1 j.2.pu:=by
    unfold iterM;rw [ZX (show ¬(s.pu.steps==steps)=true by rw [show s.pu.steps=s.steps from rfl,N]; simp),ZX (show ¬aI s.pu.at_ code.length=true by show ¬aI s.at_ code.length=true; rw [X]; simp),show code[s.pu.at_.toNat]? = some x from al];exact ao
  have t:(hQ code data bg aM steps)=(⟨j.1,j.2.out,j.2.data,j.2.aM⟩,j.2.steps):=by
    unfold hQ;rw [ZZ k,<-Q,CI _ C]
    rfl
  rw [t,k];exact ⟨((j.2.oa,j.2.oc),(j.2.da,j.2.dc)),O,b.fr,b.hW 7 O h4 pX,b.hW 8 O h4 pX⟩
 intro j ⟨ao,aG⟩;refine Ln<|Es ?_;refine WS.nil ?_;refine Eb ?_
 have C:iterM code steps s.pu = .ok () j.2.pu:=by
   unfold iterM;rw [ZX (show ¬(s.pu.steps==steps)=true by rw [show s.pu.steps=s.steps from rfl,N]; simp),ZX (show ¬aI s.pu.at_ code.length=true by show ¬aI s.at_ code.length=true; rw [X]; simp),show code[s.pu.at_.toNat]? = some x from al];exact ao
 have aQ:j.2.steps=s.steps+1/\s.steps<steps:=Tw (m:=s.pu) (m':=j.2.pu) au.2.2.2 aA aC C
 exact c8 j.2 aa ⟨aG,aa,aa,by
     rw [<-Q,Ty _ C,show (steps-s.steps).toNat=(steps-j.2.steps).toNat+1 by omega]⟩ ay
end Go.Proofs.YtgeahfjicmlocaaGreatDoor.Mch
end
section
namespace Go.Bw
open Go
def fB {s:Tx} {l q:Tk} (h:bN s l=some q):l.length=q.length+1:=by
 cases l with
 | nil=>cases h
 | cons t r=>
   simp only [bN] at h
   split at h
   · injection h with h; subst h; rfl
   · cases h
variable {aH:Int} {a' bR:Tk}
def Me {t:Tok} (h:nG aH a'=some (t,bR)):a'.length=bR.length+1:=by
 cases a' with
 | nil=>cases h
 | cons t r=>
   simp only [nG] at h
   split at h
   · injection h with h; injection h with b a; subst a; rfl
   · cases h
def eA {a:Tx} (h:gZ a'=some (a,bR)):a.length<=8/\a'.length=bR.length+1:=by
 unfold gZ at h;obtain ⟨⟨t,q⟩,d,b⟩:=cU.1 h;simp only at b
 split at b
 · rename_i c
   simp only [aN,dO] at b;obtain ⟨rfl,rfl⟩:=b;refine ⟨?_,Me d⟩;simp only [hF,gi,dE,aab] at c;exact c.1.1.1.2
 · cases b
def Mf (h:nH a'=some (aH,bR)):a'.length=bR.length+1:=by
 unfold nH at h;obtain ⟨⟨t,q⟩,b,a⟩:=dS.1 h;simp only [dO] at a;obtain ⟨_,rfl⟩:=a;exact Me b
def Mg {p:Tx×Tx} (h:m1 a'=some (p,bR)):p.1.length+p.2.length<=16/\bR.length+1<=a'.length:=by
 unfold m1 at h;obtain ⟨⟨a,q⟩,e,c⟩:=cU.1 h;obtain ⟨i,j⟩:=eA e;simp only at c
 split at c
 · rename_i k f
   obtain ⟨⟨b,l⟩,g,d⟩:=dS.1 c;simp only [dO] at d;obtain ⟨rfl,rfl⟩:=d;obtain ⟨m,n⟩:=eA g;have:=fB f;simp only;omega
 · simp only [aN,dO] at c
   obtain ⟨rfl,rfl⟩:=c;simp only [iT];omega
def WB (a:Tk->Option (bT×Tk)):Prop:=∀l x r,a l=some (x,r)->wE x+18*r.length<=18*l.length
variable {aas:Tk->Option (bT×Tk)}
def Mh (c:WB aas):∀(n:Nat) (l:Tk) (xs:List bT) (r:Tk),mC aas n l=some (xs,r)->Z_ xs+18*r.length<=18*l.length
 | 0,_,_,_,h=>by cases h
 | n+1,l,xs,r,h=>by
   unfold mC at h;obtain ⟨⟨x,q⟩,f,a⟩:=cU.1 h;have j:=c l x q f;simp only at a
   split at a
   · rename_i d b
     simp only [aN,dO] at a;obtain ⟨rfl,rfl⟩:=a;have:=fB b;simp only [Z_];omega
   · split at a
     · rename_i d b
       obtain ⟨⟨ys,g⟩,i,e⟩:=dS.1 a;simp only [dO] at e;obtain ⟨rfl,rfl⟩:=e;have:=fB b;have:=Mh c n d ys g i;simp only [Z_];omega
     · cases a
def Mi (a:WB aas)  {xs:List bT} (h:l4 aas a'=some (xs,bR)):Z_ xs+18*bR.length<=18*a'.length:=by
 unfold l4 at h
 split at h
 · rename_i q b
   simp only [aN,dO] at h;obtain ⟨rfl,rfl⟩:=h;have:=fB b;simp only [Z_];omega
 · exact Mh a _ _ _ _ h
def Mj:∀(a:List Tx) (i k:Nat) (l r:Tk),du a i l=some (k,r)->r.length+1<=l.length
 | [],_,_,_,_,h=>by cases h
 | w::a,i,k,l,r,h=>by
   unfold du at h
   split at h
   · rename_i q b
     simp only [aN,dO] at h;obtain ⟨_,rfl⟩:=h;have:=fB b;omega
   · exact Mj a _ _ _ _ h
variable {iQ:bT}
def Tz (c:WB aas)   (h:nI aas a'=some (iQ,bR)):wE iQ+18*bR.length<=18*a'.length:=by
 unfold nI at h;obtain ⟨⟨a,m⟩,e,f⟩:=cU.1 h;obtain ⟨⟨o,n⟩,g,i⟩:=cU.1 f;obtain ⟨⟨b,p⟩,j,k⟩:=cU.1 i;obtain ⟨q,l,d⟩:=dS.1 k;simp only [dO] at d;obtain ⟨rfl,rfl⟩:=d;have r:=c _ _ _ e;have s:=Mj _ _ _ _ _ g;have t:=c _ _ _ j;have u:=fB l;simp only [wE,Z_,iT] at *;omega
def TA (d:WB aas)  {mod nm:Tx}  (k:mod.length+nm.length<=16) (h:pW aas mod nm a'=some (iQ,bR)):wE iQ+18*bR.length<=17+18*a'.length:=by
 unfold pW at h
 split at h
 · rename_i q b
   obtain ⟨⟨y,f⟩,c,a⟩:=cU.1 h;obtain ⟨l,g,e⟩:=dS.1 a;simp only [dO] at e;obtain ⟨rfl,rfl⟩:=e;have i:=fB b;have j:=d _ _ _ c;have m:=fB g;simp only [wE,Z_] at *;omega
 · split at h
   · rename_i q b
     obtain ⟨⟨xs,f⟩,c,a⟩:=dS.1 h;simp only [dO] at a;obtain ⟨rfl,rfl⟩:=a;have i:=fB b;have j:=Mi d c;simp only [wE] at *;omega
   · simp only [aN,dO] at h
     obtain ⟨rfl,rfl⟩:=h;simp only [wE,Z_] at *;omega
def TB (c:WB aas):WB (oz aas):=by
 intro l x r h;unfold oz at h
 split at h
 · rename_i q a
   simp only [aN,dO] at h;obtain ⟨rfl,rfl⟩:=h;have:=fB a;simp only [wE,Z_,iT];omega
 · split at h
   · rename_i q a
     obtain ⟨⟨y,i⟩,d,b⟩:=dS.1 h;simp only [dO] at b;obtain ⟨rfl,rfl⟩:=b;have e:=fB a;have f:=c _ _ _ d;simp only [wE,Z_,iT];omega
   · split at h
     · rename_i q a
       have e:=fB a;have f:=Tz c h;omega
     · obtain ⟨⟨p,q⟩,d,b⟩:=cU.1 h
       obtain ⟨e,f⟩:=Mg d;have g:=TA c e b;simp only at g;omega
def sh:∀f,WB (bf f)
 | 0=>λ_ _ _ h=>by cases h
 | f+1=>by
   intro l x r h
   cases l with
   | nil=>cases h
   | cons t q=>
     unfold bf at h
     by_cases a:t.kind=2
     · simp only [ZZ a,aN,dO] at h
       obtain ⟨rfl,rfl⟩:=h;simp only [wE,Z_,iT,gf];omega
     · simp only [ZX a] at h
       exact TB (sh f) _ _ _ h
variable {jU:b9}
def TC (h:g0 a'=some (jU,bR)):wS jU+18*bR.length<=18*a'.length:=by
 have c:=sh 6;unfold g0 at h
 split at h
 · rename_i q a
   obtain ⟨⟨x,f⟩,k,b⟩:=dS.1 h;simp only [dO] at b;obtain ⟨rfl,rfl⟩:=b;have n:=fB a;have g:=c _ _ _ k;simp only [wS,Z_,e2,iT];omega
 · split at h
   · rename_i q a
     obtain ⟨⟨x,f⟩,k,b⟩:=dS.1 h;simp only [dO] at b;obtain ⟨rfl,rfl⟩:=b;have n:=fB a;have g:=c _ _ _ k;simp only [wS,Z_,e2,iT];omega
   · obtain ⟨⟨⟨mod,nm⟩,q⟩,b,d⟩:=cU.1 h
     obtain ⟨s,n⟩:=Mg b;simp only at d s
     split at d
     · rename_i f a
       obtain ⟨⟨xs,o⟩,t,e⟩:=dS.1 d;simp only [dO] at e;obtain ⟨rfl,rfl⟩:=e;have g:=fB a;have p:=Mi c t;simp only [wS,e2];omega
     · split at d
       · rename_i f a
         obtain ⟨⟨i,o⟩,e,l⟩:=cU.1 d;obtain ⟨y,m,j⟩:=cU.1 l;obtain ⟨z,u,v⟩:=cU.1 j;obtain ⟨⟨x,A⟩,w,r⟩:=dS.1 v;simp only [dO] at r;obtain ⟨rfl,rfl⟩:=r;have g:=fB a;have p:=c _ _ _ e;have B:=fB m;have C:=fB u;have D:=c _ _ _ w;simp only [wS,Z_,e2] at *;omega
       · obtain ⟨f,e,l⟩:=cU.1 d
         obtain ⟨⟨x,o⟩,m,j⟩:=dS.1 l;simp only [dO] at j;obtain ⟨rfl,rfl⟩:=j;have g:=fB e;have p:=c _ _ _ m;simp only [wS,Z_,e2];omega
def Mk (pb:Tk->Option (List b9×Tk)):Prop:=∀l x r,pb l=some (x,r)->e2 x+18*r.length<=18*l.length
def TD {pb:Tk->Option (List b9×Tk)} (f:Mk pb)   (h:aar pb a'=some (jU,bR)):wS jU+18*bR.length<=18*a'.length:=by
 have k:=sh 6;unfold aar at h
 split at h
 · rename_i q g
   obtain ⟨⟨x,l⟩,i,c⟩:=cU.1 h;obtain ⟨⟨b,r⟩,d,a⟩:=cU.1 c;have m:=fB g;have j:=k _ _ _ i;have n:=f _ _ _ d;simp only at a j n
   split at a
   · rename_i u s
     obtain ⟨⟨o,v⟩,t,e⟩:=cU.1 a;have w:=fB s;have y:=f _ _ _ t;simp only at e
     split at e
     · cases e
     · simp only [aN,dO] at e
       obtain ⟨rfl,rfl⟩:=e;simp only [wS,Z_,iT] at *;omega
   · simp only [aN,dO] at a
     obtain ⟨rfl,rfl⟩:=a;simp only [wS,Z_,e2,iT] at *;omega
 · split at h
   · rename_i q g
     obtain ⟨⟨x,l⟩,i,c⟩:=cU.1 h;obtain ⟨⟨b,r⟩,d,a⟩:=dS.1 c;simp only [dO] at a;obtain ⟨rfl,rfl⟩:=a;have m:=fB g;have j:=k _ _ _ i;have n:=f _ _ _ d;simp only [wS,Z_,e2,iT] at *;omega
   · obtain ⟨⟨z,q⟩,c,d⟩:=cU.1 h
     obtain ⟨l,a,p⟩:=dS.1 d;simp only [dO] at p;obtain ⟨rfl,rfl⟩:=p;have m:=TC c;have j:=fB a;simp only at *;omega
def Ml {ps:Tk->Option (b9×Tk)} (a:∀l x r,ps l=some (x,r)->wS x+18*r.length<=18*l.length):∀(n:Nat) (l:Tk) (xs:List b9) (r:Tk),oA ps n l=some (xs,r)->e2 xs+18*r.length<=18*l.length
 | 0,_,_,_,h=>by cases h
 | n+1,l,xs,r,h=>by
   unfold oA at h
   split at h
   · rename_i q c
     simp only [aN,dO] at h;obtain ⟨rfl,rfl⟩:=h;have:=fB c;simp only [e2];omega
   · obtain ⟨⟨s,q⟩,d,e⟩:=cU.1 h
     obtain ⟨⟨ys,f⟩,g,b⟩:=dS.1 e;simp only [dO] at b;obtain ⟨rfl,rfl⟩:=b;have i:=a _ _ _ d;have j:=Ml a n q ys f g;simp only [e2];omega
def Gy:∀f,Mk (hA f)
 | 0=>λ_ _ _ h=>by cases h
 | f+1=>by
   intro l x r h;unfold hA at h;obtain ⟨q,a,b⟩:=cU.1 h;have d:=fB a;have e:=Ml (λl x r c=>TD (Gy f) c) _ _ _ _ b;omega
def Gz (l:Tk):(ls l).2.length<=l.length:=by
 unfold ls
 cases h:bN Co l with
 | none=>exact cQ _
 | some q=>have:=fB h; simp only [yc]; omega
variable {ax:Bool}
def TE {d:eb} (h:h2 ax a'=some (some d,bR)):1+d.nm.length+18*bR.length<=18*a'.length:=by
 unfold h2 at h
 split at h
 · rename_i q c
   obtain ⟨⟨a,l⟩,u,i⟩:=cU.1 h;obtain ⟨m,e,f⟩:=cU.1 i;obtain ⟨⟨n,v⟩,b,j⟩:=cU.1 f;obtain ⟨w,k,g⟩:=dS.1 j;simp only [dO,aN] at g;obtain ⟨rfl,rfl⟩:=g;have o:=fB c;obtain ⟨p,r⟩:=eA u;have s:=fB e;have x:=Mf b;have y:=fB k;simp only at *;omega
 · split at h
   · rename_i q c
     obtain ⟨⟨a,l⟩,i,e⟩:=cU.1 h;obtain ⟨m,f,b⟩:=dS.1 e;simp only [dO,aN] at b;obtain ⟨rfl,rfl⟩:=b;have o:=fB c;obtain ⟨p,r⟩:=eA i;have s:=fB f;simp only at *;omega
   · split at h
     · rename_i q c
       obtain ⟨⟨a,l⟩,e,f⟩:=cU.1 h;obtain ⟨m,b,j⟩:=cU.1 f;obtain ⟨⟨n,v⟩,k,g⟩:=cU.1 j;obtain ⟨w,z,A⟩:=cU.1 g;obtain ⟨C,B,t⟩:=dS.1 A;simp only [dO,aN] at t;obtain ⟨rfl,rfl⟩:=t;have o:=fB c;obtain ⟨p,r⟩:=eA e;have s:=fB b;have x:=Mf k;have y:=fB z;have D:=fB B;simp only at *;omega
     · simp at h
def Mm:∀(n:Nat) (cZ:Bool) (l:Tk) (ds:List eb) (b:Bool) (r:Tk),oB n cZ l=some ((ds,b),r)->wD ds+18*r.length<=18*l.length
 | 0,_,_,_,_,_,h=>by cases h
 | n+1,cZ,l,ds,b,r,h=>by
   unfold oB at h;obtain ⟨⟨o,q⟩,c,a⟩:=cU.1 h
   cases o with
   | none=>
     have:=Gg c;simp only [aN,dO] at a;obtain ⟨⟨e,_⟩,f⟩:=a;rw [<-e,<-f,this];simp [wD]
   | some x=>
     obtain ⟨⟨⟨ys,pb⟩,i⟩,g,d⟩:=dS.1 a;simp only [dO] at d;obtain ⟨⟨rfl,rfl⟩,rfl⟩:=d;have j:=TE c;have k:=Mm n _ _ _ _ _ g;have m:=Gz q;simp only [wD] at *;omega
def Mn:∀(n:Nat) (first:Bool) (l:Tk) (xs:List Tx) (r:Tk),kg n first l=some (xs,r)->wN xs+18*r.length<=18*l.length
 | 0,_,_,_,_,h=>by cases h
 | n+1,first,l,xs,r,h=>by
   unfold kg at h
   split at h
   · rename_i q e
     simp only [aN,dO] at h;obtain ⟨rfl,rfl⟩:=h;have:=fB e;simp only [wN];omega
   · obtain ⟨c,b,f⟩:=cU.1 h
     obtain ⟨⟨a,q⟩,g,i⟩:=cU.1 f;obtain ⟨⟨ys,j⟩,k,d⟩:=dS.1 i;simp only [dO] at d;obtain ⟨rfl,rfl⟩:=d
     have m:c.length<=l.length:=by
       cases first with
       | true=>simp only [Z',aN] at b; subst b; exact cQ _
       | false=>have:=fB (s:=[44]) (l:=l) (q:=c) b; omega
     obtain ⟨o,p⟩:=eA g;have t:=Mn n false q ys j k;simp only [wN] at *;omega
def Mo:∀(n:Nat) (l:Tk) (xs:List Tx) (r:Tk),mD n l=some (xs,r)->wN xs+18*r.length<=18*l.length
 | 0,_,_,_,h=>by cases h
 | n+1,l,xs,r,h=>by
   unfold mD at h
   split at h
   · rename_i q c
     obtain ⟨⟨a,m⟩,d,e⟩:=cU.1 h;obtain ⟨f,g,i⟩:=cU.1 e;obtain ⟨⟨ys,j⟩,k,b⟩:=dS.1 i;simp only [dO] at b;obtain ⟨rfl,rfl⟩:=b;have o:=fB c;obtain ⟨p,s⟩:=eA d;have t:=fB g;have u:=Mo n f ys j k;simp only [wN] at *;omega
   · simp only [aN,dO] at h
     obtain ⟨rfl,rfl⟩:=h;simp [wN]
def Mp:∀(n:Nat) (l:Tk) (xs:List Tx) (r:Tk),m2 n l=some (xs,r)->wN xs+18*r.length<=18*l.length
 | 0,_,_,_,h=>by cases h
 | n+1,l,xs,r,h=>by
   unfold m2 at h
   split at h
   · rename_i q c
     obtain ⟨⟨a,m⟩,d,e⟩:=cU.1 h;obtain ⟨f,g,i⟩:=cU.1 e;obtain ⟨⟨ys,j⟩,k,b⟩:=dS.1 i;simp only [dO] at b;obtain ⟨rfl,rfl⟩:=b;have o:=fB c;obtain ⟨p,s⟩:=eA d;have t:=fB g;have u:=Mp n f ys j k;simp only [wN] at *;omega
   · simp only [aN,dO] at h
     obtain ⟨rfl,rfl⟩:=h;simp [wN]
def TF {p:f'} (h:kh ax a'=some (p,bR)):p.nm.length+wN p.params+wN p.aC+e2 p.body+18*bR.length<=18*a'.length:=by
 unfold kh at h;obtain ⟨⟨a,n⟩,d,e⟩:=cU.1 h;obtain ⟨o,f,g⟩:=cU.1 e;obtain ⟨⟨ps,q⟩,i,j⟩:=cU.1 g;obtain ⟨⟨r,s⟩,k,l⟩:=cU.1 j;obtain ⟨⟨b,t⟩,m,c⟩:=dS.1 l;simp only [dO] at c;obtain ⟨rfl,rfl⟩:=c;obtain ⟨u,v⟩:=eA d;have w:=fB f;have x:=Mn _ _ _ _ _ i;have y:=Mo _ _ _ _ k;have z:=Gy 6 _ _ _ m;simp only at *;omega
def Mq:∀(n:Nat) (cZ:Bool) (l:Tk) (ds:List f') (a:Bool) (r:Tk),oC n cZ l=some ((ds,a),r)->wP ds+18*r.length<=18*l.length
 | 0,_,_,_,_,_,h=>by cases h
 | n+1,cZ,l,ds,a,r,h=>by
   unfold oC at h
   split at h
   · rename_i q c
     obtain ⟨⟨p,d⟩,e,f⟩:=cU.1 h;obtain ⟨⟨⟨ys,pb⟩,i⟩,g,b⟩:=dS.1 f;simp only [dO] at b;obtain ⟨⟨rfl,rfl⟩,rfl⟩:=b;have j:=fB c;have k:=TF e;have m:=Mq n _ _ _ _ _ g;have o:=Gz d;simp only [wP] at *;omega
   · simp only [aN,dO] at h
     obtain ⟨⟨rfl,rfl⟩,rfl⟩:=h;simp [wP]
def Mr {m:df} (h:lu a'=some (m,bR)):wM m+18*bR.length<=18*a'.length:=by
 unfold lu at h;obtain ⟨p,d,h⟩:=cU.1 h;obtain ⟨⟨a,q⟩,e,h⟩:=cU.1 h;obtain ⟨r,f,h⟩:=cU.1 h;obtain ⟨⟨us,g⟩,i,h⟩:=cU.1 h;obtain ⟨⟨⟨ds,s⟩,t⟩,j,h⟩:=cU.1 h;obtain ⟨⟨⟨ps,u⟩,v⟩,k,h⟩:=cU.1 h;simp only at h
 split at h
 · cases h
 · obtain ⟨w,l,h⟩:=cU.1 h
   obtain ⟨⟨b,x⟩,n,h⟩:=cU.1 h;obtain ⟨y,o,c⟩:=dS.1 h;simp only [dO] at c;obtain ⟨rfl,rfl⟩:=c;have z:=fB d;obtain ⟨A,B⟩:=eA e;have C:=fB f;have D:=Mp _ _ _ _ i;have E:=Mm _ _ _ _ _ _ j;have F:=Gz g;have G:=Mq _ _ _ _ _ _ k;have H:=fB l;have I:=Gy 6 _ _ _ n;have J:=fB o;simp only [wM] at *;omega
end Go.Bw
end
section
namespace Go.Bw
open Go
def Ms (l:Tk):Prop:=∀t ∈ l,t.kind=1->t.text.length<=8
structure vG (l r:Tk):Prop where
 ok:Ms r
 le:r.length<=l.length
def vG.trans {a b c:Tk} (h:vG a b) (g:vG b c):vG a c:=⟨g.ok,ea g.le h.le⟩
structure ZO (l:Tk) (p:bT×Tk):Prop extends vG l p.2 where
 w:wE p.1+40*p.2.length<=20+40*l.length
structure ZP (l:Tk) (p:b9×Tk):Prop extends vG l p.2 where
 w:wS p.1+80*p.2.length<=80*l.length\/(p.2.length=l.length/\wS p.1<=40)
structure TG (l:Tk) (p:List b9×Tk):Prop extends vG l p.2 where
 w:e2 p.1+80*p.2.length<=80*l.length
def TH (pb:Tk->List b9×Tk):Prop:=∀l,Ms l->TG l (pb l)
def Mt (P:Program) (f:FuncId) (vs:List Value) (a:List aQ) (b7:List View) {ι:Type} (v:ι->Value) (b:ι->List aQ) (R:ι->Prop):Prop:=
 Enters P f/\∀w,Ws w (a.flatMap aQ.ids) a b7 w->Calls P f vs.toArray w λe c=>∃i,e = .returned (v i)/\R i/\Ws w (a.flatMap aQ.ids) (b i) b7 c
def vH (P:Program) (f:FuncId) (vs:List Value) (a:List aQ) (b7:List View) {ι κ:Type} (v:ι->Value) (c:ι->List aQ) (R:ι->Prop) (d:κ->List PanicEntry) (Lp:κ->List aQ) (g:κ->Prop):Prop:=
 Enters P f/\∀w,Ws w (a.flatMap aQ.ids) a b7 w->Calls P f vs.toArray w λe b=>(∃i,e = .returned (v i)/\R i/\Ws w (a.flatMap aQ.ids) (c i) b7 b)\/(∃j,e = .panicked (d j)/\g j/\Ws w (a.flatMap aQ.ids) (Lp j) b7 b)
def TI (P:Program) (f:FuncId) (vs:List Value) (a:List aQ) (b7:List View) {ι:Type} (v:ι->Value) (b:ι->List aQ) (R:View->ι->Prop):Prop:=
 (Enters P f/\∀i,∀k ∈ (b i).flatMap aQ.ids,k ∈ a.flatMap aQ.ids)/\∀w,Ws w (a.flatMap aQ.ids) a b7 w->Calls P f vs.toArray w λe c=>∃i,e = .returned (v i)/\R (nv w c) i/\Ws w (a.flatMap aQ.ids) (b i) b7 c
def Mu (P:Program) (f:FuncId) (vs:List Value) (a:List aQ) (b7:List View) {ι κ:Type} (v:ι->Value) (c:ι->List aQ) (R:View->ι->Prop) (d:κ->List PanicEntry) (Lp:κ->List aQ) (g:κ->Prop):Prop:=
 (Enters P f/\∀i,∀k ∈ (c i).flatMap aQ.ids,k ∈ a.flatMap aQ.ids)/\∀w,Ws w (a.flatMap aQ.ids) a b7 w->Calls P f vs.toArray w λe b=>(∃i,e = .returned (v i)/\R (nv w b) i/\Ws w (a.flatMap aQ.ids) (c i) b7 b)\/(∃j,e = .panicked (d j)/\g j/\Ws w (a.flatMap aQ.ids) (Lp j) b7 b)
section
variable {P:Program} {ops:Array Oper} {Q:Exit->Act->World->Prop} {n:Nat} {ds:List Deferred} {l:List (Nat×Value)} {w0:World} {F:List Nat} {L:List aQ} {Vs:List View}
 {rest:List Oper} {d:Nat} {ty:TypeId} {pos:String} {af:Array Edge} {g:Option (Nat×Bool)} {ι κ:Type} {f:FuncId} {args:Array Operand} {ts:Array TypeId} {vs:List Value} {L1 L2:List aQ} {b7:List View}
 {v:ι->Value} {p0:ι->List aQ} {ch:κ->List PanicEntry} {Lp:κ->List aQ} {Rp:κ->Prop}
def WL.kw {R:ι->Prop} (hC:Mt P f vs L1 b7 v p0 R) (a:∀i,R i->WL P ops Q n ds ((d,v i)::l) (Ws w0 F (p0 i++L2) Vs) rest)
   (b:ip l args.toList=some vs:=by rfl) (hL:L=L1++L2:=by rfl) (c:∀e ∈ b7,e ∈ Vs:=by simp) (h:aK ops l g:=by first | exact .inl rfl | exact .inr ⟨_,_,_,rfl,rfl,rfl⟩) (j:Nat.blt d n=true:=by rfl) :
   WL P ops Q n ds l (Ws w0 F L Vs) (⟨some d,.call ⟨.value<|.func f,args,ts⟩,ty,pos,af,g⟩::rest):=Lw L1 L2 h j hC.1 b hL v p0 R b7 c hC.2 a
def WL.kx {R:ι->Prop} (hC:vH P f vs L1 b7 v p0 R ch Lp Rp) (a:∀j,Rp j->WE Q (.panic<|ch j) n ds l (Ws w0 F (Lp j++L2) Vs)) (b:∀i,R i->WL P ops Q n ds ((d,v i)::l) (Ws w0 F (p0 i++L2) Vs) rest)
   (c:ip l args.toList=some vs:=by rfl) (hL:L=L1++L2:=by rfl) (e:∀h ∈ b7,h ∈ Vs:=by simp) (k:aK ops l g:=by first | exact .inl rfl | exact .inr ⟨_,_,_,rfl,rfl,rfl⟩) (m:Nat.blt d n=true:=by rfl) :
   WL P ops Q n ds l (Ws w0 F L Vs) (⟨some d,.call ⟨.value<|.func f,args,ts⟩,ty,pos,af,g⟩::rest):=c' L1 L2 k m hC.1 c hL v p0 R ch Lp Rp b7 e hC.2 a b
def WL.kd {R:View->ι->Prop} (hC:TI P f vs L1 b7 v p0 R) (b:∀a i,gw w0 a->R a i->WL P ops Q n ds ((d,v i)::l) (Ws w0 F (p0 i++L2)<|a::Vs) rest)
   (c:ip l args.toList=some vs:=by rfl) (hL:L=L1++L2:=by rfl) (e:∀a ∈ b7,a ∈ Vs:=by simp) (h:aK ops l g:=by first | exact .inl rfl | exact .inr ⟨_,_,_,rfl,rfl,rfl⟩) (j:Nat.blt d n=true:=by rfl) :
   WL P ops Q n ds l (Ws w0 F L Vs) (⟨some d,.call ⟨.value<|.func f,args,ts⟩,ty,pos,af,g⟩::rest):=Qx L1 L2 h j hC.1.1 c hL v p0 R b7 e hC.1.2 hC.2 b
def WL.ke {R:View->ι->Prop} (hC:Mu P f vs L1 b7 v p0 R ch Lp Rp) (b:∀j,Rp j->WE Q (.panic<|ch j) n ds l (Ws w0 F (Lp j++L2) Vs)) (c:∀a i,gw w0 a->R a i->WL P ops Q n ds ((d,v i)::l) (Ws w0 F (p0 i++L2)<|a::Vs) rest)
   (e:ip l args.toList=some vs:=by rfl) (hL:L=L1++L2:=by rfl) (h:∀a ∈ b7,a ∈ Vs:=by simp) (k:aK ops l g:=by first | exact .inl rfl | exact .inr ⟨_,_,_,rfl,rfl,rfl⟩) (m:Nat.blt d n=true:=by rfl) :
   WL P ops Q n ds l (Ws w0 F L Vs) (⟨some d,.call ⟨.value<|.func f,args,ts⟩,ty,pos,af,g⟩::rest):=oZ L1 L2 k m hC.1.1 e hL v p0 R ch Lp Rp b7 h hC.1.2 hC.2 b c
end
end Go.Bw
end
section
namespace Go.Proofs
open Go.Shelf
def Tryz.TJ:Go.Shelf.Ren:=⟨fun | 137=>258 | 217=>312 | 266=>348 | n=>n,fun | 9=>9 | 5=>5 | 3=>3 | n=>n,fun | n=>n⟩
def Tryz.TK:Go.Proofs.Lays.n137 Tryz.prog Tryz.TJ:=by repeat' first | kernel_rfl | (intro; kernel_rfl) | constructor
def Tryz.TL:Go.Shelf.Ren:=⟨fun | 171=>124 | 243=>216 | 246=>263 | 283=>319 | 284=>320 | 285=>321 | 286=>322 | 129=>302 | 317=>351 | 318=>352 | 319=>353 | 320=>354 | 337=>359 | 338=>360 | n=>n,fun | 3=>3 | 9=>9 | 2=>2 | 4=>4 | 171=>419 | 0=>0 | 53=>406 | 37=>142 | 5=>5 | 173=>421 | 212=>439 | 51=>404 | 20=>20 | 213=>440 | 46=>355 | 232=>453 | 233=>454 | n=>n,fun | 17=>0 | 18=>4 | 19=>5 | n=>n⟩
def Tryz.TM:Go.Proofs.LaysM.n171 Tryz.prog Tryz.TL:=by repeat' first | kernel_rfl | (intro; kernel_rfl) | constructor
def Tryz.TN:Go.Shelf.Ren:=⟨fun | 172=>257 | 244=>310 | 245=>311 | 247=>343 | 279=>344 | 280=>345 | 281=>346 | 282=>347 | 287=>356 | 316=>357 | 171=>124 | 205=>358 | 321=>361 | 322=>362 | 243=>216 | 246=>263 | 283=>319 | 284=>320 | 285=>321 | 286=>322 | 129=>302 | 317=>351 | 318=>352 | 319=>353 | 320=>354 | 337=>359 | 338=>360 | n=>n,fun | 9=>9 | 3=>3 | 75=>258 | 76=>259 | 4=>4 | 5=>5 | 167=>431 | 37=>142 | 0=>0 | 85=>432 | 2=>2 | 168=>434 | 53=>406 | 175=>444 | 46=>355 | 210=>447 | 127=>262 | 145=>452 | 143=>450 | 21=>21 | 171=>419 | 173=>421 | 212=>439 | 51=>404 | 20=>20 | 213=>440 | 232=>453 | 233=>454 | 80=>102 | n=>n,fun | 15=>1 | 16=>2 | 17=>0 | 18=>4 | 19=>5 | n=>n⟩
def Tryz.sr:Go.Proofs.LaysC.n172 Tryz.prog Tryz.TN:=by repeat' first | kernel_rfl | (intro; kernel_rfl) | constructor
end Go.Proofs
end
section
namespace Go.Proofs.YtgeahfjicmlocaaGreatDoor
open Go.Bw Go.Proofs.Tryz
open Go.Proofs
def Mv (n:Nat) (u:Int):(((((n:Int)==0)||decide (8<(n:Int)))||decide (u<97))||decide (122<u)) = !((decide (1<=n)&&decide (n<=8))&&ri u):=by
 rw [kr];simp [ri];omega
variable {aU:List UInt8} {Z:Nat}
def zB (h:Z<aU.length):aU[Z]? = some (aU[Z]?.getD 0):=by rw [c6 h]; rfl
variable {CH:UInt8->Bool}
def TO (h:Z<aU.length) (a:CH (aU[Z]?.getD 0)=false):aU.all CH=false:=by
 rw [D3];exact ⟨_,az<|zB h,by simp [a]⟩
def TP (h:∀i,i<aU.length->CH (aU[i]?.getD 0)=true):aU.all CH=true:=by
 rw [gN];intro x a;obtain ⟨i,hi⟩:=iE a;have:=h i (cq.1 hi).1;rw [hi] at this;exact this
def Mw (u:UInt8):∀s:List UInt8,decide (0<=Lib.indexByte s u)=s.contains u
 | []=>rfl
 | b::l=>by
   have c:=Mw u l;have f:=Lib.indexByte_ge l u;unfold Lib.indexByte
   by_cases a:b=u
   · subst a; simp
   · have d:(b==u)=false:=by simpa using a
     have e:(u==b)=false:=by simpa using λh=>a h.symm
     rw [ZX (by simp [d]),List.contains_cons,e,Bool.false_or,<-c]
     split
     · rename_i h; simp at h; simp [h]
     · rename_i h; simp at h
       rw [kr]; simp; omega
def toNat_inj {u v:UInt8} (h:(u.toNat:Int)=(v.toNat:Int)):u=v:=UInt8.toNat_inj.1 aa
def lw:prog.underlying 3=some (.int .i64):=ab
def Mx (u:Int) (w:World) :
   Calls prog 204 #[.int .u8 u] w λe a=>e = .returned (.bool<|ri u||Bs u)/\Ext w a:=by
 refine enter func204 O 17 O O ?_;refine CE (Vs:=[]) (Ws.init ai)<|ae<|ag O<|ad<|ae<|ac O<|I (hS O O)<|ac O ?_;apply La 2 O O O O Y O O O O O
 ·intro c;refine Vg (Ym O)<|Vg (jF O O) ?_;exact Gt 2 O O O
 refine ac O ?_;apply Lo 6 O O O O Y O O O O O
 ·intro d;refine Vg (Ym O)<|Vg (hS O O)<|Vg (Ym O) ?_;apply La 2 O O O O (.g O O O) O O O O O
  ·intro f;refine Vg (Ym O)<|Vg (jF O O) ?_;exact Gt 2 O O O
  exact Gt 4 O O O
 refine ag O<|ad<|am ?_;refine R1 O O λa b=>?_;exact ⟨O,b.fr⟩
def qP (s:List UInt8) (w:World) :
   Calls prog 128 #[st s] w λe c=>e = .returned (.bool<|gi s)/\Ext w c:=by
 refine enter func128 O 33 O O ?_;refine CE (Vs:=[]) (Ws.init ai)<|ae<|ag O<|ad<|Cs<|ae<|ac O<|I (yo ab O)<|I (bz O O)<|ac O ?_;apply Lo 3 O O O O Y O O O O O
 ·intro v;refine Vg (Ym O)<|Vg (yo ab O)<|Vg (eh O O) ?_;exact Gt 3 O O O
 refine ac O ?_;apply Lo 3 O O O O Y O O O O O
 ·intro q
  have d:0<s.length:=by
    rcases Ic s.length with h | h
    · simp [h] at q
    · exact h
  have l:=zB d;refine Vg (Ym O)<|Vg (yp ab O O x_)<|Vg (cI O O) ?_;exact Gt 3 O O O
 refine ac O ?_;apply Lo 3 O O O O Y O O O O O
 ·intro r
  have d:0<s.length:=by
    rcases Ic s.length with h | h
    · simp [h] at r
    · exact h
  have l:=zB d;refine Vg (Ym O)<|Vg (yp ab O O l)<|Vg (eh O O) ?_;exact Gt 3 O O O
 refine ad ?_;refine Cc O (λa=>?_)<|λa=>?_
 ·rw [Mv] at a
  have t:gi s=false:=by
    unfold gi;simp only [Ee] at a;rw [a]; rfl
  refine ae<|ag O<|ad<|am<|Er ?_;refine R1 O O λc b=>?_;exact ⟨by rw [t],b.fr⟩
 rw [Mv] at a
 have m:((decide (1<=s.length)&&decide (s.length<=8))&&ri ((s[0]?.getD 0).toNat))=true:=by simpa using a
 have x:s.length<=8:=by simp at m; omega
 refine bW<|Cs<|ae<|ac O<|I (yo ab O)<|ac O<|ad<|Cb ?_;refine ql (ι:=Nat) (λi=>[(24,.int .i64 (i:Int))]) [(0,_),(23,_)] (λi=>i<=s.length/\∀j,j<i->oU (s[j]?.getD 0)=true) (λi=>s.length-i) 0 ⟨di _,ai⟩ ?_;intro i ⟨hi,n⟩;refine ae<|I (cI O O)<|ad<|Cs ?_;refine Cc O (λf=>?_)<|λf=>?_
 ·have o:i<s.length:=by simpa using f
  have u:=zB o;refine bW<|Cs<|Cb<|ae<|ac O<|ag O<|ad<|ae<|ac O<|ac O<|I (yp ab O O u)<|Lp Y O aF O (λw b=>Mx _ w) ?_;refine I (gW O)<|ad ?_;refine Cc O (λg=>?_)<|λg=>?_
  ·have k:oU (s[i]?.getD 0)=false:=by unfold oU; revert g; cases ri _<;>cases Bs _<;>simp
   refine ae<|ag O<|ad<|am<|cN<|Er<|Er<|cN<|Er ?_;refine R1 O O λc b=>?_;exact ⟨by unfold gi; rw [TO o k]; simp,b.fr⟩
  have k:oU (s[i]?.getD 0)=true:=by unfold oU; revert g; cases ri _<;>cases Bs _<;>simp
  refine Ck<|Eb<|Et<|Cr<|I (Yi O O O aa)<|ac O<|Ln ?_;exact c8 (i+1) aa ⟨aa,λj p=>by rcases ne.1 p with h | rfl; exact n j h; exact k⟩ ay
 have y:¬i<s.length:=by simpa using f
 refine Ce<|Ex<|Ex<|dQ<|Et<|ae<|ag O<|ad<|am ?_;refine R1 O O λc b=>?_;exact ⟨by unfold gi; rw [TP λj p=>n j aa,m]; rfl,b.fr⟩
def TQ (s:List UInt8) (u:UInt8) (w:World):Calls prog 258 #[st s,.int .u8 (u.toNat:Int)] w λe a=>e = .returned (.int .i64<|Lib.indexByte s u)/\Ext w a:=
 (Any.strings_IndexByte Go.Proofs.Tryz.TK ⟨s.toArray⟩ (u.toNat:Int) w).mono λe a h=>by
   obtain ⟨b,c⟩:=h;subst c
   have d:((u.toNat:Int)).toNat.toUInt8=u:=ai
   rw [d] at b;exact ⟨b,Fr.refl _ _⟩
def TR (u:UInt8) (w:World) :
   Calls prog 206 #[.int .u8 (u.toNat:Int)] w λe a=>e = .returned (.bool<|e9 u)/\Ext w a:=by
 refine enter func206 O 6 O O ?_;refine CE (Vs:=[]) (Ws.init ai)<|ae<|ag O<|ad<|ae<|ac O<|Lp Y O aF O (λw b=>TQ EN u w)<|I (hS O O)<|ag O ?_;refine ad<|am ?_;refine R1 O O λa b=>?_;exact ⟨by rw [Mw]; rfl,b.fr⟩
variable {bB:Type} {sL:bB->Bool} {b_:List bB} {gh:bB}
def any_true (a:b_[Z]? = some gh) (h:sL gh=true):b_.any sL=true:=q5.2 ⟨gh,az a,h⟩
def any_false (h:∀(j:Nat) (x:bB),b_[j]? = some x->sL x=false):b_.any sL=false:=by
 rw [tg];intro x a;obtain ⟨j,b⟩:=iE a;simp [h j x b]
def ly (h:b_[Z]? = some gh):b_.take (Z+1)=b_.take Z++[gh]:=by rw [gV,h]; rfl
def My:au prog 234 0=some 0:=ab
def TS:au prog 234 2=some 2:=ab
def rO:aat prog 222=some 3:=ab
def xw:hr prog 234=some 3:=ab
def pi (s:List UInt8):Int:=match Lib.atoiAll s with | .ok v=>v | .range=>Lib.atoiSat s | _=>0
def hd (s:List UInt8):Bool:=match Lib.atoiAll s with | .ok _=>true | _=>false
def TT (s:List UInt8) : -9223372036854775808<=pi s/\pi s<=9223372036854775807:=by
 unfold pi
 cases h:Lib.atoiAll s with
 | ok v=>exact Lib.atoiAll_bounds h
 | range=>exact Lib.atoiSat_bounds s
 | _=>simp
def TU (h:gi aU=false):nq aU=(⟨2,pi aU,[]⟩,((hd aU&&decide (0<=pi aU))&&decide (pi aU<=1099511627775))&&(Lib.itoa (pi aU)==aU)):=by
 rw [nq,ZX (by simp [h])];unfold pi hd
 cases Lib.atoiAll aU<;>simp
variable {pE:List Tok}
def Mz {t:List UInt8} (h:ld aU=(ld t).map (pE++·)) (a:ld t=none):¬4096<aU.length->gj aU=([],1):=λb=>by
 rw [gj,ZX b,h,a]; rfl
def TV (h:ld aU=(ld []).map (pE++·)):¬4096<aU.length->gj aU=(pE,0):=λa=>by
 rw [gj,ZX a,h]; simp [Ja]
def MA {o:Option (List Tok)}  {t:Tok}:(o.map (t::·)).map (pE++·)=o.map ((pE++[t])++·):=by
 cases o<;>simp
def GB:gX prog 234=some [(0,1),(1,1),(2,1)]:=ab
def vI:zeroOf prog 234=some (.agg #[.int .i64 0,.int .i64 0,st []]):=ab
def mP:hf prog 222 234 (.agg #[.int .i64 0,.int .i64 0,st []]) 3 32:=jb ab
abbrev Laid (a:View):Prop:=EI prog 0 1 2 a
def MB : String := (Rows.restModulesRow.laid.map (·.1)).getD 2 ""
def GC:prog.globalNamed MB=some 0:=ab
def TW (b:View) (n:Int) (d : -9223372036854775808<=n) (a:n<=9223372036854775807) (w:World) (f:Le b w) (g:Laid b) :
   Calls prog 124 #[.int .i64 n] w λe c=>e = .returned (st<|Lib.itoa n)/\Ext w c:=
 (Any.strconv_Itoa Go.Proofs.Tryz.TM n d a w<|g.yH f GC).mono λe c h=>by
   obtain ⟨a,k,os,rfl⟩:=h;exact ⟨a,Qe w k os⟩
def TX (j:View) (s:List UInt8) (m:s.length<=4096) (w:World) (k:Le j w) (l:Laid j) :
   Calls prog 257 #[st s] w λe d=>∃r:Value,e = .returned (.tuple #[.int .i64 (pi s),r])/\Ext w d/\wO r (hd s):=by
 have f:(ByteArray.mk s.toArray).size=s.length:=kA s
 cases h:Lib.atoiAll s with
 | ok v=>
   refine (Any.strconv_Atoi_ok Go.Proofs.Tryz.sr ⟨s.toArray⟩ (by rw [f]; omega) v h w).mono λe d a=>?_;obtain ⟨b,c⟩:=a;refine ⟨.nilIface,by simp only [pi,h]; exact b,?_,by simp [wO,hd,h]⟩
   rcases c with rfl | ⟨t,rfl⟩
   · exact Fr.refl _ _
   · exact Ext.Ek<|Lib.bytesWorld_below _ _ _
 | range=>
   obtain ⟨g,hv,i⟩:=l.Qc;refine (Any.strconv_Atoi_range Go.Proofs.Tryz.sr ⟨s.toArray⟩ (by rw [f]; omega) h g w (k.cell hv) i).mono λe d a=>?_;obtain ⟨N,b,_,_,c⟩:=a;exact ⟨_,by simp only [pi,h]; exact b,Ext.Ek c,by simp [wO,hd,h]⟩
 | _=>
   obtain ⟨g,hv,i⟩:=l.Qb;refine (Any.strconv_Atoi_syntax Go.Proofs.Tryz.sr ⟨s.toArray⟩ (by rw [f]; omega) h g w (k.cell hv) i).mono λe d a=>?_;obtain ⟨N,b,_,_,c⟩:=a;exact ⟨_,by simp only [pi,h]; exact b,Ext.Ek c,by simp [wO,hd,h]⟩
def TY:prog.underlying 258=some (.interface<|prog.methodsAt 258):=ab
def zC:aJ prog 234=some 3:=ab
def TZ (b:View) (s:List UInt8) (j:s.length<=4096) (w:World) (k:Le b w) (h:Laid b) :
   Calls prog 205 #[st s] w λe c=>e = .returned (.tuple #[.agg #[.int .i64 (nq s).1.kind,.int .i64 (nq s).1.n,st (nq s).1.text],.bool (nq s).2])/\Ext w c:=by
 refine enter func205 O 33 O O ?_;refine CE (Vs:=[b]) (Ws.init (by simp [k]))<|ae ?_;refine Al Y O vI λm=>?_;refine ag O<|ad<|Cs<|ae<|ac O<|Lp Y O aF O (λw a=>qP _ w)<|ad ?_;refine Cc O (λd=>?_)<|λd=>?_
 ·have f:nq s=(⟨1,0,s⟩,true):=by rw [nq,ZZ d]
  refine ae<|ac O<|I (Yb vI GB O O)<|aT 0 Y O O O zC O O O<|ag O<|ad<|am<|Er ?_;refine WE.tp 0 O O O O xw O λc a=>?_;rw [f];exact ⟨O,a.fr⟩
 have f:=TU d;have i:=TT s;refine bW<|ae<|ac O ?_;refine Ld Y O aF O (λr:Value=>.tuple #[.int .i64 (pi s),r]) (λ_ r=>wO r<|hd s) (λw a=>TX b s j w a.V h) ?_;intro o p q l;refine ac O<|I (Yx O O)<|I (Yx O O)<|ag O<|ag O<|ad<|ae<|ac O<|I (Yb vI GB O O) ?_;refine ac O<|I (P' (hd s) TY O l)<|ac O ?_;apply La 2 O O O O Y O O O O O
 ·intro t;refine Vg (Ym O)<|Vg (hS O O) ?_;exact Gt 2 O O O
 refine ac O ?_;apply La 2 O O O O Y O O O O O
 ·intro u;refine Vg (Ym O)<|Vg (jF O O) ?_;exact Gt 2 O O O
 refine ac O ?_;apply La 4 O O O O Y O O O O O
 ·intro v;refine Vg (Ym O)<|Lp (.g O O O) O aF O (λw a=>TW b _ i.1 i.2 w a.V h)<|Vg (Ym O)<|Vg (yn O O) ?_;exact Gt 4 O O O
 refine aT 0 Y O O O zC O O O<|ag O<|ad<|am ?_;refine WE.tp 0 O O O O xw O λc a=>?_;rw [f];exact ⟨O,a.fr⟩
def T0 (l:View) (s:List UInt8) (w:World) (D:Le l w) (E:Laid l) :
   Calls prog 120 #[st s] w λe f=>∃r:Option Addr×Nat,e = .returned (.tuple #[.slice r.1 (gj s).1.length r.2,.int .i64 (gj s).2])/\Ext w f/\Sl dY 3 (nv w f) r.1 r.2 (gj s).1:=by
 refine enter func120 O 66 O O ?_;refine CE (Vs:=[l]) (Ws.init (by simp [D]))<|ae<|ag O<|ag O<|ad<|Cs<|ae<|ac O<|I (yo ab O)<|I (eh O O) ?_;refine ad ?_;refine Cc O (λq=>?_)<|λq=>?_
 ·have m:4096<s.length:=by simp at q; omega
  have c:gj s=([],2):=by rw [gj,ZZ m]
  refine ae<|ag O<|ag O<|ad<|am<|Er ?_;refine WE.aau (hV O (j6 O)<|j6 O) λf a=>?_;rw [c];exact ⟨(none,0),O,a.fr,Sl.nil⟩
 have m:¬4096<s.length:=by simp at q; omega
 refine bW<|ae<|ag O<|LW (λ_ h=>h.g4 234 3)<|ad<|Cs<|Cb ?_;refine ey (ι:=List UInt8×List Tok×Option Addr×Nat) (λg=>[(0,st g.1),(4,.slice g.2.2.1 g.2.1.length g.2.2.2)]) [] (λg=>Ws w [] [cC 234 3 Tok.cells g.2.2.1 g.2.2.2 (g.2.1)] [l]) (λg=>g.2.1.length+g.1.length<=s.length/\ld s=(ld g.1).map (g.2.1++·)) (λg=>g.1.length) (s,[],none,0) ⟨ai,ai⟩ ay ?_;intro g ⟨S,d⟩;refine Cs<|ae<|ac O<|I (oO O O)<|ad ?_;refine Cc O (λo=>?_)<|λo=>?_
 ·obtain ⟨u,r,b⟩:∃u r,g.1=u::r:=by
    cases A:g.1 with
    | nil=>rw [A] at o; simp at o
    | cons u r=>exact ⟨u,r,rfl⟩
  have T:g.1.length=r.length+1:=by rw [b]; rfl
  refine bW<|Cb<|ae<|ag O<|ad<|Cs<|Cb ?_;refine ql (ι:=Nat) (λi=>[(5,.int .i64 (i:Int))]) [(0,_),(4,_)] (λi=>i<=g.1.length/\∀j,j<i->oU (g.1[j]?.getD 0)=true) (λi=>g.1.length-i) 0 ⟨di _,ai⟩ ?_;intro i ⟨hi,B⟩;refine Cs<|ae<|ac O<|ac O<|I (yo ab O)<|I (cI O O)<|ac O ?_;apply La 4 O O O O Y O O O O O
  ·intro F
   have C:i<g.1.length:=by simpa using F
   have G:=zB C;refine Vg (Ym O)<|Vg (Ym O)<|Vg (yp ab O O G)<|Lp (.g O O O) O aF O (λw a=>Mx _ w) ?_;exact Gt 4 O O O
  refine ad ?_;refine Cc O (λk=>?_)<|λk=>?_
  ·have C:i<g.1.length:=by
     simp only [dE,aab] at k;omega
   have H:oU (g.1[i]?.getD 0)=true:=by
     simp only [dE] at k;exact k.2
   refine bW<|Cb<|Cr<|ac O<|I (Yi O O O aa)<|ag O<|Ln<|Eb ?_;exact c8 (i+1) aa ⟨aa,λj J=>by rcases ne.1 J with h | rfl; exact B j h; exact H⟩ ay
  have t:jH g.1=i:=by
    refine I_ _ _ hi B ?_
    rcases mb i g.1.length with h | h
    · right
      rw [aaa (by omega:((i:Nat):Int)<(g.1.length:Int)),ef] at k;exact k
    · left; omega
  have K:g.1[0]? = some u:=by rw [b]; rfl
  refine Ce<|Ex<|Ex<|dQ<|Et<|Cs<|ae<|ac O<|I (yp ab O O (i:=0) K)<|ag O<|ad<|Cb<|ae<|ac O<|I (eh O O) ?_;refine ag O<|ad ?_;refine Cc O (λv=>?_)<|λv=>?_
  ·have U:0<i:=by simp at v; omega
   refine ae<|ac O<|ac O<|I (IR underlying9 O O aa aa) ?_;rw [i'];refine Lp Y O aF O (λw a=>TZ l _ (by simp; omega) w a.V E)<|ac O<|I (Yx O O)<|I (Yx O O) ?_;refine Al Y O vI λW=>?_;refine aT 0 Y O O O zC O O O<|ag O<|ad<|Cs<|ae<|ac O<|I (gW O)<|ad ?_;refine Cc O (λx=>?_)<|λx=>?_
   ·have c:gj s=([],1):=Mz d (by rw [EP aa,t,Jk,ZX (by simpa using x)]) m;refine ae<|ag O<|ag O<|ad<|am<|Er<|cN<|Er<|cN<|Er<|cN<|Er ?_;refine WE.aau (hV O (j6 O)<|j6 O) λf a=>?_;rw [c];exact ⟨(none,0),O,a.fr,Sl.nil⟩
   have L:tw (g.1.take i)=some ((nq<|g.1.take i).1):=by rw [Jk,ZZ (by simpa using x)]
   refine bW<|ae<|ac O<|I (db 0 O O xw O) ?_;refine Lb Y O mP O O O O λX=>?_;refine dk 0 (.cells (Tok.cells<|(nq<|g.1.take i).1).toArray 234 (0,0)) O O ?_;refine LA ((nq<|g.1.take i).1) 2 0 Y O mP O O O O O O aa aa λM N=>?_;refine ag O<|ad<|ae<|ac O<|ac O<|I (EA underlying9 O O aa aa) ?_;rw [i'];refine ag O<|ad<|Ce<|Eg O<|Ex<|dQ ?_
   exact c8 ((g.1.drop i,g.2.1++[(nq<|g.1.take i).1],M,N):List UInt8×List Tok×Option Addr×Nat) (by dsimp only; simp; omega) ⟨by dsimp only; simp; omega,by
       dsimp only;rw [d,EP aa,t,L];simp only
       rw [MA]⟩<|λ_ h=>Wd 2 h
  have y:jH (u::r)=0:=by rw [<-b,t]; simp at v; omega
  refine ae<|ac O<|Lp Y O aF O (λw a=>TR _ w)<|ag O<|ad ?_;refine Cc O (λp=>?_)<|λp=>?_
  ·refine Cr<|ac O<|ac O<|I (IR underlying9 O O aa aa) ?_;rw [show g.1.take (1:Int).toNat=[u] by rw [b]; rfl];refine I (Yb vI GB O O) ?_;refine Lb Y O mP O O O O λZ=>?_;refine dk 0 (.cells (Tok.cells<|Tok.mk 3 0 [u]).toArray 234 (0,0)) O O ?_;refine LA (Tok.mk 3 0 [u]) 1 0 Y O mP O O O O O O aa aa λP Q=>?_;refine ag O<|Ln<|Eb<|Et<|Cr<|ac O<|I (EA underlying9 O O aa aa) ?_;rw [show g.1.drop (1:Int).toNat=r by rw [b]; rfl];refine ag O<|Ln<|Eb ?_
   exact c8 ((r,g.2.1++[Tok.mk 3 0 [u]],P,Q):List UInt8×List Tok×Option Addr×Nat) (by dsimp only; omega) ⟨by dsimp only; simp; omega,by
       dsimp only
       rw [d,b,Jb y (by simpa using p),MA]⟩<|λ_ h=>Wd 1 h
  refine ae<|ac O<|I (h9 O O)<|ac O ?_;apply La 2 O O O O Y O O O O O
  ·intro A;refine Vg (Ym O)<|Vg (h9 O O) ?_;exact Gt 2 O O O
  refine ag O<|ad ?_;refine Cc O (λn=>?_)<|λn=>?_
  ·have z:¬(u=32\/u=10):=by
     rintro (h | h)<;>rw [h] at n<;>simp at n
   have c:gj s=([],1):=Mz d (by rw [b,Jd y (by simpa using p) z]) m;refine ae<|ag O<|ag O<|ad<|am<|cN<|Er<|cN<|Er<|cN<|Er ?_;refine WE.aau (hV O (j6 O)<|j6 O) λf a=>?_;rw [c];exact ⟨(none,0),O,a.fr,Sl.nil⟩
  have z:u=32\/u=10:=by
    simp only [bne,Bool.and_eq_false_iff,Bool.not_eq_false',aac] at n
    rcases n with h | h
    · left; exact toNat_inj (by simpa using h)
    · right; exact toNat_inj (by simpa using h)
  refine Ck<|Eb<|Et<|Cr<|ac O<|I (EA underlying9 O O aa aa) ?_;rw [show g.1.drop (1:Int).toNat=r by rw [b]; rfl];refine ag O<|Ln<|Eb ?_
  exact c8 ((r,g.2.1,g.2.2.1,g.2.2.2):List UInt8×List Tok×Option Addr×Nat) (by dsimp only; omega) ⟨by dsimp only; omega,by
      dsimp only
      rw [d,b,Jc y (by simpa using p) z]⟩ ay
 have R:g.1=[]:=by simpa using o
 have c:gj s=(g.2.1,0):=by
   rw [R] at d;exact TV d m
 refine Ce<|Ex<|Ex<|dQ<|Et<|ae<|ac O<|ag O<|ag O<|ad<|am ?_;refine WE.aau (hV O (j6 O)<|j6 O) λf a=>?_;rw [c];exact ⟨(g.2.2.1,g.2.2.2),O,a.fr,a.hW 0 O Tok.cD dN⟩
end Go.Proofs.YtgeahfjicmlocaaGreatDoor
end
