/- BuildApart: compiled one by one, each with the faces of its uses alone, and linked, modules are what Build tells. -/
import Derived.Ground.Names2Prog
import Derived.Ground.SlgnProg
import Derived.Lib.AtoiErrMem
import Derived.Scope
import Derived.Shelf.LaysC
import Derived.Shelf.LaysM
import Derived.Shelf.Slices.Clone
import Derived.Shelf.Slices.Turned
import Derived.Shelf.SlicesE.Clone
import Derived.Shelf.Small.Bits
import Derived.Shelf.Small.Strs
import Derived.Shelf.Strconv.Atoi
import Derived.Shelf.Strconv.AtoiAll
import Derived.Shelf.Strconv.AtoiErrFast
import Derived.Shelf.Strconv.AtoiFail
import Derived.Shelf.Strconv.AtoiInnerAll
import Derived.Shelf.Strconv.AtoiLong
import Derived.Shelf.Strconv.Clone
import Derived.Shelf.Strconv.Itoa0
import Derived.Shelf.Strconv.Itoa1
import Derived.Shelf.Strconv.Itoa2
import Derived.Shelf.Strconv.Itoa3
import Derived.Shelf.Strconv.Lower
import Derived.Shelf.Strconv.ParseInt10
import Derived.Shelf.Strconv.ParseIntEmpty
import Derived.Shelf.Strconv.ParseUint10
import Derived.Shelf.Strconv.ParseUint10Any
import Derived.Shelf.Strconv.ParseUint10Empty
import Derived.Shelf.Strconv.ParseUint10b16
import Derived.Shelf.Strconv.ParseUint10b32
import Derived.Shelf.Strconv.ParseUint10b64
import Derived.Shelf.Strconv.ParseUint10b8
import Derived.Shelf.Strconv.ParseUintEmpty
import Derived.Shelf.Strconv.RangeError
import Derived.Shelf.Strconv.SyntaxError
import Derived.Shelf.Strconv.ToError
import Derived.Shelf.Strconv.ToErrorRange
import Derived.Shelf.Strings.Builder1
import Derived.Shelf.Strings.BuilderF
import Derived.Shelf.Strings.BuilderK
import Derived.Shelf.Strings.Search1
import Derived.Test.YtccenighnmfhgaaGreatDoorProg
import Derived.Test.YtccenighnmfhgaaGreatDoorRows
import Derived.Test.YtccenighnmfhgaaGreatDoorV2
set_option linter.unusedVariables false
set_option linter.unusedSimpArgs false
set_option linter.defProp false
section
namespace Go.Bw
open Go
theorem pX (op:Int) (mod nm:Tx) (args:List a8) (body other:List bq):lh (.mk op mod nm args body other)=mf op mod nm (eD args) (hH body) other.length (hH other):=by rw [lh]
theorem QQ {l r:Tk} {s:bq} (o:hf l) (h:fh l=some (s,r)):∃w,lh s=w++[[59]]/\bc l w r:=by
 have c:=uZ 6;unfold fh at h
 cases p:aY ff l with
 | some q=>
   rw [p] at h;obtain ⟨⟨x,d⟩,j,e⟩:=dr.1 h;simp only [df] at e;obtain ⟨rfl,rfl⟩:=e;have b:=fC o aF p;exact ⟨[ff]++fO x,by simp [pX,mf,eD,at_],b.trans (c q x d b.ok j)⟩
 | none=>
   rw [p] at h;simp only at h
   cases j:aY fg l with
   | some q=>
     rw [j] at h;obtain ⟨⟨x,d⟩,e,a⟩:=dr.1 h;simp only [df] at a;obtain ⟨rfl,rfl⟩:=a;have b:=fC o aF j;exact ⟨[fg]++fO x,by simp [pX,mf,eD,at_],b.trans (c q x d b.ok e)⟩
   | none=>
     rw [j] at h;obtain ⟨⟨⟨mod,nm⟩,q⟩,e,a⟩:=b'.1 h;have f:=Dg o e;simp only at a
     cases t:aY [40] q with
     | some d=>
       rw [t] at a;obtain ⟨⟨xs,y⟩,k,g⟩:=dr.1 a;simp only [df] at g;obtain ⟨rfl,rfl⟩:=g;exact ⟨iD mod nm++pS (eD xs),by simp [pX,mf],f.trans (IN c f.ok t k)⟩
     | none=>
       rw [t] at a;simp only at a
       cases k:aY [91] q with
       | some d=>
         rw [k] at a;obtain ⟨⟨i,y⟩,g,u⟩:=b'.1 a;obtain ⟨G,v,m⟩:=b'.1 u;obtain ⟨H,C,D⟩:=b'.1 m;obtain ⟨⟨x,I⟩,E,z⟩:=dr.1 D;simp only [df] at z;obtain ⟨rfl,rfl⟩:=z;have b:=fC f.ok aj k;have n:=c _ _ _ b.ok g;have A:=fC n.ok aj v;have B:=fC A.ok aj C;have F:=c _ _ _ B.ok E;exact ⟨iD mod nm++[[91]]++fO i++[[93],[61]]++fO x,by simp [pX,mf,eD,at_],(((((f.trans b).trans n).trans A).trans B).trans F).cast aj⟩
       | none=>
         rw [k] at a;obtain ⟨d,g,u⟩:=b'.1 a;obtain ⟨⟨x,y⟩,v,m⟩:=dr.1 u;simp only [df] at m;obtain ⟨rfl,rfl⟩:=m;have b:=fC f.ok aj g;have n:=c _ _ _ b.ok v;exact ⟨iD mod nm++[[61]]++fO x,by simp [pX,mf,eD,at_],(f.trans b).trans n⟩
def Di (pb:Tk->Option (List bq×Tk)):Prop:=∀l x r,hf l->pb l=some (x,r)->bc l (kP x) r
theorem Dj {pb:Tk->Option (List bq×Tk)} (m:Di pb) {l r:Tk} {s:bq} (n:hf l) (h:eO pb l=some (s,r)):bc l (lh s) r:=by
 have t:=uZ 6;unfold eO at h
 cases p:aY fq l with
 | some q=>
   rw [p] at h;obtain ⟨⟨x,u⟩,f,g⟩:=b'.1 h;obtain ⟨⟨b,v⟩,i,a⟩:=b'.1 g;have e:=fC n aF p;have c:=t _ _ _ e.ok f;have j:=m _ _ _ c.ok i;simp only at a
   cases d:aY fe v with
   | some A=>
     rw [d] at a;obtain ⟨⟨o,B⟩,y,k⟩:=b'.1 a;simp only at k
     split at k
     · cases k
     · rename_i C
       simp only [e0,df] at k;obtain ⟨rfl,rfl⟩:=k;have w:=fC j.ok aF d;have z:=m _ _ _ w.ok y;refine ((((e.trans c).trans j).trans w).trans z).cast ?_;rw [pX];simp only [mf,Int.reduceEq,or_false,true_or,if_true,if_false];rw [if_pos ae];simp [eD,at_,kP]
   | none=>
     rw [d] at a;simp only [e0,df] at a;obtain ⟨rfl,rfl⟩:=a;exact ((e.trans c).trans j).cast (by simp [pX,mf,eD,at_,kP])
 | none=>
   rw [p] at h;simp only at h
   cases f:aY aM l with
   | some q=>
     rw [f] at h;obtain ⟨⟨x,u⟩,g,i⟩:=b'.1 h;obtain ⟨⟨b,v⟩,a,d⟩:=dr.1 i;simp only [df] at d;obtain ⟨rfl,rfl⟩:=d;have e:=fC n aF f;have c:=t _ _ _ e.ok g;have j:=m _ _ _ c.ok a;exact ((e.trans c).trans j).cast (by simp [pX,mf,eD,at_,kP])
   | none=>
     rw [f] at h;obtain ⟨⟨D,q⟩,g,i⟩:=b'.1 h;obtain ⟨u,a,d⟩:=dr.1 i;simp only [df] at d;obtain ⟨rfl,rfl⟩:=d;obtain ⟨E,e,c⟩:=QQ n g;exact (c.trans (fC c.ok aj a)).cast e.symm
theorem IS {ps:Tk->Option (bq×Tk)} (b:∀l x r,hf l->ps l=some (x,r)->bc l (lh x) r):∀(n:Nat) (l:Tk) (xs:List bq) (r:Tk),hf l->lK ps n l=some (xs,r)->bc l (hH xs++[[125]]) r
 | 0,_,_,_,_,h=>by cases h
 | n+1,l,xs,r,c,h=>by
   unfold lK at h
   cases a:aY [125] l with
   | some q=>
     rw [a] at h;simp only [e0,df] at h;obtain ⟨rfl,rfl⟩:=h;exact (fC c aj a).cast (by simp [hH])
   | none=>
     rw [a] at h;obtain ⟨⟨s,q⟩,f,g⟩:=b'.1 h;obtain ⟨⟨ys,i⟩,j,d⟩:=dr.1 g;simp only [df] at d;obtain ⟨rfl,rfl⟩:=d;have e:=b l s q c f;exact (e.trans (IS b n q ys i e.ok j)).cast (by simp [hH])
theorem w7:∀f,Di (a' f)
 | 0=>λ_ _ _ _ h=>by cases h
 | f+1=>by
   intro l x r a h;unfold a' at h;obtain ⟨q,c,d⟩:=b'.1 h;have b:=fC a aj c;exact (b.trans (IS (λl x r a h=>Dj (w7 f) a h) _ q x r b.ok d)).cast (by simp [kP,n7])
def oZ (d:cQ):List Tx:=pT d++[[59]]
theorem IT {bG:Bool} {l r:Tk} {d:cQ} (s:hf l) (h:aN bG l=some (some d,r)):bc l (oZ d) r/\d.bG=bG:=by
 unfold aN at h
 cases t:aY ja l with
 | some q=>
   rw [t] at h;obtain ⟨⟨a,w⟩,i,e⟩:=b'.1 h;obtain ⟨x,j,k⟩:=b'.1 e;obtain ⟨⟨n,z⟩,g,u⟩:=b'.1 k;obtain ⟨A,v,o⟩:=dr.1 u;simp only [df,e0] at o;obtain ⟨rfl,rfl⟩:=o;have b:=fC s aF t;have c:=(pW b.ok i).1;have f:=fC c.ok aj j;have m:=Df f.ok g;have p:=fC m.ok aj v;exact ⟨((((b.trans c).trans f).trans m).trans p).cast (by simp [oZ,pT]),O⟩
 | none=>
   rw [t] at h;simp only at h
   cases i:aY jb l with
   | some q=>
     rw [i] at h;obtain ⟨⟨a,w⟩,e,j⟩:=b'.1 h;obtain ⟨x,k,g⟩:=dr.1 j;simp only [df,e0] at g;obtain ⟨rfl,rfl⟩:=g;have b:=fC s aF i;have c:=(pW b.ok e).1;have f:=fC c.ok aj k;exact ⟨((b.trans c).trans f).cast (by simp [oZ,pT]),O⟩
   | none=>
     rw [i] at h;simp only at h
     cases e:aY jc l with
     | some q=>
       rw [e] at h;obtain ⟨⟨a,w⟩,j,k⟩:=b'.1 h;obtain ⟨x,g,u⟩:=b'.1 k;obtain ⟨⟨n,z⟩,v,o⟩:=b'.1 u;obtain ⟨A,B,C⟩:=b'.1 o;obtain ⟨F,D,y⟩:=dr.1 C;simp only [df,e0] at y;obtain ⟨rfl,rfl⟩:=y;have b:=fC s aF e;have c:=(pW b.ok j).1;have f:=fC c.ok aj g;have m:=Df f.ok v;have p:=fC m.ok aj B;have E:=fC p.ok aj D;exact ⟨(((((b.trans c).trans f).trans m).trans p).trans E).cast (by simp [oZ,pT]),O⟩
     | none=>
       rw [e] at h;simp at h
theorem Dk {bG:Bool} {l r:Tk} (h:aN bG l=some (none,r)):r=l:=by
 unfold aN at h
 split at h
 · obtain ⟨_,_,h⟩:=b'.1 h
   obtain ⟨_,_,h⟩:=b'.1 h;obtain ⟨_,_,h⟩:=b'.1 h;obtain ⟨_,_,h⟩:=dr.1 h;simp at h
 · split at h
   · obtain ⟨_,_,h⟩:=b'.1 h
     obtain ⟨_,_,h⟩:=dr.1 h;simp at h
   · split at h
     · obtain ⟨_,_,h⟩:=b'.1 h
       obtain ⟨_,_,h⟩:=b'.1 h;obtain ⟨_,_,h⟩:=b'.1 h;obtain ⟨_,_,h⟩:=b'.1 h;obtain ⟨_,_,h⟩:=dr.1 h;simp at h
     · simp at h; exact h.symm
theorem IU:∀(n:Nat) (first:Bool) (l:Tk) (xs:List Tx) (r:Tk),hf l->ic n first l=some (xs,r)->bc l ((if first=true\/xs=[] then [] else [[44]])++gW (xs.map λs=>[s])++[[41]]) r
 | 0,_,_,_,_,_,h=>by cases h
 | n+1,first,l,xs,r,b,h=>by
   unfold ic at h
   cases c:aY [41] l with
   | some q=>
     rw [c] at h;simp only [e0,df] at h;obtain ⟨rfl,rfl⟩:=h;exact (fC b aj c).cast (by simp [gW])
   | none=>
     rw [c] at h;obtain ⟨i,d,j⟩:=b'.1 h;obtain ⟨⟨a,q⟩,k,m⟩:=b'.1 j;obtain ⟨⟨ys,o⟩,p,e⟩:=dr.1 m;simp only [df] at e;obtain ⟨rfl,rfl⟩:=e
     have f:bc l (if first=true then [] else [[44]]) i:=by
       cases first with
       | true=>
         simp only [if_true,e0] at d;subst d; exact bc.nil b
       | false=>exact fC b aj d
     have g:=(pW f.ok k).1;have t:=IU n false q ys o g.ok p;refine ((f.trans g).trans t).cast ?_
     cases ys with
     | nil=>cases first<;>simp [gW]
     | cons y ys=>cases first<;>simp [gW]
theorem IV:∀(n:Nat) (l:Tk) (xs:List Tx) (r:Tk),hf l->jr n l=some (xs,r)->bc l (xs.flatMap oX) r
 | 0,_,_,_,_,h=>by cases h
 | n+1,l,xs,r,c,h=>by
   unfold jr at h
   cases b:aY oW l with
   | none=>
     rw [b] at h;simp only [e0,df] at h;obtain ⟨rfl,rfl⟩:=h;exact bc.nil c
   | some q=>
     rw [b] at h;obtain ⟨⟨a,t⟩,i,j⟩:=b'.1 h;obtain ⟨k,m,o⟩:=b'.1 j;obtain ⟨⟨ys,p⟩,s,d⟩:=dr.1 o;simp only [df] at d;obtain ⟨rfl,rfl⟩:=d;have e:=fC c aF b;have f:=(pW e.ok i).1;have g:=fC f.ok aj m;exact (((e.trans f).trans g).trans (IV n k ys p g.ok s)).cast (by simp [oX])
def qU (p:ed):List Tx:=[p.nm,[40]]++gW (p.params.map λs=>[s])++[[41]]++p.aB.flatMap oX++kP p.body
theorem IW {bG:Bool} {l r:Tk} {p:ed} (i:hf l) (h:iF bG l=some (p,r)):bc l (qU p) r/\p.bG=bG:=by
 unfold iF at h;obtain ⟨⟨a,w⟩,j,k⟩:=b'.1 h;obtain ⟨x,m,n⟩:=b'.1 k;obtain ⟨⟨ps,y⟩,o,q⟩:=b'.1 n;obtain ⟨⟨z,A⟩,s,t⟩:=b'.1 q;obtain ⟨⟨b,B⟩,u,c⟩:=dr.1 t;simp only [df] at c;obtain ⟨rfl,rfl⟩:=c;have d:=(pW i j).1;have e:=fC d.ok aj m;have f:=IU _ _ _ _ _ e.ok o;have g:=IV _ _ _ _ f.ok s;have v:=w7 6 _ _ _ g.ok u;exact ⟨((((d.trans e).trans f).trans g).trans v).cast (by simp [qU]),O⟩
end Go.Bw
end
section
namespace Go.Bw
open Go
def TW (l:List Tx):Tk:=l.map cw
theorem w8:TW []=[]:=rfl
theorem hn (a b:List Tx):TW (a++b)=TW a++TW b:=nI
theorem QR (x:Tx) (b:List Tx):TW (x::b)=cw x::TW b:=rfl
theorem IX {s w:Tx} {r:Tk} (h:ep w=true):aY s (cw w::r)=if (w==s)=true then some r else none:=by
 rw [w4 h]; rfl
theorem pY {s:Tx} {u:UInt8} {r:Tk} (h:u ∈ qy):aY s (cw [u]::r)=if ([u]==s)=true then some r else none:=by
 rw [zz u h]; rfl
theorem QS {s:Tx} {n:Int} {r:Tk} (a:0<=n) (b:n<=1099511627775) (c:s≠[]):aY s (cw (Lib.itoa n)::r)=none:=by
 rw [w5 a b];simp only [aY];rw [if_neg];intro h;simp only [beq_iff_eq] at h;exact c h.symm
theorem n9 {w:Tx} {r:Tk} (h:eP w=true):eb (cw w::r)=some (w,r):=by
 rw [w4 (bJ h)];simp [eb,ku,h]
theorem IY {n:Int} {r:Tk} (a:0<=n) (b:n<=1099511627775):jM (cw (Lib.itoa n)::r)=some (n,r):=by
 rw [w5 a b];simp [jM,ku]
theorem QT {w s:Tx} (h:eP w=true) (a:s ∈ oB):(w==s)=false:=by
 rw [qn];intro e;simp only [beq_iff_eq] at e;subst e;simp only [eP,cO,sG,List.contains_eq_mem,decide_eq_false_iff_not] at h;exact h.2 a
theorem QU {w:Tx} {u:UInt8} (h:ep w=true) (a:l5 (u.toNat:Int)=false):(w==[u])=false:=by
 rw [qn];intro e;simp only [beq_iff_eq] at e;subst e;simp only [ep,cO] at h;have:=h.1.2;simp at this;rw [this] at a;cases a
theorem IZ {w s:Tx} {r:Tk} (h:eP w=true) (a:s ∈ oB):aY s (cw w::r)=none:=by
 rw [IX (bJ h),QT h a]; rfl
theorem Dl {w:Tx} {u:UInt8} {r:Tk} (h:eP w=true) (a:l5 (u.toNat:Int)=false):aY [u] (cw w::r)=none:=by
 rw [IX (bJ h),QU (bJ h) a]; rfl
structure Stop (q:Tk):Prop where
 dot:aY [46] q=none
 br:aY [91] q=none
 pa:aY [40] q=none
theorem I0 {u:UInt8} {q:Tk} (h:u ∈ qy) (a:u≠46) (b:u≠91) (c:u≠40):Stop (cw [u]::q):=
 ⟨by rw [pY h,if_neg (by simpa using a)],by rw [pY h,if_neg (by simpa using b)],by rw [pY h,if_neg (by simpa using c)]⟩
theorem I1 {mod nm:Tx} {q:Tk} (h:hN true mod nm=false) (c:aY [46] q=none):jd (TW (iD mod nm)++q)=some ((mod,nm),q):=by
 obtain ⟨d,b⟩:=Dc h;unfold iD
 split
 · rename_i a
   simp only [beq_iff_eq] at a;subst a
   show jd (cw nm::q)=_
   unfold jd;rw [n9 b];simp only [bt];rw [c]
 · rename_i a
   have e:eP mod=true:=d.resolve_left (by simpa using a)
   show jd (cw mod::cw [46]::cw nm::q)=_
   unfold jd;rw [n9 e];simp only [bt];rw [pY aF];simp only [beq_self_eq_true,if_true];rw [n9 b]
   rfl
theorem Dm {mod nm:Tx} (h:hN true mod nm=false):∃w r,iD mod nm=w::r/\eP w=true:=by
 obtain ⟨a,b⟩:=Dc h;unfold iD
 split
 · exact ⟨nm,[],O,b⟩
 · rename_i c
   exact ⟨mod,_,O,a.resolve_left (by simpa using c)⟩
theorem n' {mod nm s:Tx} {q:Tk} (h:hN true mod nm=false) (a:s ∈ oB\/∃u,s=[u]/\l5 (u.toNat:Int)=false):aY s (TW (iD mod nm)++q)=none:=by
 obtain ⟨w,r,e,b⟩:=Dm h;rw [e]
 rcases a with a | ⟨u,rfl,c⟩
 · exact IZ b a
 · exact Dl b c
theorem Dn {mod nm:Tx} {q:Tk} {f:Nat} (h:hN true mod nm=false) (g:aY [46] q=none):cR (f+1) (TW (iD mod nm)++q)=lJ (cR f) mod nm q:=by
 have a:=I1 h g;have b:=n' (s:=r5) (q:=q) h (.inl aF);have c:=n' (s:=[33]) (q:=q) h (.inr ⟨33,rfl,aF⟩);have d:=n' (s:=[40]) (q:=q) h (.inr ⟨40,rfl,aF⟩);obtain ⟨w,r,e,i⟩:=Dm h;rw [e] at a b c d ⊢;rw [QR,fL] at a b c d ⊢
 have j:(cw w).kind=1:=by rw [w4 (bJ i)]
 unfold cR;simp only [];rw [if_neg ae];unfold ka;rw [b,c,d];simp only [];rw [a]
 rfl
theorem I2 {w:Tx} {r:Tk} {f:Nat} (a:(cw w).kind≠2):cR (f+1) (cw w::r)=ka (cR f) (cw w::r):=by
 rw [cR,if_neg a]
theorem I3 {u:UInt8} (h:u ∈ qy):(cw [u]).kind≠2:=by
 rw [zz u h]
 show (3:Int)≠2
 decide
def Dp (u:UInt8):Bool:=qy.contains u&&(!(u==46)&&(!(u==91)&&!(u==40)))
theorem qV (u:UInt8) (q:Tk) (h:Dp u=true):Stop (TW [[u]]++q):=by
 simp [Dp] at h;exact I0 h.1 h.2.1 h.2.2.1 h.2.2.2
theorem qK (u:UInt8) (q:Tk) (h:Dp u=true):Stop (cw [u]::q):=qV u q h
theorem QW {a:Tk->Option (a8×Tk)} {r:Tk}:ka a (cw [33]::r)=(a r).map λx=>(a8.mk 6 0 [] [] [x.1],x.2):=by
 unfold ka;rw [pY aF,pY aF]
 rfl
theorem QX {a:Tk->Option (a8×Tk)} {r:Tk}:ka a (cw [40]::r)=lj a r:=by
 unfold ka;rw [pY aF,pY aF,pY aF]
 rfl
theorem QY {q:Tk}:∀(j:Nat),j<9->mg opsL 0 (cw ((opsL[j]?).getD [])::q)=some (j,q)
 | 0,_=>rfl
 | 1,_=>rfl
 | 2,_=>rfl
 | 3,_=>rfl
 | 4,_=>rfl
 | 5,_=>rfl
 | 6,_=>rfl
 | 7,_=>rfl
 | 8,_=>rfl
 | n+9,h=>absurd h ae
theorem QZ (op:Int) {q:Tk} (h:7<=op/\op<=15):Stop (cw (tg op)::q):=by
 have:op=7\/op=8\/op=9\/op=10\/op=11\/op=12\/op=13\/op=14\/op=15:=ae
 rcases this with rfl | rfl | rfl | rfl | rfl | rfl | rfl | rfl | rfl<;>exact I0 aF aF aF aF
theorem I4 {op:Int} {mod nm:Tx} (h:hN (dS op 3 5) mod nm=false):(3<=op/\op<=5->hN true mod nm=false)/\(¬(3<=op/\op<=5)->mod=[]/\nm=[]):=by
 refine ⟨λa=>?_,λa=>?_⟩
 · rw [show dS op 3 5=true by simp [dS]; omega] at h; exact h
 · rw [show dS op 3 5=false by rw [qn]; simp [dS]; omega] at h; exact IG h
theorem Q0 {op n:Int} (h:hB op n=false) (a:op≠1):n=0:=by
 simp [hB,a] at h; exact h
theorem Q1 {l:List (List Tx)}:l.length<=(gW l).length\/∃x ∈ l,x=[]:=by
 induction l with
 | nil=>exact .inl (cq _)
 | cons x r a=>
   by_cases b:x=[]
   · exact .inr ⟨x,aj,b⟩
   have c:1<=x.length:=by cases x; exact absurd rfl b; simp
   rcases a with a | ⟨y,d,e⟩
   · cases r with
     | nil=>left; simpa [gW] using c
     | cons y r=>left; simp only [gW,dG,du] at a ⊢; omega
   · exact .inr ⟨y,bE _ d,e⟩
theorem Q2 (l:List a8):l.length<=(gW (eD l)).length:=by
 rcases Q1 (l:=eD l) with h | ⟨x,a,e⟩
 · rwa [IA] at h
 · exact absurd e (IC l x a)
theorem I5:∀(x:a8) (d:Nat) (q:Tk),(gR x d).bL=0->aY [41] (TW (fO x)++q)=none
 | .mk op n mod nm args,d,q,h=>by
   have c:=w1 h;have l:=c.kind;obtain ⟨i,m⟩:=I4 c.name;unfold fO mO
   by_cases f:op=1
   · subst f
     obtain ⟨a,b⟩:=Dd c.num;exact QS a b aj
   rw [if_neg f]
   by_cases g:op=2
   · rw [if_pos g]; rfl
   rw [if_neg g]
   by_cases j:op<=5
   · have k:=i ⟨ae,j⟩
     have e:∀q,aY [41] (TW (iD mod nm)++q)=none:=λq=>n' k (.inr ⟨41,rfl,aF⟩)
     split
     · exact e _
     · split
       · rw [et,et,hn,et]; exact e _
       · rw [if_pos ae,hn,et]; exact e _
   · rw [if_neg ae,if_neg ae,if_neg ae]
     split<;>rfl
mutual
theorem Q3:∀(x:a8) (d:Nat),(gR x d).bL=0->∀(f:Nat),f+d=7->∀(q:Tk),Stop q->cR f (TW (fO x)++q)=some (x,q)
 | .mk op n mod nm args,d,h,f,B,q,k=>by
   have c:=w1 h;have w:=c.kind;have C:=c.deep;obtain ⟨f,rfl⟩:∃g,f=g+1:=⟨f-1,ae⟩;obtain ⟨l,m⟩:=I4 c.name;have e:=Dr args (d+1) c.sub f ae;have z:=IQ op n mod nm args;rw [z];unfold mO
   by_cases o:op=1
   · subst o
     obtain ⟨a,b⟩:=Dd c.num;obtain ⟨rfl,rfl⟩:=m ae
     have i:args=[]:=by
       have:=c.oY;simp [k4,iw] at this;exact this
     subst i
     show cR (f+1) (cw (Lib.itoa n)::q)=_
     rw [w5 a b,cR]
     rfl
   rw [if_neg o];have A:=Q0 c.num o;subst A
   by_cases p:op=2
   · subst p
     obtain ⟨rfl,rfl⟩:=m ae
     have i:args=[]:=by
       have:=c.oY;simp [k4,iw] at this;exact this
     subst i
     rfl
   rw [if_neg p]
   by_cases s:op=3
   · subst s
     have i:args=[]:=by
       have:=c.oY;simp [k4,iw] at this;exact this
     subst i;rw [if_pos rfl,Dn (l ae) k.dot];unfold lJ;rw [k.br,k.pa]
   rw [if_neg s]
   by_cases t:op=4
   · subst t
     have j:=c.Iz (.inl rfl)
     match args,j,e with
     | [x],_,e=>
       rw [if_pos rfl];simp only [eD,at_,kf,mY,hn,et];rw [Dn (l ae) (by rfl)];unfold lJ;rw [show aY [91] (TW [[91]]++(TW (fO x)++(TW [[93]]++q)))=some (TW (fO x)++(TW [[93]]++q)) from rfl];simp only [];rw [e.1 0 x rfl _ (qV 93 _ aF)]
       rfl
   rw [if_neg t]
   by_cases u:op=5
   · subst u
     rw [if_pos rfl];simp only [pS,hn,et];rw [Dn (l ae) (by rfl)];unfold lJ;rw [show ∀r,aY [91] (TW [[40]]++r)=none from λr=>rfl,show ∀r,aY [40] (TW [[40]]++r)=some r from λr=>rfl];simp only [];rw [e.2 q]
     rfl
   rw [if_neg u];obtain ⟨rfl,rfl⟩:=m ae
   by_cases v:op=6
   · subst v
     have j:=c.Iz (.inr rfl)
     match args,j,e with
     | [x],_,e=>
       rw [if_pos rfl];simp only [eD,at_,kf,mY,hn,et]
       show cR (f+1) (cw [33]::(TW (fO x)++q))=_
       rw [I2 (I3 aF),QW,e.1 0 x rfl _ k]
       rfl
   rw [if_neg v];have j:=c.QA ae
   match args,j,e with
   | [x,y],_,e=>
     simp only [eD,at_,kf,lY,mY,hn,et]
     show cR (f+1) (cw [40]::(TW (fO x)++(cw (tg op)::(TW (fO y)++(cw [41]::q)))))=_
     rw [I2 (I3 aF),QX,lj,e.1 0 x rfl _ (QZ op ⟨ae,w.2⟩)];simp only [bt];rw [show mg opsL 0 (cw (tg op)::(TW (fO y)++(cw [41]::q)))=some ((op-7).toNat,TW (fO y)++(cw [41]::q)) from QY _ ae];simp only [bt];rw [e.1 1 y rfl _ (qK 41 _ aF)];simp only [bt];rw [pY aF];simp only [beq_self_eq_true,if_true,da];rw [show (7:Int)+((op-7).toNat:Int)=op by omega]
theorem Dr:∀(l:List a8) (d:Nat),(ay l d).bL=0->∀(f:Nat),f+d=7->
   (∀(i:Nat) (x:a8),l[i]? = some x->∀(q:Tk),Stop q->cR f (TW (fO x)++q)=some (x,q))/\
   (∀(q:Tk),jN (cR f) (TW (gW (eD l))++(TW [[41]]++q))=some (l,q))
 | [],_,_,_,_=>⟨aj,λq=>rfl⟩
 | x::r,d,h,f,e=>by
   obtain ⟨a,o⟩:=Iy h;have p:=Q3 x d a f e;have s:=Dr r d o f e
   have g:∀(i:Nat) (y:a8),(x::r)[i]? = some y->∀(q:Tk),Stop q->cR f (TW (fO y)++q)=some (y,q):=by
     intro i y b
     cases i with
     | zero=>simp at b; subst b; exact p
     | succ i=>exact s.1 i y (by simpa using b)
   refine ⟨g,λq=>?_⟩
   have v:∀(l:List a8),(∀(i:Nat) (y:a8),l[i]? = some y->∀(q:Tk),Stop q->cR f (TW (fO y)++q)=some (y,q))->l≠[]->∀n,l.length<=n->j_ (cR f) n (TW (gW (eD l))++(TW [[41]]++q))=some (l,q):=by
     intro l
     induction l with
     | nil=>intro _ h; exact absurd rfl h
     | cons j t w=>
       intro c _ n k;obtain ⟨n,rfl⟩:∃m,n=m+1:=⟨n-1,by simp at k; omega⟩
       cases t with
       | nil=>
         simp only [eD,gW];unfold j_;rw [c 0 j rfl _ (qV 41 _ aF)]
         rfl
       | cons y t=>
         simp only [eD,gW,hn,et];unfold j_;rw [c 0 j rfl _ (qV 44 _ aF)];simp only [bt];rw [show ∀r,aY [41] (TW [[44]]++r)=none from λr=>rfl,show ∀r,aY [44] (TW [[44]]++r)=some r from λr=>rfl];simp only [];have:=w (λi u z=>c (i+1) u (by simpa using z)) aj n (by simp at k ⊢; omega);simp only [eD] at this;rw [this]
         rfl
   have A:aY [41] (TW (gW (eD (x::r)))++(TW [[41]]++q))=none:=by
     cases r with
     | nil=>simp only [eD,gW]; exact I5 x d _ a
     | cons y r=>simp only [eD,gW,hn,et]; exact I5 x d _ a
   unfold jN;rw [A];simp only [];refine v (x::r) g aj _ ?_;have:=Q2 (x::r);simp only [dG,TW,eo];omega
end
theorem I6 {op:Int} {mod nm:Tx} (h:hN (dS op 1 3) mod nm=false):(1<=op/\op<=3->hN true mod nm=false)/\(¬(1<=op/\op<=3)->mod=[]/\nm=[]):=by
 refine ⟨λa=>?_,λa=>?_⟩
 · rw [show dS op 1 3=true by simp [dS]; omega] at h; exact h
 · rw [show dS op 1 3=false by rw [qn]; simp [dS]; omega] at h; exact IG h
theorem Ds {mod nm:Tx} {q:Tk} (h:hN true mod nm=false) (a:aY [46] q=none):fh (TW (iD mod nm)++q)=(match aY [40] q with
     | some r=>(jN (cR 6) r).map λq=>(bq.mk 3 mod nm q.1 [] [],q.2)
     | none=>match aY [91] q with
       | some r=>(cR 6 r).bind λi=>(aY [93] i.2).bind λr=>(aY [61] r).bind λr=>(cR 6 r).map λx=>(bq.mk 2 mod nm [i.1,x.1] [] [],x.2)
       | none=>(aY [61] q).bind λr=>(cR 6 r).map λx=>(bq.mk 1 mod nm [x.1] [] [],x.2)):=by
 unfold fh;rw [n' (s:=ff) h (.inl aF),n' (s:=fg) h (.inl aF)];simp only [];rw [I1 h a]
 rfl
theorem w9 {pb:Tk->Option (List bq×Tk)} {l:Tk} (a:aY fq l=none) (b:aY aM l=none):eO pb l=(fh l).bind λs=>(aY [59] s.2).map λr=>(s.1,r):=by
 unfold eO;rw [a,b]
def I7 (pb:Tk->Option (List bq×Tk)) (d:Nat):Prop:=∀(l:List bq),(d_ l d).bL=0->∀q,pb (TW (kP l)++q)=some (l,q)
theorem Q4 {pb:Tk->Option (List bq×Tk)} {d:Nat} (j:I7 pb (d+1)) (x:bq) (h:(aL x d).bL=0) (q:Tk) (o:aY fe q=none):eO pb (TW (lh x)++q)=some (x,q):=by
 obtain ⟨op,mod,nm,args,body,other⟩:=x;have b:=w2 h;have t:=b.kind;have a:=Dr args 1 b.exprs 6 rfl;obtain ⟨k,i⟩:=I6 b.name;obtain ⟨g,f⟩:=b.QC;rw [pX];unfold mf
 rcases (by omega:op=1\/op=2\/op=3\/op=4\/op=5\/op=6\/op=7) with rfl | rfl | rfl | rfl | rfl | rfl | rfl
 · have c:=b.len aF
   obtain rfl:=g aF;obtain rfl:=f aF;have e:=k ae
   match args,c,a with
   | [x],_,a=>
     simp only [if_true,if_false,reduceCtorEq,Int.reduceEq,or_self,eD,at_,kf,mY,hn,et];rw [w9 (n' e (.inl aF)) (n' e (.inl aF)),Ds e (by rfl),show ∀r,aY [40] (TW [[61]]++r)=none from λr=>rfl,show ∀r,aY [91] (TW [[61]]++r)=none from λr=>rfl,show ∀r,aY [61] (TW [[61]]++r)=some r from λr=>rfl];simp only [bt];rw [a.1 0 x rfl _ (qV 59 _ aF)]
     rfl
 · have c:=b.len aF
   obtain rfl:=g aF;obtain rfl:=f aF;have e:=k ae
   match args,c,a with
   | [x,y],_,a=>
     simp only [if_true,if_false,Int.reduceEq,or_self,eD,at_,kf,lY,mY,hn,et];rw [w9 (n' e (.inl aF)) (n' e (.inl aF)),Ds e (by rfl),show ∀r,aY [40] (TW [[91]]++r)=none from λr=>rfl,show ∀r,aY [91] (TW [[91]]++r)=some r from λr=>rfl];simp only [];rw [show ∀r,TW [[93],[61]]++r=TW [[93]]++(TW [[61]]++r) from λr=>rfl,a.1 0 x rfl _ (qV 93 _ aF)];simp only [bt];rw [show ∀r,aY [93] (TW [[93]]++r)=some r from λr=>rfl];simp only [bt];rw [show ∀r,aY [61] (TW [[61]]++r)=some r from λr=>rfl];simp only [bt];rw [a.1 1 y rfl _ (qV 59 _ aF)]
     rfl
 · obtain rfl:=g aF
   obtain rfl:=f aF;have e:=k ae;simp only [if_true,if_false,Int.reduceEq,or_self,pS,hn,et];rw [w9 (n' e (.inl aF)) (n' e (.inl aF)),Ds e (by rfl),show ∀r,aY [40] (TW [[40]]++r)=some r from λr=>rfl];simp only [];rw [a.2]
   rfl
 · have c:=b.len aF
   have l:=j body (b.body rfl);obtain ⟨rfl,rfl⟩:=i ae
   match args,c,a with
   | [x],_,a=>
     simp only [if_true,if_false,Int.reduceEq,or_false,true_or,eD,at_,kf,mY,hn,et];unfold eO;rw [show ∀r,aY fq (TW [fq]++r)=some r from λr=>rfl];simp only [];have m:∀r,Stop (TW (n7 (hH body))++r):=λr=>qK 123 _ aF;rw [a.1 0 x rfl _ (m _)];simp only [bt];have p:∀q,pb (TW (n7 (hH body))++q)=some (body,q):=l;rw [p];simp only [bt]
     by_cases n:0<other.length
     · rw [if_pos n]
       have s:∀q,pb (TW (n7 (hH other))++q)=some (other,q):=j other (b.other n);simp only [hn,et];rw [show ∀r,aY fe (TW [fe]++r)=some r from λr=>rfl];simp only [];rw [s];simp only [bt];rw [if_neg ae]
     · rw [if_neg n]
       have:other=[]:=ou ae;subst this;rw [w8,dv,o]
 · have c:=b.len aF
   have l:∀q,pb (TW (n7 (hH body))++q)=some (body,q):=j body (b.body rfl);obtain ⟨rfl,rfl⟩:=i ae;obtain rfl:=f aF
   match args,c,a with
   | [x],_,a=>
     simp only [if_true,if_false,Int.reduceEq,or_true,eD,at_,kf,mY,hn,et,eT,Nat.lt_irrefl,w8,dv];unfold eO;rw [show ∀r,aY fq (TW [aM]++r)=none from λr=>rfl,show ∀r,aY aM (TW [aM]++r)=some r from λr=>rfl];simp only [];have m:∀r,Stop (TW (n7 (hH body))++r):=λr=>qK 123 _ aF;rw [a.1 0 x rfl _ (m _)];simp only [bt];rw [l]
     rfl
 · have c:=b.len aF
   obtain rfl:=g aF;obtain rfl:=f aF;obtain ⟨rfl,rfl⟩:=i ae
   match args,c,a with
   | [x],_,a=>
     simp only [if_true,if_false,Int.reduceEq,or_self,eD,at_,kf,mY,hn,et];rw [w9 (by rfl) (by rfl)];unfold fh;rw [show ∀r,aY ff (TW [ff]++r)=some r from λr=>rfl];simp only [];rw [a.1 0 x rfl _ (qV 59 _ aF)]
     rfl
 · have c:=b.len aF
   obtain rfl:=g aF;obtain rfl:=f aF;obtain ⟨rfl,rfl⟩:=i ae
   match args,c,a with
   | [x],_,a=>
     simp only [if_true,if_false,Int.reduceEq,or_self,eD,at_,kf,mY,hn,et];rw [w9 (by rfl) (by rfl)];unfold fh;rw [show ∀r,aY ff (TW [fg]++r)=none from λr=>rfl,show ∀r,aY fg (TW [fg]++r)=some r from λr=>rfl];simp only [];rw [a.1 0 x rfl _ (qV 59 _ aF)]
     rfl
theorem Q5 {x:bq} {d:Nat} (h:(aL x d).bL=0):∃w r,lh x=w::r/\(eP w=true\/w=fq\/w=aM\/w=ff\/w=fg):=by
 obtain ⟨op,mod,nm,args,body,other⟩:=x;have b:=w2 h;have l:=b.kind;obtain ⟨k,m⟩:=I6 b.name;rw [pX];unfold mf
 by_cases c:op=4\/op=5
 · rw [if_pos c]
   refine ⟨_,_,O,?_⟩
   split<;>simp
 rw [if_neg c]
 by_cases f:op=6
 · rw [if_pos f]; exact ⟨_,_,rfl,aj⟩
 rw [if_neg f]
 by_cases g:op=7
 · rw [if_pos g]; exact ⟨_,_,rfl,aj⟩
 rw [if_neg g];obtain ⟨w,r,e,a⟩:=Dm (k ae);rw [e]
 by_cases i:op=3
 · rw [if_pos i]; exact ⟨_,_,rfl,.inl a⟩
 rw [if_neg i]
 by_cases j:op=1
 · rw [if_pos j]; exact ⟨_,_,rfl,.inl a⟩
 rw [if_neg j,if_pos ae];exact ⟨_,_,O,.inl a⟩
theorem Q6 {w s:Tx} {r:Tk} (h:eP w=true\/w=fq\/w=aM\/w=ff\/w=fg) (a:s=fe\/s=[125]):aY s (cw w::r)=none:=by
 rcases h with h | rfl | rfl | rfl | rfl
 · rcases a with rfl | rfl
   · exact IZ h aF
   · exact Dl h aF
 all_goals rcases a with rfl | rfl<;>rfl
theorem I8 {x:bq} {d:Nat} {q:Tk} {s:Tx} (h:(aL x d).bL=0) (a:s=fe\/s=[125]):aY s (TW (lh x)++q)=none:=by
 obtain ⟨w,r,e,b⟩:=Q5 h;rw [e];exact Q6 b a
theorem I9 {ps:Tk->Option (bq×Tk)} {d:Nat} (b:∀(x:bq),(aL x d).bL=0->∀q,aY fe q=none->ps (TW (lh x)++q)=some (x,q)) (q:Tk):∀(l:List bq),(cS l d).bL=0->∀n,l.length<n->lK ps n (TW (hH l)++(TW [[125]]++q))=some (l,q)
 | [],_,n,a=>by
   obtain ⟨n,rfl⟩:∃m,n=m+1:=⟨n-1,by simp at a; omega⟩
   rfl
 | x::r,h,n,a=>by
   obtain ⟨n,rfl⟩:∃m,n=m+1:=⟨n-1,by simp at a; omega⟩;obtain ⟨c,e⟩:=C_ h;have f:=I9 b q r e n (by simp at a; omega)
   have g:aY fe (TW (hH r)++(TW [[125]]++q))=none:=by
     cases r with
     | nil=>rfl
     | cons y t=>
       unfold hH;rw [hn,et];exact I8 (C_ e).1 Y
   unfold hH lK;rw [hn,et,I8 c (.inr rfl)];simp only [];rw [b x c _ g];simp only [bt];rw [f]
   rfl
theorem I':∀l:List bq,l.length<=(hH l).length
 | []=>cq _
 | x::r=>by
   have:=I' r
   have b:1<=(lh x).length:=by
     have:=ID x
     cases a:lh x with
     | nil=>exact absurd a this
     | cons _ _=>simp
   unfold hH;simp only [du,dG];omega
theorem Dt:∀(f d:Nat),f+d=7->I7 (a' f) d
 | 0,d,a=>λl h=>by
   unfold d_ at h;have:=w3 h;omega
 | f+1,d,a=>λl h q=>by
   unfold d_ at h;obtain ⟨g,i,b⟩:=w3 h;unfold a' kP n7;simp only [hn,et];rw [show ∀r,aY [123] (TW [[123]]++r)=some r from λr=>rfl];simp only [bt];refine I9 (d:=d) (λx c q e=>Q4 (d:=d) (Dt f (d+1) ae) x c q e) q l b _ ?_;have:=I' l;simp only [dG,TW,eo];omega
theorem Du {b:Bool} {q:Tk} (h:aY tf q=none):eG (TW (r6 b)++q)=(b,q):=by
 cases b with
 | true=>rfl
 | false=>show eG q=_; unfold eG; rw [h]; rfl
theorem Q7 {d:cQ} {q:Tk} (h:zC d):aY tf (TW (oZ d)++q)=none:=by
 unfold oZ pT
 rcases h.kind with e | e | e
 · rw [if_pos e]; rfl
 · rw [if_neg ae,if_pos e]; rfl
 · rw [if_neg ae,if_neg ae,if_pos e]; rfl
theorem Q8 {d:cQ} {q:Tk} (h:zC d):aN d.bG (TW (oZ d)++q)=some (some d,q):=by
 have c:=h.name;obtain ⟨kind,nm,bG,n⟩:=d;unfold oZ pT
 rcases h.kind with e | e | e
 · obtain ⟨a,b⟩:=h.n1 e
   simp only at e a b c;subst e;simp only [if_true]
   show aN bG (cw ja::cw nm::cw [61]::cw (Lib.itoa n)::cw [59]::q)=_
   unfold aN;rw [show ∀r,aY ja (cw ja::r)=some r from λr=>rfl];simp only [];rw [n9 c];simp only [bt];rw [show ∀r,aY [61] (cw [61]::r)=some r from λr=>rfl];simp only [bt];rw [IY a b]
   rfl
 · have f:=h.n2 e
   simp only at e f c;subst e f;simp only [if_true,if_false,Int.reduceEq]
   show aN bG (cw jb::cw nm::cw [59]::q)=_
   unfold aN;rw [show ∀r,aY ja (cw jb::r)=none from λr=>rfl,show ∀r,aY jb (cw jb::r)=some r from λr=>rfl];simp only [];rw [n9 c]
   rfl
 · obtain ⟨a,b⟩:=h.n3 e
   simp only at e a b c;subst e;simp only [if_true,if_false,Int.reduceEq]
   show aN bG (cw jc::cw nm::cw [91]::cw (Lib.itoa n)::cw [93]::cw [59]::q)=_
   unfold aN;rw [show ∀r,aY ja (cw jc::r)=none from λr=>rfl,show ∀r,aY jb (cw jc::r)=none from λr=>rfl,show ∀r,aY jc (cw jc::r)=some r from λr=>rfl];simp only [];rw [n9 c];simp only [bt];rw [show ∀r,aY [91] (cw [91]::r)=some r from λr=>rfl];simp only [bt];rw [IY ae ae]
   rfl
theorem I_ {a:Tk} (c:∀bG,aN bG (eG a).2=some (none,(eG a).2)):∀(ds:List cQ),(∀d ∈ ds,(bl d).bL=0)->∀n,ds.length<n->
   kQ n (eG (TW (ds.flatMap lI)++a)).1 (eG (TW (ds.flatMap lI)++a)).2=some ((ds,(eG a).1),(eG a).2)
 | [],_,n,b=>by
   obtain ⟨n,rfl⟩:∃m,n=m+1:=⟨n-1,by simp at b; omega⟩
   show kQ (n+1) (eG a).1 (eG a).2=_
   unfold kQ;rw [c]
   rfl
 | d::r,h,n,b=>by
   obtain ⟨n,rfl⟩:∃m,n=m+1:=⟨n-1,by simp at b; omega⟩;have f:=tj (h d aj);have g:=I_ c r (λx i=>h x (bE _ i)) n (by simp at b; omega)
   have e:TW ((d::r).flatMap lI)++a=TW (r6 d.bG)++(TW (oZ d)++(TW (r.flatMap lI)++a)):=by
     rw [gd,lI];simp only [oZ,hn,et]
   rw [e,Du (Q7 f)];simp only [];unfold kQ;rw [Q8 f];simp only [bt];rw [g]
   rfl
theorem Ja {q:Tk}:∀(l:List Tx),(∀s ∈ l,eP s=true)->∀(n:Nat) (first:Bool),l.length<n->
   ic n first (TW (if first=true\/l=[] then [] else [[44]])++(TW (gW (l.map λs=>[s]))++(TW [[41]]++q)))=some (l,q)
 | [],_,n,first,a=>by
   obtain ⟨n,rfl⟩:∃m,n=m+1:=⟨n-1,by simp at a; omega⟩;rw [if_pos (.inr rfl)]
   rfl
 | x::r,h,n,first,a=>by
   obtain ⟨n,rfl⟩:∃m,n=m+1:=⟨n-1,by simp at a; omega⟩;have b:=h x aj;have c:=Ja (q:=q) r (λs d=>h s (bE _ d)) n false (by simp at a; omega)
   have e:TW (gW ((x::r).map λs=>[s]))++(TW [[41]]++q)=cw x::(TW (if false=true\/r=[] then [] else [[44]])++(TW (gW (r.map λs=>[s]))++(TW [[41]]++q))):=by
     cases r with
     | nil=>rfl
     | cons y t=>rfl
   rw [e]
   cases first with
   | true=>
     simp only [true_or,if_true,w8,dv];unfold ic;rw [Dl b aF];simp only [if_true,bt];rw [n9 b];simp only [bt];rw [c]
     rfl
   | false=>
     have f:(if false=true\/x::r=[] then ([]:List Tx) else [[44]])=[[44]]:=aj
     rw [f];unfold ic;rw [show ∀r,aY [41] (TW [[44]]++r)=none from λr=>rfl,show ∀r,aY [44] (TW [[44]]++r)=some r from λr=>rfl];rw [if_neg aj];simp only [bt];rw [n9 b];simp only [bt];rw [c]
     rfl
theorem Jb {a:Tk} (c:aY oW a=none):∀(l:List Tx),(∀s ∈ l,eP s=true)->∀n,l.length<n->jr n (TW (l.flatMap oX)++a)=some (l,a)
 | [],_,n,b=>by
   obtain ⟨n,rfl⟩:∃m,n=m+1:=⟨n-1,by simp at b; omega⟩
   show jr (n+1) a=_
   unfold jr;rw [c]
 | x::r,h,n,b=>by
   obtain ⟨n,rfl⟩:∃m,n=m+1:=⟨n-1,by simp at b; omega⟩;have d:=Jb c r (λs e=>h s (bE _ e)) n (by simp at b; omega)
   show jr (n+1) (cw oW::cw x::cw [59]::(TW (r.flatMap oX)++a))=_
   unfold jr;rw [show ∀r,aY oW (cw oW::r)=some r from λr=>rfl];simp only [];rw [n9 (h x aj)];simp only [bt];rw [show ∀r,aY [59] (cw [59]::r)=some r from λr=>rfl];simp only [bt];rw [d]
   rfl
theorem Jc {a:Tk} (c:aY n5 a=none):∀(l:List Tx),(∀s ∈ l,eP s=true)->∀n,l.length<n->jO n (TW (l.flatMap th)++a)=some (l,a)
 | [],_,n,b=>by
   obtain ⟨n,rfl⟩:∃m,n=m+1:=⟨n-1,by simp at b; omega⟩
   show jO (n+1) a=_
   unfold jO;rw [c]
 | x::r,h,n,b=>by
   obtain ⟨n,rfl⟩:∃m,n=m+1:=⟨n-1,by simp at b; omega⟩;have d:=Jc c r (λs e=>h s (bE _ e)) n (by simp at b; omega)
   show jO (n+1) (cw n5::cw x::cw [59]::(TW (r.flatMap th)++a))=_
   unfold jO;rw [show ∀r,aY n5 (cw n5::r)=some r from λr=>rfl];simp only [];rw [n9 (h x aj)];simp only [bt];rw [show ∀r,aY [59] (cw [59]::r)=some r from λr=>rfl];simp only [bt];rw [d]
   rfl
theorem Jd {f:Tx->List Tx} (a:∀x,1<=(f x).length):∀l:List Tx,l.length<=(l.flatMap f).length
 | []=>cq _
 | x::r=>by
   have:=Jd a r; have:=a x;rw [gd,dG,du];omega
theorem Je:∀l:List Tx,l.length<=(gW (l.map λs=>[s])).length
 | []=>cq _
 | [x]=>dp _
 | x::y::r=>by
   have:=Je (y::r)
   show _<=([x]++[[44]]++gW ((y::r).map λs=>[s])).length
   simp only [dG,du,eT] at this ⊢;omega
theorem Q9 {p:ed} {q:Tk} (h:IK p):iF p.bG (TW (qU p)++q)=some (p,q):=by
 obtain ⟨nm,bG,params,aB,body⟩:=p;unfold iF qU;simp only [hn,et];rw [show ∀r,TW [nm,[40]]++r=cw nm::(TW [[40]]++r) from λr=>rfl,n9 h.name];simp only [bt];rw [show ∀r,aY [40] (TW [[40]]++r)=some r from λr=>rfl];simp only [bt]
 have a:=Ja (q:=TW (aB.flatMap oX)++(TW (kP body)++q)) params h.params ((TW (gW (params.map λs=>[s]))++(TW [[41]]++(TW (aB.flatMap oX)++(TW (kP body)++q)))).length+1) true (by
   have:=Je params;simp only [dG,TW,eo] at this ⊢
   omega)
 simp only [true_or,if_true,w8,dv] at a;rw [a];simp only [bt]
 rw [Jb (by rfl) aB h.aB _ (by
   have:=Jd (f:=oX) (λx=>by simp [oX]) aB;simp only [dG,TW,eo]
   omega)]
 simp only [bt];rw [Dt 6 1 rfl body h.body q]
 rfl
theorem Jf {a:Tk} (c:aY n6 (eG a).2=none):∀(ds:List ed),(∀d ∈ ds,(nf d).bL=0)->∀n,ds.length<n->
   kR n (eG (TW (ds.flatMap iE)++a)).1 (eG (TW (ds.flatMap iE)++a)).2=some ((ds,(eG a).1),(eG a).2)
 | [],_,n,b=>by
   obtain ⟨n,rfl⟩:∃m,n=m+1:=⟨n-1,by simp at b; omega⟩
   show kR (n+1) (eG a).1 (eG a).2=_
   unfold kR;rw [c]
 | d::r,h,n,b=>by
   obtain ⟨n,rfl⟩:∃m,n=m+1:=⟨n-1,by simp at b; omega⟩;have f:=e7 (h d aj);have g:=Jf c r (λx i=>h x (bE _ i)) n (by simp at b; omega)
   have e:TW ((d::r).flatMap iE)++a=TW (r6 d.bG)++(cw n6::(TW (qU d)++(TW (r.flatMap iE)++a))):=by
     rw [gd,iE,qU];simp only [hn,et]
     rfl
   rw [e,Du (by rfl)];simp only [];unfold kR;rw [show ∀r,aY n6 (cw n6::r)=some r from λr=>rfl];simp only [];rw [Q9 f];simp only [bt];rw [g]
   rfl
theorem zE {α:Type} {f:α->List Tx} (a:∀x,1<=(f x).length):∀l:List α,l.length<=(l.flatMap f).length
 | []=>cq _
 | x::r=>by
   have:=zE a r; have:=a x;rw [gd,dG,du];omega
theorem Q' {ps:List ed} {a:Tk} (b:∃r,a=cw hl::r):∃r,(eG (TW (ps.flatMap iE)++a)).2=cw n6::r\/(eG (TW (ps.flatMap iE)++a)).2=cw hl::r:=by
 obtain ⟨r,rfl⟩:=b
 cases ps with
 | nil=>exact ⟨r,.inr rfl⟩
 | cons d t=>
   have e:TW ((d::t).flatMap iE)++(cw hl::r)=TW (r6 d.bG)++(cw n6::(TW (qU d)++(TW (t.flatMap iE)++(cw hl::r)))):=by
     rw [gd,iE,qU];simp only [hn,et]
     rfl
   rw [e,Du (by rfl)];exact ⟨_,.inl O⟩
theorem Jg (l:Tk):l.length<=(eG l).2.length+1:=by
 unfold eG
 cases l with
 | nil=>simp
 | cons t r=>
   simp only [aY]
   split
   · simp
   · simp
theorem Q_ {m:aX} (h:(oC m).bL=0):kS (TW (nw m))=some (m,[]):=by
 have b:=zD h;obtain ⟨nm,aq,decls,procs,main⟩:=m;have l:∀q,a' 6 (TW (kP main)++q)=some (main,q):=Dt 6 1 rfl main b.main;unfold nw;simp only [hn,et];have c:(∃r,(TW [hl]++(TW (kP main)++TW [[125]]))=cw hl::r):=⟨_,rfl⟩
 generalize n:TW [hl]++(TW (kP main)++TW [[125]])=a at c
 obtain ⟨y,o⟩:=Q' (ps:=procs) c
 show kS (cw qT::cw nm::cw [123]::(TW (aq.flatMap th)++(TW (decls.flatMap lI)++(TW (procs.flatMap iE)++a))))=_
 have s:aY n5 (TW (decls.flatMap lI)++(TW (procs.flatMap iE)++a))=none:=by
   cases decls with
   | cons d t=>
     have i:=tj (b.decls d aj);rw [gd,lI,hn,hn,hn]
     cases d.bG with
     | true=>rfl
     | false=>
       show aY n5 (TW (pT d)++TW [[59]]++TW (t.flatMap lI)++_)=none
       unfold pT
       rcases i.kind with e | e | e
       · rw [if_pos e]; rfl
       · rw [if_neg ae,if_pos e]; rfl
       · rw [if_neg ae,if_neg ae,if_pos e]; rfl
   | nil=>
     cases procs with
     | cons p t=>
       rw [kG,w8,dv,gd,iE];simp only [hn,et]
       cases p.bG<;>rfl
     | nil=>obtain ⟨r,rfl⟩:=c; rfl
 have i:∀bG,aN bG (eG (TW (procs.flatMap iE)++a)).2=some (none,(eG (TW (procs.flatMap iE)++a)).2):=by
   intro bG
   rcases o with e | e<;>rw [e]<;>rfl
 have u:aY n6 (eG a).2=none:=by
   obtain ⟨r,rfl⟩:=c
   rfl
 unfold kS;rw [show ∀r,aY qT (cw qT::r)=some r from λr=>rfl];simp only [bt];rw [n9 b.name];simp only [bt];rw [show ∀r,aY [123] (cw [123]::r)=some r from λr=>rfl];simp only [bt]
 rw [Jc s aq b.aq _ (by
   have:=zE (f:=th) (λx=>by simp [th]) aq;simp only [dG,TW,eo]
   omega)]
 simp only [bt]
 have v:decls.length<(eG (TW (decls.flatMap lI)++(TW (procs.flatMap iE)++a))).2.length+1:=by
   have g:=Jg (TW (decls.flatMap lI)++(TW (procs.flatMap iE)++a));have j:=zE (f:=lI) (λx=>by simp [lI]; omega) decls;obtain ⟨r,k⟩:=c;rw [k] at g ⊢;simp only [dG,TW,eo,du] at g j ⊢;omega
 rw [I_ i decls b.decls _ v];simp only [bt]
 have w:procs.length<(eG (TW (procs.flatMap iE)++a)).2.length+1:=by
   have g:=Jg (TW (procs.flatMap iE)++a);have j:=zE (f:=iE) (λx=>by simp [iE]; omega) procs;obtain ⟨r,k⟩:=c;rw [k] at g ⊢;simp only [dG,TW,eo,du] at g j ⊢;omega
 rw [Jf u procs b.procs _ w];simp only [bt];subst n
 show (if (eG (cw hl::(TW (kP main)++TW [[125]]))).1=true then none else _)=_
 rw [show ∀r,eG (cw hl::r)=(false,cw hl::r) from λr=>rfl];simp only [pc,if_false]
 show (aY hl (eG (cw hl::(TW (kP main)++TW [[125]]))).2).bind _=_
 rw [show ∀r,eG (cw hl::r)=(false,cw hl::r) from λr=>rfl];simp only [];rw [show ∀r,aY hl (cw hl::r)=some r from λr=>rfl];simp only [bt];rw [l]
 rfl
end Go.Bw
end
section
namespace Go.Bw
open Go
theorem Jh {s:Tx} {l r:Tk} (a:hf l) (h:aY s l=some r):hf r:=by
 cases l with
 | nil=>cases h
 | cons t q=>
   simp only [aY] at h
   split at h
   · injection h with h; subst h; exact λx b=>a x (bE _ b)
   · cases h
theorem Ra {pb:Tk->Option (List bq×Tk)} (a:Di pb) {l r:Tk} {x:bq} (b:hf l) (h:eO pb l=some (x,r)):r.length<l.length:=by
 have e:=(Dj a b h).2;have c:=ID x;rw [e]
 cases d:lh x with
 | nil=>exact absurd d c
 | cons w f=>simp; omega
def pZ:aX:=⟨[],[],[],[],[]⟩
def bN (s:Tx):aX×Int:=if (e' s).2≠0 then (pZ,(e' s).2) else match kS (e' s).1 with
 | some (m,[])=>if gz m=0 then (m,0) else (pZ,1)
 | _=>(pZ,1)
theorem Rb {s:Tx} (h:(e' s).2=0):hf (e' s).1:=(Gu (Gv h)).1
theorem Rc {m:aX} (h:(oC m).bL=0):hf (TW (nw m)):=by
 intro t a;obtain ⟨w,b,rfl⟩:=k0.1 a;exact (IM h w b).1
theorem Dv {m:aX}:gz m=0↔(oC m).bL=0:=QE
theorem Rd {m:aX} (h:gz m=0) (d:(J (nw m)).length<=4096):bN (J (nw m))=(m,0):=by
 have a:=Dv.1 h;have b:=QF (IM a)
 have c:e' (J (nw m))=(TW (nw m),0):=by
   unfold e';rw [if_neg ae,<-b,show gi (qz (List.map cw (nw m)))=some (TW (nw m)) from Gx (TW (nw m)) (Rc a)]
 unfold bN;rw [c];simp only [ne_eq,not_true_eq_false,if_false];rw [Q_ a];simp only;rw [if_pos h]
end Go.Bw
end
section
namespace Go.Bw
open Go
mutual
theorem Re (a:ei):∀x:a8,eA (lA a x)<=wE x
 | .mk op n mod nm args=>by
   have h:=Dw a args;simp only [lA,eA,wE]; omega
theorem Dw (a:ei):∀l:List a8,gD (fZ a l)<=e1 l
 | []=>dp _
 | x::r=>by
   have b:=Re a x;have c:=Dw a r;simp only [fZ,gD,e1]; omega
end
mutual
theorem Rf (a:ei):∀x:bq,nn (lB a x)<=wS x
 | .mk op mod nm args body other=>by
   have h:=Dw a args;have b:=kX a body;have c:=kX a other;simp only [lB,nn,wS]; omega
theorem kX (a:ei):∀l:List bq,fb (eC a l)<=ef l
 | []=>dp _
 | x::r=>by
   have b:=Rf a x;have c:=kX a r;simp only [eC,fb,ef]; omega
end
theorem Ji (m:aX) (fs:List (List UInt8×List bx)):∀l:List ed,ko (l.map (nk m fs))<=wP l
 | []=>dp _
 | p::r=>by
   have a:=Ji m fs r;have b:=kX (bZ m fs (p.params++p.aB)) p.body;simp only [jT,ko,uH,wP,nk]; omega
theorem Jj {m:aX} {fs:List (List UInt8×List bx)}:qG (cL m fs).1<=wM m:=by
 have a:qG jm<=wM m:=by
   show 1<=_
   unfold wM; omega
 unfold cL
 split
 · exact a
 · split
   · exact a
   · split
     · exact a
     · split
       · exact a
       · have b:=Ji m fs m.procs
         have c:=kX (bZ m fs []) m.main
         show qG (dE m fs)<=wM m
         simp only [qG,dE,wM]; omega
abbrev fQ:=List UInt8×List bx
def fK:List (List UInt8×fQ)->List UInt8->fQ
 | [],_=>([],[])
 | (k,f)::r,s=>if k=s then f else fK r s
def aU (M:List (List UInt8×fQ)) (m:aX):cb×Int:=
 if (cn m).2≠0 then (jm,(cn m).2) else cL m (m.aq.map (fK M))
def gK:List aX->List (List UInt8×fQ)->List cb×Int
 | [],_=>([],0)
 | m::r,M=>if (aU M m).2≠0 then ([],(aU M m).2) else
   if (gK r ((m.nm,(cn m).1)::M)).2≠0 then ([],(gK r ((m.nm,(cn m).1)::M)).2) else ((aU M m).1::(gK r ((m.nm,(cn m).1)::M)).1,0)
theorem Rg {m:aX} {r:List aX} {M:List (List UInt8×fQ)} (h:¬(aU M m).2=0):gK (m::r) M=([],(aU M m).2):=by rw [gK,if_pos h]
theorem Jk:∀(l:List aX) (M:List (List UInt8×fQ)),(gK l M).1.length<=l.length
 | [],_=>dp _
 | m::r,M=>by
   have:=Jk r ((m.nm,(cn m).1)::M);rw [gK]
   split
   · simp
   · split
     · simp
     · simp; omega
theorem Jl {b:Nat}:∀(l:List aX) (M:List (List UInt8×fQ)),(∀m ∈ l,wM m<=b)->∀u ∈ (gK l M).1,qG u<=b
 | [],_,_,u,a=>by simp [gK] at a
 | m::r,M,h,u,a=>by
   rw [gK] at a
   split at a
   · simp at a
   · rename_i c
     split at a
     · simp at a
     · rcases dU.1 a with e | a
       · subst e
         unfold aU at c ⊢
         split
         · rename_i d; rw [if_pos d] at c; exact absurd d c
         · exact kZ Jj (h m aj)
       · exact Jl r _ (λx f=>h x (by simp [f])) u a
def qW (us:List cb) (q:List cb×Int):List cb×Int:=if q.2≠0 then ([],q.2) else (us++q.1,0)
theorem Jm (l:List aX) (M:List (List UInt8×fQ)):gK l M=qW [] (gK l M):=by
 cases l with
 | nil=>rfl
 | cons m r=>
   rw [gK];unfold qW
   by_cases h:(aU M m).2≠0
   · rw [if_pos h,if_pos h]
   · rw [if_neg h]
     by_cases a:(gK r ((m.nm,(cn m).1)::M)).2≠0
     · rw [if_pos a,if_pos a]
     · rw [if_neg a]; simp
theorem Jn {us:List cb} {m:aX} {r:List aX} {M:List (List UInt8×fQ)} (h:¬(aU M m).2=0):qW us (gK (m::r) M)=([],(aU M m).2):=by
 rw [Rg h,qW,if_pos h]
theorem Dx {us:List cb} {m:aX} {r:List aX} {M:List (List UInt8×fQ)} (h:(aU M m).2=0):qW us (gK (m::r) M)=qW (us++[(aU M m).1]) (gK r ((m.nm,(cn m).1)::M)):=by
 rw [gK,if_neg (by rw [h]; simp)];unfold qW
 by_cases a:(gK r ((m.nm,(cn m).1)::M)).2≠0
 · rw [if_pos a,if_pos a,if_pos a]
 · rw [if_neg a,if_neg a,if_neg aj]; simp
theorem Dy {M:List (List UInt8×fQ)} {m:aX} (h:¬(cn m).2=0):aU M m=(jm,(cn m).2):=by rw [aU,if_pos h]
theorem zF {M:List (List UInt8×fQ)} {m:aX} (h:(cn m).2=0):aU M m=cL m (m.aq.map (fK M)):=by rw [aU,if_neg (by rw [h]; simp)]
theorem zG {α:Type} {f:α->Int}:∀{l:List α} {i:Nat} {x:α},(∀s ∈ l.take i,f s=0)->l[i]? = some x->¬f x=0->gk f l=f x
 | [],i,x,_,h,_=>by simp at h
 | y::l,0,x,_,h,a=>by
   rw [kf] at h
   injection h with h
   subst h;rw [gk,er,if_neg a]
 | y::l,i+1,x,b,h,a=>by
   rw [lY] at h;rw [gk,er,if_pos (b y aj)];exact zG (λs c=>b s (by simp [c])) h a
abbrev ie:=List UInt8
def Rh (l:List ie):Int:=gk (λs=>(bN s).2) l
def aJ (l:List ie):List aX:=l.map λs=>(bN s).1
def ho (ms:List aX) (d:List Nat):List aX:=d.filterMap λi=>ms[i]?
def mP (l:List ie):Int:=if l.length<1\/4<l.length then 2 else Rh l
def n_ (l:List ie) (q:List Nat×Int):List cb×Int:=if q.2≠0 then ([],q.2) else gK (ho (aJ l) q.1) []
def w_ (l:List cb):Int:=gk (λu=>(fJ u).2) l
def jP (r:List cb×Int):(List bA×Int)×Int:=if r.2≠0 then (([],0),r.2) else if w_ r.1≠0 then (([],0),w_ r.1) else gV (r.1.map λu=>(fJ u).1.to)
theorem Dz {l:List ie} (h:mP l=0):(1<=l.length/\l.length<=4)/\∀s ∈ l,(bN s).2=0:=by
 unfold mP at h
 split at h
 · cases h
 · exact ⟨ae,mI.1 h⟩
theorem DA {l:List ie} (b:1<=l.length/\l.length<=4) (a:∀s ∈ l,(bN s).2=0):mP l=0:=by
 rw [mP,if_neg ae];exact mI.2 a
theorem Ri {l:List aX} {d:List Nat} {k i:Nat} {m:aX} (h:d[k]? = some i) (a:l[i]? = some m):ho l (d.take (k+1))=ho l (d.take k)++[m]:=by
 unfold ho;rw [aZ,h,Fs];simp [a]
theorem Rj {l:List aX} {d:List Nat} {k i:Nat} {m:aX} (h:d[k]? = some i) (b:l[i]? = some m):ho l (d.drop k)=m::ho l (d.drop (k+1)):=by
 have a:=(cf.1 h).1;unfold ho;rw [pf a,Ba]
 have:d[k]=i:=by rw [dL a] at h; injection h
 rw [this,b]
section
variable {P:Program} {Q:Exit->Act->World->Prop} {n:Nat} {ds:List Deferred} {l:List (Nat×Value)} {W:World->Prop}
theorem WC.scope {c:Code} (h:WC P c (Exit.noGoto Q) n ds l W):WC P (.scope c) Q n ds l W:=λa w b d=>wp_scope_straight (h a w b d)
theorem WC.label {i:Nat} (h:WE Q .normal n ds l W):WC P (.label i) Q n ds l W:=λa w b c=>wp_label (h a w b c)
theorem WE.DB (h:WE Q .ret n ds l W):WE (Exit.noGoto Q) .ret n ds l W:=h
end
section
variable {P:Program} {l:List (Nat×Value)} {W:World->Prop} {ty:TypeId} {pos:String} {af:Array Edge} {g:Option (Nat×Bool)} {d:Option Tmp}
theorem Rk {t u:TypeId} {x y:Operand} {a b:List UInt8} (e:bn l x=some (st a)) (f:bn l y=some (st b)):Yl P l W ⟨d,.binOp .lss t x y u,ty,pos,af,g⟩ (.bool (Op.bytesLess a b)):=
 λρ w c _=>by simp [execOp,c x _ e,c y _ f,st,eqGuard,binOp,Op.stringOp]
theorem Rl {t u:TypeId} {x y:Operand} {a b:List UInt8} (e:bn l x=some (st a)) (f:bn l y=some (st b)):Yl P l W ⟨d,.binOp .gtr t x y u,ty,pos,af,g⟩ (.bool (!(Op.bytesLess a b||a==b))):=
 λρ w c _=>by simp [execOp,c x _ e,c y _ f,st,eqGuard,binOp,Op.stringOp]
end
section
variable {P:Program} {ops:Array Oper} {cd:Code} {Q:Exit->Act->World->Prop} {n:Nat} {ds:List Deferred} {l:List (Nat×Value)} {w0:World} {F:List Nat} {L:List aW} {Vs:List View} {rest:List Oper}
theorem WL.zH {b:Nat} {a:Obj} (i:Nat) (d:L[i]? = some (ao b a)) (h:∀c:View,c b=some a->WL P ops Q n ds l (Ws w0 F (eu i L) (c::Vs)) rest):WL P ops Q n ds l (Ws w0 F L Vs) rest:=
 WL.lv i d (h _ (by simp [bv]))
theorem WC.zH {b:Nat} {c:Obj} (i:Nat) (e:L[i]? = some (ao b c)) (h:∀d:View,d b=some c->WC P cd Q n ds l (Ws w0 F (eu i L) (d::Vs))):WC P cd Q n ds l (Ws w0 F L Vs):=
 λa w f g=>h _ (by simp [bv]) a w f (g.lv i e)
end
section
variable {P:Program} {ops:Array Oper} {Q:Exit->Act->World->Prop} {n:Nat} {ds:List Deferred} {l:List (Nat×Value)} {W:World->Prop} {w0:World} {F:List Nat} {L:List aW} {Vs:List View}
 {rest:List Oper} {d:Nat} {dd:Option Tmp} {ty:TypeId} {pos:String} {af:Array Edge} {g:Option (Nat×Bool)}
theorem Jo {f:FuncId} {fs:Array Operand} {vs:List Value} (a:iu l fs.toList=some vs):Yl P l W ⟨dd,.makeFunc (.func f) fs #[],ty,pos,af,g⟩ (.func (.func f) vs.toArray #[]):=by
 intro ρ w b _
 have e:fs.map ρ=vs.toArray:=by
   apply qk
   simpa using v' b _ _ a
 simp [execOp,Instr.makeFunc,e]
theorem Rn {ρ:Operand->Value} {dst:Option Tmp} {f:FuncId} {a:Operand} {fs b:Array Value} {ts:Array TypeId} {w:World} (c:Enters P f) (d:ρ a = .func (.func f) fs b) :
   (execOp ρ ⟨dst,.call ⟨.value a,#[],ts⟩,ty,pos,af,g⟩).run P w = .ok (.enter f (fs++b)) w:=by
 have e:(#[]:Array Operand).map ρ = #[]:=aj
 simp only [execOp,resolve,e,d,Deferred.ofValue,Sem.run_bind,Sem.run_pure,Result.andThen_ok,invoke]
 simpa using c _ w
theorem WL.zI {ι κ:Type} {f:FuncId} {o:Operand} {fs p:Array Value} {ts:Array TypeId} (b L2:List aW) (t:dN ops l g) (u:Nat.blt d n=true) (x:Enters P f) (y:bn l o=some (.func (.func f) fs p)) (z:L=b++L2)
   (v:ι->Value) (q:ι->List aW) (R:ι->Prop) (r:κ->List PanicEntry) (Lp:κ->List aW) (s:κ->Prop) (b3:List View) (A:∀B ∈ b3,B ∈ Vs)
   (C:∀w,Ws w (b.flatMap aW.ids) b b3 w->Calls P f (fs++p) w λe w'=>(∃i,e = .returned (v i)/\R i/\Ws w (b.flatMap aW.ids) (q i) b3 w')\/(∃j,e = .panicked (r j)/\s j/\Ws w (b.flatMap aW.ids) (Lp j) b3 w'))
   (D:∀j,s j->WE Q (.panic (r j)) n ds l (Ws w0 F (Lp j++L2) Vs))
   (E:∀i,R i->WL P ops Q n ds ((d,v i)::l) (Ws w0 F (q i++L2) Vs) rest) :
   WL P ops Q n ds l (Ws w0 F L Vs) (⟨some d,.call ⟨.value o,#[],ts⟩,ty,pos,af,g⟩::rest):=by
 subst z;refine WL.step t λa w c k J G=>?_;have H:=Rn (P:=P) (ρ:=a.eval) (dst:=some d) (ts:=ts) (ty:=ty) (pos:=pos) (af:=af) (g:=g) (w:=w) x (c.eval y);simp only [Oper.wp,H,Oper.upon_enter];refine (C w (k.self.av A)).mono λe w' I=>?_
 rcases I with ⟨i,rfl,m,h⟩ | ⟨j,rfl,m,h⟩
 · exact G _ _ (E i m _ _ (c.put u _) (k.back h))
 · exact D j m _ _ c (k.back h)
end
end Go.Bw
end
section
namespace Go.Bw
open Go
theorem eS {s:Tx} {l q:Tk} (h:aY s l=some q):l.length=q.length+1:=by
 cases l with
 | nil=>cases h
 | cons t r=>
   simp only [aY] at h
   split at h
   · injection h with h; subst h; rfl
   · cases h
theorem Jp {k:Int} {l q:Tk} {t:Tok} (h:ku k l=some (t,q)):l.length=q.length+1:=by
 cases l with
 | nil=>cases h
 | cons t r=>
   simp only [ku] at h
   split at h
   · injection h with h; injection h with b a; subst a; rfl
   · cases h
theorem p0 {l r:Tk} {a:Tx} (h:eb l=some (a,r)):a.length<=8/\l.length=r.length+1:=by
 unfold eb at h;obtain ⟨⟨t,q⟩,d,b⟩:=b'.1 h;simp only at b
 split at b
 · rename_i c
   simp only [e0,df] at b;obtain ⟨rfl,rfl⟩:=b;refine ⟨?_,Jp d⟩;simp only [eP,ep,cO,decide_eq_true_eq] at c;exact c.1.1.1.2
 · cases b
theorem Jq {l r:Tk} {a:Int} (h:jM l=some (a,r)):l.length=r.length+1:=by
 unfold jM at h;obtain ⟨⟨t,q⟩,c,b⟩:=dr.1 h;simp only [df] at b;obtain ⟨_,rfl⟩:=b;exact Jp c
theorem Jr {l r:Tk} {p:Tx×Tx} (h:jd l=some (p,r)):p.1.length+p.2.length<=16/\r.length+1<=l.length:=by
 unfold jd at h;obtain ⟨⟨a,q⟩,e,c⟩:=b'.1 h;obtain ⟨i,j⟩:=p0 e;simp only at c
 split at c
 · rename_i k f
   obtain ⟨⟨b,m⟩,g,d⟩:=dr.1 c;simp only [df] at d;obtain ⟨rfl,rfl⟩:=d;obtain ⟨n,o⟩:=p0 g;have:=eS f;simp only;omega
 · simp only [e0,df] at c
   obtain ⟨rfl,rfl⟩:=c;simp only [eT];omega
def WB (a:Tk->Option (a8×Tk)):Prop:=∀l x r,a l=some (x,r)->wE x+18*r.length<=18*l.length
theorem Js {c:Tk->Option (a8×Tk)} (d:WB c):∀(n:Nat) (l:Tk) (xs:List a8) (r:Tk),j_ c n l=some (xs,r)->e1 xs+18*r.length<=18*l.length
 | 0,_,_,_,h=>by cases h
 | n+1,l,xs,r,h=>by
   unfold j_ at h;obtain ⟨⟨x,q⟩,g,a⟩:=b'.1 h;have k:=d l x q g;simp only at a
   split at a
   · rename_i e b
     simp only [e0,df] at a;obtain ⟨rfl,rfl⟩:=a;have:=eS b;simp only [e1];omega
   · split at a
     · rename_i e b
       obtain ⟨⟨ys,i⟩,j,f⟩:=dr.1 a;simp only [df] at f;obtain ⟨rfl,rfl⟩:=f;have:=eS b;have:=Js d n e ys i j;simp only [e1];omega
     · cases a
theorem Jt {a:Tk->Option (a8×Tk)} (b:WB a) {l r:Tk} {xs:List a8} (h:jN a l=some (xs,r)):e1 xs+18*r.length<=18*l.length:=by
 unfold jN at h
 split at h
 · rename_i q c
   simp only [e0,df] at h;obtain ⟨rfl,rfl⟩:=h;have:=eS c;simp only [e1];omega
 · exact Js b _ _ _ _ h
theorem Ju:∀(a:List Tx) (i k:Nat) (l r:Tk),mg a i l=some (k,r)->r.length+1<=l.length
 | [],_,_,_,_,h=>by cases h
 | w::a,i,k,l,r,h=>by
   unfold mg at h
   split at h
   · rename_i q b
     simp only [e0,df] at h;obtain ⟨_,rfl⟩:=h;have:=eS b;omega
   · exact Ju a _ _ _ _ h
theorem Ro {c:Tk->Option (a8×Tk)} (d:WB c) {l r:Tk} {x:a8} (h:lj c l=some (x,r)):wE x+18*r.length<=18*l.length:=by
 unfold lj at h;obtain ⟨⟨a,p⟩,f,g⟩:=b'.1 h;obtain ⟨⟨o,q⟩,i,j⟩:=b'.1 g;obtain ⟨⟨b,s⟩,k,m⟩:=b'.1 j;obtain ⟨t,n,e⟩:=dr.1 m;simp only [df] at e;obtain ⟨rfl,rfl⟩:=e;have u:=d _ _ _ f;have v:=Ju _ _ _ _ _ i;have w:=d _ _ _ k;have y:=eS n;simp only [wE,e1,eT] at *;omega
theorem Rp {d:Tk->Option (a8×Tk)} (e:WB d) {l r:Tk} {mod nm:Tx} {x:a8} (m:mod.length+nm.length<=16) (h:lJ d mod nm l=some (x,r)):wE x+18*r.length<=17+18*l.length:=by
 unfold lJ at h
 split at h
 · rename_i q b
   obtain ⟨⟨y,g⟩,c,a⟩:=b'.1 h;obtain ⟨n,i,f⟩:=dr.1 a;simp only [df] at f;obtain ⟨rfl,rfl⟩:=f;have j:=eS b;have k:=e _ _ _ c;have o:=eS i;simp only [wE,e1] at *;omega
 · split at h
   · rename_i q b
     obtain ⟨⟨xs,g⟩,c,a⟩:=dr.1 h;simp only [df] at a;obtain ⟨rfl,rfl⟩:=a;have j:=eS b;have k:=Jt e c;simp only [wE] at *;omega
   · simp only [e0,df] at h
     obtain ⟨rfl,rfl⟩:=h;simp only [wE,e1] at *;omega
theorem Rq {f:Tk->Option (a8×Tk)} (c:WB f):WB (ka f):=by
 intro l x r h;unfold ka at h
 split at h
 · rename_i q a
   simp only [e0,df] at h;obtain ⟨rfl,rfl⟩:=h;have:=eS a;simp only [wE,e1,eT];omega
 · split at h
   · rename_i q a
     obtain ⟨⟨y,j⟩,d,b⟩:=dr.1 h;simp only [df] at b;obtain ⟨rfl,rfl⟩:=b;have e:=eS a;have g:=c _ _ _ d;simp only [wE,e1,eT];omega
   · split at h
     · rename_i q a
       have e:=eS a;have g:=Ro c h;omega
     · obtain ⟨⟨p,q⟩,d,b⟩:=b'.1 h
       obtain ⟨e,g⟩:=Jr d;have i:=Rp c e b;simp only at i;omega
theorem DC:∀f,WB (cR f)
 | 0=>λ_ _ _ h=>by cases h
 | f+1=>by
   intro l x r h
   cases l with
   | nil=>cases h
   | cons t q=>
     unfold cR at h
     by_cases a:t.kind=2
     · simp only [if_pos a,e0,df] at h
       obtain ⟨rfl,rfl⟩:=h;simp only [wE,e1,eT,du];omega
     · simp only [if_neg a] at h
       exact Rq (DC f) _ _ _ h
theorem Rr {l r:Tk} {s:bq} (h:fh l=some (s,r)):wS s+18*r.length<=18*l.length:=by
 have c:=DC 6;unfold fh at h
 split at h
 · rename_i q a
   obtain ⟨⟨x,f⟩,k,b⟩:=dr.1 h;simp only [df] at b;obtain ⟨rfl,rfl⟩:=b;have o:=eS a;have g:=c _ _ _ k;simp only [wS,e1,ef,eT];omega
 · split at h
   · rename_i q a
     obtain ⟨⟨x,f⟩,k,b⟩:=dr.1 h;simp only [df] at b;obtain ⟨rfl,rfl⟩:=b;have o:=eS a;have g:=c _ _ _ k;simp only [wS,e1,ef,eT];omega
   · obtain ⟨⟨⟨mod,nm⟩,q⟩,b,d⟩:=b'.1 h
     obtain ⟨v,o⟩:=Jr b;simp only at d v
     split at d
     · rename_i f a
       obtain ⟨⟨xs,p⟩,w,e⟩:=dr.1 d;simp only [df] at e;obtain ⟨rfl,rfl⟩:=e;have g:=eS a;have t:=Jt c w;simp only [wS,ef];omega
     · split at d
       · rename_i f a
         obtain ⟨⟨i,p⟩,e,m⟩:=b'.1 d;obtain ⟨B,n,j⟩:=b'.1 m;obtain ⟨C,y,z⟩:=b'.1 j;obtain ⟨⟨x,D⟩,A,u⟩:=dr.1 z;simp only [df] at u;obtain ⟨rfl,rfl⟩:=u;have g:=eS a;have t:=c _ _ _ e;have E:=eS n;have F:=eS y;have G:=c _ _ _ A;simp only [wS,e1,ef] at *;omega
       · obtain ⟨f,e,m⟩:=b'.1 d
         obtain ⟨⟨x,p⟩,n,j⟩:=dr.1 m;simp only [df] at j;obtain ⟨rfl,rfl⟩:=j;have g:=eS e;have t:=c _ _ _ n;simp only [wS,e1,ef];omega
def Jv (pb:Tk->Option (List bq×Tk)):Prop:=∀l x r,pb l=some (x,r)->ef x+18*r.length<=18*l.length
theorem NN {pb:Tk->Option (List bq×Tk)} (f:Jv pb) {l r:Tk} {s:bq} (h:eO pb l=some (s,r)):wS s+18*r.length<=18*l.length:=by
 have k:=DC 6;unfold eO at h
 split at h
 · rename_i q g
   obtain ⟨⟨x,m⟩,i,c⟩:=b'.1 h;obtain ⟨⟨b,u⟩,d,a⟩:=b'.1 c;have n:=eS g;have j:=k _ _ _ i;have p:=f _ _ _ d;simp only at a j p
   split at a
   · rename_i y v
     obtain ⟨⟨o,z⟩,w,e⟩:=b'.1 a;have A:=eS v;have B:=f _ _ _ w;simp only at e
     split at e
     · cases e
     · simp only [e0,df] at e
       obtain ⟨rfl,rfl⟩:=e;simp only [wS,e1,eT] at *;omega
   · simp only [e0,df] at a
     obtain ⟨rfl,rfl⟩:=a;simp only [wS,e1,ef,eT] at *;omega
 · split at h
   · rename_i q g
     obtain ⟨⟨x,m⟩,i,c⟩:=b'.1 h;obtain ⟨⟨b,u⟩,d,a⟩:=dr.1 c;simp only [df] at a;obtain ⟨rfl,rfl⟩:=a;have n:=eS g;have j:=k _ _ _ i;have p:=f _ _ _ d;simp only [wS,e1,ef,eT] at *;omega
   · obtain ⟨⟨C,q⟩,c,d⟩:=b'.1 h
     obtain ⟨m,a,t⟩:=dr.1 d;simp only [df] at t;obtain ⟨rfl,rfl⟩:=t;have n:=Rr c;have j:=eS a;simp only at *;omega
theorem Jw {ps:Tk->Option (bq×Tk)} (a:∀l x r,ps l=some (x,r)->wS x+18*r.length<=18*l.length):∀(n:Nat) (l:Tk) (xs:List bq) (r:Tk),lK ps n l=some (xs,r)->ef xs+18*r.length<=18*l.length
 | 0,_,_,_,h=>by cases h
 | n+1,l,xs,r,h=>by
   unfold lK at h
   split at h
   · rename_i q c
     simp only [e0,df] at h;obtain ⟨rfl,rfl⟩:=h;have:=eS c;simp only [ef];omega
   · obtain ⟨⟨s,q⟩,d,e⟩:=b'.1 h
     obtain ⟨⟨ys,f⟩,g,b⟩:=dr.1 e;simp only [df] at b;obtain ⟨rfl,rfl⟩:=b;have i:=a _ _ _ d;have j:=Jw a n q ys f g;simp only [ef];omega
theorem DD:∀f,Jv (a' f)
 | 0=>λ_ _ _ h=>by cases h
 | f+1=>by
   intro l x r h;unfold a' at h;obtain ⟨q,a,b⟩:=b'.1 h;have d:=eS a;have e:=Jw (λl x r c=>NN (DD f) c) _ _ _ _ b;omega
theorem DE (l:Tk):(eG l).2.length<=l.length:=by
 unfold eG
 cases h:aY tf l with
 | none=>exact dp _
 | some q=>have:=eS h; simp only [mY]; omega
theorem Rt {bG:Bool} {l r:Tk} {d:cQ} (h:aN bG l=some (some d,r)):1+d.nm.length+18*r.length<=18*l.length:=by
 unfold aN at h
 split at h
 · rename_i q c
   obtain ⟨⟨a,m⟩,w,i⟩:=b'.1 h;obtain ⟨o,e,f⟩:=b'.1 i;obtain ⟨⟨n,x⟩,b,j⟩:=b'.1 f;obtain ⟨y,k,g⟩:=dr.1 j;simp only [df,e0] at g;obtain ⟨rfl,rfl⟩:=g;have p:=eS c;obtain ⟨s,t⟩:=p0 w;have u:=eS e;have z:=Jq b;have A:=eS k;simp only at *;omega
 · split at h
   · rename_i q c
     obtain ⟨⟨a,m⟩,i,e⟩:=b'.1 h;obtain ⟨o,f,b⟩:=dr.1 e;simp only [df,e0] at b;obtain ⟨rfl,rfl⟩:=b;have p:=eS c;obtain ⟨s,t⟩:=p0 i;have u:=eS f;simp only at *;omega
   · split at h
     · rename_i q c
       obtain ⟨⟨a,m⟩,e,f⟩:=b'.1 h;obtain ⟨o,b,j⟩:=b'.1 f;obtain ⟨⟨n,x⟩,k,g⟩:=b'.1 j;obtain ⟨y,B,C⟩:=b'.1 g;obtain ⟨E,D,v⟩:=dr.1 C;simp only [df,e0] at v;obtain ⟨rfl,rfl⟩:=v;have p:=eS c;obtain ⟨s,t⟩:=p0 e;have u:=eS b;have z:=Jq k;have A:=eS B;have F:=eS D;simp only at *;omega
     · simp at h
theorem Jx:∀(n:Nat) (bG:Bool) (l:Tk) (ds:List cQ) (b:Bool) (r:Tk),kQ n bG l=some ((ds,b),r)->wD ds+18*r.length<=18*l.length
 | 0,_,_,_,_,_,h=>by cases h
 | n+1,bG,l,ds,b,r,h=>by
   unfold kQ at h;obtain ⟨⟨o,q⟩,c,a⟩:=b'.1 h
   cases o with
   | none=>
     have:=Dk c;simp only [e0,df] at a;obtain ⟨⟨e,_⟩,f⟩:=a;rw [<-e,<-f,this];simp [wD]
   | some x=>
     obtain ⟨⟨⟨ys,pb⟩,i⟩,g,d⟩:=dr.1 a;simp only [df] at d;obtain ⟨⟨rfl,rfl⟩,rfl⟩:=d;have j:=Rt c;have k:=Jx n _ _ _ _ _ g;have m:=DE q;simp only [wD] at *;omega
theorem Jy:∀(n:Nat) (first:Bool) (l:Tk) (xs:List Tx) (r:Tk),ic n first l=some (xs,r)->wN xs+18*r.length<=18*l.length
 | 0,_,_,_,_,h=>by cases h
 | n+1,first,l,xs,r,h=>by
   unfold ic at h
   split at h
   · rename_i q e
     simp only [e0,df] at h;obtain ⟨rfl,rfl⟩:=h;have:=eS e;simp only [wN];omega
   · obtain ⟨c,b,f⟩:=b'.1 h
     obtain ⟨⟨a,q⟩,g,i⟩:=b'.1 f;obtain ⟨⟨ys,j⟩,k,d⟩:=dr.1 i;simp only [df] at d;obtain ⟨rfl,rfl⟩:=d
     have m:c.length<=l.length:=by
       cases first with
       | true=>simp only [if_true,e0] at b; subst b; exact dp _
       | false=>have:=eS (s:=[44]) (l:=l) (q:=c) b; omega
     obtain ⟨o,p⟩:=p0 g;have t:=Jy n false q ys j k;simp only [wN] at *;omega
theorem Jz:∀(n:Nat) (l:Tk) (xs:List Tx) (r:Tk),jr n l=some (xs,r)->wN xs+18*r.length<=18*l.length
 | 0,_,_,_,h=>by cases h
 | n+1,l,xs,r,h=>by
   unfold jr at h
   split at h
   · rename_i q c
     obtain ⟨⟨a,m⟩,d,e⟩:=b'.1 h;obtain ⟨f,g,i⟩:=b'.1 e;obtain ⟨⟨ys,j⟩,k,b⟩:=dr.1 i;simp only [df] at b;obtain ⟨rfl,rfl⟩:=b;have o:=eS c;obtain ⟨p,s⟩:=p0 d;have t:=eS g;have u:=Jz n f ys j k;simp only [wN] at *;omega
   · simp only [e0,df] at h
     obtain ⟨rfl,rfl⟩:=h;simp [wN]
theorem JA:∀(n:Nat) (l:Tk) (xs:List Tx) (r:Tk),jO n l=some (xs,r)->wN xs+18*r.length<=18*l.length
 | 0,_,_,_,h=>by cases h
 | n+1,l,xs,r,h=>by
   unfold jO at h
   split at h
   · rename_i q c
     obtain ⟨⟨a,m⟩,d,e⟩:=b'.1 h;obtain ⟨f,g,i⟩:=b'.1 e;obtain ⟨⟨ys,j⟩,k,b⟩:=dr.1 i;simp only [df] at b;obtain ⟨rfl,rfl⟩:=b;have o:=eS c;obtain ⟨p,s⟩:=p0 d;have t:=eS g;have u:=JA n f ys j k;simp only [wN] at *;omega
   · simp only [e0,df] at h
     obtain ⟨rfl,rfl⟩:=h;simp [wN]
theorem Ru {bG:Bool} {l r:Tk} {p:ed} (h:iF bG l=some (p,r)):p.nm.length+wN p.params+wN p.aB+ef p.body+18*r.length<=18*l.length:=by
 unfold iF at h;obtain ⟨⟨a,o⟩,d,e⟩:=b'.1 h;obtain ⟨q,f,g⟩:=b'.1 e;obtain ⟨⟨ps,s⟩,i,j⟩:=b'.1 g;obtain ⟨⟨t,u⟩,k,m⟩:=b'.1 j;obtain ⟨⟨b,v⟩,n,c⟩:=dr.1 m;simp only [df] at c;obtain ⟨rfl,rfl⟩:=c;obtain ⟨w,x⟩:=p0 d;have y:=eS f;have z:=Jy _ _ _ _ _ i;have A:=Jz _ _ _ _ k;have B:=DD 6 _ _ _ n;simp only at *;omega
theorem JB:∀(n:Nat) (bG:Bool) (l:Tk) (ds:List ed) (a:Bool) (r:Tk),kR n bG l=some ((ds,a),r)->wP ds+18*r.length<=18*l.length
 | 0,_,_,_,_,_,h=>by cases h
 | n+1,bG,l,ds,a,r,h=>by
   unfold kR at h
   split at h
   · rename_i q c
     obtain ⟨⟨p,d⟩,e,f⟩:=b'.1 h;obtain ⟨⟨⟨ys,pb⟩,i⟩,g,b⟩:=dr.1 f;simp only [df] at b;obtain ⟨⟨rfl,rfl⟩,rfl⟩:=b;have j:=eS c;have k:=Ru e;have m:=JB n _ _ _ _ _ g;have o:=DE d;simp only [wP] at *;omega
   · simp only [e0,df] at h
     obtain ⟨⟨rfl,rfl⟩,rfl⟩:=h;simp [wP]
theorem JC {l r:Tk} {m:aX} (h:kS l=some (m,r)):wM m+18*r.length<=18*l.length:=by
 unfold kS at h;obtain ⟨q,d,h⟩:=b'.1 h;obtain ⟨⟨a,s⟩,e,h⟩:=b'.1 h;obtain ⟨t,f,h⟩:=b'.1 h;obtain ⟨⟨us,g⟩,i,h⟩:=b'.1 h;obtain ⟨⟨⟨ds,u⟩,v⟩,j,h⟩:=b'.1 h;obtain ⟨⟨⟨ps,w⟩,x⟩,k,h⟩:=b'.1 h;simp only at h
 split at h
 · cases h
 · obtain ⟨y,n,h⟩:=b'.1 h
   obtain ⟨⟨b,z⟩,o,h⟩:=b'.1 h;obtain ⟨A,p,c⟩:=dr.1 h;simp only [df] at c;obtain ⟨rfl,rfl⟩:=c;have B:=eS d;obtain ⟨C,D⟩:=p0 e;have E:=eS f;have F:=JA _ _ _ _ i;have G:=Jx _ _ _ _ _ _ j;have H:=DE g;have I:=JB _ _ _ _ _ _ k;have J:=eS n;have K:=DD 6 _ _ _ o;have L:=eS p;simp only [wM] at *;omega
end Go.Bw
end
section
namespace Go.Bw
open Go
def JD (l:Tk):Prop:=∀t ∈ l,t.kind=1->t.text.length<=8
structure tm (l r:Tk):Prop where
 ok:JD r
 le:r.length<=l.length
theorem tm.trans {a b c:Tk} (h:tm a b) (g:tm b c):tm a c:=⟨g.ok,kZ g.le h.le⟩
structure YC (l:Tk) (p:a8×Tk):Prop extends tm l p.2 where
 w:wE p.1+40*p.2.length<=20+40*l.length
structure YD (l:Tk) (p:bq×Tk):Prop extends tm l p.2 where
 w:wS p.1+80*p.2.length<=80*l.length\/(p.2.length=l.length/\wS p.1<=40)
structure Rv (l:Tk) (p:List bq×Tk):Prop extends tm l p.2 where
 w:ef p.1+80*p.2.length<=80*l.length
def DF (pb:Tk->List bq×Tk):Prop:=∀l,JD l->Rv l (pb l)
end Go.Bw
end
section
namespace Go.Proofs
open Go.Shelf
def Tryz.Rw:Go.Shelf.Ren:=⟨fun | 137=>165 | 217=>211 | 266=>250 | n=>n,fun | 9=>9 | 5=>5 | 3=>3 | n=>n,fun | n=>n⟩
theorem Tryz.Rx:Go.Proofs.Lays.n137 Tryz.prog Tryz.Rw:={
 mixed:=ab
 f137:=Tryz.func165.trans (congrArg some ab)
 f217:=Tryz.func211.trans (congrArg some ab)
 f266:=Tryz.func250.trans (congrArg some ab)
 t3:=Tryz.underlying3
 a3:=Tryz.isAgg3
 z3:=Tryz.sizeOf3
 v3:=Tryz.zeroValue3
 t5:=Tryz.underlying5
 a5:=Tryz.isAgg5
 z5:=Tryz.sizeOf5
 v5:=Tryz.zeroValue5
 t9:=Tryz.underlying9
 a9:=Tryz.isAgg9
 z9:=Tryz.sizeOf9
 v9:=Tryz.zeroValue9 }
def Tryz.Ry:Go.Shelf.Ren:=⟨fun | 171=>164 | 243=>210 | 246=>249 | 283=>268 | 284=>269 | 285=>270 | 286=>271 | 129=>207 | 317=>276 | 318=>277 | 319=>278 | 320=>279 | 337=>280 | 338=>281 | n=>n,fun | 3=>3 | 9=>9 | 2=>2 | 4=>4 | 171=>352 | 0=>0 | 53=>305 | 37=>161 | 5=>5 | 173=>354 | 212=>363 | 51=>303 | 20=>20 | 213=>364 | 46=>230 | 232=>365 | 233=>366 | n=>n,fun | 17=>3 | 18=>4 | 19=>5 | n=>n⟩
theorem Tryz.NO:Go.Proofs.LaysM.n171 Tryz.prog Tryz.Ry:={
 mixed:=ab
 f129:=Tryz.func207.trans (congrArg some ab)
 f171:=Tryz.func164.trans (congrArg some ab)
 f243:=Tryz.func210.trans (congrArg some ab)
 f246:=Tryz.func249.trans (congrArg some ab)
 f283:=Tryz.func268.trans (congrArg some ab)
 f284:=Tryz.func269.trans (congrArg some ab)
 f285:=Tryz.func270.trans (congrArg some ab)
 f286:=Tryz.func271.trans (congrArg some ab)
 f317:=Tryz.func276.trans (congrArg some ab)
 f318:=Tryz.func277.trans (congrArg some ab)
 f319:=Tryz.func278.trans (congrArg some ab)
 f320:=Tryz.func279.trans (congrArg some ab)
 f337:=Tryz.func280.trans (congrArg some ab)
 f338:=Tryz.func281.trans (congrArg some ab)
 t0:=Tryz.underlying0
 a0:=Tryz.isAgg0
 z0:=Tryz.sizeOf0
 v0:=Tryz.zeroValue0
 t2:=Tryz.underlying2
 a2:=Tryz.isAgg2
 z2:=Tryz.sizeOf2
 v2:=Tryz.zeroValue2
 t3:=Tryz.underlying3
 a3:=Tryz.isAgg3
 z3:=Tryz.sizeOf3
 v3:=Tryz.zeroValue3
 t4:=Tryz.underlying4
 a4:=Tryz.isAgg4
 z4:=Tryz.sizeOf4
 v4:=Tryz.zeroValue4
 t5:=Tryz.underlying5
 a5:=Tryz.isAgg5
 z5:=Tryz.sizeOf5
 v5:=Tryz.zeroValue5
 t9:=Tryz.underlying9
 a9:=Tryz.isAgg9
 z9:=Tryz.sizeOf9
 v9:=Tryz.zeroValue9
 t20:=Tryz.underlying20
 a20:=Tryz.isAgg20
 z20:=Tryz.sizeOf20
 v20:=Tryz.zeroValue20
 t37:=Tryz.underlying161
 a37:=Tryz.isAgg161
 z37:=Tryz.sizeOf161
 v37:=Tryz.zeroValue161
 t46:=Tryz.underlying230
 a46:=Tryz.isAgg230
 z46:=Tryz.sizeOf230
 v46:=Tryz.zeroValue230
 t51:=Tryz.underlying303
 a51:=Tryz.isAgg303
 z51:=Tryz.sizeOf303
 v51:=Tryz.zeroValue303
 t53:=Tryz.underlying305
 a53:=Tryz.isAgg305
 z53:=Tryz.sizeOf305
 v53:=Tryz.zeroValue305
 t171:=Tryz.underlying352
 a171:=Tryz.isAgg352
 z171:=Tryz.sizeOf352
 v171:=Tryz.zeroValue352
 t173:=Tryz.underlying354
 a173:=Tryz.isAgg354
 z173:=Tryz.sizeOf354
 v173:=Tryz.zeroValue354
 t212:=Tryz.underlying363
 a212:=Tryz.isAgg363
 z212:=Tryz.sizeOf363
 v212:=Tryz.zeroValue363
 t213:=Tryz.underlying364
 a213:=Tryz.isAgg364
 z213:=Tryz.sizeOf364
 t232:=Tryz.underlying365
 a232:=Tryz.isAgg365
 z232:=Tryz.sizeOf365
 v232:=Tryz.zeroValue365
 t233:=Tryz.underlying366
 a233:=Tryz.isAgg366
 z233:=Tryz.sizeOf366
 v233:=Tryz.zeroValue366
 g17:=ab
 g18:=ab
 g19:=ab
 i0:=ab
 i2:=ab
 i3:=ab
 i4:=ab
 i5:=ab
 i9:=ab
 i20:=ab
 i37:=ab
 i46:=ab
 i51:=ab
 i53:=ab
 i171:=ab
 i173:=ab
 i212:=ab
 i232:=ab
 i233:=ab
 m17:=ab
 m18:=ab
 m19:=by kernel_rfl }
def Tryz.RA:Go.Shelf.Ren:=⟨fun | 172=>163 | 244=>208 | 245=>209 | 247=>244 | 279=>245 | 280=>246 | 281=>247 | 282=>248 | 287=>265 | 316=>266 | 171=>164 | 205=>267 | 321=>274 | 322=>275 | 243=>210 | 246=>249 | 283=>268 | 284=>269 | 285=>270 | 286=>271 | 129=>207 | 317=>276 | 318=>277 | 319=>278 | 320=>279 | 337=>280 | 338=>281 | n=>n,fun | 9=>9 | 3=>3 | 75=>246 | 76=>247 | 4=>4 | 5=>5 | 167=>329 | 37=>161 | 0=>0 | 85=>330 | 2=>2 | 168=>332 | 53=>305 | 175=>347 | 46=>230 | 210=>350 | 127=>250 | 145=>361 | 143=>359 | 21=>21 | 171=>352 | 173=>354 | 212=>363 | 51=>303 | 20=>20 | 213=>364 | 232=>365 | 233=>366 | 80=>78 | n=>n,fun | 15=>0 | 16=>1 | 17=>3 | 18=>4 | 19=>5 | n=>n⟩
theorem Tryz.DG:Go.Proofs.LaysC.n172 Tryz.prog Tryz.RA:={
 mixed:=ab
 f129:=Tryz.func207.trans (congrArg some ab)
 f171:=Tryz.func164.trans (congrArg some ab)
 f172:=Tryz.func163.trans (congrArg some ab)
 f205:=Tryz.func267.trans (congrArg some ab)
 f243:=Tryz.func210.trans (congrArg some ab)
 f244:=Tryz.func208.trans (congrArg some ab)
 f245:=Tryz.func209.trans (congrArg some ab)
 f246:=Tryz.func249.trans (congrArg some ab)
 f247:=Tryz.func244.trans (congrArg some ab)
 f279:=Tryz.func245.trans (congrArg some ab)
 f280:=Tryz.func246.trans (congrArg some ab)
 f281:=Tryz.func247.trans (congrArg some ab)
 f282:=Tryz.func248.trans (congrArg some ab)
 f283:=Tryz.func268.trans (congrArg some ab)
 f284:=Tryz.func269.trans (congrArg some ab)
 f285:=Tryz.func270.trans (congrArg some ab)
 f286:=Tryz.func271.trans (congrArg some ab)
 f287:=Tryz.func265.trans (congrArg some ab)
 f316:=Tryz.func266.trans (congrArg some ab)
 f317:=Tryz.func276.trans (congrArg some ab)
 f318:=Tryz.func277.trans (congrArg some ab)
 f319:=Tryz.func278.trans (congrArg some ab)
 f320:=Tryz.func279.trans (congrArg some ab)
 f321:=Tryz.func274.trans (congrArg some ab)
 f322:=Tryz.func275.trans (congrArg some ab)
 f337:=Tryz.func280.trans (congrArg some ab)
 f338:=Tryz.func281.trans (congrArg some ab)
 t0:=Tryz.underlying0
 a0:=Tryz.isAgg0
 z0:=Tryz.sizeOf0
 v0:=Tryz.zeroValue0
 t2:=Tryz.underlying2
 a2:=Tryz.isAgg2
 z2:=Tryz.sizeOf2
 v2:=Tryz.zeroValue2
 t3:=Tryz.underlying3
 a3:=Tryz.isAgg3
 z3:=Tryz.sizeOf3
 v3:=Tryz.zeroValue3
 t4:=Tryz.underlying4
 a4:=Tryz.isAgg4
 z4:=Tryz.sizeOf4
 v4:=Tryz.zeroValue4
 t5:=Tryz.underlying5
 a5:=Tryz.isAgg5
 z5:=Tryz.sizeOf5
 v5:=Tryz.zeroValue5
 t9:=Tryz.underlying9
 a9:=Tryz.isAgg9
 z9:=Tryz.sizeOf9
 v9:=Tryz.zeroValue9
 t20:=Tryz.underlying20
 a20:=Tryz.isAgg20
 z20:=Tryz.sizeOf20
 v20:=Tryz.zeroValue20
 t21:=Tryz.underlying21
 a21:=Tryz.isAgg21
 z21:=Tryz.sizeOf21
 v21:=Tryz.zeroValue21
 t37:=Tryz.underlying161
 a37:=Tryz.isAgg161
 z37:=Tryz.sizeOf161
 v37:=Tryz.zeroValue161
 t46:=Tryz.underlying230
 a46:=Tryz.isAgg230
 z46:=Tryz.sizeOf230
 v46:=Tryz.zeroValue230
 t51:=Tryz.underlying303
 a51:=Tryz.isAgg303
 z51:=Tryz.sizeOf303
 v51:=Tryz.zeroValue303
 t53:=Tryz.underlying305
 a53:=Tryz.isAgg305
 z53:=Tryz.sizeOf305
 v53:=Tryz.zeroValue305
 t75:=Tryz.underlying246
 a75:=Tryz.isAgg246
 z75:=Tryz.sizeOf246
 v75:=Tryz.zeroValue246
 t76:=Tryz.underlying247
 a76:=Tryz.isAgg247
 z76:=Tryz.sizeOf247
 v76:=Tryz.zeroValue247
 t85:=Tryz.underlying330
 a85:=Tryz.isAgg330
 z85:=Tryz.sizeOf330
 v85:=Tryz.zeroValue330
 t127:=Tryz.underlying250
 a127:=Tryz.isAgg250
 z127:=Tryz.sizeOf250
 v127:=Tryz.zeroValue250
 t143:=Tryz.underlying359
 a143:=Tryz.isAgg359
 z143:=Tryz.sizeOf359
 v143:=Tryz.zeroValue359
 t145:=Tryz.underlying361
 a145:=Tryz.isAgg361
 z145:=Tryz.sizeOf361
 v145:=Tryz.zeroValue361
 t167:=Tryz.underlying329
 a167:=Tryz.isAgg329
 z167:=Tryz.sizeOf329
 v167:=Tryz.zeroValue329
 t168:=Tryz.underlying332
 a168:=Tryz.isAgg332
 z168:=Tryz.sizeOf332
 v168:=Tryz.zeroValue332
 t171:=Tryz.underlying352
 a171:=Tryz.isAgg352
 z171:=Tryz.sizeOf352
 v171:=Tryz.zeroValue352
 t173:=Tryz.underlying354
 a173:=Tryz.isAgg354
 z173:=Tryz.sizeOf354
 v173:=Tryz.zeroValue354
 t175:=Tryz.underlying347
 a175:=Tryz.isAgg347
 z175:=Tryz.sizeOf347
 v175:=Tryz.zeroValue347
 t210:=Tryz.underlying350
 a210:=Tryz.isAgg350
 z210:=Tryz.sizeOf350
 v210:=Tryz.zeroValue350
 t212:=Tryz.underlying363
 a212:=Tryz.isAgg363
 z212:=Tryz.sizeOf363
 v212:=Tryz.zeroValue363
 t213:=Tryz.underlying364
 a213:=Tryz.isAgg364
 z213:=Tryz.sizeOf364
 t232:=Tryz.underlying365
 a232:=Tryz.isAgg365
 z232:=Tryz.sizeOf365
 v232:=Tryz.zeroValue365
 t233:=Tryz.underlying366
 a233:=Tryz.isAgg366
 z233:=Tryz.sizeOf366
 v233:=Tryz.zeroValue366
 g15:=ab
 g16:=ab
 g17:=ab
 g18:=ab
 g19:=ab
 t80:=Tryz.underlying78
 a80:=Tryz.isAgg78
 z80:=Tryz.sizeOf78
 v80:=Tryz.zeroValue78
 i0:=ab
 i2:=ab
 i3:=ab
 i4:=ab
 i5:=ab
 i9:=ab
 i20:=ab
 i21:=ab
 i37:=ab
 i46:=ab
 i51:=ab
 i53:=ab
 i75:=ab
 i76:=ab
 i80:=ab
 i85:=ab
 i127:=ab
 i143:=ab
 i145:=ab
 i167:=ab
 i168:=ab
 i171:=ab
 i173:=ab
 i175:=ab
 i210:=ab
 i212:=ab
 i232:=ab
 i233:=ab
 m15:=ab
 m16:=ab
 m17:=ab
 m18:=ab
 m19:=ab
 c0:=ab
 c2:=ab
 c3:=ab
 c4:=ab
 c5:=ab
 c9:=ab
 c20:=ab
 c21:=ab
 c37:=ab
 c46:=ab
 c51:=ab
 c53:=ab
 c75:=ab
 c76:=ab
 c80:=ab
 c85:=ab
 c127:=ab
 c143:=ab
 c145:=ab
 c167:=ab
 c168:=ab
 c171:=ab
 c173:=ab
 c175:=ab
 c210:=ab
 c212:=ab
 c213:=ab
 c232:=ab
 c233:=by kernel_rfl }
end Go.Proofs
end
section
namespace Go.Proofs.YtccenighnmfhgaaGreatDoor
open Go.Bw Go.Proofs.Tryz
open Go.Proofs
theorem JE (n:Nat) (u:Int):(((((n:Int)==0)||decide (8<(n:Int)))||decide (u<97))||decide (122<u)) = !((decide (1<=n)&&decide (n<=8))&&l5 u):=by
 rw [jz];simp [l5];omega
theorem xa {s:List UInt8} {i:Nat} (h:i<s.length):s[i]? = some (s[i]?.getD 0):=by rw [dL h]; rfl
theorem RB {s:List UInt8} {p:UInt8->Bool} {i:Nat} (h:i<s.length) (a:p (s[i]?.getD 0)=false):s.all p=false:=by
 rw [jH];exact ⟨_,ax (xa h),by simp [a]⟩
theorem RC {s:List UInt8} {p:UInt8->Bool} (h:∀i,i<s.length->p (s[i]?.getD 0)=true):s.all p=true:=by
 rw [fG];intro x a;obtain ⟨i,hi⟩:=jA a;have:=h i (cf.1 hi).1;rw [hi] at this;exact this
theorem JF (u:UInt8):∀s:List UInt8,decide (0<=Lib.indexByte s u)=s.contains u
 | []=>rfl
 | b::l=>by
   have c:=JF u l;have f:=Lib.indexByte_ge l u;unfold Lib.indexByte
   by_cases a:b=u
   · subst a; simp
   · have d:(b==u)=false:=by simpa using a
     have e:(u==b)=false:=by simpa using λh=>a h.symm
     rw [if_neg (by simp [d]),List.contains_cons,e,Bool.false_or,<-c]
     split
     · rename_i h; simp at h; simp [h]
     · rename_i h; simp at h
       rw [jz]; simp; omega
theorem toNat_inj {u v:UInt8} (h:(u.toNat:Int)=(v.toNat:Int)):u=v:=Fh.1 ae
theorem hW:prog.underlying 3=some (.int .i64):=ab
theorem u0:prog.underlying 5=some (.int .u8):=ab
theorem DH:gg prog 161 5 (.int .u8 0) 1 1:=iN ab
theorem JG (u:Int) (w:World) :
   Calls prog 115 #[.int .u8 u] w λe w'=>e = .returned (.bool (l5 u||wm u))/\Ext w w':=by
 refine enter func115 O 17 O O ?_;refine CE (Vs:=[]) (Ws.init aj) (ag (ak O (aa (ag (ad O (I (gw O O) (ad O ?_)))))));apply La 2 O O O O Y O O O O O
 ·intro b;refine Vg (Ym O) (Vg (ir O O) ?_);exact Gt 2 O O O
 refine ad O ?_;apply Lo 6 O O O O Y O O O O O
 ·intro c;refine Vg (Ym O) (Vg (gw O O) (Vg (Ym O) ?_));apply La 2 O O O O (.g O O O) O O O O O
  ·intro d;refine Vg (Ym O) (Vg (ir O O) ?_);exact Gt 2 O O O
  exact Gt 4 O O O
 refine ak O (aa (a7 ?_));refine R1 O O λw' a=>?_;exact ⟨O,a.fr⟩
theorem o0 (s:List UInt8) (w:World) :
   Calls prog 133 #[st s] w λe w'=>e = .returned (.bool (ep s))/\Ext w w':=by
 refine enter func133 O 33 O O ?_;refine CE (Vs:=[]) (Ws.init aj) (ag (ak O (aa (Cs (ag (ad O (I (nK ab O) (I (bY O O) (ad O ?_)))))))));apply Lo 3 O O O O Y O O O O O
 ·intro u;refine Vg (Ym O) (Vg (nK ab O) (Vg (dO O O) ?_));exact Gt 3 O O O
 refine ad O ?_;apply Lo 3 O O O O Y O O O O O
 ·intro p
  have c:0<s.length:=by
    rcases Ft s.length with h | h
    · simp [h] at p
    · exact h
  have k:=xa c;refine Vg (Ym O) (Vg (sI ab O O vK) (Vg (ai O O) ?_));exact Gt 3 O O O
 refine ad O ?_;apply Lo 3 O O O O Y O O O O O
 ·intro q
  have c:0<s.length:=by
    rcases Ft s.length with h | h
    · simp [h] at q
    · exact h
  have k:=xa c;refine Vg (Ym O) (Vg (sI ab O O k) (Vg (dO O O) ?_));exact Gt 3 O O O
 refine aa ?_;refine Cc O (λa=>?_) (λa=>?_)
 ·rw [JE] at a
  have r:ep s=false:=by
    unfold ep;simp only [sG] at a;rw [a]; rfl
  refine ag (ak O (aa (a7 (Er ?_))));refine R1 O O λw' b=>?_;exact ⟨by rw [r],b.fr⟩
 rw [JE] at a
 have l:((decide (1<=s.length)&&decide (s.length<=8))&&l5 ((s[0]?.getD 0).toNat))=true:=by simpa using a
 have v:s.length<=8:=by simp at l; omega
 refine bk (Cs (ag (ad O (I (nK ab O) (ad O (aa (Cb ?_)))))));refine bV (ι:=Nat) (λi=>[(24,.int .i64 (i:Int))]) [(0,_),(23,_)] (λi=>i<=s.length/\∀j,j<i->jD (s[j]?.getD 0)=true) (λi=>s.length-i) 0 ⟨cq _,aj⟩ ?_;intro i ⟨hi,m⟩;refine ag (I (ai O O) (aa (Cs ?_)));refine Cc O (λd=>?_) (λd=>?_)
 ·have n:i<s.length:=by simpa using d
  have t:=xa n;refine bk (Cs (Cb (ag (ad O (ak O (aa (ag (ad O (ad O (I (sI ab O O t) (Lp Y O aC O (λw b=>JG _ w) ?_)))))))))));refine I (e5 O) (aa ?_);refine Cc O (λf=>?_) (λf=>?_)
  ·have g:jD (s[i]?.getD 0)=false:=by unfold jD; revert f; cases l5 _<;>cases wm _<;>simp
   refine ag (ak O (aa (a7 (cG (Er (Er (cG (Er ?_))))))));refine R1 O O λw' b=>?_;exact ⟨by unfold ep; rw [RB n g]; simp,b.fr⟩
  have g:jD (s[i]?.getD 0)=true:=by unfold jD; revert f; cases l5 _<;>cases wm _<;>simp
  refine Ck (Eb (Et (Cr (I (Yi O O O ae) (ad O (Ln ?_))))));exact b8 (i+1) ae ⟨ae,λj o=>by rcases mZ.1 o with h | rfl; exact m j h; exact g⟩ an
 have x:¬i<s.length:=by simpa using d
 refine Ce (Ex (Ex (cB (Et (ag (ak O (aa (a7 ?_))))))));refine R1 O O λw' b=>?_;exact ⟨by unfold ep; rw [RC λj o=>m j ae,l]; rfl,b.fr⟩
theorem RD (s:List UInt8) (u:UInt8) (w:World):Calls prog 165 #[st s,.int .u8 (u.toNat:Int)] w λe w'=>e = .returned (.int .i64 (Lib.indexByte s u))/\Ext w w':=
 (Any.strings_IndexByte Go.Proofs.Tryz.Rx ⟨s.toArray⟩ (u.toNat:Int) w).mono λe w' h=>by
   obtain ⟨a,b⟩:=h;subst b
   have c:((u.toNat:Int)).toNat.toUInt8=u:=aj
   rw [c] at a;exact ⟨a,Fr.refl _ _⟩
theorem RE (u:UInt8) (w:World) :
   Calls prog 117 #[.int .u8 (u.toNat:Int)] w λe w'=>e = .returned (.bool (l6 u))/\Ext w w':=by
 refine enter func117 O 6 O O ?_;refine CE (Vs:=[]) (Ws.init aj) (ag (ak O (aa (ag (ad O (Lp Y O aC O (λw a=>RD qy u w) (I (gw O O) (ak O ?_))))))));refine aa (a7 ?_);refine R1 O O λw' a=>?_;exact ⟨by rw [JF]; rfl,a.fr⟩
theorem hg {α:Type} {l:List α} {i:Nat} {x:α} (h:l[i]? = some x):l.take (i+1)=l.take i++[x]:=by rw [aZ,h]; rfl
theorem JH:cx prog 209 0=some 0:=ab
theorem RF:cx prog 209 2=some 2:=ab
theorem p1:fk prog 91=some 3:=ab
theorem u1:gP prog 209=some 3:=ab
def cM (s:List UInt8):Int:=match Lib.atoiAll s with | .ok v=>v | .range=>Lib.atoiSat s | _=>0
def r8 (s:List UInt8):Bool:=match Lib.atoiAll s with | .ok _=>true | _=>false
theorem RG (s:List UInt8) : -9223372036854775808<=cM s/\cM s<=9223372036854775807:=by
 unfold cM
 cases h:Lib.atoiAll s with
 | ok v=>exact Lib.atoiAll_bounds h
 | range=>exact Lib.atoiSat_bounds s
 | _=>simp
theorem RH {s:List UInt8} (h:ep s=false):l7 s=(⟨2,cM s,[]⟩,((r8 s&&decide (0<=cM s))&&decide (cM s<=1099511627775))&&(Lib.itoa (cM s)==s)):=by
 rw [l7,if_neg (by simp [h])];unfold cM r8
 cases Lib.atoiAll s<;>simp
theorem JI {s:List UInt8} {l:List Tok} {t:List UInt8} (h:gi s=(gi t).map (l++·)) (a:gi t=none):¬4096<s.length->e' s=([],1):=λb=>by
 rw [e',if_neg b,h,a]; rfl
theorem RI {s:List UInt8} {l:List Tok} (h:gi s=(gi []).map (l++·)):¬4096<s.length->e' s=(l,0):=λa=>by
 rw [e',if_neg a,h]; simp [wq]
theorem JJ {o:Option (List Tok)} {l:List Tok} {t:Tok}:(o.map (t::·)).map (l++·)=o.map ((l++[t])++·):=by
 cases o<;>simp
theorem DI:gx prog 209=some [(0,1),(1,1),(2,1)]:=ab
theorem tn:zeroOf prog 209=some (.agg #[.int .i64 0,.int .i64 0,st []]):=ab
theorem zJ:gg prog 91 209 (.agg #[.int .i64 0,.int .i64 0,st []]) 3 32:=iN ab
abbrev Laid (a:View):Prop:=BF prog 3 0 1 a
def JK : String := (Rows.buildCompilesRow.laid.map (·.1)).getD 2 ""
theorem DJ:prog.globalNamed JK=some 3:=ab
theorem RJ (b:View) (n:Int) (c : -9223372036854775808<=n) (a:n<=9223372036854775807) (w:World) (d:Le b w) (f:Laid b) :
   Calls prog 164 #[.int .i64 n] w λe w'=>e = .returned (st (Lib.itoa n))/\Ext w w':=
 (Any.strconv_Itoa Go.Proofs.Tryz.NO n c a w (f.BI d DJ)).mono λe w' h=>by
   obtain ⟨a,k,os,rfl⟩:=h;exact ⟨a,NS w k os⟩
theorem RL (i:View) (s:List UInt8) (l:s.length<=4096) (w:World) (j:Le i w) (k:Laid i) :
   Calls prog 163 #[st s] w λe w'=>∃r:Value,e = .returned (.tuple #[.int .i64 (cM s),r])/\Ext w w'/\uk r (r8 s):=by
 have d:(ByteArray.mk s.toArray).size=s.length:=sL s
 cases h:Lib.atoiAll s with
 | ok v=>
   refine (Any.strconv_Atoi_ok Go.Proofs.Tryz.DG ⟨s.toArray⟩ (by rw [d]; omega) v h w).mono λe w' a=>?_;obtain ⟨b,c⟩:=a;refine ⟨.nilIface,by simp only [cM,h]; exact b,?_,by simp [uk,r8,h]⟩
   rcases c with rfl | ⟨t,rfl⟩
   · exact Fr.refl _ _
   · exact Ext.Be (Lib.bytesWorld_below _ _ _)
 | range=>
   obtain ⟨f,hv,g⟩:=k.NQ;refine (Any.strconv_Atoi_range Go.Proofs.Tryz.DG ⟨s.toArray⟩ (by rw [d]; omega) h f w (j.cell hv) g).mono λe w' a=>?_;obtain ⟨N,b,_,_,c⟩:=a;exact ⟨_,by simp only [cM,h]; exact b,Ext.Be c,by simp [uk,r8,h]⟩
 | _=>
   obtain ⟨f,hv,g⟩:=k.NP;refine (Any.strconv_Atoi_syntax Go.Proofs.Tryz.DG ⟨s.toArray⟩ (by rw [d]; omega) h f w (j.cell hv) g).mono λe w' a=>?_;obtain ⟨N,b,_,_,c⟩:=a;exact ⟨_,by simp only [cM,h]; exact b,Ext.Be c,by simp [uk,r8,h]⟩
theorem RM:prog.underlying 246=some (.interface (prog.methodsAt 246)):=ab
theorem xb:dI prog 209=some 3:=ab
theorem Om (b:View) (s:List UInt8) (i:s.length<=4096) (w:World) (j:Le b w) (f:Laid b) :
   Calls prog 116 #[st s] w λe w'=>e = .returned (.tuple #[.agg #[.int .i64 (l7 s).1.kind,.int .i64 (l7 s).1.n,st (l7 s).1.text],.bool (l7 s).2])/\Ext w w':=by
 refine enter func116 O 33 O O ?_;refine CE (Vs:=[b]) (Ws.init (by simp [j])) (ag ?_);refine Al Y O tn λl=>?_;refine ak O (aa (Cs (ag (ad O (Lp Y O aC O (λw a=>o0 _ w) (aa ?_))))));refine Cc O (λc=>?_) (λc=>?_)
 ·have d:l7 s=(⟨1,0,s⟩,true):=by rw [l7,if_pos c]
  refine ag (ad O (I (Yb tn DI O O) (aQ 0 Y O O O xb O O O (ak O (aa (a7 (Er ?_)))))));refine WE.dQ 0 O O O O u1 O λw' a=>?_;rw [d];exact ⟨O,a.fr⟩
 have d:=RH c;have h:=RG s;refine bk (ag (ad O ?_));refine Ld Y O aC O (λr:Value=>.tuple #[.int .i64 (cM s),r]) (λ_ r=>uk r (r8 s)) (λw a=>RL b s i w a.V f) ?_;intro m o p k;refine ad O (I (Yx O O) (I (Yx O O) (ak O (ak O (aa (ag (ad O (I (Yb tn DI O O) ?_))))))));refine ad O (I (NM (r8 s) RM O k) (ad O ?_));apply La 2 O O O O Y O O O O O
 ·intro q;refine Vg (Ym O) (Vg (gw O O) ?_);exact Gt 2 O O O
 refine ad O ?_;apply La 2 O O O O Y O O O O O
 ·intro t;refine Vg (Ym O) (Vg (ir O O) ?_);exact Gt 2 O O O
 refine ad O ?_;apply La 4 O O O O Y O O O O O
 ·intro u;refine Vg (Ym O) (Lp (.g O O O) O aC O (λw a=>RJ b _ h.1 h.2 w a.V f) (Vg (Ym O) (Vg (qq O O) ?_)));exact Gt 4 O O O
 refine aQ 0 Y O O O xb O O O (ak O (aa (a7 ?_)));refine WE.dQ 0 O O O O u1 O λw' a=>?_;rw [d];exact ⟨O,a.fr⟩
theorem RO (k:View) (s:List UInt8) (w:World) (C:Le k w) (D:Laid k) :
   Calls prog 47 #[st s] w λe w'=>∃r:Option Addr×Nat,e = .returned (.tuple #[.slice r.1 (e' s).1.length r.2,.int .i64 (e' s).2])/\Ext w w'/\Sl b7 3 (nv w w') r.1 r.2 (e' s).1:=by
 refine enter func47 O 66 O O ?_;refine CE (Vs:=[k]) (Ws.init (by simp [C])) (ag (ak O (ak O (aa (Cs (ag (ad O (I (nK ab O) (I (dO O O) ?_)))))))));refine aa ?_;refine Cc O (λp=>?_) (λp=>?_)
 ·have l:4096<s.length:=by simp at p; omega
  have c:e' s=([],2):=by rw [e',if_pos l]
  refine ag (ak O (ak O (aa (a7 (Er ?_)))));refine WE.eB (fu O (gG O) (gG O)) λw' a=>?_;rw [c];exact ⟨(none,0),O,a.fr,Sl.nil⟩
 have l:¬4096<s.length:=by simp at p; omega
 refine bk (ag (ak O (LW (λ_ h=>h.eM 209 3) (aa (Cs (Cb ?_))))));refine dc (ι:=List UInt8×List Tok×Option Addr×Nat) (λg=>[(0,st g.1),(4,.slice g.2.2.1 g.2.1.length g.2.2.2)]) [] (λg=>Ws w [] [bS 209 3 Tok.cells g.2.2.1 g.2.2.2 (g.2.1)] [k]) (λg=>g.2.1.length+g.1.length<=s.length/\gi s=(gi g.1).map (g.2.1++·)) (λg=>g.1.length) (s,[],none,0) ⟨aj,aj⟩ an ?_;intro g ⟨R,d⟩;refine Cs (ag (ad O (I (v7 O O) (aa ?_))));refine Cc O (λn=>?_) (λn=>?_)
 ·obtain ⟨u,r,b⟩:∃u r,g.1=u::r:=by
    cases z:g.1 with
    | nil=>rw [z] at n; simp at n
    | cons u r=>exact ⟨u,r,rfl⟩
  have S:g.1.length=r.length+1:=by rw [b]; rfl
  refine bk (Cb (ag (ak O (aa (Cs (Cb ?_))))));refine bV (ι:=Nat) (λi=>[(5,.int .i64 (i:Int))]) [(0,_),(4,_)] (λi=>i<=g.1.length/\∀j,j<i->jD (g.1[j]?.getD 0)=true) (λi=>g.1.length-i) 0 ⟨cq _,aj⟩ ?_;intro i ⟨hi,A⟩;refine Cs (ag (ad O (ad O (I (nK ab O) (I (ai O O) (ad O ?_))))));apply La 4 O O O O Y O O O O O
  ·intro E
   have B:i<g.1.length:=by simpa using E
   have F:=xa B;refine Vg (Ym O) (Vg (Ym O) (Vg (sI ab O O F) (Lp (.g O O O) O aC O (λw a=>JG _ w) ?_)));exact Gt 4 O O O
  refine aa ?_;refine Cc O (λf=>?_) (λf=>?_)
  ·have B:i<g.1.length:=by
     simp only [cO,decide_eq_true_eq] at f;omega
   have G:jD (g.1[i]?.getD 0)=true:=by
     simp only [cO] at f;exact f.2
   refine bk (Cb (Cr (ad O (I (Yi O O O ae) (ak O (Ln (Eb ?_)))))));exact b8 (i+1) ae ⟨ae,λj H=>by rcases mZ.1 H with h | rfl; exact A j h; exact G⟩ an
  have q:fv g.1=i:=by
    refine BK _ _ hi A ?_
    rcases kY i g.1.length with h | h
    · right
      rw [decide_eq_true (by omega:((i:Nat):Int)<(g.1.length:Int)),dw] at f;exact f
    · left; omega
  have J:g.1[0]? = some u:=by rw [b]; rfl
  refine Ce (Ex (Ex (cB (Et (Cs (ag (ad O (I (sI ab O O (i:=0) J) (ak O (aa (Cb (ag (ad O (I (dO O O) ?_))))))))))))));refine ak O (aa ?_);refine Cc O (λt=>?_) (λt=>?_)
  ·have T:0<i:=by simp at t; omega
   refine ag (ad O (ad O (I (Bu underlying9 O O ae ae) ?_)));rw [mu];refine Lp Y O aC O (λw a=>Om k _ (by simp; omega) w a.V D) (ad O (I (Yx O O) (I (Yx O O) ?_)));refine Al Y O tn λU=>?_;refine aQ 0 Y O O O xb O O O (ak O (aa (Cs (ag (ad O (I (e5 O) (aa ?_)))))));refine Cc O (λv=>?_) (λv=>?_)
   ·have c:e' s=([],1):=JI d (by rw [sR ae,q,zg,if_neg (by simpa using v)]) l;refine ag (ak O (ak O (aa (a7 (Er (cG (Er (cG (Er (cG (Er ?_)))))))))));refine WE.eB (fu O (gG O) (gG O)) λw' a=>?_;rw [c];exact ⟨(none,0),O,a.fr,Sl.nil⟩
   have K:db (g.1.take i)=some ((l7 (g.1.take i)).1):=by rw [zg,if_pos (by simpa using v)]
   refine bk (ag (ad O (I (cc 0 O O u1 O) ?_)));refine Lb Y O zJ O O O O λW=>?_;refine cF 0 (.cells (Tok.cells ((l7 (g.1.take i)).1)).toArray 209 (0,0)) O O ?_;refine LA ((l7 (g.1.take i)).1) 2 0 Y O zJ O O O O O O ae ae λL M=>?_;refine ak O (aa (ag (ad O (ad O (I (yB underlying9 O O ae ae) ?_)))));rw [mu];refine ak O (aa (Ce (vY O (Ex (cB ?_)))))
   exact b8 ((g.1.drop i,g.2.1++[(l7 (g.1.take i)).1],L,M):List UInt8×List Tok×Option Addr×Nat) (by dsimp only; simp; omega) ⟨by dsimp only; simp; omega,by
       dsimp only;rw [d,sR ae,q,K];simp only
       rw [JJ]⟩ (λ_ h=>Wd 2 h)
  have x:fv (u::r)=0:=by rw [<-b,q]; simp at t; omega
  refine ag (ad O (Lp Y O aC O (λw a=>RE _ w) (ak O (aa ?_))));refine Cc O (λo=>?_) (λo=>?_)
  ·refine Cr (ad O (ad O (I (Bu underlying9 O O ae ae) ?_)));rw [show g.1.take (1:Int).toNat=[u] by rw [b]; rfl];refine I (Yb tn DI O O) ?_;refine Lb Y O zJ O O O O λX=>?_;refine cF 0 (.cells (Tok.cells (Tok.mk 3 0 [u])).toArray 209 (0,0)) O O ?_;refine LA (Tok.mk 3 0 [u]) 1 0 Y O zJ O O O O O O ae ae λN P=>?_;refine ak O (Ln (Eb (Et (Cr (ad O (I (yB underlying9 O O ae ae) ?_))))));rw [show g.1.drop (1:Int).toNat=r by rw [b]; rfl];refine ak O (Ln (Eb ?_))
   exact b8 ((r,g.2.1++[Tok.mk 3 0 [u]],N,P):List UInt8×List Tok×Option Addr×Nat) (by dsimp only; omega) ⟨by dsimp only; simp; omega,by
       dsimp only
       rw [d,b,wu x (by simpa using o),JJ]⟩ (λ_ h=>Wd 1 h)
  refine ag (ad O (I (fz O O) (ad O ?_)));apply La 2 O O O O Y O O O O O
  ·intro z;refine Vg (Ym O) (Vg (fz O O) ?_);exact Gt 2 O O O
  refine ak O (aa ?_);refine Cc O (λm=>?_) (λm=>?_)
  ·have y:¬(u=32\/u=10):=by
     rintro (h | h)<;>rw [h] at m<;>simp at m
   have c:e' s=([],1):=JI d (by rw [b,yL x (by simpa using o) y]) l;refine ag (ak O (ak O (aa (a7 (cG (Er (cG (Er (cG (Er ?_))))))))));refine WE.eB (fu O (gG O) (gG O)) λw' a=>?_;rw [c];exact ⟨(none,0),O,a.fr,Sl.nil⟩
  have y:u=32\/u=10:=by
    simp only [bne,Bool.and_eq_false_iff,yb,beq_iff_eq] at m
    rcases m with h | h
    · left; exact toNat_inj (by simpa using h)
    · right; exact toNat_inj (by simpa using h)
  refine Ck (Eb (Et (Cr (ad O (I (yB underlying9 O O ae ae) ?_)))));rw [show g.1.drop (1:Int).toNat=r by rw [b]; rfl];refine ak O (Ln (Eb ?_))
  exact b8 ((r,g.2.1,g.2.2.1,g.2.2.2):List UInt8×List Tok×Option Addr×Nat) (by dsimp only; omega) ⟨by dsimp only; omega,by
      dsimp only
      rw [d,b,wv x (by simpa using o) y]⟩ an
 have Q:g.1=[]:=by simpa using n
 have c:e' s=(g.2.1,0):=by
   rw [Q] at d;exact RI d l
 refine Ce (Ex (Ex (cB (Et (ag (ad O (ak O (ak O (aa (a7 ?_))))))))));refine WE.eB (fu O (gG O) (gG O)) λw' a=>?_;rw [c];exact ⟨(g.2.2.1,g.2.2.2),O,a.fr,a.iP 0 O Tok.ck cp⟩
abbrev kI:Int->Value:=λn:Int=>Value.int .i64 n
def vS (r:Bool) (a:Int):Value:=.agg #[.bool r,.int .i64 a]
def hX (n:Nat):List (dP Int):=[(1,vS false 0,0),(2,vS false 0,1),(3,vS true 0,2),(4,vS true 1,3),(5,vS true (-1),4),(6,vS false 1,5)]++(List.range n).map λj=>(((7+j:Nat):Int),vS false 2,6+j)
def js:List (dP Int):=[(1,vS true 1,0),(2,vS true 2,1),(3,vS true (-1),2),(4,vS false 1,3),(5,vS false 1,4),(6,vS false 1,5),(7,vS false 1,6)]
theorem RP (n:Nat) (h:n<9):ar kI (eJ ((7+n:Nat):Int) (vS false 2) (hX n) (6+n)) (hz ((7+n:Nat):Int) (hX n) (6+n))=ar kI (hX (n+1)) (6+(n+1)):=by
 match n,h with
 | 0,_=>rfl
 | 1,_=>rfl
 | 2,_=>rfl
 | 3,_=>rfl
 | 4,_=>rfl
 | 5,_=>rfl
 | 6,_=>rfl
 | 7,_=>rfl
 | 8,_=>rfl
theorem JL (op:Int):aI op (hX 9) (vS false 0)=vS ((ez op).getD (false,0)).1 ((ez op).getD (false,0)).2/\cy op (hX 9) = !(ez op).isNone:=by
 by_cases e:op=1
 · subst e; exact ⟨rfl,rfl⟩
 by_cases f:op=2
 · subst f; exact ⟨rfl,rfl⟩
 by_cases a:op=3
 · subst a; exact ⟨rfl,rfl⟩
 by_cases b:op=4
 · subst b; exact ⟨rfl,rfl⟩
 by_cases c:op=5
 · subst c; exact ⟨rfl,rfl⟩
 by_cases d:op=6
 · subst d; exact ⟨rfl,rfl⟩
 by_cases g:op=7
 · subst g; exact ⟨rfl,rfl⟩
 by_cases h:op=8
 · subst h; exact ⟨rfl,rfl⟩
 by_cases i:op=9
 · subst i; exact ⟨rfl,rfl⟩
 by_cases j:op=10
 · subst j; exact ⟨rfl,rfl⟩
 by_cases k:op=11
 · subst k; exact ⟨rfl,rfl⟩
 by_cases l:op=12
 · subst l; exact ⟨rfl,rfl⟩
 by_cases m:op=13
 · subst m; exact ⟨rfl,rfl⟩
 by_cases n:op=14
 · subst n; exact ⟨rfl,rfl⟩
 by_cases o:op=15
 · subst o; exact ⟨rfl,rfl⟩
 have p:ez op=none:=by
   unfold ez;rw [if_neg ae,if_neg a,if_neg b,if_neg c,if_neg d,if_neg ae]
 have q:cK op (hX 9) 0=none:=by
   show cK op [(1,vS false 0,0),(2,vS false 0,1),(3,vS true 0,2),(4,vS true 1,3),(5,vS true (-1),4),(6,vS false 1,5),(7,vS false 2,6),(8,vS false 2,7),(9,vS false 2,8),(10,vS false 2,9),(11,vS false 2,10),(12,vS false 2,11),(13,vS false 2,12),(14,vS false 2,13),(15,vS false 2,14)] 0=none
   simp [cK,e,f,a,b,c,d,g,h,i,j,k,l,m,n,o]
 rw [aI,cy,q,p];exact ⟨O,O⟩
theorem JM (op:Int):aI op js (vS false 0)=vS ((cI op).getD (false,0)).1 ((cI op).getD (false,0)).2/\cy op js = !(cI op).isNone:=by
 by_cases a:op=1
 · subst a; exact ⟨rfl,rfl⟩
 by_cases b:op=2
 · subst b; exact ⟨rfl,rfl⟩
 by_cases c:op=3
 · subst c; exact ⟨rfl,rfl⟩
 by_cases d:op=4
 · subst d; exact ⟨rfl,rfl⟩
 by_cases e:op=5
 · subst e; exact ⟨rfl,rfl⟩
 by_cases f:op=6
 · subst f; exact ⟨rfl,rfl⟩
 by_cases g:op=7
 · subst g; exact ⟨rfl,rfl⟩
 have h:cI op=none:=by
   unfold cI;rw [if_neg a,if_neg b,if_neg c,if_neg ae]
 have i:cK op js 0=none:=by simp [js,cK,a,b,c,d,e,f,g]
 rw [aI,cy,i,h];exact ⟨O,O⟩
theorem JN:∀a b:List Tx,bw (a++b)=bw a+bw b
 | [],b=>by apply bs.ext'<;>simp [bs.sS,bs.sT,bs.sU,bw,c0]
 | x::a,b=>by
   rw [fL,show ∀q,bw (x::q)=dK (!eP x)+bw q from λ_=>rfl,JN a b,show ∀q,bw (x::q)=dK (!eP x)+bw q from λ_=>rfl,bs.hA]
theorem RQ (s:Tx):bw [s]=dK (!eP s):=rfl
theorem RR {l:List Tx} {i:Nat} {s:Tx} (h:l[i]? = some s):bw (l.take (i+1))=bw (l.take i)+dK (!eP s):=by rw [hg h,JN,RQ]
theorem u2 (c:bs):c+c0=c:=rfl
theorem RS (c:bs):c.f<=c.bL:=by unfold bs.bL; omega
theorem RT (c:bs):c.m<=c.bL:=by unfold bs.bL; omega
theorem RU (c:bs):c.k<=c.bL:=by unfold bs.bL; omega
theorem dT:gg prog 22 9 (st []) 1 16:=iN ab
theorem dy:fk prog 22=some 1:=ab
theorem mQ:gx prog 274=some [(0,1),(1,1)]:=ab
theorem kT:zeroOf prog 274=some (.agg #[.bool false,.int .i64 0]):=ab
theorem lL:prog.underlying 220=some (.map 3 274):=ab
theorem mixed:prog.follows .mixedOrders=true:=ab
theorem tp:cx prog 224 0=some 0:=ab
theorem tq:sO prog 222=some (10,1):=ab
theorem dZ:dI prog 3=some 1:=ab
theorem RV (w:World) :
   Calls prog 213 #[] w λe w'=>∃r:Option Addr×Nat,e = .returned (.slice r.1 oB.length r.2)/\Ext w w'/\Sl rdStr 1 (nv w w') r.1 r.2 oB:=by
 refine enter func213 O 2 O O ?_;refine CE (Vs:=[]) (Ws.init aj) (ag (ak O (aa (ag ?_))));refine Lb Y O dT O O O O λa=>?_;refine ak O (aa (a7 ?_));refine WE.eB (hy O (gG O)) λw' b=>?_
 exact ⟨(some ⟨a,0,none⟩,15),O,b.fr,⟨show oB.length<=15 by decide,show 15<=9223372036854775807 by decide,aj,λj x d=>⟨a,0,O,λk v c=>b.Bk 0 O (by
     have:k<1:=(cf.1 c).1
     show (oB.flatMap c')[0+j*1+k]? = some v
     rw [cj,qv hO d this]; exact c)⟩⟩⟩
theorem RW (b:View) (a:Option Addr) (c:Nat) (l:List Tx) (s:Tx) (w:World) (r:Le b w) (f:Sl rdStr 1 b a c l) :
   Calls prog 251 #[.slice a l.length c,st s] w λe w'=>(∃n:Int,e = .returned (.int .i64 n)/\decide (0<=n)=l.contains s)/\Ext w w':=by
 have B:=f.cap;have C:=f.max;refine enter func251 O 19 O O ?_;refine CE (Vs:=[b]) (Ws.init (by simp [r])) (ag (ak O (aa (Cs (ag (ad O (I (Yn dy O) (ad O (aa (Cb ?_))))))))));refine bV (ι:=Nat) (λi=>[(8,.int .i64 (i:Int))]) [(0,_),(1,_),(7,_)] (λi=>i<=l.length/\∀j,j<i->l[j]?≠some s) (λi=>l.length-i) 0 ⟨cq _,aj⟩ ?_;intro i ⟨hi,q⟩;refine ag (I (ai O O) (aa (Cs ?_)));refine Cc O (λg=>?_) (λg=>?_)
 ·have t:i<l.length:=by simpa using g
  obtain ⟨x,k⟩:=cg t;obtain ⟨u,v,D,m⟩:=f.bT i x k;have m:bR b u (v+i*1) (c' x):=m;refine bk (Cs (Cb (ag (ad O (ak O (aa (ag (ad O (ad O (ad O (I (Yo dy O O vK ae) ?_)))))))))));refine I (cu 0 ab O O (m 0 _ O)) (I (qq O O) (aa ?_));refine Cc O (λo=>?_) (λo=>?_)
  ·have y:s=x:=by simpa using o
   refine ag (ad O (ak O (aa (a7 (cG (Er (Er (cG (Er ?_)))))))));refine R1 O O λw' p=>?_;refine ⟨⟨_,O,?_⟩,p.fr⟩;rw [decide_eq_true ae,x9.2 (by rw [y]; exact ax k)]
  have z:¬s=x:=by simpa using o
  refine Ck (Eb (Et (Cr (I (Yi O O O ae) (ad O (Ln ?_))))));exact b8 (i+1) ae ⟨ae,λj d=>by rcases mZ.1 d with h | rfl; exact q j h; rw [k]; intro e; injection e with e; exact z e.symm⟩ an
 have E:¬i<l.length:=by simpa using g
 have A:l.contains s=false:=by
   rw [qn];intro h;rw [x9] at h;obtain ⟨j,d⟩:=jA h;exact q j (by have:=(cf.1 d).1; omega) d
 refine Ce (Ex (Ex (cB (Et (ag (ak O (aa (a7 ?_))))))));refine R1 O O λw' p=>?_;refine ⟨⟨_,O,?_⟩,p.fr⟩;rw [A]; rfl
theorem RX (b:View) (a:Option Addr) (c:Nat) (l:List Tx) (s:Tx) (w:World) (f:Le b w) (g:Sl rdStr 1 b a c l) :
   Calls prog 212 #[.slice a l.length c,st s] w λe w'=>e = .returned (.bool (l.contains s))/\Ext w w':=by
 refine enter func212 O 9 O O ?_;refine CE (Vs:=[b]) (Ws.init (by simp [f])) (ag (ak O (aa (ag (ad O (ad O ?_))))))
 refine Ld Y O aC O (λn:Int=>.int .i64 n) (λ_ n=>decide (0<=n)=l.contains s) (λw d=>(RW b a c l s w d.V g).mono λe w' h=>by
     obtain ⟨⟨n,i,j⟩,k⟩:=h
     exact ⟨n,i,k,j⟩) ?_
 intro o p q m;refine I (gw O O) (ak O (aa (a7 ?_)));refine R1 O O λw' d=>?_;exact ⟨by rw [m],d.fr⟩
theorem zK (s:Tx) (w:World) :
   Calls prog 167 #[st s] w λe w'=>e = .returned (.bool (eP s))/\Ext w w':=by
 refine enter func167 O 11 O O ?_;refine CE (Vs:=[]) (Ws.init aj) (ag (ak O (aa (ag (ad O (Lp Y O aC O (λw a=>o0 _ w) (ad O ?_)))))));apply La 4 O O O O Y O O O O O
 ·intro j;refine Ld (.g O O O) O aC O (λr:Option Addr×Nat=>.slice r.1 oB.length r.2) (λc r=>Sl rdStr 1 c r.1 r.2 oB) (λw a=>RV w) ?_;intro d b k f;refine Vg (Ym O) (Lp (.g O O O) O aC O (λw a=>RX d b.1 b.2 oB s w a.V f) (Vg (e5 O) ?_));refine WL.wk ?_ (Gt 4 O O O);exact λ_ h=>Ws.av (h) (λ_ i=>qp [_] i)
 refine ak O (aa (a7 ?_));refine R1 O O λw' a=>?_;exact ⟨O,a.fr⟩
theorem RY (w:World) :
   Calls prog 124 #[] w λe w'=>∃b:Nat,e = .returned (.map (some b))/\Ws w [] [ao b (ar kI (hX 9) 15)] [] w':=by
 refine enter func124 O 19 O O ?_;refine CE (Vs:=[]) (Ws.init aj) (ag (ak O (aa (ag ?_))));refine WL.nc (λn:Int=>Value.int .i64 n) Y O λa=>?_;refine I (Yb kT mQ O O) ?_;refine WL.l4 0 jX Y lL hW O O O O ?_;refine I (Yb kT mQ O O) ?_;refine WL.l4 0 jX Y lL hW O O O O ?_;refine I (Yb kT mQ O O) ?_;refine WL.l4 0 jX Y lL hW O O O O ?_;refine I (Yb kT mQ O O) ?_;refine WL.l4 0 jX Y lL hW O O O O ?_;refine I (Yb kT mQ O O) ?_;refine WL.l4 0 jX Y lL hW O O O O ?_;refine I (Yb kT mQ O O) ?_;refine WL.l4 0 jX Y lL hW O O O O ?_;refine ad O (cF 0 (ar kI (hX 0) (6+0)) O O (ak O (aa (Cs (ag (ak O (aa (Cb ?_))))))));refine dc (ι:=Nat) (λi=>[(2,.int .i64 ((7+i:Nat):Int))]) [(0,_),(1,_)] (λi=>Ws w [] [ao a (ar kI (hX i) (6+i))] []) (λi=>i<=9) (λi=>9-i) 0 (cq _) an ?_;intro i hi;refine Cs (ag (ad O (I (ir O O) (aa ?_))));refine Cc O (λc=>?_) (λc=>?_)
 ·have d:i<9:=by simp at c; omega
  refine bk (Cs (Cb (Cr (ad O (ad O (I (Yb kT mQ O O) ?_))))));refine WL.oz 0 jX Y lL hW O O O O ?_;refine Ln (Eb (Et (Cr (ad O (I (yu (((7+i:Nat):Int)+1) O O O ae) (ak O (Ln ?_)))))));rw [show (((7+i:Nat):Int)+1)=((7+(i+1):Nat):Int) by omega]
  exact b8 (i+1) ae ae (λ_ h=>by
    have h:=Ws.jJ h 0 rfl (congrArg (ao a) (RP i d))
    exact h)
 have f:i=9:=by simp at c; omega
 subst f;refine Ce (Ex (Ex (cB (Et (ag (ad O (ak O (aa (a7 ?_)))))))));refine WE.eB (hy O (gG O)) λw' g=>?_;exact ⟨a,O,g⟩
theorem RZ (w:World) :
   Calls prog 125 #[] w λe w'=>∃b:Nat,e = .returned (.map (some b))/\Ws w [] [ao b (ar kI js 7)] [] w':=by
 refine enter func125 O 10 O O ?_;refine CE (Vs:=[]) (Ws.init aj) (ag (ak O (aa (ag ?_))));refine WL.nc (λn:Int=>Value.int .i64 n) Y O λa=>?_;refine I (Yb kT mQ O O) ?_;refine WL.l4 0 jX Y lL hW O O O O ?_;refine I (Yb kT mQ O O) ?_;refine WL.l4 0 jX Y lL hW O O O O ?_;refine I (Yb kT mQ O O) ?_;refine WL.l4 0 jX Y lL hW O O O O ?_;refine I (Yb kT mQ O O) ?_;refine WL.l4 0 jX Y lL hW O O O O ?_;refine I (Yb kT mQ O O) ?_;refine WL.l4 0 jX Y lL hW O O O O ?_;refine I (Yb kT mQ O O) ?_;refine WL.l4 0 jX Y lL hW O O O O ?_;refine I (Yb kT mQ O O) ?_;refine WL.l4 0 jX Y lL hW O O O O ?_;refine ad O (ak O (aa (a7 ?_)));refine WE.eB (hy O (gG O)) λw' c=>?_;exact ⟨a,O,c⟩
theorem r9 (a l n:Nat) (c:bs) (b:Bool) (w:World) (o:c.bL<=4611686018427387904) (g:Ws w [a] [ao a (.cells #[.int .i64 0,.int .i64 ((c).f:Int),.int .i64 ((c).m:Int),.int .i64 0,.int .i64 ((c).k:Int),.int .i64 0,.int .i64 0,.int .i64 0,.int .i64 0,.int .i64 0,.map (some l),.map (some n)] 224 (0,0))] [] w) :
   Calls prog 127 #[.pointer (some ⟨a,0,none⟩),.bool b,.int .i64 1] w λe w'=>e = .returned (.tuple #[])/\Ws w [a] [ao a (.cells #[.int .i64 0,.int .i64 ((c+dK b).f:Int),.int .i64 ((c+dK b).m:Int),.int .i64 0,.int .i64 ((c+dK b).k:Int),.int .i64 0,.int .i64 0,.int .i64 0,.int .i64 0,.int .i64 0,.map (some l),.map (some n)] 224 (0,0))] [] w':=by
 have p:=RS c;refine enter func127 O 17 O O ?_;refine CE g (ag (ad O (aa ?_)));refine Cc O (λj=>?_) (λj=>?_)
 ·subst j;refine WC.lu 0 [(0,true),(1,true),(2,true),(3,true),(4,true),(7,true),(8,true),(5,false),(6,true),(9,true),(10,false)] mixed ab (λ_ _ _ d _ h=>by cases d<;>exact h) ?_;refine D0 O (Wp 0) (Ym O) (D0 O (Wp 0) (Ym O) (D0 O (Wp 0) (cJ O) (D0 O (Wp 0) (Yf tp O) (D0 O (Wp 0) (sP (i:=1) tq O O aF) (D0 O (Wp 0) (cJ O) (D0 O (Wp 0) (Yf tp O) ?_))))));refine De O (Wp 0) ?_;refine I (Yd 0 O O O ab) (Ln (Ed (D0 O (Wp 0) (Yi O O O ae) (D0 O (Wp 0) (sP (i:=1) tq O O aF) ?_))));refine De O (Wp 0) ?_;refine aQ 0 Y O O O dZ O O O (Ln (Ed ?_));refine WD.nil (Wp 0) ?_;refine E0 O λw' g=>?_;exact ⟨O,g⟩
 subst j;refine Ck ?_;refine E0 O λw' g=>?_;exact ⟨O,g⟩
theorem u3 (a l n:Nat) (c:bs) (b:Bool) (w:World) (o:c.bL<=4611686018427387904) (g:Ws w [a] [ao a (.cells #[.int .i64 0,.int .i64 ((c).f:Int),.int .i64 ((c).m:Int),.int .i64 0,.int .i64 ((c).k:Int),.int .i64 0,.int .i64 0,.int .i64 0,.int .i64 0,.int .i64 0,.map (some l),.map (some n)] 224 (0,0))] [] w) :
   Calls prog 127 #[.pointer (some ⟨a,0,none⟩),.bool b,.int .i64 2] w λe w'=>e = .returned (.tuple #[])/\Ws w [a] [ao a (.cells #[.int .i64 0,.int .i64 ((c+cz b).f:Int),.int .i64 ((c+cz b).m:Int),.int .i64 0,.int .i64 ((c+cz b).k:Int),.int .i64 0,.int .i64 0,.int .i64 0,.int .i64 0,.int .i64 0,.map (some l),.map (some n)] 224 (0,0))] [] w':=by
 have p:=RT c;refine enter func127 O 17 O O ?_;refine CE g (ag (ad O (aa ?_)));refine Cc O (λj=>?_) (λj=>?_)
 ·subst j;refine WC.lu 0 [(0,true),(1,true),(2,true),(3,true),(4,true),(7,true),(8,true),(5,false),(6,true),(9,true),(10,false)] mixed ab (λ_ _ _ d _ h=>by cases d<;>exact h) ?_;refine D0 O (Wp 0) (Ym O) (D0 O (Wp 0) (Ym O) (D0 O (Wp 0) (cJ O) (D0 O (Wp 0) (Yf tp O) (D0 O (Wp 0) (sP (i:=2) tq O O aF) (D0 O (Wp 0) (cJ O) (D0 O (Wp 0) (Yf tp O) ?_))))));refine De O (Wp 0) ?_;refine I (Yd 0 O O O ab) (Ln (Ed (D0 O (Wp 0) (Yi O O O ae) (D0 O (Wp 0) (sP (i:=2) tq O O aF) ?_))));refine De O (Wp 0) ?_;refine aQ 0 Y O O O dZ O O O (Ln (Ed ?_));refine WD.nil (Wp 0) ?_;refine E0 O λw' g=>?_;exact ⟨O,g⟩
 subst j;refine Ck ?_;refine E0 O λw' g=>?_;exact ⟨O,g⟩
theorem DK (a l n:Nat) (c:bs) (b:Bool) (w:World) (o:c.bL<=4611686018427387904) (g:Ws w [a] [ao a (.cells #[.int .i64 0,.int .i64 ((c).f:Int),.int .i64 ((c).m:Int),.int .i64 0,.int .i64 ((c).k:Int),.int .i64 0,.int .i64 0,.int .i64 0,.int .i64 0,.int .i64 0,.map (some l),.map (some n)] 224 (0,0))] [] w) :
   Calls prog 127 #[.pointer (some ⟨a,0,none⟩),.bool b,.int .i64 4] w λe w'=>e = .returned (.tuple #[])/\Ws w [a] [ao a (.cells #[.int .i64 0,.int .i64 ((c+dY b).f:Int),.int .i64 ((c+dY b).m:Int),.int .i64 0,.int .i64 ((c+dY b).k:Int),.int .i64 0,.int .i64 0,.int .i64 0,.int .i64 0,.int .i64 0,.map (some l),.map (some n)] 224 (0,0))] [] w':=by
 have p:=RU c;refine enter func127 O 17 O O ?_;refine CE g (ag (ad O (aa ?_)));refine Cc O (λj=>?_) (λj=>?_)
 ·subst j;refine WC.lu 0 [(0,true),(1,true),(2,true),(3,true),(4,true),(7,true),(8,true),(5,false),(6,true),(9,true),(10,false)] mixed ab (λ_ _ _ d _ h=>by cases d<;>exact h) ?_;refine D0 O (Wp 0) (Ym O) (D0 O (Wp 0) (Ym O) (D0 O (Wp 0) (cJ O) (D0 O (Wp 0) (Yf tp O) (D0 O (Wp 0) (sP (i:=4) tq O O aF) (D0 O (Wp 0) (cJ O) (D0 O (Wp 0) (Yf tp O) ?_))))));refine De O (Wp 0) ?_;refine I (Yd 0 O O O ab) (Ln (Ed (D0 O (Wp 0) (Yi O O O ae) (D0 O (Wp 0) (sP (i:=4) tq O O aF) ?_))));refine De O (Wp 0) ?_;refine aQ 0 Y O O O dZ O O O (Ln (Ed ?_));refine WD.nil (Wp 0) ?_;refine E0 O λw' g=>?_;exact ⟨O,g⟩
 subst j;refine Ck ?_;refine E0 O λw' g=>?_;exact ⟨O,g⟩
theorem DL:∀l:List Tx,(bw l).bL<=l.length
 | []=>dp _
 | s::r=>by
   have:=DL r; have:=ly (!eP s);rw [show bw (s::r)=dK (!eP s)+bw r from rfl,bs.ek,du];omega
theorem DM (n:Nat):decide ((3:Int)<(n:Int))=decide (3<n):=by rw [jz]; simp; omega
theorem JO (x:a8) (d:Nat):gR x d=if 6<d then ⟨0,1,0⟩ else dY (ez x.op).isNone+ee ((ez x.op).getD (false,0)) x.mod x.nm x.args.length+dK (hB x.op x.n)+ay x.args (d+1):=by
 cases x; rw [gR]; rfl
theorem JP (d:Nat):∀a b:List a8,ay (a++b) d=ay a d+ay b d
 | [],b=>by apply bs.ext'<;>simp [bs.sS,bs.sT,bs.sU,ay,c0]
 | x::a,b=>by
   rw [fL,show ∀q,ay (x::q) d=gR x d+ay q d from λq=>by rw [ay],JP d a b,show ∀q,ay (x::q) d=gR x d+ay q d from λq=>by rw [ay],bs.hA]
theorem JQ {l:List a8} {i:Nat} {x:a8} (d:Nat) (h:l[i]? = some x):ay (l.take (i+1)) d=ay (l.take i) d+gR x d:=by
 rw [hg h,JP,show ay [x] d=gR x d+c0 by rw [ay,ay],u2]
theorem JR:∀(l:List a8) (i:Nat),e1 (l.take i)<=e1 l
 | [],i=>by simp
 | x::r,0=>by simp [e1]
 | x::r,i+1=>by have:=JR r i; simp only [rn,e1]; omega
theorem JS {l:List a8} {i:Nat} {x:a8} (h:l[i]? = some x):e1 (l.take i)+wE x<=e1 l:=by
 have c:=JR l (i+1);rw [hg h] at c
 have:∀a b:List a8,e1 (a++b)=e1 a+e1 b:=by
   intro a b
   induction a with
   | nil=>simp [e1]
   | cons y a d=>simp only [fL,e1,d]; omega
 rw [this] at c;simp only [e1] at c;omega
theorem zL (x:bq) (d:Nat):aL x d=dY (cI x.op).isNone+ee ((cI x.op).getD (false,0)) x.mod x.nm x.args.length+ay x.args 1+dK (bo x.op x.body.length x.other.length)
     + (if (inner x.op||decide (0<x.body.length))=true then d_ x.body (d+1) else c0)+(if 0<x.other.length then d_ x.other (d+1) else c0):=by
 cases x; rw [aL]; rfl
theorem JT (d:Nat):∀a b:List bq,cS (a++b) d=cS a d+cS b d
 | [],b=>by apply bs.ext'<;>simp [bs.sS,bs.sT,bs.sU,cS,c0]
 | x::a,b=>by
   rw [fL,show ∀q,cS (x::q) d=aL x d+cS q d from λq=>by rw [cS],JT d a b,show ∀q,cS (x::q) d=aL x d+cS q d from λq=>by rw [cS],bs.hA]
theorem zM {l:List bq} {i:Nat} {x:bq} (d:Nat) (h:l[i]? = some x):cS (l.take (i+1)) d=cS (l.take i) d+aL x d:=by
 rw [hg h,JT,show cS [x] d=aL x d+c0 by rw [cS,cS],u2]
theorem JU:∀(l:List bq) (i:Nat),ef (l.take i)<=ef l
 | [],i=>by simp
 | x::r,0=>by simp [ef]
 | x::r,i+1=>by have:=JU r i; simp only [rn,ef]; omega
theorem R0 {l:List bq} {i:Nat} {x:bq} (h:l[i]? = some x):ef (l.take i)+wS x<=ef l:=by
 have c:=JU l (i+1);rw [hg h] at c
 have:∀a b:List bq,ef (a++b)=ef a+ef b:=by
   intro a b
   induction a with
   | nil=>simp [ef]
   | cons y a d=>simp only [fL,ef,d]; omega
 rw [this] at c;simp only [ef] at c;omega
theorem xc:cx prog 214 1=some 1:=ab
theorem u4:cx prog 214 0=some 0:=ab
theorem qX:cx prog 214 3=some 3:=ab
theorem JV:cx prog 274 0=some 0:=ab
theorem JW:cx prog 274 1=some 1:=ab
theorem u5 (b h j:Nat) (g:View) (a:Option Addr) (n:Nat) (l:List Tx) (c:bs) (w:World) (o:Sl rdStr 1 g a n l) (A:c.bL+l.length<=4611686018427387904) (d:Ws w [b] [ao b (.cells #[.int .i64 0,.int .i64 ((c).f:Int),.int .i64 ((c).m:Int),.int .i64 0,.int .i64 ((c).k:Int),.int .i64 0,.int .i64 0,.int .i64 0,.int .i64 0,.int .i64 0,.map (some h),.map (some j)] 224 (0,0))] [g] w) :
   Calls prog 126 #[.pointer (some ⟨b,0,none⟩),.slice a l.length n] w λe w'=>e = .returned (.tuple #[])/\Ws w [b] [ao b (.cells #[.int .i64 0,.int .i64 ((c+bw l).f:Int),.int .i64 ((c+bw l).m:Int),.int .i64 0,.int .i64 ((c+bw l).k:Int),.int .i64 0,.int .i64 0,.int .i64 0,.int .i64 0,.int .i64 0,.map (some h),.map (some j)] 224 (0,0))] [g] w':=by
 have B:=o.cap;have C:=o.max;refine enter func126 O 18 O O ?_;refine CE d (ag (ad O (I (Yn dy O) (ad O (aa (Cb ?_))))));refine dc (ι:=Nat) (λi=>[(8,.int .i64 (i:Int))]) [(0,_),(6,_),(7,_)] (λi=>Ws w [b] [ao b (.cells #[.int .i64 0,.int .i64 ((c+bw (l.take i)).f:Int),.int .i64 ((c+bw (l.take i)).m:Int),.int .i64 0,.int .i64 ((c+bw (l.take i)).k:Int),.int .i64 0,.int .i64 0,.int .i64 0,.int .i64 0,.int .i64 0,.map (some h),.map (some j)] 224 (0,0))] [g]) (λi=>i<=l.length) (λi=>l.length-i) 0 (cq _) an ?_;intro i hi;refine ag (I (ai O O) (aa (Cs ?_)));refine Cc O (λp=>?_) (λp=>?_)
 ·have s:i<l.length:=by simpa using p
  obtain ⟨x,r⟩:=cg s;obtain ⟨t,u,D,q⟩:=o.bT i x r;have q:bR g t (u+i*1) (c' x):=q
  have v:c+bw (l.take i)+dK (!eP x)=c+bw (l.take (i+1)):=by rw [RR r,bs.hA]
  have y:(c+bw (l.take i)).bL<=4611686018427387904:=by
    rw [bs.ek];have:=DL (l.take i);simp at this;omega
  refine bk (Cs (Cb (ag (I (Yo dy O O vK ae) (I (cu 0 ab O O (q 0 _ O)) (ak O (aa (Cr (ad O (ad O (Lp Y O aC O (λw d=>zK _ w) ?_)))))))))));refine I (e5 O) (fR [_] _ _ Y O aC O O [] aj (λw d=>r9 b h j (c+bw (l.take i)) (!eP x) w (y) d) (Ln (Eb (Et (Cr (I (Yi O O O ae) (ad O (Ln ?_))))))));rw [v];exact b8 (i+1) ae ae an
 have E:¬i<l.length:=by simpa using p
 have z:l.take i=l:=kF ae;rw [z];refine Ce (Ex (Ex (cB ?_)));refine E0 O λw' d=>?_;exact ⟨O,d⟩
theorem Oq (g h i:Nat) (d:cQ) (c:bs) (w:World) (j:c.bL+4<=4611686018427387904) (a:Ws w [g] [ao g (.cells #[.int .i64 0,.int .i64 ((c).f:Int),.int .i64 ((c).m:Int),.int .i64 0,.int .i64 ((c).k:Int),.int .i64 0,.int .i64 0,.int .i64 0,.int .i64 0,.int .i64 0,.map (some h),.map (some i)] 224 (0,0))] [] w) :
   Calls prog 128 #[.pointer (some ⟨g,0,none⟩),.agg #[.int .i64 d.kind,st d.nm,.bool d.bG,.int .i64 d.n]] w λe w'=>e = .returned (.tuple #[])/\Ws w [g] [ao g (.cells #[.int .i64 0,.int .i64 ((c+bl d).f:Int),.int .i64 ((c+bl d).m:Int),.int .i64 0,.int .i64 ((c+bl d).k:Int),.int .i64 0,.int .i64 0,.int .i64 0,.int .i64 0,.int .i64 0,.map (some h),.map (some i)] 224 (0,0))] [] w':=by
 have p:(c+bw [d.nm]).bL<=4611686018427387904:=by
   rw [bs.ek];have:=DL [d.nm];simp at this;omega
 refine enter func128 O 44 O O ?_;refine CE a (ag ?_);refine WL.box Y O O λy=>?_;refine aa (ag (ad O (I (Yf xc O) (I (Yd 0 O O O ab) ?_))));refine Lb Y O dT O O O O λz=>?_;refine bm (T:=9) (m:=1) 0 [d.nm] O O (show 1<=1 by decide) aF λv x=>?_;refine Lf 1 O (fR [_] _ [ao g (.cells #[.int .i64 0,.int .i64 ((c+bw [d.nm]).f:Int),.int .i64 ((c+bw [d.nm]).m:Int),.int .i64 0,.int .i64 ((c+bw [d.nm]).k:Int),.int .i64 0,.int .i64 0,.int .i64 0,.int .i64 0,.int .i64 0,.map (some h),.map (some i)] 224 (0,0))] Y O aC O O [v] aj (λw a=>u5 g h i v _ _ [d.nm] (c) w x (by show c.bL+1<=_; omega) a) (aa (ag (I (Yf u4 O) (I (Yd 1 O O O ab) (aa (Cb (ag (I (bY O O) (ak O ?_))))))))));refine aa ?_;refine Cc O (λr=>?_) (λr=>?_)
 ·have o:d.kind=1:=by simpa using r
  have l:∀b,(b=(decide (d.n<0)||decide (1099511627775<d.n)))->c+bw [d.nm]+dK b=c+bl d:=λb j=>by rw [j,bl,if_pos o,bs.hA]
  refine Cr (ad O (I (Yf qX O) (I (Yd 1 O O O ab) (I (ai O O) (ad O ?_)))));apply Lo 3 O O O O Y O O O O O
  ·intro A;refine Vg (Yf qX O) (Vg (Yd 1 O O O ab) (Vg (dO O O) ?_));exact Gt 3 O O O
  refine fR [_] _ _ Y O aC O O [] aj (λw a=>r9 g h i (c+bw [d.nm]) (decide (d.n<0)||decide (1099511627775<d.n)) w (p) a) (Ln (Eb ?_));refine E0 O λw' a=>?_;rw [l _ rfl] at a;exact ⟨O,Wv 1 (Wt 1 a)⟩
 have o:¬d.kind=1:=by simpa using r
 refine ag (I (bY O O) (ak O (aa ?_)));refine Cc O (λs=>?_) (λs=>?_)
 ·have q:d.kind=2:=by simpa using s
  have l:∀b,(b=(!(d.n==0)))->c+bw [d.nm]+dK b=c+bl d:=λb j=>by rw [j,bl,if_neg o,if_pos q,bs.hA]
  refine Cr (ad O (I (Yf qX O) (I (Yd 1 O O O ab) (I (fz O O) (fR [_] _ _ Y O aC O O [] aj (λw a=>r9 g h i (c+bw [d.nm]) (!(d.n==0)) w (p) a) (Ln (Eb ?_)))))));refine E0 O λw' a=>?_;rw [l _ rfl] at a;exact ⟨O,Wv 1 (Wt 1 a)⟩
 have q:¬d.kind=2:=by simpa using s
 refine ag (I (bY O O) (ak O (aa ?_)));refine Cc O (λt=>?_) (λt=>?_)
 ·have u:d.kind=3:=by simpa using t
  have l:∀b,(b=(decide (d.n<1)||decide (32<d.n)))->c+bw [d.nm]+dK b=c+bl d:=λb j=>by rw [j,bl,if_neg o,if_neg q,if_pos u,bs.hA]
  refine Cr (ad O (I (Yf qX O) (I (Yd 1 O O O ab) (I (ai O O) (ad O ?_)))));apply Lo 3 O O O O Y O O O O O
  ·intro B;refine Vg (Yf qX O) (Vg (Yd 1 O O O ab) (Vg (dO O O) ?_));exact Gt 3 O O O
  refine fR [_] _ _ Y O aC O O [] aj (λw a=>r9 g h i (c+bw [d.nm]) (decide (d.n<1)||decide (32<d.n)) w (p) a) (Ln (Eb ?_));refine E0 O λw' a=>?_;rw [l _ rfl] at a;exact ⟨O,Wv 1 (Wt 1 a)⟩
 have u:¬d.kind=3:=by simpa using t
 have l:∀b,(b=true)->c+bw [d.nm]+dY b=c+bl d:=λb j=>by rw [j,bl,if_neg o,if_neg q,if_neg u,bs.hA]
 refine Cr (ad O (fR [_] _ _ Y O aC O O [] aj (λw a=>DK g h i (c+bw [d.nm]) (true) w (p) a) (Ln (Eb ?_))));refine E0 O λw' a=>?_;rw [l _ rfl] at a;exact ⟨O,Wv 1 (Wt 1 a)⟩
theorem JX (d h i:Nat) (r:Bool) (a:Int) (mod nm:Tx) (len:Nat) (c:bs) (w:World) (p:c.bL+4<=4611686018427387904) (j:mod.length+nm.length<=9223372036854775807) (b:Ws w [d] [ao d (.cells #[.int .i64 0,.int .i64 ((c).f:Int),.int .i64 ((c).m:Int),.int .i64 0,.int .i64 ((c).k:Int),.int .i64 0,.int .i64 0,.int .i64 0,.int .i64 0,.int .i64 0,.map (some h),.map (some i)] 224 (0,0))] [] w) :
   Calls prog 170 #[.pointer (some ⟨d,0,none⟩),.agg #[.bool r,.int .i64 a],st mod,st nm,.int .i64 (len:Int)] w λe w'=>e = .returned (.tuple #[])/\Ws w [d] [ao d (.cells #[.int .i64 0,.int .i64 ((c+ee (r,a) mod nm len).f:Int),.int .i64 ((c+ee (r,a) mod nm len).m:Int),.int .i64 0,.int .i64 ((c+ee (r,a) mod nm len).k:Int),.int .i64 0,.int .i64 0,.int .i64 0,.int .i64 0,.int .i64 0,.map (some h),.map (some i)] 224 (0,0))] [] w':=by
 have l:(c+dK (hN r mod nm)).bL<=4611686018427387904:=by rw [bs.ek]; have:=ly (hN r mod nm); omega
 have n:(c+dK (hN r mod nm)+dK (k4 a len)).bL<=4611686018427387904:=by rw [bs.ek,bs.ek]; have:=ly (hN r mod nm); have:=ly (k4 a len); omega
 have o:c+dK (hN r mod nm)+dK (k4 a len)+cz (decide (3<len))=c+ee (r,a) mod nm len:=by rw [ee,bs.hA,bs.hA,bs.hA]
 refine enter func170 O 54 O O ?_;refine CE b (ag ?_);refine WL.box Y O O λq=>?_;refine aa (ag (ad O (I (Yf JV O) (I (Yd 0 O O O ab) (ad O ?_)))));apply La 12 O O O O Y O O O O O
 ·intro s;refine Vg (Ym O) (Vg (v7 O O) (Vg (Ym O) ?_));apply La 3 O O O O (.g O O O) O O O O O
  ·intro t;refine Vg (Ym O) (Lp (.g O O O) O aC O (λw b=>zK _ w) (Vg (e5 O) ?_));exact Gt 3 O O O
  refine Vg (Ym O) ?_;apply Lo 3 O O O O (.g O O O) O O O O O
  ·intro u;refine Vg (Ym O) (Lp (.g O O O) O aC O (λw b=>zK _ w) (Vg (e5 O) ?_));exact Gt 3 O O O
  exact Gt 6 O O O
 refine ad O ?_;apply Lo 9 O O O O Y O O O O O
 ·intro v;refine Vg (Yf JV O) (Vg (Yd 0 O O O ab) (Vg (e5 O) (Vg (Ym O) ?_)));apply La 4 O O O O (.g O O O) O O O O O
  ·intro x;refine Vg (Ym O) (Vg (Ym O) (Vg (Lm O O j) (Vg (v7 O O) ?_)));exact Gt 4 O O O
  exact Gt 5 O O O
 refine Lf 1 O (fR [_] _ _ Y O aC O O [] aj (λw b=>r9 d h i (c) (hN r mod nm) w ae b) (aa (ag (ad O (I (Yf JW O) (I (Yd 1 O O O ab) (I (gw O O) (ad O ?_))))))));apply La 4 O O O O Y O O O O O
 ·intro y;refine Vg (Ym O) (Vg (Yf JW O) (Vg (Yd 1 O O O ab) (Vg (fz O O) ?_)));exact Gt 4 O O O
 refine fR [_] _ _ Y O aC O O [] aj (λw b=>r9 d h i (c+dK (hN r mod nm)) (k4 a len) w (l) b) (aa (Cr (ad O (ad O (I (dO O O) ?_)))));rw [DM];refine fR [_] _ _ Y O aC O O [] aj (λw b=>u3 d h i (c+dK (hN r mod nm)+dK (k4 a len)) (decide (3<len)) w (n) b) (Ln ?_);refine E0 O λw' b=>?_;rw [o] at b;exact ⟨O,Wt 1 b⟩
theorem R2:cx prog 224 1=some 10:=ab
theorem tr:cx prog 263 0=some 0:=ab
theorem JY:dI prog 274=some 2:=ab
theorem JZ:gP prog 274=some 2:=ab
theorem zN:cx prog 263 2=some 2:=ab
theorem zO:cx prog 263 3=some 3:=ab
theorem u6:cx prog 263 4=some 4:=ab
theorem p2:fk prog 240=some 5:=ab
theorem zP:cx prog 263 1=some 1:=ab
theorem kb:gP prog 263=some 5:=ab
theorem je:zeroOf prog 263=some (.agg #[.int .i64 0,.int .i64 0,st [],st [],.slice none 0 0]):=ab
theorem mh:dI prog 263=some 5:=ab
theorem R3 (o b j:Nat) (p:View) (k:Nat) (x:a8) (a:Option Addr) (n:Nat) (d:Nat) (c:bs) (w:World) (r:Sl (a_ k) 5 p a n x.args) (N:c.bL+8*wE x<=1152921504606846976) (l:Ws w [o,b,j] [ao o (.cells #[.int .i64 0,.int .i64 ((c).f:Int),.int .i64 ((c).m:Int),.int .i64 0,.int .i64 ((c).k:Int),.int .i64 0,.int .i64 0,.int .i64 0,.int .i64 0,.int .i64 0,.map (some b),.map (some j)] 224 (0,0)),ao b (ar kI (hX 9) 15),ao j (ar kI js 7)] [p] w) :
   Calls prog 171 #[.pointer (some ⟨o,0,none⟩),.agg #[.int .i64 x.op,.int .i64 x.n,st x.mod,st x.nm,.slice a x.args.length n],.int .i64 (d:Int)] w λe w'=>e = .returned (.tuple #[])/\Ws w [o,b,j] [ao o (.cells #[.int .i64 0,.int .i64 ((c+gR x d).f:Int),.int .i64 ((c+gR x d).m:Int),.int .i64 0,.int .i64 ((c+gR x d).k:Int),.int .i64 0,.int .i64 0,.int .i64 0,.int .i64 0,.int .i64 0,.map (some b),.map (some j)] 224 (0,0)),ao b (ar kI (hX 9) 15),ao j (ar kI js 7)] [p] w':=by
 induction k using Nat.strongRecOn generalizing x a n d c w
 rename_i k A;have P:=r.cap;have Q:=r.max;have R:=GB x;have B:aI x.op (hX 9) (.agg #[.bool false,.int .i64 0]) = .agg #[.bool ((ez x.op).getD (false,0)).1,.int .i64 ((ez x.op).getD (false,0)).2]:=(JL x.op).1;have C:=(JL x.op).2;have S:=wy (ez x.op).isNone;have T:=yO ((ez x.op).getD (false,0)) x.mod x.nm x.args.length;have U:=ly (hB x.op x.n);refine enter func171 O 76 O O ?_;refine CE l (ag ?_);refine WL.box Y O O λV=>?_;refine aa (Cs (ag (ad O (I (dO O O) (aa ?_)))));refine Cc O (λs=>?_) (λs=>?_)
 ·have t:6<d:=by simp at s; omega
  refine ag (ad O (Lf 1 O (fR [_] _ _ Y O aC O O [] aj (λw l=>u3 o b j (c) (true) w ae l) (aa (a7 (Er ?_))))));refine WE.yf O λw' l=>?_;rw [show c+gR x d=c+cz true by rw [JO,if_pos t]; rfl];exact ⟨O,(by have h:=l; have h:=h.bu 3 O; have h:=h.bu 3 O; have h:=h.bu 2 O; exact Wt 3 h)⟩
 have t:¬6<d:=by simp at s; omega
 have D:c+gR x d=c+dY (ez x.op).isNone+ee ((ez x.op).getD (false,0)) x.mod x.nm x.args.length+dK (hB x.op x.n)+ay x.args (d+1):=by rw [JO,if_neg t,bs.hA,bs.hA,bs.hA,bs.hA,bs.hA]
 have W:(c+dY (ez x.op).isNone).bL<=1152921504606846980:=by rw [bs.ek]; omega
 have X:(c+dY (ez x.op).isNone+ee ((ez x.op).getD (false,0)) x.mod x.nm x.args.length).bL<=1152921504606846990:=by rw [bs.ek,bs.ek]; omega
 refine bk (Cs ?_);refine WC.k3 [(0,true),(1,true),(2,true),(3,true),(4,true),(5,true),(6,true),(7,true),(8,true),(9,true),(10,false),(11,false),(12,false)] mixed ab (λ_ _ _ d _ h=>by cases d<;>exact h) ?_;refine D0 O an (Ym O) (D0 O an (cJ O) (D0 O an (Yf R2 O) (D0 O an (Yd 1 O O O ab) (D0 O an (Yf tr O) (D0 O an (Yd 0 O O O ab) (D0 O an (yH 2 jX lL hW kT O O O) ?_))))));rw [B,C];refine D0 O an (Ym O) (D0 O an (Yx O O) (D0 O an (Yx O O) ?_));refine De O an ?_;refine Al Y O kT λZ=>?_;refine Ln (Ed ?_);refine De O (λ_ h=>(Wd 1 h:)) ?_;refine aQ 0 Y O O O JY O O O (Ln (Ed ?_));refine De O (λ_ h=>(Wd 1 h:)) ?_;refine ak O (Ln (Ed ?_));refine WD.nil (λ_ h=>(Wd 1 h:)) ?_;refine Et (ag (ad O (ad O (I (e5 O) ?_))));rw [Bool.not_not];refine Lf 2 O (fR [_] _ _ Y O aC O O [] aj (λw l=>DK o b j (c) ((ez x.op).isNone) w ae l) (aa (ag (ad O (I (cc 1 O O JZ O) (I (Yf zN O) (I (Yd 2 O O O ab) (I (Yf zO O) ?_))))))));refine I (Yd 2 O O O ab) (I (Yf u6 O) (I (Yd 2 O O O ab) (I (Yn p2 O) (fR [_] _ _ Y O aC O O [] aj (λw l=>JX o b j ((ez x.op).getD (false,0)).1 ((ez x.op).getD (false,0)).2 x.mod x.nm x.args.length (c+dY (ez x.op).isNone) w ae ae l) (aa (ag (ad O (I (Yf tr O) ?_))))))));refine I (Yd 2 O O O ab) (I (bY O O) (ad O ?_));apply La 8 O O O O Y O O O O O
 ·intro ac;refine Vg (Yf zP O) (Vg (Yd 2 O O O ab) (Vg (ai O O) (Vg (Ym O) ?_)));apply Lo 3 O O O O (.g O O O) O O O O O
  ·intro af;refine Vg (Yf zP O) (Vg (Yd 2 O O O ab) (Vg (dO O O) ?_));exact Gt 3 O O O
  exact Gt 5 O O O
 refine ad O ?_;apply Lo 8 O O O O Y O O O O O
 ·intro ah;refine Vg (Yf tr O) (Vg (Yd 2 O O O ab) (Vg (fz O O) (Vg (Ym O) ?_)));apply La 3 O O O O (.g O O O) O O O O O
  ·intro al;refine Vg (Yf zP O) (Vg (Yd 2 O O O ab) (Vg (fz O O) ?_));exact Gt 3 O O O
  exact Gt 5 O O O
 refine fR [_] _ _ Y O aC O O [] aj (λw l=>r9 o b j (c+dY (ez x.op).isNone+ee ((ez x.op).getD (false,0)) x.mod x.nm x.args.length) (hB x.op x.n) w ae l) (aa (ag (I (Yf u6 O) (I (Yd 2 O O O ab) (I (Yn p2 O) (ad O (aa (Cb ?_))))))));refine dc (ι:=Nat) (λi=>[(66,.int .i64 (i:Int))]) [(0,_),(2,_),(64,_),(65,_)] (λi=>Ws w [o,b,j] [ao o (.cells #[.int .i64 0,.int .i64 ((c+dY (ez x.op).isNone+ee ((ez x.op).getD (false,0)) x.mod x.nm x.args.length+dK (hB x.op x.n)+ay (x.args.take i) (d+1)).f:Int),.int .i64 ((c+dY (ez x.op).isNone+ee ((ez x.op).getD (false,0)) x.mod x.nm x.args.length+dK (hB x.op x.n)+ay (x.args.take i) (d+1)).m:Int),.int .i64 0,.int .i64 ((c+dY (ez x.op).isNone+ee ((ez x.op).getD (false,0)) x.mod x.nm x.args.length+dK (hB x.op x.n)+ay (x.args.take i) (d+1)).k:Int),.int .i64 0,.int .i64 0,.int .i64 0,.int .i64 0,.int .i64 0,.map (some b),.map (some j)] 224 (0,0)),ao b (ar kI (hX 9) 15),ao j (ar kI js 7)] [p]) (λi=>i<=x.args.length) (λi=>x.args.length-i) 0 (cq _) (λ_ h=>(Wt 3 (((h.f 4 O).f 4 O).f 2 O):)) ?_;intro i hi;refine ag (I (ai O O) (aa (Cs ?_)));refine Cc O (λu=>?_) (λu=>?_)
 ·have E:i<x.args.length:=by simpa using u
  obtain ⟨y,v⟩:=cg E;obtain ⟨am,ap,F,z⟩:=r.bT i y v
  obtain ⟨q,rfl⟩:∃q,k=q+1:=by
    cases k with
    | zero=>exact z.elim
    | succ q=>exact ⟨q,rfl⟩
  obtain ⟨G,H,J,K⟩:=z;have aq:=JS v;have au:=ur (x.args.take i) (d+1)
  have L:(c+dY (ez x.op).isNone+ee ((ez x.op).getD (false,0)) x.mod x.nm x.args.length+dK (hB x.op x.n)+ay (x.args.take i) (d+1)).bL+8*wE y<=1152921504606846976:=by rw [bs.ek,bs.ek,bs.ek,bs.ek]; omega
  have M:c+dY (ez x.op).isNone+ee ((ez x.op).getD (false,0)) x.mod x.nm x.args.length+dK (hB x.op x.n)+ay (x.args.take i) (d+1)+gR y (d+1)=c+dY (ez x.op).isNone+ee ((ez x.op).getD (false,0)) x.mod x.nm x.args.length+dK (hB x.op x.n)+ay (x.args.take (i+1)) (d+1):=by rw [JQ (d+1) v,<-bs.hA]
  refine bk (Cs (Cb (ag (I (Yo p2 O O F ae) (I (dV 0 kb O O O (J)) ?_)))));refine Al Y O je λav=>?_;refine aQ 0 Y O O O mh O O O (aa (Cr (ad O (I (cc 0 O O kb O) (ad O (I (Yi O O O ae) (Lf 3 O (Lf 3 O ?_))))))));refine Lf 3 O ?_
  refine fR [_,_,_] _ [ao o (.cells #[.int .i64 0,.int .i64 ((c+dY (ez x.op).isNone+ee ((ez x.op).getD (false,0)) x.mod x.nm x.args.length+dK (hB x.op x.n)+ay (x.args.take i) (d+1)+gR y (d+1)).f:Int),.int .i64 ((c+dY (ez x.op).isNone+ee ((ez x.op).getD (false,0)) x.mod x.nm x.args.length+dK (hB x.op x.n)+ay (x.args.take i) (d+1)+gR y (d+1)).m:Int),.int .i64 0,.int .i64 ((c+dY (ez x.op).isNone+ee ((ez x.op).getD (false,0)) x.mod x.nm x.args.length+dK (hB x.op x.n)+ay (x.args.take i) (d+1)+gR y (d+1)).k:Int),.int .i64 0,.int .i64 0,.int .i64 0,.int .i64 0,.int .i64 0,.map (some b),.map (some j)] 224 (0,0)),ao b (ar kI (hX 9) 15),ao j (ar kI js 7)] Y O aC O O [p] aj (λw l=>by
      have:=A q ae y G H (d+1) (c+dY (ez x.op).isNone+ee ((ez x.op).getD (false,0)) x.mod x.nm x.args.length+dK (hB x.op x.n)+ay (x.args.take i) (d+1)) w K L l
      exact this) ?_
  refine Ln (Eb (Et (Cr (I (Yi O O O ae) (ad O (Ln ?_))))));rw [M];exact b8 (i+1) ae ae (λ_ h=>(Wt 3 h:))
 have aw:¬i<x.args.length:=by simpa using u
 rw [kF ae,<-D];refine Ce (Ex (Ex (cB ?_)));refine E0 O λw' l=>?_;exact ⟨O,l⟩
theorem u7 (c:bs):c0+c=c:=by apply bs.ext'<;>simp [bs.sS,bs.sT,bs.sU,c0]
theorem xd (n:Nat):decide ((0:Int)<(n:Int))=decide (0<n):=by rw [jz]; simp
theorem J0 (n:Nat):decide ((10:Int)<(n:Int))=decide (10<n):=by rw [jz]; simp; omega
theorem R4 {l:List bq} {d:Nat} (h:¬6<d):d_ l d=cz (decide (10<l.length))+cS l d:=by rw [d_,l8,if_neg h]
theorem o1:fk prog 48=some 6:=ab
theorem jQ:gP prog 242=some 6:=ab
theorem qY:zeroOf prog 242=some (.agg #[.int .i64 0,st [],st [],.slice none 0 0,.slice none 0 0,.slice none 0 0]):=ab
theorem o2:dI prog 242=some 6:=ab
theorem R5:cx prog 224 2=some 11:=ab
theorem ny:cx prog 242 0=some 0:=ab
theorem xe:cx prog 242 1=some 1:=ab
theorem xf:cx prog 242 2=some 2:=ab
theorem c8:cx prog 242 3=some 3:=ab
theorem u9:cx prog 242 4=some 4:=ab
theorem r':cx prog 242 5=some 5:=ab
theorem J1 (q b o:Nat) (r:View) (ke k:Nat) (l:List bq) (a:Option Addr) (n:Nat) (d:Nat) (c:bs) (w:World) (B:Sl (g_ ke k) 6 r a n l) (aB:c.bL+2+8*ef l<=1152921504606846976) (p:Ws w [q,b,o] [ao q (.cells #[.int .i64 0,.int .i64 ((c).f:Int),.int .i64 ((c).m:Int),.int .i64 0,.int .i64 ((c).k:Int),.int .i64 0,.int .i64 0,.int .i64 0,.int .i64 0,.int .i64 0,.map (some b),.map (some o)] 224 (0,0)),ao b (ar kI (hX 9) 15),ao o (ar kI js 7)] [r] w) :
   Calls prog 129 #[.pointer (some ⟨q,0,none⟩),.slice a l.length n,.int .i64 (d:Int)] w λe w'=>e = .returned (.tuple #[])/\Ws w [q,b,o] [ao q (.cells #[.int .i64 0,.int .i64 ((c+d_ l d).f:Int),.int .i64 ((c+d_ l d).m:Int),.int .i64 0,.int .i64 ((c+d_ l d).k:Int),.int .i64 0,.int .i64 0,.int .i64 0,.int .i64 0,.int .i64 0,.map (some b),.map (some o)] 224 (0,0)),ao b (ar kI (hX 9) 15),ao o (ar kI js 7)] [r] w':=by
 induction k using Nat.strongRecOn generalizing l a n d c w
 rename_i k C;have aD:=B.cap;have aE:=B.max;have aF:=uq (decide (10<l.length));refine enter func129 O 116 O O ?_;refine CE p (Cs (ag (ad O (I (dO O O) (aa ?_)))));refine Cc O (λD=>?_) (λD=>?_)
 ·have E:6<d:=by simp at D; omega
  refine ag (ad O (fR [_] _ _ Y O aC O O [] aj (λw p=>u3 q b o (c) (true) w ae p) (aa (a7 (Er ?_)))));refine WE.yf O λw' p=>?_;rw [show c+d_ l d=c+cz true by rw [d_,l8,if_pos E]; rfl];exact ⟨O,p⟩
 have E:¬6<d:=by simp at D; omega
 refine bk (ag (ad O (ad O (I (Yn o1 O) (I (dO O O) ?_)))));rw [J0];refine fR [_] _ _ Y O aC O O [] aj (λw p=>u3 q b o (c) (decide (10<l.length)) w ae p) (aa (ag (ad O (I (Yn o1 O) (ad O (aa (Cb ?_)))))));refine dc (ι:=Nat) (λi=>[(24,.int .i64 (i:Int))]) [(0,_),(2,_),(22,_),(23,_)] (λi=>Ws w [q,b,o] [ao q (.cells #[.int .i64 0,.int .i64 ((c+cz (decide (10<l.length))+cS (l.take i) d).f:Int),.int .i64 ((c+cz (decide (10<l.length))+cS (l.take i) d).m:Int),.int .i64 0,.int .i64 ((c+cz (decide (10<l.length))+cS (l.take i) d).k:Int),.int .i64 0,.int .i64 0,.int .i64 0,.int .i64 0,.int .i64 0,.map (some b),.map (some o)] 224 (0,0)),ao b (ar kI (hX 9) 15),ao o (ar kI js 7)] [r]) (λi=>i<=l.length) (λi=>l.length-i) 0 (cq _) an ?_;intro i hi;refine ag (I (ai O O) (aa (Cs ?_)));refine Cc O (λF=>?_) (λF=>?_)
 ·have G:i<l.length:=by simpa using F
  obtain ⟨y,x⟩:=cg G;obtain ⟨aG,aH,V,R⟩:=B.bT i y x
  obtain ⟨s,rfl⟩:∃s,k=s+1:=by
    cases k with
    | zero=>exact R.elim
    | succ s=>exact ⟨s,rfl⟩
  obtain ⟨W,X,S,T,H,J,Z,K,L,A⟩:=R;have aJ:=R0 x;have aK:=GC y;have aL:=wz (l.take i) d;have aM:=wy (cI y.op).isNone;have aN:=yO ((cI y.op).getD (false,0)) y.mod y.nm y.args.length;have aO:=ly (bo y.op y.body.length y.other.length);have aP:=ur y.args 1;have aR:=BV y.body (d+1);have ac:aI y.op js (.agg #[.bool false,.int .i64 0]) = .agg #[.bool ((cI y.op).getD (false,0)).1,.int .i64 ((cI y.op).getD (false,0)).2]:=(JM y.op).1;have af:=(JM y.op).2;have aS:=K.cap;have aT:=K.max;have aU:=L.cap;have aV:=L.max;have aW:=A.cap;have aX:=A.max
  have aY:(c+cz (decide (10<l.length))+cS (l.take i) d).bL<=1152921504606846976:=by simp only [bs.ek]; omega
  have aZ:(c+cz (decide (10<l.length))+cS (l.take i) d+dY (cI y.op).isNone).bL+4<=1152921504606846976:=by simp only [bs.ek]; omega
  have a0:(c+cz (decide (10<l.length))+cS (l.take i) d+dY (cI y.op).isNone+ee ((cI y.op).getD (false,0)) y.mod y.nm y.args.length+ay y.args 1).bL<=1152921504606846976:=by simp only [bs.ek]; omega
  have ah:(c+cz (decide (10<l.length))+cS (l.take i) d+dY (cI y.op).isNone+ee ((cI y.op).getD (false,0)) y.mod y.nm y.args.length+ay y.args 1+dK (bo y.op y.body.length y.other.length)).bL+2+8*ef y.body<=1152921504606846976:=by simp only [bs.ek]; omega
  have al:(c+cz (decide (10<l.length))+cS (l.take i) d+dY (cI y.op).isNone+ee ((cI y.op).getD (false,0)) y.mod y.nm y.args.length+ay y.args 1+dK (bo y.op y.body.length y.other.length)+d_ y.body (d+1)).bL+2+8*ef y.other<=1152921504606846976:=by simp only [bs.ek]; omega
  have am:(c+cz (decide (10<l.length))+cS (l.take i) d+dY (cI y.op).isNone+ee ((cI y.op).getD (false,0)) y.mod y.nm y.args.length+ay y.args 1+dK (bo y.op y.body.length y.other.length)).bL+2+8*ef y.other<=1152921504606846976:=by simp only [bs.ek]; omega
  refine bk (Cs (Cb (ag (I (Yo o1 O O V ae) (I (dV 0 jQ O O O (Z)) ?_)))));refine Al Y O qY λap=>?_;refine aQ 0 Y O O O o2 O O O (aa (Cs ?_));refine WC.k3 [(0,true),(1,true),(2,true),(3,true),(4,true),(5,true),(6,true),(7,true),(8,true),(9,true),(10,false),(11,false),(12,false)] mixed ab (λ_ _ _ d _ h=>by cases d<;>exact h) ?_;refine D0 O an (Ym O) (D0 O an (cJ O) (D0 O an (Yf R5 O) (D0 O an (Yd 1 O O O ab) (D0 O an (Yf ny O) (D0 O an (Yd 0 O O O ab) (D0 O an (yH 3 jX lL hW kT O O O) ?_))))));rw [ac,af];refine D0 O an (Ym O) (D0 O an (Yx O O) (D0 O an (Yx O O) ?_));refine De O an ?_;refine Al Y O kT λa1=>?_;refine Ln (Ed ?_);refine De O (λ_ h=>(Wd 1 h:)) ?_;refine aQ 0 Y O O O JY O O O (Ln (Ed ?_));refine De O (λ_ h=>(Wd 1 h:)) ?_;refine ak O (Ln (Ed ?_));refine WD.nil (λ_ h=>(Wd 1 h:)) ?_;refine Et (ag (ad O (ad O (I (e5 O) ?_))));rw [Bool.not_not];refine Lf 2 O (fR [_] _ _ Y O aC O O [] aj (λw p=>DK q b o (c+cz (decide (10<l.length))+cS (l.take i) d) ((cI y.op).isNone) w ae p) (aa (ag (ad O (I (cc 1 O O JZ O) (I (Yf xe O) (I (Yd 2 O O O ab) (I (Yf xf O) ?_))))))));refine I (Yd 2 O O O ab) (I (Yf c8 O) (I (Yd 2 O O O ab) (I (Yn p2 O) (fR [_] _ _ Y O aC O O [] aj (λw p=>JX q b o ((cI y.op).getD (false,0)).1 ((cI y.op).getD (false,0)).2 y.mod y.nm y.args.length (c+cz (decide (10<l.length))+cS (l.take i) d+dY (cI y.op).isNone) w ae ae p) (aa (Cs (ag (I (Yf c8 O) (I (Yd 2 O O O ab) ?_)))))))));refine I (Yn p2 O) (ad O (aa (Cb ?_)));refine dc (ι:=Nat) (λj=>[(55,.int .i64 (j:Int))]) [(0,_),(2,_),(7,_),(22,_),(23,_),(24,_),(53,_),(54,_)] (λj=>Ws w [q,b,o] ([ao q (.cells #[.int .i64 0,.int .i64 ((c+cz (decide (10<l.length))+cS (l.take i) d+dY (cI y.op).isNone+ee ((cI y.op).getD (false,0)) y.mod y.nm y.args.length+ay (y.args.take j) 1).f:Int),.int .i64 ((c+cz (decide (10<l.length))+cS (l.take i) d+dY (cI y.op).isNone+ee ((cI y.op).getD (false,0)) y.mod y.nm y.args.length+ay (y.args.take j) 1).m:Int),.int .i64 0,.int .i64 ((c+cz (decide (10<l.length))+cS (l.take i) d+dY (cI y.op).isNone+ee ((cI y.op).getD (false,0)) y.mod y.nm y.args.length+ay (y.args.take j) 1).k:Int),.int .i64 0,.int .i64 0,.int .i64 0,.int .i64 0,.int .i64 0,.map (some b),.map (some o)] 224 (0,0)),ao b (ar kI (hX 9) 15),ao o (ar kI js 7)]++[ao ap (.cells (sX y W X S T H J).toArray 242 (0,0))]) [r]) (λj=>j<=y.args.length) (λj=>y.args.length-j) 0 (cq _) (λ_ h=>by exact (Wt 4 ((((h.f 2 O).f 4 O).f 4 O).f 3 O):)) ?_
  intro j a2;refine ag (I (ai O O) (aa (Cs ?_)));refine Cc O (λM=>?_) (λM=>?_)
  ·have G:j<y.args.length:=by simpa using M
   obtain ⟨t,N⟩:=cg G;obtain ⟨a3,a4,aq,U⟩:=K.bT j t N
   obtain ⟨P,rfl⟩:∃P,ke=P+1:=by
     cases ke with
     | zero=>exact U.elim
     | succ s=>exact ⟨s,rfl⟩
   obtain ⟨au,av,aw,ax⟩:=U;have a5:=JS N;have a6:=ur (y.args.take j) 1
   have az:(c+cz (decide (10<l.length))+cS (l.take i) d+dY (cI y.op).isNone+ee ((cI y.op).getD (false,0)) y.mod y.nm y.args.length+ay (y.args.take j) 1).bL+8*wE t<=1152921504606846976:=by simp only [bs.ek]; omega
   have aA:c+cz (decide (10<l.length))+cS (l.take i) d+dY (cI y.op).isNone+ee ((cI y.op).getD (false,0)) y.mod y.nm y.args.length+ay (y.args.take j) 1+gR t 1=c+cz (decide (10<l.length))+cS (l.take i) d+dY (cI y.op).isNone+ee ((cI y.op).getD (false,0)) y.mod y.nm y.args.length+ay (y.args.take (j+1)) 1:=by rw [JQ 1 N,<-bs.hA]
   refine bk (Cs (Cb (ag (I (Yo p2 O O aq ae) (I (dV 0 kb O O O (aw)) ?_)))));refine Al Y O je λa8=>?_;refine aQ 0 Y O O O mh O O O (aa (Cr (ad O (I (cc 0 O O kb O) (Lf 3 O (Lf 3 O (Lf 3 O ?_)))))))
   refine fR [_,_,_] _ [ao q (.cells #[.int .i64 0,.int .i64 ((c+cz (decide (10<l.length))+cS (l.take i) d+dY (cI y.op).isNone+ee ((cI y.op).getD (false,0)) y.mod y.nm y.args.length+ay (y.args.take j) 1+gR t 1).f:Int),.int .i64 ((c+cz (decide (10<l.length))+cS (l.take i) d+dY (cI y.op).isNone+ee ((cI y.op).getD (false,0)) y.mod y.nm y.args.length+ay (y.args.take j) 1+gR t 1).m:Int),.int .i64 0,.int .i64 ((c+cz (decide (10<l.length))+cS (l.take i) d+dY (cI y.op).isNone+ee ((cI y.op).getD (false,0)) y.mod y.nm y.args.length+ay (y.args.take j) 1+gR t 1).k:Int),.int .i64 0,.int .i64 0,.int .i64 0,.int .i64 0,.int .i64 0,.map (some b),.map (some o)] 224 (0,0)),ao b (ar kI (hX 9) 15),ao o (ar kI js 7)] Y O aC O O [r] aj (λw p=>by
       have:=R3 q b o r P t au av 1 (c+cz (decide (10<l.length))+cS (l.take i) d+dY (cI y.op).isNone+ee ((cI y.op).getD (false,0)) y.mod y.nm y.args.length+ay (y.args.take j) 1) w ax az p
       exact this) ?_
   refine Ln (Eb (Et (Cr (I (Yi O O O ae) (ad O (Ln ?_))))));rw [aA];exact b8 (j+1) ae ae (λ_ h=>by exact (Wt 4 ((((h.f 4 O).f 3 O).f 3 O).f 3 O):))
  have a9:¬j<y.args.length:=by simpa using M
  rw [kF (by omega:y.args.length<=j)];refine Ce (Ex (Ex (cB (Et (ag (I (Yf ny O) (I (Yd 3 O O O ab) (I (bY O O) (ad O ?_)))))))));apply Lo 3 O O O O Y O O O O O
  ·intro a';refine Vg (Yf ny O) (Vg (Yd 3 O O O ab) (Vg (bY O O) ?_));exact Gt 3 O O O
  refine ak O (aa (ag (ad O (ad O (I (e5 O) (ad O ?_))))));apply La 4 O O O O Y O O O O O
  ·intro a_;refine Vg (Yf u9 O) (Vg (Yd 3 O O O ab) (Vg (Yn o1 O) (Vg (dO O O) ?_)));rw [xd];exact Gt 4 O O O
  refine ad O ?_;apply Lo 9 O O O O Y O O O O O
  ·intro ba;refine Vg (Yf ny O) (Vg (Yd 3 O O O ab) (Vg (fz O O) (Vg (Ym O) ?_)));apply La 4 O O O O (.g O O O) O O O O O
   ·intro bb;refine Vg (Yf r' O) (Vg (Yd 3 O O O ab) (Vg (Yn o1 O) (Vg (dO O O) ?_)));rw [xd];exact Gt 4 O O O
   exact Gt 5 O O O
  refine fR [_] _ _ Y O aC O O [] aj (λw p=>r9 q b o (c+cz (decide (10<l.length))+cS (l.take i) d+dY (cI y.op).isNone+ee ((cI y.op).getD (false,0)) y.mod y.nm y.args.length+ay y.args 1) (bo y.op y.body.length y.other.length) w ae p) (aa (Cs (ag (ad O (ad O ?_)))));apply Lo 4 O O O O Y O O O O O
  ·intro bc;refine Vg (Yf u9 O) (Vg (Yd 3 O O O ab) (Vg (Yn o1 O) (Vg (dO O O) ?_)));rw [xd];exact Gt 4 O O O
  refine aa ?_;refine Cc O (λQ=>?_) (λQ=>?_)
  ·have z:(if (inner y.op||decide (0<y.body.length))=true then d_ y.body (d+1) else c0)=d_ y.body (d+1):=if_pos Q;refine Cr (ad O (I (Yf u9 O) (I (Yd 3 O O O ab) (ad O (I (Yi O O O ae) ?_)))))
   refine fR [_,_,_] _ [ao q (.cells #[.int .i64 0,.int .i64 ((c+cz (decide (10<l.length))+cS (l.take i) d+dY (cI y.op).isNone+ee ((cI y.op).getD (false,0)) y.mod y.nm y.args.length+ay y.args 1+dK (bo y.op y.body.length y.other.length)+d_ y.body (d+1)).f:Int),.int .i64 ((c+cz (decide (10<l.length))+cS (l.take i) d+dY (cI y.op).isNone+ee ((cI y.op).getD (false,0)) y.mod y.nm y.args.length+ay y.args 1+dK (bo y.op y.body.length y.other.length)+d_ y.body (d+1)).m:Int),.int .i64 0,.int .i64 ((c+cz (decide (10<l.length))+cS (l.take i) d+dY (cI y.op).isNone+ee ((cI y.op).getD (false,0)) y.mod y.nm y.args.length+ay y.args 1+dK (bo y.op y.body.length y.other.length)+d_ y.body (d+1)).k:Int),.int .i64 0,.int .i64 0,.int .i64 0,.int .i64 0,.int .i64 0,.map (some b),.map (some o)] 224 (0,0)),ao b (ar kI (hX 9) 15),ao o (ar kI js 7)] Y O aC O O [r] aj (λw p=>by
       have:=C s ae y.body S T (d+1) (c+cz (decide (10<l.length))+cS (l.take i) d+dY (cI y.op).isNone+ee ((cI y.op).getD (false,0)) y.mod y.nm y.args.length+ay y.args 1+dK (bo y.op y.body.length y.other.length)) w L ah p
       exact this) ?_
   refine aa (ag (I (Yf r' O) (I (Yd 3 O O O ab) (I (Yn o1 O) (I (dO O O) ?_)))));rw [xd];refine aa ?_;refine Cc O (λu=>?_) (λu=>?_)
   ·have v:(if 0<y.other.length then d_ y.other (d+1) else c0)=d_ y.other (d+1):=if_pos (by simpa using u);refine Cr (ad O (I (Yf r' O) (I (Yd 3 O O O ab) (ad O (I (Yi O O O ae) ?_)))))
    refine fR [_,_,_] _ [ao q (.cells #[.int .i64 0,.int .i64 ((c+cz (decide (10<l.length))+cS (l.take i) d+dY (cI y.op).isNone+ee ((cI y.op).getD (false,0)) y.mod y.nm y.args.length+ay y.args 1+dK (bo y.op y.body.length y.other.length)+d_ y.body (d+1)+d_ y.other (d+1)).f:Int),.int .i64 ((c+cz (decide (10<l.length))+cS (l.take i) d+dY (cI y.op).isNone+ee ((cI y.op).getD (false,0)) y.mod y.nm y.args.length+ay y.args 1+dK (bo y.op y.body.length y.other.length)+d_ y.body (d+1)+d_ y.other (d+1)).m:Int),.int .i64 0,.int .i64 ((c+cz (decide (10<l.length))+cS (l.take i) d+dY (cI y.op).isNone+ee ((cI y.op).getD (false,0)) y.mod y.nm y.args.length+ay y.args 1+dK (bo y.op y.body.length y.other.length)+d_ y.body (d+1)+d_ y.other (d+1)).k:Int),.int .i64 0,.int .i64 0,.int .i64 0,.int .i64 0,.int .i64 0,.map (some b),.map (some o)] 224 (0,0)),ao b (ar kI (hX 9) 15),ao o (ar kI js 7)] Y O aC O O [r] aj (λw p=>by
        have:=C s ae y.other H J (d+1) (c+cz (decide (10<l.length))+cS (l.take i) d+dY (cI y.op).isNone+ee ((cI y.op).getD (false,0)) y.mod y.nm y.args.length+ay y.args 1+dK (bo y.op y.body.length y.other.length)+d_ y.body (d+1)) w A al p
        exact this) ?_
    refine Ln (Eb (Et (Cr (I (Yi O O O ae) (ad O (Ln ?_))))));rw [show c+cz (decide (10<l.length))+cS (l.take i) d+dY (cI y.op).isNone+ee ((cI y.op).getD (false,0)) y.mod y.nm y.args.length+ay y.args 1+dK (bo y.op y.body.length y.other.length)+d_ y.body (d+1)+d_ y.other (d+1)=c+cz (decide (10<l.length))+cS (l.take (i+1)) d by rw [zM d x,zL,z,v]; simp only [bs.hA,u2,u7]];exact b8 (i+1) ae ae (λ_ h=>(Wt 3 h:))
   have v:(if 0<y.other.length then d_ y.other (d+1) else c0)=c0:=if_neg (by simpa using u);refine Ck (Eb (Et (Cr (I (Yi O O O ae) (ad O (Ln ?_))))));rw [show c+cz (decide (10<l.length))+cS (l.take i) d+dY (cI y.op).isNone+ee ((cI y.op).getD (false,0)) y.mod y.nm y.args.length+ay y.args 1+dK (bo y.op y.body.length y.other.length)+d_ y.body (d+1)=c+cz (decide (10<l.length))+cS (l.take (i+1)) d by rw [zM d x,zL,z,v]; simp only [bs.hA,u2,u7]];exact b8 (i+1) ae ae (λ_ h=>(Wt 3 h:))
  have z:(if (inner y.op||decide (0<y.body.length))=true then d_ y.body (d+1) else c0)=c0:=if_neg (λe=>by rw [show (inner y.op||decide (0<y.body.length))=false from Q] at e; cases e);refine bk (ag (I (Yf r' O) (I (Yd 3 O O O ab) (I (Yn o1 O) (I (dO O O) ?_)))));rw [xd];refine aa ?_;refine Cc O (λu=>?_) (λu=>?_)
  ·have v:(if 0<y.other.length then d_ y.other (d+1) else c0)=d_ y.other (d+1):=if_pos (by simpa using u);refine Cr (ad O (I (Yf r' O) (I (Yd 3 O O O ab) (ad O (I (Yi O O O ae) ?_)))))
   refine fR [_,_,_] _ [ao q (.cells #[.int .i64 0,.int .i64 ((c+cz (decide (10<l.length))+cS (l.take i) d+dY (cI y.op).isNone+ee ((cI y.op).getD (false,0)) y.mod y.nm y.args.length+ay y.args 1+dK (bo y.op y.body.length y.other.length)+d_ y.other (d+1)).f:Int),.int .i64 ((c+cz (decide (10<l.length))+cS (l.take i) d+dY (cI y.op).isNone+ee ((cI y.op).getD (false,0)) y.mod y.nm y.args.length+ay y.args 1+dK (bo y.op y.body.length y.other.length)+d_ y.other (d+1)).m:Int),.int .i64 0,.int .i64 ((c+cz (decide (10<l.length))+cS (l.take i) d+dY (cI y.op).isNone+ee ((cI y.op).getD (false,0)) y.mod y.nm y.args.length+ay y.args 1+dK (bo y.op y.body.length y.other.length)+d_ y.other (d+1)).k:Int),.int .i64 0,.int .i64 0,.int .i64 0,.int .i64 0,.int .i64 0,.map (some b),.map (some o)] 224 (0,0)),ao b (ar kI (hX 9) 15),ao o (ar kI js 7)] Y O aC O O [r] aj (λw p=>by
       have:=C s ae y.other H J (d+1) (c+cz (decide (10<l.length))+cS (l.take i) d+dY (cI y.op).isNone+ee ((cI y.op).getD (false,0)) y.mod y.nm y.args.length+ay y.args 1+dK (bo y.op y.body.length y.other.length)) w A am p
       exact this) ?_
   refine Ln (Eb (Et (Cr (I (Yi O O O ae) (ad O (Ln ?_))))));rw [show c+cz (decide (10<l.length))+cS (l.take i) d+dY (cI y.op).isNone+ee ((cI y.op).getD (false,0)) y.mod y.nm y.args.length+ay y.args 1+dK (bo y.op y.body.length y.other.length)+d_ y.other (d+1)=c+cz (decide (10<l.length))+cS (l.take (i+1)) d by rw [zM d x,zL,z,v]; simp only [bs.hA,u2,u7]];exact b8 (i+1) ae ae (λ_ h=>(Wt 3 h:))
  have v:(if 0<y.other.length then d_ y.other (d+1) else c0)=c0:=if_neg (by simpa using u);refine Ck (Eb (Et (Cr (I (Yi O O O ae) (ad O (Ln ?_))))));rw [show c+cz (decide (10<l.length))+cS (l.take i) d+dY (cI y.op).isNone+ee ((cI y.op).getD (false,0)) y.mod y.nm y.args.length+ay y.args 1+dK (bo y.op y.body.length y.other.length)=c+cz (decide (10<l.length))+cS (l.take (i+1)) d by rw [zM d x,zL,z,v]; simp only [bs.hA,u2,u7]];exact b8 (i+1) ae ae (λ_ h=>(Wt 3 h:))
 have bd:¬i<l.length:=by simpa using F
 rw [kF ae,bs.hA,<-R4 E];refine Ce (Ex (Ex (cB ?_)));refine E0 O λw' p=>?_;exact ⟨O,p⟩
theorem J2:∀(l:List cQ) (i:Nat),wD (l.take i)<=wD l
 | [],i=>by simp
 | x::r,0=>by simp [wD]
 | x::r,i+1=>by have:=J2 r i; simp only [rn,wD]; omega
theorem DN:∀(l:List ed) (i:Nat),wP (l.take i)<=wP l
 | [],i=>by simp
 | x::r,0=>by simp [wP]
 | x::r,i+1=>by have:=DN r i; simp only [rn,wP]; omega
theorem J3 {l:List ed} {i:Nat} {p:ed} (h:l[i]? = some p):wP (l.take i)+(1+p.nm.length+wN p.params+wN p.aB+ef p.body)<=wP l:=by
 have c:=DN l (i+1);rw [hg h] at c
 have:∀a b:List ed,wP (a++b)=wP a+wP b:=by
   intro a b
   induction a with
   | nil=>simp [wP]
   | cons y a d=>simp only [fL,wP,d]; omega
 rw [this] at c;simp only [wP] at c;omega
theorem J4:∀a b:List cQ,aE (a++b)=aE a+aE b
 | [],b=>by apply bs.ext'<;>simp [bs.sS,bs.sT,bs.sU,aE,c0]
 | x::a,b=>by
   rw [fL,show ∀q,aE (x::q)=bl x+aE q from λ_=>rfl,J4 a b,show ∀q,aE (x::q)=bl x+aE q from λ_=>rfl,bs.hA]
theorem R6 {l:List cQ} {i:Nat} {s:cQ} (h:l[i]? = some s):aE (l.take (i+1))=aE (l.take i)+bl s:=by rw [hg h,J4]; rfl
theorem J5:∀a b:List ed,eX (a++b)=eX a+eX b
 | [],b=>by apply bs.ext'<;>simp [bs.sS,bs.sT,bs.sU,eX,c0]
 | x::a,b=>by
   rw [fL,show ∀q,eX (x::q)=nf x+eX q from λ_=>rfl,J5 a b,show ∀q,eX (x::q)=nf x+eX q from λ_=>rfl,bs.hA]
theorem R7 {l:List ed} {i:Nat} {s:ed} (h:l[i]? = some s):eX (l.take (i+1))=eX (l.take i)+nf s:=by rw [hg h,J5]; rfl
theorem R8 (n:Nat):decide ((4:Int)<(n:Int))=decide (4<n):=by rw [jz]; simp; omega
theorem R9 (n:Nat):decide ((6:Int)<(n:Int))=decide (6<n):=by rw [jz]; simp; omega
def eN (i:Nat):Nat:=if i=0 then 4 else if i=1 then 2 else 1
def cE (c:bs) (i:Nat):Nat:=if i=0 then c.k else if i=1 then c.m else c.f
theorem R' {i:Nat} (h:i<3):(#[.int .i64 4,.int .i64 2,.int .i64 1]:Array Value)[i]? = some (.int .i64 (eN i:Int)):=by
 match i,h with
 | 0,_=>rfl
 | 1,_=>rfl
 | 2,_=>rfl
theorem R_ (i:Nat):eN i<10:=by unfold eN; split; omega; split<;>omega
theorem Sa {c:bs} {a b i:Nat} (h:i<3) {T:TypeId} {d:Nat×Nat}:gQ (.cells #[.int .i64 0,.int .i64 (c.f:Int),.int .i64 (c.m:Int),.int .i64 0,.int .i64 (c.k:Int),.int .i64 0,.int .i64 0,.int .i64 0,.int .i64 0,.int .i64 0,.map (some a),.map (some b)] T d) (0+0+eN i*1)=some (.int .i64 (cE c i:Int)):=by
 match i,h with
 | 0,_=>rfl
 | 1,_=>rfl
 | 2,_=>rfl
theorem Sb {c:bs} {i:Nat} (h:i<3) (e:∀j,j<i->cE c j=0) (d:0<cE c i):(eN i:Int)=qA c:=by
 match i,h,e,d with
 | 0,_,_,d=>unfold qA; rw [if_pos (show 0<c.k from d)]; rfl
 | 1,_,e,d=>have:=e 0 ae; unfold qA; rw [if_neg (by simp [cE] at this; omega),if_pos (show 0<c.m from d)]; rfl
 | 2,_,e,d=>have a:=e 0 ae; have b:=e 1 ae; unfold qA; rw [if_neg (by simp [cE] at a; omega),if_neg (by simp [cE] at b; omega),if_pos (show 0<c.f from d)]; rfl
theorem Sc {c:bs} (h:∀j,j<3->cE c j=0):qA c=0:=by
 have a:=h 0 ae; have b:=h 1 ae; have d:=h 2 ae;simp [cE] at a b d;unfold qA;rw [if_neg ae,if_neg ae,if_neg ae]
theorem Sd:gx prog 224=some [(0,10),(10,1),(11,1)]:=ab
theorem Se:zeroOf prog 224=some (.agg #[.int .i64 0,.int .i64 0,.int .i64 0,.int .i64 0,.int .i64 0,.int .i64 0,.int .i64 0,.int .i64 0,.int .i64 0,.int .i64 0,.map none,.map none]):=ab
theorem qZ:cx prog 50 0=some 0:=ab
theorem nz:cx prog 50 1=some 1:=ab
theorem u_:cx prog 50 2=some 2:=ab
theorem ft:fk prog 46=some 4:=ab
theorem tt:cx prog 50 3=some 3:=ab
theorem q0:fk prog 47=some 5:=ab
theorem nA:gP prog 214=some 4:=ab
theorem p3:zeroOf prog 214=some (.agg #[.int .i64 0,st [],.bool false,.int .i64 0]):=ab
theorem dC:dI prog 214=some 4:=ab
theorem va:gP prog 151=some 5:=ab
theorem r_:zeroOf prog 151=some (.agg #[st [],.bool false,.slice none 0 0,.slice none 0 0,.slice none 0 0]):=ab
theorem vb:dI prog 151=some 5:=ab
theorem J6:cx prog 151 0=some 0:=ab
theorem p4:cx prog 151 2=some 2:=ab
theorem jf:cx prog 151 3=some 3:=ab
theorem DO:cx prog 151 4=some 4:=ab
theorem DP:cx prog 50 4=some 4:=ab
theorem Sf:sO prog 227=some (3,1):=ab
theorem Sg:zeroOf prog 227=some (.agg #[.int .i64 0,.int .i64 0,.int .i64 0]):=ab
theorem Ot:yI prog 227=some 3:=ab
theorem DQ (l:View) (ke ks:Nat) (r:iQ) (m:aX) (w:World) (K:Le l w) (o:jk ke ks l r m) (ay:wM m<=9007199254740992) :
   Calls prog 50 #[.agg (a6 m r).toArray] w λe w'=>e = .returned (.int .i64 (gz m))/\Ext w w':=by
 have az:=BW m.nm;have aA:=uu m.aq;have aD:=uq ((decide (3<m.aq.length)||decide (10<m.decls.length))||decide (6<m.procs.length));have aG:=BU m.decls;have aH:=yP m.procs;have aI:=BV m.main 1;have aJ:wM m=1+m.nm.length+wN m.aq+wD m.decls+wP m.procs+ef m.main:=rfl;have aK:c0.bL=0:=rfl;have aL:=wx m.aq;have aM:=o.aq.cap;have aN:=o.aq.max;have aO:=o.decls.cap;have aP:=o.decls.max;have aR:=o.procs.cap;have aS:=o.procs.max
 have L:∀i,(aE (m.decls.take i)).bL<=8*wD m.decls:=λi=>by have:=BU (m.decls.take i); have:=J2 m.decls i; omega
 have M:∀i,(eX (m.procs.take i)).bL<=8*wP m.procs:=λi=>by have:=yP (m.procs.take i); have:=DN m.procs i; omega
 have aT:(c0+bw [m.nm]).bL+16+m.aq.length<=1152921504606846976:=by simp only [bs.ek]; omega
 have aU:(c0+bw [m.nm]+bw m.aq).bL+16+m.aq.length<=1152921504606846976:=by simp only [bs.ek]; omega
 have aV:(c0+bw [m.nm]+bw m.aq+cz ((decide (3<m.aq.length)||decide (10<m.decls.length))||decide (6<m.procs.length))).bL+16+m.aq.length<=1152921504606846976:=by simp only [bs.ek]; omega
 have aW:(c0+bw [m.nm]+bw m.aq+cz ((decide (3<m.aq.length)||decide (10<m.decls.length))||decide (6<m.procs.length))+aE m.decls).bL+16+m.aq.length<=1152921504606846976:=by simp only [bs.ek]; omega
 have aY:(c0+bw [m.nm]+bw m.aq+cz ((decide (3<m.aq.length)||decide (10<m.decls.length))||decide (6<m.procs.length))+aE m.decls+eX m.procs).bL+16+8*ef m.main<=1152921504606846976:=by simp only [bs.ek]; omega
 refine enter func50 O 106 O O ?_;refine CE (Vs:=[l]) (Ws.init (by simp [K])) (ag ?_);refine WL.box Y O O λs=>?_;refine ak O (aa (ag ?_))
 refine WL.Gf (ι:=Nat) Y O aC O (λb=>.map (some b)) (λb=>[ao b (ar kI (hX 9) 15)]) (λ_=>True) (λw a=>(RY w).mono λe w' h=>by
     obtain ⟨b,t,u⟩:=h
     exact ⟨b,t,trivial,u⟩) ?_
 intro c _
 refine WL.Gf (ι:=Nat) Y O aC O (λb=>.map (some b)) (λb=>[ao b (ar kI js 7)]) (λ_=>True) (λw a=>(RZ w).mono λe w' h=>by
     obtain ⟨b,t,u⟩:=h
     exact ⟨b,t,trivial,u⟩) ?_
 intro g _;refine I (Yb Se Sd O O) ?_;refine WL.box Y O O λn=>?_;refine cF 0 (.cells #[.int .i64 0,.int .i64 ((c0).f:Int),.int .i64 ((c0).m:Int),.int .i64 0,.int .i64 ((c0).k:Int),.int .i64 0,.int .i64 0,.int .i64 0,.int .i64 0,.int .i64 0,.map (some c),.map (some g)] 224 (0,0)) O O (ak O (aa (ag (ad O (I (Yf qZ O) (I (Yd 3 O O O ab) ?_))))));refine Lb Y O dT O O O O λaZ=>?_;refine bm (T:=9) (m:=1) 0 [m.nm] O O (show 1<=1 by decide) aF λG N=>?_;refine fR [_] _ [ao n (.cells #[.int .i64 0,.int .i64 ((c0+bw [m.nm]).f:Int),.int .i64 ((c0+bw [m.nm]).m:Int),.int .i64 0,.int .i64 ((c0+bw [m.nm]).k:Int),.int .i64 0,.int .i64 0,.int .i64 0,.int .i64 0,.int .i64 0,.map (some c),.map (some g)] 224 (0,0))] Y O aC O O [G] aj (λw a=>u5 n c g G _ _ [m.nm] (c0) w N (by show c0.bL+1<=_; omega) a) (aa (ag (ad O (I (Yf nz O) (I (Yd 3 O O O ab) (fR [_] _ _ Y O aC O O [l] aj (λw a=>u5 n c g l r.a1 r.c1 m.aq (c0+bw [m.nm]) w o.aq ae a) (aa (ag (ad O ?_)))))))));refine I (Yf nz O) (I (Yd 3 O O O ab) (I (Yn dy O) (I (dO O O) ?_)));rw [DM];refine ad O ?_;apply Lo 4 O O O O Y O O O O O
 ·intro a0;refine Vg (Yf u_ O) (Vg (Yd 3 O O O ab) (Vg (Yn ft O) (Vg (dO O O) ?_)));rw [J0];exact Gt 4 O O O
 refine ad O ?_;apply Lo 4 O O O O Y O O O O O
 ·intro a2;refine Vg (Yf tt O) (Vg (Yd 3 O O O ab) (Vg (Yn q0 O) (Vg (dO O O) ?_)));rw [R9];exact Gt 4 O O O
 refine fR [_] _ _ Y O aC O O [] aj (λw a=>u3 n c g (c0+bw [m.nm]+bw m.aq) ((decide (3<m.aq.length)||decide (10<m.decls.length))||decide (6<m.procs.length)) w ae a) (aa (Cs (ag (I (Yf u_ O) (I (Yd 3 O O O ab) (I (Yn ft O) (ad O (aa (Cb ?_)))))))));refine dc (ι:=Nat) (λi=>[(44,.int .i64 (i:Int))]) [(1,_),(2,_),(3,_),(42,_),(43,_)] (λi=>Ws w [] [ao n (.cells #[.int .i64 0,.int .i64 ((c0+bw [m.nm]+bw m.aq+cz ((decide (3<m.aq.length)||decide (10<m.decls.length))||decide (6<m.procs.length))+aE (m.decls.take i)).f:Int),.int .i64 ((c0+bw [m.nm]+bw m.aq+cz ((decide (3<m.aq.length)||decide (10<m.decls.length))||decide (6<m.procs.length))+aE (m.decls.take i)).m:Int),.int .i64 0,.int .i64 ((c0+bw [m.nm]+bw m.aq+cz ((decide (3<m.aq.length)||decide (10<m.decls.length))||decide (6<m.procs.length))+aE (m.decls.take i)).k:Int),.int .i64 0,.int .i64 0,.int .i64 0,.int .i64 0,.int .i64 0,.map (some c),.map (some g)] 224 (0,0)),ao c (ar kI (hX 9) 15),ao g (ar kI js 7),ao s (.cells (a6 m r).toArray 50 (0,0))] [l]) (λi=>i<=m.decls.length) (λi=>m.decls.length-i) 0 (cq _) (λ_ h=>by have h:=h.bu 3 O; have h:=h.bu 2 O; have h:=h.bu 3 O; have h:=h.bu 3 O; have h:=Ws.av h (b3:=[l]) aj; exact h) ?_;intro i hi;refine ag (I (ai O O) (aa (Cs ?_)));refine Cc O (λv=>?_) (λv=>?_)
 ·have q:i<m.decls.length:=by simpa using v
  obtain ⟨d,H⟩:=cg q;obtain ⟨P,Q,R,x⟩:=o.decls.bT i d H;have x:bR l P (Q+i*4) d.cells:=x
  have S:c0+bw [m.nm]+bw m.aq+cz ((decide (3<m.aq.length)||decide (10<m.decls.length))||decide (6<m.procs.length))+aE (m.decls.take i)+bl d=c0+bw [m.nm]+bw m.aq+cz ((decide (3<m.aq.length)||decide (10<m.decls.length))||decide (6<m.procs.length))+aE (m.decls.take (i+1)):=by rw [R6 H,<-bs.hA]
  have a3:=L i
  have a5:(c0+bw [m.nm]+bw m.aq+cz ((decide (3<m.aq.length)||decide (10<m.decls.length))||decide (6<m.procs.length))+aE (m.decls.take i)).bL+4<=4611686018427387904:=by simp only [bs.ek]; omega
  refine bk (Cs (Cb (ag (I (Yo ft O O R ae) (I (dV 0 nA O O O (x)) ?_)))));refine Al Y O p3 λa8=>?_;refine aQ 0 Y O O O dC O O O (aa (Cr (ad O (I (cc 0 O O nA O) (Lf 1 O (fR [_] _ _ Y O aC O O [] aj (λw a=>Oq n c g d (c0+bw [m.nm]+bw m.aq+cz ((decide (3<m.aq.length)||decide (10<m.decls.length))||decide (6<m.procs.length))+aE (m.decls.take i)) w ae a) (Ln (Eb (Et (Cr (I (Yi O O O ae) ?_)))))))))));refine ad O (Ln ?_);rw [S];exact b8 (i+1) ae ae (λ_ h=>by exact (Wt 4 ((((h.f 4 O).f 4 O).f 4 O).f 3 O):))
 have a9:¬i<m.decls.length:=by simpa using v
 rw [kF ae];refine Ce (Ex (Ex (cB (Et (Cs (ag (I (Yf tt O) (I (Yd 3 O O O ab) (I (Yn q0 O) (ad O (aa (Cb ?_))))))))))));refine dc (ι:=Nat) (λj=>[(55,.int .i64 (j:Int))]) [(1,_),(2,_),(3,_),(53,_),(54,_)] (λj=>Ws w [] [ao n (.cells #[.int .i64 0,.int .i64 ((c0+bw [m.nm]+bw m.aq+cz ((decide (3<m.aq.length)||decide (10<m.decls.length))||decide (6<m.procs.length))+aE m.decls+eX (m.procs.take j)).f:Int),.int .i64 ((c0+bw [m.nm]+bw m.aq+cz ((decide (3<m.aq.length)||decide (10<m.decls.length))||decide (6<m.procs.length))+aE m.decls+eX (m.procs.take j)).m:Int),.int .i64 0,.int .i64 ((c0+bw [m.nm]+bw m.aq+cz ((decide (3<m.aq.length)||decide (10<m.decls.length))||decide (6<m.procs.length))+aE m.decls+eX (m.procs.take j)).k:Int),.int .i64 0,.int .i64 0,.int .i64 0,.int .i64 0,.int .i64 0,.map (some c),.map (some g)] 224 (0,0)),ao c (ar kI (hX 9) 15),ao g (ar kI js 7),ao s (.cells (a6 m r).toArray 50 (0,0))] [l]) (λj=>j<=m.procs.length) (λj=>m.procs.length-j) 0 (cq _) an ?_;intro j y;refine ag (I (ai O O) (aa (Cs ?_)));refine Cc O (λz=>?_) (λz=>?_)
 ·have q:j<m.procs.length:=by simpa using z
  obtain ⟨p,A⟩:=cg q;obtain ⟨a',a_,U,V⟩:=o.procs.bT j p A;obtain ⟨W,X,Z,ac,af,ah,al,B,C,am⟩:=V;have ba:=J3 A;have bb:=M j;have bc:=yP (m.procs.take j);have bd:=BW p.nm;have be:=uu p.params;have bf:=uu p.aB;have bg:=uq (decide (3<p.params.length)||decide (4<p.aB.length));have bh:=wx p.params;have bi:=wx p.aB;have bj:=B.cap;have bn:=B.max;have bo:=C.cap;have bp:=C.max
  have ap:c0+bw [m.nm]+bw m.aq+cz ((decide (3<m.aq.length)||decide (10<m.decls.length))||decide (6<m.procs.length))+aE m.decls+eX (m.procs.take j)+bw [p.nm]+bw p.params+bw p.aB+cz (decide (3<p.params.length)||decide (4<p.aB.length))+d_ p.body 1=c0+bw [m.nm]+bw m.aq+cz ((decide (3<m.aq.length)||decide (10<m.decls.length))||decide (6<m.procs.length))+aE m.decls+eX (m.procs.take (j+1)):=by rw [R7 A,nf]; simp only [bs.hA]
  have bq:(c0+bw [m.nm]+bw m.aq+cz ((decide (3<m.aq.length)||decide (10<m.decls.length))||decide (6<m.procs.length))+aE m.decls+eX (m.procs.take j)).bL+16+p.params.length+p.aB.length+8*ef p.body<=1152921504606846976:=by simp only [bs.ek]; omega
  have br:(c0+bw [m.nm]+bw m.aq+cz ((decide (3<m.aq.length)||decide (10<m.decls.length))||decide (6<m.procs.length))+aE m.decls+eX (m.procs.take j)+bw [p.nm]).bL+16+p.params.length+p.aB.length+8*ef p.body<=1152921504606846976:=by simp only [bs.ek]; omega
  have bt:(c0+bw [m.nm]+bw m.aq+cz ((decide (3<m.aq.length)||decide (10<m.decls.length))||decide (6<m.procs.length))+aE m.decls+eX (m.procs.take j)+bw [p.nm]+bw p.params).bL+16+p.params.length+p.aB.length+8*ef p.body<=1152921504606846976:=by simp only [bs.ek]; omega
  have bv:(c0+bw [m.nm]+bw m.aq+cz ((decide (3<m.aq.length)||decide (10<m.decls.length))||decide (6<m.procs.length))+aE m.decls+eX (m.procs.take j)+bw [p.nm]+bw p.params+bw p.aB).bL+16+p.params.length+p.aB.length+8*ef p.body<=1152921504606846976:=by simp only [bs.ek]; omega
  have bx:(c0+bw [m.nm]+bw m.aq+cz ((decide (3<m.aq.length)||decide (10<m.decls.length))||decide (6<m.procs.length))+aE m.decls+eX (m.procs.take j)+bw [p.nm]+bw p.params+bw p.aB+cz (decide (3<p.params.length)||decide (4<p.aB.length))).bL+16+p.params.length+p.aB.length+8*ef p.body<=1152921504606846976:=by simp only [bs.ek]; omega
  refine bk (Cs (Cb (ag (I (Yo q0 O O U ae) (I (dV 0 va O O O (al)) ?_)))));refine Al Y O r_ λbz=>?_;refine aQ 0 Y O O O vb O O O (aa (ag (ad O (I (Yf J6 O) (I (Yd 0 O O O ab) ?_)))));refine Lb Y O dT O O O O λbA=>?_;refine bm (T:=9) (m:=1) 0 [p.nm] O O (show 1<=1 by decide) aF λJ au=>?_;refine Lf 1 O ?_;refine fR [_] _ [ao n (.cells #[.int .i64 0,.int .i64 ((c0+bw [m.nm]+bw m.aq+cz ((decide (3<m.aq.length)||decide (10<m.decls.length))||decide (6<m.procs.length))+aE m.decls+eX (m.procs.take j)+bw [p.nm]).f:Int),.int .i64 ((c0+bw [m.nm]+bw m.aq+cz ((decide (3<m.aq.length)||decide (10<m.decls.length))||decide (6<m.procs.length))+aE m.decls+eX (m.procs.take j)+bw [p.nm]).m:Int),.int .i64 0,.int .i64 ((c0+bw [m.nm]+bw m.aq+cz ((decide (3<m.aq.length)||decide (10<m.decls.length))||decide (6<m.procs.length))+aE m.decls+eX (m.procs.take j)+bw [p.nm]).k:Int),.int .i64 0,.int .i64 0,.int .i64 0,.int .i64 0,.int .i64 0,.map (some c),.map (some g)] 224 (0,0))] Y O aC O O [J] aj (λw a=>u5 n c g J _ _ [p.nm] (c0+bw [m.nm]+bw m.aq+cz ((decide (3<m.aq.length)||decide (10<m.decls.length))||decide (6<m.procs.length))+aE m.decls+eX (m.procs.take j)) w au (by show (c0+bw [m.nm]+bw m.aq+cz ((decide (3<m.aq.length)||decide (10<m.decls.length))||decide (6<m.procs.length))+aE m.decls+eX (m.procs.take j)).bL+1<=_; omega) a) ?_;refine aa (ag (ad O (I (Yf p4 O) (I (Yd 1 O O O ab) (fR [_] _ _ Y O aC O O [l] aj (λw a=>u5 n c g l W X p.params (c0+bw [m.nm]+bw m.aq+cz ((decide (3<m.aq.length)||decide (10<m.decls.length))||decide (6<m.procs.length))+aE m.decls+eX (m.procs.take j)+bw [p.nm]) w B ae a) (aa (ag (ad O (I (Yf jf O) ?_)))))))));refine I (Yd 1 O O O ab) (fR [_] _ _ Y O aC O O [l] aj (λw a=>u5 n c g l Z ac p.aB (c0+bw [m.nm]+bw m.aq+cz ((decide (3<m.aq.length)||decide (10<m.decls.length))||decide (6<m.procs.length))+aE m.decls+eX (m.procs.take j)+bw [p.nm]+bw p.params) w C ae a) (aa (ag (ad O (I (Yf p4 O) (I (Yd 1 O O O ab) (I (Yn dy O) (I (dO O O) ?_))))))));rw [DM];refine ad O ?_;apply Lo 4 O O O O Y O O O O O
  ·intro bB;refine Vg (Yf jf O) (Vg (Yd 1 O O O ab) (Vg (Yn dy O) (Vg (dO O O) ?_)));rw [R8];exact Gt 4 O O O
  refine fR [_] _ _ Y O aC O O [] aj (λw a=>u3 n c g (c0+bw [m.nm]+bw m.aq+cz ((decide (3<m.aq.length)||decide (10<m.decls.length))||decide (6<m.procs.length))+aE m.decls+eX (m.procs.take j)+bw [p.nm]+bw p.params+bw p.aB) (decide (3<p.params.length)||decide (4<p.aB.length)) w ae a) (aa (Cr (ad O (I (Yf DO O) (I (Yd 1 O O O ab) (Lf 3 O (Lf 3 O (Lf 2 O ?_))))))));refine fR [_,_,_] _ _ Y O aC O O [l] aj (λw a=>J1 n c g l ke ks (p.body) af ah 1 (c0+bw [m.nm]+bw m.aq+cz ((decide (3<m.aq.length)||decide (10<m.decls.length))||decide (6<m.procs.length))+aE m.decls+eX (m.procs.take j)+bw [p.nm]+bw p.params+bw p.aB+cz (decide (3<p.params.length)||decide (4<p.aB.length))) w am ae a) (Ln (Eb (Et (Cr (I (Yi O O O ae) (ad O (Ln ?_)))))));rw [ap];exact b8 (j+1) ae ae (λ_ h=>by exact (Wv 1 (Wt 4 ((((h.f 4 O).f 3 O).f 3 O).f 3 O)):))
 have bC:¬j<m.procs.length:=by simpa using z
 rw [kF ae];refine Ce (Ex (Ex (cB (Et (ag (ad O (I (Yf DP O) (I (Yd 3 O O O ab) (fR [_,_,_] _ _ Y O aC O O [l] aj (λw a=>J1 n c g l ke ks (m.main) r.a4 r.c4 1 (c0+bw [m.nm]+bw m.aq+cz ((decide (3<m.aq.length)||decide (10<m.decls.length))||decide (6<m.procs.length))+aE m.decls+eX m.procs) w o.main ae a) (aa (Cs (ag (I (GK Sg Sf O O) ?_)))))))))))));refine ad O (aa (Cb ?_));refine dc (ι:=Nat) (λi=>[(94,.int .i64 (i:Int))]) [(3,_),(93,_)] (λi=>Ws w [] [ao n (.cells #[.int .i64 0,.int .i64 ((c0+bw [m.nm]+bw m.aq+cz ((decide (3<m.aq.length)||decide (10<m.decls.length))||decide (6<m.procs.length))+aE m.decls+eX m.procs+d_ m.main 1).f:Int),.int .i64 ((c0+bw [m.nm]+bw m.aq+cz ((decide (3<m.aq.length)||decide (10<m.decls.length))||decide (6<m.procs.length))+aE m.decls+eX m.procs+d_ m.main 1).m:Int),.int .i64 0,.int .i64 ((c0+bw [m.nm]+bw m.aq+cz ((decide (3<m.aq.length)||decide (10<m.decls.length))||decide (6<m.procs.length))+aE m.decls+eX m.procs+d_ m.main 1).k:Int),.int .i64 0,.int .i64 0,.int .i64 0,.int .i64 0,.int .i64 0,.map (some c),.map (some g)] 224 (0,0)),ao c (ar kI (hX 9) 15),ao g (ar kI js 7),ao s (.cells (a6 m r).toArray 50 (0,0))] [l]) (λi=>i<=3/\∀j,j<i->cE (c0+bw [m.nm]+bw m.aq+cz ((decide (3<m.aq.length)||decide (10<m.decls.length))||decide (6<m.procs.length))+aE m.decls+eX m.procs+d_ m.main 1) j=0) (λi=>3-i) 0 ⟨cq _,aj⟩ an ?_;intro i ⟨hi,D⟩;refine ag (I (ai O O) (aa (Cs ?_)));refine Cc O (λE=>?_) (λE=>?_)
 ·have q:i<3:=by simp at E; omega
  refine bk (Cs (Cb (ag (I (yX (i:=i) Ot O O q (R' q)) (ak O (aa (ag (ad O (ad O (I (cJ O) (I (Yf tp O) ?_)))))))))));refine I (sP (i:=eN i) tq O O (R_ i)) (I (Yd 0 O O (Sa q) ab) (I (dO O O) (aa ?_)));refine Cc O (λF=>?_) (λF=>?_)
  ·have aw:0<cE (c0+bw [m.nm]+bw m.aq+cz ((decide (3<m.aq.length)||decide (10<m.decls.length))||decide (6<m.procs.length))+aE m.decls+eX m.procs+d_ m.main 1) i:=by simpa using F
   refine ag (ad O (ak O (aa (a7 (cG (Er (Er (cG (Er ?_)))))))));refine R1 O O λw' a=>?_;refine ⟨?_,a.fr⟩;rw [Sb q D aw,show c0+bw [m.nm]+bw m.aq+cz ((decide (3<m.aq.length)||decide (10<m.decls.length))||decide (6<m.procs.length))+aE m.decls+eX m.procs+d_ m.main 1=oC m by rw [oC,u7]]
   rfl
  have ax:cE (c0+bw [m.nm]+bw m.aq+cz ((decide (3<m.aq.length)||decide (10<m.decls.length))||decide (6<m.procs.length))+aE m.decls+eX m.procs+d_ m.main 1) i=0:=by simp at F; omega
  refine Ck (Eb (Et (Cr (I (Yi O O O ae) (ad O (Ln ?_))))));exact b8 (i+1) ae ⟨ae,λj y=>by rcases mZ.1 y with h | rfl; exact D j h; exact ax⟩ an
 have bD:¬i<3:=by simp at E; omega
 refine Ce (Ex (Ex (cB (Et (ag (ak O (aa (a7 ?_))))))));refine R1 O O λw' a=>?_;refine ⟨?_,a.fr⟩;rw [gz,show oC m=c0+bw [m.nm]+bw m.aq+cz ((decide (3<m.aq.length)||decide (10<m.decls.length))||decide (6<m.procs.length))+aE m.decls+eX m.procs+d_ m.main 1 by rw [oC,u7],Sc λj y=>D j ae]
theorem J7:zeroOf prog 356=some (.agg #[st [],st [],st [],st [],st [],st [],st [],st [],st []]):=ab
theorem Si:sO prog 356=some (9,1):=ab
theorem Sj:dI prog 356=some 9:=ab
theorem Sk:gP prog 356=some 9:=ab
theorem Ou (w:World) :
   Calls prog 272 #[] w λe w'=>e = .returned (.agg (opsL.map st).toArray)/\Ext w w':=by
 refine enter func272 O 2 O O ?_;refine CE (Vs:=[]) (Ws.init aj) (ag ?_);refine Al Y O J7 λb=>?_;refine aa (ag (I (GK J7 Si O O) (aQ 0 Y O O O Sj O O O (aa (a7 ?_)))));refine WE.eB (hy O (dX 0 O O Sk O)) λw' a=>?_;exact ⟨O,a.fr⟩
abbrev aS (a:Nat) (r:Option Addr×Nat) (l:Tk):List aW:=[ao a (.cells #[.slice r.1 l.length r.2] 96 (0,0))]
def cP:List PanicEntry:=[⟨.iface 100 (.agg #[]),false,false⟩]
def dn:List Tx->Tk->Option Tk
 | [],l=>some l
 | w::ws,l=>(aY w l).bind (dn ws)
theorem eE (w:Tx) (l:Tk):dn [w] l=aY w l:=by unfold dn; cases aY w l<;>rfl
theorem J8 (v w:Tx) (l:Tk):dn [v,w] l=(aY v l).bind (aY w):=by
 unfold dn
 cases aY v l with
 | none=>rfl
 | some q=>exact eE w q
theorem J9:∀{b:List Tx} {l r:Tk},hf l->dn b l=some r->hf r
 | [],l,r,a,h=>by injection h with h; subst h; exact a
 | w::b,l,r,a,h=>by
   obtain ⟨q,c,d⟩:=b'.1 h;exact J9 (Jh a c) d
theorem DR (s:Tx) (t:Tok) (r:Tk):aY s (t::r)=if (t.text==s)=true then some r else none:=rfl
theorem hY {s:Tx} {l q:Tk} (h:aY s l=some q):q.length+1=l.length:=by
 cases l with
 | nil=>cases h
 | cons t r=>
   rw [DR] at h
   split at h
   · injection h with h; subst h; rfl
   · cases h
theorem Ov {w:Tx} {a:List Tx} {l q:Tk} (h:aY w l=some q):dn (w::a) l=dn a q:=by show (aY w l).bind (dn a)=_; rw [h]; rfl
theorem Sn {w:Tx} {a:List Tx} {l:Tk} (h:aY w l=none):dn (w::a) l=none:=by show (aY w l).bind (dn a)=_; rw [h]; rfl
structure dm (l:Tk):Prop where
 all:hf l
 len:l.length<=4096
theorem dD {l r:Tk} {a:List Tx} (h:dm l) (e:bc l a r):dm r:=⟨e.ok,by have:=h.len; rw [e.2,dG] at this; omega⟩
theorem hZ {s:Tx} {l r:Tk} (h:dm l) (e:aY s l=some r):dm r:=⟨Jh h.all e,by have:=hY e; have:=h.len; omega⟩
theorem xg:∀{a:List Tx} {l q:Tk},dn a l=some q->q.length+a.length=l.length
 | [],l,q,h=>by injection h with h; subst h; rfl
 | w::a,l,q,h=>by
   obtain ⟨d,b,c⟩:=b'.1 h;have:=hY b; have:=xg c;simp only [du];omega
theorem h0 {a:List Tx} {l r:Tk} (h:dm l) (e:dn a l=some r):dm r:=⟨J9 h.all e,by have:=xg e; have:=h.len; omega⟩
theorem o4 {l r:Tk} {a:Tx} (h:dm l) (e:eb l=some (a,r)):dm r:=dD h (pW h.all e).1
theorem DS {l r:Tk} {a:Int} (h:dm l) (e:jM l=some (a,r)):dm r:=dD h (Df h.all e)
theorem J' {l r:Tk} {p:Tx×Tx} (h:dm l) (e:jd l=some (p,r)):dm r:=dD h (Dg (mod:=p.1) (nm:=p.2) h.all e)
theorem c_ {l r:Tk} {f:Nat} {x:a8} (h:dm l) (e:cR f l=some (x,r)):dm r:=dD h (uZ f l x r h.all e)
theorem oc {l r:Tk} {f:Nat} {x:a8} (h:dm l) (e:cR f l=some (x,r)):r.length+1<=l.length:=by
 have a:=(uZ f l x r h.all e).2;have b:=IB x;rw [a]
 cases c:fO x with
 | nil=>exact absurd c b
 | cons y t=>simp
theorem So {a:List Tx} {i:Nat} {x:Tx} (h:a[i]? = some x):a.drop i=x::a.drop (i+1):=by
 obtain ⟨hi,e⟩:=cf.1 h;rw [<-e];exact pf hi
theorem od:cx prog 96 0=some 0:=ab
theorem J_:dI prog 91=some 1:=ab
theorem dF:gx prog 100=some []:=ab
theorem dH:zeroOf prog 100=some (.agg #[]):=ab
theorem q5:prog.concrete 100=true:=ab
theorem Sp:yR prog 209 2=some 2:=ab
theorem Sq:yR prog 209 1=some 1:=ab
theorem hq (c:Nat) (d:View) (r:Option Addr×Nat) (l:Tk) (s:Tx) (w:World) (f:Sl b7 3 d r.1 r.2 l) (g:Ws w (List.flatMap aW.ids (aS c r l)) (aS c r l) [d] w) :
   Calls prog 120 #[.pointer (some ⟨c,0,none⟩),st s] w λe w'=>∃i:Bool×(Option Addr×Nat)×Tk,e = .returned (.bool i.1)/\((i.1=true->aY s l=some i.2.2)/\(i.1=false->aY s l=none/\l=i.2.2)/\Sl b7 3 d i.2.1.1 i.2.1.2 i.2.2)/\Ws w (List.flatMap aW.ids (aS c r l)) (aS c i.2.1 i.2.2) [d] w':=by
 have m:=f.cap;have y:=f.max;have j:=f.drop 1;refine enter func120 O 33 O O ?_;refine CE g (ag (ak O (aa (ag (ad O (I (cJ O) (I (Yf od O) (I (Yd 0 O O O ab) ?_))))))));refine I (Yn p1 O) (I (dO O O) (ad O ?_));apply La 9 (x:=((l.head?.map λt=>t.text==s).getD false)) O O O O Y O O O O O
 ·intro n
  obtain ⟨t,a,rfl⟩:∃t a,l=t::a:=by
    cases l with
    | nil=>simp at n
    | cons t a=>exact ⟨t,a,rfl⟩
  obtain ⟨o,p,q,k⟩:=f.bT 0 t rfl;have k:bR d o (p+0*3) t.cells:=k;refine Vg (Ym O) (Vg (cJ O) (Vg (Yf od O) (Vg (Yd 0 O O O ab) (Vg (Yo (i:=0) p1 O O q aj) (Vg (Yf RF O) (Vg (cu 0 ab O O (k 2 _ O)) (Vg (Ym O) ?_)))))));refine Vg (qq O O) ?_;exact Gt 9 O O O
 refine ak O (aa (Cs (ag (ad O (aa ?_)))));refine Cc O (λb=>?_) (λb=>?_)
 ·obtain ⟨t,a,rfl⟩:∃t a,l=t::a:=by
    cases l with
    | nil=>simp at b
    | cons t a=>exact ⟨t,a,rfl⟩
  have u:(t.text==s)=true:=by simpa using b
  have j:=j aj;refine Cr (ad O (ad O (I (cJ O) (I (Yf od O) (I (Yd 0 O O O ab) (I (F7 1 p1 O O O aj m) (I (cJ O) ?_)))))));refine I (Yf od O) (aQ 0 Y O O O J_ O O O (aa (ag (ad O (ak O (aa (a7 ?_)))))));refine R1 O O λw' g=>?_;exact ⟨(true,(if r.2-1=0 then r.1 else r.1.map (·.add (1*3)),r.2-1),a),by rw [b],⟨λ_=>by rw [DR,if_pos u],λh=>(by cases h),j⟩,g⟩
 have v:aY s l=none:=by
   cases l with
   | nil=>rfl
   | cons t a=>rw [DR,if_neg]; intro h; simp [h] at b
 refine bk (ag (ad O (ak O (aa (a7 ?_)))));refine R1 O O λw' g=>?_;exact ⟨(false,r,l),by rw [b],⟨λh=>(by cases h),λ_=>⟨v,O⟩,f⟩,g⟩
theorem h1 (c:Nat) (d:View) (r:Option Addr×Nat) (l:Tk) (i:View) (a:Option Addr) (n:Nat) (b:List Tx) (w:World) (m:Sl rdStr 1 i a n b) (A:Sl b7 3 d r.1 r.2 l) (f:Ws w (List.flatMap aW.ids (aS c r l)) (aS c r l) [d,i] w) :
   Calls prog 118 #[.pointer (some ⟨c,0,none⟩),.slice a b.length n] w λe w'=>(∃(j:Option Addr×Nat) (q:Tk),e = .returned (.tuple #[])/\dn b l=some q/\Sl b7 3 d j.1 j.2 q/\Ws w (List.flatMap aW.ids (aS c r l)) (aS c j q) [d,i] w')\/(∃(j:Option Addr×Nat) (q:Tk),e = .panicked cP/\dn b l=none/\Ws w (List.flatMap aW.ids (aS c r l)) (aS c j q) [d,i] w'):=by
 have K:=m.cap;have L:=m.max;refine enter func118 O 19 O O ?_;refine CE f (ag (ad O (I (Yn dy O) (ad O (aa (Cb ?_))))));refine dc (ι:=Nat×(Option Addr×Nat)×Tk) (λg=>[(8,.int .i64 (g.1:Int))]) [(0,_),(6,_),(7,_)] (λg=>Ws w (List.flatMap aW.ids (aS c r l)) (aS c g.2.1 g.2.2) [d,i]) (λg=>g.1<=b.length/\dn b l=dn (b.drop g.1) g.2.2/\Sl b7 3 d g.2.1.1 g.2.1.2 g.2.2) (λg=>b.length-g.1) (0,r,l) ⟨cq _,O,A⟩ an ?_;intro g ⟨hi,k,t⟩;refine ag (I (ai O O) (aa (Cs ?_)));refine Cc O (λo=>?_) (λo=>?_)
 ·have B:g.1<b.length:=by simpa using o
  obtain ⟨x,u⟩:=cg B;obtain ⟨C,D,M,p⟩:=m.bT g.1 x u;have p:bR i C (D+g.1*1) (c' x):=p;have v:=So u;refine bk (Cs (Cb (ag (I (Yo dy O O vK ae) (I (cu 1 ab O O (p 0 _ O)) (ak O (aa (ag (ad O (ad O ?_))))))))));refine Lw [_] _ Y O aC O O _ _ _ [d] aj (λw f=>hq c d g.2.1 g.2.2 x w t f) ?_;intro ⟨N,y,z⟩ ⟨E,F,G⟩;refine I (e5 O) (aa ?_);refine Cc O (λs=>?_) (λs=>?_)
  ·obtain ⟨H,P⟩:=F (by simpa using s);refine Cr (I (Yb dH dF O O) (I (nO q5 O) ?_));refine WL.panic Y O ?_;refine WE.cm (Ep (Ep (WE.cm ?_)));refine bU λw' f=>?_;exact .inr ⟨y,z,O,by rw [k,v,Sn H],(by have h:=f; exact h)⟩
  have J:=E (by simpa using s);refine Ck (Eb (Et (Cr (I (Yi O O O ae) (ad O (Ln ?_))))));exact b8 ((g.1+1,y,z):Nat×(Option Addr×Nat)×Tk) (by show b.length-(g.1+1)<b.length-g.1; omega) ⟨by show g.1+1<=b.length; omega,by rw [k,v,Ov J],G⟩ an
 have Q:¬g.1<b.length:=by simpa using o
 rw [yc ae] at k;refine Ce (Ex (Ex (cB ?_)));refine E0 O λw' f=>?_;exact .inl ⟨g.2.1,g.2.2,O,by rw [k]; rfl,t,f⟩
theorem Ka (b:Nat) (c:View) (r:Option Addr×Nat) (l:Tk) (k:Int) (w:World) (f:Sl b7 3 c r.1 r.2 l) (g:Ws w (List.flatMap aW.ids (aS b r l)) (aS b r l) [c] w) :
   Calls prog 166 #[.pointer (some ⟨b,0,none⟩),.int .i64 k] w λe w'=>(∃(t:Tok) (j:Option Addr×Nat) (q:Tk),e = .returned (.agg #[.int .i64 t.kind,.int .i64 t.n,st t.text])/\ku k l=some (t,q)/\Sl b7 3 c j.1 j.2 q/\Ws w (List.flatMap aW.ids (aS b r l)) (aS b j q) [c] w')\/(∃(j:Option Addr×Nat) (q:Tk),e = .panicked cP/\ku k l=none/\Ws w (List.flatMap aW.ids (aS b r l)) (aS b j q) [c] w'):=by
 have v:=f.cap;have C:=f.max;have o:=f.drop 1;refine enter func166 O 40 O O ?_;refine CE g (ag ?_);refine Al Y O tn λD=>?_;refine aa (Cs (ag (ad O (I (cJ O) (I (Yf od O) (I (Yd 1 O O O ab) (I (Yn p1 O) (I (bY O O) (ad O ?_)))))))));apply Lo 9 (x:=(!((l.head?.map λt=>t.kind==k).getD false))) O O O O Y O O O O O
 ·intro y
  obtain ⟨t,a,rfl⟩:∃t a,l=t::a:=by
    cases l with
    | nil=>simp at y
    | cons t a=>exact ⟨t,a,rfl⟩
  obtain ⟨p,s,u,d⟩:=f.bT 0 t rfl;have d:bR c p (s+0*3) t.cells:=d;refine Vg (Ym O) (Vg (cJ O) (Vg (Yf od O) (Vg (Yd 1 O O O ab) (Vg (Yo (i:=0) p1 O O u aj) (Vg (Yf JH O) (Vg (cu 0 ab O O (d 0 _ O)) (Vg (Ym O) ?_)))))));refine Vg (fz O O) ?_;exact Gt 9 O O O
 refine aa ?_;refine Cc O (λm=>?_) (λm=>?_)
 ·have z:ku k l=none:=by
    cases l with
    | nil=>rfl
    | cons t a=>
      simp only [ku];rw [if_neg];intro h;simp [h] at m;omega
  refine Cr (I (Yb dH dF O O) (I (nO q5 O) ?_));refine WL.panic Y O ?_;refine Ep ?_;refine bU λw' g=>?_;exact .inr ⟨r,l,O,z,(by have h:=g; have h:=h.bu 1 O; have h:=Wt 1 h; exact h)⟩
 obtain ⟨t,a,rfl⟩:∃t a,l=t::a:=by
   cases l with
   | nil=>simp at m
   | cons t a=>exact ⟨t,a,rfl⟩
 have A:t.kind=k:=by simp at m; exact m.2
 have B:ku k (t::a)=some (t,a):=by simp only [ku]; rw [if_pos A]
 have o:=o aj;obtain ⟨p,s,u,d⟩:=f.bT 0 t rfl;have d:bR c p (s+0*3) t.cells:=d;refine bk (ag (ad O (I (cJ O) (I (Yf od O) (I (Yd 1 O O O ab) (I (Yo (i:=0) p1 O O u aj) (I (dV 0 u1 O O O (d)) ?_)))))));refine Al Y O tn λE=>?_;refine aQ 0 Y O O O xb O O O (aa (ag (ad O (ad O (I (cJ O) (I (Yf od O) (I (Yd 2 O O O ab) (I (F7 1 p1 O O O aj v) ?_))))))));refine I (cJ O) (I (Yf od O) (aQ 2 Y O O O J_ O O O (aa (ag (I (cc 0 O O u1 O) (aQ 1 Y O O O xb O O O (aa (a7 ?_))))))));refine WE.eB (hy O (dX 1 O O u1 O)) λw' g=>?_;exact .inl ⟨t,(if r.2-1=0 then r.1 else r.1.map (·.add (1*3)),r.2-1),a,O,B,o,Wd 2 g⟩
theorem o5 (a:Nat) (d:View) (r:Option Addr×Nat) (l:Tk) (w:World) (v:Sl b7 3 d r.1 r.2 l) (b:Ws w (List.flatMap aW.ids (aS a r l)) (aS a r l) [d] w) :
   Calls prog 119 #[.pointer (some ⟨a,0,none⟩)] w λe w'=>(∃(s:Tx) (c:Option Addr×Nat) (q:Tk),e = .returned (st s)/\eb l=some (s,q)/\Sl b7 3 d c.1 c.2 q/\Ws w (List.flatMap aW.ids (aS a r l)) (aS a c q) [d] w')\/(∃(c:Option Addr×Nat) (q:Tk),e = .panicked cP/\eb l=none/\Ws w (List.flatMap aW.ids (aS a r l)) (aS a c q) [d] w'):=by
 refine enter func119 O 13 O O ?_;refine CE b (ag (ak O (aa (ag (ad O ?_)))))
 refine dk (ι:=Tok×(Option Addr×Nat)×Tk) (κ:=(Option Addr×Nat)×Tk) [_] _ Y O aC O O (λi=>.agg #[.int .i64 i.1.kind,.int .i64 i.1.n,st i.1.text]) (λi=>aS a i.2.1 i.2.2) (λi=>ku 1 l=some (i.1,i.2.2)/\Sl b7 3 d i.2.1.1 i.2.1.2 i.2.2) (λ_=>cP) (λi=>aS a i.1 i.2) (λ_=>ku 1 l=none) ([d]) aj (λw b=>(Ka a d r l 1 w v b).mono λe w' h=>by
     rcases h with ⟨t,c,q,f,g,j,x⟩ | ⟨c,q,f,g,j⟩
     · exact .inl ⟨(t,c,q),f,⟨g,j⟩,x⟩
     · exact .inr ⟨(c,q),f,g,j⟩) ?_ ?_
 ·intro ⟨y,z⟩ A;refine Ep ?_;refine bU λw' b=>?_;exact .inr ⟨y,z,O,by unfold eb; rw [A]; rfl,(by have h:=b; exact h)⟩
 intro ⟨o,p,k⟩ ⟨u,B⟩;refine I (BG Sp O O) (ak O (aa (Cs (ag (ad O (Lp Y O aC O (λw b=>zK _ w) (I (e5 O) (aa ?_))))))));refine Cc O (λm=>?_) (λm=>?_)
 ·have C:eb l=none:=by unfold eb; rw [u]; simp only [bt]; rw [if_neg (by simpa using m)]
  refine Cr (I (Yb dH dF O O) (I (nO q5 O) ?_));refine WL.panic Y O ?_;refine Ep ?_;refine bU λw' b=>?_;exact .inr ⟨p,k,O,C,(by have h:=b; exact h)⟩
 have D:eb l=some (o.text,k):=by unfold eb; rw [u]; simp only [bt]; rw [if_pos (by simpa using m)]
 refine bk (ag (ad O (ak O (aa (a7 ?_)))));refine R1 O O λw' b=>?_;exact .inl ⟨o.text,p,k,O,D,B,b⟩
theorem DT (a:Nat) (c:View) (r:Option Addr×Nat) (l:Tk) (w:World) (k:Sl b7 3 c r.1 r.2 l) (d:Ws w (List.flatMap aW.ids (aS a r l)) (aS a r l) [c] w) :
   Calls prog 168 #[.pointer (some ⟨a,0,none⟩)] w λe w'=>(∃(n:Int) (b:Option Addr×Nat) (q:Tk),e = .returned (.int .i64 n)/\jM l=some (n,q)/\Sl b7 3 c b.1 b.2 q/\Ws w (List.flatMap aW.ids (aS a r l)) (aS a b q) [c] w')\/(∃(b:Option Addr×Nat) (q:Tk),e = .panicked cP/\jM l=none/\Ws w (List.flatMap aW.ids (aS a r l)) (aS a b q) [c] w'):=by
 refine enter func168 O 6 O O ?_;refine CE d (ag (ak O (aa (ag (ad O ?_)))))
 refine dk (ι:=Tok×(Option Addr×Nat)×Tk) (κ:=(Option Addr×Nat)×Tk) [_] _ Y O aC O O (λi=>.agg #[.int .i64 i.1.kind,.int .i64 i.1.n,st i.1.text]) (λi=>aS a i.2.1 i.2.2) (λi=>ku 2 l=some (i.1,i.2.2)/\Sl b7 3 c i.2.1.1 i.2.1.2 i.2.2) (λ_=>cP) (λi=>aS a i.1 i.2) (λ_=>ku 2 l=none) ([c]) aj (λw d=>(Ka a c r l 2 w k d).mono λe w' h=>by
     rcases h with ⟨t,b,q,f,g,j,m⟩ | ⟨b,q,f,g,j⟩
     · exact .inl ⟨(t,b,q),f,⟨g,j⟩,m⟩
     · exact .inr ⟨(b,q),f,g,j⟩) ?_ ?_
 ·intro ⟨o,p⟩ s;refine Ep ?_;refine bU λw' d=>?_;exact .inr ⟨o,p,O,by unfold jM; rw [s]; rfl,(by have h:=d; exact h)⟩
 intro ⟨u,v,x⟩ ⟨y,z⟩;refine I (BG Sq O O) (ak O (aa (a7 ?_)));refine R1 O O λw' d=>?_;exact .inl ⟨u.n,v,x,O,by unfold jM; rw [y]; rfl,z,d⟩
theorem Kb (b:Nat) (c:View) (r:Option Addr×Nat) (l:Tk) (w:World) (D:dm l) (E:Sl b7 3 c r.1 r.2 l) (a:Ws w (List.flatMap aW.ids (aS b r l)) (aS b r l) [c] w) :
   Calls prog 215 #[.pointer (some ⟨b,0,none⟩)] w λe w'=>(∃(p:Tx×Tx) (d:Option Addr×Nat) (q:Tk),e = .returned (.tuple #[st p.1,st p.2])/\jd l=some (p,q)/\Sl b7 3 c d.1 d.2 q/\Ws w (List.flatMap aW.ids (aS b r l)) (aS b d q) [c] w')\/(∃(d:Option Addr×Nat) (q:Tk),e = .panicked cP/\jd l=none/\Ws w (List.flatMap aW.ids (aS b r l)) (aS b d q) [c] w'):=by
 refine enter func215 O 13 O O ?_;refine CE a (ag (ak O (ak O (aa (ag (ad O ?_))))))
 refine dk (ι:=(Tx)×(Option Addr×Nat)×Tk) (κ:=(Option Addr×Nat)×Tk) [_] _ Y O aC O O (λi=>st i.1) (λi=>aS b i.2.1 i.2.2) (λi=>eb l=some (i.1,i.2.2)/\Sl b7 3 c i.2.1.1 i.2.1.2 i.2.2) (λ_=>cP) (λi=>aS b i.1 i.2) (λ_=>eb l=none) ([c]) aj (λw a=>(o5 b c r l w E a).mono λe w' h=>by
     rcases h with ⟨t,d,q,f,g,j,m⟩ | ⟨d,q,f,g,j⟩
     · exact .inl ⟨(t,d,q),f,⟨g,j⟩,m⟩
     · exact .inr ⟨(d,q),f,g,j⟩) ?_ ?_
 ·intro ⟨n,o⟩ s;refine Ep ?_;refine bU λw' a=>?_;exact .inr ⟨n,o,O,by unfold jd; rw [s]; rfl,(by have h:=a; exact h)⟩
 intro ⟨y,F,z⟩ ⟨k,G⟩;have H:=o4 D k;refine ak O (aa (Cs (ag (ad O ?_))));refine Lw [_] _ Y O aC O O _ _ _ [c] aj (λw a=>hq b c F z [46] w G a) ?_;intro ⟨S,A,u⟩ ⟨I,J,B⟩;refine aa ?_;refine Cc O (λv=>?_) (λv=>?_)
 ·have x:=I v;have K:=hZ H x;refine ag (ad O (ad O ?_))
  refine dk (ι:=(Tx)×(Option Addr×Nat)×Tk) (κ:=(Option Addr×Nat)×Tk) [_] _ Y O aC O O (λi=>st i.1) (λi=>aS b i.2.1 i.2.2) (λi=>eb u=some (i.1,i.2.2)/\Sl b7 3 c i.2.1.1 i.2.1.2 i.2.2) (λ_=>cP) (λi=>aS b i.1 i.2) (λ_=>eb u=none) ([c]) aj (λw a=>(o5 b c A u w B a).mono λe w' h=>by
      rcases h with ⟨t,d,q,f,g,j,m⟩ | ⟨d,q,f,g,j⟩
      · exact .inl ⟨(t,d,q),f,⟨g,j⟩,m⟩
      · exact .inr ⟨(d,q),f,g,j⟩) ?_ ?_
  ·intro ⟨n,o⟩ s;refine Ep (Ep ?_);refine bU λw' a=>?_;exact .inr ⟨n,o,O,by unfold jd; rw [k]; simp only [bt]; rw [x]; simp only; rw [s]; rfl,(by have h:=a; exact h)⟩
  intro ⟨L,M,N⟩ ⟨C,P⟩;have T:=o4 K C;refine ak O (ak O (aa (a7 (Er ?_))));refine WE.gZ O O O λw' a=>?_;exact .inl ⟨(y,L),M,N,O,by unfold jd; rw [k]; simp only [bt]; rw [x]; simp only; rw [C]; rfl,P,a⟩
 obtain ⟨Q,R⟩:=J v;subst R;refine bk (ag (ad O (ak O (ak O (aa (a7 ?_))))));refine WE.gZ O O O λw' a=>?_;exact .inl ⟨([],y),A,z,O,by unfold jd; rw [k]; simp only [bt]; rw [Q],B,a⟩
abbrev XE:=a8×Option Addr×Nat
def XE.cells (e:XE):List Value:=sW e.1 e.2.1 e.2.2
theorem XE.ck (e:XE):(XE.cells e).length=5:=rfl
theorem XE.one (e:XE):(XE.cells e).all (·.oneCell')=true:=rfl
def bK (a:View) (b o:Nat) (e:XE):Prop:=bR a b o (XE.cells e)
def hr (J:View) (f:Nat) (es:List XE):Prop:=∀e ∈ es,Sl (a_ f) 5 J e.2.1 e.2.2 e.1.args
theorem hr.nil (J:View) (f:Nat):hr J f []:=by intro e h; simp at h
theorem hr.snoc {J g c:View} {f:Nat} {es:List XE} {e:XE} (h:hr J f es) (i:bF J c) (j:bF g c) (k:Sl (a_ f) 5 g e.2.1 e.2.2 e.1.args):hr c f (es++[e]):=by
 intro x a
 rcases dA.1 a with a | a
 · exact (h x a).imp λb o y d=>uo i (dp _) b o y d
 · rw [az] at a
   subst a;exact k.imp λb o y d=>uo j (dp _) b o y d
theorem kx {d J N:View} {f c:Nat} {a:Option Addr} {es:List XE} (h:Sl bK 5 d a c es) (hv:bF d N) (k:bF J N) (l:hr J f es):Sl (a_ (f+1)) 5 N a c (es.map (·.1)):=by
 refine ⟨by simpa using h.cap,h.max,h.spot,λi x g=>?_⟩;rw [eZ] at g;obtain ⟨e,j,rfl⟩:=dr.1 g;obtain ⟨b,o,m,n⟩:=h.bT i e j;exact ⟨b,o,m,e.2.1,e.2.2,bR.mono hv n,(l e (ax j)).imp λb o y p=>uo k (dp _) b o y p⟩
theorem xh {d N:View} {f c:Nat} {a:Option Addr} {l:List a8} (h:Sl (a_ f) 5 d a c l) (hv:bF d N):Sl (a_ f) 5 N a c l:=h.imp λb o y e=>uo hv (dp _) b o y e
structure GA where
 es:List XE
 a:Option Addr
 c:Nat
 J:View
 r:Option Addr×Nat
 q:Tk
def DU (b:View) (f:Nat):Prop:=∀(a:Nat) (r:Option Addr×Nat) (l:Tk) (d:Nat) (w:World),f+d=7->dm l->Sl b7 3 b r.1 r.2 l->Ws w (List.flatMap aW.ids (aS a r l)) (aS a r l) [b] w->
 Calls prog 214 #[.pointer (some ⟨a,0,none⟩),.int .i64 (d:Int)] w λe w'=>(∃(x:a8) (s:Option Addr×Nat) (c:Option Addr×Nat) (q:Tk),e = .returned (.agg #[.int .i64 (x).op,.int .i64 (x).n,st (x).mod,st (x).nm,.slice s.1 (x).args.length s.2])/\cR f l=some (x,q)/\Sl (a_ f) 5 (nv w w') s.1 s.2 x.args/\Sl b7 3 b c.1 c.2 q/\Ws w (List.flatMap aW.ids (aS a r l)) (aS a c q) [b] w')\/(∃(c:Option Addr×Nat) (q:Tk),e = .panicked cP/\cR f l=none/\Ws w (List.flatMap aW.ids (aS a r l)) (aS a c q) [b] w')
theorem Sr {a:Tk->Option (a8×Tk)} {n:Nat} {l q b:Tk} {x:a8} (c:a l=some (x,q)) (d:aY [41] q=some b):j_ a (n+1) l=some ([x],b):=by rw [j_,c]; simp only [bt]; rw [d]
theorem Ss {a:Tk->Option (a8×Tk)} {n:Nat} {l q b:Tk} {x:a8} (c:a l=some (x,q)) (d:aY [41] q=none) (e:aY [44] q=some b):j_ a (n+1) l=(j_ a n b).map λp=>(x::p.1,p.2):=by rw [j_,c]; simp only [bt]; rw [d]; simp only; rw [e]
theorem St {a:Tk->Option (a8×Tk)} {n:Nat} {l q:Tk} {x:a8} (b:a l=some (x,q)) (c:aY [41] q=none) (d:aY [44] q=none):j_ a (n+1) l=none:=by rw [j_,b]; simp only [bt]; rw [c]; simp only; rw [d]
theorem Su {a:Tk->Option (a8×Tk)} {n:Nat} {l:Tk} (b:a l=none):j_ a (n+1) l=none:=by rw [j_,b]; rfl
theorem Kd:∀(a:List Tx) (i k:Nat) (w:Tx) (l q:Tk),a[i]? = some w->(∀j v,j<i->a[j]? = some v->aY v l=none)->aY w l=some q->mg a k l=some (k+i,q)
 | [],i,k,w,l,q,h,_,_=>by simp at h
 | v::a,0,k,w,l,q,h,_,b=>by
   simp at h; subst h;rw [mg,b]; rfl
 | v::a,i+1,k,w,l,q,h,c,b=>by
   rw [mg,c 0 v ae rfl];simp only;rw [Kd a i (k+1) w l q (by simpa using h) (λj u e d=>c (j+1) u ae (by simpa using d)) b]
   congr 2
   omega
theorem Ke:∀(a:List Tx) (k:Nat) (l:Tk),(∀w ∈ a,aY w l=none)->mg a k l=none
 | [],_,_,_=>rfl
 | w::a,k,l,h=>by
   rw [mg,h w aj];exact Ke a (k+1) l λv hv=>h v (bE _ hv)
theorem Sv {i:Nat} {w:Tx} (h:opsL[i]? = some w):((opsL.map st).toArray)[i]? = some (st w):=by
 rw [Fu,eZ,h]; rfl
theorem ky:gg prog 240 263 (.agg #[.int .i64 0,.int .i64 0,st [],st [],.slice none 0 0]) 5 72:=iN ab
theorem Kf (o:Nat) (b:View) (r:Option Addr×Nat) (l:Tk) (f d:Nat) (w:World) (ax:DU b f) (ay:f+d=7) (E:dm l) (az:Sl b7 3 b r.1 r.2 l) (j:Ws w (List.flatMap aW.ids (aS o r l)) (aS o r l) [b] w) :
   Calls prog 216 #[.pointer (some ⟨o,0,none⟩),.int .i64 (d:Int)] w λe w'=>(∃(xs:List a8) (s:Option Addr×Nat) (t:Option Addr×Nat) (q:Tk),e = .returned (.slice s.1 xs.length s.2)/\jN (cR f) l=some (xs,q)/\Sl (a_ (f+1)) 5 (nv w w') s.1 s.2 xs/\Sl b7 3 b t.1 t.2 q/\Ws w (List.flatMap aW.ids (aS o r l)) (aS o t q) [b] w')\/(∃(t:Option Addr×Nat) (q:Tk),e = .panicked cP/\jN (cR f) l=none/\Ws w (List.flatMap aW.ids (aS o r l)) (aS o t q) [b] w'):=by
 refine enter func216 O 21 O O ?_;refine CE j (ag (ak O (aa (ag (ak O (LW (λ_ h=>h.eM 263 5) ?_))))));refine WL.v0 ?_;refine aa (Cs (ag (ad O (Lf 1 O ?_))));refine Lw [_] _ Y O aC O O _ _ _ [b] aj (λw j=>hq o b r l [41] w az j) ?_;intro ⟨aY,Q,aA⟩ ⟨aB,aD,R⟩;refine aa ?_;refine Cc O (λG=>?_) (λG=>?_)
 ·have S:=aB G;have aZ:=hZ E S;refine ag (ad O (ak O (aa (a7 (Er ?_)))));refine R1 O O λw' j=>?_;exact .inl ⟨[],(none,0),Q,aA,O,by rw [jN,S],Sl.nil,R,Wv 1 (Wt 1 j)⟩
 obtain ⟨aE,aG⟩:=aD G;subst aG;refine bk (Cb ?_);refine dc (ι:=GA) (λg=>[(5,.slice g.a g.es.length g.c)]) [(0,_),(1,_)] (λg=>Ws w (List.flatMap aW.ids (aS o r l)) (aS o g.r g.q++[bS 263 5 XE.cells g.a g.c g.es]) [g.J,b]) (λg=>(g.es.length+g.q.length<=l.length/\dm g.q)/\Sl b7 3 b g.r.1 g.r.2 g.q/\(fj w g.J/\hr g.J f g.es)/\∃n,g.q.length<n/\jN (cR f) l=(j_ (cR f) n g.q).map λp=>(g.es.map (·.1)++p.1,p.2)) (λg=>g.q.length) ⟨[],none,0,v0,Q,l⟩ ⟨⟨aj,E⟩,R,⟨nh w,hr.nil _ _⟩,l.length+1,aj,by rw [jN,aE]; simp⟩ (λ_ h=>by have h:=Ws.av h (b3:=[v0,b]) aj; exact h) ?_;intro g ⟨⟨a0,H⟩,aH,⟨U,V⟩,u⟩;refine Cb (ag (ad O (ad O (ad O ?_))))
 refine iR (ι:=(a8×(Option Addr×Nat))×(Option Addr×Nat)×Tk) (κ:=(Option Addr×Nat)×Tk) [_] _ Y O aC O O (λi=>.agg #[.int .i64 (i.1.1).op,.int .i64 (i.1.1).n,st (i.1.1).mod,st (i.1.1).nm,.slice i.1.2.1 (i.1.1).args.length i.1.2.2]) (λi=>aS o i.2.1 i.2.2) (λaI i=>cR f g.q=some (i.1.1,i.2.2)/\Sl (a_ f) 5 aI i.1.2.1 i.1.2.2 i.1.1.args/\Sl b7 3 b i.2.1.1 i.2.1.2 i.2.2) (λ_=>cP) (λi=>aS o i.1 i.2) (λ_=>cR f g.q=none) ([b]) aj gO (λw j=>(ax o g.r g.q d w ay H aH j).mono λe w' h=>by
     rcases h with ⟨x,s,t,q,y,z,A,I,aJ⟩ | ⟨t,q,y,z,A⟩
     · exact .inl ⟨((x,s),t,q),y,⟨z,A,I⟩,aJ⟩
     · exact .inr ⟨(t,q),y,z,A⟩) ?_ ?_
 ·intro ⟨K,L⟩ M;refine Ep (WE.cm (Ep (WE.cm ?_)));refine bU λw' j=>?_;obtain ⟨n,W,u⟩:=u;obtain ⟨n,rfl⟩:∃k,n=k+1:=⟨n-1,ae⟩;exact .inr ⟨K,L,O,by rw [u,Su M]; rfl,(by have h:=j; have h:=Wt 1 h; have h:=Ws.av h (b3:=[b]) aj; exact h)⟩
 intro a1 ⟨⟨F,v⟩,aK,B⟩ X ⟨C,Z,aL⟩;have ab:dm B:=c_ H C;have a2:B.length+1<=List.length (g.q):=oc H C;refine WL.h6 λac af ah ai=>?_;refine Lb Y O ky O O O O λa3=>?_;refine cF 0 (.cells (XE.cells (F,v.1,v.2)).toArray 263 (0,0)) O O ?_;refine LA ((F,v.1,v.2):XE) 2 0 Y O ky O O O O O O (by have:=E.len; omega) (by have:=E.len; omega) λal am=>?_;refine ak O (aa (Cs (ag (ad O (Lf 1 O ?_)))));refine Lw [_] _ Y O aC O O _ _ _ [b] aj (λw j=>hq o b aK B [41] w aL j) ?_;intro ⟨a4,an,aM⟩ ⟨aN,aO,ap⟩;refine aa ?_;refine Cc O (λN=>?_) (λN=>?_)
 ·have aq:=aN N;have a5:=hZ ab aq;obtain ⟨n,W,u⟩:=u;obtain ⟨n,rfl⟩:∃k,n=k+1:=⟨n-1,ae⟩;refine Cs ?_;refine WC.nj (rd:=bK) 2 O (λk ar=>by simp [aS,ao] at ar; subst ar; simp [eu,aS,ao,b6]) XE.ck cp λa6 aP aQ=>?_;refine Cr (ad O (ak O (aa (a7 (Er (cG (Er (cG ?_))))))));refine R1 O O λw' j=>?_;exact .inl ⟨(g.es++[(F,v.1,v.2)]).map (·.1),(al,am),an,aM,by rw [eo],by rw [u,Sr C aq]; simp,kx aQ (cU j aj aP) (cU j aj (ai _ X U)) (hr.snoc V ah af Z),ap,Wv 2 (Wt 1 j)⟩
 obtain ⟨au,aR⟩:=aO N;subst aR;obtain ⟨n,W,u⟩:=u;obtain ⟨n,rfl⟩:∃k,n=k+1:=⟨n-1,ae⟩;refine bk (Cr (ad O ?_));refine Lb Y O dT O O O O λa9=>?_;refine bm (T:=9) (m:=1) 0 [[44]] O O (show 1<=1 by decide) aF λaw aT=>?_
 refine dk (ι:=(Option Addr×Nat)×Tk) (κ:=(Option Addr×Nat)×Tk) [_] _ Y O aC O O (λ_=>.tuple #[]) (λi=>aS o i.1 i.2) (λi=>dn [[44]] B=some i.2/\Sl b7 3 b i.1.1 i.1.2 i.2) (λ_=>cP) (λi=>aS o i.1 i.2) (λ_=>dn [[44]] B=none) ([b,aw]) aj (λw j=>(h1 o b an B aw _ _ [[44]] w aT ap j).mono λe w' h=>by
     rcases h with ⟨t,q,y,z,A,I⟩ | ⟨t,q,y,z,A⟩
     · exact .inl ⟨(t,q),y,⟨z,A⟩,I⟩
     · exact .inr ⟨(t,q),y,z,A⟩) ?_ ?_
 ·intro ⟨K,L⟩ M;refine WE.cm (Ep (WE.cm ?_));refine bU λw' j=>?_;exact .inr ⟨K,L,O,by rw [u,St C au ((eE _ _).symm.trans M)]; rfl,(by have h:=j; have h:=Wt 1 h; have h:=Ws.av h (b3:=[b]) aj; exact h)⟩
 intro ⟨aU,P⟩ ⟨D,aV⟩;have aX:=h0 ab D;refine Ln (Eb ?_)
 exact b8 (⟨g.es++[(F,v.1,v.2)],al,am,ac,aU,P⟩:GA) (by have:=xg D; simp at this; show P.length<g.q.length; omega) ⟨⟨by have:=xg D; simp at this ⊢; omega,aX⟩,aV,⟨ai _ X U,hr.snoc V ah af Z⟩,n,(show P.length<n by have:=xg D; simp at this; omega),by rw [u,Ss C au ((eE _ _).symm.trans D)]; simp [qm]⟩ (λ_ h=>by
     have h:=h.bu 2 rfl;have h:=h.bu 1 rfl;have h:=Wt 2 h;have h:=Ws.av h (b3:=[ac,b]) aj
     exact h)
theorem Sw {a:Tk->Option (a8×Tk)} {l q:Tk} (h:aY [105,110] l=some q):ka a l=some (a8.mk 2 0 [] [] [],q):=by unfold ka; rw [show r5=[105,110] from rfl,h]
theorem Kg {a:Tk->Option (a8×Tk)} {l q:Tk} (b:aY [105,110] l=none) (h:aY [33] l=some q):ka a l=(a q).map λx=>(a8.mk 6 0 [] [] [x.1],x.2):=by unfold ka; rw [show r5=[105,110] from rfl,b]; simp only; rw [h]
theorem Kh {a:Tk->Option (a8×Tk)} {l q:Tk} (b:aY [105,110] l=none) (c:aY [33] l=none) (h:aY [40] l=some q):ka a l=lj a q:=by unfold ka; rw [show r5=[105,110] from rfl,b]; simp only; rw [c]; simp only; rw [h]
theorem tu {a:Tk->Option (a8×Tk)} {l:Tk} (b:aY [105,110] l=none) (c:aY [33] l=none) (h:aY [40] l=none):ka a l=(jd l).bind λp=>lJ a p.1.1 p.1.2 p.2:=by unfold ka; rw [show r5=[105,110] from rfl,b]; simp only; rw [c]; simp only; rw [h]
theorem DV {a:Tk->Option (a8×Tk)} {mod nm:Tx} {l q:Tk} (h:aY [91] l=some q):lJ a mod nm l=(a q).bind λx=>(aY [93] x.2).map λr=>(a8.mk 4 0 mod nm [x.1],r):=by unfold lJ; rw [h]
theorem Ki {a:Tk->Option (a8×Tk)} {mod nm:Tx} {l q:Tk} (b:aY [91] l=none) (h:aY [40] l=some q):lJ a mod nm l=(jN a q).map λq=>(a8.mk 5 0 mod nm q.1,q.2):=by unfold lJ; rw [b]; simp only; rw [h]
theorem Sx {a:Tk->Option (a8×Tk)} {mod nm:Tx} {l:Tk} (b:aY [91] l=none) (h:aY [40] l=none):lJ a mod nm l=some (a8.mk 3 0 mod nm [],l):=by unfold lJ; rw [b]; simp only; rw [h]
theorem Sy {f d:Nat} {l:Tk} (a:f+d=7) (h:6<d\/l=[]):cR f l=none:=by
 rcases h with h | rfl
 · obtain rfl:f=0:=ae
   rfl
 · cases f<;>rfl
theorem Sz {f:Nat} {t:Tok} {r:Tk} (h:t.kind=2):cR (f+1) (t::r)=some (a8.mk 1 t.n [] [] [],r):=by rw [cR,if_pos h]
theorem SA {f:Nat} {t:Tok} {r:Tk} (h:¬t.kind=2):cR (f+1) (t::r)=ka (cR f) (t::r):=by rw [cR,if_neg h]
theorem Kj {t:Tok} {r:Tk} (h:t.kind=2):jM (t::r)=some (t.n,r):=by simp [jM,ku,h]
theorem SB:yI prog 356=some 9:=ab
theorem mR:gx prog 263=some [(0,1),(1,1),(2,1),(3,1),(4,1)]:=ab
theorem p5:dI prog 240=some 1:=ab
theorem SC (c:Nat) (b:View) (r:Option Addr×Nat) (l:Tk) (f d:Nat) (w:World) (X:DU b f) (Z:f+d=7) (L:dm l) (ap:Sl b7 3 b r.1 r.2 l) (a:Ws w (List.flatMap aW.ids (aS c r l)) (aS c r l) [b] w) :
   Calls prog 252 #[.pointer (some ⟨c,0,none⟩),.int .i64 (d:Int)] w λe w'=>(∃(x:a8) (s:Option Addr×Nat) (p:Option Addr×Nat) (q:Tk),e = .returned (.agg #[.int .i64 (x).op,.int .i64 (x).n,st (x).mod,st (x).nm,.slice s.1 (x).args.length s.2])/\lj (cR f) l=some (x,q)/\Sl (a_ (f+1)) 5 (nv w w') s.1 s.2 x.args/\Sl b7 3 b p.1 p.2 q/\Ws w (List.flatMap aW.ids (aS c r l)) (aS c p q) [b] w')\/(∃(p:Option Addr×Nat) (q:Tk),e = .panicked cP/\lj (cR f) l=none/\Ws w (List.flatMap aW.ids (aS c r l)) (aS c p q) [b] w'):=by
 refine enter func252 O 35 O O ?_;refine CE a (ag ?_);refine Al Y O je λaq=>?_;refine cF 0 (.cells (sW (a8.mk 0 0 [] [] []) none 0).toArray 263 (0,0)) O O (aa (ag (ad O (ad O (Lf 1 O ?_)))))
 refine iR (ι:=(a8×(Option Addr×Nat))×(Option Addr×Nat)×Tk) (κ:=(Option Addr×Nat)×Tk) [_] _ Y O aC O O (λi=>.agg #[.int .i64 (i.1.1).op,.int .i64 (i.1.1).n,st (i.1.1).mod,st (i.1.1).nm,.slice i.1.2.1 (i.1.1).args.length i.1.2.2]) (λi=>aS c i.2.1 i.2.2) (λM i=>cR f l=some (i.1.1,i.2.2)/\Sl (a_ f) 5 M i.1.2.1 i.1.2.2 i.1.1.args/\Sl b7 3 b i.2.1.1 i.2.1.2 i.2.2) (λ_=>cP) (λi=>aS c i.1 i.2) (λ_=>cR f l=none) ([b]) (by simp) (λ_ _ h=>h) (λw a=>(X c r l d w Z L ap a).mono λe w' h=>by
     rcases h with ⟨x,s,p,q,t,u,y,C,N⟩ | ⟨p,q,t,u,y⟩
     · exact .inl ⟨((x,s),p,q),t,⟨u,y,C⟩,N⟩
     · exact .inr ⟨(p,q),t,u,y⟩) ?_ ?_
 ·intro ⟨D,E⟩ F;refine Ep ?_;refine bU λw' a=>?_;exact .inr ⟨D,E,O,by rw [lj,F]; rfl,(by have h:=a; have h:=Wt 1 h; exact h)⟩
 intro ar ⟨⟨P,H⟩,au,z⟩ aw ⟨A,ax,ay⟩;have az:dm z:=c_ L A;have a2:z.length+1<=List.length (l):=oc L A;refine Al Y O je λaA=>?_;refine aQ 0 Y O O O mh O O O (aa (Cs (ag (Lp Y O aC O (λw a=>Ou w) (ad O (aa (Cb ?_)))))));refine dc (ι:=Nat×(Option Addr×Nat)) (λg=>[(13,.int .i64 (g.1:Int))]) [(0,_),(1,_),(4,_),(5,_),(12,_)] (λg=>Ws w (List.flatMap aW.ids (aS c r l)) (aS c g.2 z++[ao aA (.cells (XE.cells (P,H.1,H.2)).toArray 263 (0,0)),ao aq (.cells (sW (a8.mk 0 0 [] [] []) none 0).toArray 263 (0,0))]) [ar,b]) (λg=>g.1<=9/\(∀j v,j<g.1->opsL[j]? = some v->aY v z=none)/\Sl b7 3 b g.2.1 g.2.2 z) (λg=>9-g.1) (0,au) ⟨cq _,by simp,ay⟩ (λ_ h=>(((h.f 2 O).f 1 O).f 2 O:)) ?_;intro g ⟨hi,Q,aB⟩;refine ag (I (ai O O) (aa (Cs ?_)));refine Cc O (λR=>?_) (λR=>?_)
 ·have ab:g.1<9:=by simp at R; omega
  obtain ⟨o,S⟩:∃o,opsL[g.1]? = some o:=⟨_,dL (by show g.1<9; exact ab)⟩;refine bk (Cs (Cb (ag (ad O (I (yX (i:=g.1) SB O O ab (Sv S)) (ak O (ak O (aa (ag (ad O (ad O ?_)))))))))));refine Lw [_] _ Y O aC O O _ _ _ [b] (by simp) (λw a=>hq c b g.2 z o w aB a) ?_;intro ⟨a3,ac,B⟩ ⟨aD,aE,ae⟩;refine aa ?_;refine Cc O (λU=>?_) (λU=>?_)
  ·have af:=aD U;have V:=hZ az af
   have W:mg opsL 0 z=some (g.1,B):=by rw [Kd opsL g.1 0 o z B S Q af,cj]
   refine ag (ad O (ad O ?_))
   refine iR (ι:=(a8×(Option Addr×Nat))×(Option Addr×Nat)×Tk) (κ:=(Option Addr×Nat)×Tk) [_] _ Y O aC O O (λi=>.agg #[.int .i64 (i.1.1).op,.int .i64 (i.1.1).n,st (i.1.1).mod,st (i.1.1).nm,.slice i.1.2.1 (i.1.1).args.length i.1.2.2]) (λi=>aS c i.2.1 i.2.2) (λM i=>cR f B=some (i.1.1,i.2.2)/\Sl (a_ f) 5 M i.1.2.1 i.1.2.2 i.1.1.args/\Sl b7 3 b i.2.1.1 i.2.1.2 i.2.2) (λ_=>cP) (λi=>aS c i.1 i.2) (λ_=>cR f B=none) ([b]) (by simp) (λ_ _ h=>h) (λw a=>(X c ac B d w Z V ae a).mono λe w' h=>by
       rcases h with ⟨x,s,p,q,t,u,y,C,N⟩ | ⟨p,q,t,u,y⟩
       · exact .inl ⟨((x,s),p,q),t,⟨u,y,C⟩,N⟩
       · exact .inr ⟨(p,q),t,u,y⟩) ?_ ?_
   ·intro ⟨D,E⟩ F;refine Ep (WE.cm (Ep (Ep (WE.cm (Ep ?_)))));refine bU λw' a=>?_;exact .inr ⟨D,E,O,by rw [lj,A]; simp only [bt]; rw [W]; simp only [bt]; rw [F]; rfl,(by have h:=a; have h:=Wt 1 h; have h:=Ws.av h (b3:=[b]) (by simp); exact h)⟩
   intro a4 ⟨⟨ah,aj⟩,aF,G⟩ aG ⟨J,aH,aI⟩;have aJ:dm G:=c_ V J;have a5:G.length+1<=List.length (B):=oc V J;refine WL.h6 λaK aL aM aN=>?_;refine Al Y O je λa6=>?_;refine aQ 0 Y O O O mh O O O (aa (ag (ad O ?_)));refine Lb Y O dT O O O O λa9=>?_;refine bm (T:=9) (m:=1) 0 [[41]] O O (show 1<=1 by decide) (by decide) λal aO=>?_;refine Lf 1 O ?_
   refine dk (ι:=(Option Addr×Nat)×Tk) (κ:=(Option Addr×Nat)×Tk) [_] _ Y O aC O O (λ_=>.tuple #[]) (λi=>aS c i.1 i.2) (λi=>dn [[41]] G=some i.2/\Sl b7 3 b i.1.1 i.1.2 i.2) (λ_=>cP) (λi=>aS c i.1 i.2) (λ_=>dn [[41]] G=none) ([b,al]) (by simp) (λw a=>(h1 c b aF G al _ _ [[41]] w aO aI a).mono λe w' h=>by
       rcases h with ⟨p,q,t,u,y,C⟩ | ⟨p,q,t,u,y⟩
       · exact .inl ⟨(p,q),t,⟨u,y⟩,C⟩
       · exact .inr ⟨(p,q),t,u,y⟩) ?_ ?_
   ·intro ⟨D,E⟩ F;refine Ep (WE.cm (Ep (Ep (WE.cm (Ep ?_)))));refine bU λw' a=>?_;exact .inr ⟨D,E,O,by rw [lj,A]; simp only [bt]; rw [W]; simp only [bt]; rw [J]; simp only [bt]; rw [<-eE,F]; rfl,(by have h:=a; have h:=Wt 1 h; have h:=Ws.av h (b3:=[b]) (by simp); exact h)⟩
   intro ⟨aP,aR⟩ ⟨am,aT⟩;have a':=h0 aJ am;refine aa (ag (ad O (I (yu ((7:Int)+(g.1:Int)) O O O (by omega)) (I (cc 2 O O kb O) (I (cc 1 O O kb O) ?_)))));refine Lb Y O ky O O O O λaU=>?_;refine LN (rd:=bK) (f:=XE.cells) (m:=2) 0 [(P,H.1,H.2),(ah,aj.1,aj.2)] O O (λk an=>by simp [aS,ao] at an; subst an; simp [eu,aS,ao,b6]) XE.ck (λ_ _ _ _ h=>h) (show 2<=2 by decide) (by decide) λba aV aX=>?_;refine I (Yb je mR O O) (aQ 3 Y O O O mh O O O (aa (a7 (cG (Er (Er (cG (Er ?_))))))));refine WE.eB (hy O (dX 3 O O kb O)) λw' a=>?_;exact .inl ⟨a8.mk (7+(g.1:Int)) 0 [] [] [P,ah],(some ⟨aU,0,none⟩,2),aP,aR,O,by rw [lj,A]; simp only [bt]; rw [W]; simp only [bt]; rw [J]; simp only [bt]; rw [<-eE,am]; rfl,kx aX (cU a (by simp) aV) (cU a (by simp) (aN _ aG aw)) (((hr.nil aK f).snoc (bF.refl _) aM ax).snoc (bF.refl _) aL aH),aT,Wv 3 (Wt 1 a)⟩
  obtain ⟨aZ,a0⟩:=aE U;subst a0;refine Ck (Eb (Et (Cr (I (Yi O O O (by omega)) (ad O (Ln ?_))))))
  exact b8 ((g.1+1,ac):Nat×(Option Addr×Nat)) (by show 9-(g.1+1)<9-g.1; omega) ⟨by show g.1+1<=9; omega,λj v K hv=>by
      rcases mZ.1 K with h | rfl
      · exact Q j v h hv
      · rw [S] at hv; injection hv with hv; subst hv; exact aZ,ae⟩ (λ_ h=>h)
 have bb:¬g.1<9:=by simp at R; omega
 have a1:mg opsL 0 z=none:=Ke _ _ _ λv hv=>by
   obtain ⟨j,K⟩:=jA hv;exact Q j v (by have:=(cf.1 K).1; have:opsL.length=9:=rfl; omega) K
 refine Ce (Ex (Ex (cB (Et (Cr (I (Yb dH dF O O) (I (nO q5 O) ?_)))))));refine WL.panic Y O ?_;refine bU λw' a=>?_;exact .inr ⟨g.2,z,O,by rw [lj,A]; simp only [bt]; rw [a1]; rfl,(by have h:=a; have h:=Wt 1 h; have h:=Ws.av h (b3:=[b]) (by simp); exact h)⟩
theorem sa (b:View) (f:Nat) (c:Nat) (r:Option Addr×Nat) (l:Tk) (d:Nat) (w:World) (aZ:f+d=7) (M:dm l) (P:Sl b7 3 b r.1 r.2 l) (a:Ws w (List.flatMap aW.ids (aS c r l)) (aS c r l) [b] w) :
   Calls prog 214 #[.pointer (some ⟨c,0,none⟩),.int .i64 (d:Int)] w λe w'=>(∃(x:a8) (s:Option Addr×Nat) (g:Option Addr×Nat) (q:Tk),e = .returned (.agg #[.int .i64 (x).op,.int .i64 (x).n,st (x).mod,st (x).nm,.slice s.1 (x).args.length s.2])/\cR f l=some (x,q)/\Sl (a_ f) 5 (nv w w') s.1 s.2 x.args/\Sl b7 3 b g.1 g.2 q/\Ws w (List.flatMap aW.ids (aS c r l)) (aS c g q) [b] w')\/(∃(g:Option Addr×Nat) (q:Tk),e = .panicked cP/\cR f l=none/\Ws w (List.flatMap aW.ids (aS c r l)) (aS c g q) [b] w'):=by
 induction f using Nat.strongRecOn generalizing c r l d w
 rename_i f a0;have ci:=P.cap;have cj:=P.max;refine enter func214 O 83 O O ?_;refine CE a (ag ?_);refine Al Y O je λcl=>?_;refine cF 0 (.cells (sW (a8.mk 0 0 [] [] []) none 0).toArray 263 (0,0)) O O (aa (Cs (ag (ad O (I (dO O O) (ad O ?_))))));apply Lo 6 O O O O Y O O O O O
 ·intro cn;refine Vg (Ym O) (Vg (cJ O) (Vg (Yf od O) (Vg (Yd 1 O O O ab) (Vg (Yn p1 O) (Vg (bY O O) ?_)))));exact Gt 6 O O O
 refine aa ?_;refine Cc O (λQ=>?_) (λQ=>?_)
 ·have a1:cR f l=none:=Sy aZ (by
    simp at Q
    rcases Q with h | h
    · left; omega
    · right; exact h)
  refine Cr (I (Yb dH dF O O) (I (nO q5 O) ?_));refine WL.panic Y O ?_;refine Ep ?_;refine bU λw' a=>?_;exact .inr ⟨r,l,O,a1,(by have h:=a; have h:=h.bu 1 O; have h:=Wt 1 h; exact h)⟩
 have co:¬6<d:=by
   intro h
   have j:(6:Int)<(d:Int):=ae
   simp [j] at Q
 obtain ⟨f,rfl⟩:∃k,f=k+1:=⟨f-1,ae⟩
 obtain ⟨v,C,rfl⟩:∃t r,l=t::r:=by
   cases l with
   | nil=>simp at Q
   | cons t r=>exact ⟨t,r,rfl⟩
 obtain ⟨a2,a3,a4,Z⟩:=P.bT 0 v rfl;have Z:bR b a2 (a3+0*3) v.cells:=Z;have S:DU b f:=λc r l d w o j p u=>a0 f ae c r l d w o j p u;refine bk (Cs (Cb (ag (ad O (I (cJ O) (I (Yf od O) (I (Yd 1 O O O ab) (I (Yo (i:=0) p1 O O a4 aj) (I (Yf JH O) (I (cu 0 ab O O (Z 0 _ O)) ?_))))))))));refine I (bY O O) (ak O (aa ?_));refine Cc O (λac=>?_) (λac=>?_)
 ·have D:v.kind=2:=by simpa using ac
  refine ag (ad O (Lf 1 O ?_))
  refine dk (ι:=(Int)×(Option Addr×Nat)×Tk) (κ:=(Option Addr×Nat)×Tk) [_] _ Y O aC O O (λi=>.int .i64 i.1) (λi=>aS c i.2.1 i.2.2) (λi=>jM (v::C)=some (i.1,i.2.2)/\Sl b7 3 b i.2.1.1 i.2.1.2 i.2.2) (λ_=>cP) (λi=>aS c i.1 i.2) (λ_=>jM (v::C)=none) ([b]) aj (λw a=>(DT c b r (v::C) w P a).mono λe w' h=>by
      rcases h with ⟨t,g,q,o,j,p,u⟩ | ⟨g,q,o,j,p⟩
      · exact .inl ⟨(t,g,q),o,⟨j,p⟩,u⟩
      · exact .inr ⟨(g,q),o,j,p⟩) ?_ ?_
  ·intro ⟨z,A⟩ y;refine Ep (WE.cm (Ep ?_));refine bU λw' a=>?_;rw [Kj D] at y;cases y
  intro ⟨cq,a5,cr⟩ ⟨G,a6⟩;have cs:=DS M G;refine I (Yb je mR O O) ?_;rw [Kj D] at G
  injection G with G
  injection G with a9 G
  subst a9;subst G;refine aQ 1 Y O O O mh O O O (aa (a7 (cG (Er ?_))));refine WE.eB (hy O (dX 1 O O kb O)) λw' a=>?_;exact .inl ⟨a8.mk 1 v.n [] [] [],(none,0),a5,C,O,Sz D,Sl.nil,a6,Wt 1 a⟩
 have D:¬v.kind=2:=by simpa using ac
 have B:=SA (f:=f) (r:=C) D;refine ag (ad O (Lf 1 O ?_));refine Lw [_] _ Y O aC O O _ _ _ [b] aj (λw a=>hq c b r (v::C) [105,110] w P a) ?_;intro ⟨ct,aD,a'⟩ ⟨ba,bb,aE⟩;refine ak O (aa ?_);refine Cc O (λaf=>?_) (λaf=>?_)
 ·have aG:=ba af;have cv:=hZ M aG;refine ag (I (Yb je mR O O) (aQ 1 Y O O O mh O O O (aa (a7 (cG (Er ?_))))));refine WE.eB (hy O (dX 1 O O kb O)) λw' a=>?_;exact .inl ⟨a8.mk 2 0 [] [] [],(none,0),aD,a',O,by rw [B,Sw aG],Sl.nil,aE,Wt 1 a⟩
 obtain ⟨E,bc⟩:=bb af;subst bc;refine ag (ad O ?_);refine Lw [_] _ Y O aC O O _ _ _ [b] aj (λw a=>hq c b aD (v::C) [33] w aE a) ?_;intro ⟨cw,aH,U⟩ ⟨bd,be,aI⟩;refine ak O (aa ?_);refine Cc O (λah=>?_) (λah=>?_)
 ·have ai:=bd ah;have al:=hZ M ai;refine ag (ad O (ad O (I (Yi O O O ae) ?_)))
  refine iR (ι:=(a8×(Option Addr×Nat))×(Option Addr×Nat)×Tk) (κ:=(Option Addr×Nat)×Tk) [_] _ Y O aC O O (λi=>.agg #[.int .i64 (i.1.1).op,.int .i64 (i.1.1).n,st (i.1.1).mod,st (i.1.1).nm,.slice i.1.2.1 (i.1.1).args.length i.1.2.2]) (λi=>aS c i.2.1 i.2.2) (λH i=>cR f U=some (i.1.1,i.2.2)/\Sl (a_ f) 5 H i.1.2.1 i.1.2.2 i.1.1.args/\Sl b7 3 b i.2.1.1 i.2.1.2 i.2.2) (λ_=>cP) (λi=>aS c i.1 i.2) (λ_=>cR f U=none) ([b]) aj gO (λw a=>(S c aH U (d+1) w ae al aI a).mono λe w' h=>by
      rcases h with ⟨x,s,g,q,o,j,p,u,J⟩ | ⟨g,q,o,j,p⟩
      · exact .inl ⟨((x,s),g,q),o,⟨j,p,u⟩,J⟩
      · exact .inr ⟨(g,q),o,j,p⟩) ?_ ?_
  ·intro ⟨z,A⟩ y;refine Ep (WE.cm (Ep ?_));refine bU λw' a=>?_;exact .inr ⟨z,A,O,by rw [B,Kg E ai,y]; rfl,(by have h:=a; have h:=Wt 1 h; exact h)⟩
  intro bf ⟨⟨aJ,aK⟩,bg,am⟩ bh ⟨an,bi,bj⟩;have cx:dm am:=c_ al an;have cy:am.length+1<=List.length (U):=oc al an;refine Lb Y O ky O O O O λbl=>?_;refine LN (rd:=bK) (f:=XE.cells) (m:=1) 0 [(aJ,aK.1,aK.2)] O O (λk D=>by simp [aS,ao] at D; subst D; simp [eu,aS,ao,b6]) XE.ck cp (show 1<=1 by decide) aF λcz bn bo=>?_;refine I (Yb je mR O O) (aQ 1 Y O O O mh O O O (aa (a7 (cG (Er ?_)))));refine WE.eB (hy O (dX 1 O O kb O)) λw' a=>?_;exact .inl ⟨a8.mk 6 0 [] [] [aJ],(some ⟨bl,0,none⟩,1),bg,am,O,by rw [B,Kg E ai,an]; rfl,kx bo (cU a aj bn) (cU a aj bh) ((hr.nil bf f).snoc (bF.refl _) (bF.refl _) bi),bj,Wv 2 (Wt 1 a)⟩
 obtain ⟨F,bp⟩:=be ah;subst bp;refine ag (ad O ?_);refine Lw [_] _ Y O aC O O _ _ _ [b] aj (λw a=>hq c b aH (v::C) [40] w aI a) ?_;intro ⟨cA,aL,ap⟩ ⟨bq,br,aM⟩;refine ak O (aa ?_);refine Cc O (λaq=>?_) (λaq=>?_)
 ·have ar:=bq aq;have bs:=hZ M ar;refine ag (ad O (ad O (I (Yi O O O ae) ?_)))
  refine iR (ι:=((a8)×(Option Addr×Nat))×(Option Addr×Nat)×Tk) (κ:=(Option Addr×Nat)×Tk) [_] _ Y O aC O O (λi=>.agg #[.int .i64 (i.1.1).op,.int .i64 (i.1.1).n,st (i.1.1).mod,st (i.1.1).nm,.slice i.1.2.1 (i.1.1).args.length i.1.2.2]) (λi=>aS c i.2.1 i.2.2) (λH i=>lj (cR f) ap=some (i.1.1,i.2.2)/\Sl (a_ (f+1)) 5 H i.1.2.1 i.1.2.2 i.1.1.args/\Sl b7 3 b i.2.1.1 i.2.1.2 i.2.2) (λ_=>cP) (λi=>aS c i.1 i.2) (λ_=>lj (cR f) ap=none) ([b]) aj gO (λw a=>(SC c b aL ap f (d+1) w S ae bs aM a).mono λe w' h=>by
      rcases h with ⟨x,s,g,q,o,j,p,u,J⟩ | ⟨g,q,o,j,p⟩
      · exact .inl ⟨((x,s),g,q),o,⟨j,p,u⟩,J⟩
      · exact .inr ⟨(g,q),o,j,p⟩) ?_ ?_
  ·intro ⟨z,A⟩ y;refine Ep (WE.cm (Ep ?_));refine bU λw' a=>?_;exact .inr ⟨z,A,O,by rw [B,Kh E F ar,y],(by have h:=a; have h:=Wt 1 h; exact h)⟩
  intro cB ⟨⟨bv,bw⟩,bx,bz⟩ bA ⟨bB,bC,bD⟩;refine aQ 1 Y O O O mh O O O (aa (a7 (cG (Er ?_))));refine WE.eB (hy O (dX 1 O O kb O)) λw' a=>?_;exact .inl ⟨bv,bw,bx,bz,O,by rw [B,Kh E F ar,bB],xh bC (cU a aj bA),bD,Wv 1 (Wt 1 a)⟩
 obtain ⟨K,bE⟩:=br aq;subst bE;refine Ck (Eb (Et (ag (ad O ?_))))
 refine dk (ι:=(Tx×Tx)×(Option Addr×Nat)×Tk) (κ:=(Option Addr×Nat)×Tk) [_] _ Y O aC O O (λi=>.tuple #[st i.1.1,st i.1.2]) (λi=>aS c i.2.1 i.2.2) (λi=>jd (v::C)=some (i.1,i.2.2)/\Sl b7 3 b i.2.1.1 i.2.1.2 i.2.2) (λ_=>cP) (λi=>aS c i.1 i.2) (λ_=>jd (v::C)=none) ([b]) aj (λw a=>(Kb c b aL (v::C) w M aM a).mono λe w' h=>by
     rcases h with ⟨t,g,q,o,j,p,u⟩ | ⟨g,q,o,j,p⟩
     · exact .inl ⟨(t,g,q),o,⟨j,p⟩,u⟩
     · exact .inr ⟨(g,q),o,j,p⟩) ?_ ?_
 ·intro ⟨z,A⟩ y;refine Ep ?_;refine bU λw' a=>?_;exact .inr ⟨z,A,O,by rw [B,tu E F K,y]; rfl,(by have h:=a; have h:=Wt 1 h; exact h)⟩
 intro ⟨N,bG,au⟩ ⟨L,bH⟩;have aN:=J' M L;refine ad O (I (Yx O O) (I (Yx O O) (ak O (ak O (aa (ag (ad O (ad O ?_))))))));refine I (Yb je mR O O) ?_;refine Al Y O je λcC=>?_;refine aQ 0 Y O O O mh O O O (aa (Cs (Cb (ag (ad O (Lf 1 O ?_))))));refine Lw [_] _ Y O aC O O _ _ _ [b] aj (λw a=>hq c b bG au [91] w bH a) ?_;intro ⟨cD,aO,V⟩ ⟨bI,bJ,aP⟩;refine ak O (aa ?_);refine Cc O (λaw=>?_) (λaw=>?_)
 ·have W:=bI aw;have ax:=hZ aN W;refine ag (ad O (ad O (I (Yi O O O ae) ?_)))
  refine iR (ι:=(a8×(Option Addr×Nat))×(Option Addr×Nat)×Tk) (κ:=(Option Addr×Nat)×Tk) [_] _ Y O aC O O (λi=>.agg #[.int .i64 (i.1.1).op,.int .i64 (i.1.1).n,st (i.1.1).mod,st (i.1.1).nm,.slice i.1.2.1 (i.1.1).args.length i.1.2.2]) (λi=>aS c i.2.1 i.2.2) (λH i=>cR f V=some (i.1.1,i.2.2)/\Sl (a_ f) 5 H i.1.2.1 i.1.2.2 i.1.1.args/\Sl b7 3 b i.2.1.1 i.2.1.2 i.2.2) (λ_=>cP) (λi=>aS c i.1 i.2) (λ_=>cR f V=none) ([b]) aj gO (λw a=>(S c aO V (d+1) w ae ax aP a).mono λe w' h=>by
      rcases h with ⟨x,s,g,q,o,j,p,u,J⟩ | ⟨g,q,o,j,p⟩
      · exact .inl ⟨((x,s),g,q),o,⟨j,p,u⟩,J⟩
      · exact .inr ⟨(g,q),o,j,p⟩) ?_ ?_
  ·intro ⟨z,A⟩ y;refine Ep (WE.cm (Ep ?_));refine bU λw' a=>?_;exact .inr ⟨z,A,O,by rw [B,tu E F K,L]; simp only [bt]; rw [DV W,y]; rfl,(by have h:=a; have h:=Wt 1 h; exact h)⟩
  intro bL ⟨⟨aR,aT⟩,bM,R⟩ bN ⟨X,bO,bP⟩;have bQ:dm R:=c_ ax X;have cE:R.length+1<=List.length (V):=oc ax X;refine Lb Y O ky O O O O λbS=>?_;refine LN (rd:=bK) (f:=XE.cells) (m:=1) 0 [(aR,aT.1,aT.2)] O O (λk D=>by simp [aS,ao] at D; subst D; simp [eu,aS,ao,b6]) XE.ck cp (show 1<=1 by decide) aF λcH bV bW=>?_;refine I (Yf tr O) (aQ 1 Y O O O dZ O O O (I (Yf u6 O) (aQ 1 Y O O O p5 O O O (aa (Cr (ad O ?_))))));refine Lb Y O dT O O O O λcI=>?_;refine bm (T:=9) (m:=1) 0 [[93]] O O (show 1<=1 by decide) aF λaU bX=>?_
  refine dk (ι:=(Option Addr×Nat)×Tk) (κ:=(Option Addr×Nat)×Tk) [_] _ Y O aC O O (λ_=>.tuple #[]) (λi=>aS c i.1 i.2) (λi=>dn [[93]] R=some i.2/\Sl b7 3 b i.1.1 i.1.2 i.2) (λ_=>cP) (λi=>aS c i.1 i.2) (λ_=>dn [[93]] R=none) ([b,aU]) aj (λw a=>(h1 c b bM R aU _ _ [[93]] w bX bP a).mono λe w' h=>by
      rcases h with ⟨g,q,o,j,p,u⟩ | ⟨g,q,o,j,p⟩
      · exact .inl ⟨(g,q),o,⟨j,p⟩,u⟩
      · exact .inr ⟨(g,q),o,j,p⟩) ?_ ?_
  ·intro ⟨z,A⟩ y;refine WE.cm (Ep ?_);refine bU λw' a=>?_;exact .inr ⟨z,A,O,by rw [B,tu E F K,L]; simp only [bt]; rw [DV W,X]; simp only [bt]; rw [<-eE,y]; rfl,(by have h:=a; have h:=Wt 1 h; have h:=Ws.av h (b3:=[b]) aj; exact h)⟩
  intro ⟨bZ,b0⟩ ⟨aV,b1⟩;have cK:=h0 bQ aV;refine Ln (Eb (Et (ag (I (cc 1 O O kb O) (aQ 2 Y O O O mh O O O (aa (a7 ?_)))))));refine WE.eB (hy O (dX 2 O O kb O)) λw' a=>?_;exact .inl ⟨a8.mk 4 0 N.1 N.2 [aR],(some ⟨bS,0,none⟩,1),bZ,b0,O,by rw [B,tu E F K,L]; simp only [bt]; rw [DV W,X]; simp only [bt]; rw [<-eE,aV]; rfl,kx bW (cU a aj bV) (cU a aj bN) ((hr.nil bL f).snoc (bF.refl _) (bF.refl _) bO),b1,Wv 3 (Wt 1 a)⟩
 obtain ⟨ay,b2⟩:=bJ aw;subst b2;refine ag (ad O ?_);refine Lw [_] _ Y O aC O O _ _ _ [b] aj (λw a=>hq c b aO au [40] w aP a) ?_;intro ⟨cL,aX,az⟩ ⟨b4,b5,aY⟩;refine ak O (aa ?_);refine Cc O (λaA=>?_) (λaA=>?_)
 ·have aB:=b4 aA;have b8:=hZ aN aB;refine Cr (ad O (ad O (I (Yi O O O ae) ?_)))
  refine iR (ι:=((List a8)×(Option Addr×Nat))×(Option Addr×Nat)×Tk) (κ:=(Option Addr×Nat)×Tk) [_] _ Y O aC O O (λi=>.slice i.1.2.1 i.1.1.length i.1.2.2) (λi=>aS c i.2.1 i.2.2) (λH i=>jN (cR f) az=some (i.1.1,i.2.2)/\Sl (a_ (f+1)) 5 H i.1.2.1 i.1.2.2 i.1.1/\Sl b7 3 b i.2.1.1 i.2.1.2 i.2.2) (λ_=>cP) (λi=>aS c i.1 i.2) (λ_=>jN (cR f) az=none) ([b]) aj gO (λw a=>(Kf c b aX az f (d+1) w S ae b8 aY a).mono λe w' h=>by
      rcases h with ⟨x,s,g,q,o,j,p,u,J⟩ | ⟨g,q,o,j,p⟩
      · exact .inl ⟨((x,s),g,q),o,⟨j,p,u⟩,J⟩
      · exact .inr ⟨(g,q),o,j,p⟩) ?_ ?_
  ·intro ⟨z,A⟩ y;refine WE.cm (Ep ?_);refine bU λw' a=>?_;exact .inr ⟨z,A,O,by rw [B,tu E F K,L]; simp only [bt]; rw [Ki ay aB,y]; rfl,(by have h:=a; have h:=Wt 1 h; exact h)⟩
  intro cM ⟨⟨b9,b'⟩,b_,ca⟩ cb ⟨cd,ce,cf⟩;refine I (Yf tr O) (aQ 1 Y O O O dZ O O O (I (Yf u6 O) (aQ 1 Y O O O p5 O O O (Ln (Eb (Et (ag (I (cc 1 O O kb O) (aQ 2 Y O O O mh O O O (aa (a7 ?_)))))))))));refine WE.eB (hy O (dX 2 O O kb O)) λw' a=>?_;exact .inl ⟨a8.mk 5 0 N.1 N.2 b9,b',b_,ca,O,by rw [B,tu E F K,L]; simp only [bt]; rw [Ki ay aB,cd]; rfl,xh ce (cU a aj cb),cf,Wv 1 (Wt 1 a)⟩
 obtain ⟨cg,ch⟩:=b5 aA;subst ch;refine Ck (Eb (Et (ag (I (cc 1 O O kb O) (aQ 2 Y O O O mh O O O (aa (a7 ?_)))))));refine WE.eB (hy O (dX 2 O O kb O)) λw' a=>?_;exact .inl ⟨a8.mk 3 0 N.1 N.2 [],(none,0),aX,au,O,by rw [B,tu E F K,L]; simp only [bt]; rw [Sx ay cg],Sl.nil,aY,Wt 1 a⟩
end Go.Proofs.YtccenighnmfhgaaGreatDoor
end
