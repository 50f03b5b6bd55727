/- BuildRight: what Units tells is a right program, or needs too many numbers; what Build tells is a right image. -/
import Derived.Ground.Names2Prog
import Derived.Ground.SlgnProg
import Derived.Lib.AtoiErrMem
import Derived.Scope
import Derived.Shelf.LaysC
import Derived.Shelf.LaysM
import Derived.Shelf.Slices.Clone
import Derived.Shelf.Slices.Turned
import Derived.Shelf.SlicesE.Clone
import Derived.Shelf.Small.Bits
import Derived.Shelf.Small.Strs
import Derived.Shelf.Strconv.Atoi
import Derived.Shelf.Strconv.AtoiAll
import Derived.Shelf.Strconv.AtoiErrFast
import Derived.Shelf.Strconv.AtoiFail
import Derived.Shelf.Strconv.AtoiInnerAll
import Derived.Shelf.Strconv.AtoiLong
import Derived.Shelf.Strconv.Clone
import Derived.Shelf.Strconv.Itoa0
import Derived.Shelf.Strconv.Itoa1
import Derived.Shelf.Strconv.Itoa2
import Derived.Shelf.Strconv.Itoa3
import Derived.Shelf.Strconv.Lower
import Derived.Shelf.Strconv.ParseInt10
import Derived.Shelf.Strconv.ParseIntEmpty
import Derived.Shelf.Strconv.ParseUint10
import Derived.Shelf.Strconv.ParseUint10Any
import Derived.Shelf.Strconv.ParseUint10Empty
import Derived.Shelf.Strconv.ParseUint10b16
import Derived.Shelf.Strconv.ParseUint10b32
import Derived.Shelf.Strconv.ParseUint10b64
import Derived.Shelf.Strconv.ParseUint10b8
import Derived.Shelf.Strconv.ParseUintEmpty
import Derived.Shelf.Strconv.RangeError
import Derived.Shelf.Strconv.SyntaxError
import Derived.Shelf.Strconv.ToError
import Derived.Shelf.Strconv.ToErrorRange
import Derived.Shelf.Strings.Builder1
import Derived.Shelf.Strings.BuilderF
import Derived.Shelf.Strings.BuilderK
import Derived.Shelf.Strings.Search1
import Derived.Test.YtccenighnmfhgaaGreatDoorProg
import Derived.Test.YtccenighnmfhgaaGreatDoorRows
import Derived.Test.YtccenighnmfhgaaGreatDoorR2
set_option linter.unusedVariables false
set_option linter.unusedSimpArgs false
section
namespace Go.Bw
open Go
def TW (l:List Tx):Tk:=l.map cb
theorem fI:TW []=[]:=rfl
theorem gE (a b:List Tx):TW (a++b)=TW a++TW b:=List.map_append
theorem N7 (x:Tx) (b:List Tx):TW (x::b)=cb x::TW b:=rfl
theorem FM {s w:Tx} {r:Tk} (h:dU w=true):aU s (cb w::r)=if (w==s)=true then some r else none:=by
 rw [fv h]; rfl
theorem oy {s:Tx} {u:UInt8} {r:Tk} (h:u ∈ o4):aU s (cb [u]::r)=if ([u]==s)=true then some r else none:=by
 rw [xf u h]; rfl
theorem N8 {s:Tx} {n:Int} {r:Tk} (a:0<=n) (b:n<=1099511627775) (c:s≠[]):aU s (cb (Lib.itoa n)::r)=none:=by
 rw [fG a b];simp only [aU];rw [if_neg];intro h;simp only [beq_iff_eq] at h;exact c h.symm
theorem mI {w:Tx} {r:Tk} (h:ei w=true):dz (cb w::r)=some (w,r):=by
 rw [fv (jv h)];simp [dz,jx,h]
theorem FN {n:Int} {r:Tk} (a:0<=n) (b:n<=1099511627775):iH (cb (Lib.itoa n)::r)=some (n,r):=by
 rw [fG a b];simp [iH,jx]
theorem N9 {w s:Tx} (h:ei w=true) (a:s ∈ bN):(w==s)=false:=by
 rw [Bool.eq_false_iff];intro e;simp only [beq_iff_eq] at e;subst e;simp only [ei,Bool.and_eq_true,Bool.not_eq_true',List.contains_eq_mem,decide_eq_false_iff_not] at h;exact h.2 a
theorem N' {w:Tx} {u:UInt8} (h:dU w=true) (a:kR (u.toNat:Int)=false):(w==[u])=false:=by
 rw [Bool.eq_false_iff];intro e;simp only [beq_iff_eq] at e;subst e;simp only [dU,Bool.and_eq_true] at h;have:=h.1.2;simp at this;rw [this] at a;cases a
theorem FO {w s:Tx} {r:Tk} (h:ei w=true) (a:s ∈ bN):aU s (cb w::r)=none:=by
 rw [FM (jv h),N9 h a]; rfl
theorem AK {w:Tx} {u:UInt8} {r:Tk} (h:ei w=true) (a:kR (u.toNat:Int)=false):aU [u] (cb w::r)=none:=by
 rw [FM (jv h),N' (jv h) a]; rfl
structure Stop (q:Tk):Prop where
 dot:aU [46] q=none
 br:aU [91] q=none
 pa:aU [40] q=none
theorem sO {u:UInt8} {q:Tk} (h:u ∈ o4) (a:u≠46) (b:u≠91) (c:u≠40):Stop (cb [u]::q):=
 ⟨by rw [oy h,if_neg (by simpa using a)],by rw [oy h,if_neg (by simpa using b)],by rw [oy h,if_neg (by simpa using c)]⟩
theorem sS {mod nm:Tx} {q:Tk} (h:gU true mod nm=false) (c:aU [46] q=none):h6 (TW (hN mod nm)++q)=some ((mod,nm),q):=by
 obtain ⟨d,b⟩:=jh h;unfold hN
 split
 · rename_i a
   simp only [beq_iff_eq] at a;subst a
   show h6 (cb nm::q)=_
   unfold h6;rw [mI b];simp only [Option.bind_some];rw [c]
 · rename_i a
   have e:ei mod=true:=d.resolve_left (by simpa using a)
   show h6 (cb mod::cb [46]::cb nm::q)=_
   unfold h6;rw [mI e];simp only [Option.bind_some];rw [oy (by decide)];simp only [beq_self_eq_true,if_true];rw [mI b]
   rfl
theorem AL {mod nm:Tx} (h:gU true mod nm=false):∃w r,hN mod nm=w::r/\ei w=true:=by
 obtain ⟨a,b⟩:=jh h;unfold hN
 split
 · exact ⟨nm,[],O,b⟩
 · rename_i c
   exact ⟨mod,_,O,a.resolve_left (by simpa using c)⟩
theorem mJ {mod nm s:Tx} {q:Tk} (h:gU true mod nm=false) (a:s ∈ bN\/∃u,s=[u]/\kR (u.toNat:Int)=false):aU s (TW (hN mod nm)++q)=none:=by
 obtain ⟨w,r,e,b⟩:=AL h;rw [e]
 rcases a with a | ⟨u,rfl,c⟩
 · exact FO b a
 · exact AK b c
theorem AM {mod nm:Tx} {q:Tk} {f:Nat} (h:gU true mod nm=false) (g:aU [46] q=none):cC (f+1) (TW (hN mod nm)++q)=kx (cC f) mod nm q:=by
 have a:=sS h g;have b:=mJ (s:=qq) (q:=q) h (.inl (by decide));have c:=mJ (s:=[33]) (q:=q) h (.inr ⟨33,rfl,by decide⟩);have d:=mJ (s:=[40]) (q:=q) h (.inr ⟨40,rfl,by decide⟩);obtain ⟨w,r,e,i⟩:=AL h;rw [e] at a b c d ⊢;rw [N7,List.cons_append] at a b c d ⊢
 have j:(cb w).kind=1:=by rw [fv (jv i)]
 unfold cC;simp only [];rw [if_neg (by omega)];unfold jc;rw [b,c,d];simp only [];rw [a]
 rfl
theorem FR {w:Tx} {r:Tk} {f:Nat} (a:(cb w).kind≠2):cC (f+1) (cb w::r)=jc (cC f) (cb w::r):=by
 rw [cC,if_neg a]
theorem FT {u:UInt8} (h:u ∈ o4):(cb [u]).kind≠2:=by
 rw [xf u h]
 show (3:Int)≠2
 decide
def AN (u:UInt8):Bool:=o4.contains u&&(!(u==46)&&(!(u==91)&&!(u==40)))
theorem pt (u:UInt8) (q:Tk) (h:AN u=true):Stop (TW [[u]]++q):=by
 simp [AN] at h;exact sO h.1 h.2.1 h.2.2.1 h.2.2.2
theorem AO (u:UInt8) (q:Tk) (h:AN u=true):Stop (cb [u]::q):=pt u q h
theorem Oa {a:Tk->Option (aV×Tk)} {r:Tk}:jc a (cb [33]::r)=(a r).map λx=>(aV.mk 6 0 [] [] [x.1],x.2):=by
 unfold jc;rw [oy (by decide),oy (by decide)]
 rfl
theorem Ob {a:Tk->Option (aV×Tk)} {r:Tk}:jc a (cb [40]::r)=j_ a r:=by
 unfold jc;rw [oy (by decide),oy (by decide),oy (by decide)]
 rfl
theorem Oc {q:Tk}:∀(j:Nat),j<9->bu opsL 0 (cb ((opsL[j]?).getD [])::q)=some (j,q)
 | 0,_=>rfl
 | 1,_=>rfl
 | 2,_=>rfl
 | 3,_=>rfl
 | 4,_=>rfl
 | 5,_=>rfl
 | 6,_=>rfl
 | 7,_=>rfl
 | 8,_=>rfl
 | n+9,h=>absurd h (by omega)
theorem Od (op:Int) {q:Tk} (h:7<=op/\op<=15):Stop (cb (rB op)::q):=by
 have:op=7\/op=8\/op=9\/op=10\/op=11\/op=12\/op=13\/op=14\/op=15:=by omega
 rcases this with rfl | rfl | rfl | rfl | rfl | rfl | rfl | rfl | rfl<;>exact sO (by decide) (by decide) (by decide) (by decide)
theorem FU {op:Int} {mod nm:Tx} (h:gU (dv op 3 5) mod nm=false):(3<=op/\op<=5->gU true mod nm=false)/\(¬(3<=op/\op<=5)->mod=[]/\nm=[]):=by
 refine ⟨λa=>?_,λa=>?_⟩
 · rw [show dv op 3 5=true by simp [dv]; omega] at h; exact h
 · rw [show dv op 3 5=false by rw [Bool.eq_false_iff]; simp [dv]; omega] at h; exact Fx h
theorem Oe {op n:Int} (h:gN op n=false) (a:op≠1):n=0:=by
 simp [gN,a] at h; exact h
theorem Of {l:List (List Tx)}:l.length<=(gd l).length\/∃x ∈ l,x=[]:=by
 induction l with
 | nil=>exact .inl (Nat.zero_le _)
 | cons x r a=>
   by_cases b:x=[]
   · exact .inr ⟨x,by simp,b⟩
   have c:1<=x.length:=by cases x; exact absurd rfl b; simp
   rcases a with a | ⟨y,d,e⟩
   · cases r with
     | nil=>left; simpa [gd] using c
     | cons y r=>left; simp only [gd,List.length_append,List.length_cons] at a ⊢; omega
   · exact .inr ⟨y,List.mem_cons_of_mem _ d,e⟩
theorem Og (l:List aV):l.length<=(gd (dW l)).length:=by
 rcases Of (l:=dW l) with h | ⟨x,a,e⟩
 · rwa [Fq] at h
 · exact absurd e (Ft l x a)
theorem FV:∀(x:aV) (d:Nat) (q:Tk),(ga x d).bE=0->aU [41] (TW (aB x)++q)=none
 | .mk op n mod nm args,d,q,h=>by
   have c:=e7 h;have l:=c.kind;obtain ⟨i,m⟩:=FU c.name;unfold aB lD
   by_cases f:op=1
   · subst f
     obtain ⟨a,b⟩:=AB c.num;exact N8 a b (by simp)
   rw [if_neg f]
   by_cases g:op=2
   · rw [if_pos g]; rfl
   rw [if_neg g]
   by_cases j:op<=5
   · have k:=i ⟨by omega,j⟩
     have e:∀q,aU [41] (TW (hN mod nm)++q)=none:=λq=>mJ k (.inr ⟨41,rfl,by decide⟩)
     split
     · exact e _
     · split
       · rw [List.append_assoc,List.append_assoc,gE,List.append_assoc]; exact e _
       · rw [if_pos (by omega),gE,List.append_assoc]; exact e _
   · rw [if_neg (by omega),if_neg (by omega),if_neg (by omega)]
     split<;>rfl
mutual
theorem Oh:∀(x:aV) (d:Nat),(ga x d).bE=0->∀(f:Nat),f+d=7->∀(q:Tk),Stop q->cC f (TW (aB x)++q)=some (x,q)
 | .mk op n mod nm args,d,h,f,B,q,k=>by
   have c:=e7 h;have w:=c.kind;have C:=c.deep;obtain ⟨f,rfl⟩:∃g,f=g+1:=⟨f-1,by omega⟩;obtain ⟨l,m⟩:=FU c.name;have e:=AP args (d+1) c.sub f (by omega);have z:=FG op n mod nm args;rw [z];unfold lD
   by_cases o:op=1
   · subst o
     obtain ⟨a,b⟩:=AB c.num;obtain ⟨rfl,rfl⟩:=m (by omega)
     have i:args=[]:=by
       have:=c.nA;simp [j2,hA] at this;exact this
     subst i
     show cC (f+1) (cb (Lib.itoa n)::q)=_
     rw [fG a b,cC]
     rfl
   rw [if_neg o];have A:=Oe c.num o;subst A
   by_cases p:op=2
   · subst p
     obtain ⟨rfl,rfl⟩:=m (by omega)
     have i:args=[]:=by
       have:=c.nA;simp [j2,hA] at this;exact this
     subst i
     rfl
   rw [if_neg p]
   by_cases s:op=3
   · subst s
     have i:args=[]:=by
       have:=c.nA;simp [j2,hA] at this;exact this
     subst i;rw [if_pos rfl,AM (l (by omega)) k.dot];unfold kx;rw [k.br,k.pa]
   rw [if_neg s]
   by_cases t:op=4
   · subst t
     have j:=c.Fp (.inl rfl)
     match args,j,e with
     | [x],_,e=>
       rw [if_pos rfl];simp only [dW,at_,List.getElem?_cons_zero,Option.getD_some,gE,List.append_assoc];rw [AM (l (by omega)) (by rfl)];unfold kx;rw [show aU [91] (TW [[91]]++(TW (aB x)++(TW [[93]]++q)))=some (TW (aB x)++(TW [[93]]++q)) from rfl];simp only [];rw [e.1 0 x rfl _ (pt 93 _ (by decide))]
       rfl
   rw [if_neg t]
   by_cases u:op=5
   · subst u
     rw [if_pos rfl];simp only [oq,gE,List.append_assoc];rw [AM (l (by omega)) (by rfl)];unfold kx;rw [show ∀r,aU [91] (TW [[40]]++r)=none from λr=>rfl,show ∀r,aU [40] (TW [[40]]++r)=some r from λr=>rfl];simp only [];rw [e.2 q]
     rfl
   rw [if_neg u];obtain ⟨rfl,rfl⟩:=m (by omega)
   by_cases v:op=6
   · subst v
     have j:=c.Fp (.inr rfl)
     match args,j,e with
     | [x],_,e=>
       rw [if_pos rfl];simp only [dW,at_,List.getElem?_cons_zero,Option.getD_some,gE,List.append_assoc]
       show cC (f+1) (cb [33]::(TW (aB x)++q))=_
       rw [FR (FT (by decide)),Oa,e.1 0 x rfl _ k]
       rfl
   rw [if_neg v];have j:=c.NQ (by omega)
   match args,j,e with
   | [x,y],_,e=>
     simp only [dW,at_,List.getElem?_cons_zero,List.getElem?_cons_succ,Option.getD_some,gE,List.append_assoc]
     show cC (f+1) (cb [40]::(TW (aB x)++(cb (rB op)::(TW (aB y)++(cb [41]::q)))))=_
     rw [FR (FT (by decide)),Ob,j_,e.1 0 x rfl _ (Od op ⟨by omega,w.2⟩)];simp only [Option.bind_some];rw [show bu opsL 0 (cb (rB op)::(TW (aB y)++(cb [41]::q)))=some ((op-7).toNat,TW (aB y)++(cb [41]::q)) from Oc _ (by omega)];simp only [Option.bind_some];rw [e.1 1 y rfl _ (AO 41 _ (by decide))];simp only [Option.bind_some];rw [oy (by decide)];simp only [beq_self_eq_true,if_true,Option.map_some];rw [show (7:Int)+((op-7).toNat:Int)=op by omega]
theorem AP:∀(l:List aV) (d:Nat),(cP l d).bE=0->∀(f:Nat),f+d=7->
   (∀(i:Nat) (x:aV),l[i]? = some x->∀(q:Tk),Stop q->cC f (TW (aB x)++q)=some (x,q))/\
   (∀(q:Tk),iI (cC f) (TW (gd (dW l))++(TW [[41]]++q))=some (l,q))
 | [],_,_,_,_=>⟨by simp,λq=>rfl⟩
 | x::r,d,h,f,e=>by
   obtain ⟨a,o⟩:=Fo h;have p:=Oh x d a f e;have s:=AP r d o f e
   have g:∀(i:Nat) (y:aV),(x::r)[i]? = some y->∀(q:Tk),Stop q->cC f (TW (aB y)++q)=some (y,q):=by
     intro i y b
     cases i with
     | zero=>simp at b; subst b; exact p
     | succ i=>exact s.1 i y (by simpa using b)
   refine ⟨g,λq=>?_⟩
   have v:∀(l:List aV),(∀(i:Nat) (y:aV),l[i]? = some y->∀(q:Tk),Stop q->cC f (TW (aB y)++q)=some (y,q))->l≠[]->∀n,l.length<=n->jb (cC f) n (TW (gd (dW l))++(TW [[41]]++q))=some (l,q):=by
     intro l
     induction l with
     | nil=>intro _ h; exact absurd rfl h
     | cons j t w=>
       intro c _ n k;obtain ⟨n,rfl⟩:∃m,n=m+1:=⟨n-1,by simp at k; omega⟩
       cases t with
       | nil=>
         simp only [dW,gd];unfold jb;rw [c 0 j rfl _ (pt 41 _ (by decide))]
         rfl
       | cons y t=>
         simp only [dW,gd,gE,List.append_assoc];unfold jb;rw [c 0 j rfl _ (pt 44 _ (by decide))];simp only [Option.bind_some];rw [show ∀r,aU [41] (TW [[44]]++r)=none from λr=>rfl,show ∀r,aU [44] (TW [[44]]++r)=some r from λr=>rfl];simp only [];have:=w (λi u z=>c (i+1) u (by simpa using z)) (by simp) n (by simp at k ⊢; omega);simp only [dW] at this;rw [this]
         rfl
   have A:aU [41] (TW (gd (dW (x::r)))++(TW [[41]]++q))=none:=by
     cases r with
     | nil=>simp only [dW,gd]; exact FV x d _ a
     | cons y r=>simp only [dW,gd,gE,List.append_assoc]; exact FV x d _ a
   unfold iI;rw [A];simp only [];refine v (x::r) g (by simp) _ ?_;have:=Og (x::r);simp only [List.length_append,TW,List.length_map];omega
end
theorem FW {op:Int} {mod nm:Tx} (h:gU (dv op 1 3) mod nm=false):(1<=op/\op<=3->gU true mod nm=false)/\(¬(1<=op/\op<=3)->mod=[]/\nm=[]):=by
 refine ⟨λa=>?_,λa=>?_⟩
 · rw [show dv op 1 3=true by simp [dv]; omega] at h; exact h
 · rw [show dv op 1 3=false by rw [Bool.eq_false_iff]; simp [dv]; omega] at h; exact Fx h
theorem AQ {mod nm:Tx} {q:Tk} (h:gU true mod nm=false) (a:aU [46] q=none):eM (TW (hN mod nm)++q)=(match aU [40] q with
     | some r=>(iI (cC 6) r).map λq=>(bl.mk 3 mod nm q.1 [] [],q.2)
     | none=>match aU [91] q with
       | some r=>(cC 6 r).bind λi=>(aU [93] i.2).bind λr=>(aU [61] r).bind λr=>(cC 6 r).map λx=>(bl.mk 2 mod nm [i.1,x.1] [] [],x.2)
       | none=>(aU [61] q).bind λr=>(cC 6 r).map λx=>(bl.mk 1 mod nm [x.1] [] [],x.2)):=by
 unfold eM;rw [mJ (s:=eK) h (.inl (by decide)),mJ (s:=eL) h (.inl (by decide))];simp only [];rw [sS h a]
 rfl
theorem uJ {pb:Tk->Option (List bl×Tk)} {l:Tk} (a:aU eR l=none) (b:aU eS l=none):eh pb l=(eM l).bind λs=>(aU [59] s.2).map λr=>(s.1,r):=by
 unfold eh;rw [a,b]
def FX (pb:Tk->Option (List bl×Tk)) (d:Nat):Prop:=∀(l:List bl),(dw l d).bE=0->∀q,pb (TW (jR l)++q)=some (l,q)
theorem Oi {pb:Tk->Option (List bl×Tk)} {d:Nat} (j:FX pb (d+1)) (x:bl) (h:(eP x d).bE=0) (q:Tk) (o:aU eJ q=none):eh pb (TW (j' x)++q)=some (x,q):=by
 obtain ⟨op,mod,nm,args,body,other⟩:=x;have b:=uC h;have t:=b.kind;have a:=AP args 1 b.exprs 6 rfl;obtain ⟨k,i⟩:=FW b.name;obtain ⟨g,f⟩:=b.NS;rw [ox];unfold k0
 rcases (by omega:op=1\/op=2\/op=3\/op=4\/op=5\/op=6\/op=7) with rfl | rfl | rfl | rfl | rfl | rfl | rfl
 · have c:=b.len (by decide)
   obtain rfl:=g (by decide);obtain rfl:=f (by decide);have e:=k (by omega)
   match args,c,a with
   | [x],_,a=>
     simp only [if_true,if_false,reduceCtorEq,Int.reduceEq,or_self,dW,at_,List.getElem?_cons_zero,Option.getD_some,gE,List.append_assoc];rw [uJ (mJ e (.inl (by decide))) (mJ e (.inl (by decide))),AQ e (by rfl),show ∀r,aU [40] (TW [[61]]++r)=none from λr=>rfl,show ∀r,aU [91] (TW [[61]]++r)=none from λr=>rfl,show ∀r,aU [61] (TW [[61]]++r)=some r from λr=>rfl];simp only [Option.bind_some];rw [a.1 0 x rfl _ (pt 59 _ (by decide))]
     rfl
 · have c:=b.len (by decide)
   obtain rfl:=g (by decide);obtain rfl:=f (by decide);have e:=k (by omega)
   match args,c,a with
   | [x,y],_,a=>
     simp only [if_true,if_false,Int.reduceEq,or_self,dW,at_,List.getElem?_cons_zero,List.getElem?_cons_succ,Option.getD_some,gE,List.append_assoc];rw [uJ (mJ e (.inl (by decide))) (mJ e (.inl (by decide))),AQ e (by rfl),show ∀r,aU [40] (TW [[91]]++r)=none from λr=>rfl,show ∀r,aU [91] (TW [[91]]++r)=some r from λr=>rfl];simp only [];rw [show ∀r,TW [[93],[61]]++r=TW [[93]]++(TW [[61]]++r) from λr=>rfl,a.1 0 x rfl _ (pt 93 _ (by decide))];simp only [Option.bind_some];rw [show ∀r,aU [93] (TW [[93]]++r)=some r from λr=>rfl];simp only [Option.bind_some];rw [show ∀r,aU [61] (TW [[61]]++r)=some r from λr=>rfl];simp only [Option.bind_some];rw [a.1 1 y rfl _ (pt 59 _ (by decide))]
     rfl
 · obtain rfl:=g (by decide)
   obtain rfl:=f (by decide);have e:=k (by omega);simp only [if_true,if_false,Int.reduceEq,or_self,oq,gE,List.append_assoc];rw [uJ (mJ e (.inl (by decide))) (mJ e (.inl (by decide))),AQ e (by rfl),show ∀r,aU [40] (TW [[40]]++r)=some r from λr=>rfl];simp only [];rw [a.2]
   rfl
 · have c:=b.len (by decide)
   have l:=j body (b.body rfl);obtain ⟨rfl,rfl⟩:=i (by omega)
   match args,c,a with
   | [x],_,a=>
     simp only [if_true,if_false,Int.reduceEq,or_false,true_or,dW,at_,List.getElem?_cons_zero,Option.getD_some,gE,List.append_assoc];unfold eh;rw [show ∀r,aU eR (TW [eR]++r)=some r from λr=>rfl];simp only [];have m:∀r,Stop (TW (mG (gQ body))++r):=λr=>AO 123 _ (by decide);rw [a.1 0 x rfl _ (m _)];simp only [Option.bind_some];have p:∀q,pb (TW (mG (gQ body))++q)=some (body,q):=l;rw [p];simp only [Option.bind_some]
     by_cases n:0<other.length
     · rw [if_pos n]
       have s:∀q,pb (TW (mG (gQ other))++q)=some (other,q):=j other (b.other n);simp only [gE,List.append_assoc];rw [show ∀r,aU eJ (TW [eJ]++r)=some r from λr=>rfl];simp only [];rw [s];simp only [Option.bind_some];rw [if_neg (by omega)]
     · rw [if_neg n]
       have:other=[]:=List.eq_nil_of_length_eq_zero (by omega);subst this;rw [fI,List.nil_append,o]
 · have c:=b.len (by decide)
   have l:∀q,pb (TW (mG (gQ body))++q)=some (body,q):=j body (b.body rfl);obtain ⟨rfl,rfl⟩:=i (by omega);obtain rfl:=f (by decide)
   match args,c,a with
   | [x],_,a=>
     simp only [if_true,if_false,Int.reduceEq,or_true,dW,at_,List.getElem?_cons_zero,Option.getD_some,gE,List.append_assoc,List.length_nil,Nat.lt_irrefl,fI,List.nil_append];unfold eh;rw [show ∀r,aU eR (TW [eS]++r)=none from λr=>rfl,show ∀r,aU eS (TW [eS]++r)=some r from λr=>rfl];simp only [];have m:∀r,Stop (TW (mG (gQ body))++r):=λr=>AO 123 _ (by decide);rw [a.1 0 x rfl _ (m _)];simp only [Option.bind_some];rw [l]
     rfl
 · have c:=b.len (by decide)
   obtain rfl:=g (by decide);obtain rfl:=f (by decide);obtain ⟨rfl,rfl⟩:=i (by omega)
   match args,c,a with
   | [x],_,a=>
     simp only [if_true,if_false,Int.reduceEq,or_self,dW,at_,List.getElem?_cons_zero,Option.getD_some,gE,List.append_assoc];rw [uJ (by rfl) (by rfl)];unfold eM;rw [show ∀r,aU eK (TW [eK]++r)=some r from λr=>rfl];simp only [];rw [a.1 0 x rfl _ (pt 59 _ (by decide))]
     rfl
 · have c:=b.len (by decide)
   obtain rfl:=g (by decide);obtain rfl:=f (by decide);obtain ⟨rfl,rfl⟩:=i (by omega)
   match args,c,a with
   | [x],_,a=>
     simp only [if_true,if_false,Int.reduceEq,or_self,dW,at_,List.getElem?_cons_zero,Option.getD_some,gE,List.append_assoc];rw [uJ (by rfl) (by rfl)];unfold eM;rw [show ∀r,aU eK (TW [eL]++r)=none from λr=>rfl,show ∀r,aU eL (TW [eL]++r)=some r from λr=>rfl];simp only [];rw [a.1 0 x rfl _ (pt 59 _ (by decide))]
     rfl
theorem Oj {x:bl} {d:Nat} (h:(eP x d).bE=0):∃w r,j' x=w::r/\(ei w=true\/w=eR\/w=eS\/w=eK\/w=eL):=by
 obtain ⟨op,mod,nm,args,body,other⟩:=x;have b:=uC h;have l:=b.kind;obtain ⟨k,m⟩:=FW b.name;rw [ox];unfold k0
 by_cases c:op=4\/op=5
 · rw [if_pos c]
   refine ⟨_,_,O,?_⟩
   split<;>simp
 rw [if_neg c]
 by_cases f:op=6
 · rw [if_pos f]; exact ⟨_,_,rfl,by simp⟩
 rw [if_neg f]
 by_cases g:op=7
 · rw [if_pos g]; exact ⟨_,_,rfl,by simp⟩
 rw [if_neg g];obtain ⟨w,r,e,a⟩:=AL (k (by omega));rw [e]
 by_cases i:op=3
 · rw [if_pos i]; exact ⟨_,_,rfl,.inl a⟩
 rw [if_neg i]
 by_cases j:op=1
 · rw [if_pos j]; exact ⟨_,_,rfl,.inl a⟩
 rw [if_neg j,if_pos (by omega)];exact ⟨_,_,O,.inl a⟩
theorem Ok {w s:Tx} {r:Tk} (h:ei w=true\/w=eR\/w=eS\/w=eK\/w=eL) (a:s=eJ\/s=[125]):aU s (cb w::r)=none:=by
 rcases h with h | rfl | rfl | rfl | rfl
 · rcases a with rfl | rfl
   · exact FO h (by decide)
   · exact AK h (by decide)
 all_goals rcases a with rfl | rfl<;>rfl
theorem FY {x:bl} {d:Nat} {q:Tk} {s:Tx} (h:(eP x d).bE=0) (a:s=eJ\/s=[125]):aU s (TW (j' x)++q)=none:=by
 obtain ⟨w,r,e,b⟩:=Oj h;rw [e];exact Ok b a
theorem FZ {ps:Tk->Option (bl×Tk)} {d:Nat} (b:∀(x:bl),(eP x d).bE=0->∀q,aU eJ q=none->ps (TW (j' x)++q)=some (x,q)) (q:Tk):∀(l:List bl),(ar l d).bE=0->∀n,l.length<n->ky ps n (TW (gQ l)++(TW [[125]]++q))=some (l,q)
 | [],_,n,a=>by
   obtain ⟨n,rfl⟩:∃m,n=m+1:=⟨n-1,by simp at a; omega⟩
   rfl
 | x::r,h,n,a=>by
   obtain ⟨n,rfl⟩:∃m,n=m+1:=⟨n-1,by simp at a; omega⟩;obtain ⟨c,e⟩:=Ax h;have f:=FZ b q r e n (by simp at a; omega)
   have g:aU eJ (TW (gQ r)++(TW [[125]]++q))=none:=by
     cases r with
     | nil=>rfl
     | cons y t=>
       unfold gQ;rw [gE,List.append_assoc];exact FY (Ax e).1 Y
   unfold gQ ky;rw [gE,List.append_assoc,FY c (.inr rfl)];simp only [];rw [b x c _ g];simp only [Option.bind_some];rw [f]
   rfl
theorem F0:∀l:List bl,l.length<=(gQ l).length
 | []=>Nat.zero_le _
 | x::r=>by
   have:=F0 r
   have b:1<=(j' x).length:=by
     have:=Fu x
     cases a:j' x with
     | nil=>exact absurd a this
     | cons _ _=>simp
   unfold gQ;simp only [List.length_cons,List.length_append];omega
theorem AR:∀(f d:Nat),f+d=7->FX (fb f) d
 | 0,d,a=>λl h=>by
   unfold dw at h;have:=fq h;omega
 | f+1,d,a=>λl h q=>by
   unfold dw at h;obtain ⟨g,i,b⟩:=fq h;unfold fb jR mG;simp only [gE,List.append_assoc];rw [show ∀r,aU [123] (TW [[123]]++r)=some r from λr=>rfl];simp only [Option.bind_some];refine FZ (d:=d) (λx c q e=>Oi (d:=d) (AR f (d+1) (by omega)) x c q e) q l b _ ?_;have:=F0 l;simp only [List.length_append,TW,List.length_map];omega
theorem AS {b:Bool} {q:Tk} (h:aU cH q=none):ea (TW (qs b)++q)=(b,q):=by
 cases b with
 | true=>rfl
 | false=>show ea q=_; unfold ea; rw [h]; rfl
theorem Ol {d:cB} {q:Tk} (h:xi d):aU cH (TW (nB d)++q)=none:=by
 unfold nB ot
 rcases h.kind with e | e | e
 · rw [if_pos e]; rfl
 · rw [if_neg (by omega),if_pos e]; rfl
 · rw [if_neg (by omega),if_neg (by omega),if_pos e]; rfl
theorem Om {d:cB} {q:Tk} (h:xi d):eT d.bx (TW (nB d)++q)=some (some d,q):=by
 have c:=h.name;obtain ⟨kind,nm,bx,n⟩:=d;unfold nB ot
 rcases h.kind with e | e | e
 · obtain ⟨a,b⟩:=h.n1 e
   simp only at e a b c;subst e;simp only [if_true]
   show eT bx (cb h3::cb nm::cb [61]::cb (Lib.itoa n)::cb [59]::q)=_
   unfold eT;rw [show ∀r,aU h3 (cb h3::r)=some r from λr=>rfl];simp only [];rw [mI c];simp only [Option.bind_some];rw [show ∀r,aU [61] (cb [61]::r)=some r from λr=>rfl];simp only [Option.bind_some];rw [FN a b]
   rfl
 · have f:=h.n2 e
   simp only at e f c;subst e f;simp only [if_true,if_false,Int.reduceEq]
   show eT bx (cb h4::cb nm::cb [59]::q)=_
   unfold eT;rw [show ∀r,aU h3 (cb h4::r)=none from λr=>rfl,show ∀r,aU h4 (cb h4::r)=some r from λr=>rfl];simp only [];rw [mI c]
   rfl
 · obtain ⟨a,b⟩:=h.n3 e
   simp only at e a b c;subst e;simp only [if_true,if_false,Int.reduceEq]
   show eT bx (cb h5::cb nm::cb [91]::cb (Lib.itoa n)::cb [93]::cb [59]::q)=_
   unfold eT;rw [show ∀r,aU h3 (cb h5::r)=none from λr=>rfl,show ∀r,aU h4 (cb h5::r)=none from λr=>rfl,show ∀r,aU h5 (cb h5::r)=some r from λr=>rfl];simp only [];rw [mI c];simp only [Option.bind_some];rw [show ∀r,aU [91] (cb [91]::r)=some r from λr=>rfl];simp only [Option.bind_some];rw [FN (by omega) (by omega)]
   rfl
theorem F1 {a:Tk} (c:∀bx,eT bx (ea a).2=some (none,(ea a).2)):∀(ds:List cB),(∀d ∈ ds,(gk d).bE=0)->∀n,ds.length<n->
   jS n (ea (TW (ds.flatMap bn)++a)).1 (ea (TW (ds.flatMap bn)++a)).2=some ((ds,(ea a).1),(ea a).2)
 | [],_,n,b=>by
   obtain ⟨n,rfl⟩:∃m,n=m+1:=⟨n-1,by simp at b; omega⟩
   show jS (n+1) (ea a).1 (ea a).2=_
   unfold jS;rw [c]
   rfl
 | d::r,h,n,b=>by
   obtain ⟨n,rfl⟩:∃m,n=m+1:=⟨n-1,by simp at b; omega⟩;have f:=cM (h d (by simp));have g:=F1 c r (λx i=>h x (List.mem_cons_of_mem _ i)) n (by simp at b; omega)
   have e:TW ((d::r).flatMap bn)++a=TW (qs d.bx)++(TW (nB d)++(TW (r.flatMap bn)++a)):=by
     rw [List.flatMap_cons,bn];simp only [nB,gE,List.append_assoc]
   rw [e,AS (Ol f)];simp only [];unfold jS;rw [Om f];simp only [Option.bind_some];rw [g]
   rfl
theorem F2 {q:Tk}:∀(l:List Tx),(∀s ∈ l,ei s=true)->∀(n:Nat) (first:Bool),l.length<n->
   hr n first (TW (if first=true\/l=[] then [] else [[44]])++(TW (gd (l.map λs=>[s]))++(TW [[41]]++q)))=some (l,q)
 | [],_,n,first,a=>by
   obtain ⟨n,rfl⟩:∃m,n=m+1:=⟨n-1,by simp at a; omega⟩;rw [if_pos (.inr rfl)]
   rfl
 | x::r,h,n,first,a=>by
   obtain ⟨n,rfl⟩:∃m,n=m+1:=⟨n-1,by simp at a; omega⟩;have b:=h x (by simp);have c:=F2 (q:=q) r (λs d=>h s (List.mem_cons_of_mem _ d)) n false (by simp at a; omega)
   have e:TW (gd ((x::r).map λs=>[s]))++(TW [[41]]++q)=cb x::(TW (if false=true\/r=[] then [] else [[44]])++(TW (gd (r.map λs=>[s]))++(TW [[41]]++q))):=by
     cases r with
     | nil=>rfl
     | cons y t=>rfl
   rw [e]
   cases first with
   | true=>
     simp only [true_or,if_true,fI,List.nil_append];unfold hr;rw [AK b (by decide)];simp only [if_true,Option.bind_some];rw [mI b];simp only [Option.bind_some];rw [c]
     rfl
   | false=>
     have f:(if false=true\/x::r=[] then ([]:List Tx) else [[44]])=[[44]]:=by simp
     rw [f];unfold hr;rw [show ∀r,aU [41] (TW [[44]]++r)=none from λr=>rfl,show ∀r,aU [44] (TW [[44]]++r)=some r from λr=>rfl];rw [if_neg (by simp)];simp only [Option.bind_some];rw [mI b];simp only [Option.bind_some];rw [c]
     rfl
theorem F3 {a:Tk} (c:aU ny a=none):∀(l:List Tx),(∀s ∈ l,ei s=true)->∀n,l.length<n->im n (TW (l.flatMap nz)++a)=some (l,a)
 | [],_,n,b=>by
   obtain ⟨n,rfl⟩:∃m,n=m+1:=⟨n-1,by simp at b; omega⟩
   show im (n+1) a=_
   unfold im;rw [c]
 | x::r,h,n,b=>by
   obtain ⟨n,rfl⟩:∃m,n=m+1:=⟨n-1,by simp at b; omega⟩;have d:=F3 c r (λs e=>h s (List.mem_cons_of_mem _ e)) n (by simp at b; omega)
   show im (n+1) (cb ny::cb x::cb [59]::(TW (r.flatMap nz)++a))=_
   unfold im;rw [show ∀r,aU ny (cb ny::r)=some r from λr=>rfl];simp only [];rw [mI (h x (by simp))];simp only [Option.bind_some];rw [show ∀r,aU [59] (cb [59]::r)=some r from λr=>rfl];simp only [Option.bind_some];rw [d]
   rfl
theorem F4 {a:Tk} (c:aU mE a=none):∀(l:List Tx),(∀s ∈ l,ei s=true)->∀n,l.length<n->iJ n (TW (l.flatMap rC)++a)=some (l,a)
 | [],_,n,b=>by
   obtain ⟨n,rfl⟩:∃m,n=m+1:=⟨n-1,by simp at b; omega⟩
   show iJ (n+1) a=_
   unfold iJ;rw [c]
 | x::r,h,n,b=>by
   obtain ⟨n,rfl⟩:∃m,n=m+1:=⟨n-1,by simp at b; omega⟩;have d:=F4 c r (λs e=>h s (List.mem_cons_of_mem _ e)) n (by simp at b; omega)
   show iJ (n+1) (cb mE::cb x::cb [59]::(TW (r.flatMap rC)++a))=_
   unfold iJ;rw [show ∀r,aU mE (cb mE::r)=some r from λr=>rfl];simp only [];rw [mI (h x (by simp))];simp only [Option.bind_some];rw [show ∀r,aU [59] (cb [59]::r)=some r from λr=>rfl];simp only [Option.bind_some];rw [d]
   rfl
theorem F5 {f:Tx->List Tx} (a:∀x,1<=(f x).length):∀l:List Tx,l.length<=(l.flatMap f).length
 | []=>Nat.zero_le _
 | x::r=>by
   have:=F5 a r; have:=a x;rw [List.flatMap_cons,List.length_append,List.length_cons];omega
theorem F6:∀l:List Tx,l.length<=(gd (l.map λs=>[s])).length
 | []=>Nat.zero_le _
 | [x]=>Nat.le_refl _
 | x::y::r=>by
   have:=F6 (y::r)
   show _<=([x]++[[44]]++gd ((y::r).map λs=>[s])).length
   simp only [List.length_append,List.length_cons,List.length_nil] at this ⊢;omega
theorem On {p:dA} {q:Tk} (h:FB p):hP p.bx (TW (cg p)++q)=some (p,q):=by
 obtain ⟨nm,bx,params,ay,body⟩:=p;unfold hP cg;simp only [gE,List.append_assoc];rw [show ∀r,TW [nm,[40]]++r=cb nm::(TW [[40]]++r) from λr=>rfl,mI h.name];simp only [Option.bind_some];rw [show ∀r,aU [40] (TW [[40]]++r)=some r from λr=>rfl];simp only [Option.bind_some]
 have a:=F2 (q:=TW (ay.flatMap nz)++(TW (jR body)++q)) params h.params ((TW (gd (params.map λs=>[s]))++(TW [[41]]++(TW (ay.flatMap nz)++(TW (jR body)++q)))).length+1) true (by
   have:=F6 params;simp only [List.length_append,TW,List.length_map] at this ⊢
   omega)
 simp only [true_or,if_true,fI,List.nil_append] at a;rw [a];simp only [Option.bind_some]
 rw [F3 (by rfl) ay h.ay _ (by
   have:=F5 (f:=nz) (λx=>by simp [nz]) ay;simp only [List.length_append,TW,List.length_map]
   omega)]
 simp only [Option.bind_some];rw [AR 6 1 rfl body h.body q]
 rfl
theorem F7 {a:Tk} (c:aU mF (ea a).2=none):∀(ds:List dA),(∀d ∈ ds,(lT d).bE=0)->∀n,ds.length<n->
   jT n (ea (TW (ds.flatMap hO)++a)).1 (ea (TW (ds.flatMap hO)++a)).2=some ((ds,(ea a).1),(ea a).2)
 | [],_,n,b=>by
   obtain ⟨n,rfl⟩:∃m,n=m+1:=⟨n-1,by simp at b; omega⟩
   show jT (n+1) (ea a).1 (ea a).2=_
   unfold jT;rw [c]
 | d::r,h,n,b=>by
   obtain ⟨n,rfl⟩:∃m,n=m+1:=⟨n-1,by simp at b; omega⟩;have f:=cO (h d (by simp));have g:=F7 c r (λx i=>h x (List.mem_cons_of_mem _ i)) n (by simp at b; omega)
   have e:TW ((d::r).flatMap hO)++a=TW (qs d.bx)++(cb mF::(TW (cg d)++(TW (r.flatMap hO)++a))):=by
     rw [List.flatMap_cons,hO,cg];simp only [gE,List.append_assoc]
     rfl
   rw [e,AS (by rfl)];simp only [];unfold jT;rw [show ∀r,aU mF (cb mF::r)=some r from λr=>rfl];simp only [];rw [On f];simp only [Option.bind_some];rw [g]
   rfl
theorem xk {α:Type} {f:α->List Tx} (a:∀x,1<=(f x).length):∀l:List α,l.length<=(l.flatMap f).length
 | []=>Nat.zero_le _
 | x::r=>by
   have:=xk a r; have:=a x;rw [List.flatMap_cons,List.length_append,List.length_cons];omega
theorem Oo {ps:List dA} {a:Tk} (b:∃r,a=cb gD::r):∃r,(ea (TW (ps.flatMap hO)++a)).2=cb mF::r\/(ea (TW (ps.flatMap hO)++a)).2=cb gD::r:=by
 obtain ⟨r,rfl⟩:=b
 cases ps with
 | nil=>exact ⟨r,.inr rfl⟩
 | cons d t=>
   have e:TW ((d::t).flatMap hO)++(cb gD::r)=TW (qs d.bx)++(cb mF::(TW (cg d)++(TW (t.flatMap hO)++(cb gD::r)))):=by
     rw [List.flatMap_cons,hO,cg];simp only [gE,List.append_assoc]
     rfl
   rw [e,AS (by rfl)];exact ⟨_,.inl O⟩
theorem F8 (l:Tk):l.length<=(ea l).2.length+1:=by
 unfold ea
 cases l with
 | nil=>simp
 | cons t r=>
   simp only [aU]
   split
   · simp
   · simp
theorem Oq {m:aZ} (h:(nf m).bE=0):jU (TW (bF m))=some (m,[]):=by
 have b:=xj h;obtain ⟨nm,ak,decls,procs,main⟩:=m;have l:∀q,fb 6 (TW (jR main)++q)=some (main,q):=AR 6 1 rfl main b.main;unfold bF;simp only [gE,List.append_assoc];have c:(∃r,(TW [gD]++(TW (jR main)++TW [[125]]))=cb gD::r):=⟨_,rfl⟩
 generalize n:TW [gD]++(TW (jR main)++TW [[125]])=a at c
 obtain ⟨y,o⟩:=Oo (ps:=procs) c
 show jU (cb pr::cb nm::cb [123]::(TW (ak.flatMap rC)++(TW (decls.flatMap bn)++(TW (procs.flatMap hO)++a))))=_
 have s:aU mE (TW (decls.flatMap bn)++(TW (procs.flatMap hO)++a))=none:=by
   cases decls with
   | cons d t=>
     have i:=cM (b.decls d (by simp));rw [List.flatMap_cons,bn,gE,gE,gE]
     cases d.bx with
     | true=>rfl
     | false=>
       show aU mE (TW (ot d)++TW [[59]]++TW (t.flatMap bn)++_)=none
       unfold ot
       rcases i.kind with e | e | e
       · rw [if_pos e]; rfl
       · rw [if_neg (by omega),if_pos e]; rfl
       · rw [if_neg (by omega),if_neg (by omega),if_pos e]; rfl
   | nil=>
     cases procs with
     | cons p t=>
       rw [List.flatMap_nil,fI,List.nil_append,List.flatMap_cons,hO];simp only [gE,List.append_assoc]
       cases p.bx<;>rfl
     | nil=>obtain ⟨r,rfl⟩:=c; rfl
 have i:∀bx,eT bx (ea (TW (procs.flatMap hO)++a)).2=some (none,(ea (TW (procs.flatMap hO)++a)).2):=by
   intro bx
   rcases o with e | e<;>rw [e]<;>rfl
 have u:aU mF (ea a).2=none:=by
   obtain ⟨r,rfl⟩:=c
   rfl
 unfold jU;rw [show ∀r,aU pr (cb pr::r)=some r from λr=>rfl];simp only [Option.bind_some];rw [mI b.name];simp only [Option.bind_some];rw [show ∀r,aU [123] (cb [123]::r)=some r from λr=>rfl];simp only [Option.bind_some]
 rw [F4 s ak b.ak _ (by
   have:=xk (f:=rC) (λx=>by simp [rC]) ak;simp only [List.length_append,TW,List.length_map]
   omega)]
 simp only [Option.bind_some]
 have v:decls.length<(ea (TW (decls.flatMap bn)++(TW (procs.flatMap hO)++a))).2.length+1:=by
   have g:=F8 (TW (decls.flatMap bn)++(TW (procs.flatMap hO)++a));have j:=xk (f:=bn) (λx=>by simp [bn]; omega) decls;obtain ⟨r,k⟩:=c;rw [k] at g ⊢;simp only [List.length_append,TW,List.length_map,List.length_cons] at g j ⊢;omega
 rw [F1 i decls b.decls _ v];simp only [Option.bind_some]
 have w:procs.length<(ea (TW (procs.flatMap hO)++a)).2.length+1:=by
   have g:=F8 (TW (procs.flatMap hO)++a);have j:=xk (f:=hO) (λx=>by simp [hO]; omega) procs;obtain ⟨r,k⟩:=c;rw [k] at g ⊢;simp only [List.length_append,TW,List.length_map,List.length_cons] at g j ⊢;omega
 rw [F7 u procs b.procs _ w];simp only [Option.bind_some];subst n
 show (if (ea (cb gD::(TW (jR main)++TW [[125]]))).1=true then none else _)=_
 rw [show ∀r,ea (cb gD::r)=(false,cb gD::r) from λr=>rfl];simp only [Bool.false_eq_true,if_false]
 show (aU gD (ea (cb gD::(TW (jR main)++TW [[125]]))).2).bind _=_
 rw [show ∀r,ea (cb gD::r)=(false,cb gD::r) from λr=>rfl];simp only [];rw [show ∀r,aU gD (cb gD::r)=some r from λr=>rfl];simp only [Option.bind_some];rw [l]
 rfl
end Go.Bw
end
section
namespace Go.Bw
open Go
theorem F9 {s:Tx} {l r:Tk} (a:gx l) (h:aU s l=some r):gx r:=by
 cases l with
 | nil=>cases h
 | cons t q=>
   simp only [aU] at h
   split at h
   · injection h with h; subst h; exact λx b=>a x (List.mem_cons_of_mem _ b)
   · cases h
theorem Ot {pb:Tk->Option (List bl×Tk)} (a:AH pb) {l r:Tk} {x:bl} (b:gx l) (h:eh pb l=some (x,r)):r.length<l.length:=by
 have e:=(AI a b h).2;have c:=Fu x;rw [e]
 cases d:j' x with
 | nil=>exact absurd d c
 | cons w f=>simp; omega
def oz:aZ:=⟨[],[],[],[],[]⟩
def cc (s:Tx):aZ×Int:=if (ey s).2≠0 then (oz,(ey s).2) else match jU (ey s).1 with
 | some (m,[])=>if fH m=0 then (m,0) else (oz,1)
 | _=>(oz,1)
theorem Ou {s:Tx} (h:(ey s).2=0):gx (ey s).1:=(Ds (Dt h)).1
theorem Ov {m:aZ} (h:(nf m).bE=0):gx (TW (bF m)):=by
 intro t a;obtain ⟨w,b,rfl⟩:=List.mem_map.1 a;exact (FD h w b).1
theorem AT {m:aZ}:fH m=0↔(nf m).bE=0:=NU
theorem Ow {m:aZ} (h:fH m=0) (d:(J (bF m)).length<=4096):cc (J (bF m))=(m,0):=by
 have a:=AT.1 h;have b:=NV (FD a)
 have c:ey (J (bF m))=(TW (bF m),0):=by
   unfold ey;rw [if_neg (by omega),<-b,show ft (o5 (List.map cb (bF m)))=some (TW (bF m)) from Dv (TW (bF m)) (Ov a)]
 unfold cc;rw [c];simp only [ne_eq,not_true_eq_false,if_false];rw [Oq a];simp only;rw [if_pos h]
end Go.Bw
end
section
namespace Go.Bw
open Go
mutual
theorem Ox (a:dE):∀x:aV,dS (bg a x)<=wE x
 | .mk op n mod nm args=>by
   have h:=AU a args;simp only [bg,dS,wE]; omega
theorem AU (a:dE):∀l:List aV,aN (fk a l)<=ax l
 | []=>Nat.le_refl _
 | x::r=>by
   have b:=Ox a x;have c:=AU a r;simp only [fk,aN,ax]; omega
end
mutual
theorem Oy (a:dE):∀x:bl,l2 (ko a x)<=wS x
 | .mk op mod nm args body other=>by
   have h:=AU a args;have b:=uK a body;have c:=uK a other;simp only [ko,l2,wS]; omega
theorem uK (a:dE):∀l:List bl,eF (dV a l)<=dC l
 | []=>Nat.le_refl _
 | x::r=>by
   have b:=Oy a x;have c:=uK a r;simp only [dV,eF,dC]; omega
end
theorem F' (m:aZ) (fs:List (List UInt8×List bs)):∀l:List dA,jq (l.map (lY m fs))<=wP l
 | []=>Nat.le_refl _
 | p::r=>by
   have a:=F' m fs r;have b:=uK (bT m fs (p.params++p.ay)) p.body;simp only [List.map_cons,jq,sI,wP,lY]; omega
theorem F_ {m:aZ} {fs:List (List UInt8×List bs)}:n8 (cx m fs).1<=wM m:=by
 have a:n8 ie<=wM m:=by
   show 1<=_
   unfold wM; omega
 unfold cx
 split
 · exact a
 · split
   · exact a
   · split
     · exact a
     · split
       · exact a
       · have b:=F' m fs m.procs
         have c:=uK (bT m fs []) m.main
         show n8 (c' m fs)<=wM m
         simp only [n8,c',wM]; omega
abbrev fp:=List UInt8×List bs
def fi:List (List UInt8×fp)->List UInt8->fp
 | [],_=>([],[])
 | (k,f)::r,s=>if k=s then f else fi r s
def aC (M:List (List UInt8×fp)) (m:aZ):bK×Int:=
 if (ao m).2≠0 then (ie,(ao m).2) else cx m (m.ak.map (fi M))
def fV:List aZ->List (List UInt8×fp)->List bK×Int
 | [],_=>([],0)
 | m::r,M=>if (aC M m).2≠0 then ([],(aC M m).2) else
   if (fV r ((m.nm,(ao m).1)::M)).2≠0 then ([],(fV r ((m.nm,(ao m).1)::M)).2) else ((aC M m).1::(fV r ((m.nm,(ao m).1)::M)).1,0)
theorem Oz {m:aZ} {r:List aZ} {M:List (List UInt8×fp)} (h:¬(aC M m).2=0):fV (m::r) M=([],(aC M m).2):=by rw [fV,if_pos h]
theorem Ga:∀(l:List aZ) (M:List (List UInt8×fp)),(fV l M).1.length<=l.length
 | [],_=>Nat.le_refl _
 | m::r,M=>by
   have:=Ga r ((m.nm,(ao m).1)::M);rw [fV]
   split
   · simp
   · split
     · simp
     · simp; omega
theorem Gb {b:Nat}:∀(l:List aZ) (M:List (List UInt8×fp)),(∀m ∈ l,wM m<=b)->∀u ∈ (fV l M).1,n8 u<=b
 | [],_,_,u,a=>by simp [fV] at a
 | m::r,M,h,u,a=>by
   rw [fV] at a
   split at a
   · simp at a
   · rename_i c
     split at a
     · simp at a
     · rcases List.mem_cons.1 a with e | a
       · subst e
         unfold aC at c ⊢
         split
         · rename_i d; rw [if_pos d] at c; exact absurd d c
         · exact Nat.le_trans F_ (h m (by simp))
       · exact Gb r _ (λx f=>h x (by simp [f])) u a
def pv (us:List bK) (q:List bK×Int):List bK×Int:=if q.2≠0 then ([],q.2) else (us++q.1,0)
theorem Gc (l:List aZ) (M:List (List UInt8×fp)):fV l M=pv [] (fV l M):=by
 cases l with
 | nil=>rfl
 | cons m r=>
   rw [fV];unfold pv
   by_cases h:(aC M m).2≠0
   · rw [if_pos h,if_pos h]
   · rw [if_neg h]
     by_cases a:(fV r ((m.nm,(ao m).1)::M)).2≠0
     · rw [if_pos a,if_pos a]
     · rw [if_neg a]; simp
theorem Gd {us:List bK} {m:aZ} {r:List aZ} {M:List (List UInt8×fp)} (h:¬(aC M m).2=0):pv us (fV (m::r) M)=([],(aC M m).2):=by
 rw [Oz h,pv,if_pos h]
theorem AV {us:List bK} {m:aZ} {r:List aZ} {M:List (List UInt8×fp)} (h:(aC M m).2=0):pv us (fV (m::r) M)=pv (us++[(aC M m).1]) (fV r ((m.nm,(ao m).1)::M)):=by
 rw [fV,if_neg (by rw [h]; simp)];unfold pv
 by_cases a:(fV r ((m.nm,(ao m).1)::M)).2≠0
 · rw [if_pos a,if_pos a,if_pos a]
 · rw [if_neg a,if_neg a,if_neg (by simp)]; simp
theorem AW {M:List (List UInt8×fp)} {m:aZ} (h:¬(ao m).2=0):aC M m=(ie,(ao m).2):=by rw [aC,if_pos h]
theorem AX {M:List (List UInt8×fp)} {m:aZ} (h:(ao m).2=0):aC M m=cx m (m.ak.map (fi M)):=by rw [aC,if_neg (by rw [h]; simp)]
theorem xl {α:Type} {f:α->Int}:∀{l:List α} {i:Nat} {x:α},(∀s ∈ l.take i,f s=0)->l[i]? = some x->¬f x=0->aD f l=f x
 | [],i,x,_,h,_=>by simp at h
 | y::l,0,x,_,h,a=>by
   rw [List.getElem?_cons_zero] at h
   injection h with h
   subst h;rw [aD,er,if_neg a]
 | y::l,i+1,x,b,h,a=>by
   rw [List.getElem?_cons_succ] at h;rw [aD,er,if_pos (b y (by simp))];exact xl (λs c=>b s (by simp [c])) h a
abbrev hs:=List UInt8
def OA (l:List hs):Int:=aD (λs=>(cc s).2) l
def fW (l:List hs):List aZ:=l.map λs=>(cc s).1
def jy (ms:List aZ) (d:List Nat):List aZ:=d.filterMap λi=>ms[i]?
def lE (l:List hs):Int:=if l.length<1\/4<l.length then 2 else OA l
def mK (l:List hs) (q:List Nat×Int):List bK×Int:=if q.2≠0 then ([],q.2) else fV (jy (fW l) q.1) []
def oA (l:List bK):Int:=aD (λu=>(eb u).2) l
def gy (r:List bK×Int):(List bG×Int)×Int:=if r.2≠0 then (([],0),r.2) else if oA r.1≠0 then (([],0),oA r.1) else hM (r.1.map λu=>(eb u).1.to)
theorem AY {l:List hs} (h:lE l=0):(1<=l.length/\l.length<=4)/\∀s ∈ l,(cc s).2=0:=by
 unfold lE at h
 split at h
 · cases h
 · exact ⟨by omega,l1.1 h⟩
theorem AZ {l:List hs} (b:1<=l.length/\l.length<=4) (a:∀s ∈ l,(cc s).2=0):lE l=0:=by
 rw [lE,if_neg (by omega)];exact l1.2 a
theorem OB {l:List aZ} {d:List Nat} {k i:Nat} {m:aZ} (h:d[k]? = some i) (b:l[i]? = some m):jy l (d.drop k)=m::jy l (d.drop (k+1)):=by
 have a:=(List.getElem?_eq_some_iff.1 h).1;unfold jy;rw [List.drop_eq_getElem_cons a,List.filterMap_cons]
 have:d[k]=i:=by rw [List.getElem?_eq_getElem a] at h; injection h
 rw [this,b]
section
variable {P:Program} {Q:Exit->Act->World->Prop} {n:Nat} {ds:List Deferred} {l:List (Nat×Value)} {W:World->Prop}
theorem WC.scope {c:Code} (h:WC P c (Exit.noGoto Q) n ds l W):WC P (.scope c) Q n ds l W:=λa w b d=>wp_scope_straight (h a w b d)
theorem WC.label {i:Nat} (h:WE Q .normal n ds l W):WC P (.label i) Q n ds l W:=λa w b c=>wp_label (h a w b c)
theorem WE.A0 (h:WE Q .ret n ds l W):WE (Exit.noGoto Q) .ret n ds l W:=h
end
section
variable {P:Program} {l:List (Nat×Value)} {W:World->Prop} {ty:TypeId} {pos:String} {af:Array Edge} {g:Option (Nat×Bool)} {d:Option Tmp}
theorem OC {t u:TypeId} {x y:Operand} {a b:List UInt8} (e:bk l x=some (st a)) (f:bk l y=some (st b)):Yl P l W ⟨d,.binOp .lss t x y u,ty,pos,af,g⟩ (.bool (Op.bytesLess a b)):=
 λh w c _=>by simp [execOp,c x _ e,c y _ f,st,eqGuard,binOp,Op.stringOp]
theorem OD {t u:TypeId} {x y:Operand} {a b:List UInt8} (e:bk l x=some (st a)) (f:bk l y=some (st b)):Yl P l W ⟨d,.binOp .gtr t x y u,ty,pos,af,g⟩ (.bool (!(Op.bytesLess a b||a==b))):=
 λh w c _=>by simp [execOp,c x _ e,c y _ f,st,eqGuard,binOp,Op.stringOp]
end
section
variable {P:Program} {ops:Array Oper} {cd:Code} {Q:Exit->Act->World->Prop} {n:Nat} {ds:List Deferred} {l:List (Nat×Value)} {w0:World} {F:List Nat} {L:List aS} {Vs:List View} {rest:List Oper}
theorem WL.xm {b:Nat} {a:Obj} (i:Nat) (d:L[i]? = some (aq b a)) (h:∀c:View,c b=some a->WL P ops Q n ds l (Ws w0 F (dM i L) (c::Vs)) rest):WL P ops Q n ds l (Ws w0 F L Vs) rest:=
 WL.kh i d (h _ (by simp [bv]))
theorem WC.xm {b:Nat} {c:Obj} (i:Nat) (e:L[i]? = some (aq b c)) (h:∀d:View,d b=some c->WC P cd Q n ds l (Ws w0 F (dM i L) (d::Vs))):WC P cd Q n ds l (Ws w0 F L Vs):=
 λa w f g=>h _ (by simp [bv]) a w f (g.kh i e)
end
end Go.Bw
end
section
namespace Go.Bw
open Go
theorem ej {s:Tx} {l q:Tk} (h:aU s l=some q):l.length=q.length+1:=by
 cases l with
 | nil=>cases h
 | cons t r=>
   simp only [aU] at h
   split at h
   · injection h with h; subst h; rfl
   · cases h
theorem Ge {k:Int} {l q:Tk} {t:Tok} (h:jx k l=some (t,q)):l.length=q.length+1:=by
 cases l with
 | nil=>cases h
 | cons t r=>
   simp only [jx] at h
   split at h
   · injection h with h; injection h with b a; subst a; rfl
   · cases h
theorem oB {l r:Tk} {a:Tx} (h:dz l=some (a,r)):a.length<=8/\l.length=r.length+1:=by
 unfold dz at h;obtain ⟨⟨t,q⟩,d,b⟩:=Option.bind_eq_some_iff.1 h;simp only at b
 split at b
 · rename_i c
   simp only [Option.some.injEq,Prod.mk.injEq] at b;obtain ⟨rfl,rfl⟩:=b;refine ⟨?_,Ge d⟩;simp only [ei,dU,Bool.and_eq_true,decide_eq_true_eq] at c;exact c.1.1.1.2
 · cases b
theorem Gf {l r:Tk} {a:Int} (h:iH l=some (a,r)):l.length=r.length+1:=by
 unfold iH at h;obtain ⟨⟨t,q⟩,c,b⟩:=Option.map_eq_some_iff.1 h;simp only [Prod.mk.injEq] at b;obtain ⟨_,rfl⟩:=b;exact Ge c
theorem Gg {l r:Tk} {p:Tx×Tx} (h:h6 l=some (p,r)):p.1.length+p.2.length<=16/\r.length+1<=l.length:=by
 unfold h6 at h;obtain ⟨⟨a,q⟩,e,c⟩:=Option.bind_eq_some_iff.1 h;obtain ⟨i,j⟩:=oB e;simp only at c
 split at c
 · rename_i k f
   obtain ⟨⟨b,m⟩,g,d⟩:=Option.map_eq_some_iff.1 c;simp only [Prod.mk.injEq] at d;obtain ⟨rfl,rfl⟩:=d;obtain ⟨n,o⟩:=oB g;have:=ej f;simp only;omega
 · simp only [Option.some.injEq,Prod.mk.injEq] at c
   obtain ⟨rfl,rfl⟩:=c;simp only [List.length_nil];omega
def WB (a:Tk->Option (aV×Tk)):Prop:=∀l x r,a l=some (x,r)->wE x+18*r.length<=18*l.length
theorem Gh {c:Tk->Option (aV×Tk)} (d:WB c):∀(n:Nat) (l:Tk) (xs:List aV) (r:Tk),jb c n l=some (xs,r)->ax xs+18*r.length<=18*l.length
 | 0,_,_,_,h=>by cases h
 | n+1,l,xs,r,h=>by
   unfold jb at h;obtain ⟨⟨x,q⟩,g,a⟩:=Option.bind_eq_some_iff.1 h;have k:=d l x q g;simp only at a
   split at a
   · rename_i e b
     simp only [Option.some.injEq,Prod.mk.injEq] at a;obtain ⟨rfl,rfl⟩:=a;have:=ej b;simp only [ax];omega
   · split at a
     · rename_i e b
       obtain ⟨⟨ys,i⟩,j,f⟩:=Option.map_eq_some_iff.1 a;simp only [Prod.mk.injEq] at f;obtain ⟨rfl,rfl⟩:=f;have:=ej b;have:=Gh d n e ys i j;simp only [ax];omega
     · cases a
theorem ta {a:Tk->Option (aV×Tk)} (b:WB a) {l r:Tk} {xs:List aV} (h:iI a l=some (xs,r)):ax xs+18*r.length<=18*l.length:=by
 unfold iI at h
 split at h
 · rename_i q c
   simp only [Option.some.injEq,Prod.mk.injEq] at h;obtain ⟨rfl,rfl⟩:=h;have:=ej c;simp only [ax];omega
 · exact Gh b _ _ _ _ h
theorem Gj:∀(a:List Tx) (i k:Nat) (l r:Tk),bu a i l=some (k,r)->r.length+1<=l.length
 | [],_,_,_,_,h=>by cases h
 | w::a,i,k,l,r,h=>by
   unfold bu at h
   split at h
   · rename_i q b
     simp only [Option.some.injEq,Prod.mk.injEq] at h;obtain ⟨_,rfl⟩:=h;have:=ej b;omega
   · exact Gj a _ _ _ _ h
theorem OE {c:Tk->Option (aV×Tk)} (d:WB c) {l r:Tk} {x:aV} (h:j_ c l=some (x,r)):wE x+18*r.length<=18*l.length:=by
 unfold j_ at h;obtain ⟨⟨a,p⟩,f,g⟩:=Option.bind_eq_some_iff.1 h;obtain ⟨⟨o,q⟩,i,j⟩:=Option.bind_eq_some_iff.1 g;obtain ⟨⟨b,s⟩,k,m⟩:=Option.bind_eq_some_iff.1 j;obtain ⟨t,n,e⟩:=Option.map_eq_some_iff.1 m;simp only [Prod.mk.injEq] at e;obtain ⟨rfl,rfl⟩:=e;have u:=d _ _ _ f;have v:=Gj _ _ _ _ _ i;have w:=d _ _ _ k;have y:=ej n;simp only [wE,ax,List.length_nil] at *;omega
theorem OF {d:Tk->Option (aV×Tk)} (e:WB d) {l r:Tk} {mod nm:Tx} {x:aV} (m:mod.length+nm.length<=16) (h:kx d mod nm l=some (x,r)):wE x+18*r.length<=17+18*l.length:=by
 unfold kx at h
 split at h
 · rename_i q b
   obtain ⟨⟨y,g⟩,c,a⟩:=Option.bind_eq_some_iff.1 h;obtain ⟨n,i,f⟩:=Option.map_eq_some_iff.1 a;simp only [Prod.mk.injEq] at f;obtain ⟨rfl,rfl⟩:=f;have j:=ej b;have k:=e _ _ _ c;have o:=ej i;simp only [wE,ax] at *;omega
 · split at h
   · rename_i q b
     obtain ⟨⟨xs,g⟩,c,a⟩:=Option.map_eq_some_iff.1 h;simp only [Prod.mk.injEq] at a;obtain ⟨rfl,rfl⟩:=a;have j:=ej b;have k:=ta e c;simp only [wE] at *;omega
   · simp only [Option.some.injEq,Prod.mk.injEq] at h
     obtain ⟨rfl,rfl⟩:=h;simp only [wE,ax] at *;omega
theorem OG {f:Tk->Option (aV×Tk)} (c:WB f):WB (jc f):=by
 intro l x r h;unfold jc at h
 split at h
 · rename_i q a
   simp only [Option.some.injEq,Prod.mk.injEq] at h;obtain ⟨rfl,rfl⟩:=h;have:=ej a;simp only [wE,ax,List.length_nil];omega
 · split at h
   · rename_i q a
     obtain ⟨⟨y,j⟩,d,b⟩:=Option.map_eq_some_iff.1 h;simp only [Prod.mk.injEq] at b;obtain ⟨rfl,rfl⟩:=b;have e:=ej a;have g:=c _ _ _ d;simp only [wE,ax,List.length_nil];omega
   · split at h
     · rename_i q a
       have e:=ej a;have g:=OE c h;omega
     · obtain ⟨⟨p,q⟩,d,b⟩:=Option.bind_eq_some_iff.1 h
       obtain ⟨e,g⟩:=Gg d;have i:=OF c e b;simp only at i;omega
theorem A1:∀f,WB (cC f)
 | 0=>λ_ _ _ h=>by cases h
 | f+1=>by
   intro l x r h
   cases l with
   | nil=>cases h
   | cons t q=>
     unfold cC at h
     by_cases a:t.kind=2
     · simp only [if_pos a,Option.some.injEq,Prod.mk.injEq] at h
       obtain ⟨rfl,rfl⟩:=h;simp only [wE,ax,List.length_nil,List.length_cons];omega
     · simp only [if_neg a] at h
       exact OG (A1 f) _ _ _ h
theorem OH {l r:Tk} {s:bl} (h:eM l=some (s,r)):wS s+18*r.length<=18*l.length:=by
 have c:=A1 6;unfold eM at h
 split at h
 · rename_i q a
   obtain ⟨⟨x,f⟩,k,b⟩:=Option.map_eq_some_iff.1 h;simp only [Prod.mk.injEq] at b;obtain ⟨rfl,rfl⟩:=b;have o:=ej a;have g:=c _ _ _ k;simp only [wS,ax,dC,List.length_nil];omega
 · split at h
   · rename_i q a
     obtain ⟨⟨x,f⟩,k,b⟩:=Option.map_eq_some_iff.1 h;simp only [Prod.mk.injEq] at b;obtain ⟨rfl,rfl⟩:=b;have o:=ej a;have g:=c _ _ _ k;simp only [wS,ax,dC,List.length_nil];omega
   · obtain ⟨⟨⟨mod,nm⟩,q⟩,b,d⟩:=Option.bind_eq_some_iff.1 h
     obtain ⟨v,o⟩:=Gg b;simp only at d v
     split at d
     · rename_i f a
       obtain ⟨⟨xs,p⟩,w,e⟩:=Option.map_eq_some_iff.1 d;simp only [Prod.mk.injEq] at e;obtain ⟨rfl,rfl⟩:=e;have g:=ej a;have t:=ta c w;simp only [wS,dC];omega
     · split at d
       · rename_i f a
         obtain ⟨⟨i,p⟩,e,m⟩:=Option.bind_eq_some_iff.1 d;obtain ⟨B,n,j⟩:=Option.bind_eq_some_iff.1 m;obtain ⟨C,y,z⟩:=Option.bind_eq_some_iff.1 j;obtain ⟨⟨x,D⟩,A,u⟩:=Option.map_eq_some_iff.1 z;simp only [Prod.mk.injEq] at u;obtain ⟨rfl,rfl⟩:=u;have g:=ej a;have t:=c _ _ _ e;have E:=ej n;have F:=ej y;have G:=c _ _ _ A;simp only [wS,ax,dC] at *;omega
       · obtain ⟨f,e,m⟩:=Option.bind_eq_some_iff.1 d
         obtain ⟨⟨x,p⟩,n,j⟩:=Option.map_eq_some_iff.1 m;simp only [Prod.mk.injEq] at j;obtain ⟨rfl,rfl⟩:=j;have g:=ej e;have t:=c _ _ _ n;simp only [wS,ax,dC];omega
def ur (pb:Tk->Option (List bl×Tk)):Prop:=∀l x r,pb l=some (x,r)->dC x+18*r.length<=18*l.length
theorem OI {pb:Tk->Option (List bl×Tk)} (f:ur pb) {l r:Tk} {s:bl} (h:eh pb l=some (s,r)):wS s+18*r.length<=18*l.length:=by
 have k:=A1 6;unfold eh at h
 split at h
 · rename_i q g
   obtain ⟨⟨x,m⟩,i,c⟩:=Option.bind_eq_some_iff.1 h;obtain ⟨⟨b,u⟩,d,a⟩:=Option.bind_eq_some_iff.1 c;have n:=ej g;have j:=k _ _ _ i;have p:=f _ _ _ d;simp only at a j p
   split at a
   · rename_i y v
     obtain ⟨⟨o,z⟩,w,e⟩:=Option.bind_eq_some_iff.1 a;have A:=ej v;have B:=f _ _ _ w;simp only at e
     split at e
     · cases e
     · simp only [Option.some.injEq,Prod.mk.injEq] at e
       obtain ⟨rfl,rfl⟩:=e;simp only [wS,ax,List.length_nil] at *;omega
   · simp only [Option.some.injEq,Prod.mk.injEq] at a
     obtain ⟨rfl,rfl⟩:=a;simp only [wS,ax,dC,List.length_nil] at *;omega
 · split at h
   · rename_i q g
     obtain ⟨⟨x,m⟩,i,c⟩:=Option.bind_eq_some_iff.1 h;obtain ⟨⟨b,u⟩,d,a⟩:=Option.map_eq_some_iff.1 c;simp only [Prod.mk.injEq] at a;obtain ⟨rfl,rfl⟩:=a;have n:=ej g;have j:=k _ _ _ i;have p:=f _ _ _ d;simp only [wS,ax,dC,List.length_nil] at *;omega
   · obtain ⟨⟨C,q⟩,c,d⟩:=Option.bind_eq_some_iff.1 h
     obtain ⟨m,a,t⟩:=Option.map_eq_some_iff.1 d;simp only [Prod.mk.injEq] at t;obtain ⟨rfl,rfl⟩:=t;have n:=OH c;have j:=ej a;simp only at *;omega
theorem Gl {ps:Tk->Option (bl×Tk)} (a:∀l x r,ps l=some (x,r)->wS x+18*r.length<=18*l.length):∀(n:Nat) (l:Tk) (xs:List bl) (r:Tk),ky ps n l=some (xs,r)->dC xs+18*r.length<=18*l.length
 | 0,_,_,_,h=>by cases h
 | n+1,l,xs,r,h=>by
   unfold ky at h
   split at h
   · rename_i q c
     simp only [Option.some.injEq,Prod.mk.injEq] at h;obtain ⟨rfl,rfl⟩:=h;have:=ej c;simp only [dC];omega
   · obtain ⟨⟨s,q⟩,d,e⟩:=Option.bind_eq_some_iff.1 h
     obtain ⟨⟨ys,f⟩,g,b⟩:=Option.map_eq_some_iff.1 e;simp only [Prod.mk.injEq] at b;obtain ⟨rfl,rfl⟩:=b;have i:=a _ _ _ d;have j:=Gl a n q ys f g;simp only [dC];omega
theorem A2:∀f,ur (fb f)
 | 0=>λ_ _ _ h=>by cases h
 | f+1=>by
   intro l x r h;unfold fb at h;obtain ⟨q,a,b⟩:=Option.bind_eq_some_iff.1 h;have d:=ej a;have e:=Gl (λl x r c=>OI (A2 f) c) _ _ _ _ b;omega
theorem A3 (l:Tk):(ea l).2.length<=l.length:=by
 unfold ea
 cases h:aU cH l with
 | none=>exact Nat.le_refl _
 | some q=>have:=ej h; simp only [Option.getD_some]; omega
theorem OJ {bx:Bool} {l r:Tk} {d:cB} (h:eT bx l=some (some d,r)):1+d.nm.length+18*r.length<=18*l.length:=by
 unfold eT at h
 split at h
 · rename_i q c
   obtain ⟨⟨a,m⟩,w,i⟩:=Option.bind_eq_some_iff.1 h;obtain ⟨o,e,f⟩:=Option.bind_eq_some_iff.1 i;obtain ⟨⟨n,x⟩,b,j⟩:=Option.bind_eq_some_iff.1 f;obtain ⟨y,k,g⟩:=Option.map_eq_some_iff.1 j;simp only [Prod.mk.injEq,Option.some.injEq] at g;obtain ⟨rfl,rfl⟩:=g;have p:=ej c;obtain ⟨s,t⟩:=oB w;have u:=ej e;have z:=Gf b;have A:=ej k;simp only at *;omega
 · split at h
   · rename_i q c
     obtain ⟨⟨a,m⟩,i,e⟩:=Option.bind_eq_some_iff.1 h;obtain ⟨o,f,b⟩:=Option.map_eq_some_iff.1 e;simp only [Prod.mk.injEq,Option.some.injEq] at b;obtain ⟨rfl,rfl⟩:=b;have p:=ej c;obtain ⟨s,t⟩:=oB i;have u:=ej f;simp only at *;omega
   · split at h
     · rename_i q c
       obtain ⟨⟨a,m⟩,e,f⟩:=Option.bind_eq_some_iff.1 h;obtain ⟨o,b,j⟩:=Option.bind_eq_some_iff.1 f;obtain ⟨⟨n,x⟩,k,g⟩:=Option.bind_eq_some_iff.1 j;obtain ⟨y,B,C⟩:=Option.bind_eq_some_iff.1 g;obtain ⟨E,D,v⟩:=Option.map_eq_some_iff.1 C;simp only [Prod.mk.injEq,Option.some.injEq] at v;obtain ⟨rfl,rfl⟩:=v;have p:=ej c;obtain ⟨s,t⟩:=oB e;have u:=ej b;have z:=Gf k;have A:=ej B;have F:=ej D;simp only at *;omega
     · simp at h
theorem Gm:∀(n:Nat) (bx:Bool) (l:Tk) (ds:List cB) (b:Bool) (r:Tk),jS n bx l=some ((ds,b),r)->wD ds+18*r.length<=18*l.length
 | 0,_,_,_,_,_,h=>by cases h
 | n+1,bx,l,ds,b,r,h=>by
   unfold jS at h;obtain ⟨⟨o,q⟩,c,a⟩:=Option.bind_eq_some_iff.1 h
   cases o with
   | none=>
     have:=AJ c;simp only [Option.some.injEq,Prod.mk.injEq] at a;obtain ⟨⟨e,_⟩,f⟩:=a;rw [<-e,<-f,this];simp [wD]
   | some x=>
     obtain ⟨⟨⟨ys,pb⟩,i⟩,g,d⟩:=Option.map_eq_some_iff.1 a;simp only [Prod.mk.injEq] at d;obtain ⟨⟨rfl,rfl⟩,rfl⟩:=d;have j:=OJ c;have k:=Gm n _ _ _ _ _ g;have m:=A3 q;simp only [wD] at *;omega
theorem Gn:∀(n:Nat) (first:Bool) (l:Tk) (xs:List Tx) (r:Tk),hr n first l=some (xs,r)->wN xs+18*r.length<=18*l.length
 | 0,_,_,_,_,h=>by cases h
 | n+1,first,l,xs,r,h=>by
   unfold hr at h
   split at h
   · rename_i q e
     simp only [Option.some.injEq,Prod.mk.injEq] at h;obtain ⟨rfl,rfl⟩:=h;have:=ej e;simp only [wN];omega
   · obtain ⟨c,b,f⟩:=Option.bind_eq_some_iff.1 h
     obtain ⟨⟨a,q⟩,g,i⟩:=Option.bind_eq_some_iff.1 f;obtain ⟨⟨ys,j⟩,k,d⟩:=Option.map_eq_some_iff.1 i;simp only [Prod.mk.injEq] at d;obtain ⟨rfl,rfl⟩:=d
     have m:c.length<=l.length:=by
       cases first with
       | true=>simp only [if_true,Option.some.injEq] at b; subst b; exact Nat.le_refl _
       | false=>have:=ej (s:=[44]) (l:=l) (q:=c) b; omega
     obtain ⟨o,p⟩:=oB g;have t:=Gn n false q ys j k;simp only [wN] at *;omega
theorem Gp:∀(n:Nat) (l:Tk) (xs:List Tx) (r:Tk),im n l=some (xs,r)->wN xs+18*r.length<=18*l.length
 | 0,_,_,_,h=>by cases h
 | n+1,l,xs,r,h=>by
   unfold im at h
   split at h
   · rename_i q c
     obtain ⟨⟨a,m⟩,d,e⟩:=Option.bind_eq_some_iff.1 h;obtain ⟨f,g,i⟩:=Option.bind_eq_some_iff.1 e;obtain ⟨⟨ys,j⟩,k,b⟩:=Option.map_eq_some_iff.1 i;simp only [Prod.mk.injEq] at b;obtain ⟨rfl,rfl⟩:=b;have o:=ej c;obtain ⟨p,s⟩:=oB d;have t:=ej g;have u:=Gp n f ys j k;simp only [wN] at *;omega
   · simp only [Option.some.injEq,Prod.mk.injEq] at h
     obtain ⟨rfl,rfl⟩:=h;simp [wN]
theorem Gq:∀(n:Nat) (l:Tk) (xs:List Tx) (r:Tk),iJ n l=some (xs,r)->wN xs+18*r.length<=18*l.length
 | 0,_,_,_,h=>by cases h
 | n+1,l,xs,r,h=>by
   unfold iJ at h
   split at h
   · rename_i q c
     obtain ⟨⟨a,m⟩,d,e⟩:=Option.bind_eq_some_iff.1 h;obtain ⟨f,g,i⟩:=Option.bind_eq_some_iff.1 e;obtain ⟨⟨ys,j⟩,k,b⟩:=Option.map_eq_some_iff.1 i;simp only [Prod.mk.injEq] at b;obtain ⟨rfl,rfl⟩:=b;have o:=ej c;obtain ⟨p,s⟩:=oB d;have t:=ej g;have u:=Gq n f ys j k;simp only [wN] at *;omega
   · simp only [Option.some.injEq,Prod.mk.injEq] at h
     obtain ⟨rfl,rfl⟩:=h;simp [wN]
theorem OK {bx:Bool} {l r:Tk} {p:dA} (h:hP bx l=some (p,r)):p.nm.length+wN p.params+wN p.ay+dC p.body+18*r.length<=18*l.length:=by
 unfold hP at h;obtain ⟨⟨a,o⟩,d,e⟩:=Option.bind_eq_some_iff.1 h;obtain ⟨q,f,g⟩:=Option.bind_eq_some_iff.1 e;obtain ⟨⟨ps,s⟩,i,j⟩:=Option.bind_eq_some_iff.1 g;obtain ⟨⟨t,u⟩,k,m⟩:=Option.bind_eq_some_iff.1 j;obtain ⟨⟨b,v⟩,n,c⟩:=Option.map_eq_some_iff.1 m;simp only [Prod.mk.injEq] at c;obtain ⟨rfl,rfl⟩:=c;obtain ⟨w,x⟩:=oB d;have y:=ej f;have z:=Gn _ _ _ _ _ i;have A:=Gp _ _ _ _ k;have B:=A2 6 _ _ _ n;simp only at *;omega
theorem Gr:∀(n:Nat) (bx:Bool) (l:Tk) (ds:List dA) (a:Bool) (r:Tk),jT n bx l=some ((ds,a),r)->wP ds+18*r.length<=18*l.length
 | 0,_,_,_,_,_,h=>by cases h
 | n+1,bx,l,ds,a,r,h=>by
   unfold jT at h
   split at h
   · rename_i q c
     obtain ⟨⟨p,d⟩,e,f⟩:=Option.bind_eq_some_iff.1 h;obtain ⟨⟨⟨ys,pb⟩,i⟩,g,b⟩:=Option.map_eq_some_iff.1 f;simp only [Prod.mk.injEq] at b;obtain ⟨⟨rfl,rfl⟩,rfl⟩:=b;have j:=ej c;have k:=OK e;have m:=Gr n _ _ _ _ _ g;have o:=A3 d;simp only [wP] at *;omega
   · simp only [Option.some.injEq,Prod.mk.injEq] at h
     obtain ⟨⟨rfl,rfl⟩,rfl⟩:=h;simp [wP]
theorem uZ {l r:Tk} {m:aZ} (h:jU l=some (m,r)):wM m+18*r.length<=18*l.length:=by
 unfold jU at h;obtain ⟨q,d,h⟩:=Option.bind_eq_some_iff.1 h;obtain ⟨⟨a,s⟩,e,h⟩:=Option.bind_eq_some_iff.1 h;obtain ⟨t,f,h⟩:=Option.bind_eq_some_iff.1 h;obtain ⟨⟨us,g⟩,i,h⟩:=Option.bind_eq_some_iff.1 h;obtain ⟨⟨⟨ds,u⟩,v⟩,j,h⟩:=Option.bind_eq_some_iff.1 h;obtain ⟨⟨⟨ps,w⟩,x⟩,k,h⟩:=Option.bind_eq_some_iff.1 h;simp only at h
 split at h
 · cases h
 · obtain ⟨y,n,h⟩:=Option.bind_eq_some_iff.1 h
   obtain ⟨⟨b,z⟩,o,h⟩:=Option.bind_eq_some_iff.1 h;obtain ⟨A,p,c⟩:=Option.map_eq_some_iff.1 h;simp only [Prod.mk.injEq] at c;obtain ⟨rfl,rfl⟩:=c;have B:=ej d;obtain ⟨C,D⟩:=oB e;have E:=ej f;have F:=Gq _ _ _ _ i;have G:=Gm _ _ _ _ _ _ j;have H:=A3 g;have I:=Gr _ _ _ _ _ _ k;have J:=ej n;have K:=A2 6 _ _ _ o;have L:=ej p;simp only [wM] at *;omega
end Go.Bw
end
section
namespace Go.Bw
open Go
def u9 (l:Tk):Prop:=∀t ∈ l,t.kind=1->t.text.length<=8
structure rH (l r:Tk):Prop where
 ok:u9 r
 le:r.length<=l.length
theorem rH.trans {a b c:Tk} (h:rH a b) (g:rH b c):rH a c:=⟨g.ok,Nat.le_trans g.le h.le⟩
structure Vz (l:Tk) (p:aV×Tk):Prop extends rH l p.2 where
 w:wE p.1+40*p.2.length<=20+40*l.length
structure VA (l:Tk) (p:bl×Tk):Prop extends rH l p.2 where
 w:wS p.1+80*p.2.length<=80*l.length\/(p.2.length=l.length/\wS p.1<=40)
structure OL (l:Tk) (p:List bl×Tk):Prop extends rH l p.2 where
 w:dC p.1+80*p.2.length<=80*l.length
def A4 (pb:Tk->List bl×Tk):Prop:=∀l,u9 l->OL l (pb l)
end Go.Bw
end
section
namespace Go.Proofs
open Go.Shelf
def Tryz.OM:Go.Shelf.Ren:=⟨fun | 137=>165 | 217=>211 | 266=>250 | n=>n,fun | 9=>9 | 5=>5 | 3=>3 | n=>n,fun | n=>n⟩
theorem Tryz.ON:Go.Proofs.Lays.n137 Tryz.prog Tryz.OM:={
 mixed:=by kernel_rfl
 f137:=Tryz.func165.trans (congrArg some (by kernel_rfl))
 f217:=Tryz.func211.trans (congrArg some (by kernel_rfl))
 f266:=Tryz.func250.trans (congrArg some (by kernel_rfl))
 t3:=Tryz.underlying3
 a3:=Tryz.isAgg3
 z3:=Tryz.sizeOf3
 v3:=Tryz.zeroValue3
 t5:=Tryz.underlying5
 a5:=Tryz.isAgg5
 z5:=Tryz.sizeOf5
 v5:=Tryz.zeroValue5
 t9:=Tryz.underlying9
 a9:=Tryz.isAgg9
 z9:=Tryz.sizeOf9
 v9:=Tryz.zeroValue9 }
def Tryz.OO:Go.Shelf.Ren:=⟨fun | 171=>164 | 243=>210 | 246=>249 | 283=>268 | 284=>269 | 285=>270 | 286=>271 | 129=>207 | 317=>276 | 318=>277 | 319=>278 | 320=>279 | 337=>280 | 338=>281 | n=>n,fun | 3=>3 | 9=>9 | 2=>2 | 4=>4 | 171=>352 | 0=>0 | 53=>305 | 37=>161 | 5=>5 | 173=>354 | 212=>363 | 51=>303 | 20=>20 | 213=>364 | 46=>230 | 232=>365 | 233=>366 | n=>n,fun | 17=>3 | 18=>4 | 19=>5 | n=>n⟩
theorem Tryz.OP:Go.Proofs.LaysM.n171 Tryz.prog Tryz.OO:={
 mixed:=by kernel_rfl
 f129:=Tryz.func207.trans (congrArg some (by kernel_rfl))
 f171:=Tryz.func164.trans (congrArg some (by kernel_rfl))
 f243:=Tryz.func210.trans (congrArg some (by kernel_rfl))
 f246:=Tryz.func249.trans (congrArg some (by kernel_rfl))
 f283:=Tryz.func268.trans (congrArg some (by kernel_rfl))
 f284:=Tryz.func269.trans (congrArg some (by kernel_rfl))
 f285:=Tryz.func270.trans (congrArg some (by kernel_rfl))
 f286:=Tryz.func271.trans (congrArg some (by kernel_rfl))
 f317:=Tryz.func276.trans (congrArg some (by kernel_rfl))
 f318:=Tryz.func277.trans (congrArg some (by kernel_rfl))
 f319:=Tryz.func278.trans (congrArg some (by kernel_rfl))
 f320:=Tryz.func279.trans (congrArg some (by kernel_rfl))
 f337:=Tryz.func280.trans (congrArg some (by kernel_rfl))
 f338:=Tryz.func281.trans (congrArg some (by kernel_rfl))
 t0:=Tryz.underlying0
 a0:=Tryz.isAgg0
 z0:=Tryz.sizeOf0
 v0:=Tryz.zeroValue0
 t2:=Tryz.underlying2
 a2:=Tryz.isAgg2
 z2:=Tryz.sizeOf2
 v2:=Tryz.zeroValue2
 t3:=Tryz.underlying3
 a3:=Tryz.isAgg3
 z3:=Tryz.sizeOf3
 v3:=Tryz.zeroValue3
 t4:=Tryz.underlying4
 a4:=Tryz.isAgg4
 z4:=Tryz.sizeOf4
 v4:=Tryz.zeroValue4
 t5:=Tryz.underlying5
 a5:=Tryz.isAgg5
 z5:=Tryz.sizeOf5
 v5:=Tryz.zeroValue5
 t9:=Tryz.underlying9
 a9:=Tryz.isAgg9
 z9:=Tryz.sizeOf9
 v9:=Tryz.zeroValue9
 t20:=Tryz.underlying20
 a20:=Tryz.isAgg20
 z20:=Tryz.sizeOf20
 v20:=Tryz.zeroValue20
 t37:=Tryz.underlying161
 a37:=Tryz.isAgg161
 z37:=Tryz.sizeOf161
 v37:=Tryz.zeroValue161
 t46:=Tryz.underlying230
 a46:=Tryz.isAgg230
 z46:=Tryz.sizeOf230
 v46:=Tryz.zeroValue230
 t51:=Tryz.underlying303
 a51:=Tryz.isAgg303
 z51:=Tryz.sizeOf303
 v51:=Tryz.zeroValue303
 t53:=Tryz.underlying305
 a53:=Tryz.isAgg305
 z53:=Tryz.sizeOf305
 v53:=Tryz.zeroValue305
 t171:=Tryz.underlying352
 a171:=Tryz.isAgg352
 z171:=Tryz.sizeOf352
 v171:=Tryz.zeroValue352
 t173:=Tryz.underlying354
 a173:=Tryz.isAgg354
 z173:=Tryz.sizeOf354
 v173:=Tryz.zeroValue354
 t212:=Tryz.underlying363
 a212:=Tryz.isAgg363
 z212:=Tryz.sizeOf363
 v212:=Tryz.zeroValue363
 t213:=Tryz.underlying364
 a213:=Tryz.isAgg364
 z213:=Tryz.sizeOf364
 t232:=Tryz.underlying365
 a232:=Tryz.isAgg365
 z232:=Tryz.sizeOf365
 v232:=Tryz.zeroValue365
 t233:=Tryz.underlying366
 a233:=Tryz.isAgg366
 z233:=Tryz.sizeOf366
 v233:=Tryz.zeroValue366
 g17:=by kernel_rfl
 g18:=by kernel_rfl
 g19:=by kernel_rfl
 i0:=by kernel_rfl
 i2:=by kernel_rfl
 i3:=by kernel_rfl
 i4:=by kernel_rfl
 i5:=by kernel_rfl
 i9:=by kernel_rfl
 i20:=by kernel_rfl
 i37:=by kernel_rfl
 i46:=by kernel_rfl
 i51:=by kernel_rfl
 i53:=by kernel_rfl
 i171:=by kernel_rfl
 i173:=by kernel_rfl
 i212:=by kernel_rfl
 i232:=by kernel_rfl
 i233:=by kernel_rfl
 m17:=by kernel_rfl
 m18:=by kernel_rfl
 m19:=by kernel_rfl }
def Tryz.OQ:Go.Shelf.Ren:=⟨fun | 172=>163 | 244=>208 | 245=>209 | 247=>244 | 279=>245 | 280=>246 | 281=>247 | 282=>248 | 287=>265 | 316=>266 | 171=>164 | 205=>267 | 321=>274 | 322=>275 | 243=>210 | 246=>249 | 283=>268 | 284=>269 | 285=>270 | 286=>271 | 129=>207 | 317=>276 | 318=>277 | 319=>278 | 320=>279 | 337=>280 | 338=>281 | n=>n,fun | 9=>9 | 3=>3 | 75=>246 | 76=>247 | 4=>4 | 5=>5 | 167=>329 | 37=>161 | 0=>0 | 85=>330 | 2=>2 | 168=>332 | 53=>305 | 175=>347 | 46=>230 | 210=>350 | 127=>250 | 145=>361 | 143=>359 | 21=>21 | 171=>352 | 173=>354 | 212=>363 | 51=>303 | 20=>20 | 213=>364 | 232=>365 | 233=>366 | 80=>78 | n=>n,fun | 15=>0 | 16=>1 | 17=>3 | 18=>4 | 19=>5 | n=>n⟩
theorem Tryz.A5:Go.Proofs.LaysC.n172 Tryz.prog Tryz.OQ:={
 mixed:=by kernel_rfl
 f129:=Tryz.func207.trans (congrArg some (by kernel_rfl))
 f171:=Tryz.func164.trans (congrArg some (by kernel_rfl))
 f172:=Tryz.func163.trans (congrArg some (by kernel_rfl))
 f205:=Tryz.func267.trans (congrArg some (by kernel_rfl))
 f243:=Tryz.func210.trans (congrArg some (by kernel_rfl))
 f244:=Tryz.func208.trans (congrArg some (by kernel_rfl))
 f245:=Tryz.func209.trans (congrArg some (by kernel_rfl))
 f246:=Tryz.func249.trans (congrArg some (by kernel_rfl))
 f247:=Tryz.func244.trans (congrArg some (by kernel_rfl))
 f279:=Tryz.func245.trans (congrArg some (by kernel_rfl))
 f280:=Tryz.func246.trans (congrArg some (by kernel_rfl))
 f281:=Tryz.func247.trans (congrArg some (by kernel_rfl))
 f282:=Tryz.func248.trans (congrArg some (by kernel_rfl))
 f283:=Tryz.func268.trans (congrArg some (by kernel_rfl))
 f284:=Tryz.func269.trans (congrArg some (by kernel_rfl))
 f285:=Tryz.func270.trans (congrArg some (by kernel_rfl))
 f286:=Tryz.func271.trans (congrArg some (by kernel_rfl))
 f287:=Tryz.func265.trans (congrArg some (by kernel_rfl))
 f316:=Tryz.func266.trans (congrArg some (by kernel_rfl))
 f317:=Tryz.func276.trans (congrArg some (by kernel_rfl))
 f318:=Tryz.func277.trans (congrArg some (by kernel_rfl))
 f319:=Tryz.func278.trans (congrArg some (by kernel_rfl))
 f320:=Tryz.func279.trans (congrArg some (by kernel_rfl))
 f321:=Tryz.func274.trans (congrArg some (by kernel_rfl))
 f322:=Tryz.func275.trans (congrArg some (by kernel_rfl))
 f337:=Tryz.func280.trans (congrArg some (by kernel_rfl))
 f338:=Tryz.func281.trans (congrArg some (by kernel_rfl))
 t0:=Tryz.underlying0
 a0:=Tryz.isAgg0
 z0:=Tryz.sizeOf0
 v0:=Tryz.zeroValue0
 t2:=Tryz.underlying2
 a2:=Tryz.isAgg2
 z2:=Tryz.sizeOf2
 v2:=Tryz.zeroValue2
 t3:=Tryz.underlying3
 a3:=Tryz.isAgg3
 z3:=Tryz.sizeOf3
 v3:=Tryz.zeroValue3
 t4:=Tryz.underlying4
 a4:=Tryz.isAgg4
 z4:=Tryz.sizeOf4
 v4:=Tryz.zeroValue4
 t5:=Tryz.underlying5
 a5:=Tryz.isAgg5
 z5:=Tryz.sizeOf5
 v5:=Tryz.zeroValue5
 t9:=Tryz.underlying9
 a9:=Tryz.isAgg9
 z9:=Tryz.sizeOf9
 v9:=Tryz.zeroValue9
 t20:=Tryz.underlying20
 a20:=Tryz.isAgg20
 z20:=Tryz.sizeOf20
 v20:=Tryz.zeroValue20
 t21:=Tryz.underlying21
 a21:=Tryz.isAgg21
 z21:=Tryz.sizeOf21
 v21:=Tryz.zeroValue21
 t37:=Tryz.underlying161
 a37:=Tryz.isAgg161
 z37:=Tryz.sizeOf161
 v37:=Tryz.zeroValue161
 t46:=Tryz.underlying230
 a46:=Tryz.isAgg230
 z46:=Tryz.sizeOf230
 v46:=Tryz.zeroValue230
 t51:=Tryz.underlying303
 a51:=Tryz.isAgg303
 z51:=Tryz.sizeOf303
 v51:=Tryz.zeroValue303
 t53:=Tryz.underlying305
 a53:=Tryz.isAgg305
 z53:=Tryz.sizeOf305
 v53:=Tryz.zeroValue305
 t75:=Tryz.underlying246
 a75:=Tryz.isAgg246
 z75:=Tryz.sizeOf246
 v75:=Tryz.zeroValue246
 t76:=Tryz.underlying247
 a76:=Tryz.isAgg247
 z76:=Tryz.sizeOf247
 v76:=Tryz.zeroValue247
 t85:=Tryz.underlying330
 a85:=Tryz.isAgg330
 z85:=Tryz.sizeOf330
 v85:=Tryz.zeroValue330
 t127:=Tryz.underlying250
 a127:=Tryz.isAgg250
 z127:=Tryz.sizeOf250
 v127:=Tryz.zeroValue250
 t143:=Tryz.underlying359
 a143:=Tryz.isAgg359
 z143:=Tryz.sizeOf359
 v143:=Tryz.zeroValue359
 t145:=Tryz.underlying361
 a145:=Tryz.isAgg361
 z145:=Tryz.sizeOf361
 v145:=Tryz.zeroValue361
 t167:=Tryz.underlying329
 a167:=Tryz.isAgg329
 z167:=Tryz.sizeOf329
 v167:=Tryz.zeroValue329
 t168:=Tryz.underlying332
 a168:=Tryz.isAgg332
 z168:=Tryz.sizeOf332
 v168:=Tryz.zeroValue332
 t171:=Tryz.underlying352
 a171:=Tryz.isAgg352
 z171:=Tryz.sizeOf352
 v171:=Tryz.zeroValue352
 t173:=Tryz.underlying354
 a173:=Tryz.isAgg354
 z173:=Tryz.sizeOf354
 v173:=Tryz.zeroValue354
 t175:=Tryz.underlying347
 a175:=Tryz.isAgg347
 z175:=Tryz.sizeOf347
 v175:=Tryz.zeroValue347
 t210:=Tryz.underlying350
 a210:=Tryz.isAgg350
 z210:=Tryz.sizeOf350
 v210:=Tryz.zeroValue350
 t212:=Tryz.underlying363
 a212:=Tryz.isAgg363
 z212:=Tryz.sizeOf363
 v212:=Tryz.zeroValue363
 t213:=Tryz.underlying364
 a213:=Tryz.isAgg364
 z213:=Tryz.sizeOf364
 t232:=Tryz.underlying365
 a232:=Tryz.isAgg365
 z232:=Tryz.sizeOf365
 v232:=Tryz.zeroValue365
 t233:=Tryz.underlying366
 a233:=Tryz.isAgg366
 z233:=Tryz.sizeOf366
 v233:=Tryz.zeroValue366
 g15:=by kernel_rfl
 g16:=by kernel_rfl
 g17:=by kernel_rfl
 g18:=by kernel_rfl
 g19:=by kernel_rfl
 t80:=Tryz.underlying78
 a80:=Tryz.isAgg78
 z80:=Tryz.sizeOf78
 v80:=Tryz.zeroValue78
 i0:=by kernel_rfl
 i2:=by kernel_rfl
 i3:=by kernel_rfl
 i4:=by kernel_rfl
 i5:=by kernel_rfl
 i9:=by kernel_rfl
 i20:=by kernel_rfl
 i21:=by kernel_rfl
 i37:=by kernel_rfl
 i46:=by kernel_rfl
 i51:=by kernel_rfl
 i53:=by kernel_rfl
 i75:=by kernel_rfl
 i76:=by kernel_rfl
 i80:=by kernel_rfl
 i85:=by kernel_rfl
 i127:=by kernel_rfl
 i143:=by kernel_rfl
 i145:=by kernel_rfl
 i167:=by kernel_rfl
 i168:=by kernel_rfl
 i171:=by kernel_rfl
 i173:=by kernel_rfl
 i175:=by kernel_rfl
 i210:=by kernel_rfl
 i212:=by kernel_rfl
 i232:=by kernel_rfl
 i233:=by kernel_rfl
 m15:=by kernel_rfl
 m16:=by kernel_rfl
 m17:=by kernel_rfl
 m18:=by kernel_rfl
 m19:=by kernel_rfl
 c0:=by kernel_rfl
 c2:=by kernel_rfl
 c3:=by kernel_rfl
 c4:=by kernel_rfl
 c5:=by kernel_rfl
 c9:=by kernel_rfl
 c20:=by kernel_rfl
 c21:=by kernel_rfl
 c37:=by kernel_rfl
 c46:=by kernel_rfl
 c51:=by kernel_rfl
 c53:=by kernel_rfl
 c75:=by kernel_rfl
 c76:=by kernel_rfl
 c80:=by kernel_rfl
 c85:=by kernel_rfl
 c127:=by kernel_rfl
 c143:=by kernel_rfl
 c145:=by kernel_rfl
 c167:=by kernel_rfl
 c168:=by kernel_rfl
 c171:=by kernel_rfl
 c173:=by kernel_rfl
 c175:=by kernel_rfl
 c210:=by kernel_rfl
 c212:=by kernel_rfl
 c213:=by kernel_rfl
 c232:=by kernel_rfl
 c233:=by kernel_rfl }
end Go.Proofs
end
section
namespace Go.Proofs.YtccenighnmfhgaaGreatDoor
open Go.Bw
open Go.Proofs
theorem Gu (n:Nat) (u:Int):(((((n:Int)==0)||decide (8<(n:Int)))||decide (u<97))||decide (122<u)) = !((decide (1<=n)&&decide (n<=8))&&kR u):=by
 rw [Bool.eq_iff_iff];simp [kR];omega
theorem uL {s:List UInt8} {i:Nat} (h:i<s.length):s[i]? = some (s[i]?.getD 0):=by rw [List.getElem?_eq_getElem h]; rfl
theorem OR {s:List UInt8} {p:UInt8->Bool} {i:Nat} (h:i<s.length) (a:p (s[i]?.getD 0)=false):s.all p=false:=by
 rw [List.all_eq_false];exact ⟨_,List.mem_of_getElem? (uL h),by simp [a]⟩
theorem OS {s:List UInt8} {p:UInt8->Bool} (h:∀i,i<s.length->p (s[i]?.getD 0)=true):s.all p=true:=by
 rw [List.all_eq_true];intro x a;obtain ⟨i,hi⟩:=List.getElem?_of_mem a;have:=h i (List.getElem?_eq_some_iff.1 hi).1;rw [hi] at this;exact this
theorem Gv (u:UInt8):∀s:List UInt8,decide (0<=Lib.indexByte s u)=s.contains u
 | []=>rfl
 | b::l=>by
   have c:=Gv u l;have f:=Lib.indexByte_ge l u;unfold Lib.indexByte
   by_cases a:b=u
   · subst a; simp
   · have d:(b==u)=false:=by simpa using a
     have e:(u==b)=false:=by simpa using λh=>a h.symm
     rw [if_neg (by simp [d]),List.contains_cons,e,Bool.false_or,<-c]
     split
     · rename_i h; simp at h; simp [h]
     · rename_i h; simp at h
       rw [Bool.eq_iff_iff]; simp; omega
theorem toNat_inj {u v:UInt8} (h:(u.toNat:Int)=(v.toNat:Int)):u=v:=UInt8.toNat_inj.1 (by omega)
theorem dO:Tryz.prog.underlying 9=some .string:=by kernel_rfl
theorem Gw:Enters Tryz.prog 115:=enters_of Tryz.func115 (by kernel_rfl) rfl
theorem OT:Enters Tryz.prog 165:=enters_of Tryz.func165 (by kernel_rfl) rfl
theorem gZ:Tryz.prog.underlying 3=some (.int .i64):=by kernel_rfl
theorem s0:Tryz.prog.underlying 5=some (.int .u8):=by kernel_rfl
theorem A6:aE Tryz.prog 161 5 (.int .u8 0) 1 1:=hV (by kernel_rfl)
theorem Gx (u:Int) (w:World) :
   Calls Tryz.prog 115 #[.int .u8 u] w λe w'=>e = .returned (.bool (kR u||ew u))/\Ext w w':=by
 refine enter Tryz.func115 O 17 O O ?_;refine CE (Vs:=[]) (Ws.init (by simp)) (aa (ai O (ae (aa (ad O (I (aJ O O) (ad O ?_)))))));apply La 2 O O O O Y O O O O O
 ·intro b;refine Vg (Ym O) (Vg (hg O O) ?_);exact Gt 2 O O O
 refine ad O ?_;apply Lo 6 O O O O Y O O O O O
 ·intro c;refine Vg (Ym O) (Vg (aJ O O) (Vg (Ym O) ?_));apply La 2 O O O O (.g O O O) O O O O O
  ·intro d;refine Vg (Ym O) (Vg (hg O O) ?_);exact Gt 2 O O O
  exact Gt 4 O O O
 refine ai O (ae (aX ?_));refine R1 O O λw' a=>?_;exact ⟨O,a.fr⟩
theorem nC (s:List UInt8) (w:World) :
   Calls Tryz.prog 133 #[st s] w λe w'=>e = .returned (.bool (dU s))/\Ext w w':=by
 refine enter Tryz.func133 O 33 O O ?_;refine CE (Vs:=[]) (Ws.init (by simp)) (aa (ai O (ae (Cs (aa (ad O (I (mX dO O) (I (bP O O) (ad O ?_)))))))));apply Lo 3 O O O O Y O O O O O
 ·intro u;refine Vg (Ym O) (Vg (mX dO O) (Vg (dc O O) ?_));exact Gt 3 O O O
 refine ad O ?_;apply Lo 3 O O O O Y O O O O O
 ·intro p
  have c:0<s.length:=by
    rcases Nat.eq_zero_or_pos s.length with h | h
    · simp [h] at p
    · exact h
  have k:=uL c;refine Vg (Ym O) (Vg (qZ dO O O (by assumption)) (Vg (b0 O O) ?_));exact Gt 3 O O O
 refine ad O ?_;apply Lo 3 O O O O Y O O O O O
 ·intro q
  have c:0<s.length:=by
    rcases Nat.eq_zero_or_pos s.length with h | h
    · simp [h] at q
    · exact h
  have k:=uL c;refine Vg (Ym O) (Vg (qZ dO O O k) (Vg (dc O O) ?_));exact Gt 3 O O O
 refine ae ?_;refine Cc O (λa=>?_) (λa=>?_)
 ·rw [Gu] at a
  have r:dU s=false:=by
    unfold dU;simp only [Bool.not_eq_true'] at a;rw [a]; rfl
  refine aa (ai O (ae (aX (Er ?_))));refine R1 O O λw' b=>?_;exact ⟨by rw [r],b.fr⟩
 rw [Gu] at a
 have l:((decide (1<=s.length)&&decide (s.length<=8))&&kR ((s[0]?.getD 0).toNat))=true:=by simpa using a
 have v:s.length<=8:=by simp at l; omega
 refine bf (Cs (aa (ad O (I (mX dO O) (ad O (ae (Cb ?_)))))));refine CW (ι:=Nat) (λi=>[(24,.int .i64 (i:Int))]) [(0,_),(23,_)] (λi=>i<=s.length/\∀j,j<i->iy (s[j]?.getD 0)=true) (λi=>s.length-i) 0 ⟨Nat.zero_le _,by simp⟩ (sc O (sc O (sc O sn))) ?_;intro i ⟨hi,m⟩;refine aa (I (b0 O O) (ae (Cs ?_)));refine Cc O (λd=>?_) (λd=>?_)
 ·have n:i<s.length:=by simpa using d
  have t:=uL n;refine bf (Cs (Cb (aa (ad O (ai O (ae (aa (ad O (ad O (I (qZ dO O O t) (Lp Y O Gw O (λw b=>Gx _ w) ?_)))))))))));refine I (az O) (ae ?_);refine Cc O (λf=>?_) (λf=>?_)
  ·have g:iy (s[i]?.getD 0)=false:=by unfold iy; revert f; cases kR _<;>cases ew _<;>simp
   refine aa (ai O (ae (aX (cj (Er (Er (cj (Er ?_))))))));refine R1 O O λw' b=>?_;exact ⟨by unfold dU; rw [OR n g]; simp,b.fr⟩
  have g:iy (s[i]?.getD 0)=true:=by unfold iy; revert f; cases kR _<;>cases ew _<;>simp
  refine Ck (Eb (Et (Cr (I (Yi O O O (by omega)) (ad O (Ln ?_))))));exact Ea (i+1) (by omega) ⟨by omega,λj o=>by rcases Nat.lt_succ_iff_lt_or_eq.1 o with h | rfl; exact m j h; exact g⟩ (sc rfl (sc rfl (sc rfl sn))) (λ_ h=>h)
 have x:¬i<s.length:=by simpa using d
 refine Ce (Ex (Ex (cp (Et (aa (ai O (ae (aX ?_))))))));refine R1 O O λw' b=>?_;exact ⟨by unfold dU; rw [OS λj o=>m j (by omega),l]; rfl,b.fr⟩
theorem OU (s:List UInt8) (u:UInt8) (w:World):Calls Tryz.prog 165 #[st s,.int .u8 (u.toNat:Int)] w λe w'=>e = .returned (.int .i64 (Lib.indexByte s u))/\Ext w w':=
 (Any.strings_IndexByte Go.Proofs.Tryz.ON ⟨s.toArray⟩ (u.toNat:Int) w).mono λe w' h=>by
   obtain ⟨a,b⟩:=h;subst b
   have c:((u.toNat:Int)).toNat.toUInt8=u:=by simp
   rw [c] at a;exact ⟨a,Fr.refl _ _⟩
theorem OV (u:UInt8) (w:World) :
   Calls Tryz.prog 117 #[.int .u8 (u.toNat:Int)] w λe w'=>e = .returned (.bool (kS u))/\Ext w w':=by
 refine enter Tryz.func117 O 6 O O ?_;refine CE (Vs:=[]) (Ws.init (by simp)) (aa (ai O (ae (aa (ad O (Lp Y O OT O (λw a=>OU o4 u w) (I (aJ O O) (ai O ?_))))))));refine ae (aX ?_);refine R1 O O λw' a=>?_;exact ⟨by rw [Gv]; rfl,a.fr⟩
theorem any_true {α:Type} {p:α->Bool} {l:List α} {j:Nat} {x:α} (a:l[j]? = some x) (h:p x=true):l.any p=true:=List.any_eq_true.2 ⟨x,List.mem_of_getElem? a,h⟩
theorem any_false {α:Type} {p:α->Bool} {l:List α} (h:∀(j:Nat) (x:α),l[j]? = some x->p x=false):l.any p=false:=by
 rw [List.any_eq_false];intro x a;obtain ⟨j,b⟩:=List.getElem?_of_mem a;simp [h j x b]
theorem a' {α:Type} {l:List α} {i:Nat} {x:α} (h:l[i]? = some x):l.take (i+1)=l.take i++[x]:=by rw [List.take_add_one,h]; rfl
theorem Gy:an Tryz.prog 209 0=some 0:=by kernel_rfl
theorem aT:eG Tryz.prog 3=true:=by kernel_rfl
theorem OW:an Tryz.prog 209 2=some 2:=by kernel_rfl
theorem cN:eG Tryz.prog 9=true:=by kernel_rfl
theorem oC:eO Tryz.prog 91=some 3:=by kernel_rfl
theorem dp:f' Tryz.prog 209=some 3:=by kernel_rfl
def mb (s:List UInt8):Int:=match Lib.atoiAll s with | .ok v=>v | .range=>Lib.atoiSat s | _=>0
def qu (s:List UInt8):Bool:=match Lib.atoiAll s with | .ok _=>true | _=>false
theorem OX (s:List UInt8) : -9223372036854775808<=mb s/\mb s<=9223372036854775807:=by
 unfold mb
 cases h:Lib.atoiAll s with
 | ok v=>exact Lib.atoiAll_bounds h
 | range=>exact Lib.atoiSat_bounds s
 | _=>simp
theorem OY {s:List UInt8} (h:dU s=false):kT s=(⟨2,mb s,[]⟩,((qu s&&decide (0<=mb s))&&decide (mb s<=1099511627775))&&(Lib.itoa (mb s)==s)):=by
 rw [kT,if_neg (by simp [h])];unfold mb qu
 cases Lib.atoiAll s<;>simp
theorem Gz {s:List UInt8} {l:List Tok} {t:List UInt8} (h:ft s=(ft t).map (l++·)) (a:ft t=none):¬4096<s.length->ey s=([],1):=λb=>by
 rw [ey,if_neg b,h,a]; rfl
theorem OZ {s:List UInt8} {l:List Tok} (h:ft s=(ft []).map (l++·)):¬4096<s.length->ey s=(l,0):=λa=>by
 rw [ey,if_neg a,h]; simp [tV]
theorem wC {o:Option (List Tok)} {l:List Tok} {t:Tok}:(o.map (t::·)).map (l++·)=o.map ((l++[t])++·):=by
 cases o<;>simp
theorem A7:aK Tryz.prog 209=some [(0,1),(1,1),(2,1)]:=by kernel_rfl
theorem rI:zeroOf Tryz.prog 209=some (.agg #[.int .i64 0,.int .i64 0,st []]):=by kernel_rfl
theorem xn:aE Tryz.prog 91 209 (.agg #[.int .i64 0,.int .i64 0,st []]) 3 32:=hV (by kernel_rfl)
abbrev Laid (a:View):Prop:=y0 Tryz.prog 3 0 1 a
def GB : String := (Rows.buildCompilesRow.laid.map (·.1)).getD 2 ""
theorem A8:Tryz.prog.globalNamed GB=some 3:=by kernel_rfl
theorem O0 (b:View) (n:Int) (c : -9223372036854775808<=n) (a:n<=9223372036854775807) (w:World) (d:Le b w) (f:Laid b) :
   Calls Tryz.prog 164 #[.int .i64 n] w λe w'=>e = .returned (st (Lib.itoa n))/\Ext w w':=
 (Any.strconv_Itoa Go.Proofs.Tryz.OP n c a w (f.ep d A8)).mono λe w' h=>by
   obtain ⟨a,k,os,rfl⟩:=h;exact ⟨a,BG w k os⟩
theorem O1 (i:View) (s:List UInt8) (m:s.length<=4096) (w:World) (j:Le i w) (k:Laid i) :
   Calls Tryz.prog 163 #[st s] w λe w'=>∃r:Value,e = .returned (.tuple #[.int .i64 (mb s),r])/\Ext w w'/\dh r (qu s):=by
 have d:(ByteArray.mk s.toArray).size=s.length:=cq s
 cases h:Lib.atoiAll s with
 | ok v=>
   refine (Any.strconv_Atoi_ok Go.Proofs.Tryz.A5 ⟨s.toArray⟩ (by rw [d]; omega) v h w).mono λe w' a=>?_;obtain ⟨b,c⟩:=a;refine ⟨.nilIface,by simp only [mb,h]; exact b,?_,by simp [dh,qu,h]⟩
   rcases c with rfl | ⟨t,rfl⟩
   · exact Fr.refl _ _
   · exact Ext.yy (Lib.bytesWorld_below _ _ _)
 | range=>
   obtain ⟨f,hv,g⟩:=k.K_;refine (Any.strconv_Atoi_range Go.Proofs.Tryz.A5 ⟨s.toArray⟩ (by rw [d]; omega) h f w (j.cell hv) g).mono λe w' a=>?_;obtain ⟨l,b,_,_,c⟩:=a;exact ⟨_,by simp only [mb,h]; exact b,Ext.yy c,by simp [dh,qu,h]⟩
 | _=>
   obtain ⟨f,hv,g⟩:=k.K';refine (Any.strconv_Atoi_syntax Go.Proofs.Tryz.A5 ⟨s.toArray⟩ (by rw [d]; omega) h f w (j.cell hv) g).mono λe w' a=>?_;obtain ⟨l,b,_,_,c⟩:=a;exact ⟨_,by simp only [mb,h]; exact b,Ext.yy c,by simp [dh,qu,h]⟩
theorem O2:Tryz.prog.underlying 246=some (.interface (Tryz.prog.methodsAt 246)):=by kernel_rfl
theorem nD:Enters Tryz.prog 133:=enters_of Tryz.func133 (by kernel_rfl) rfl
theorem fZ:dk Tryz.prog 209=some 3:=by kernel_rfl
theorem O3:Enters Tryz.prog 163:=enters_of Tryz.func163 (by kernel_rfl) rfl
theorem O4:Enters Tryz.prog 164:=enters_of Tryz.func164 (by kernel_rfl) rfl
theorem O5:Enters Tryz.prog 116:=enters_of Tryz.func116 (by kernel_rfl) rfl
theorem O6:Enters Tryz.prog 117:=enters_of Tryz.func117 (by kernel_rfl) rfl
theorem O7 (b:View) (s:List UInt8) (i:s.length<=4096) (w:World) (j:Le b w) (f:Laid b) :
   Calls Tryz.prog 116 #[st s] w λe w'=>e = .returned (.tuple #[.agg #[.int .i64 (kT s).1.kind,.int .i64 (kT s).1.n,st (kT s).1.text],.bool (kT s).2])/\Ext w w':=by
 refine enter Tryz.func116 O 33 O O ?_;refine CE (Vs:=[b]) (Ws.init (by simp [j])) (aa ?_);refine Al Y O rI λl=>?_;refine ai O (ae (Cs (aa (ad O (Lp Y O nD O (λw a=>nC _ w) (ae ?_))))));refine Cc O (λc=>?_) (λc=>?_)
 ·have d:kT s=(⟨1,0,s⟩,true):=by rw [kT,if_pos c]
  refine aa (ad O (I (Yb rI A7 O O) (aO 0 Y O O O fZ O O O (ai O (ae (aX (Er ?_)))))));refine WE.p2 0 O O O O dp O λw' a=>?_;rw [d];exact ⟨O,a.fr⟩
 have d:=OY c;have h:=OX s;refine bf (aa (ad O ?_));refine Ld Y O O3 O (λr:Value=>.tuple #[.int .i64 (mb s),r]) (λ_ r=>dh r (qu s)) (λw a=>O1 b s i w (a.vs _ (by simp)) f) ?_;intro m o p k;refine ad O (I (Yx O O) (I (Yx O O) (ai O (ai O (ae (aa (ad O (I (Yb rI A7 O O) ?_))))))));refine ad O (I (K7 (qu s) O2 O k) (ad O ?_));apply La 2 O O O O Y O O O O O
 ·intro q;refine Vg (Ym O) (Vg (aJ O O) ?_);exact Gt 2 O O O
 refine ad O ?_;apply La 2 O O O O Y O O O O O
 ·intro t;refine Vg (Ym O) (Vg (hg O O) ?_);exact Gt 2 O O O
 refine ad O ?_;apply La 4 O O O O Y O O O O O
 ·intro u;refine Vg (Ym O) (Lp (.g O O O) O O4 O (λw a=>O0 b _ h.1 h.2 w (a.vs _ (by simp)) f) (Vg (Ym O) (Vg (qY O O) ?_)));exact Gt 4 O O O
 refine aO 0 Y O O O fZ O O O (ai O (ae (aX ?_)));refine WE.p2 0 O O O O dp O λw' a=>?_;rw [d];exact ⟨O,a.fr⟩
theorem O8 (k:View) (s:List UInt8) (w:World) (C:Le k w) (D:Laid k) :
   Calls Tryz.prog 47 #[st s] w λe w'=>∃r:Option Addr×Nat,e = .returned (.tuple #[.slice r.1 (ey s).1.length r.2,.int .i64 (ey s).2])/\Ext w w'/\Sl ag 3 (nv w w') r.1 r.2 (ey s).1:=by
 refine enter Tryz.func47 O 66 O O ?_;refine CE (Vs:=[k]) (Ws.init (by simp [C])) (aa (ai O (ai O (ae (Cs (aa (ad O (I (mX dO O) (I (dc O O) ?_)))))))));refine ae ?_;refine Cc O (λp=>?_) (λp=>?_)
 ·have l:4096<s.length:=by simp at p; omega
  have c:ey s=([],2):=by rw [ey,if_pos l]
  refine aa (ai O (ai O (ae (aX (Er ?_)))));refine WE.ee (fj O (gz O) (gz O)) λw' a=>?_;rw [c];exact ⟨(none,0),O,a.fr,Sl.nil⟩
 have l:¬4096<s.length:=by simp at p; omega
 refine bf (aa (ai O (LW (λ_ h=>h.e4 209 3) (ae (Cs (Cb ?_))))));refine av (ι:=List UInt8×List Tok×Option Addr×Nat) (λg=>[(0,st g.1),(4,.slice g.2.2.1 g.2.1.length g.2.2.2)]) [] (λg=>Ws w [] [cf 209 3 Tok.cells g.2.2.1 g.2.2.2 (g.2.1)] [k]) (λg=>g.2.1.length+g.1.length<=s.length/\ft s=(ft g.1).map (g.2.1++·)) (λg=>g.1.length) (s,[],none,0) ⟨by simp,by simp⟩ (sc O (sc O sn)) (λ_ h=>h) ?_;intro g ⟨R,d⟩;refine Cs (aa (ad O (I (vO O O) (ae ?_))));refine Cc O (λn=>?_) (λn=>?_)
 ·obtain ⟨u,r,b⟩:∃u r,g.1=u::r:=by
    cases z:g.1 with
    | nil=>rw [z] at n; simp at n
    | cons u r=>exact ⟨u,r,rfl⟩
  have S:g.1.length=r.length+1:=by rw [b]; rfl
  refine bf (Cb (aa (ai O (ae (Cs (Cb ?_))))));refine CW (ι:=Nat) (λi=>[(5,.int .i64 (i:Int))]) [(0,_),(4,_)] (λi=>i<=g.1.length/\∀j,j<i->iy (g.1[j]?.getD 0)=true) (λi=>g.1.length-i) 0 ⟨Nat.zero_le _,by simp⟩ (sc O (sc O (sc O sn))) ?_;intro i ⟨hi,A⟩;refine Cs (aa (ad O (ad O (I (mX dO O) (I (b0 O O) (ad O ?_))))));apply La 4 O O O O Y O O O O O
  ·intro E
   have B:i<g.1.length:=by simpa using E
   have F:=uL B;refine Vg (Ym O) (Vg (Ym O) (Vg (qZ dO O O F) (Lp (.g O O O) O Gw O (λw a=>Gx _ w) ?_)));exact Gt 4 O O O
  refine ae ?_;refine Cc O (λf=>?_) (λf=>?_)
  ·have B:i<g.1.length:=by
     simp only [Bool.and_eq_true,decide_eq_true_eq] at f;omega
   have G:iy (g.1[i]?.getD 0)=true:=by
     simp only [Bool.and_eq_true] at f;exact f.2
   refine bf (Cb (Cr (ad O (I (Yi O O O (by omega)) (ai O (Ln (Eb ?_)))))));exact Ea (i+1) (by omega) ⟨by omega,λj H=>by rcases Nat.lt_succ_iff_lt_or_eq.1 H with h | rfl; exact A j h; exact G⟩ (sc rfl (sc rfl (sc rfl sn))) (λ_ h=>h)
  have q:eX g.1=i:=by
    refine y4 _ _ hi A ?_
    rcases Nat.lt_or_ge i g.1.length with h | h
    · right
      rw [decide_eq_true (by omega:((i:Nat):Int)<(g.1.length:Int)),Bool.true_and] at f;exact f
    · left; omega
  have J:g.1[0]? = some u:=by rw [b]; rfl
  refine Ce (Ex (Ex (cp (Et (Cs (aa (ad O (I (qZ dO O O (i:=0) J) (ai O (ae (Cb (aa (ad O (I (dc O O) ?_))))))))))))));refine ai O (ae ?_);refine Cc O (λt=>?_) (λt=>?_)
  ·have T:0<i:=by simp at t; omega
   refine aa (ad O (ad O (I (yR Tryz.underlying9 O O (by omega) (by omega)) ?_)));rw [Int.toNat_natCast];refine Lp Y O O5 O (λw a=>O7 k _ (by simp; omega) w (a.vs _ (by simp)) D) (ad O (I (Yx O O) (I (Yx O O) ?_)));refine Al Y O rI λU=>?_;refine aO 0 Y O O O fZ O O O (ai O (ae (Cs (aa (ad O (I (az O) (ae ?_)))))));refine Cc O (λv=>?_) (λv=>?_)
   ·have c:ey s=([],1):=Gz d (by rw [q' (by omega),q,Dr,if_neg (by simpa using v)]) l;refine aa (ai O (ai O (ae (aX (Er (cj (Er (cj (Er (cj (Er ?_)))))))))));refine WE.ee (fj O (gz O) (gz O)) λw' a=>?_;rw [c];exact ⟨(none,0),O,a.fr,Sl.nil⟩
   have K:nc (g.1.take i)=some ((kT (g.1.take i)).1):=by rw [Dr,if_pos (by simpa using v)]
   refine bf (aa (ad O (I (b8 0 O O dp O) ?_)));refine Lb Y O xn O O O O λV=>?_;refine cD 0 (.cells (Tok.cells ((kT (g.1.take i)).1)).toArray 209 (0,0)) O O ?_;refine LA ((kT (g.1.take i)).1) 2 0 Y O xn O O O O O O (by omega) (by omega) λL M=>?_;refine ai O (ae (aa (ad O (ad O (I (wb Tryz.underlying9 O O (by omega) (by omega)) ?_)))));rw [Int.toNat_natCast];refine ai O (ae (Ce (tH O (Ex (cp ?_)))))
   exact Ea ((g.1.drop i,g.2.1++[(kT (g.1.take i)).1],L,M):List UInt8×List Tok×Option Addr×Nat) (by dsimp only; simp; omega) ⟨by dsimp only; simp; omega,by
       dsimp only;rw [d,q' (by omega),q,K];simp only
       rw [wC]⟩ (sc rfl (sc rfl sn)) (λ_ h=>Wd 2 h)
  have x:eX (u::r)=0:=by rw [<-b,q]; simp at t; omega
  refine aa (ad O (Lp Y O O6 O (λw a=>OV _ w) (ai O (ae ?_))));refine Cc O (λo=>?_) (λo=>?_)
  ·refine Cr (ad O (ad O (I (yR Tryz.underlying9 O O (by omega) (by omega)) ?_)));rw [show g.1.take (1:Int).toNat=[u] by rw [b]; rfl];refine I (Yb rI A7 O O) ?_;refine Lb Y O xn O O O O λW=>?_;refine cD 0 (.cells (Tok.cells (Tok.mk 3 0 [u])).toArray 209 (0,0)) O O ?_;refine LA (Tok.mk 3 0 [u]) 1 0 Y O xn O O O O O O (by omega) (by omega) λN P=>?_;refine ai O (Ln (Eb (Et (Cr (ad O (I (wb Tryz.underlying9 O O (by omega) (by omega)) ?_))))));rw [show g.1.drop (1:Int).toNat=r by rw [b]; rfl];refine ai O (Ln (Eb ?_))
   exact Ea ((r,g.2.1++[Tok.mk 3 0 [u]],N,P):List UInt8×List Tok×Option Addr×Nat) (by dsimp only; omega) ⟨by dsimp only; simp; omega,by
       dsimp only
       rw [d,b,tW x (by simpa using o),wC]⟩ (sc rfl (sc rfl sn)) (λ_ h=>Wd 1 h)
  refine aa (ad O (I (e8 O O) (ad O ?_)));apply La 2 O O O O Y O O O O O
  ·intro z;refine Vg (Ym O) (Vg (e8 O O) ?_);exact Gt 2 O O O
  refine ai O (ae ?_);refine Cc O (λm=>?_) (λm=>?_)
  ·have y:¬(u=32\/u=10):=by
     rintro (h | h)<;>rw [h] at m<;>simp at m
   have c:ey s=([],1):=Gz d (by rw [b,wq x (by simpa using o) y]) l;refine aa (ai O (ai O (ae (aX (cj (Er (cj (Er (cj (Er ?_))))))))));refine WE.ee (fj O (gz O) (gz O)) λw' a=>?_;rw [c];exact ⟨(none,0),O,a.fr,Sl.nil⟩
  have y:u=32\/u=10:=by
    simp only [bne,Bool.and_eq_false_iff,Bool.not_eq_false',beq_iff_eq] at m
    rcases m with h | h
    · left; exact toNat_inj (by simpa using h)
    · right; exact toNat_inj (by simpa using h)
  refine Ck (Eb (Et (Cr (ad O (I (wb Tryz.underlying9 O O (by omega) (by omega)) ?_)))));rw [show g.1.drop (1:Int).toNat=r by rw [b]; rfl];refine ai O (Ln (Eb ?_))
  exact Ea ((r,g.2.1,g.2.2.1,g.2.2.2):List UInt8×List Tok×Option Addr×Nat) (by dsimp only; omega) ⟨by dsimp only; omega,by
      dsimp only
      rw [d,b,eH x (by simpa using o) y]⟩ (sc rfl (sc rfl sn)) (λ_ h=>h)
 have Q:g.1=[]:=by simpa using n
 have c:ey s=(g.2.1,0):=by
   rw [Q] at d;exact OZ d l
 refine Ce (Ex (Ex (cp (Et (aa (ad O (ai O (ai O (ae (aX ?_))))))))));refine WE.ee (fj O (gz O) (gz O)) λw' a=>?_;rw [c];exact ⟨(g.2.2.1,g.2.2.2),O,a.fr,a.jg 0 O Tok.aj (λ_ _ _ _ h=>h)⟩
abbrev kI:Int->Value:=λn:Int=>Value.int .i64 n
def vS (r:Bool) (a:Int):Value:=.agg #[.bool r,.int .i64 a]
def g_ (n:Nat):List (c8 Int):=[(1,vS false 0,0),(2,vS false 0,1),(3,vS true 0,2),(4,vS true 1,3),(5,vS true (-1),4),(6,vS false 1,5)]++(List.range n).map λj=>(((7+j:Nat):Int),vS false 2,6+j)
def iq:List (c8 Int):=[(1,vS true 1,0),(2,vS true 2,1),(3,vS true (-1),2),(4,vS false 1,3),(5,vS false 1,4),(6,vS false 1,5),(7,vS false 1,6)]
theorem O9 (n:Nat) (h:n<9):b4 kI (dZ ((7+n:Nat):Int) (vS false 2) (g_ n) (6+n)) (gA ((7+n:Nat):Int) (g_ n) (6+n))=b4 kI (g_ (n+1)) (6+(n+1)):=by
 match n,h with
 | 0,_=>rfl
 | 1,_=>rfl
 | 2,_=>rfl
 | 3,_=>rfl
 | 4,_=>rfl
 | 5,_=>rfl
 | 6,_=>rfl
 | 7,_=>rfl
 | 8,_=>rfl
theorem GC (op:Int):eD op (g_ 9) (vS false 0)=vS ((dR op).getD (false,0)).1 ((dR op).getD (false,0)).2/\lS op (g_ 9) = !(dR op).isNone:=by
 by_cases e:op=1
 · subst e; exact ⟨rfl,rfl⟩
 by_cases f:op=2
 · subst f; exact ⟨rfl,rfl⟩
 by_cases a:op=3
 · subst a; exact ⟨rfl,rfl⟩
 by_cases b:op=4
 · subst b; exact ⟨rfl,rfl⟩
 by_cases c:op=5
 · subst c; exact ⟨rfl,rfl⟩
 by_cases d:op=6
 · subst d; exact ⟨rfl,rfl⟩
 by_cases g:op=7
 · subst g; exact ⟨rfl,rfl⟩
 by_cases h:op=8
 · subst h; exact ⟨rfl,rfl⟩
 by_cases i:op=9
 · subst i; exact ⟨rfl,rfl⟩
 by_cases j:op=10
 · subst j; exact ⟨rfl,rfl⟩
 by_cases k:op=11
 · subst k; exact ⟨rfl,rfl⟩
 by_cases l:op=12
 · subst l; exact ⟨rfl,rfl⟩
 by_cases m:op=13
 · subst m; exact ⟨rfl,rfl⟩
 by_cases n:op=14
 · subst n; exact ⟨rfl,rfl⟩
 by_cases o:op=15
 · subst o; exact ⟨rfl,rfl⟩
 have p:dR op=none:=by
   unfold dR;rw [if_neg (by omega),if_neg a,if_neg b,if_neg c,if_neg d,if_neg (by omega)]
 have q:cw op (g_ 9) 0=none:=by
   show cw op [(1,vS false 0,0),(2,vS false 0,1),(3,vS true 0,2),(4,vS true 1,3),(5,vS true (-1),4),(6,vS false 1,5),(7,vS false 2,6),(8,vS false 2,7),(9,vS false 2,8),(10,vS false 2,9),(11,vS false 2,10),(12,vS false 2,11),(13,vS false 2,12),(14,vS false 2,13),(15,vS false 2,14)] 0=none
   simp [cw,e,f,a,b,c,d,g,h,i,j,k,l,m,n,o]
 rw [eD,lS,q,p];exact ⟨O,O⟩
theorem wG (op:Int):eD op iq (vS false 0)=vS ((cu op).getD (false,0)).1 ((cu op).getD (false,0)).2/\lS op iq = !(cu op).isNone:=by
 by_cases a:op=1
 · subst a; exact ⟨rfl,rfl⟩
 by_cases b:op=2
 · subst b; exact ⟨rfl,rfl⟩
 by_cases c:op=3
 · subst c; exact ⟨rfl,rfl⟩
 by_cases d:op=4
 · subst d; exact ⟨rfl,rfl⟩
 by_cases e:op=5
 · subst e; exact ⟨rfl,rfl⟩
 by_cases f:op=6
 · subst f; exact ⟨rfl,rfl⟩
 by_cases g:op=7
 · subst g; exact ⟨rfl,rfl⟩
 have h:cu op=none:=by
   unfold cu;rw [if_neg a,if_neg b,if_neg c,if_neg (by omega)]
 have i:cw op iq 0=none:=by simp [iq,cw,a,b,c,d,e,f,g]
 rw [eD,lS,i,h];exact ⟨O,O⟩
theorem wH:∀a b:List Tx,bp (a++b)=bp a+bp b
 | [],b=>by apply bo.ext'<;>simp [bo.q_,bo.ra,bo.rb,bp,c0]
 | x::a,b=>by
   rw [List.cons_append,show ∀q,bp (x::q)=dn (!ei x)+bp q from λ_=>rfl,wH a b,show ∀q,bp (x::q)=dn (!ei x)+bp q from λ_=>rfl,bo.gM]
theorem O' (s:Tx):bp [s]=dn (!ei s):=rfl
theorem O_ {l:List Tx} {i:Nat} {s:Tx} (h:l[i]? = some s):bp (l.take (i+1))=bp (l.take i)+dn (!ei s):=by rw [a' h,wH,O']
theorem dr (c:bo):c+c0=c:=rfl
theorem Pa (c:bo):c.f<=c.bE:=by unfold bo.bE; omega
theorem Pb (c:bo):c.m<=c.bE:=by unfold bo.bE; omega
theorem Pc (c:bo):c.k<=c.bE:=by unfold bo.bE; omega
theorem dT:aE Tryz.prog 22 9 (st []) 1 16:=hV (by kernel_rfl)
theorem di:eO Tryz.prog 22=some 1:=by kernel_rfl
theorem Pd:Enters Tryz.prog 251:=enters_of Tryz.func251 (by kernel_rfl) rfl
theorem Pe:Enters Tryz.prog 213:=enters_of Tryz.func213 (by kernel_rfl) rfl
theorem Pf:Enters Tryz.prog 212:=enters_of Tryz.func212 (by kernel_rfl) rfl
theorem lF:aK Tryz.prog 274=some [(0,1),(1,1)]:=by kernel_rfl
theorem jV:zeroOf Tryz.prog 274=some (.agg #[.bool false,.int .i64 0]):=by kernel_rfl
theorem kz:Tryz.prog.underlying 220=some (.map 3 274):=by kernel_rfl
theorem mixed:Tryz.prog.follows .mixedOrders=true:=by kernel_rfl
theorem rJ:an Tryz.prog 224 0=some 0:=by kernel_rfl
theorem rK:q7 Tryz.prog 222=some (10,1):=by kernel_rfl
theorem dP:dk Tryz.prog 3=some 1:=by kernel_rfl
theorem Pg (w:World) :
   Calls Tryz.prog 213 #[] w λe w'=>∃r:Option Addr×Nat,e = .returned (.slice r.1 bN.length r.2)/\Ext w w'/\Sl rdStr 1 (nv w w') r.1 r.2 bN:=by
 refine enter Tryz.func213 O 2 O O ?_;refine CE (Vs:=[]) (Ws.init (by simp)) (aa (ai O (ae (aa ?_))));refine Lb Y O dT O O O O λa=>?_;refine ai O (ae (aX ?_));refine WE.ee (gL O (gz O)) λw' b=>?_
 exact ⟨(some ⟨a,0,none⟩,15),O,b.fr,⟨show bN.length<=15 by decide,show 15<=9223372036854775807 by decide,by simp,λj x d=>⟨a,0,O,λk v c=>b.yH 0 O (by
     have:k<1:=(List.getElem?_eq_some_iff.1 c).1
     show (bN.flatMap dD)[0+j*1+k]? = some v
     rw [Nat.zero_add,o2 iA d this]; exact c)⟩⟩⟩
theorem Ph (b:View) (a:Option Addr) (c:Nat) (l:List Tx) (s:Tx) (w:World) (r:Le b w) (f:Sl rdStr 1 b a c l) :
   Calls Tryz.prog 251 #[.slice a l.length c,st s] w λe w'=>(∃n:Int,e = .returned (.int .i64 n)/\decide (0<=n)=l.contains s)/\Ext w w':=by
 have B:=f.cap;have C:=f.max;refine enter Tryz.func251 O 19 O O ?_;refine CE (Vs:=[b]) (Ws.init (by simp [r])) (aa (ai O (ae (Cs (aa (ad O (I (Yn di O) (ad O (ae (Cb ?_))))))))));refine CW (ι:=Nat) (λi=>[(8,.int .i64 (i:Int))]) [(0,_),(1,_),(7,_)] (λi=>i<=l.length/\∀j,j<i->l[j]?≠some s) (λi=>l.length-i) 0 ⟨Nat.zero_le _,by simp⟩ (sc O (sc O (sc O (sc O sn)))) ?_;intro i ⟨hi,q⟩;refine aa (I (b0 O O) (ae (Cs ?_)));refine Cc O (λg=>?_) (λg=>?_)
 ·have t:i<l.length:=by simpa using g
  obtain ⟨x,k⟩:∃x,l[i]? = some x:=⟨_,List.getElem?_eq_getElem t⟩;obtain ⟨u,v,D,m⟩:=f.bJ i x k;have m:bI b u (v+i*1) (dD x):=m;refine bf (Cs (Cb (aa (ad O (ai O (ae (aa (ad O (ad O (ad O (I (Yo di O O (by assumption) (by omega)) ?_)))))))))));refine I (b9 0 cN O O (m 0 _ O)) (I (qY O O) (ae ?_));refine Cc O (λo=>?_) (λo=>?_)
  ·have y:s=x:=by simpa using o
   refine aa (ad O (ai O (ae (aX (cj (Er (Er (cj (Er ?_)))))))));refine R1 O O λw' p=>?_;refine ⟨⟨_,O,?_⟩,p.fr⟩;rw [decide_eq_true (by omega),List.contains_iff_mem.2 (by rw [y]; exact List.mem_of_getElem? k)]
  have z:¬s=x:=by simpa using o
  refine Ck (Eb (Et (Cr (I (Yi O O O (by omega)) (ad O (Ln ?_))))));exact Ea (i+1) (by omega) ⟨by omega,λj d=>by rcases Nat.lt_succ_iff_lt_or_eq.1 d with h | rfl; exact q j h; rw [k]; intro e; injection e with e; exact z e.symm⟩ (sc rfl (sc rfl (sc rfl (sc rfl sn)))) (λ_ h=>h)
 have E:¬i<l.length:=by simpa using g
 have A:l.contains s=false:=by
   rw [Bool.eq_false_iff];intro h;rw [List.contains_iff_mem] at h;obtain ⟨j,d⟩:=List.getElem?_of_mem h;exact q j (by have:=(List.getElem?_eq_some_iff.1 d).1; omega) d
 refine Ce (Ex (Ex (cp (Et (aa (ai O (ae (aX ?_))))))));refine R1 O O λw' p=>?_;refine ⟨⟨_,O,?_⟩,p.fr⟩;rw [A]; rfl
theorem Pj (b:View) (a:Option Addr) (c:Nat) (l:List Tx) (s:Tx) (w:World) (f:Le b w) (g:Sl rdStr 1 b a c l) :
   Calls Tryz.prog 212 #[.slice a l.length c,st s] w λe w'=>e = .returned (.bool (l.contains s))/\Ext w w':=by
 refine enter Tryz.func212 O 9 O O ?_;refine CE (Vs:=[b]) (Ws.init (by simp [f])) (aa (ai O (ae (aa (ad O (ad O ?_))))))
 refine Ld Y O Pd O (λn:Int=>.int .i64 n) (λ_ n=>decide (0<=n)=l.contains s) (λw d=>(Ph b a c l s w (d.vs _ (by simp)) g).mono λe w' h=>by
     obtain ⟨⟨n,i,j⟩,k⟩:=h
     exact ⟨n,i,k,j⟩) ?_
 intro o p q m;refine I (aJ O O) (ai O (ae (aX ?_)));refine R1 O O λw' d=>?_;exact ⟨by rw [m],d.fr⟩
theorem xo (s:Tx) (w:World) :
   Calls Tryz.prog 167 #[st s] w λe w'=>e = .returned (.bool (ei s))/\Ext w w':=by
 refine enter Tryz.func167 O 11 O O ?_;refine CE (Vs:=[]) (Ws.init (by simp)) (aa (ai O (ae (aa (ad O (Lp Y O nD O (λw a=>nC _ w) (ad O ?_)))))));apply La 4 O O O O Y O O O O O
 ·intro j;refine Ld (.g O O O) O Pe O (λr:Option Addr×Nat=>.slice r.1 bN.length r.2) (λc r=>Sl rdStr 1 c r.1 r.2 bN) (λw a=>Pg w) ?_;intro d b k f;refine Vg (Ym O) (Lp (.g O O O) O Pf O (λw a=>Pj d b.1 b.2 bN s w (a.vs _ (by simp)) f) (Vg (az O) ?_));refine WL.wk ?_ (Gt 4 O O O);exact λ_ h=>Ws.cv (h) (λ_ i=>List.mem_append_right [_] i)
 refine ai O (ae (aX ?_));refine R1 O O λw' a=>?_;exact ⟨O,a.fr⟩
theorem Hr (w:World) :
   Calls Tryz.prog 124 #[] w λe w'=>∃b:Nat,e = .returned (.map (some b))/\Ws w [] [aq b (b4 kI (g_ 9) 15)] [] w':=by
 refine enter Tryz.func124 O 19 O O ?_;refine CE (Vs:=[]) (Ws.init (by simp)) (aa (ai O (ae (aa ?_))));refine WL.lh (λn:Int=>Value.int .i64 n) Y O λa=>?_;refine I (Yb jV lF O O) ?_;refine WL.kQ 0 iU Y kz gZ O O O O ?_;refine I (Yb jV lF O O) ?_;refine WL.kQ 0 iU Y kz gZ O O O O ?_;refine I (Yb jV lF O O) ?_;refine WL.kQ 0 iU Y kz gZ O O O O ?_;refine I (Yb jV lF O O) ?_;refine WL.kQ 0 iU Y kz gZ O O O O ?_;refine I (Yb jV lF O O) ?_;refine WL.kQ 0 iU Y kz gZ O O O O ?_;refine I (Yb jV lF O O) ?_;refine WL.kQ 0 iU Y kz gZ O O O O ?_;refine ad O (cD 0 (b4 kI (g_ 0) (6+0)) O O (ai O (ae (Cs (aa (ai O (ae (Cb ?_))))))));refine av (ι:=Nat) (λi=>[(2,.int .i64 ((7+i:Nat):Int))]) [(0,_),(1,_)] (λi=>Ws w [] [aq a (b4 kI (g_ i) (6+i))] []) (λi=>i<=9) (λi=>9-i) 0 (Nat.zero_le _) (sc O (sc O (sc O sn))) (λ_ h=>h) ?_;intro i hi;refine Cs (aa (ad O (I (hg O O) (ae ?_))));refine Cc O (λc=>?_) (λc=>?_)
 ·have d:i<9:=by simp at c; omega
  refine bf (Cs (Cb (Cr (ad O (ad O (I (Yb jV lF O O) ?_))))));refine WL.mu 0 iU Y kz gZ O O O O ?_;refine Ln (Eb (Et (Cr (ad O (I (v7 (((7+i:Nat):Int)+1) O O O (by omega)) (ai O (Ln ?_)))))));rw [show (((7+i:Nat):Int)+1)=((7+(i+1):Nat):Int) by omega]
  exact Ea (i+1) (by omega) (by omega) (sc O (sc O (sc O sn))) (λ_ h=>by
    have h:=Ws.tR h 0 rfl (congrArg (aq a) (O9 i d))
    exact h)
 have f:i=9:=by simp at c; omega
 subst f;refine Ce (Ex (Ex (cp (Et (aa (ad O (ai O (ae (aX ?_)))))))));refine WE.ee (gL O (gz O)) λw' g=>?_;exact ⟨a,O,g⟩
theorem HK (w:World) :
   Calls Tryz.prog 125 #[] w λe w'=>∃b:Nat,e = .returned (.map (some b))/\Ws w [] [aq b (b4 kI iq 7)] [] w':=by
 refine enter Tryz.func125 O 10 O O ?_;refine CE (Vs:=[]) (Ws.init (by simp)) (aa (ai O (ae (aa ?_))));refine WL.lh (λn:Int=>Value.int .i64 n) Y O λa=>?_;refine I (Yb jV lF O O) ?_;refine WL.kQ 0 iU Y kz gZ O O O O ?_;refine I (Yb jV lF O O) ?_;refine WL.kQ 0 iU Y kz gZ O O O O ?_;refine I (Yb jV lF O O) ?_;refine WL.kQ 0 iU Y kz gZ O O O O ?_;refine I (Yb jV lF O O) ?_;refine WL.kQ 0 iU Y kz gZ O O O O ?_;refine I (Yb jV lF O O) ?_;refine WL.kQ 0 iU Y kz gZ O O O O ?_;refine I (Yb jV lF O O) ?_;refine WL.kQ 0 iU Y kz gZ O O O O ?_;refine I (Yb jV lF O O) ?_;refine WL.kQ 0 iU Y kz gZ O O O O ?_;refine ad O (ai O (ae (aX ?_)));refine WE.ee (gL O (gz O)) λw' c=>?_;exact ⟨a,O,c⟩
theorem qv (a l n:Nat) (c:bo) (b:Bool) (w:World) (o:c.bE<=4611686018427387904) (g:Ws w [a] [aq a (.cells #[.int .i64 0,.int .i64 ((c).f:Int),.int .i64 ((c).m:Int),.int .i64 0,.int .i64 ((c).k:Int),.int .i64 0,.int .i64 0,.int .i64 0,.int .i64 0,.int .i64 0,.map (some l),.map (some n)] 224 (0,0))] [] w) :
   Calls Tryz.prog 127 #[.pointer (some ⟨a,0,none⟩),.bool b,.int .i64 1] w λe w'=>e = .returned (.tuple #[])/\Ws w [a] [aq a (.cells #[.int .i64 0,.int .i64 ((c+dn b).f:Int),.int .i64 ((c+dn b).m:Int),.int .i64 0,.int .i64 ((c+dn b).k:Int),.int .i64 0,.int .i64 0,.int .i64 0,.int .i64 0,.int .i64 0,.map (some l),.map (some n)] 224 (0,0))] [] w':=by
 have p:=Pa c;refine enter Tryz.func127 O 17 O O ?_;refine CE g (aa (ad O (ae ?_)));refine Cc O (λj=>?_) (λj=>?_)
 ·subst j;refine WC.kg 0 [(0,true),(1,true),(2,true),(3,true),(4,true),(7,true),(8,true),(5,false),(6,true),(9,true),(10,false)] mixed (by kernel_rfl) (λ_ _ _ d _ h=>by cases d<;>exact h) ?_;refine D0 O (Wp 0) (Ym O) (D0 O (Wp 0) (Ym O) (D0 O (Wp 0) (cy O) (D0 O (Wp 0) (Yf rJ O) (D0 O (Wp 0) (q8 (i:=1) rK O O (by decide)) (D0 O (Wp 0) (cy O) (D0 O (Wp 0) (Yf rJ O) ?_))))));refine De O (Wp 0) ?_;refine I (Yd 0 O O O aT) (Ln (Ed (D0 O (Wp 0) (Yi O O O (by omega)) (D0 O (Wp 0) (q8 (i:=1) rK O O (by decide)) ?_))));refine De O (Wp 0) ?_;refine aO 0 Y O O O dP O O O (Ln (Ed ?_));refine WD.nil (Wp 0) ?_;refine E0 O λw' g=>?_;exact ⟨O,g⟩
 subst j;refine Ck ?_;refine E0 O λw' g=>?_;exact ⟨O,g⟩
theorem s5 (a l n:Nat) (c:bo) (b:Bool) (w:World) (o:c.bE<=4611686018427387904) (g:Ws w [a] [aq a (.cells #[.int .i64 0,.int .i64 ((c).f:Int),.int .i64 ((c).m:Int),.int .i64 0,.int .i64 ((c).k:Int),.int .i64 0,.int .i64 0,.int .i64 0,.int .i64 0,.int .i64 0,.map (some l),.map (some n)] 224 (0,0))] [] w) :
   Calls Tryz.prog 127 #[.pointer (some ⟨a,0,none⟩),.bool b,.int .i64 2] w λe w'=>e = .returned (.tuple #[])/\Ws w [a] [aq a (.cells #[.int .i64 0,.int .i64 ((c+ch b).f:Int),.int .i64 ((c+ch b).m:Int),.int .i64 0,.int .i64 ((c+ch b).k:Int),.int .i64 0,.int .i64 0,.int .i64 0,.int .i64 0,.int .i64 0,.map (some l),.map (some n)] 224 (0,0))] [] w':=by
 have p:=Pb c;refine enter Tryz.func127 O 17 O O ?_;refine CE g (aa (ad O (ae ?_)));refine Cc O (λj=>?_) (λj=>?_)
 ·subst j;refine WC.kg 0 [(0,true),(1,true),(2,true),(3,true),(4,true),(7,true),(8,true),(5,false),(6,true),(9,true),(10,false)] mixed (by kernel_rfl) (λ_ _ _ d _ h=>by cases d<;>exact h) ?_;refine D0 O (Wp 0) (Ym O) (D0 O (Wp 0) (Ym O) (D0 O (Wp 0) (cy O) (D0 O (Wp 0) (Yf rJ O) (D0 O (Wp 0) (q8 (i:=2) rK O O (by decide)) (D0 O (Wp 0) (cy O) (D0 O (Wp 0) (Yf rJ O) ?_))))));refine De O (Wp 0) ?_;refine I (Yd 0 O O O aT) (Ln (Ed (D0 O (Wp 0) (Yi O O O (by omega)) (D0 O (Wp 0) (q8 (i:=2) rK O O (by decide)) ?_))));refine De O (Wp 0) ?_;refine aO 0 Y O O O dP O O O (Ln (Ed ?_));refine WD.nil (Wp 0) ?_;refine E0 O λw' g=>?_;exact ⟨O,g⟩
 subst j;refine Ck ?_;refine E0 O λw' g=>?_;exact ⟨O,g⟩
theorem A9 (a l n:Nat) (c:bo) (b:Bool) (w:World) (o:c.bE<=4611686018427387904) (g:Ws w [a] [aq a (.cells #[.int .i64 0,.int .i64 ((c).f:Int),.int .i64 ((c).m:Int),.int .i64 0,.int .i64 ((c).k:Int),.int .i64 0,.int .i64 0,.int .i64 0,.int .i64 0,.int .i64 0,.map (some l),.map (some n)] 224 (0,0))] [] w) :
   Calls Tryz.prog 127 #[.pointer (some ⟨a,0,none⟩),.bool b,.int .i64 4] w λe w'=>e = .returned (.tuple #[])/\Ws w [a] [aq a (.cells #[.int .i64 0,.int .i64 ((c+du b).f:Int),.int .i64 ((c+du b).m:Int),.int .i64 0,.int .i64 ((c+du b).k:Int),.int .i64 0,.int .i64 0,.int .i64 0,.int .i64 0,.int .i64 0,.map (some l),.map (some n)] 224 (0,0))] [] w':=by
 have p:=Pc c;refine enter Tryz.func127 O 17 O O ?_;refine CE g (aa (ad O (ae ?_)));refine Cc O (λj=>?_) (λj=>?_)
 ·subst j;refine WC.kg 0 [(0,true),(1,true),(2,true),(3,true),(4,true),(7,true),(8,true),(5,false),(6,true),(9,true),(10,false)] mixed (by kernel_rfl) (λ_ _ _ d _ h=>by cases d<;>exact h) ?_;refine D0 O (Wp 0) (Ym O) (D0 O (Wp 0) (Ym O) (D0 O (Wp 0) (cy O) (D0 O (Wp 0) (Yf rJ O) (D0 O (Wp 0) (q8 (i:=4) rK O O (by decide)) (D0 O (Wp 0) (cy O) (D0 O (Wp 0) (Yf rJ O) ?_))))));refine De O (Wp 0) ?_;refine I (Yd 0 O O O aT) (Ln (Ed (D0 O (Wp 0) (Yi O O O (by omega)) (D0 O (Wp 0) (q8 (i:=4) rK O O (by decide)) ?_))));refine De O (Wp 0) ?_;refine aO 0 Y O O O dP O O O (Ln (Ed ?_));refine WD.nil (Wp 0) ?_;refine E0 O λw' g=>?_;exact ⟨O,g⟩
 subst j;refine Ck ?_;refine E0 O λw' g=>?_;exact ⟨O,g⟩
theorem A':∀l:List Tx,(bp l).bE<=l.length
 | []=>Nat.le_refl _
 | s::r=>by
   have:=A' r; have:=kj (!ei s);rw [show bp (s::r)=dn (!ei s)+bp r from rfl,bo.dG,List.length_cons];omega
theorem A_ (n:Nat):decide ((3:Int)<(n:Int))=decide (3<n):=by rw [Bool.eq_iff_iff]; simp; omega
theorem GG (x:aV) (d:Nat):ga x d=if 6<d then ⟨0,1,0⟩ else du (dR x.op).isNone+dB ((dR x.op).getD (false,0)) x.mod x.nm x.args.length+dn (gN x.op x.n)+cP x.args (d+1):=by
 cases x; rw [ga]; rfl
theorem w4 (d:Nat):∀a b:List aV,cP (a++b) d=cP a d+cP b d
 | [],b=>by apply bo.ext'<;>simp [bo.q_,bo.ra,bo.rb,cP,c0]
 | x::a,b=>by
   rw [List.cons_append,show ∀q,cP (x::q) d=ga x d+cP q d from λq=>by rw [cP],w4 d a b,show ∀q,cP (x::q) d=ga x d+cP q d from λq=>by rw [cP],bo.gM]
theorem w5 {l:List aV} {i:Nat} {x:aV} (d:Nat) (h:l[i]? = some x):cP (l.take (i+1)) d=cP (l.take i) d+ga x d:=by
 rw [a' h,w4,show cP [x] d=ga x d+c0 by rw [cP,cP],dr]
theorem GJ:∀(l:List aV) (i:Nat),ax (l.take i)<=ax l
 | [],i=>by simp
 | x::r,0=>by simp [ax]
 | x::r,i+1=>by have:=GJ r i; simp only [List.take_succ_cons,ax]; omega
theorem GK {l:List aV} {i:Nat} {x:aV} (h:l[i]? = some x):ax (l.take i)+wE x<=ax l:=by
 have c:=GJ l (i+1);rw [a' h] at c
 have:∀a b:List aV,ax (a++b)=ax a+ax b:=by
   intro a b
   induction a with
   | nil=>simp [ax]
   | cons y a d=>simp only [List.cons_append,ax,d]; omega
 rw [this] at c;simp only [ax] at c;omega
theorem xp (x:bl) (d:Nat):eP x d=du (cu x.op).isNone+dB ((cu x.op).getD (false,0)) x.mod x.nm x.args.length+cP x.args 1+dn (gB x.op x.body.length x.other.length)
     + (if (inner x.op||decide (0<x.body.length))=true then dw x.body (d+1) else c0)+(if 0<x.other.length then dw x.other (d+1) else c0):=by
 cases x; rw [eP]; rfl
theorem w6 (d:Nat):∀a b:List bl,ar (a++b) d=ar a d+ar b d
 | [],b=>by apply bo.ext'<;>simp [bo.q_,bo.ra,bo.rb,ar,c0]
 | x::a,b=>by
   rw [List.cons_append,show ∀q,ar (x::q) d=eP x d+ar q d from λq=>by rw [ar],w6 d a b,show ∀q,ar (x::q) d=eP x d+ar q d from λq=>by rw [ar],bo.gM]
theorem xq {l:List bl} {i:Nat} {x:bl} (d:Nat) (h:l[i]? = some x):ar (l.take (i+1)) d=ar (l.take i) d+eP x d:=by
 rw [a' h,w6,show ar [x] d=eP x d+c0 by rw [ar,ar],dr]
theorem xF:∀(l:List bl) (i:Nat),dC (l.take i)<=dC l
 | [],i=>by simp
 | x::r,0=>by simp [dC]
 | x::r,i+1=>by have:=xF r i; simp only [List.take_succ_cons,dC]; omega
theorem Pm {l:List bl} {i:Nat} {x:bl} (h:l[i]? = some x):dC (l.take i)+wS x<=dC l:=by
 have c:=xF l (i+1);rw [a' h] at c
 have:∀a b:List bl,dC (a++b)=dC a+dC b:=by
   intro a b
   induction a with
   | nil=>simp [dC]
   | cons y a d=>simp only [List.cons_append,dC,d]; omega
 rw [this] at c;simp only [dC] at c;omega
theorem xr:Enters Tryz.prog 167:=enters_of Tryz.func167 (by kernel_rfl) rfl
theorem ka:Enters Tryz.prog 127:=enters_of Tryz.func127 (by kernel_rfl) rfl
theorem gm:an Tryz.prog 214 1=some 1:=by kernel_rfl
theorem s6:Enters Tryz.prog 126:=enters_of Tryz.func126 (by kernel_rfl) rfl
theorem s7:an Tryz.prog 214 0=some 0:=by kernel_rfl
theorem pw:an Tryz.prog 214 3=some 3:=by kernel_rfl
theorem xP:an Tryz.prog 274 0=some 0:=by kernel_rfl
theorem px:eG Tryz.prog 4=true:=by kernel_rfl
theorem yW:an Tryz.prog 274 1=some 1:=by kernel_rfl
theorem s8 (b j o:Nat) (g:View) (a:Option Addr) (n:Nat) (l:List Tx) (c:bo) (w:World) (p:Sl rdStr 1 g a n l) (B:c.bE+l.length<=4611686018427387904) (d:Ws w [b] [aq b (.cells #[.int .i64 0,.int .i64 ((c).f:Int),.int .i64 ((c).m:Int),.int .i64 0,.int .i64 ((c).k:Int),.int .i64 0,.int .i64 0,.int .i64 0,.int .i64 0,.int .i64 0,.map (some j),.map (some o)] 224 (0,0))] [g] w) :
   Calls Tryz.prog 126 #[.pointer (some ⟨b,0,none⟩),.slice a l.length n] w λe w'=>e = .returned (.tuple #[])/\Ws w [b] [aq b (.cells #[.int .i64 0,.int .i64 ((c+bp l).f:Int),.int .i64 ((c+bp l).m:Int),.int .i64 0,.int .i64 ((c+bp l).k:Int),.int .i64 0,.int .i64 0,.int .i64 0,.int .i64 0,.int .i64 0,.map (some j),.map (some o)] 224 (0,0))] [g] w':=by
 have C:=p.cap;have D:=p.max;refine enter Tryz.func126 O 18 O O ?_;refine CE d (aa (ad O (I (Yn di O) (ad O (ae (Cb ?_))))));refine av (ι:=Nat) (λi=>[(8,.int .i64 (i:Int))]) [(0,_),(6,_),(7,_)] (λi=>Ws w [b] [aq b (.cells #[.int .i64 0,.int .i64 ((c+bp (l.take i)).f:Int),.int .i64 ((c+bp (l.take i)).m:Int),.int .i64 0,.int .i64 ((c+bp (l.take i)).k:Int),.int .i64 0,.int .i64 0,.int .i64 0,.int .i64 0,.int .i64 0,.map (some j),.map (some o)] 224 (0,0))] [g]) (λi=>i<=l.length) (λi=>l.length-i) 0 (Nat.zero_le _) (sc O (sc O (sc O (sc O sn)))) (λ_ h=>h) ?_;intro i hi;refine aa (I (b0 O O) (ae (Cs ?_)));refine Cc O (λq=>?_) (λq=>?_)
 ·have t:i<l.length:=by simpa using q
  obtain ⟨x,s⟩:∃x,l[i]? = some x:=⟨_,List.getElem?_eq_getElem t⟩;obtain ⟨u,v,E,r⟩:=p.bJ i x s;have r:bI g u (v+i*1) (dD x):=r
  have y:c+bp (l.take i)+dn (!ei x)=c+bp (l.take (i+1)):=by rw [O_ s,bo.gM]
  have z:(c+bp (l.take i)).bE<=4611686018427387904:=by
    rw [bo.dG];have:=A' (l.take i);simp at this;omega
  refine bf (Cs (Cb (aa (I (Yo di O O (by assumption) (by omega)) (I (b9 0 cN O O (r 0 _ O)) (ai O (ae (Cr (ad O (ad O (Lp Y O xr O (λw d=>xo _ w) ?_)))))))))));refine I (az O) (fe [_] _ _ Y O ka O O [] (by simp) (λw d=>qv b j o (c+bp (l.take i)) (!ei x) w (z) d) (Ln (Eb (Et (Cr (I (Yi O O O (by omega)) (ad O (Ln ?_))))))));rw [y];exact Ea (i+1) (by omega) (by omega) (sc O (sc O (sc O (sc O sn)))) (λ_ h=>h)
 have F:¬i<l.length:=by simpa using q
 have A:l.take i=l:=List.take_of_length_le (by omega);rw [A];refine Ce (Ex (Ex (cp ?_)));refine E0 O λw' d=>?_;exact ⟨O,d⟩
theorem Pn (g h i:Nat) (d:cB) (c:bo) (w:World) (j:c.bE+4<=4611686018427387904) (a:Ws w [g] [aq g (.cells #[.int .i64 0,.int .i64 ((c).f:Int),.int .i64 ((c).m:Int),.int .i64 0,.int .i64 ((c).k:Int),.int .i64 0,.int .i64 0,.int .i64 0,.int .i64 0,.int .i64 0,.map (some h),.map (some i)] 224 (0,0))] [] w) :
   Calls Tryz.prog 128 #[.pointer (some ⟨g,0,none⟩),.agg #[.int .i64 d.kind,st d.nm,.bool d.bx,.int .i64 d.n]] w λe w'=>e = .returned (.tuple #[])/\Ws w [g] [aq g (.cells #[.int .i64 0,.int .i64 ((c+gk d).f:Int),.int .i64 ((c+gk d).m:Int),.int .i64 0,.int .i64 ((c+gk d).k:Int),.int .i64 0,.int .i64 0,.int .i64 0,.int .i64 0,.int .i64 0,.map (some h),.map (some i)] 224 (0,0))] [] w':=by
 have p:(c+bp [d.nm]).bE<=4611686018427387904:=by
   rw [bo.dG];have:=A' [d.nm];simp at this;omega
 refine enter Tryz.func128 O 44 O O ?_;refine CE a (aa ?_);refine WL.box Y O O λy=>?_;refine ae (aa (ad O (I (Yf gm O) (I (Yd 0 O O O cN) ?_))));refine Lb Y O dT O O O O λz=>?_;refine a7 (T:=9) (m:=1) 0 [d.nm] O O (show 1<=1 by decide) (by decide) λv x=>?_;refine Lf 1 O (fe [_] _ [aq g (.cells #[.int .i64 0,.int .i64 ((c+bp [d.nm]).f:Int),.int .i64 ((c+bp [d.nm]).m:Int),.int .i64 0,.int .i64 ((c+bp [d.nm]).k:Int),.int .i64 0,.int .i64 0,.int .i64 0,.int .i64 0,.int .i64 0,.map (some h),.map (some i)] 224 (0,0))] Y O s6 O O [v] (by simp) (λw a=>s8 g h i v _ _ [d.nm] (c) w x (by show c.bE+1<=_; omega) a) (ae (aa (I (Yf s7 O) (I (Yd 1 O O O aT) (ae (Cb (aa (I (bP O O) (ai O ?_))))))))));refine ae ?_;refine Cc O (λr=>?_) (λr=>?_)
 ·have o:d.kind=1:=by simpa using r
  have l:∀b,(b=(decide (d.n<0)||decide (1099511627775<d.n)))->c+bp [d.nm]+dn b=c+gk d:=λb j=>by rw [j,gk,if_pos o,bo.gM]
  refine Cr (ad O (I (Yf pw O) (I (Yd 1 O O O aT) (I (b0 O O) (ad O ?_)))));apply Lo 3 O O O O Y O O O O O
  ·intro A;refine Vg (Yf pw O) (Vg (Yd 1 O O O aT) (Vg (dc O O) ?_));exact Gt 3 O O O
  refine fe [_] _ _ Y O ka O O [] (by simp) (λw a=>qv g h i (c+bp [d.nm]) (decide (d.n<0)||decide (1099511627775<d.n)) w (p) a) (Ln (Eb ?_));refine E0 O λw' a=>?_;rw [l _ rfl] at a;exact ⟨O,Wv 1 (Wt 1 a)⟩
 have o:¬d.kind=1:=by simpa using r
 refine aa (I (bP O O) (ai O (ae ?_)));refine Cc O (λs=>?_) (λs=>?_)
 ·have q:d.kind=2:=by simpa using s
  have l:∀b,(b=(!(d.n==0)))->c+bp [d.nm]+dn b=c+gk d:=λb j=>by rw [j,gk,if_neg o,if_pos q,bo.gM]
  refine Cr (ad O (I (Yf pw O) (I (Yd 1 O O O aT) (I (e8 O O) (fe [_] _ _ Y O ka O O [] (by simp) (λw a=>qv g h i (c+bp [d.nm]) (!(d.n==0)) w (p) a) (Ln (Eb ?_)))))));refine E0 O λw' a=>?_;rw [l _ rfl] at a;exact ⟨O,Wv 1 (Wt 1 a)⟩
 have q:¬d.kind=2:=by simpa using s
 refine aa (I (bP O O) (ai O (ae ?_)));refine Cc O (λt=>?_) (λt=>?_)
 ·have u:d.kind=3:=by simpa using t
  have l:∀b,(b=(decide (d.n<1)||decide (32<d.n)))->c+bp [d.nm]+dn b=c+gk d:=λb j=>by rw [j,gk,if_neg o,if_neg q,if_pos u,bo.gM]
  refine Cr (ad O (I (Yf pw O) (I (Yd 1 O O O aT) (I (b0 O O) (ad O ?_)))));apply Lo 3 O O O O Y O O O O O
  ·intro B;refine Vg (Yf pw O) (Vg (Yd 1 O O O aT) (Vg (dc O O) ?_));exact Gt 3 O O O
  refine fe [_] _ _ Y O ka O O [] (by simp) (λw a=>qv g h i (c+bp [d.nm]) (decide (d.n<1)||decide (32<d.n)) w (p) a) (Ln (Eb ?_));refine E0 O λw' a=>?_;rw [l _ rfl] at a;exact ⟨O,Wv 1 (Wt 1 a)⟩
 have u:¬d.kind=3:=by simpa using t
 have l:∀b,(b=true)->c+bp [d.nm]+du b=c+gk d:=λb j=>by rw [j,gk,if_neg o,if_neg q,if_neg u,bo.gM]
 refine Cr (ad O (fe [_] _ _ Y O ka O O [] (by simp) (λw a=>A9 g h i (c+bp [d.nm]) (true) w (p) a) (Ln (Eb ?_))));refine E0 O λw' a=>?_;rw [l _ rfl] at a;exact ⟨O,Wv 1 (Wt 1 a)⟩
theorem yZ (d h i:Nat) (r:Bool) (a:Int) (mod nm:Tx) (len:Nat) (c:bo) (w:World) (p:c.bE+4<=4611686018427387904) (j:mod.length+nm.length<=9223372036854775807) (b:Ws w [d] [aq d (.cells #[.int .i64 0,.int .i64 ((c).f:Int),.int .i64 ((c).m:Int),.int .i64 0,.int .i64 ((c).k:Int),.int .i64 0,.int .i64 0,.int .i64 0,.int .i64 0,.int .i64 0,.map (some h),.map (some i)] 224 (0,0))] [] w) :
   Calls Tryz.prog 170 #[.pointer (some ⟨d,0,none⟩),.agg #[.bool r,.int .i64 a],st mod,st nm,.int .i64 (len:Int)] w λe w'=>e = .returned (.tuple #[])/\Ws w [d] [aq d (.cells #[.int .i64 0,.int .i64 ((c+dB (r,a) mod nm len).f:Int),.int .i64 ((c+dB (r,a) mod nm len).m:Int),.int .i64 0,.int .i64 ((c+dB (r,a) mod nm len).k:Int),.int .i64 0,.int .i64 0,.int .i64 0,.int .i64 0,.int .i64 0,.map (some h),.map (some i)] 224 (0,0))] [] w':=by
 have l:(c+dn (gU r mod nm)).bE<=4611686018427387904:=by rw [bo.dG]; have:=kj (gU r mod nm); omega
 have n:(c+dn (gU r mod nm)+dn (j2 a len)).bE<=4611686018427387904:=by rw [bo.dG,bo.dG]; have:=kj (gU r mod nm); have:=kj (j2 a len); omega
 have o:c+dn (gU r mod nm)+dn (j2 a len)+ch (decide (3<len))=c+dB (r,a) mod nm len:=by rw [dB,bo.gM,bo.gM,bo.gM]
 refine enter Tryz.func170 O 54 O O ?_;refine CE b (aa ?_);refine WL.box Y O O λq=>?_;refine ae (aa (ad O (I (Yf xP O) (I (Yd 0 O O O px) (ad O ?_)))));apply La 12 O O O O Y O O O O O
 ·intro s;refine Vg (Ym O) (Vg (vO O O) (Vg (Ym O) ?_));apply La 3 O O O O (.g O O O) O O O O O
  ·intro t;refine Vg (Ym O) (Lp (.g O O O) O xr O (λw b=>xo _ w) (Vg (az O) ?_));exact Gt 3 O O O
  refine Vg (Ym O) ?_;apply Lo 3 O O O O (.g O O O) O O O O O
  ·intro u;refine Vg (Ym O) (Lp (.g O O O) O xr O (λw b=>xo _ w) (Vg (az O) ?_));exact Gt 3 O O O
  exact Gt 6 O O O
 refine ad O ?_;apply Lo 9 O O O O Y O O O O O
 ·intro v;refine Vg (Yf xP O) (Vg (Yd 0 O O O px) (Vg (az O) (Vg (Ym O) ?_)));apply La 4 O O O O (.g O O O) O O O O O
  ·intro x;refine Vg (Ym O) (Vg (Ym O) (Vg (Kf O O j) (Vg (vO O O) ?_)));exact Gt 4 O O O
  exact Gt 5 O O O
 refine Lf 1 O (fe [_] _ _ Y O ka O O [] (by simp) (λw b=>qv d h i (c) (gU r mod nm) w (by omega) b) (ae (aa (ad O (I (Yf yW O) (I (Yd 1 O O O aT) (I (aJ O O) (ad O ?_))))))));apply La 4 O O O O Y O O O O O
 ·intro y;refine Vg (Ym O) (Vg (Yf yW O) (Vg (Yd 1 O O O aT) (Vg (e8 O O) ?_)));exact Gt 4 O O O
 refine fe [_] _ _ Y O ka O O [] (by simp) (λw b=>qv d h i (c+dn (gU r mod nm)) (j2 a len) w (l) b) (ae (Cr (ad O (ad O (I (dc O O) ?_)))));rw [A_];refine fe [_] _ _ Y O ka O O [] (by simp) (λw b=>s5 d h i (c+dn (gU r mod nm)+dn (j2 a len)) (decide (3<len)) w (n) b) (Ln ?_);refine E0 O λw' b=>?_;rw [o] at b;exact ⟨O,Wt 1 b⟩
theorem Po:an Tryz.prog 224 1=some 10:=by kernel_rfl
theorem y1:eG Tryz.prog 220=true:=by kernel_rfl
theorem rL:an Tryz.prog 263 0=some 0:=by kernel_rfl
theorem GR:dk Tryz.prog 274=some 2:=by kernel_rfl
theorem y2:f' Tryz.prog 274=some 2:=by kernel_rfl
theorem xt:an Tryz.prog 263 2=some 2:=by kernel_rfl
theorem xu:an Tryz.prog 263 3=some 3:=by kernel_rfl
theorem s9:an Tryz.prog 263 4=some 4:=by kernel_rfl
theorem qw:eG Tryz.prog 240=true:=by kernel_rfl
theorem oD:eO Tryz.prog 240=some 5:=by kernel_rfl
theorem zh:Enters Tryz.prog 170:=enters_of Tryz.func170 (by kernel_rfl) rfl
theorem xv:an Tryz.prog 263 1=some 1:=by kernel_rfl
theorem jd:f' Tryz.prog 263=some 5:=by kernel_rfl
theorem h7:zeroOf Tryz.prog 263=some (.agg #[.int .i64 0,.int .i64 0,st [],st [],.slice none 0 0]):=by kernel_rfl
theorem bz:dk Tryz.prog 263=some 5:=by kernel_rfl
theorem GV:Enters Tryz.prog 171:=enters_of Tryz.func171 (by kernel_rfl) rfl
theorem Pp (o b j:Nat) (p:View) (k:Nat) (x:aV) (a:Option Addr) (n:Nat) (d:Nat) (c:bo) (w:World) (s:Sl (ff k) 5 p a n x.args) (P:c.bE+8*wE x<=1152921504606846976) (l:Ws w [o,b,j] [aq o (.cells #[.int .i64 0,.int .i64 ((c).f:Int),.int .i64 ((c).m:Int),.int .i64 0,.int .i64 ((c).k:Int),.int .i64 0,.int .i64 0,.int .i64 0,.int .i64 0,.int .i64 0,.map (some b),.map (some j)] 224 (0,0)),aq b (b4 kI (g_ 9) 15),aq j (b4 kI iq 7)] [p] w) :
   Calls Tryz.prog 171 #[.pointer (some ⟨o,0,none⟩),.agg #[.int .i64 x.op,.int .i64 x.n,st x.mod,st x.nm,.slice a x.args.length n],.int .i64 (d:Int)] w λe w'=>e = .returned (.tuple #[])/\Ws w [o,b,j] [aq o (.cells #[.int .i64 0,.int .i64 ((c+ga x d).f:Int),.int .i64 ((c+ga x d).m:Int),.int .i64 0,.int .i64 ((c+ga x d).k:Int),.int .i64 0,.int .i64 0,.int .i64 0,.int .i64 0,.int .i64 0,.map (some b),.map (some j)] 224 (0,0)),aq b (b4 kI (g_ 9) 15),aq j (b4 kI iq 7)] [p] w':=by
 induction k using Nat.strongRecOn generalizing x a n d c w
 rename_i k B;have Q:=s.cap;have R:=s.max;have S:=Dz x;have C:eD x.op (g_ 9) (.agg #[.bool false,.int .i64 0]) = .agg #[.bool ((dR x.op).getD (false,0)).1,.int .i64 ((dR x.op).getD (false,0)).2]:=(GC x.op).1;have D:=(GC x.op).2;have T:=tZ (dR x.op).isNone;have U:=wx ((dR x.op).getD (false,0)) x.mod x.nm x.args.length;have V:=kj (gN x.op x.n);refine enter Tryz.func171 O 76 O O ?_;refine CE l (aa ?_);refine WL.box Y O O λW=>?_;refine ae (Cs (aa (ad O (I (dc O O) (ae ?_)))));refine Cc O (λt=>?_) (λt=>?_)
 ·have u:6<d:=by simp at t; omega
  refine aa (ad O (Lf 1 O (fe [_] _ _ Y O ka O O [] (by simp) (λw l=>s5 o b j (c) (true) w (by omega) l) (ae (aX (Er ?_))))));refine WE.vK O λw' l=>?_;rw [show c+ga x d=c+ch true by rw [GG,if_pos u]; rfl];exact ⟨O,(by have h:=l; have h:=h.bR 3 O; have h:=h.bR 3 O; have h:=h.bR 2 O; exact Wt 3 h)⟩
 have u:¬6<d:=by simp at t; omega
 have E:c+ga x d=c+du (dR x.op).isNone+dB ((dR x.op).getD (false,0)) x.mod x.nm x.args.length+dn (gN x.op x.n)+cP x.args (d+1):=by rw [GG,if_neg u,bo.gM,bo.gM,bo.gM,bo.gM,bo.gM]
 have X:(c+du (dR x.op).isNone).bE<=1152921504606846980:=by rw [bo.dG]; omega
 have Z:(c+du (dR x.op).isNone+dB ((dR x.op).getD (false,0)) x.mod x.nm x.args.length).bE<=1152921504606846990:=by rw [bo.dG,bo.dG]; omega
 refine bf (Cs ?_);refine WC.ld [(0,true),(1,true),(2,true),(3,true),(4,true),(5,true),(6,true),(7,true),(8,true),(9,true),(10,false),(11,false),(12,false)] mixed (by kernel_rfl) (λ_ _ _ d _ h=>by cases d<;>exact h) ?_;refine D0 O (λ_ h=>h) (Ym O) (D0 O (λ_ h=>h) (cy O) (D0 O (λ_ h=>h) (Yf Po O) (D0 O (λ_ h=>h) (Yd 1 O O O y1) (D0 O (λ_ h=>h) (Yf rL O) (D0 O (λ_ h=>h) (Yd 0 O O O aT) (D0 O (λ_ h=>h) (wj 2 iU kz gZ jV O O O) ?_))))));rw [C,D];refine D0 O (λ_ h=>h) (Ym O) (D0 O (λ_ h=>h) (Yx O O) (D0 O (λ_ h=>h) (Yx O O) ?_));refine De O (λ_ h=>h) ?_;refine Al Y O jV λab=>?_;refine Ln (Ed ?_);refine De O (λ_ h=>(Wd 1 h:)) ?_;refine aO 0 Y O O O GR O O O (Ln (Ed ?_));refine De O (λ_ h=>(Wd 1 h:)) ?_;refine ai O (Ln (Ed ?_));refine WD.nil (λ_ h=>(Wd 1 h:)) ?_;refine Et (aa (ad O (ad O (I (az O) ?_))));rw [Bool.not_not];refine Lf 2 O (fe [_] _ _ Y O ka O O [] (by simp) (λw l=>A9 o b j (c) ((dR x.op).isNone) w (by omega) l) (ae (aa (ad O (I (b8 1 O O y2 O) (I (Yf xt O) (I (Yd 2 O O O cN) (I (Yf xu O) ?_))))))));refine I (Yd 2 O O O cN) (I (Yf s9 O) (I (Yd 2 O O O qw) (I (Yn oD O) (fe [_] _ _ Y O zh O O [] (by simp) (λw l=>yZ o b j ((dR x.op).getD (false,0)).1 ((dR x.op).getD (false,0)).2 x.mod x.nm x.args.length (c+du (dR x.op).isNone) w (by omega) (by omega) l) (ae (aa (ad O (I (Yf rL O) ?_))))))));refine I (Yd 2 O O O aT) (I (bP O O) (ad O ?_));apply La 8 O O O O Y O O O O O
 ·intro ac;refine Vg (Yf xv O) (Vg (Yd 2 O O O aT) (Vg (b0 O O) (Vg (Ym O) ?_)));apply Lo 3 O O O O (.g O O O) O O O O O
  ·intro af;refine Vg (Yf xv O) (Vg (Yd 2 O O O aT) (Vg (dc O O) ?_));exact Gt 3 O O O
  exact Gt 5 O O O
 refine ad O ?_;apply Lo 8 O O O O Y O O O O O
 ·intro ag;refine Vg (Yf rL O) (Vg (Yd 2 O O O aT) (Vg (e8 O O) (Vg (Ym O) ?_)));apply La 3 O O O O (.g O O O) O O O O O
  ·intro ah;refine Vg (Yf xv O) (Vg (Yd 2 O O O aT) (Vg (e8 O O) ?_));exact Gt 3 O O O
  exact Gt 5 O O O
 refine fe [_] _ _ Y O ka O O [] (by simp) (λw l=>qv o b j (c+du (dR x.op).isNone+dB ((dR x.op).getD (false,0)) x.mod x.nm x.args.length) (gN x.op x.n) w (by omega) l) (ae (aa (I (Yf s9 O) (I (Yd 2 O O O qw) (I (Yn oD O) (ad O (ae (Cb ?_))))))));refine av (ι:=Nat) (λi=>[(66,.int .i64 (i:Int))]) [(0,_),(2,_),(64,_),(65,_)] (λi=>Ws w [o,b,j] [aq o (.cells #[.int .i64 0,.int .i64 ((c+du (dR x.op).isNone+dB ((dR x.op).getD (false,0)) x.mod x.nm x.args.length+dn (gN x.op x.n)+cP (x.args.take i) (d+1)).f:Int),.int .i64 ((c+du (dR x.op).isNone+dB ((dR x.op).getD (false,0)) x.mod x.nm x.args.length+dn (gN x.op x.n)+cP (x.args.take i) (d+1)).m:Int),.int .i64 0,.int .i64 ((c+du (dR x.op).isNone+dB ((dR x.op).getD (false,0)) x.mod x.nm x.args.length+dn (gN x.op x.n)+cP (x.args.take i) (d+1)).k:Int),.int .i64 0,.int .i64 0,.int .i64 0,.int .i64 0,.int .i64 0,.map (some b),.map (some j)] 224 (0,0)),aq b (b4 kI (g_ 9) 15),aq j (b4 kI iq 7)] [p]) (λi=>i<=x.args.length) (λi=>x.args.length-i) 0 (Nat.zero_le _) (sc O (sc O (sc O (sc O (sc O sn))))) (λ_ h=>(Wt 3 (((h.f 4 O).f 4 O).f 2 O):)) ?_;intro i hi;refine aa (I (b0 O O) (ae (Cs ?_)));refine Cc O (λv=>?_) (λv=>?_)
 ·have F:i<x.args.length:=by simpa using v
  obtain ⟨y,z⟩:∃q,x.args[i]? = some q:=⟨_,List.getElem?_eq_getElem F⟩;obtain ⟨aj,ak,G,A⟩:=s.bJ i y z
  obtain ⟨r,rfl⟩:∃r,k=r+1:=by
    cases k with
    | zero=>exact A.elim
    | succ r=>exact ⟨r,rfl⟩
  obtain ⟨H,J,K,L⟩:=A;have al:=GK z;have am:=sr (x.args.take i) (d+1)
  have M:(c+du (dR x.op).isNone+dB ((dR x.op).getD (false,0)) x.mod x.nm x.args.length+dn (gN x.op x.n)+cP (x.args.take i) (d+1)).bE+8*wE y<=1152921504606846976:=by rw [bo.dG,bo.dG,bo.dG,bo.dG]; omega
  have N:c+du (dR x.op).isNone+dB ((dR x.op).getD (false,0)) x.mod x.nm x.args.length+dn (gN x.op x.n)+cP (x.args.take i) (d+1)+ga y (d+1)=c+du (dR x.op).isNone+dB ((dR x.op).getD (false,0)) x.mod x.nm x.args.length+dn (gN x.op x.n)+cP (x.args.take (i+1)) (d+1):=by rw [w5 (d+1) z,<-bo.gM]
  refine bf (Cs (Cb (aa (I (Yo oD O O G (by omega)) (I (dj 0 jd O O O (K)) ?_)))));refine Al Y O h7 λan=>?_;refine aO 0 Y O O O bz O O O (ae (Cr (ad O (I (b8 0 O O jd O) (ad O (I (Yi O O O (by omega)) (Lf 3 O (Lf 3 O ?_))))))));refine Lf 3 O ?_
  refine fe [_,_,_] _ [aq o (.cells #[.int .i64 0,.int .i64 ((c+du (dR x.op).isNone+dB ((dR x.op).getD (false,0)) x.mod x.nm x.args.length+dn (gN x.op x.n)+cP (x.args.take i) (d+1)+ga y (d+1)).f:Int),.int .i64 ((c+du (dR x.op).isNone+dB ((dR x.op).getD (false,0)) x.mod x.nm x.args.length+dn (gN x.op x.n)+cP (x.args.take i) (d+1)+ga y (d+1)).m:Int),.int .i64 0,.int .i64 ((c+du (dR x.op).isNone+dB ((dR x.op).getD (false,0)) x.mod x.nm x.args.length+dn (gN x.op x.n)+cP (x.args.take i) (d+1)+ga y (d+1)).k:Int),.int .i64 0,.int .i64 0,.int .i64 0,.int .i64 0,.int .i64 0,.map (some b),.map (some j)] 224 (0,0)),aq b (b4 kI (g_ 9) 15),aq j (b4 kI iq 7)] Y O GV O O [p] (by simp) (λw l=>by
      have:=B r (by omega) y H J (d+1) (c+du (dR x.op).isNone+dB ((dR x.op).getD (false,0)) x.mod x.nm x.args.length+dn (gN x.op x.n)+cP (x.args.take i) (d+1)) w L M l
      exact this) ?_
  refine Ln (Eb (Et (Cr (I (Yi O O O (by omega)) (ad O (Ln ?_))))));rw [N];exact Ea (i+1) (by omega) (by omega) (sc O (sc O (sc O (sc O (sc O sn))))) (λ_ h=>(Wt 3 h:))
 have ao:¬i<x.args.length:=by simpa using v
 rw [List.take_of_length_le (by omega),<-E];refine Ce (Ex (Ex (cp ?_)));refine E0 O λw' l=>?_;exact ⟨O,l⟩
theorem s' (c:bo):c0+c=c:=by apply bo.ext'<;>simp [bo.q_,bo.ra,bo.rb,c0]
theorem uO (n:Nat):decide ((0:Int)<(n:Int))=decide (0<n):=by rw [Bool.eq_iff_iff]; simp
theorem GW (n:Nat):decide ((10:Int)<(n:Int))=decide (10<n):=by rw [Bool.eq_iff_iff]; simp; omega
theorem Pq {l:List bl} {d:Nat} (h:¬6<d):dw l d=ch (decide (10<l.length))+ar l d:=by rw [dw,kU,if_neg h]
theorem nE:eO Tryz.prog 48=some 6:=by kernel_rfl
theorem iK:f' Tryz.prog 242=some 6:=by kernel_rfl
theorem py:zeroOf Tryz.prog 242=some (.agg #[.int .i64 0,st [],st [],.slice none 0 0,.slice none 0 0,.slice none 0 0]):=by kernel_rfl
theorem nF:dk Tryz.prog 242=some 6:=by kernel_rfl
theorem Pr:an Tryz.prog 224 2=some 11:=by kernel_rfl
theorem mc:an Tryz.prog 242 0=some 0:=by kernel_rfl
theorem gn:an Tryz.prog 242 1=some 1:=by kernel_rfl
theorem uQ:an Tryz.prog 242 2=some 2:=by kernel_rfl
theorem mL:an Tryz.prog 242 3=some 3:=by kernel_rfl
theorem s_:an Tryz.prog 242 4=some 4:=by kernel_rfl
theorem k3:eG Tryz.prog 48=true:=by kernel_rfl
theorem qx:an Tryz.prog 242 5=some 5:=by kernel_rfl
theorem uR:Enters Tryz.prog 129:=enters_of Tryz.func129 (by kernel_rfl) rfl
theorem zj (r b o:Nat) (s:View) (ke k:Nat) (l:List bl) (a:Option Addr) (n:Nat) (d:Nat) (c:bo) (w:World) (C:Sl (a6 ke k) 6 s a n l) (ax:c.bE+2+8*dC l<=1152921504606846976) (p:Ws w [r,b,o] [aq r (.cells #[.int .i64 0,.int .i64 ((c).f:Int),.int .i64 ((c).m:Int),.int .i64 0,.int .i64 ((c).k:Int),.int .i64 0,.int .i64 0,.int .i64 0,.int .i64 0,.int .i64 0,.map (some b),.map (some o)] 224 (0,0)),aq b (b4 kI (g_ 9) 15),aq o (b4 kI iq 7)] [s] w) :
   Calls Tryz.prog 129 #[.pointer (some ⟨r,0,none⟩),.slice a l.length n,.int .i64 (d:Int)] w λe w'=>e = .returned (.tuple #[])/\Ws w [r,b,o] [aq r (.cells #[.int .i64 0,.int .i64 ((c+dw l d).f:Int),.int .i64 ((c+dw l d).m:Int),.int .i64 0,.int .i64 ((c+dw l d).k:Int),.int .i64 0,.int .i64 0,.int .i64 0,.int .i64 0,.int .i64 0,.map (some b),.map (some o)] 224 (0,0)),aq b (b4 kI (g_ 9) 15),aq o (b4 kI iq 7)] [s] w':=by
 induction k using Nat.strongRecOn generalizing l a n d c w
 rename_i k D;have ay:=C.cap;have aA:=C.max;have aB:=sq (decide (10<l.length));refine enter Tryz.func129 O 116 O O ?_;refine CE p (Cs (aa (ad O (I (dc O O) (ae ?_)))));refine Cc O (λE=>?_) (λE=>?_)
 ·have F:6<d:=by simp at E; omega
  refine aa (ad O (fe [_] _ _ Y O ka O O [] (by simp) (λw p=>s5 r b o (c) (true) w (by omega) p) (ae (aX (Er ?_)))));refine WE.vK O λw' p=>?_;rw [show c+dw l d=c+ch true by rw [dw,kU,if_pos F]; rfl];exact ⟨O,p⟩
 have F:¬6<d:=by simp at E; omega
 refine bf (aa (ad O (ad O (I (Yn nE O) (I (dc O O) ?_)))));rw [GW];refine fe [_] _ _ Y O ka O O [] (by simp) (λw p=>s5 r b o (c) (decide (10<l.length)) w (by omega) p) (ae (aa (ad O (I (Yn nE O) (ad O (ae (Cb ?_)))))));refine av (ι:=Nat) (λi=>[(24,.int .i64 (i:Int))]) [(0,_),(2,_),(22,_),(23,_)] (λi=>Ws w [r,b,o] [aq r (.cells #[.int .i64 0,.int .i64 ((c+ch (decide (10<l.length))+ar (l.take i) d).f:Int),.int .i64 ((c+ch (decide (10<l.length))+ar (l.take i) d).m:Int),.int .i64 0,.int .i64 ((c+ch (decide (10<l.length))+ar (l.take i) d).k:Int),.int .i64 0,.int .i64 0,.int .i64 0,.int .i64 0,.int .i64 0,.map (some b),.map (some o)] 224 (0,0)),aq b (b4 kI (g_ 9) 15),aq o (b4 kI iq 7)] [s]) (λi=>i<=l.length) (λi=>l.length-i) 0 (Nat.zero_le _) (sc O (sc O (sc O (sc O (sc O sn))))) (λ_ h=>h) ?_;intro i hi;refine aa (I (b0 O O) (ae (Cs ?_)));refine Cc O (λG=>?_) (λG=>?_)
 ·have H:i<l.length:=by simpa using G
  obtain ⟨y,z⟩:∃q,l[i]? = some q:=⟨_,List.getElem?_eq_getElem H⟩;obtain ⟨aC,aD,W,S⟩:=C.bJ i y z
  obtain ⟨t,rfl⟩:∃t,k=t+1:=by
    cases k with
    | zero=>exact S.elim
    | succ t=>exact ⟨t,rfl⟩
  obtain ⟨X,Z,T,U,J,K,ab,L,M,B⟩:=S;have aE:=Pm z;have aF:=DA y;have aG:=t' (l.take i) d;have aH:=tZ (cu y.op).isNone;have aI:=wx ((cu y.op).getD (false,0)) y.mod y.nm y.args.length;have aJ:=kj (gB y.op y.body.length y.other.length);have aK:=sr y.args 1;have aL:=zc y.body (d+1);have ac:eD y.op iq (.agg #[.bool false,.int .i64 0]) = .agg #[.bool ((cu y.op).getD (false,0)).1,.int .i64 ((cu y.op).getD (false,0)).2]:=(wG y.op).1;have af:=(wG y.op).2;have aM:=L.cap;have aN:=L.max;have aP:=M.cap;have aQ:=M.max;have aR:=B.cap;have aS:=B.max
  have aU:(c+ch (decide (10<l.length))+ar (l.take i) d).bE<=1152921504606846976:=by simp only [bo.dG]; omega
  have aV:(c+ch (decide (10<l.length))+ar (l.take i) d+du (cu y.op).isNone).bE+4<=1152921504606846976:=by simp only [bo.dG]; omega
  have aW:(c+ch (decide (10<l.length))+ar (l.take i) d+du (cu y.op).isNone+dB ((cu y.op).getD (false,0)) y.mod y.nm y.args.length+cP y.args 1).bE<=1152921504606846976:=by simp only [bo.dG]; omega
  have ag:(c+ch (decide (10<l.length))+ar (l.take i) d+du (cu y.op).isNone+dB ((cu y.op).getD (false,0)) y.mod y.nm y.args.length+cP y.args 1+dn (gB y.op y.body.length y.other.length)).bE+2+8*dC y.body<=1152921504606846976:=by simp only [bo.dG]; omega
  have ah:(c+ch (decide (10<l.length))+ar (l.take i) d+du (cu y.op).isNone+dB ((cu y.op).getD (false,0)) y.mod y.nm y.args.length+cP y.args 1+dn (gB y.op y.body.length y.other.length)+dw y.body (d+1)).bE+2+8*dC y.other<=1152921504606846976:=by simp only [bo.dG]; omega
  have aj:(c+ch (decide (10<l.length))+ar (l.take i) d+du (cu y.op).isNone+dB ((cu y.op).getD (false,0)) y.mod y.nm y.args.length+cP y.args 1+dn (gB y.op y.body.length y.other.length)).bE+2+8*dC y.other<=1152921504606846976:=by simp only [bo.dG]; omega
  refine bf (Cs (Cb (aa (I (Yo nE O O W (by omega)) (I (dj 0 iK O O O (ab)) ?_)))));refine Al Y O py λak=>?_;refine aO 0 Y O O O nF O O O (ae (Cs ?_));refine WC.ld [(0,true),(1,true),(2,true),(3,true),(4,true),(5,true),(6,true),(7,true),(8,true),(9,true),(10,false),(11,false),(12,false)] mixed (by kernel_rfl) (λ_ _ _ d _ h=>by cases d<;>exact h) ?_;refine D0 O (λ_ h=>h) (Ym O) (D0 O (λ_ h=>h) (cy O) (D0 O (λ_ h=>h) (Yf Pr O) (D0 O (λ_ h=>h) (Yd 1 O O O y1) (D0 O (λ_ h=>h) (Yf mc O) (D0 O (λ_ h=>h) (Yd 0 O O O aT) (D0 O (λ_ h=>h) (wj 3 iU kz gZ jV O O O) ?_))))));rw [ac,af];refine D0 O (λ_ h=>h) (Ym O) (D0 O (λ_ h=>h) (Yx O O) (D0 O (λ_ h=>h) (Yx O O) ?_));refine De O (λ_ h=>h) ?_;refine Al Y O jV λaY=>?_;refine Ln (Ed ?_);refine De O (λ_ h=>(Wd 1 h:)) ?_;refine aO 0 Y O O O GR O O O (Ln (Ed ?_));refine De O (λ_ h=>(Wd 1 h:)) ?_;refine ai O (Ln (Ed ?_));refine WD.nil (λ_ h=>(Wd 1 h:)) ?_;refine Et (aa (ad O (ad O (I (az O) ?_))));rw [Bool.not_not];refine Lf 2 O (fe [_] _ _ Y O ka O O [] (by simp) (λw p=>A9 r b o (c+ch (decide (10<l.length))+ar (l.take i) d) ((cu y.op).isNone) w (by omega) p) (ae (aa (ad O (I (b8 1 O O y2 O) (I (Yf gn O) (I (Yd 2 O O O cN) (I (Yf uQ O) ?_))))))));refine I (Yd 2 O O O cN) (I (Yf mL O) (I (Yd 2 O O O qw) (I (Yn oD O) (fe [_] _ _ Y O zh O O [] (by simp) (λw p=>yZ r b o ((cu y.op).getD (false,0)).1 ((cu y.op).getD (false,0)).2 y.mod y.nm y.args.length (c+ch (decide (10<l.length))+ar (l.take i) d+du (cu y.op).isNone) w (by omega) (by omega) p) (ae (Cs (aa (I (Yf mL O) (I (Yd 2 O O O qw) ?_)))))))));refine I (Yn oD O) (ad O (ae (Cb ?_)));refine av (ι:=Nat) (λj=>[(55,.int .i64 (j:Int))]) [(0,_),(2,_),(7,_),(22,_),(23,_),(24,_),(53,_),(54,_)] (λj=>Ws w [r,b,o] ([aq r (.cells #[.int .i64 0,.int .i64 ((c+ch (decide (10<l.length))+ar (l.take i) d+du (cu y.op).isNone+dB ((cu y.op).getD (false,0)) y.mod y.nm y.args.length+cP (y.args.take j) 1).f:Int),.int .i64 ((c+ch (decide (10<l.length))+ar (l.take i) d+du (cu y.op).isNone+dB ((cu y.op).getD (false,0)) y.mod y.nm y.args.length+cP (y.args.take j) 1).m:Int),.int .i64 0,.int .i64 ((c+ch (decide (10<l.length))+ar (l.take i) d+du (cu y.op).isNone+dB ((cu y.op).getD (false,0)) y.mod y.nm y.args.length+cP (y.args.take j) 1).k:Int),.int .i64 0,.int .i64 0,.int .i64 0,.int .i64 0,.int .i64 0,.map (some b),.map (some o)] 224 (0,0)),aq b (b4 kI (g_ 9) 15),aq o (b4 kI iq 7)]++[aq ak (.cells (rh y X Z T U J K).toArray 242 (0,0))]) [s]) (λj=>j<=y.args.length) (λj=>y.args.length-j) 0 (Nat.zero_le _) (sc O (sc O (sc O (sc O (sc O (sc O (sc O (sc O (sc O sn))))))))) (λ_ h=>by exact (Wt 4 ((((h.f 2 O).f 4 O).f 4 O).f 3 O):)) ?_
  intro j aZ;refine aa (I (b0 O O) (ae (Cs ?_)));refine Cc O (λN=>?_) (λN=>?_)
  ·have H:j<y.args.length:=by simpa using N
   obtain ⟨u,P⟩:∃q,y.args[j]? = some q:=⟨_,List.getElem?_eq_getElem H⟩;obtain ⟨a0,a1,al,V⟩:=L.bJ j u P
   obtain ⟨Q,rfl⟩:∃Q,ke=Q+1:=by
     cases ke with
     | zero=>exact V.elim
     | succ t=>exact ⟨t,rfl⟩
   obtain ⟨am,an,ao,ap⟩:=V;have a2:=GK P;have a3:=sr (y.args.take j) 1
   have au:(c+ch (decide (10<l.length))+ar (l.take i) d+du (cu y.op).isNone+dB ((cu y.op).getD (false,0)) y.mod y.nm y.args.length+cP (y.args.take j) 1).bE+8*wE u<=1152921504606846976:=by simp only [bo.dG]; omega
   have aw:c+ch (decide (10<l.length))+ar (l.take i) d+du (cu y.op).isNone+dB ((cu y.op).getD (false,0)) y.mod y.nm y.args.length+cP (y.args.take j) 1+ga u 1=c+ch (decide (10<l.length))+ar (l.take i) d+du (cu y.op).isNone+dB ((cu y.op).getD (false,0)) y.mod y.nm y.args.length+cP (y.args.take (j+1)) 1:=by rw [w5 1 P,<-bo.gM]
   refine bf (Cs (Cb (aa (I (Yo oD O O al (by omega)) (I (dj 0 jd O O O (ao)) ?_)))));refine Al Y O h7 λa4=>?_;refine aO 0 Y O O O bz O O O (ae (Cr (ad O (I (b8 0 O O jd O) (Lf 3 O (Lf 3 O (Lf 3 O ?_)))))))
   refine fe [_,_,_] _ [aq r (.cells #[.int .i64 0,.int .i64 ((c+ch (decide (10<l.length))+ar (l.take i) d+du (cu y.op).isNone+dB ((cu y.op).getD (false,0)) y.mod y.nm y.args.length+cP (y.args.take j) 1+ga u 1).f:Int),.int .i64 ((c+ch (decide (10<l.length))+ar (l.take i) d+du (cu y.op).isNone+dB ((cu y.op).getD (false,0)) y.mod y.nm y.args.length+cP (y.args.take j) 1+ga u 1).m:Int),.int .i64 0,.int .i64 ((c+ch (decide (10<l.length))+ar (l.take i) d+du (cu y.op).isNone+dB ((cu y.op).getD (false,0)) y.mod y.nm y.args.length+cP (y.args.take j) 1+ga u 1).k:Int),.int .i64 0,.int .i64 0,.int .i64 0,.int .i64 0,.int .i64 0,.map (some b),.map (some o)] 224 (0,0)),aq b (b4 kI (g_ 9) 15),aq o (b4 kI iq 7)] Y O GV O O [s] (by simp) (λw p=>by
       have:=Pp r b o s Q u am an 1 (c+ch (decide (10<l.length))+ar (l.take i) d+du (cu y.op).isNone+dB ((cu y.op).getD (false,0)) y.mod y.nm y.args.length+cP (y.args.take j) 1) w ap au p
       exact this) ?_
   refine Ln (Eb (Et (Cr (I (Yi O O O (by omega)) (ad O (Ln ?_))))));rw [aw];exact Ea (j+1) (by omega) (by omega) (sc O (sc O (sc O (sc O (sc O (sc O (sc O (sc O (sc O sn))))))))) (λ_ h=>by exact (Wt 4 ((((h.f 4 O).f 3 O).f 3 O).f 3 O):))
  have a5:¬j<y.args.length:=by simpa using N
  rw [List.take_of_length_le (by omega:y.args.length<=j)];refine Ce (Ex (Ex (cp (Et (aa (I (Yf mc O) (I (Yd 3 O O O aT) (I (bP O O) (ad O ?_)))))))));apply Lo 3 O O O O Y O O O O O
  ·intro a7;refine Vg (Yf mc O) (Vg (Yd 3 O O O aT) (Vg (bP O O) ?_));exact Gt 3 O O O
  refine ai O (ae (aa (ad O (ad O (I (az O) (ad O ?_))))));apply La 4 O O O O Y O O O O O
  ·intro a8;refine Vg (Yf s_ O) (Vg (Yd 3 O O O k3) (Vg (Yn nE O) (Vg (dc O O) ?_)));rw [uO];exact Gt 4 O O O
  refine ad O ?_;apply Lo 9 O O O O Y O O O O O
  ·intro a9;refine Vg (Yf mc O) (Vg (Yd 3 O O O aT) (Vg (e8 O O) (Vg (Ym O) ?_)));apply La 4 O O O O (.g O O O) O O O O O
   ·intro a';refine Vg (Yf qx O) (Vg (Yd 3 O O O k3) (Vg (Yn nE O) (Vg (dc O O) ?_)));rw [uO];exact Gt 4 O O O
   exact Gt 5 O O O
  refine fe [_] _ _ Y O ka O O [] (by simp) (λw p=>qv r b o (c+ch (decide (10<l.length))+ar (l.take i) d+du (cu y.op).isNone+dB ((cu y.op).getD (false,0)) y.mod y.nm y.args.length+cP y.args 1) (gB y.op y.body.length y.other.length) w (by omega) p) (ae (Cs (aa (ad O (ad O ?_)))));apply Lo 4 O O O O Y O O O O O
  ·intro a_;refine Vg (Yf s_ O) (Vg (Yd 3 O O O k3) (Vg (Yn nE O) (Vg (dc O O) ?_)));rw [uO];exact Gt 4 O O O
  refine ae ?_;refine Cc O (λR=>?_) (λR=>?_)
  ·have A:(if (inner y.op||decide (0<y.body.length))=true then dw y.body (d+1) else c0)=dw y.body (d+1):=if_pos R;refine Cr (ad O (I (Yf s_ O) (I (Yd 3 O O O k3) (ad O (I (Yi O O O (by omega)) ?_)))))
   refine fe [_,_,_] _ [aq r (.cells #[.int .i64 0,.int .i64 ((c+ch (decide (10<l.length))+ar (l.take i) d+du (cu y.op).isNone+dB ((cu y.op).getD (false,0)) y.mod y.nm y.args.length+cP y.args 1+dn (gB y.op y.body.length y.other.length)+dw y.body (d+1)).f:Int),.int .i64 ((c+ch (decide (10<l.length))+ar (l.take i) d+du (cu y.op).isNone+dB ((cu y.op).getD (false,0)) y.mod y.nm y.args.length+cP y.args 1+dn (gB y.op y.body.length y.other.length)+dw y.body (d+1)).m:Int),.int .i64 0,.int .i64 ((c+ch (decide (10<l.length))+ar (l.take i) d+du (cu y.op).isNone+dB ((cu y.op).getD (false,0)) y.mod y.nm y.args.length+cP y.args 1+dn (gB y.op y.body.length y.other.length)+dw y.body (d+1)).k:Int),.int .i64 0,.int .i64 0,.int .i64 0,.int .i64 0,.int .i64 0,.map (some b),.map (some o)] 224 (0,0)),aq b (b4 kI (g_ 9) 15),aq o (b4 kI iq 7)] Y O uR O O [s] (by simp) (λw p=>by
       have:=D t (by omega) y.body T U (d+1) (c+ch (decide (10<l.length))+ar (l.take i) d+du (cu y.op).isNone+dB ((cu y.op).getD (false,0)) y.mod y.nm y.args.length+cP y.args 1+dn (gB y.op y.body.length y.other.length)) w M ag p
       exact this) ?_
   refine ae (aa (I (Yf qx O) (I (Yd 3 O O O k3) (I (Yn nE O) (I (dc O O) ?_)))));rw [uO];refine ae ?_;refine Cc O (λv=>?_) (λv=>?_)
   ·have x:(if 0<y.other.length then dw y.other (d+1) else c0)=dw y.other (d+1):=if_pos (by simpa using v);refine Cr (ad O (I (Yf qx O) (I (Yd 3 O O O k3) (ad O (I (Yi O O O (by omega)) ?_)))))
    refine fe [_,_,_] _ [aq r (.cells #[.int .i64 0,.int .i64 ((c+ch (decide (10<l.length))+ar (l.take i) d+du (cu y.op).isNone+dB ((cu y.op).getD (false,0)) y.mod y.nm y.args.length+cP y.args 1+dn (gB y.op y.body.length y.other.length)+dw y.body (d+1)+dw y.other (d+1)).f:Int),.int .i64 ((c+ch (decide (10<l.length))+ar (l.take i) d+du (cu y.op).isNone+dB ((cu y.op).getD (false,0)) y.mod y.nm y.args.length+cP y.args 1+dn (gB y.op y.body.length y.other.length)+dw y.body (d+1)+dw y.other (d+1)).m:Int),.int .i64 0,.int .i64 ((c+ch (decide (10<l.length))+ar (l.take i) d+du (cu y.op).isNone+dB ((cu y.op).getD (false,0)) y.mod y.nm y.args.length+cP y.args 1+dn (gB y.op y.body.length y.other.length)+dw y.body (d+1)+dw y.other (d+1)).k:Int),.int .i64 0,.int .i64 0,.int .i64 0,.int .i64 0,.int .i64 0,.map (some b),.map (some o)] 224 (0,0)),aq b (b4 kI (g_ 9) 15),aq o (b4 kI iq 7)] Y O uR O O [s] (by simp) (λw p=>by
        have:=D t (by omega) y.other J K (d+1) (c+ch (decide (10<l.length))+ar (l.take i) d+du (cu y.op).isNone+dB ((cu y.op).getD (false,0)) y.mod y.nm y.args.length+cP y.args 1+dn (gB y.op y.body.length y.other.length)+dw y.body (d+1)) w B ah p
        exact this) ?_
    refine Ln (Eb (Et (Cr (I (Yi O O O (by omega)) (ad O (Ln ?_))))));rw [show c+ch (decide (10<l.length))+ar (l.take i) d+du (cu y.op).isNone+dB ((cu y.op).getD (false,0)) y.mod y.nm y.args.length+cP y.args 1+dn (gB y.op y.body.length y.other.length)+dw y.body (d+1)+dw y.other (d+1)=c+ch (decide (10<l.length))+ar (l.take (i+1)) d by rw [xq d z,xp,A,x]; simp only [bo.gM,dr,s']];exact Ea (i+1) (by omega) (by omega) (sc O (sc O (sc O (sc O (sc O sn))))) (λ_ h=>(Wt 3 h:))
   have x:(if 0<y.other.length then dw y.other (d+1) else c0)=c0:=if_neg (by simpa using v);refine Ck (Eb (Et (Cr (I (Yi O O O (by omega)) (ad O (Ln ?_))))));rw [show c+ch (decide (10<l.length))+ar (l.take i) d+du (cu y.op).isNone+dB ((cu y.op).getD (false,0)) y.mod y.nm y.args.length+cP y.args 1+dn (gB y.op y.body.length y.other.length)+dw y.body (d+1)=c+ch (decide (10<l.length))+ar (l.take (i+1)) d by rw [xq d z,xp,A,x]; simp only [bo.gM,dr,s']];exact Ea (i+1) (by omega) (by omega) (sc O (sc O (sc O (sc O (sc O sn))))) (λ_ h=>(Wt 3 h:))
  have A:(if (inner y.op||decide (0<y.body.length))=true then dw y.body (d+1) else c0)=c0:=if_neg (λe=>by rw [show (inner y.op||decide (0<y.body.length))=false from R] at e; cases e);refine bf (aa (I (Yf qx O) (I (Yd 3 O O O k3) (I (Yn nE O) (I (dc O O) ?_)))));rw [uO];refine ae ?_;refine Cc O (λv=>?_) (λv=>?_)
  ·have x:(if 0<y.other.length then dw y.other (d+1) else c0)=dw y.other (d+1):=if_pos (by simpa using v);refine Cr (ad O (I (Yf qx O) (I (Yd 3 O O O k3) (ad O (I (Yi O O O (by omega)) ?_)))))
   refine fe [_,_,_] _ [aq r (.cells #[.int .i64 0,.int .i64 ((c+ch (decide (10<l.length))+ar (l.take i) d+du (cu y.op).isNone+dB ((cu y.op).getD (false,0)) y.mod y.nm y.args.length+cP y.args 1+dn (gB y.op y.body.length y.other.length)+dw y.other (d+1)).f:Int),.int .i64 ((c+ch (decide (10<l.length))+ar (l.take i) d+du (cu y.op).isNone+dB ((cu y.op).getD (false,0)) y.mod y.nm y.args.length+cP y.args 1+dn (gB y.op y.body.length y.other.length)+dw y.other (d+1)).m:Int),.int .i64 0,.int .i64 ((c+ch (decide (10<l.length))+ar (l.take i) d+du (cu y.op).isNone+dB ((cu y.op).getD (false,0)) y.mod y.nm y.args.length+cP y.args 1+dn (gB y.op y.body.length y.other.length)+dw y.other (d+1)).k:Int),.int .i64 0,.int .i64 0,.int .i64 0,.int .i64 0,.int .i64 0,.map (some b),.map (some o)] 224 (0,0)),aq b (b4 kI (g_ 9) 15),aq o (b4 kI iq 7)] Y O uR O O [s] (by simp) (λw p=>by
       have:=D t (by omega) y.other J K (d+1) (c+ch (decide (10<l.length))+ar (l.take i) d+du (cu y.op).isNone+dB ((cu y.op).getD (false,0)) y.mod y.nm y.args.length+cP y.args 1+dn (gB y.op y.body.length y.other.length)) w B aj p
       exact this) ?_
   refine Ln (Eb (Et (Cr (I (Yi O O O (by omega)) (ad O (Ln ?_))))));rw [show c+ch (decide (10<l.length))+ar (l.take i) d+du (cu y.op).isNone+dB ((cu y.op).getD (false,0)) y.mod y.nm y.args.length+cP y.args 1+dn (gB y.op y.body.length y.other.length)+dw y.other (d+1)=c+ch (decide (10<l.length))+ar (l.take (i+1)) d by rw [xq d z,xp,A,x]; simp only [bo.gM,dr,s']];exact Ea (i+1) (by omega) (by omega) (sc O (sc O (sc O (sc O (sc O sn))))) (λ_ h=>(Wt 3 h:))
  have x:(if 0<y.other.length then dw y.other (d+1) else c0)=c0:=if_neg (by simpa using v);refine Ck (Eb (Et (Cr (I (Yi O O O (by omega)) (ad O (Ln ?_))))));rw [show c+ch (decide (10<l.length))+ar (l.take i) d+du (cu y.op).isNone+dB ((cu y.op).getD (false,0)) y.mod y.nm y.args.length+cP y.args 1+dn (gB y.op y.body.length y.other.length)=c+ch (decide (10<l.length))+ar (l.take (i+1)) d by rw [xq d z,xp,A,x]; simp only [bo.gM,dr,s']];exact Ea (i+1) (by omega) (by omega) (sc O (sc O (sc O (sc O (sc O sn))))) (λ_ h=>(Wt 3 h:))
 have ba:¬i<l.length:=by simpa using G
 rw [List.take_of_length_le (by omega),bo.gM,<-Pq F];refine Ce (Ex (Ex (cp ?_)));refine E0 O λw' p=>?_;exact ⟨O,p⟩
theorem GY:∀(l:List cB) (i:Nat),wD (l.take i)<=wD l
 | [],i=>by simp
 | x::r,0=>by simp [wD]
 | x::r,i+1=>by have:=GY r i; simp only [List.take_succ_cons,wD]; omega
theorem Ba:∀(l:List dA) (i:Nat),wP (l.take i)<=wP l
 | [],i=>by simp
 | x::r,0=>by simp [wP]
 | x::r,i+1=>by have:=Ba r i; simp only [List.take_succ_cons,wP]; omega
theorem GZ {l:List dA} {i:Nat} {p:dA} (h:l[i]? = some p):wP (l.take i)+(1+p.nm.length+wN p.params+wN p.ay+dC p.body)<=wP l:=by
 have c:=Ba l (i+1);rw [a' h] at c
 have:∀a b:List dA,wP (a++b)=wP a+wP b:=by
   intro a b
   induction a with
   | nil=>simp [wP]
   | cons y a d=>simp only [List.cons_append,wP,d]; omega
 rw [this] at c;simp only [wP] at c;omega
theorem G0:∀a b:List cB,dJ (a++b)=dJ a+dJ b
 | [],b=>by apply bo.ext'<;>simp [bo.q_,bo.ra,bo.rb,dJ,c0]
 | x::a,b=>by
   rw [List.cons_append,show ∀q,dJ (x::q)=gk x+dJ q from λ_=>rfl,G0 a b,show ∀q,dJ (x::q)=gk x+dJ q from λ_=>rfl,bo.gM]
theorem Ps {l:List cB} {i:Nat} {s:cB} (h:l[i]? = some s):dJ (l.take (i+1))=dJ (l.take i)+gk s:=by rw [a' h,G0]; rfl
theorem G1:∀a b:List dA,eo (a++b)=eo a+eo b
 | [],b=>by apply bo.ext'<;>simp [bo.q_,bo.ra,bo.rb,eo,c0]
 | x::a,b=>by
   rw [List.cons_append,show ∀q,eo (x::q)=lT x+eo q from λ_=>rfl,G1 a b,show ∀q,eo (x::q)=lT x+eo q from λ_=>rfl,bo.gM]
theorem Pt {l:List dA} {i:Nat} {s:dA} (h:l[i]? = some s):eo (l.take (i+1))=eo (l.take i)+lT s:=by rw [a' h,G1]; rfl
theorem Pu (n:Nat):decide ((4:Int)<(n:Int))=decide (4<n):=by rw [Bool.eq_iff_iff]; simp; omega
theorem Pv (n:Nat):decide ((6:Int)<(n:Int))=decide (6<n):=by rw [Bool.eq_iff_iff]; simp; omega
def eN (i:Nat):Nat:=if i=0 then 4 else if i=1 then 2 else 1
def cE (c:bo) (i:Nat):Nat:=if i=0 then c.k else if i=1 then c.m else c.f
theorem Pw {i:Nat} (h:i<3):(#[.int .i64 4,.int .i64 2,.int .i64 1]:Array Value)[i]? = some (.int .i64 (eN i:Int)):=by
 match i,h with
 | 0,_=>rfl
 | 1,_=>rfl
 | 2,_=>rfl
theorem Px (i:Nat):eN i<10:=by unfold eN; split; omega; split<;>omega
theorem Py {c:bo} {a b i:Nat} (h:i<3) {T:TypeId} {d:Nat×Nat}:f_ (.cells #[.int .i64 0,.int .i64 (c.f:Int),.int .i64 (c.m:Int),.int .i64 0,.int .i64 (c.k:Int),.int .i64 0,.int .i64 0,.int .i64 0,.int .i64 0,.int .i64 0,.map (some a),.map (some b)] T d) (0+0+eN i*1)=some (.int .i64 (cE c i:Int)):=by
 match i,h with
 | 0,_=>rfl
 | 1,_=>rfl
 | 2,_=>rfl
theorem Pz {c:bo} {i:Nat} (h:i<3) (e:∀j,j<i->cE c j=0) (d:0<cE c i):(eN i:Int)=o6 c:=by
 match i,h,e,d with
 | 0,_,_,d=>unfold o6; rw [if_pos (show 0<c.k from d)]; rfl
 | 1,_,e,d=>have:=e 0 (by omega); unfold o6; rw [if_neg (by simp [cE] at this; omega),if_pos (show 0<c.m from d)]; rfl
 | 2,_,e,d=>have a:=e 0 (by omega); have b:=e 1 (by omega); unfold o6; rw [if_neg (by simp [cE] at a; omega),if_neg (by simp [cE] at b; omega),if_pos (show 0<c.f from d)]; rfl
theorem PA {c:bo} (h:∀j,j<3->cE c j=0):o6 c=0:=by
 have a:=h 0 (by omega); have b:=h 1 (by omega); have d:=h 2 (by omega);simp [cE] at a b d;unfold o6;rw [if_neg (by omega),if_neg (by omega),if_neg (by omega)]
theorem PB:Enters Tryz.prog 124:=enters_of Tryz.func124 (by kernel_rfl) rfl
theorem PC:Enters Tryz.prog 125:=enters_of Tryz.func125 (by kernel_rfl) rfl
theorem PD:aK Tryz.prog 224=some [(0,10),(10,1),(11,1)]:=by kernel_rfl
theorem PE:zeroOf Tryz.prog 224=some (.agg #[.int .i64 0,.int .i64 0,.int .i64 0,.int .i64 0,.int .i64 0,.int .i64 0,.int .i64 0,.int .i64 0,.int .i64 0,.int .i64 0,.map none,.map none]):=by kernel_rfl
theorem cR:an Tryz.prog 50 0=some 0:=by kernel_rfl
theorem nH:an Tryz.prog 50 1=some 1:=by kernel_rfl
theorem eU:eG Tryz.prog 22=true:=by kernel_rfl
theorem tb:an Tryz.prog 50 2=some 2:=by kernel_rfl
theorem gu:eG Tryz.prog 46=true:=by kernel_rfl
theorem cU:eO Tryz.prog 46=some 4:=by kernel_rfl
theorem rO:an Tryz.prog 50 3=some 3:=by kernel_rfl
theorem tc:eG Tryz.prog 47=true:=by kernel_rfl
theorem pz:eO Tryz.prog 47=some 5:=by kernel_rfl
theorem me:f' Tryz.prog 214=some 4:=by kernel_rfl
theorem oE:zeroOf Tryz.prog 214=some (.agg #[.int .i64 0,st [],.bool false,.int .i64 0]):=by kernel_rfl
theorem pA:dk Tryz.prog 214=some 4:=by kernel_rfl
theorem PF:Enters Tryz.prog 128:=enters_of Tryz.func128 (by kernel_rfl) rfl
theorem td:f' Tryz.prog 151=some 5:=by kernel_rfl
theorem qy:zeroOf Tryz.prog 151=some (.agg #[st [],.bool false,.slice none 0 0,.slice none 0 0,.slice none 0 0]):=by kernel_rfl
theorem dt:dk Tryz.prog 151=some 5:=by kernel_rfl
theorem G2:an Tryz.prog 151 0=some 0:=by kernel_rfl
theorem oF:an Tryz.prog 151 2=some 2:=by kernel_rfl
theorem tf:an Tryz.prog 151 3=some 3:=by kernel_rfl
theorem Bb:an Tryz.prog 151 4=some 4:=by kernel_rfl
theorem Bc:an Tryz.prog 50 4=some 4:=by kernel_rfl
theorem PG:q7 Tryz.prog 227=some (3,1):=by kernel_rfl
theorem PH:zeroOf Tryz.prog 227=some (.agg #[.int .i64 0,.int .i64 0,.int .i64 0]):=by kernel_rfl
theorem PI:hD Tryz.prog 227=some 3:=by kernel_rfl
theorem Bd (l:View) (ke ks:Nat) (r:ic) (m:aZ) (w:World) (L:Le l w) (o:iB ke ks l r m) (ar:wM m<=9007199254740992) :
   Calls Tryz.prog 50 #[.agg (fu m r).toArray] w λe w'=>e = .returned (.int .i64 (fH m))/\Ext w w':=by
 have au:=zd m.nm;have aw:=ss m.ak;have ax:=sq ((decide (3<m.ak.length)||decide (10<m.decls.length))||decide (6<m.procs.length));have az:=zb m.decls;have aA:=wy m.procs;have aB:=zc m.main 1;have aC:wM m=1+m.nm.length+wN m.ak+wD m.decls+wP m.procs+dC m.main:=rfl;have aD:c0.bE=0:=rfl;have aE:=tY m.ak;have aF:=o.ak.cap;have aG:=o.ak.max;have aH:=o.decls.cap;have aI:=o.decls.max;have aJ:=o.procs.cap;have aK:=o.procs.max
 have M:∀i,(dJ (m.decls.take i)).bE<=8*wD m.decls:=λi=>by have:=zb (m.decls.take i); have:=GY m.decls i; omega
 have N:∀i,(eo (m.procs.take i)).bE<=8*wP m.procs:=λi=>by have:=wy (m.procs.take i); have:=Ba m.procs i; omega
 have aL:(c0+bp [m.nm]).bE+16+m.ak.length<=1152921504606846976:=by simp only [bo.dG]; omega
 have aM:(c0+bp [m.nm]+bp m.ak).bE+16+m.ak.length<=1152921504606846976:=by simp only [bo.dG]; omega
 have aN:(c0+bp [m.nm]+bp m.ak+ch ((decide (3<m.ak.length)||decide (10<m.decls.length))||decide (6<m.procs.length))).bE+16+m.ak.length<=1152921504606846976:=by simp only [bo.dG]; omega
 have aP:(c0+bp [m.nm]+bp m.ak+ch ((decide (3<m.ak.length)||decide (10<m.decls.length))||decide (6<m.procs.length))+dJ m.decls).bE+16+m.ak.length<=1152921504606846976:=by simp only [bo.dG]; omega
 have aQ:(c0+bp [m.nm]+bp m.ak+ch ((decide (3<m.ak.length)||decide (10<m.decls.length))||decide (6<m.procs.length))+dJ m.decls+eo m.procs).bE+16+8*dC m.main<=1152921504606846976:=by simp only [bo.dG]; omega
 refine enter Tryz.func50 O 106 O O ?_;refine CE (Vs:=[l]) (Ws.init (by simp [L])) (aa ?_);refine WL.box Y O O λt=>?_;refine ai O (ae (aa ?_))
 refine WL.Dd (ι:=Nat) Y O PB O (λb=>.map (some b)) (λb=>[aq b (b4 kI (g_ 9) 15)]) (λ_=>True) (λw a=>(Hr w).mono λe w' h=>by
     obtain ⟨b,u,v⟩:=h
     exact ⟨b,u,trivial,v⟩) ?_
 intro c _
 refine WL.Dd (ι:=Nat) Y O PC O (λb=>.map (some b)) (λb=>[aq b (b4 kI iq 7)]) (λ_=>True) (λw a=>(HK w).mono λe w' h=>by
     obtain ⟨b,u,v⟩:=h
     exact ⟨b,u,trivial,v⟩) ?_
 intro g _;refine I (Yb PE PD O O) ?_;refine WL.box Y O O λn=>?_;refine cD 0 (.cells #[.int .i64 0,.int .i64 ((c0).f:Int),.int .i64 ((c0).m:Int),.int .i64 0,.int .i64 ((c0).k:Int),.int .i64 0,.int .i64 0,.int .i64 0,.int .i64 0,.int .i64 0,.map (some c),.map (some g)] 224 (0,0)) O O (ai O (ae (aa (ad O (I (Yf cR O) (I (Yd 3 O O O cN) ?_))))));refine Lb Y O dT O O O O λaR=>?_;refine a7 (T:=9) (m:=1) 0 [m.nm] O O (show 1<=1 by decide) (by decide) λH P=>?_;refine fe [_] _ [aq n (.cells #[.int .i64 0,.int .i64 ((c0+bp [m.nm]).f:Int),.int .i64 ((c0+bp [m.nm]).m:Int),.int .i64 0,.int .i64 ((c0+bp [m.nm]).k:Int),.int .i64 0,.int .i64 0,.int .i64 0,.int .i64 0,.int .i64 0,.map (some c),.map (some g)] 224 (0,0))] Y O s6 O O [H] (by simp) (λw a=>s8 n c g H _ _ [m.nm] (c0) w P (by show c0.bE+1<=_; omega) a) (ae (aa (ad O (I (Yf nH O) (I (Yd 3 O O O eU) (fe [_] _ _ Y O s6 O O [l] (by simp) (λw a=>s8 n c g l r.a1 r.c1 m.ak (c0+bp [m.nm]) w o.ak (by omega) a) (ae (aa (ad O ?_)))))))));refine I (Yf nH O) (I (Yd 3 O O O eU) (I (Yn di O) (I (dc O O) ?_)));rw [A_];refine ad O ?_;apply Lo 4 O O O O Y O O O O O
 ·intro aS;refine Vg (Yf tb O) (Vg (Yd 3 O O O gu) (Vg (Yn cU O) (Vg (dc O O) ?_)));rw [GW];exact Gt 4 O O O
 refine ad O ?_;apply Lo 4 O O O O Y O O O O O
 ·intro aU;refine Vg (Yf rO O) (Vg (Yd 3 O O O tc) (Vg (Yn pz O) (Vg (dc O O) ?_)));rw [Pv];exact Gt 4 O O O
 refine fe [_] _ _ Y O ka O O [] (by simp) (λw a=>s5 n c g (c0+bp [m.nm]+bp m.ak) ((decide (3<m.ak.length)||decide (10<m.decls.length))||decide (6<m.procs.length)) w (by omega) a) (ae (Cs (aa (I (Yf tb O) (I (Yd 3 O O O gu) (I (Yn cU O) (ad O (ae (Cb ?_)))))))));refine av (ι:=Nat) (λi=>[(44,.int .i64 (i:Int))]) [(1,_),(2,_),(3,_),(42,_),(43,_)] (λi=>Ws w [] [aq n (.cells #[.int .i64 0,.int .i64 ((c0+bp [m.nm]+bp m.ak+ch ((decide (3<m.ak.length)||decide (10<m.decls.length))||decide (6<m.procs.length))+dJ (m.decls.take i)).f:Int),.int .i64 ((c0+bp [m.nm]+bp m.ak+ch ((decide (3<m.ak.length)||decide (10<m.decls.length))||decide (6<m.procs.length))+dJ (m.decls.take i)).m:Int),.int .i64 0,.int .i64 ((c0+bp [m.nm]+bp m.ak+ch ((decide (3<m.ak.length)||decide (10<m.decls.length))||decide (6<m.procs.length))+dJ (m.decls.take i)).k:Int),.int .i64 0,.int .i64 0,.int .i64 0,.int .i64 0,.int .i64 0,.map (some c),.map (some g)] 224 (0,0)),aq c (b4 kI (g_ 9) 15),aq g (b4 kI iq 7),aq t (.cells (fu m r).toArray 50 (0,0))] [l]) (λi=>i<=m.decls.length) (λi=>m.decls.length-i) 0 (Nat.zero_le _) (sc O (sc O (sc O (sc O (sc O (sc O sn)))))) (λ_ h=>by have h:=h.bR 3 O; have h:=h.bR 2 O; have h:=h.bR 3 O; have h:=h.bR 3 O; have h:=Ws.cv h (ah:=[l]) (by simp); exact h) ?_;intro i hi;refine aa (I (b0 O O) (ae (Cs ?_)));refine Cc O (λx=>?_) (λx=>?_)
 ·have s:i<m.decls.length:=by simpa using x
  obtain ⟨d,J⟩:∃q,m.decls[i]? = some q:=⟨_,List.getElem?_eq_getElem s⟩;obtain ⟨Q,R,S,y⟩:=o.decls.bJ i d J;have y:bI l Q (R+i*4) d.cells:=y
  have U:c0+bp [m.nm]+bp m.ak+ch ((decide (3<m.ak.length)||decide (10<m.decls.length))||decide (6<m.procs.length))+dJ (m.decls.take i)+gk d=c0+bp [m.nm]+bp m.ak+ch ((decide (3<m.ak.length)||decide (10<m.decls.length))||decide (6<m.procs.length))+dJ (m.decls.take (i+1)):=by rw [Ps J,<-bo.gM]
  have aV:=M i
  have aW:(c0+bp [m.nm]+bp m.ak+ch ((decide (3<m.ak.length)||decide (10<m.decls.length))||decide (6<m.procs.length))+dJ (m.decls.take i)).bE+4<=4611686018427387904:=by simp only [bo.dG]; omega
  refine bf (Cs (Cb (aa (I (Yo cU O O S (by omega)) (I (dj 0 me O O O (y)) ?_)))));refine Al Y O oE λaY=>?_;refine aO 0 Y O O O pA O O O (ae (Cr (ad O (I (b8 0 O O me O) (Lf 1 O (fe [_] _ _ Y O PF O O [] (by simp) (λw a=>Pn n c g d (c0+bp [m.nm]+bp m.ak+ch ((decide (3<m.ak.length)||decide (10<m.decls.length))||decide (6<m.procs.length))+dJ (m.decls.take i)) w (by omega) a) (Ln (Eb (Et (Cr (I (Yi O O O (by omega)) ?_)))))))))));refine ad O (Ln ?_);rw [U];exact Ea (i+1) (by omega) (by omega) (sc O (sc O (sc O (sc O (sc O (sc O sn)))))) (λ_ h=>by exact (Wt 4 ((((h.f 4 O).f 4 O).f 4 O).f 3 O):))
 have a0:¬i<m.decls.length:=by simpa using x
 rw [List.take_of_length_le (by omega)];refine Ce (Ex (Ex (cp (Et (Cs (aa (I (Yf rO O) (I (Yd 3 O O O tc) (I (Yn pz O) (ad O (ae (Cb ?_))))))))))));refine av (ι:=Nat) (λj=>[(55,.int .i64 (j:Int))]) [(1,_),(2,_),(3,_),(53,_),(54,_)] (λj=>Ws w [] [aq n (.cells #[.int .i64 0,.int .i64 ((c0+bp [m.nm]+bp m.ak+ch ((decide (3<m.ak.length)||decide (10<m.decls.length))||decide (6<m.procs.length))+dJ m.decls+eo (m.procs.take j)).f:Int),.int .i64 ((c0+bp [m.nm]+bp m.ak+ch ((decide (3<m.ak.length)||decide (10<m.decls.length))||decide (6<m.procs.length))+dJ m.decls+eo (m.procs.take j)).m:Int),.int .i64 0,.int .i64 ((c0+bp [m.nm]+bp m.ak+ch ((decide (3<m.ak.length)||decide (10<m.decls.length))||decide (6<m.procs.length))+dJ m.decls+eo (m.procs.take j)).k:Int),.int .i64 0,.int .i64 0,.int .i64 0,.int .i64 0,.int .i64 0,.map (some c),.map (some g)] 224 (0,0)),aq c (b4 kI (g_ 9) 15),aq g (b4 kI iq 7),aq t (.cells (fu m r).toArray 50 (0,0))] [l]) (λj=>j<=m.procs.length) (λj=>m.procs.length-j) 0 (Nat.zero_le _) (sc O (sc O (sc O (sc O (sc O (sc O sn)))))) (λ_ h=>h) ?_;intro j z;refine aa (I (b0 O O) (ae (Cs ?_)));refine Cc O (λA=>?_) (λA=>?_)
 ·have s:j<m.procs.length:=by simpa using A
  obtain ⟨p,B⟩:∃q,m.procs[j]? = some q:=⟨_,List.getElem?_eq_getElem s⟩;obtain ⟨a2,a3,V,W⟩:=o.procs.bJ j p B;obtain ⟨X,Z,ab,ac,af,ag,aj,C,D,al⟩:=W;have a5:=GZ B;have a6:=N j;have a8:=wy (m.procs.take j);have a9:=zd p.nm;have a':=ss p.params;have a_:=ss p.ay;have ba:=sq (decide (3<p.params.length)||decide (4<p.ay.length));have bb:=tY p.params;have bc:=tY p.ay;have bd:=C.cap;have be:=C.max;have bg:=D.cap;have bh:=D.max
  have am:c0+bp [m.nm]+bp m.ak+ch ((decide (3<m.ak.length)||decide (10<m.decls.length))||decide (6<m.procs.length))+dJ m.decls+eo (m.procs.take j)+bp [p.nm]+bp p.params+bp p.ay+ch (decide (3<p.params.length)||decide (4<p.ay.length))+dw p.body 1=c0+bp [m.nm]+bp m.ak+ch ((decide (3<m.ak.length)||decide (10<m.decls.length))||decide (6<m.procs.length))+dJ m.decls+eo (m.procs.take (j+1)):=by rw [Pt B,lT]; simp only [bo.gM]
  have bi:(c0+bp [m.nm]+bp m.ak+ch ((decide (3<m.ak.length)||decide (10<m.decls.length))||decide (6<m.procs.length))+dJ m.decls+eo (m.procs.take j)).bE+16+p.params.length+p.ay.length+8*dC p.body<=1152921504606846976:=by simp only [bo.dG]; omega
  have bj:(c0+bp [m.nm]+bp m.ak+ch ((decide (3<m.ak.length)||decide (10<m.decls.length))||decide (6<m.procs.length))+dJ m.decls+eo (m.procs.take j)+bp [p.nm]).bE+16+p.params.length+p.ay.length+8*dC p.body<=1152921504606846976:=by simp only [bo.dG]; omega
  have bk:(c0+bp [m.nm]+bp m.ak+ch ((decide (3<m.ak.length)||decide (10<m.decls.length))||decide (6<m.procs.length))+dJ m.decls+eo (m.procs.take j)+bp [p.nm]+bp p.params).bE+16+p.params.length+p.ay.length+8*dC p.body<=1152921504606846976:=by simp only [bo.dG]; omega
  have bl:(c0+bp [m.nm]+bp m.ak+ch ((decide (3<m.ak.length)||decide (10<m.decls.length))||decide (6<m.procs.length))+dJ m.decls+eo (m.procs.take j)+bp [p.nm]+bp p.params+bp p.ay).bE+16+p.params.length+p.ay.length+8*dC p.body<=1152921504606846976:=by simp only [bo.dG]; omega
  have bm:(c0+bp [m.nm]+bp m.ak+ch ((decide (3<m.ak.length)||decide (10<m.decls.length))||decide (6<m.procs.length))+dJ m.decls+eo (m.procs.take j)+bp [p.nm]+bp p.params+bp p.ay+ch (decide (3<p.params.length)||decide (4<p.ay.length))).bE+16+p.params.length+p.ay.length+8*dC p.body<=1152921504606846976:=by simp only [bo.dG]; omega
  refine bf (Cs (Cb (aa (I (Yo pz O O V (by omega)) (I (dj 0 td O O O (aj)) ?_)))));refine Al Y O qy λbn=>?_;refine aO 0 Y O O O dt O O O (ae (aa (ad O (I (Yf G2 O) (I (Yd 0 O O O cN) ?_)))));refine Lb Y O dT O O O O λbq=>?_;refine a7 (T:=9) (m:=1) 0 [p.nm] O O (show 1<=1 by decide) (by decide) λK an=>?_;refine Lf 1 O ?_;refine fe [_] _ [aq n (.cells #[.int .i64 0,.int .i64 ((c0+bp [m.nm]+bp m.ak+ch ((decide (3<m.ak.length)||decide (10<m.decls.length))||decide (6<m.procs.length))+dJ m.decls+eo (m.procs.take j)+bp [p.nm]).f:Int),.int .i64 ((c0+bp [m.nm]+bp m.ak+ch ((decide (3<m.ak.length)||decide (10<m.decls.length))||decide (6<m.procs.length))+dJ m.decls+eo (m.procs.take j)+bp [p.nm]).m:Int),.int .i64 0,.int .i64 ((c0+bp [m.nm]+bp m.ak+ch ((decide (3<m.ak.length)||decide (10<m.decls.length))||decide (6<m.procs.length))+dJ m.decls+eo (m.procs.take j)+bp [p.nm]).k:Int),.int .i64 0,.int .i64 0,.int .i64 0,.int .i64 0,.int .i64 0,.map (some c),.map (some g)] 224 (0,0))] Y O s6 O O [K] (by simp) (λw a=>s8 n c g K _ _ [p.nm] (c0+bp [m.nm]+bp m.ak+ch ((decide (3<m.ak.length)||decide (10<m.decls.length))||decide (6<m.procs.length))+dJ m.decls+eo (m.procs.take j)) w an (by show (c0+bp [m.nm]+bp m.ak+ch ((decide (3<m.ak.length)||decide (10<m.decls.length))||decide (6<m.procs.length))+dJ m.decls+eo (m.procs.take j)).bE+1<=_; omega) a) ?_;refine ae (aa (ad O (I (Yf oF O) (I (Yd 1 O O O eU) (fe [_] _ _ Y O s6 O O [l] (by simp) (λw a=>s8 n c g l X Z p.params (c0+bp [m.nm]+bp m.ak+ch ((decide (3<m.ak.length)||decide (10<m.decls.length))||decide (6<m.procs.length))+dJ m.decls+eo (m.procs.take j)+bp [p.nm]) w C (by omega) a) (ae (aa (ad O (I (Yf tf O) ?_)))))))));refine I (Yd 1 O O O eU) (fe [_] _ _ Y O s6 O O [l] (by simp) (λw a=>s8 n c g l ab ac p.ay (c0+bp [m.nm]+bp m.ak+ch ((decide (3<m.ak.length)||decide (10<m.decls.length))||decide (6<m.procs.length))+dJ m.decls+eo (m.procs.take j)+bp [p.nm]+bp p.params) w D (by omega) a) (ae (aa (ad O (I (Yf oF O) (I (Yd 1 O O O eU) (I (Yn di O) (I (dc O O) ?_))))))));rw [A_];refine ad O ?_;apply Lo 4 O O O O Y O O O O O
  ·intro br;refine Vg (Yf tf O) (Vg (Yd 1 O O O eU) (Vg (Yn di O) (Vg (dc O O) ?_)));rw [Pu];exact Gt 4 O O O
  refine fe [_] _ _ Y O ka O O [] (by simp) (λw a=>s5 n c g (c0+bp [m.nm]+bp m.ak+ch ((decide (3<m.ak.length)||decide (10<m.decls.length))||decide (6<m.procs.length))+dJ m.decls+eo (m.procs.take j)+bp [p.nm]+bp p.params+bp p.ay) (decide (3<p.params.length)||decide (4<p.ay.length)) w (by omega) a) (ae (Cr (ad O (I (Yf Bb O) (I (Yd 1 O O O k3) (Lf 3 O (Lf 3 O (Lf 2 O ?_))))))));refine fe [_,_,_] _ _ Y O uR O O [l] (by simp) (λw a=>zj n c g l ke ks (p.body) af ag 1 (c0+bp [m.nm]+bp m.ak+ch ((decide (3<m.ak.length)||decide (10<m.decls.length))||decide (6<m.procs.length))+dJ m.decls+eo (m.procs.take j)+bp [p.nm]+bp p.params+bp p.ay+ch (decide (3<p.params.length)||decide (4<p.ay.length))) w al (by omega) a) (Ln (Eb (Et (Cr (I (Yi O O O (by omega)) (ad O (Ln ?_)))))));rw [am];exact Ea (j+1) (by omega) (by omega) (sc O (sc O (sc O (sc O (sc O (sc O sn)))))) (λ_ h=>by exact (Wv 1 (Wt 4 ((((h.f 4 O).f 3 O).f 3 O).f 3 O)):))
 have bs:¬j<m.procs.length:=by simpa using A
 rw [List.take_of_length_le (by omega)];refine Ce (Ex (Ex (cp (Et (aa (ad O (I (Yf Bc O) (I (Yd 3 O O O k3) (fe [_,_,_] _ _ Y O uR O O [l] (by simp) (λw a=>zj n c g l ke ks (m.main) r.a4 r.c4 1 (c0+bp [m.nm]+bp m.ak+ch ((decide (3<m.ak.length)||decide (10<m.decls.length))||decide (6<m.procs.length))+dJ m.decls+eo m.procs) w o.main (by omega) a) (ae (Cs (aa (I (DH PH PG O O) ?_)))))))))))));refine ad O (ae (Cb ?_));refine av (ι:=Nat) (λi=>[(94,.int .i64 (i:Int))]) [(3,_),(93,_)] (λi=>Ws w [] [aq n (.cells #[.int .i64 0,.int .i64 ((c0+bp [m.nm]+bp m.ak+ch ((decide (3<m.ak.length)||decide (10<m.decls.length))||decide (6<m.procs.length))+dJ m.decls+eo m.procs+dw m.main 1).f:Int),.int .i64 ((c0+bp [m.nm]+bp m.ak+ch ((decide (3<m.ak.length)||decide (10<m.decls.length))||decide (6<m.procs.length))+dJ m.decls+eo m.procs+dw m.main 1).m:Int),.int .i64 0,.int .i64 ((c0+bp [m.nm]+bp m.ak+ch ((decide (3<m.ak.length)||decide (10<m.decls.length))||decide (6<m.procs.length))+dJ m.decls+eo m.procs+dw m.main 1).k:Int),.int .i64 0,.int .i64 0,.int .i64 0,.int .i64 0,.int .i64 0,.map (some c),.map (some g)] 224 (0,0)),aq c (b4 kI (g_ 9) 15),aq g (b4 kI iq 7),aq t (.cells (fu m r).toArray 50 (0,0))] [l]) (λi=>i<=3/\∀j,j<i->cE (c0+bp [m.nm]+bp m.ak+ch ((decide (3<m.ak.length)||decide (10<m.decls.length))||decide (6<m.procs.length))+dJ m.decls+eo m.procs+dw m.main 1) j=0) (λi=>3-i) 0 ⟨Nat.zero_le _,by simp⟩ (sc O (sc O (sc O sn))) (λ_ h=>h) ?_;intro i ⟨hi,E⟩;refine aa (I (b0 O O) (ae (Cs ?_)));refine Cc O (λF=>?_) (λF=>?_)
 ·have s:i<3:=by simp at F; omega
  refine bf (Cs (Cb (aa (I (Dg (i:=i) PI O O s (Pw s)) (ai O (ae (aa (ad O (ad O (I (cy O) (I (Yf rJ O) ?_)))))))))));refine I (q8 (i:=eN i) rK O O (Px i)) (I (Yd 0 O O (Py s) aT) (I (dc O O) (ae ?_)));refine Cc O (λG=>?_) (λG=>?_)
  ·have ao:0<cE (c0+bp [m.nm]+bp m.ak+ch ((decide (3<m.ak.length)||decide (10<m.decls.length))||decide (6<m.procs.length))+dJ m.decls+eo m.procs+dw m.main 1) i:=by simpa using G
   refine aa (ad O (ai O (ae (aX (cj (Er (Er (cj (Er ?_)))))))));refine R1 O O λw' a=>?_;refine ⟨?_,a.fr⟩;rw [Pz s E ao,show c0+bp [m.nm]+bp m.ak+ch ((decide (3<m.ak.length)||decide (10<m.decls.length))||decide (6<m.procs.length))+dJ m.decls+eo m.procs+dw m.main 1=nf m by rw [nf,s']]
   rfl
  have ap:cE (c0+bp [m.nm]+bp m.ak+ch ((decide (3<m.ak.length)||decide (10<m.decls.length))||decide (6<m.procs.length))+dJ m.decls+eo m.procs+dw m.main 1) i=0:=by simp at G; omega
  refine Ck (Eb (Et (Cr (I (Yi O O O (by omega)) (ad O (Ln ?_))))));exact Ea (i+1) (by omega) ⟨by omega,λj z=>by rcases Nat.lt_succ_iff_lt_or_eq.1 z with h | rfl; exact E j h; exact ap⟩ (sc rfl (sc rfl (sc rfl sn))) (λ_ h=>h)
 have bt:¬i<3:=by simp at F; omega
 refine Ce (Ex (Ex (cp (Et (aa (ai O (ae (aX ?_))))))));refine R1 O O λw' a=>?_;refine ⟨?_,a.fr⟩;rw [fH,show nf m=c0+bp [m.nm]+bp m.ak+ch ((decide (3<m.ak.length)||decide (10<m.decls.length))||decide (6<m.procs.length))+dJ m.decls+eo m.procs+dw m.main 1 by rw [nf,s'],PA λj z=>E j (by omega)]
theorem G3:zeroOf Tryz.prog 356=some (.agg #[st [],st [],st [],st [],st [],st [],st [],st [],st []]):=by kernel_rfl
theorem PJ:q7 Tryz.prog 356=some (9,1):=by kernel_rfl
theorem PK:dk Tryz.prog 356=some 9:=by kernel_rfl
theorem PL:f' Tryz.prog 356=some 9:=by kernel_rfl
theorem PM (w:World) :
   Calls Tryz.prog 272 #[] w λe w'=>e = .returned (.agg (opsL.map st).toArray)/\Ext w w':=by
 refine enter Tryz.func272 O 2 O O ?_;refine CE (Vs:=[]) (Ws.init (by simp)) (aa ?_);refine Al Y O G3 λb=>?_;refine ae (aa (I (DH G3 PJ O O) (aO 0 Y O O O PK O O O (ae (aX ?_)))));refine WE.ee (gL O (dI 0 O O PL O)) λw' a=>?_;exact ⟨O,a.fr⟩
abbrev aL (a:Nat) (r:Option Addr×Nat) (l:Tk):List aS:=[aq a (.cells #[.slice r.1 l.length r.2] 96 (0,0))]
def cA:List PanicEntry:=[⟨.iface 100 (.agg #[]),false,false⟩]
def cZ:List Tx->Tk->Option Tk
 | [],l=>some l
 | w::ws,l=>(aU w l).bind (cZ ws)
theorem dX (w:Tx) (l:Tk):cZ [w] l=aU w l:=by unfold cZ; cases aU w l<;>rfl
theorem G4 (v w:Tx) (l:Tk):cZ [v,w] l=(aU v l).bind (aU w):=by
 unfold cZ
 cases aU v l with
 | none=>rfl
 | some q=>exact dX w q
theorem G5:∀{b:List Tx} {l r:Tk},gx l->cZ b l=some r->gx r
 | [],l,r,a,h=>by injection h with h; subst h; exact a
 | w::b,l,r,a,h=>by
   obtain ⟨q,c,d⟩:=Option.bind_eq_some_iff.1 h;exact G5 (F9 a c) d
theorem Be (s:Tx) (t:Tok) (r:Tk):aU s (t::r)=if (t.text==s)=true then some r else none:=rfl
theorem ha {s:Tx} {l q:Tk} (h:aU s l=some q):q.length+1=l.length:=by
 cases l with
 | nil=>cases h
 | cons t r=>
   rw [Be] at h
   split at h
   · injection h with h; subst h; rfl
   · cases h
theorem PN {w:Tx} {a:List Tx} {l q:Tk} (h:aU w l=some q):cZ (w::a) l=cZ a q:=by show (aU w l).bind (cZ a)=_; rw [h]; rfl
theorem PO {w:Tx} {a:List Tx} {l:Tk} (h:aU w l=none):cZ (w::a) l=none:=by show (aU w l).bind (cZ a)=_; rw [h]; rfl
structure cW (l:Tk):Prop where
 all:gx l
 len:l.length<=4096
theorem pB {l r:Tk} {a:List Tx} (h:cW l) (e:fh l a r):cW r:=⟨e.ok,by have:=h.len; rw [e.2,List.length_append] at this; omega⟩
theorem hb {s:Tx} {l r:Tk} (h:cW l) (e:aU s l=some r):cW r:=⟨F9 h.all e,by have:=ha e; have:=h.len; omega⟩
theorem gw:∀{a:List Tx} {l q:Tk},cZ a l=some q->q.length+a.length=l.length
 | [],l,q,h=>by injection h with h; subst h; rfl
 | w::a,l,q,h=>by
   obtain ⟨d,b,c⟩:=Option.bind_eq_some_iff.1 h;have:=ha b; have:=gw c;simp only [List.length_cons];omega
theorem hc {a:List Tx} {l r:Tk} (h:cW l) (e:cZ a l=some r):cW r:=⟨G5 h.all e,by have:=gw e; have:=h.len; omega⟩
theorem nI {l r:Tk} {a:Tx} (h:cW l) (e:dz l=some (a,r)):cW r:=pB h (ow h.all e).1
theorem Bf {l r:Tk} {a:Int} (h:cW l) (e:iH l=some (a,r)):cW r:=pB h (AE h.all e)
theorem G6 {l r:Tk} {p:Tx×Tx} (h:cW l) (e:h6 l=some (p,r)):cW r:=pB h (AF (mod:=p.1) (nm:=p.2) h.all e)
theorem mM {l r:Tk} {f:Nat} {x:aV} (h:cW l) (e:cC f l=some (x,r)):cW r:=pB h (sZ f l x r h.all e)
theorem mN {l r:Tk} {f:Nat} {x:aV} (h:cW l) (e:cC f l=some (x,r)):r.length+1<=l.length:=by
 have a:=(sZ f l x r h.all e).2;have b:=Fs x;rw [a]
 cases c:aB x with
 | nil=>exact absurd c b
 | cons y t=>simp
theorem PQ {a:List Tx} {i:Nat} {x:Tx} (h:a[i]? = some x):a.drop i=x::a.drop (i+1):=by
 obtain ⟨hi,e⟩:=List.getElem?_eq_some_iff.1 h;rw [<-e];exact List.drop_eq_getElem_cons hi
theorem mO:an Tryz.prog 96 0=some 0:=by kernel_rfl
theorem oG:eG Tryz.prog 91=true:=by kernel_rfl
theorem G7:dk Tryz.prog 91=some 1:=by kernel_rfl
theorem gF:Enters Tryz.prog 120:=enters_of Tryz.func120 (by kernel_rfl) rfl
theorem pC:aK Tryz.prog 100=some []:=by kernel_rfl
theorem pD:zeroOf Tryz.prog 100=some (.agg #[]):=by kernel_rfl
theorem pE:Tryz.prog.concrete 100=true:=by kernel_rfl
theorem G8:Enters Tryz.prog 166:=enters_of Tryz.func166 (by kernel_rfl) rfl
theorem PR:wA Tryz.prog 209 2=some 2:=by kernel_rfl
theorem PS:wA Tryz.prog 209 1=some 1:=by kernel_rfl
theorem nJ:Enters Tryz.prog 119:=enters_of Tryz.func119 (by kernel_rfl) rfl
theorem gG (c:Nat) (d:View) (r:Option Addr×Nat) (l:Tk) (s:Tx) (w:World) (f:Sl ag 3 d r.1 r.2 l) (g:Ws w (List.flatMap aS.ids (aL c r l)) (aL c r l) [d] w) :
   Calls Tryz.prog 120 #[.pointer (some ⟨c,0,none⟩),st s] w λe w'=>∃i:Bool×(Option Addr×Nat)×Tk,e = .returned (.bool i.1)/\((i.1=true->aU s l=some i.2.2)/\(i.1=false->aU s l=none/\l=i.2.2)/\Sl ag 3 d i.2.1.1 i.2.1.2 i.2.2)/\Ws w (List.flatMap aS.ids (aL c r l)) (aL c i.2.1 i.2.2) [d] w':=by
 have m:=f.cap;have y:=f.max;have j:=f.drop 1;refine enter Tryz.func120 O 33 O O ?_;refine CE g (aa (ai O (ae (aa (ad O (I (cy O) (I (Yf mO O) (I (Yd 0 O O O oG) ?_))))))));refine I (Yn oC O) (I (dc O O) (ad O ?_));apply La 9 (x:=((l.head?.map λt=>t.text==s).getD false)) O O O O Y O O O O O
 ·intro n
  obtain ⟨t,a,rfl⟩:∃t a,l=t::a:=by
    cases l with
    | nil=>simp at n
    | cons t a=>exact ⟨t,a,rfl⟩
  obtain ⟨o,p,q,k⟩:=f.bJ 0 t rfl;have k:bI d o (p+0*3) t.cells:=k;refine Vg (Ym O) (Vg (cy O) (Vg (Yf mO O) (Vg (Yd 0 O O O oG) (Vg (Yo (i:=0) oC O O q (by simp)) (Vg (Yf OW O) (Vg (b9 0 cN O O (k 2 _ O)) (Vg (Ym O) ?_)))))));refine Vg (qY O O) ?_;exact Gt 9 O O O
 refine ai O (ae (Cs (aa (ad O (ae ?_)))));refine Cc O (λb=>?_) (λb=>?_)
 ·obtain ⟨t,a,rfl⟩:∃t a,l=t::a:=by
    cases l with
    | nil=>simp at b
    | cons t a=>exact ⟨t,a,rfl⟩
  have u:(t.text==s)=true:=by simpa using b
  have j:=j (by simp);refine Cr (ad O (ad O (I (cy O) (I (Yf mO O) (I (Yd 0 O O O oG) (I (C5 1 oC O O O (by simp) m) (I (cy O) ?_)))))));refine I (Yf mO O) (aO 0 Y O O O G7 O O O (ae (aa (ad O (ai O (ae (aX ?_)))))));refine R1 O O λw' g=>?_;exact ⟨(true,(if r.2-1=0 then r.1 else r.1.map (·.add (1*3)),r.2-1),a),by rw [b],⟨λ_=>by rw [Be,if_pos u],λh=>(by cases h),j⟩,g⟩
 have v:aU s l=none:=by
   cases l with
   | nil=>rfl
   | cons t a=>rw [Be,if_neg]; intro h; simp [h] at b
 refine bf (aa (ad O (ai O (ae (aX ?_)))));refine R1 O O λw' g=>?_;exact ⟨(false,r,l),by rw [b],⟨λh=>(by cases h),λ_=>⟨v,O⟩,f⟩,g⟩
theorem hd (c:Nat) (d:View) (r:Option Addr×Nat) (l:Tk) (i:View) (a:Option Addr) (n:Nat) (b:List Tx) (w:World) (m:Sl rdStr 1 i a n b) (A:Sl ag 3 d r.1 r.2 l) (f:Ws w (List.flatMap aS.ids (aL c r l)) (aL c r l) [d,i] w) :
   Calls Tryz.prog 118 #[.pointer (some ⟨c,0,none⟩),.slice a b.length n] w λe w'=>(∃(j:Option Addr×Nat) (q:Tk),e = .returned (.tuple #[])/\cZ b l=some q/\Sl ag 3 d j.1 j.2 q/\Ws w (List.flatMap aS.ids (aL c r l)) (aL c j q) [d,i] w')\/(∃(j:Option Addr×Nat) (q:Tk),e = .panicked cA/\cZ b l=none/\Ws w (List.flatMap aS.ids (aL c r l)) (aL c j q) [d,i] w'):=by
 have K:=m.cap;have L:=m.max;refine enter Tryz.func118 O 19 O O ?_;refine CE f (aa (ad O (I (Yn di O) (ad O (ae (Cb ?_))))));refine av (ι:=Nat×(Option Addr×Nat)×Tk) (λg=>[(8,.int .i64 (g.1:Int))]) [(0,_),(6,_),(7,_)] (λg=>Ws w (List.flatMap aS.ids (aL c r l)) (aL c g.2.1 g.2.2) [d,i]) (λg=>g.1<=b.length/\cZ b l=cZ (b.drop g.1) g.2.2/\Sl ag 3 d g.2.1.1 g.2.1.2 g.2.2) (λg=>b.length-g.1) (0,r,l) ⟨Nat.zero_le _,O,A⟩ (sc O (sc O (sc O (sc O sn)))) (λ_ h=>h) ?_;intro g ⟨hi,k,t⟩;refine aa (I (b0 O O) (ae (Cs ?_)));refine Cc O (λo=>?_) (λo=>?_)
 ·have B:g.1<b.length:=by simpa using o
  obtain ⟨x,u⟩:∃x,b[g.1]? = some x:=⟨_,List.getElem?_eq_getElem B⟩;obtain ⟨C,D,M,p⟩:=m.bJ g.1 x u;have p:bI i C (D+g.1*1) (dD x):=p;have v:=PQ u;refine bf (Cs (Cb (aa (I (Yo di O O (by assumption) (by omega)) (I (b9 1 cN O O (p 0 _ O)) (ai O (ae (aa (ad O (ad O ?_))))))))));refine Lw [_] _ Y O gF O O _ _ _ [d] (by simp) (λw f=>gG c d g.2.1 g.2.2 x w t f) ?_;intro ⟨N,y,z⟩ ⟨E,F,G⟩;refine I (az O) (ae ?_);refine Cc O (λs=>?_) (λs=>?_)
  ·obtain ⟨H,P⟩:=F (by simpa using s);refine Cr (I (Yb pD pC O O) (I (bL pE O) ?_));refine WL.panic Y O ?_;refine WE.ck (Ep (Ep (WE.ck ?_)));refine b6 λw' f=>?_;exact .inr ⟨y,z,O,by rw [k,v,PO H],(by have h:=f; exact h)⟩
  have J:=E (by simpa using s);refine Ck (Eb (Et (Cr (I (Yi O O O (by omega)) (ad O (Ln ?_))))));exact Ea ((g.1+1,y,z):Nat×(Option Addr×Nat)×Tk) (by show b.length-(g.1+1)<b.length-g.1; omega) ⟨by show g.1+1<=b.length; omega,by rw [k,v,PN J],G⟩ (sc O (sc O (sc O (sc O sn)))) (λ_ h=>h)
 have Q:¬g.1<b.length:=by simpa using o
 rw [List.drop_eq_nil_of_le (by omega)] at k;refine Ce (Ex (Ex (cp ?_)));refine E0 O λw' f=>?_;exact .inl ⟨g.2.1,g.2.2,O,by rw [k]; rfl,t,f⟩
theorem G9 (b:Nat) (c:View) (r:Option Addr×Nat) (l:Tk) (k:Int) (w:World) (f:Sl ag 3 c r.1 r.2 l) (g:Ws w (List.flatMap aS.ids (aL b r l)) (aL b r l) [c] w) :
   Calls Tryz.prog 166 #[.pointer (some ⟨b,0,none⟩),.int .i64 k] w λe w'=>(∃(t:Tok) (j:Option Addr×Nat) (q:Tk),e = .returned (.agg #[.int .i64 t.kind,.int .i64 t.n,st t.text])/\jx k l=some (t,q)/\Sl ag 3 c j.1 j.2 q/\Ws w (List.flatMap aS.ids (aL b r l)) (aL b j q) [c] w')\/(∃(j:Option Addr×Nat) (q:Tk),e = .panicked cA/\jx k l=none/\Ws w (List.flatMap aS.ids (aL b r l)) (aL b j q) [c] w'):=by
 have v:=f.cap;have C:=f.max;have o:=f.drop 1;refine enter Tryz.func166 O 40 O O ?_;refine CE g (aa ?_);refine Al Y O rI λD=>?_;refine ae (Cs (aa (ad O (I (cy O) (I (Yf mO O) (I (Yd 1 O O O oG) (I (Yn oC O) (I (bP O O) (ad O ?_)))))))));apply Lo 9 (x:=(!((l.head?.map λt=>t.kind==k).getD false))) O O O O Y O O O O O
 ·intro y
  obtain ⟨t,a,rfl⟩:∃t a,l=t::a:=by
    cases l with
    | nil=>simp at y
    | cons t a=>exact ⟨t,a,rfl⟩
  obtain ⟨p,s,u,d⟩:=f.bJ 0 t rfl;have d:bI c p (s+0*3) t.cells:=d;refine Vg (Ym O) (Vg (cy O) (Vg (Yf mO O) (Vg (Yd 1 O O O oG) (Vg (Yo (i:=0) oC O O u (by simp)) (Vg (Yf Gy O) (Vg (b9 0 aT O O (d 0 _ O)) (Vg (Ym O) ?_)))))));refine Vg (e8 O O) ?_;exact Gt 9 O O O
 refine ae ?_;refine Cc O (λm=>?_) (λm=>?_)
 ·have z:jx k l=none:=by
    cases l with
    | nil=>rfl
    | cons t a=>
      simp only [jx];rw [if_neg];intro h;simp [h] at m;omega
  refine Cr (I (Yb pD pC O O) (I (bL pE O) ?_));refine WL.panic Y O ?_;refine Ep ?_;refine b6 λw' g=>?_;exact .inr ⟨r,l,O,z,(by have h:=g; have h:=h.bR 1 O; have h:=Wt 1 h; exact h)⟩
 obtain ⟨t,a,rfl⟩:∃t a,l=t::a:=by
   cases l with
   | nil=>simp at m
   | cons t a=>exact ⟨t,a,rfl⟩
 have A:t.kind=k:=by simp at m; exact m.2
 have B:jx k (t::a)=some (t,a):=by simp only [jx]; rw [if_pos A]
 have o:=o (by simp);obtain ⟨p,s,u,d⟩:=f.bJ 0 t rfl;have d:bI c p (s+0*3) t.cells:=d;refine bf (aa (ad O (I (cy O) (I (Yf mO O) (I (Yd 1 O O O oG) (I (Yo (i:=0) oC O O u (by simp)) (I (dj 0 dp O O O (d)) ?_)))))));refine Al Y O rI λE=>?_;refine aO 0 Y O O O fZ O O O (ae (aa (ad O (ad O (I (cy O) (I (Yf mO O) (I (Yd 2 O O O oG) (I (C5 1 oC O O O (by simp) v) ?_))))))));refine I (cy O) (I (Yf mO O) (aO 2 Y O O O G7 O O O (ae (aa (I (b8 0 O O dp O) (aO 1 Y O O O fZ O O O (ae (aX ?_))))))));refine WE.ee (gL O (dI 1 O O dp O)) λw' g=>?_;exact .inl ⟨t,(if r.2-1=0 then r.1 else r.1.map (·.add (1*3)),r.2-1),a,O,B,o,Wd 2 g⟩
theorem nK (a:Nat) (d:View) (r:Option Addr×Nat) (l:Tk) (w:World) (v:Sl ag 3 d r.1 r.2 l) (b:Ws w (List.flatMap aS.ids (aL a r l)) (aL a r l) [d] w) :
   Calls Tryz.prog 119 #[.pointer (some ⟨a,0,none⟩)] w λe w'=>(∃(s:Tx) (c:Option Addr×Nat) (q:Tk),e = .returned (st s)/\dz l=some (s,q)/\Sl ag 3 d c.1 c.2 q/\Ws w (List.flatMap aS.ids (aL a r l)) (aL a c q) [d] w')\/(∃(c:Option Addr×Nat) (q:Tk),e = .panicked cA/\dz l=none/\Ws w (List.flatMap aS.ids (aL a r l)) (aL a c q) [d] w'):=by
 refine enter Tryz.func119 O 13 O O ?_;refine CE b (aa (ai O (ae (aa (ad O ?_)))))
 refine dF (ι:=Tok×(Option Addr×Nat)×Tk) (κ:=(Option Addr×Nat)×Tk) [_] _ Y O G8 O O (λi=>.agg #[.int .i64 i.1.kind,.int .i64 i.1.n,st i.1.text]) (λi=>aL a i.2.1 i.2.2) (λi=>jx 1 l=some (i.1,i.2.2)/\Sl ag 3 d i.2.1.1 i.2.1.2 i.2.2) (λ_=>cA) (λi=>aL a i.1 i.2) (λ_=>jx 1 l=none) ([d]) (by simp) (λw b=>(G9 a d r l 1 w v b).mono λe w' h=>by
     rcases h with ⟨t,c,q,f,g,j,x⟩ | ⟨c,q,f,g,j⟩
     · exact .inl ⟨(t,c,q),f,⟨g,j⟩,x⟩
     · exact .inr ⟨(c,q),f,g,j⟩) ?_ ?_
 ·intro ⟨y,z⟩ A;refine Ep ?_;refine b6 λw' b=>?_;exact .inr ⟨y,z,O,by unfold dz; rw [A]; rfl,(by have h:=b; exact h)⟩
 intro ⟨o,p,k⟩ ⟨u,B⟩;refine I (DI PR O O) (ai O (ae (Cs (aa (ad O (Lp Y O xr O (λw b=>xo _ w) (I (az O) (ae ?_))))))));refine Cc O (λm=>?_) (λm=>?_)
 ·have C:dz l=none:=by unfold dz; rw [u]; simp only [Option.bind_some]; rw [if_neg (by simpa using m)]
  refine Cr (I (Yb pD pC O O) (I (bL pE O) ?_));refine WL.panic Y O ?_;refine Ep ?_;refine b6 λw' b=>?_;exact .inr ⟨p,k,O,C,(by have h:=b; exact h)⟩
 have D:dz l=some (o.text,k):=by unfold dz; rw [u]; simp only [Option.bind_some]; rw [if_pos (by simpa using m)]
 refine bf (aa (ad O (ai O (ae (aX ?_)))));refine R1 O O λw' b=>?_;exact .inl ⟨o.text,p,k,O,D,B,b⟩
theorem Bg (a:Nat) (c:View) (r:Option Addr×Nat) (l:Tk) (w:World) (k:Sl ag 3 c r.1 r.2 l) (d:Ws w (List.flatMap aS.ids (aL a r l)) (aL a r l) [c] w) :
   Calls Tryz.prog 168 #[.pointer (some ⟨a,0,none⟩)] w λe w'=>(∃(n:Int) (b:Option Addr×Nat) (q:Tk),e = .returned (.int .i64 n)/\iH l=some (n,q)/\Sl ag 3 c b.1 b.2 q/\Ws w (List.flatMap aS.ids (aL a r l)) (aL a b q) [c] w')\/(∃(b:Option Addr×Nat) (q:Tk),e = .panicked cA/\iH l=none/\Ws w (List.flatMap aS.ids (aL a r l)) (aL a b q) [c] w'):=by
 refine enter Tryz.func168 O 6 O O ?_;refine CE d (aa (ai O (ae (aa (ad O ?_)))))
 refine dF (ι:=Tok×(Option Addr×Nat)×Tk) (κ:=(Option Addr×Nat)×Tk) [_] _ Y O G8 O O (λi=>.agg #[.int .i64 i.1.kind,.int .i64 i.1.n,st i.1.text]) (λi=>aL a i.2.1 i.2.2) (λi=>jx 2 l=some (i.1,i.2.2)/\Sl ag 3 c i.2.1.1 i.2.1.2 i.2.2) (λ_=>cA) (λi=>aL a i.1 i.2) (λ_=>jx 2 l=none) ([c]) (by simp) (λw d=>(G9 a c r l 2 w k d).mono λe w' h=>by
     rcases h with ⟨t,b,q,f,g,j,m⟩ | ⟨b,q,f,g,j⟩
     · exact .inl ⟨(t,b,q),f,⟨g,j⟩,m⟩
     · exact .inr ⟨(b,q),f,g,j⟩) ?_ ?_
 ·intro ⟨o,p⟩ s;refine Ep ?_;refine b6 λw' d=>?_;exact .inr ⟨o,p,O,by unfold iH; rw [s]; rfl,(by have h:=d; exact h)⟩
 intro ⟨u,v,x⟩ ⟨y,z⟩;refine I (DI PS O O) (ai O (ae (aX ?_)));refine R1 O O λw' d=>?_;exact .inl ⟨u.n,v,x,O,by unfold iH; rw [y]; rfl,z,d⟩
theorem G' (b:Nat) (c:View) (r:Option Addr×Nat) (l:Tk) (w:World) (D:cW l) (E:Sl ag 3 c r.1 r.2 l) (a:Ws w (List.flatMap aS.ids (aL b r l)) (aL b r l) [c] w) :
   Calls Tryz.prog 215 #[.pointer (some ⟨b,0,none⟩)] w λe w'=>(∃(p:Tx×Tx) (d:Option Addr×Nat) (q:Tk),e = .returned (.tuple #[st p.1,st p.2])/\h6 l=some (p,q)/\Sl ag 3 c d.1 d.2 q/\Ws w (List.flatMap aS.ids (aL b r l)) (aL b d q) [c] w')\/(∃(d:Option Addr×Nat) (q:Tk),e = .panicked cA/\h6 l=none/\Ws w (List.flatMap aS.ids (aL b r l)) (aL b d q) [c] w'):=by
 refine enter Tryz.func215 O 13 O O ?_;refine CE a (aa (ai O (ai O (ae (aa (ad O ?_))))))
 refine dF (ι:=(Tx)×(Option Addr×Nat)×Tk) (κ:=(Option Addr×Nat)×Tk) [_] _ Y O nJ O O (λi=>st i.1) (λi=>aL b i.2.1 i.2.2) (λi=>dz l=some (i.1,i.2.2)/\Sl ag 3 c i.2.1.1 i.2.1.2 i.2.2) (λ_=>cA) (λi=>aL b i.1 i.2) (λ_=>dz l=none) ([c]) (by simp) (λw a=>(nK b c r l w E a).mono λe w' h=>by
     rcases h with ⟨t,d,q,f,g,j,m⟩ | ⟨d,q,f,g,j⟩
     · exact .inl ⟨(t,d,q),f,⟨g,j⟩,m⟩
     · exact .inr ⟨(d,q),f,g,j⟩) ?_ ?_
 ·intro ⟨n,o⟩ s;refine Ep ?_;refine b6 λw' a=>?_;exact .inr ⟨n,o,O,by unfold h6; rw [s]; rfl,(by have h:=a; exact h)⟩
 intro ⟨y,F,z⟩ ⟨k,G⟩;have H:=nI D k;refine ai O (ae (Cs (aa (ad O ?_))));refine Lw [_] _ Y O gF O O _ _ _ [c] (by simp) (λw a=>gG b c F z [46] w G a) ?_;intro ⟨S,A,u⟩ ⟨I,J,B⟩;refine ae ?_;refine Cc O (λv=>?_) (λv=>?_)
 ·have x:=I v;have K:=hb H x;refine aa (ad O (ad O ?_))
  refine dF (ι:=(Tx)×(Option Addr×Nat)×Tk) (κ:=(Option Addr×Nat)×Tk) [_] _ Y O nJ O O (λi=>st i.1) (λi=>aL b i.2.1 i.2.2) (λi=>dz u=some (i.1,i.2.2)/\Sl ag 3 c i.2.1.1 i.2.1.2 i.2.2) (λ_=>cA) (λi=>aL b i.1 i.2) (λ_=>dz u=none) ([c]) (by simp) (λw a=>(nK b c A u w B a).mono λe w' h=>by
      rcases h with ⟨t,d,q,f,g,j,m⟩ | ⟨d,q,f,g,j⟩
      · exact .inl ⟨(t,d,q),f,⟨g,j⟩,m⟩
      · exact .inr ⟨(d,q),f,g,j⟩) ?_ ?_
  ·intro ⟨n,o⟩ s;refine Ep (Ep ?_);refine b6 λw' a=>?_;exact .inr ⟨n,o,O,by unfold h6; rw [k]; simp only [Option.bind_some]; rw [x]; simp only; rw [s]; rfl,(by have h:=a; exact h)⟩
  intro ⟨L,M,N⟩ ⟨C,P⟩;have T:=nI K C;refine ai O (ai O (ae (aX (Er ?_))));refine WE.gi O O O λw' a=>?_;exact .inl ⟨(y,L),M,N,O,by unfold h6; rw [k]; simp only [Option.bind_some]; rw [x]; simp only; rw [C]; rfl,P,a⟩
 obtain ⟨Q,R⟩:=J v;subst R;refine bf (aa (ad O (ai O (ai O (ae (aX ?_))))));refine WE.gi O O O λw' a=>?_;exact .inl ⟨([],y),A,z,O,by unfold h6; rw [k]; simp only [Option.bind_some]; rw [Q],B,a⟩
abbrev XE:=aV×Option Addr×Nat
def XE.cells (e:XE):List Value:=rf e.1 e.2.1 e.2.2
theorem XE.aj (e:XE):(XE.cells e).length=5:=rfl
theorem XE.one (e:XE):(XE.cells e).all (·.oneCell')=true:=rfl
def jz (a:View) (b o:Nat) (e:XE):Prop:=bI a b o (XE.cells e)
def gH (J:View) (f:Nat) (es:List XE):Prop:=∀e ∈ es,Sl (ff f) 5 J e.2.1 e.2.2 e.1.args
theorem gH.nil (J:View) (f:Nat):gH J f []:=by intro e h; simp at h
theorem gH.snoc {J g c:View} {f:Nat} {es:List XE} {e:XE} (h:gH J f es) (i:bw J c) (j:bw g c) (k:Sl (ff f) 5 g e.2.1 e.2.2 e.1.args):gH c f (es++[e]):=by
 intro x a
 rcases List.mem_append.1 a with a | a
 · exact (h x a).imp λb o y d=>so i (Nat.le_refl _) b o y d
 · rw [List.mem_singleton] at a
   subst a;exact k.imp λb o y d=>so j (Nat.le_refl _) b o y d
theorem jA {g J d:View} {f c:Nat} {a:Option Addr} {es:List XE} (h:Sl jz 5 g a c es) (hv:bw g d) (l:bw J d) (m:gH J f es):Sl (ff (f+1)) 5 d a c (es.map (·.1)):=by
 refine ⟨by simpa using h.cap,h.max,h.spot,λi x j=>?_⟩;rw [List.getElem?_map] at j;obtain ⟨e,k,rfl⟩:=Option.map_eq_some_iff.1 j;obtain ⟨b,o,n,p⟩:=h.bJ i e k;exact ⟨b,o,n,e.2.1,e.2.2,bI.mono hv p,(m e (List.mem_of_getElem? k)).imp λb o y q=>so l (Nat.le_refl _) b o y q⟩
theorem gO {d e:View} {f c:Nat} {a:Option Addr} {l:List aV} (h:Sl (ff f) 5 d a c l) (hv:bw d e):Sl (ff f) 5 e a c l:=h.imp λb o y g=>so hv (Nat.le_refl _) b o y g
structure GA where
 es:List XE
 a:Option Addr
 c:Nat
 J:View
 r:Option Addr×Nat
 q:Tk
def Bh (b:View) (f:Nat):Prop:=∀(a:Nat) (r:Option Addr×Nat) (l:Tk) (d:Nat) (w:World),f+d=7->cW l->Sl ag 3 b r.1 r.2 l->Ws w (List.flatMap aS.ids (aL a r l)) (aL a r l) [b] w->
 Calls Tryz.prog 214 #[.pointer (some ⟨a,0,none⟩),.int .i64 (d:Int)] w λe w'=>(∃(x:aV) (s:Option Addr×Nat) (c:Option Addr×Nat) (q:Tk),e = .returned (.agg #[.int .i64 (x).op,.int .i64 (x).n,st (x).mod,st (x).nm,.slice s.1 (x).args.length s.2])/\cC f l=some (x,q)/\Sl (ff f) 5 (nv w w') s.1 s.2 x.args/\Sl ag 3 b c.1 c.2 q/\Ws w (List.flatMap aS.ids (aL a r l)) (aL a c q) [b] w')\/(∃(c:Option Addr×Nat) (q:Tk),e = .panicked cA/\cC f l=none/\Ws w (List.flatMap aS.ids (aL a r l)) (aL a c q) [b] w')
theorem PT {a:Tk->Option (aV×Tk)} {n:Nat} {l q b:Tk} {x:aV} (c:a l=some (x,q)) (d:aU [41] q=some b):jb a (n+1) l=some ([x],b):=by rw [jb,c]; simp only [Option.bind_some]; rw [d]
theorem PU {a:Tk->Option (aV×Tk)} {n:Nat} {l q b:Tk} {x:aV} (c:a l=some (x,q)) (d:aU [41] q=none) (e:aU [44] q=some b):jb a (n+1) l=(jb a n b).map λp=>(x::p.1,p.2):=by rw [jb,c]; simp only [Option.bind_some]; rw [d]; simp only; rw [e]
theorem PV {a:Tk->Option (aV×Tk)} {n:Nat} {l q:Tk} {x:aV} (b:a l=some (x,q)) (c:aU [41] q=none) (d:aU [44] q=none):jb a (n+1) l=none:=by rw [jb,b]; simp only [Option.bind_some]; rw [c]; simp only; rw [d]
theorem PW {a:Tk->Option (aV×Tk)} {n:Nat} {l:Tk} (b:a l=none):jb a (n+1) l=none:=by rw [jb,b]; rfl
theorem Ha:∀(a:List Tx) (i k:Nat) (w:Tx) (l q:Tk),a[i]? = some w->(∀j v,j<i->a[j]? = some v->aU v l=none)->aU w l=some q->bu a k l=some (k+i,q)
 | [],i,k,w,l,q,h,_,_=>by simp at h
 | v::a,0,k,w,l,q,h,_,b=>by
   simp at h; subst h;rw [bu,b]; rfl
 | v::a,i+1,k,w,l,q,h,c,b=>by
   rw [bu,c 0 v (by omega) rfl];simp only;rw [Ha a i (k+1) w l q (by simpa using h) (λj u e d=>c (j+1) u (by omega) (by simpa using d)) b]
   congr 2
   omega
theorem Hb:∀(a:List Tx) (k:Nat) (l:Tk),(∀w ∈ a,aU w l=none)->bu a k l=none
 | [],_,_,_=>rfl
 | w::a,k,l,h=>by
   rw [bu,h w (by simp)];exact Hb a (k+1) l λv hv=>h v (List.mem_cons_of_mem _ hv)
theorem HL {i:Nat} {w:Tx} (h:opsL[i]? = some w):((opsL.map st).toArray)[i]? = some (st w):=by
 rw [List.getElem?_toArray,List.getElem?_map,h]; rfl
theorem mP:Enters Tryz.prog 214:=enters_of Tryz.func214 (by kernel_rfl) rfl
theorem jB:aE Tryz.prog 240 263 (.agg #[.int .i64 0,.int .i64 0,st [],st [],.slice none 0 0]) 5 72:=hV (by kernel_rfl)
theorem hf:Enters Tryz.prog 118:=enters_of Tryz.func118 (by kernel_rfl) rfl
theorem Hc (o:Nat) (b:View) (r:Option Addr×Nat) (l:Tk) (f d:Nat) (w:World) (ay:Bh b f) (az:f+d=7) (E:cW l) (aA:Sl ag 3 b r.1 r.2 l) (j:Ws w (List.flatMap aS.ids (aL o r l)) (aL o r l) [b] w) :
   Calls Tryz.prog 216 #[.pointer (some ⟨o,0,none⟩),.int .i64 (d:Int)] w λe w'=>(∃(xs:List aV) (s:Option Addr×Nat) (t:Option Addr×Nat) (q:Tk),e = .returned (.slice s.1 xs.length s.2)/\iI (cC f) l=some (xs,q)/\Sl (ff (f+1)) 5 (nv w w') s.1 s.2 xs/\Sl ag 3 b t.1 t.2 q/\Ws w (List.flatMap aS.ids (aL o r l)) (aL o t q) [b] w')\/(∃(t:Option Addr×Nat) (q:Tk),e = .panicked cA/\iI (cC f) l=none/\Ws w (List.flatMap aS.ids (aL o r l)) (aL o t q) [b] w'):=by
 refine enter Tryz.func216 O 21 O O ?_;refine CE j (aa (ai O (ae (aa (ai O (LW (λ_ h=>h.e4 263 5) ?_))))));refine WL.v0 ?_;refine ae (Cs (aa (ad O (Lf 1 O ?_))));refine Lw [_] _ Y O gF O O _ _ _ [b] (by simp) (λw j=>gG o b r l [41] w aA j) ?_;intro ⟨aZ,Q,aB⟩ ⟨aC,aD,R⟩;refine ae ?_;refine Cc O (λG=>?_) (λG=>?_)
 ·have S:=aC G;have a0:=hb E S;refine aa (ad O (ai O (ae (aX (Er ?_)))));refine R1 O O λw' j=>?_;exact .inl ⟨[],(none,0),Q,aB,O,by rw [iI,S],Sl.nil,R,Wv 1 (Wt 1 j)⟩
 obtain ⟨aE,aF⟩:=aD G;subst aF;refine bf (Cb ?_);refine av (ι:=GA) (λg=>[(5,.slice g.a g.es.length g.c)]) [(0,_),(1,_)] (λg=>Ws w (List.flatMap aS.ids (aL o r l)) (aL o g.r g.q++[cf 263 5 XE.cells g.a g.c g.es]) [g.J,b]) (λg=>(g.es.length+g.q.length<=l.length/\cW g.q)/\Sl ag 3 b g.r.1 g.r.2 g.q/\(eW w g.J/\gH g.J f g.es)/\∃n,g.q.length<n/\iI (cC f) l=(jb (cC f) n g.q).map λp=>(g.es.map (·.1)++p.1,p.2)) (λg=>g.q.length) ⟨[],none,0,v0,Q,l⟩ ⟨⟨by simp,E⟩,R,⟨lW w,gH.nil _ _⟩,l.length+1,by simp,by rw [iI,aE]; simp⟩ (sc O (sc O (sc O sn))) (λ_ h=>by have h:=Ws.cv h (ah:=[v0,b]) (by simp); exact h) ?_;intro g ⟨⟨a1,H⟩,aG,⟨U,V⟩,u⟩;refine Cb (aa (ad O (ad O (ad O ?_))))
 refine hW (ι:=(aV×(Option Addr×Nat))×(Option Addr×Nat)×Tk) (κ:=(Option Addr×Nat)×Tk) [_] _ Y O mP O O (λi=>.agg #[.int .i64 (i.1.1).op,.int .i64 (i.1.1).n,st (i.1.1).mod,st (i.1.1).nm,.slice i.1.2.1 (i.1.1).args.length i.1.2.2]) (λi=>aL o i.2.1 i.2.2) (λaH i=>cC f g.q=some (i.1.1,i.2.2)/\Sl (ff f) 5 aH i.1.2.1 i.1.2.2 i.1.1.args/\Sl ag 3 b i.2.1.1 i.2.1.2 i.2.2) (λ_=>cA) (λi=>aL o i.1 i.2) (λ_=>cC f g.q=none) ([b]) (by simp) (λ_ _ h=>h) (λw j=>(ay o g.r g.q d w az H aG j).mono λe w' h=>by
     rcases h with ⟨x,s,t,q,y,z,A,I,aI⟩ | ⟨t,q,y,z,A⟩
     · exact .inl ⟨((x,s),t,q),y,⟨z,A,I⟩,aI⟩
     · exact .inr ⟨(t,q),y,z,A⟩) ?_ ?_
 ·intro ⟨K,L⟩ M;refine Ep (WE.ck (Ep (WE.ck ?_)));refine b6 λw' j=>?_;obtain ⟨n,W,u⟩:=u;obtain ⟨n,rfl⟩:∃k,n=k+1:=⟨n-1,by omega⟩;exact .inr ⟨K,L,O,by rw [u,PW M]; rfl,(by have h:=j; have h:=Wt 1 h; have h:=Ws.cv h (ah:=[b]) (by simp); exact h)⟩
 intro a2 ⟨⟨F,v⟩,aJ,B⟩ X ⟨C,Z,aK⟩;have ab:cW B:=mM H C;have a3:B.length+1<=List.length (g.q):=mN H C;refine WL.hE λac af ak al=>?_;refine Lb Y O jB O O O O λa4=>?_;refine cD 0 (.cells (XE.cells (F,v.1,v.2)).toArray 263 (0,0)) O O ?_;refine LA ((F,v.1,v.2):XE) 2 0 Y O jB O O O O O O (by have:=E.len; omega) (by have:=E.len; omega) λam an=>?_;refine ai O (ae (Cs (aa (ad O (Lf 1 O ?_)))));refine Lw [_] _ Y O gF O O _ _ _ [b] (by simp) (λw j=>gG o b aJ B [41] w aK j) ?_;intro ⟨a5,ao,aM⟩ ⟨aN,aO,ap⟩;refine ae ?_;refine Cc O (λN=>?_) (λN=>?_)
 ·have ar:=aN N;have a6:=hb ab ar;obtain ⟨n,W,u⟩:=u;obtain ⟨n,rfl⟩:∃k,n=k+1:=⟨n-1,by omega⟩;refine Cs ?_;refine WC.ll (rd:=jz) 2 O (λk au=>by simp [aL,aq] at au; subst au; simp [dM,aL,aq,bY]) XE.aj (λ_ _ _ _ h=>h) λa8 aP aQ=>?_;refine Cr (ad O (ai O (ae (aX (Er (cj (Er (cj ?_))))))));refine R1 O O λw' j=>?_;exact .inl ⟨(g.es++[(F,v.1,v.2)]).map (·.1),(am,an),ao,aM,by rw [List.length_map],by rw [u,PT C ar]; simp,jA aQ (cF j (by simp) aP) (cF j (by simp) (al _ X U)) (gH.snoc V ak af Z),ap,Wv 2 (Wt 1 j)⟩
 obtain ⟨aw,aR⟩:=aO N;subst aR;obtain ⟨n,W,u⟩:=u;obtain ⟨n,rfl⟩:∃k,n=k+1:=⟨n-1,by omega⟩;refine bf (Cr (ad O ?_));refine Lb Y O dT O O O O λa9=>?_;refine a7 (T:=9) (m:=1) 0 [[44]] O O (show 1<=1 by decide) (by decide) λax aT=>?_
 refine dF (ι:=(Option Addr×Nat)×Tk) (κ:=(Option Addr×Nat)×Tk) [_] _ Y O hf O O (λ_=>.tuple #[]) (λi=>aL o i.1 i.2) (λi=>cZ [[44]] B=some i.2/\Sl ag 3 b i.1.1 i.1.2 i.2) (λ_=>cA) (λi=>aL o i.1 i.2) (λ_=>cZ [[44]] B=none) ([b,ax]) (by simp) (λw j=>(hd o b ao B ax _ _ [[44]] w aT ap j).mono λe w' h=>by
     rcases h with ⟨t,q,y,z,A,I⟩ | ⟨t,q,y,z,A⟩
     · exact .inl ⟨(t,q),y,⟨z,A⟩,I⟩
     · exact .inr ⟨(t,q),y,z,A⟩) ?_ ?_
 ·intro ⟨K,L⟩ M;refine WE.ck (Ep (WE.ck ?_));refine b6 λw' j=>?_;exact .inr ⟨K,L,O,by rw [u,PV C aw ((dX _ _).symm.trans M)]; rfl,(by have h:=j; have h:=Wt 1 h; have h:=Ws.cv h (ah:=[b]) (by simp); exact h)⟩
 intro ⟨aU,P⟩ ⟨D,aW⟩;have aY:=hc ab D;refine Ln (Eb ?_)
 exact Ea (⟨g.es++[(F,v.1,v.2)],am,an,ac,aU,P⟩:GA) (by have:=gw D; simp at this; show P.length<g.q.length; omega) ⟨⟨by have:=gw D; simp at this ⊢; omega,aY⟩,aW,⟨al _ X U,gH.snoc V ak af Z⟩,n,(show P.length<n by have:=gw D; simp at this; omega),by rw [u,PU C aw ((dX _ _).symm.trans D)]; simp [Function.comp_def]⟩ (sc O (sc O (sc O sn))) (λ_ h=>by
     have h:=h.bR 2 rfl;have h:=h.bR 1 rfl;have h:=Wt 2 h;have h:=Ws.cv h (ah:=[ac,b]) (by simp)
     exact h)
theorem PY {a:Tk->Option (aV×Tk)} {l q:Tk} (h:aU [105,110] l=some q):jc a l=some (aV.mk 2 0 [] [] [],q):=by unfold jc; rw [show qq=[105,110] from rfl,h]
theorem Hd {a:Tk->Option (aV×Tk)} {l q:Tk} (b:aU [105,110] l=none) (h:aU [33] l=some q):jc a l=(a q).map λx=>(aV.mk 6 0 [] [] [x.1],x.2):=by unfold jc; rw [show qq=[105,110] from rfl,b]; simp only; rw [h]
theorem He {a:Tk->Option (aV×Tk)} {l q:Tk} (b:aU [105,110] l=none) (c:aU [33] l=none) (h:aU [40] l=some q):jc a l=j_ a q:=by unfold jc; rw [show qq=[105,110] from rfl,b]; simp only; rw [c]; simp only; rw [h]
theorem cX {a:Tk->Option (aV×Tk)} {l:Tk} (b:aU [105,110] l=none) (c:aU [33] l=none) (h:aU [40] l=none):jc a l=(h6 l).bind λp=>kx a p.1.1 p.1.2 p.2:=by unfold jc; rw [show qq=[105,110] from rfl,b]; simp only; rw [c]; simp only; rw [h]
theorem Bi {a:Tk->Option (aV×Tk)} {mod nm:Tx} {l q:Tk} (h:aU [91] l=some q):kx a mod nm l=(a q).bind λx=>(aU [93] x.2).map λr=>(aV.mk 4 0 mod nm [x.1],r):=by unfold kx; rw [h]
theorem Hf {a:Tk->Option (aV×Tk)} {mod nm:Tx} {l q:Tk} (b:aU [91] l=none) (h:aU [40] l=some q):kx a mod nm l=(iI a q).map λq=>(aV.mk 5 0 mod nm q.1,q.2):=by unfold kx; rw [b]; simp only; rw [h]
theorem PZ {a:Tk->Option (aV×Tk)} {mod nm:Tx} {l:Tk} (b:aU [91] l=none) (h:aU [40] l=none):kx a mod nm l=some (aV.mk 3 0 mod nm [],l):=by unfold kx; rw [b]; simp only; rw [h]
theorem P0 {f d:Nat} {l:Tk} (a:f+d=7) (h:6<d\/l=[]):cC f l=none:=by
 rcases h with h | rfl
 · obtain rfl:f=0:=by omega
   rfl
 · cases f<;>rfl
theorem HM {f:Nat} {t:Tok} {r:Tk} (h:t.kind=2):cC (f+1) (t::r)=some (aV.mk 1 t.n [] [] [],r):=by rw [cC,if_pos h]
theorem H9 {f:Nat} {t:Tok} {r:Tk} (h:¬t.kind=2):cC (f+1) (t::r)=jc (cC f) (t::r):=by rw [cC,if_neg h]
theorem Hg {t:Tok} {r:Tk} (h:t.kind=2):iH (t::r)=some (t.n,r):=by simp [iH,jx,h]
theorem P3:Enters Tryz.prog 272:=enters_of Tryz.func272 (by kernel_rfl) rfl
theorem P4:hD Tryz.prog 356=some 9:=by kernel_rfl
theorem lG:aK Tryz.prog 263=some [(0,1),(1,1),(2,1),(3,1),(4,1)]:=by kernel_rfl
theorem Bj:Enters Tryz.prog 168:=enters_of Tryz.func168 (by kernel_rfl) rfl
theorem P5:Enters Tryz.prog 252:=enters_of Tryz.func252 (by kernel_rfl) rfl
theorem Hh:Enters Tryz.prog 215:=enters_of Tryz.func215 (by kernel_rfl) rfl
theorem oH:dk Tryz.prog 240=some 1:=by kernel_rfl
theorem Hi:Enters Tryz.prog 216:=enters_of Tryz.func216 (by kernel_rfl) rfl
theorem P6 (c:Nat) (b:View) (r:Option Addr×Nat) (l:Tk) (f d:Nat) (w:World) (X:Bh b f) (Z:f+d=7) (L:cW l) (ar:Sl ag 3 b r.1 r.2 l) (a:Ws w (List.flatMap aS.ids (aL c r l)) (aL c r l) [b] w) :
   Calls Tryz.prog 252 #[.pointer (some ⟨c,0,none⟩),.int .i64 (d:Int)] w λe w'=>(∃(x:aV) (s:Option Addr×Nat) (p:Option Addr×Nat) (q:Tk),e = .returned (.agg #[.int .i64 (x).op,.int .i64 (x).n,st (x).mod,st (x).nm,.slice s.1 (x).args.length s.2])/\j_ (cC f) l=some (x,q)/\Sl (ff (f+1)) 5 (nv w w') s.1 s.2 x.args/\Sl ag 3 b p.1 p.2 q/\Ws w (List.flatMap aS.ids (aL c r l)) (aL c p q) [b] w')\/(∃(p:Option Addr×Nat) (q:Tk),e = .panicked cA/\j_ (cC f) l=none/\Ws w (List.flatMap aS.ids (aL c r l)) (aL c p q) [b] w'):=by
 refine enter Tryz.func252 O 35 O O ?_;refine CE a (aa ?_);refine Al Y O h7 λau=>?_;refine cD 0 (.cells (rf (aV.mk 0 0 [] [] []) none 0).toArray 263 (0,0)) O O (ae (aa (ad O (ad O (Lf 1 O ?_)))))
 refine hW (ι:=(aV×(Option Addr×Nat))×(Option Addr×Nat)×Tk) (κ:=(Option Addr×Nat)×Tk) [_] _ Y O mP O O (λi=>.agg #[.int .i64 (i.1.1).op,.int .i64 (i.1.1).n,st (i.1.1).mod,st (i.1.1).nm,.slice i.1.2.1 (i.1.1).args.length i.1.2.2]) (λi=>aL c i.2.1 i.2.2) (λM i=>cC f l=some (i.1.1,i.2.2)/\Sl (ff f) 5 M i.1.2.1 i.1.2.2 i.1.1.args/\Sl ag 3 b i.2.1.1 i.2.1.2 i.2.2) (λ_=>cA) (λi=>aL c i.1 i.2) (λ_=>cC f l=none) ([b]) (by simp) (λ_ _ h=>h) (λw a=>(X c r l d w Z L ar a).mono λe w' h=>by
     rcases h with ⟨x,s,p,q,t,u,y,C,N⟩ | ⟨p,q,t,u,y⟩
     · exact .inl ⟨((x,s),p,q),t,⟨u,y,C⟩,N⟩
     · exact .inr ⟨(p,q),t,u,y⟩) ?_ ?_
 ·intro ⟨D,E⟩ F;refine Ep ?_;refine b6 λw' a=>?_;exact .inr ⟨D,E,O,by rw [j_,F]; rfl,(by have h:=a; have h:=Wt 1 h; exact h)⟩
 intro aw ⟨⟨P,H⟩,ax,z⟩ ay ⟨A,az,aA⟩;have aB:cW z:=mM L A;have a5:z.length+1<=List.length (l):=mN L A;refine Al Y O h7 λaC=>?_;refine aO 0 Y O O O bz O O O (ae (Cs (aa (Lp Y O P3 O (λw a=>PM w) (ad O (ae (Cb ?_)))))));refine av (ι:=Nat×(Option Addr×Nat)) (λg=>[(13,.int .i64 (g.1:Int))]) [(0,_),(1,_),(4,_),(5,_),(12,_)] (λg=>Ws w (List.flatMap aS.ids (aL c r l)) (aL c g.2 z++[aq aC (.cells (XE.cells (P,H.1,H.2)).toArray 263 (0,0)),aq au (.cells (rf (aV.mk 0 0 [] [] []) none 0).toArray 263 (0,0))]) [aw,b]) (λg=>g.1<=9/\(∀j v,j<g.1->opsL[j]? = some v->aU v z=none)/\Sl ag 3 b g.2.1 g.2.2 z) (λg=>9-g.1) (0,ax) ⟨Nat.zero_le _,by simp,aA⟩ (sc O (sc O (sc O (sc O (sc O (sc O sn)))))) (λ_ h=>(((h.f 2 O).f 1 O).f 2 O:)) ?_;intro g ⟨hi,Q,aD⟩;refine aa (I (b0 O O) (ae (Cs ?_)));refine Cc O (λR=>?_) (λR=>?_)
 ·have ab:g.1<9:=by simp at R; omega
  obtain ⟨o,S⟩:∃o,opsL[g.1]? = some o:=⟨_,List.getElem?_eq_getElem (by show g.1<9; exact ab)⟩;refine bf (Cs (Cb (aa (ad O (I (Dg (i:=g.1) P4 O O ab (HL S)) (ai O (ai O (ae (aa (ad O (ad O ?_)))))))))));refine Lw [_] _ Y O gF O O _ _ _ [b] (by simp) (λw a=>gG c b g.2 z o w aD a) ?_;intro ⟨a6,ac,B⟩ ⟨aE,aF,af⟩;refine ae ?_;refine Cc O (λU=>?_) (λU=>?_)
  ·have ak:=aE U;have V:=hb aB ak
   have W:bu opsL 0 z=some (g.1,B):=by rw [Ha opsL g.1 0 o z B S Q ak,Nat.zero_add]
   refine aa (ad O (ad O ?_))
   refine hW (ι:=(aV×(Option Addr×Nat))×(Option Addr×Nat)×Tk) (κ:=(Option Addr×Nat)×Tk) [_] _ Y O mP O O (λi=>.agg #[.int .i64 (i.1.1).op,.int .i64 (i.1.1).n,st (i.1.1).mod,st (i.1.1).nm,.slice i.1.2.1 (i.1.1).args.length i.1.2.2]) (λi=>aL c i.2.1 i.2.2) (λM i=>cC f B=some (i.1.1,i.2.2)/\Sl (ff f) 5 M i.1.2.1 i.1.2.2 i.1.1.args/\Sl ag 3 b i.2.1.1 i.2.1.2 i.2.2) (λ_=>cA) (λi=>aL c i.1 i.2) (λ_=>cC f B=none) ([b]) (by simp) (λ_ _ h=>h) (λw a=>(X c ac B d w Z V af a).mono λe w' h=>by
       rcases h with ⟨x,s,p,q,t,u,y,C,N⟩ | ⟨p,q,t,u,y⟩
       · exact .inl ⟨((x,s),p,q),t,⟨u,y,C⟩,N⟩
       · exact .inr ⟨(p,q),t,u,y⟩) ?_ ?_
   ·intro ⟨D,E⟩ F;refine Ep (WE.ck (Ep (Ep (WE.ck (Ep ?_)))));refine b6 λw' a=>?_;exact .inr ⟨D,E,O,by rw [j_,A]; simp only [Option.bind_some]; rw [W]; simp only [Option.bind_some]; rw [F]; rfl,(by have h:=a; have h:=Wt 1 h; have h:=Ws.cv h (ah:=[b]) (by simp); exact h)⟩
   intro a8 ⟨⟨al,am⟩,aG,G⟩ aH ⟨J,aI,aJ⟩;have aK:cW G:=mM V J;have a9:G.length+1<=List.length (B):=mN V J;refine WL.hE λaM aN aP aQ=>?_;refine Al Y O h7 λa'=>?_;refine aO 0 Y O O O bz O O O (ae (aa (ad O ?_)));refine Lb Y O dT O O O O λa_=>?_;refine a7 (T:=9) (m:=1) 0 [[41]] O O (show 1<=1 by decide) (by decide) λan aR=>?_;refine Lf 1 O ?_
   refine dF (ι:=(Option Addr×Nat)×Tk) (κ:=(Option Addr×Nat)×Tk) [_] _ Y O hf O O (λ_=>.tuple #[]) (λi=>aL c i.1 i.2) (λi=>cZ [[41]] G=some i.2/\Sl ag 3 b i.1.1 i.1.2 i.2) (λ_=>cA) (λi=>aL c i.1 i.2) (λ_=>cZ [[41]] G=none) ([b,an]) (by simp) (λw a=>(hd c b aG G an _ _ [[41]] w aR aJ a).mono λe w' h=>by
       rcases h with ⟨p,q,t,u,y,C⟩ | ⟨p,q,t,u,y⟩
       · exact .inl ⟨(p,q),t,⟨u,y⟩,C⟩
       · exact .inr ⟨(p,q),t,u,y⟩) ?_ ?_
   ·intro ⟨D,E⟩ F;refine Ep (WE.ck (Ep (Ep (WE.ck (Ep ?_)))));refine b6 λw' a=>?_;exact .inr ⟨D,E,O,by rw [j_,A]; simp only [Option.bind_some]; rw [W]; simp only [Option.bind_some]; rw [J]; simp only [Option.bind_some]; rw [<-dX,F]; rfl,(by have h:=a; have h:=Wt 1 h; have h:=Ws.cv h (ah:=[b]) (by simp); exact h)⟩
   intro ⟨aT,aW⟩ ⟨ao,aY⟩;have ba:=hc aK ao;refine ae (aa (ad O (I (v7 ((7:Int)+(g.1:Int)) O O O (by omega)) (I (b8 2 O O jd O) (I (b8 1 O O jd O) ?_)))));refine Lb Y O jB O O O O λaZ=>?_;refine LN (rd:=jz) (f:=XE.cells) (m:=2) 0 [(P,H.1,H.2),(al,am.1,am.2)] O O (λk ap=>by simp [aL,aq] at ap; subst ap; simp [dM,aL,aq,bY]) XE.aj (λ_ _ _ _ h=>h) (show 2<=2 by decide) (by decide) λbb a0 a1=>?_;refine I (Yb h7 lG O O) (aO 3 Y O O O bz O O O (ae (aX (cj (Er (Er (cj (Er ?_))))))));refine WE.ee (gL O (dI 3 O O jd O)) λw' a=>?_;exact .inl ⟨aV.mk (7+(g.1:Int)) 0 [] [] [P,al],(some ⟨aZ,0,none⟩,2),aT,aW,O,by rw [j_,A]; simp only [Option.bind_some]; rw [W]; simp only [Option.bind_some]; rw [J]; simp only [Option.bind_some]; rw [<-dX,ao]; rfl,jA a1 (cF a (by simp) a0) (cF a (by simp) (aQ _ aH ay)) (((gH.nil aM f).snoc (bw.refl _) aP az).snoc (bw.refl _) aN aI),aY,Wv 3 (Wt 1 a)⟩
  obtain ⟨a2,a3⟩:=aF U;subst a3;refine Ck (Eb (Et (Cr (I (Yi O O O (by omega)) (ad O (Ln ?_))))))
  exact Ea ((g.1+1,ac):Nat×(Option Addr×Nat)) (by show 9-(g.1+1)<9-g.1; omega) ⟨by show g.1+1<=9; omega,λj v K hv=>by
      rcases Nat.lt_succ_iff_lt_or_eq.1 K with h | rfl
      · exact Q j v h hv
      · rw [S] at hv; injection hv with hv; subst hv; exact a2,af⟩ (sc rfl (sc rfl (sc rfl (sc rfl (sc rfl (sc rfl sn)))))) (λ_ h=>h)
 have bc:¬g.1<9:=by simp at R; omega
 have a4:bu opsL 0 z=none:=Hb _ _ _ λv hv=>by
   obtain ⟨j,K⟩:=List.getElem?_of_mem hv;exact Q j v (by have:=(List.getElem?_eq_some_iff.1 K).1; have:opsL.length=9:=rfl; omega) K
 refine Ce (Ex (Ex (cp (Et (Cr (I (Yb pD pC O O) (I (bL pE O) ?_)))))));refine WL.panic Y O ?_;refine b6 λw' a=>?_;exact .inr ⟨g.2,z,O,by rw [j_,A]; simp only [Option.bind_some]; rw [a4]; rfl,(by have h:=a; have h:=Wt 1 h; have h:=Ws.cv h (ah:=[b]) (by simp); exact h)⟩
theorem qz (b:View) (f:Nat) (c:Nat) (r:Option Addr×Nat) (l:Tk) (d:Nat) (w:World) (aZ:f+d=7) (M:cW l) (P:Sl ag 3 b r.1 r.2 l) (a:Ws w (List.flatMap aS.ids (aL c r l)) (aL c r l) [b] w) :
   Calls Tryz.prog 214 #[.pointer (some ⟨c,0,none⟩),.int .i64 (d:Int)] w λe w'=>(∃(x:aV) (s:Option Addr×Nat) (g:Option Addr×Nat) (q:Tk),e = .returned (.agg #[.int .i64 (x).op,.int .i64 (x).n,st (x).mod,st (x).nm,.slice s.1 (x).args.length s.2])/\cC f l=some (x,q)/\Sl (ff f) 5 (nv w w') s.1 s.2 x.args/\Sl ag 3 b g.1 g.2 q/\Ws w (List.flatMap aS.ids (aL c r l)) (aL c g q) [b] w')\/(∃(g:Option Addr×Nat) (q:Tk),e = .panicked cA/\cC f l=none/\Ws w (List.flatMap aS.ids (aL c r l)) (aL c g q) [b] w'):=by
 induction f using Nat.strongRecOn generalizing c r l d w
 rename_i f a0;have ce:=P.cap;have cf:=P.max;refine enter Tryz.func214 O 83 O O ?_;refine CE a (aa ?_);refine Al Y O h7 λcg=>?_;refine cD 0 (.cells (rf (aV.mk 0 0 [] [] []) none 0).toArray 263 (0,0)) O O (ae (Cs (aa (ad O (I (dc O O) (ad O ?_))))));apply Lo 6 O O O O Y O O O O O
 ·intro ch;refine Vg (Ym O) (Vg (cy O) (Vg (Yf mO O) (Vg (Yd 1 O O O oG) (Vg (Yn oC O) (Vg (bP O O) ?_)))));exact Gt 6 O O O
 refine ae ?_;refine Cc O (λQ=>?_) (λQ=>?_)
 ·have a1:cC f l=none:=P0 aZ (by
    simp at Q
    rcases Q with h | h
    · left; omega
    · right; exact h)
  refine Cr (I (Yb pD pC O O) (I (bL pE O) ?_));refine WL.panic Y O ?_;refine Ep ?_;refine b6 λw' a=>?_;exact .inr ⟨r,l,O,a1,(by have h:=a; have h:=h.bR 1 O; have h:=Wt 1 h; exact h)⟩
 have ci:¬6<d:=by
   intro h
   have j:(6:Int)<(d:Int):=by omega
   simp [j] at Q
 obtain ⟨f,rfl⟩:∃k,f=k+1:=⟨f-1,by omega⟩
 obtain ⟨v,C,rfl⟩:∃t r,l=t::r:=by
   cases l with
   | nil=>simp at Q
   | cons t r=>exact ⟨t,r,rfl⟩
 obtain ⟨a2,a3,a4,Z⟩:=P.bJ 0 v rfl;have Z:bI b a2 (a3+0*3) v.cells:=Z;have S:Bh b f:=λc r l d w o j p u=>a0 f (by omega) c r l d w o j p u;refine bf (Cs (Cb (aa (ad O (I (cy O) (I (Yf mO O) (I (Yd 1 O O O oG) (I (Yo (i:=0) oC O O a4 (by simp)) (I (Yf Gy O) (I (b9 0 aT O O (Z 0 _ O)) ?_))))))))));refine I (bP O O) (ai O (ae ?_));refine Cc O (λab=>?_) (λab=>?_)
 ·have D:v.kind=2:=by simpa using ab
  refine aa (ad O (Lf 1 O ?_))
  refine dF (ι:=(Int)×(Option Addr×Nat)×Tk) (κ:=(Option Addr×Nat)×Tk) [_] _ Y O Bj O O (λi=>.int .i64 i.1) (λi=>aL c i.2.1 i.2.2) (λi=>iH (v::C)=some (i.1,i.2.2)/\Sl ag 3 b i.2.1.1 i.2.1.2 i.2.2) (λ_=>cA) (λi=>aL c i.1 i.2) (λ_=>iH (v::C)=none) ([b]) (by simp) (λw a=>(Bg c b r (v::C) w P a).mono λe w' h=>by
      rcases h with ⟨t,g,q,o,j,p,u⟩ | ⟨g,q,o,j,p⟩
      · exact .inl ⟨(t,g,q),o,⟨j,p⟩,u⟩
      · exact .inr ⟨(g,q),o,j,p⟩) ?_ ?_
  ·intro ⟨z,A⟩ y;refine Ep (WE.ck (Ep ?_));refine b6 λw' a=>?_;rw [Hg D] at y;cases y
  intro ⟨cl,a5,cm⟩ ⟨G,a6⟩;have cn:=Bf M G;refine I (Yb h7 lG O O) ?_;rw [Hg D] at G
  injection G with G
  injection G with a8 G
  subst a8;subst G;refine aO 1 Y O O O bz O O O (ae (aX (cj (Er ?_))));refine WE.ee (gL O (dI 1 O O jd O)) λw' a=>?_;exact .inl ⟨aV.mk 1 v.n [] [] [],(none,0),a5,C,O,HM D,Sl.nil,a6,Wt 1 a⟩
 have D:¬v.kind=2:=by simpa using ab
 have B:=H9 (f:=f) (r:=C) D;refine aa (ad O (Lf 1 O ?_));refine Lw [_] _ Y O gF O O _ _ _ [b] (by simp) (λw a=>gG c b r (v::C) [105,110] w P a) ?_;intro ⟨co,aB,a9⟩ ⟨a',a_,aC⟩;refine ai O (ae ?_);refine Cc O (λac=>?_) (λac=>?_)
 ·have aD:=a' ac;have cp:=hb M aD;refine aa (I (Yb h7 lG O O) (aO 1 Y O O O bz O O O (ae (aX (cj (Er ?_))))));refine WE.ee (gL O (dI 1 O O jd O)) λw' a=>?_;exact .inl ⟨aV.mk 2 0 [] [] [],(none,0),aB,a9,O,by rw [B,PY aD],Sl.nil,aC,Wt 1 a⟩
 obtain ⟨E,ba⟩:=a_ ac;subst ba;refine aa (ad O ?_);refine Lw [_] _ Y O gF O O _ _ _ [b] (by simp) (λw a=>gG c b aB (v::C) [33] w aC a) ?_;intro ⟨cq,aE,U⟩ ⟨bb,bc,aF⟩;refine ai O (ae ?_);refine Cc O (λaf=>?_) (λaf=>?_)
 ·have ak:=bb af;have al:=hb M ak;refine aa (ad O (ad O (I (Yi O O O (by omega)) ?_)))
  refine hW (ι:=(aV×(Option Addr×Nat))×(Option Addr×Nat)×Tk) (κ:=(Option Addr×Nat)×Tk) [_] _ Y O mP O O (λi=>.agg #[.int .i64 (i.1.1).op,.int .i64 (i.1.1).n,st (i.1.1).mod,st (i.1.1).nm,.slice i.1.2.1 (i.1.1).args.length i.1.2.2]) (λi=>aL c i.2.1 i.2.2) (λH i=>cC f U=some (i.1.1,i.2.2)/\Sl (ff f) 5 H i.1.2.1 i.1.2.2 i.1.1.args/\Sl ag 3 b i.2.1.1 i.2.1.2 i.2.2) (λ_=>cA) (λi=>aL c i.1 i.2) (λ_=>cC f U=none) ([b]) (by simp) (λ_ _ h=>h) (λw a=>(S c aE U (d+1) w (by omega) al aF a).mono λe w' h=>by
      rcases h with ⟨x,s,g,q,o,j,p,u,J⟩ | ⟨g,q,o,j,p⟩
      · exact .inl ⟨((x,s),g,q),o,⟨j,p,u⟩,J⟩
      · exact .inr ⟨(g,q),o,j,p⟩) ?_ ?_
  ·intro ⟨z,A⟩ y;refine Ep (WE.ck (Ep ?_));refine b6 λw' a=>?_;exact .inr ⟨z,A,O,by rw [B,Hd E ak,y]; rfl,(by have h:=a; have h:=Wt 1 h; exact h)⟩
  intro bd ⟨⟨aG,aH⟩,be,am⟩ bg ⟨an,bh,bi⟩;have cr:cW am:=mM al an;have cs:am.length+1<=List.length (U):=mN al an;refine Lb Y O jB O O O O λbj=>?_;refine LN (rd:=jz) (f:=XE.cells) (m:=1) 0 [(aG,aH.1,aH.2)] O O (λk D=>by simp [aL,aq] at D; subst D; simp [dM,aL,aq,bY]) XE.aj (λ_ _ _ _ h=>h) (show 1<=1 by decide) (by decide) λct bk bl=>?_;refine I (Yb h7 lG O O) (aO 1 Y O O O bz O O O (ae (aX (cj (Er ?_)))));refine WE.ee (gL O (dI 1 O O jd O)) λw' a=>?_;exact .inl ⟨aV.mk 6 0 [] [] [aG],(some ⟨bj,0,none⟩,1),be,am,O,by rw [B,Hd E ak,an]; rfl,jA bl (cF a (by simp) bk) (cF a (by simp) bg) ((gH.nil bd f).snoc (bw.refl _) (bw.refl _) bh),bi,Wv 2 (Wt 1 a)⟩
 obtain ⟨F,bm⟩:=bc af;subst bm;refine aa (ad O ?_);refine Lw [_] _ Y O gF O O _ _ _ [b] (by simp) (λw a=>gG c b aE (v::C) [40] w aF a) ?_;intro ⟨cu,aI,ao⟩ ⟨bn,bo,aJ⟩;refine ai O (ae ?_);refine Cc O (λap=>?_) (λap=>?_)
 ·have ar:=bn ap;have bp:=hb M ar;refine aa (ad O (ad O (I (Yi O O O (by omega)) ?_)))
  refine hW (ι:=((aV)×(Option Addr×Nat))×(Option Addr×Nat)×Tk) (κ:=(Option Addr×Nat)×Tk) [_] _ Y O P5 O O (λi=>.agg #[.int .i64 (i.1.1).op,.int .i64 (i.1.1).n,st (i.1.1).mod,st (i.1.1).nm,.slice i.1.2.1 (i.1.1).args.length i.1.2.2]) (λi=>aL c i.2.1 i.2.2) (λH i=>j_ (cC f) ao=some (i.1.1,i.2.2)/\Sl (ff (f+1)) 5 H i.1.2.1 i.1.2.2 i.1.1.args/\Sl ag 3 b i.2.1.1 i.2.1.2 i.2.2) (λ_=>cA) (λi=>aL c i.1 i.2) (λ_=>j_ (cC f) ao=none) ([b]) (by simp) (λ_ _ h=>h) (λw a=>(P6 c b aI ao f (d+1) w S (by omega) bp aJ a).mono λe w' h=>by
      rcases h with ⟨x,s,g,q,o,j,p,u,J⟩ | ⟨g,q,o,j,p⟩
      · exact .inl ⟨((x,s),g,q),o,⟨j,p,u⟩,J⟩
      · exact .inr ⟨(g,q),o,j,p⟩) ?_ ?_
  ·intro ⟨z,A⟩ y;refine Ep (WE.ck (Ep ?_));refine b6 λw' a=>?_;exact .inr ⟨z,A,O,by rw [B,He E F ar,y],(by have h:=a; have h:=Wt 1 h; exact h)⟩
  intro cw ⟨⟨bq,br⟩,bs,bt⟩ bu ⟨bv,bx,bA⟩;refine aO 1 Y O O O bz O O O (ae (aX (cj (Er ?_))));refine WE.ee (gL O (dI 1 O O jd O)) λw' a=>?_;exact .inl ⟨bq,br,bs,bt,O,by rw [B,He E F ar,bv],gO bx (cF a (by simp) bu),bA,Wv 1 (Wt 1 a)⟩
 obtain ⟨K,bB⟩:=bo ap;subst bB;refine Ck (Eb (Et (aa (ad O ?_))))
 refine dF (ι:=(Tx×Tx)×(Option Addr×Nat)×Tk) (κ:=(Option Addr×Nat)×Tk) [_] _ Y O Hh O O (λi=>.tuple #[st i.1.1,st i.1.2]) (λi=>aL c i.2.1 i.2.2) (λi=>h6 (v::C)=some (i.1,i.2.2)/\Sl ag 3 b i.2.1.1 i.2.1.2 i.2.2) (λ_=>cA) (λi=>aL c i.1 i.2) (λ_=>h6 (v::C)=none) ([b]) (by simp) (λw a=>(G' c b aI (v::C) w M aJ a).mono λe w' h=>by
     rcases h with ⟨t,g,q,o,j,p,u⟩ | ⟨g,q,o,j,p⟩
     · exact .inl ⟨(t,g,q),o,⟨j,p⟩,u⟩
     · exact .inr ⟨(g,q),o,j,p⟩) ?_ ?_
 ·intro ⟨z,A⟩ y;refine Ep ?_;refine b6 λw' a=>?_;exact .inr ⟨z,A,O,by rw [B,cX E F K,y]; rfl,(by have h:=a; have h:=Wt 1 h; exact h)⟩
 intro ⟨N,bC,au⟩ ⟨L,bD⟩;have aK:=G6 M L;refine ad O (I (Yx O O) (I (Yx O O) (ai O (ai O (ae (aa (ad O (ad O ?_))))))));refine I (Yb h7 lG O O) ?_;refine Al Y O h7 λcx=>?_;refine aO 0 Y O O O bz O O O (ae (Cs (Cb (aa (ad O (Lf 1 O ?_))))));refine Lw [_] _ Y O gF O O _ _ _ [b] (by simp) (λw a=>gG c b bC au [91] w bD a) ?_;intro ⟨cz,aM,V⟩ ⟨bE,bF,aN⟩;refine ai O (ae ?_);refine Cc O (λav=>?_) (λav=>?_)
 ·have W:=bE av;have aw:=hb aK W;refine aa (ad O (ad O (I (Yi O O O (by omega)) ?_)))
  refine hW (ι:=(aV×(Option Addr×Nat))×(Option Addr×Nat)×Tk) (κ:=(Option Addr×Nat)×Tk) [_] _ Y O mP O O (λi=>.agg #[.int .i64 (i.1.1).op,.int .i64 (i.1.1).n,st (i.1.1).mod,st (i.1.1).nm,.slice i.1.2.1 (i.1.1).args.length i.1.2.2]) (λi=>aL c i.2.1 i.2.2) (λH i=>cC f V=some (i.1.1,i.2.2)/\Sl (ff f) 5 H i.1.2.1 i.1.2.2 i.1.1.args/\Sl ag 3 b i.2.1.1 i.2.1.2 i.2.2) (λ_=>cA) (λi=>aL c i.1 i.2) (λ_=>cC f V=none) ([b]) (by simp) (λ_ _ h=>h) (λw a=>(S c aM V (d+1) w (by omega) aw aN a).mono λe w' h=>by
      rcases h with ⟨x,s,g,q,o,j,p,u,J⟩ | ⟨g,q,o,j,p⟩
      · exact .inl ⟨((x,s),g,q),o,⟨j,p,u⟩,J⟩
      · exact .inr ⟨(g,q),o,j,p⟩) ?_ ?_
  ·intro ⟨z,A⟩ y;refine Ep (WE.ck (Ep ?_));refine b6 λw' a=>?_;exact .inr ⟨z,A,O,by rw [B,cX E F K,L]; simp only [Option.bind_some]; rw [Bi W,y]; rfl,(by have h:=a; have h:=Wt 1 h; exact h)⟩
  intro bG ⟨⟨aP,aQ⟩,bH,R⟩ bK ⟨X,bM,bN⟩;have bO:cW R:=mM aw X;have cB:R.length+1<=List.length (V):=mN aw X;refine Lb Y O jB O O O O λbQ=>?_;refine LN (rd:=jz) (f:=XE.cells) (m:=1) 0 [(aP,aQ.1,aQ.2)] O O (λk D=>by simp [aL,aq] at D; subst D; simp [dM,aL,aq,bY]) XE.aj (λ_ _ _ _ h=>h) (show 1<=1 by decide) (by decide) λcE bS bT=>?_;refine I (Yf rL O) (aO 1 Y O O O dP O O O (I (Yf s9 O) (aO 1 Y O O O oH O O O (ae (Cr (ad O ?_))))));refine Lb Y O dT O O O O λcG=>?_;refine a7 (T:=9) (m:=1) 0 [[93]] O O (show 1<=1 by decide) (by decide) λaR bU=>?_
  refine dF (ι:=(Option Addr×Nat)×Tk) (κ:=(Option Addr×Nat)×Tk) [_] _ Y O hf O O (λ_=>.tuple #[]) (λi=>aL c i.1 i.2) (λi=>cZ [[93]] R=some i.2/\Sl ag 3 b i.1.1 i.1.2 i.2) (λ_=>cA) (λi=>aL c i.1 i.2) (λ_=>cZ [[93]] R=none) ([b,aR]) (by simp) (λw a=>(hd c b bH R aR _ _ [[93]] w bU bN a).mono λe w' h=>by
      rcases h with ⟨g,q,o,j,p,u⟩ | ⟨g,q,o,j,p⟩
      · exact .inl ⟨(g,q),o,⟨j,p⟩,u⟩
      · exact .inr ⟨(g,q),o,j,p⟩) ?_ ?_
  ·intro ⟨z,A⟩ y;refine WE.ck (Ep ?_);refine b6 λw' a=>?_;exact .inr ⟨z,A,O,by rw [B,cX E F K,L]; simp only [Option.bind_some]; rw [Bi W,X]; simp only [Option.bind_some]; rw [<-dX,y]; rfl,(by have h:=a; have h:=Wt 1 h; have h:=Ws.cv h (ah:=[b]) (by simp); exact h)⟩
  intro ⟨bV,bW⟩ ⟨aU,bX⟩;have cH:=hc bO aU;refine Ln (Eb (Et (aa (I (b8 1 O O jd O) (aO 2 Y O O O bz O O O (ae (aX ?_)))))));refine WE.ee (gL O (dI 2 O O jd O)) λw' a=>?_;exact .inl ⟨aV.mk 4 0 N.1 N.2 [aP],(some ⟨bQ,0,none⟩,1),bV,bW,O,by rw [B,cX E F K,L]; simp only [Option.bind_some]; rw [Bi W,X]; simp only [Option.bind_some]; rw [<-dX,aU]; rfl,jA bT (cF a (by simp) bS) (cF a (by simp) bK) ((gH.nil bG f).snoc (bw.refl _) (bw.refl _) bM),bX,Wv 3 (Wt 1 a)⟩
 obtain ⟨ax,bZ⟩:=bF av;subst bZ;refine aa (ad O ?_);refine Lw [_] _ Y O gF O O _ _ _ [b] (by simp) (λw a=>gG c b aM au [40] w aN a) ?_;intro ⟨cI,aW,ay⟩ ⟨b0,b1,aY⟩;refine ai O (ae ?_);refine Cc O (λaz=>?_) (λaz=>?_)
 ·have aA:=b0 az;have b2:=hb aK aA;refine Cr (ad O (ad O (I (Yi O O O (by omega)) ?_)))
  refine hW (ι:=((List aV)×(Option Addr×Nat))×(Option Addr×Nat)×Tk) (κ:=(Option Addr×Nat)×Tk) [_] _ Y O Hi O O (λi=>.slice i.1.2.1 i.1.1.length i.1.2.2) (λi=>aL c i.2.1 i.2.2) (λH i=>iI (cC f) ay=some (i.1.1,i.2.2)/\Sl (ff (f+1)) 5 H i.1.2.1 i.1.2.2 i.1.1/\Sl ag 3 b i.2.1.1 i.2.1.2 i.2.2) (λ_=>cA) (λi=>aL c i.1 i.2) (λ_=>iI (cC f) ay=none) ([b]) (by simp) (λ_ _ h=>h) (λw a=>(Hc c b aW ay f (d+1) w S (by omega) b2 aY a).mono λe w' h=>by
      rcases h with ⟨x,s,g,q,o,j,p,u,J⟩ | ⟨g,q,o,j,p⟩
      · exact .inl ⟨((x,s),g,q),o,⟨j,p,u⟩,J⟩
      · exact .inr ⟨(g,q),o,j,p⟩) ?_ ?_
  ·intro ⟨z,A⟩ y;refine WE.ck (Ep ?_);refine b6 λw' a=>?_;exact .inr ⟨z,A,O,by rw [B,cX E F K,L]; simp only [Option.bind_some]; rw [Hf ax aA,y]; rfl,(by have h:=a; have h:=Wt 1 h; exact h)⟩
  intro cJ ⟨⟨b3,b4⟩,b5,b7⟩ b' ⟨b_,ca,cb⟩;refine I (Yf rL O) (aO 1 Y O O O dP O O O (I (Yf s9 O) (aO 1 Y O O O oH O O O (Ln (Eb (Et (aa (I (b8 1 O O jd O) (aO 2 Y O O O bz O O O (ae (aX ?_)))))))))));refine WE.ee (gL O (dI 2 O O jd O)) λw' a=>?_;exact .inl ⟨aV.mk 5 0 N.1 N.2 b3,b4,b5,b7,O,by rw [B,cX E F K,L]; simp only [Option.bind_some]; rw [Hf ax aA,b_]; rfl,gO ca (cF a (by simp) b'),cb,Wv 1 (Wt 1 a)⟩
 obtain ⟨cc,cd⟩:=b1 az;subst cd;refine Ck (Eb (Et (aa (I (b8 1 O O jd O) (aO 2 Y O O O bz O O O (ae (aX ?_)))))));refine WE.ee (gL O (dI 2 O O jd O)) λw' a=>?_;exact .inl ⟨aV.mk 3 0 N.1 N.2 [],(none,0),aW,au,O,by rw [B,cX E F K,L]; simp only [Option.bind_some]; rw [PZ ax cc],Sl.nil,aY,Wt 1 a⟩
end Go.Proofs.YtccenighnmfhgaaGreatDoor
end
