/- BuildAlike: Build tells the same image, in whatever order the texts are. -/
import Derived.Ground.Names2Prog
import Derived.Ground.SlgnProg
import Derived.Lib.AtoiErrMem
import Derived.Scope
import Derived.Shelf.LaysC
import Derived.Shelf.LaysM
import Derived.Shelf.Slices.Clone
import Derived.Shelf.Slices.Turned
import Derived.Shelf.SlicesE.Clone
import Derived.Shelf.Small.Bits
import Derived.Shelf.Small.Strs
import Derived.Shelf.Strconv.Atoi
import Derived.Shelf.Strconv.AtoiAll
import Derived.Shelf.Strconv.AtoiErrFast
import Derived.Shelf.Strconv.AtoiFail
import Derived.Shelf.Strconv.AtoiInnerAll
import Derived.Shelf.Strconv.AtoiLong
import Derived.Shelf.Strconv.Clone
import Derived.Shelf.Strconv.Itoa0
import Derived.Shelf.Strconv.Itoa1
import Derived.Shelf.Strconv.Itoa2
import Derived.Shelf.Strconv.Itoa3
import Derived.Shelf.Strconv.Lower
import Derived.Shelf.Strconv.ParseInt10
import Derived.Shelf.Strconv.ParseIntEmpty
import Derived.Shelf.Strconv.ParseUint10
import Derived.Shelf.Strconv.ParseUint10Any
import Derived.Shelf.Strconv.ParseUint10Empty
import Derived.Shelf.Strconv.ParseUint10b16
import Derived.Shelf.Strconv.ParseUint10b32
import Derived.Shelf.Strconv.ParseUint10b64
import Derived.Shelf.Strconv.ParseUint10b8
import Derived.Shelf.Strconv.ParseUintEmpty
import Derived.Shelf.Strconv.RangeError
import Derived.Shelf.Strconv.SyntaxError
import Derived.Shelf.Strconv.ToError
import Derived.Shelf.Strconv.ToErrorRange
import Derived.Shelf.Strings.Builder1
import Derived.Shelf.Strings.BuilderF
import Derived.Shelf.Strings.BuilderK
import Derived.Shelf.Strings.Search1
import Derived.Test.YtccenighnmfhgaaGreatDoorProg
import Derived.Test.YtccenighnmfhgaaGreatDoorRows
import Derived.Test.YtccenighnmfhgaaGreatDoorA2
set_option linter.unusedVariables false
set_option linter.unusedSimpArgs false
section
namespace Go.Bw
open Go
def TW (l:List Tx):Tk:=l.map bl
theorem Fy:TW []=[]:=rfl
theorem gK (a b:List Tx):TW (a++b)=TW a++TW b:=List.map_append
theorem ajm (x:Tx) (b:List Tx):TW (x::b)=bl x::TW b:=rfl
theorem Yj {s w:Tx} {r:Tk} (h:dB w=true):au s (bl w::r)=if (w==s)=true then some r else none:=by
 rw [Fs h]; rfl
theorem tW {s:Tx} {u:UInt8} {r:Tk} (h:u ∈ vi):au s (bl [u]::r)=if ([u]==s)=true then some r else none:=by
 rw [JQ u h]; rfl
theorem ajn {s:Tx} {n:Int} {r:Tk} (h0:0<=n) (h1:n<=1099511627775) (hs:s≠[]):au s (bl (Lib.itoa n)::r)=none:=by
 rw [Ft h0 h1];simp only [au];rw [if_neg];intro h;simp only [beq_iff_eq] at h;exact hs h.symm
theorem ql {w:Tx} {r:Tk} (h:dL w=true):cN (bl w::r)=some (w,r):=by
 rw [Fs (oy h)];simp [cN,kW,h]
theorem Yk {n:Int} {r:Tk} (h0:0<=n) (h1:n<=1099511627775):jZ (bl (Lib.itoa n)::r)=some (n,r):=by
 rw [Ft h0 h1];simp [jZ,kW]
theorem ajo {w s:Tx} (h:dL w=true) (hs:s ∈ vl):(w==s)=false:=by
 rw [Bool.eq_false_iff];intro e;simp only [beq_iff_eq] at e;subst e;simp only [dL,Bool.and_eq_true,Bool.not_eq_true',List.contains_eq_mem,decide_eq_false_iff_not] at h;exact h.2 hs
theorem ajp {w:Tx} {u:UInt8} (h:dB w=true) (hu:ni (u.toNat:Int)=false):(w==[u])=false:=by
 rw [Bool.eq_false_iff];intro e;simp only [beq_iff_eq] at e;subst e;simp only [dB,Bool.and_eq_true] at h;have:=h.1.2;simp at this;rw [this] at hu;cases hu
theorem Yp {w s:Tx} {r:Tk} (h:dL w=true) (hs:s ∈ vl):au s (bl w::r)=none:=by
 rw [Yj (oy h),ajo h hs]; rfl
theorem PS {w:Tx} {u:UInt8} {r:Tk} (h:dL w=true) (hu:ni (u.toNat:Int)=false):au [u] (bl w::r)=none:=by
 rw [Yj (oy h),ajp (oy h) hu]; rfl
structure Stop (q:Tk):Prop where
 dot:au [46] q=none
 br:au [91] q=none
 pa:au [40] q=none
theorem Yq {u:UInt8} {q:Tk} (h:u ∈ vi) (h1:u≠46) (h2:u≠91) (h3:u≠40):Stop (bl [u]::q):=
 ⟨by rw [tW h,if_neg (by simpa using h1)],by rw [tW h,if_neg (by simpa using h2)],by rw [tW h,if_neg (by simpa using h3)]⟩
theorem Yr {mod nm:Tx} {q:Tk} (h:hY true mod nm=false) (hq:au [46] q=none):jo (TW (iQ mod nm)++q)=some ((mod,nm),q):=by
 obtain ⟨h1,h2⟩:=PG h;unfold iQ
 split
 · rename_i hm
   simp only [beq_iff_eq] at hm;subst hm
   show jo (bl nm::q)=_
   unfold jo;rw [ql h2];simp only [Option.bind_some];rw [hq]
 · rename_i hm
   have iB:dL mod=true:=h1.resolve_left (by simpa using hm)
   show jo (bl mod::bl [46]::bl nm::q)=_
   unfold jo;rw [ql iB];simp only [Option.bind_some];rw [tW (by decide)];simp only [beq_self_eq_true,if_true];rw [ql h2]
   rfl
theorem PT {mod nm:Tx} (h:hY true mod nm=false):∃w r,iQ mod nm=w::r/\dL w=true:=by
 obtain ⟨h1,h2⟩:=PG h;unfold iQ
 split
 · exact ⟨nm,[],O,h2⟩
 · rename_i hm
   exact ⟨mod,_,O,h1.resolve_left (by simpa using hm)⟩
theorem qm {mod nm s:Tx} {q:Tk} (h:hY true mod nm=false) (hs:s ∈ vl\/∃u,s=[u]/\ni (u.toNat:Int)=false):au s (TW (iQ mod nm)++q)=none:=by
 obtain ⟨w,r,e,hw⟩:=PT h;rw [e]
 rcases hs with hs | ⟨u,rfl,hu⟩
 · exact Yp hw hs
 · exact PS hw hu
theorem PU {mod nm:Tx} {q:Tk} {f:Nat} (h:hY true mod nm=false) (hq:au [46] q=none):bI (f+1) (TW (iQ mod nm)++q)=mH (bI f) mod nm q:=by
 have hr:=Yr h hq;have e1:=qm (s:=xX) (q:=q) h (.inl (by decide));have e2:=qm (s:=[33]) (q:=q) h (.inr ⟨33,rfl,by decide⟩);have e3:=qm (s:=[40]) (q:=q) h (.inr ⟨40,rfl,by decide⟩);obtain ⟨w,r,e,hw⟩:=PT h;rw [e] at hr e1 e2 e3 ⊢;rw [ajm,List.cons_append] at hr e1 e2 e3 ⊢
 have hk:(bl w).kind=1:=by rw [Fs (oy hw)]
 unfold bI;simp only [];rw [if_neg (by omega)];unfold kC;rw [e1,e2,e3];simp only [];rw [hr]
 rfl
theorem Ys {w:Tx} {r:Tk} {f:Nat} (hk:(bl w).kind≠2):bI (f+1) (bl w::r)=kC (bI f) (bl w::r):=by
 rw [bI,if_neg hk]
theorem Yt {u:UInt8} (h:u ∈ vi):(bl [u]).kind≠2:=by
 rw [JQ u h]
 show (3:Int)≠2
 decide
def PV (u:UInt8):Bool:=vi.contains u&&(!(u==46)&&(!(u==91)&&!(u==40)))
theorem vH (u:UInt8) (q:Tk) (h:PV u=true):Stop (TW [[u]]++q):=by
 simp [PV] at h;exact Yq h.1 h.2.1 h.2.2.1 h.2.2.2
theorem PW (u:UInt8) (q:Tk) (h:PV u=true):Stop (bl [u]::q):=vH u q h
theorem ajq {pe:Tk->Option (az×Tk)} {r:Tk}:kC pe (bl [33]::r)=(pe r).map λx=>(az.mk 6 0 [] [] [x.1],x.2):=by
 unfold kC;rw [tW (by decide),tW (by decide)]
 rfl
theorem ajr {pe:Tk->Option (az×Tk)} {r:Tk}:kC pe (bl [40]::r)=l8 pe r:=by
 unfold kC;rw [tW (by decide),tW (by decide),tW (by decide)]
 rfl
theorem ajs {q:Tk}:∀(j:Nat),j<9->nD opsL 0 (bl ((opsL[j]?).getD [])::q)=some (j,q)
 | 0,_=>rfl
 | 1,_=>rfl
 | 2,_=>rfl
 | 3,_=>rfl
 | 4,_=>rfl
 | 5,_=>rfl
 | 6,_=>rfl
 | 7,_=>rfl
 | 8,_=>rfl
 | n+9,h=>absurd h (by omega)
theorem ajt (op:Int) {q:Tk} (h:7<=op/\op<=15):Stop (bl (zH op)::q):=by
 have:op=7\/op=8\/op=9\/op=10\/op=11\/op=12\/op=13\/op=14\/op=15:=by omega
 rcases this with rfl | rfl | rfl | rfl | rfl | rfl | rfl | rfl | rfl<;>exact Yq (by decide) (by decide) (by decide) (by decide)
theorem Yu {op:Int} {mod nm:Tx} (h:hY (dG op 3 5) mod nm=false):(3<=op/\op<=5->hY true mod nm=false)/\(¬(3<=op/\op<=5)->mod=[]/\nm=[]):=by
 refine ⟨λhk=>?_,λhk=>?_⟩
 · rw [show dG op 3 5=true by simp [dG]; omega] at h; exact h
 · rw [show dG op 3 5=false by rw [Bool.eq_false_iff]; simp [dG]; omega] at h; exact X1 h
theorem aju {op n:Int} (h:jU op n=false) (hk:op≠1):n=0:=by
 simp [jU,hk] at h; exact h
theorem ajv {l:List (List Tx)}:l.length<=(gg l).length\/∃x ∈ l,x=[]:=by
 induction l with
 | nil=>exact .inl (Nat.zero_le _)
 | cons x r ih=>
   by_cases hx:x=[]
   · exact .inr ⟨x,by simp,hx⟩
   have hl:1<=x.length:=by cases x; exact absurd rfl hx; simp
   rcases ih with ih | ⟨y,hy,e⟩
   · cases r with
     | nil=>left; simpa [gg] using hl
     | cons y r=>left; simp only [gg,List.length_append,List.length_cons] at ih ⊢; omega
   · exact .inr ⟨y,List.mem_cons_of_mem _ hy,e⟩
theorem ajw (l:List az):l.length<=(gg (dn l)).length:=by
 rcases ajv (l:=dn l) with h | ⟨x,hx,e⟩
 · rwa [XV] at h
 · exact absurd e (XX l x hx)
theorem Yv:∀(x:az) (d:Nat) (q:Tk),(gE x d).aT=0->au [41] (TW (eO x)++q)=none
 | .mk op n mod nm args,d,q,h=>by
   have ho:=PB h;have hk:=ho.kind;obtain ⟨dJ,eI⟩:=Yu ho.name;unfold eO ox
   by_cases h1:op=1
   · subst h1
     obtain ⟨a,b⟩:=PH ho.num;exact ajn a b (by simp)
   rw [if_neg h1]
   by_cases h2:op=2
   · rw [if_pos h2]; rfl
   rw [if_neg h2]
   by_cases PY:op<=5
   · have hb:=dJ ⟨by omega,PY⟩
     have hh:∀q,au [41] (TW (iQ mod nm)++q)=none:=λq=>qm hb (.inr ⟨41,rfl,by decide⟩)
     split
     · exact hh _
     · split
       · rw [List.append_assoc,List.append_assoc,gK,List.append_assoc]; exact hh _
       · rw [if_pos (by omega),gK,List.append_assoc]; exact hh _
   · rw [if_neg (by omega),if_neg (by omega),if_neg (by omega)]
     split<;>rfl
mutual
theorem ajx:∀(x:az) (d:Nat),(gE x d).aT=0->∀(f:Nat),f+d=7->∀(q:Tk),Stop q->bI f (TW (eO x)++q)=some (x,q)
 | .mk op n mod nm args,d,h,f,hf,q,hq=>by
   have ho:=PB h;have hk:=ho.kind;have hd:=ho.deep;obtain ⟨f,rfl⟩:∃g,f=g+1:=⟨f-1,by omega⟩;obtain ⟨dJ,eI⟩:=Yu ho.name;have qn:=PZ args (d+1) ho.sub f (by omega);have hw:=X' op n mod nm args;rw [hw];unfold ox
   by_cases h1:op=1
   · subst h1
     obtain ⟨a,b⟩:=PH ho.num;obtain ⟨rfl,rfl⟩:=eI (by omega)
     have hz:args=[]:=by
       have:=ho.zJ;simp [nn,xB] at this;exact this
     subst hz
     show bI (f+1) (bl (Lib.itoa n)::q)=_
     rw [Ft a b,bI]
     rfl
   rw [if_neg h1];have hn:=aju ho.num h1;subst hn
   by_cases h2:op=2
   · subst h2
     obtain ⟨rfl,rfl⟩:=eI (by omega)
     have hz:args=[]:=by
       have:=ho.zJ;simp [nn,xB] at this;exact this
     subst hz
     rfl
   rw [if_neg h2]
   by_cases h3:op=3
   · subst h3
     have hz:args=[]:=by
       have:=ho.zJ;simp [nn,xB] at this;exact this
     subst hz;rw [if_pos rfl,PU (dJ (by omega)) hq.dot];unfold mH;rw [hq.br,hq.pa]
   rw [if_neg h3]
   by_cases h4:op=4
   · subst h4
     have hl:=ho.XT (.inl rfl)
     match args,hl,qn with
     | [x],_,qn=>
       rw [if_pos rfl];simp only [dn,at_,List.getElem?_cons_zero,Option.getD_some,gK,List.append_assoc];rw [PU (dJ (by omega)) (by rfl)];unfold mH;rw [show au [91] (TW [[91]]++(TW (eO x)++(TW [[93]]++q)))=some (TW (eO x)++(TW [[93]]++q)) from rfl];simp only [];rw [qn.1 0 x rfl _ (vH 93 _ (by decide))]
       rfl
   rw [if_neg h4]
   by_cases h5:op=5
   · subst h5
     rw [if_pos rfl];simp only [tL,gK,List.append_assoc];rw [PU (dJ (by omega)) (by rfl)];unfold mH;rw [show ∀r,au [91] (TW [[40]]++r)=none from λr=>rfl,show ∀r,au [40] (TW [[40]]++r)=some r from λr=>rfl];simp only [];rw [qn.2 q]
     rfl
   rw [if_neg h5];obtain ⟨rfl,rfl⟩:=eI (by omega)
   by_cases h6:op=6
   · subst h6
     have hl:=ho.XT (.inr rfl)
     match args,hl,qn with
     | [x],_,qn=>
       rw [if_pos rfl];simp only [dn,at_,List.getElem?_cons_zero,Option.getD_some,gK,List.append_assoc]
       show bI (f+1) (bl [33]::(TW (eO x)++q))=_
       rw [Ys (Yt (by decide)),ajq,qn.1 0 x rfl _ hq]
       rfl
   rw [if_neg h6];have hl:=ho.ai7 (by omega)
   match args,hl,qn with
   | [x,y],_,qn=>
     simp only [dn,at_,List.getElem?_cons_zero,List.getElem?_cons_succ,Option.getD_some,gK,List.append_assoc]
     show bI (f+1) (bl [40]::(TW (eO x)++(bl (zH op)::(TW (eO y)++(bl [41]::q)))))=_
     rw [Ys (Yt (by decide)),ajr,l8,qn.1 0 x rfl _ (ajt op ⟨by omega,hk.2⟩)];simp only [Option.bind_some];rw [show nD opsL 0 (bl (zH op)::(TW (eO y)++(bl [41]::q)))=some ((op-7).toNat,TW (eO y)++(bl [41]::q)) from ajs _ (by omega)];simp only [Option.bind_some];rw [qn.1 1 y rfl _ (PW 41 _ (by decide))];simp only [Option.bind_some];rw [tW (by decide)];simp only [beq_self_eq_true,if_true,Option.map_some];rw [show (7:Int)+((op-7).toNat:Int)=op by omega]
theorem PZ:∀(l:List az) (d:Nat),(bY l d).aT=0->∀(f:Nat),f+d=7->
   (∀(i:Nat) (x:az),l[i]? = some x->∀(q:Tk),Stop q->bI f (TW (eO x)++q)=some (x,q))/\
   (∀(q:Tk),j0 (bI f) (TW (gg (dn l))++(TW [[41]]++q))=some (l,q))
 | [],_,_,_,_=>⟨by simp,λq=>rfl⟩
 | x::r,d,h,f,hf=>by
   obtain ⟨h1,h2⟩:=XS h;have hx:=ajx x d h1 f hf;have hr:=PZ r d h2 f hf
   have bT:∀(i:Nat) (y:az),(x::r)[i]? = some y->∀(q:Tk),Stop q->bI f (TW (eO y)++q)=some (y,q):=by
     intro i y hy
     cases i with
     | zero=>simp at hy; subst hy; exact hx
     | succ i=>exact hr.1 i y (by simpa using hy)
   refine ⟨bT,λq=>?_⟩
   have ajy:∀(l:List az),(∀(i:Nat) (y:az),l[i]? = some y->∀(q:Tk),Stop q->bI f (TW (eO y)++q)=some (y,q))->l≠[]->∀n,l.length<=n->kB (bI f) n (TW (gg (dn l))++(TW [[41]]++q))=some (l,q):=by
     intro l
     induction l with
     | nil=>intro _ h; exact absurd rfl h
     | cons z t ih=>
       intro ha _ n hn;obtain ⟨n,rfl⟩:∃m,n=m+1:=⟨n-1,by simp at hn; omega⟩
       cases t with
       | nil=>
         simp only [dn,gg];unfold kB;rw [ha 0 z rfl _ (vH 41 _ (by decide))]
         rfl
       | cons y t=>
         simp only [dn,gg,gK,List.append_assoc];unfold kB;rw [ha 0 z rfl _ (vH 44 _ (by decide))];simp only [Option.bind_some];rw [show ∀r,au [41] (TW [[44]]++r)=none from λr=>rfl,show ∀r,au [44] (TW [[44]]++r)=some r from λr=>rfl];simp only [];have:=ih (λi u hu=>ha (i+1) u (by simpa using hu)) (by simp) n (by simp at hn ⊢; omega);simp only [dn] at this;rw [this]
         rfl
   have P0:au [41] (TW (gg (dn (x::r)))++(TW [[41]]++q))=none:=by
     cases r with
     | nil=>simp only [dn,gg]; exact Yv x d _ h1
     | cons y r=>simp only [dn,gg,gK,List.append_assoc]; exact Yv x d _ h1
   unfold j0;rw [P0];simp only [];refine ajy (x::r) bT (by simp) _ ?_;have:=ajw (x::r);simp only [List.length_append,TW,List.length_map];omega
end
theorem Yw {op:Int} {mod nm:Tx} (h:hY (dG op 1 3) mod nm=false):(1<=op/\op<=3->hY true mod nm=false)/\(¬(1<=op/\op<=3)->mod=[]/\nm=[]):=by
 refine ⟨λhk=>?_,λhk=>?_⟩
 · rw [show dG op 1 3=true by simp [dG]; omega] at h; exact h
 · rw [show dG op 1 3=false by rw [Bool.eq_false_iff]; simp [dG]; omega] at h; exact X1 h
theorem P3 {mod nm:Tx} {q:Tk} (h:hY true mod nm=false) (hq:au [46] q=none):dV (TW (iQ mod nm)++q)=(match au [40] q with
     | some r=>(j0 (bI 6) r).map λq=>(aH.mk 3 mod nm q.1 [] [],q.2)
     | none=>match au [91] q with
       | some r=>(bI 6 r).bind λi=>(au [93] i.2).bind λr=>(au [61] r).bind λr=>(bI 6 r).map λx=>(aH.mk 2 mod nm [i.1,x.1] [] [],x.2)
       | none=>(au [61] q).bind λr=>(bI 6 r).map λx=>(aH.mk 1 mod nm [x.1] [] [],x.2)):=by
 unfold dV;rw [qm (s:=dT) h (.inl (by decide)),qm (s:=dU) h (.inl (by decide))];simp only [];rw [Yr h hq]
 rfl
theorem Fz {pb:Tk->Option (List aH×Tk)} {l:Tk} (h1:au ed l=none) (h2:au ee l=none):dC pb l=(dV l).bind λs=>(au [59] s.2).map λr=>(s.1,r):=by
 unfold dC;rw [h1,h2]
def Yy (pb:Tk->Option (List aH×Tk)) (d:Nat):Prop:=∀(l:List aH),(cQ l d).aT=0->∀q,pb (TW (lv l)++q)=some (l,q)
theorem ajz {pb:Tk->Option (List aH×Tk)} {d:Nat} (hb:Yy pb (d+1)) (x:aH) (h:(ey x d).aT=0) (q:Tk) (hq:au dS q=none):dC pb (TW (l7 x)++q)=some (x,q):=by
 obtain ⟨op,mod,nm,args,body,other⟩:=x;have ho:=PC h;have hk:=ho.kind;have hx:=PZ args 1 ho.exprs 6 rfl;obtain ⟨dJ,eI⟩:=Yw ho.name;obtain ⟨sg,oz⟩:=ho.ai9;rw [tV];unfold nC
 rcases (by omega:op=1\/op=2\/op=3\/op=4\/op=5\/op=6\/op=7) with rfl | rfl | rfl | rfl | rfl | rfl | rfl
 · have hl:=ho.len (by decide)
   obtain rfl:=sg (by decide);obtain rfl:=oz (by decide);have hn:=dJ (by omega)
   match args,hl,hx with
   | [x],_,hx=>
     simp only [if_true,if_false,reduceCtorEq,Int.reduceEq,or_self,dn,at_,List.getElem?_cons_zero,Option.getD_some,gK,List.append_assoc];rw [Fz (qm hn (.inl (by decide))) (qm hn (.inl (by decide))),P3 hn (by rfl),show ∀r,au [40] (TW [[61]]++r)=none from λr=>rfl,show ∀r,au [91] (TW [[61]]++r)=none from λr=>rfl,show ∀r,au [61] (TW [[61]]++r)=some r from λr=>rfl];simp only [Option.bind_some];rw [hx.1 0 x rfl _ (vH 59 _ (by decide))]
     rfl
 · have hl:=ho.len (by decide)
   obtain rfl:=sg (by decide);obtain rfl:=oz (by decide);have hn:=dJ (by omega)
   match args,hl,hx with
   | [x,y],_,hx=>
     simp only [if_true,if_false,Int.reduceEq,or_self,dn,at_,List.getElem?_cons_zero,List.getElem?_cons_succ,Option.getD_some,gK,List.append_assoc];rw [Fz (qm hn (.inl (by decide))) (qm hn (.inl (by decide))),P3 hn (by rfl),show ∀r,au [40] (TW [[91]]++r)=none from λr=>rfl,show ∀r,au [91] (TW [[91]]++r)=some r from λr=>rfl];simp only [];rw [show ∀r,TW [[93],[61]]++r=TW [[93]]++(TW [[61]]++r) from λr=>rfl,hx.1 0 x rfl _ (vH 93 _ (by decide))];simp only [Option.bind_some];rw [show ∀r,au [93] (TW [[93]]++r)=some r from λr=>rfl];simp only [Option.bind_some];rw [show ∀r,au [61] (TW [[61]]++r)=some r from λr=>rfl];simp only [Option.bind_some];rw [hx.1 1 y rfl _ (vH 59 _ (by decide))]
     rfl
 · obtain rfl:=sg (by decide)
   obtain rfl:=oz (by decide);have hn:=dJ (by omega);simp only [if_true,if_false,Int.reduceEq,or_self,tL,gK,List.append_assoc];rw [Fz (qm hn (.inl (by decide))) (qm hn (.inl (by decide))),P3 hn (by rfl),show ∀r,au [40] (TW [[40]]++r)=some r from λr=>rfl];simp only [];rw [hx.2]
   rfl
 · have hl:=ho.len (by decide)
   have vI:=hb body (ho.body rfl);obtain ⟨rfl,rfl⟩:=eI (by omega)
   match args,hl,hx with
   | [x],_,hx=>
     simp only [if_true,if_false,Int.reduceEq,or_false,true_or,dn,at_,List.getElem?_cons_zero,Option.getD_some,gK,List.append_assoc];unfold dC;rw [show ∀r,au ed (TW [ed]++r)=some r from λr=>rfl];simp only [];have P4:∀r,Stop (TW (qi (gW body))++r):=λr=>PW 123 _ (by decide);rw [hx.1 0 x rfl _ (P4 _)];simp only [Option.bind_some];have ajA:∀q,pb (TW (qi (gW body))++q)=some (body,q):=vI;rw [ajA];simp only [Option.bind_some]
     by_cases oA:0<other.length
     · rw [if_pos oA]
       have hoo:∀q,pb (TW (qi (gW other))++q)=some (other,q):=hb other (ho.other oA);simp only [gK,List.append_assoc];rw [show ∀r,au dS (TW [dS]++r)=some r from λr=>rfl];simp only [];rw [hoo];simp only [Option.bind_some];rw [if_neg (by omega)]
     · rw [if_neg oA]
       have:other=[]:=List.eq_nil_of_length_eq_zero (by omega);subst this;rw [Fy,List.nil_append,hq]
 · have hl:=ho.len (by decide)
   have vI:∀q,pb (TW (qi (gW body))++q)=some (body,q):=hb body (ho.body rfl);obtain ⟨rfl,rfl⟩:=eI (by omega);obtain rfl:=oz (by decide)
   match args,hl,hx with
   | [x],_,hx=>
     simp only [if_true,if_false,Int.reduceEq,or_true,dn,at_,List.getElem?_cons_zero,Option.getD_some,gK,List.append_assoc,List.length_nil,Nat.lt_irrefl,Fy,List.nil_append];unfold dC;rw [show ∀r,au ed (TW [ee]++r)=none from λr=>rfl,show ∀r,au ee (TW [ee]++r)=some r from λr=>rfl];simp only [];have P4:∀r,Stop (TW (qi (gW body))++r):=λr=>PW 123 _ (by decide);rw [hx.1 0 x rfl _ (P4 _)];simp only [Option.bind_some];rw [vI]
     rfl
 · have hl:=ho.len (by decide)
   obtain rfl:=sg (by decide);obtain rfl:=oz (by decide);obtain ⟨rfl,rfl⟩:=eI (by omega)
   match args,hl,hx with
   | [x],_,hx=>
     simp only [if_true,if_false,Int.reduceEq,or_self,dn,at_,List.getElem?_cons_zero,Option.getD_some,gK,List.append_assoc];rw [Fz (by rfl) (by rfl)];unfold dV;rw [show ∀r,au dT (TW [dT]++r)=some r from λr=>rfl];simp only [];rw [hx.1 0 x rfl _ (vH 59 _ (by decide))]
     rfl
 · have hl:=ho.len (by decide)
   obtain rfl:=sg (by decide);obtain rfl:=oz (by decide);obtain ⟨rfl,rfl⟩:=eI (by omega)
   match args,hl,hx with
   | [x],_,hx=>
     simp only [if_true,if_false,Int.reduceEq,or_self,dn,at_,List.getElem?_cons_zero,Option.getD_some,gK,List.append_assoc];rw [Fz (by rfl) (by rfl)];unfold dV;rw [show ∀r,au dT (TW [dU]++r)=none from λr=>rfl,show ∀r,au dU (TW [dU]++r)=some r from λr=>rfl];simp only [];rw [hx.1 0 x rfl _ (vH 59 _ (by decide))]
     rfl
theorem ajC {x:aH} {d:Nat} (h:(ey x d).aT=0):∃w r,l7 x=w::r/\(dL w=true\/w=ed\/w=ee\/w=dT\/w=dU):=by
 obtain ⟨op,mod,nm,args,body,other⟩:=x;have ho:=PC h;have hk:=ho.kind;obtain ⟨dJ,eI⟩:=Yw ho.name;rw [tV];unfold nC
 by_cases Jb:op=4\/op=5
 · rw [if_pos Jb]
   refine ⟨_,_,O,?_⟩
   split<;>simp
 rw [if_neg Jb]
 by_cases h6:op=6
 · rw [if_pos h6]; exact ⟨_,_,rfl,by simp⟩
 rw [if_neg h6]
 by_cases h7:op=7
 · rw [if_pos h7]; exact ⟨_,_,rfl,by simp⟩
 rw [if_neg h7];obtain ⟨w,r,e,hw⟩:=PT (dJ (by omega));rw [e]
 by_cases h3:op=3
 · rw [if_pos h3]; exact ⟨_,_,rfl,.inl hw⟩
 rw [if_neg h3]
 by_cases h1:op=1
 · rw [if_pos h1]; exact ⟨_,_,rfl,.inl hw⟩
 rw [if_neg h1,if_pos (by omega)];exact ⟨_,_,O,.inl hw⟩
theorem ajD {w s:Tx} {r:Tk} (h:dL w=true\/w=ed\/w=ee\/w=dT\/w=dU) (hs:s=dS\/s=[125]):au s (bl w::r)=none:=by
 rcases h with h | rfl | rfl | rfl | rfl
 · rcases hs with rfl | rfl
   · exact Yp h (by decide)
   · exact PS h (by decide)
 all_goals rcases hs with rfl | rfl<;>rfl
theorem Yz {x:aH} {d:Nat} {q:Tk} {s:Tx} (h:(ey x d).aT=0) (hs:s=dS\/s=[125]):au s (TW (l7 x)++q)=none:=by
 obtain ⟨w,r,e,hw⟩:=ajC h;rw [e];exact ajD hw hs
theorem YA {ps:Tk->Option (aH×Tk)} {d:Nat} (hp:∀(x:aH),(ey x d).aT=0->∀q,au dS q=none->ps (TW (l7 x)++q)=some (x,q)) (q:Tk):∀(l:List aH),(bS l d).aT=0->∀n,l.length<n->mI ps n (TW (gW l)++(TW [[125]]++q))=some (l,q)
 | [],_,n,hn=>by
   obtain ⟨n,rfl⟩:∃m,n=m+1:=⟨n-1,by simp at hn; omega⟩
   rfl
 | x::r,h,n,hn=>by
   obtain ⟨n,rfl⟩:∃m,n=m+1:=⟨n-1,by simp at hn; omega⟩;obtain ⟨h1,h2⟩:=PD h;have ih:=YA hp q r h2 n (by simp at hn; omega)
   have de:au dS (TW (gW r)++(TW [[125]]++q))=none:=by
     cases r with
     | nil=>rfl
     | cons y t=>
       unfold gW;rw [gK,List.append_assoc];exact Yz (PD h2).1 Y
   unfold gW mI;rw [gK,List.append_assoc,Yz h1 (.inr rfl)];simp only [];rw [hp x h1 _ de];simp only [Option.bind_some];rw [ih]
   rfl
theorem YB:∀l:List aH,l.length<=(gW l).length
 | []=>Nat.zero_le _
 | x::r=>by
   have:=YB r
   have hx:1<=(l7 x).length:=by
     have:=XY x
     cases hw:l7 x with
     | nil=>exact absurd hw this
     | cons _ _=>simp
   unfold gW;simp only [List.length_cons,List.length_append];omega
theorem P5:∀(f d:Nat),f+d=7->Yy (eP f) d
 | 0,d,hf=>λl h=>by
   unfold cQ at h;have:=Fq h;omega
 | f+1,d,hf=>λl h q=>by
   unfold cQ at h;obtain ⟨h1,h2,h3⟩:=Fq h;unfold eP lv qi;simp only [gK,List.append_assoc];rw [show ∀r,au [123] (TW [[123]]++r)=some r from λr=>rfl];simp only [Option.bind_some];refine YA (d:=d) (λx hx q hq=>ajz (d:=d) (P5 f (d+1) (by omega)) x hx q hq) q l h3 _ ?_;have:=YB l;simp only [List.length_append,TW,List.length_map];omega
theorem P6 {b:Bool} {q:Tk} (h:au zG q=none):dt (TW (xY b)++q)=(b,q):=by
 cases b with
 | true=>rfl
 | false=>show dt q=_; unfold dt; rw [h]; rfl
theorem ajE {d:bM} {q:Tk} (h:JU d):au zG (TW (sf d)++q)=none:=by
 unfold sf tO
 rcases h.kind with e | e | e
 · rw [if_pos e]; rfl
 · rw [if_neg (by omega),if_pos e]; rfl
 · rw [if_neg (by omega),if_neg (by omega),if_pos e]; rfl
theorem ajF {d:bM} {q:Tk} (h:JU d):ef d.aL (TW (sf d)++q)=some (some d,q):=by
 have hn:=h.name;obtain ⟨kind,nm,aL,n⟩:=d;unfold sf tO
 rcases h.kind with e | e | e
 · obtain ⟨a,b⟩:=h.n1 e
   simp only at e a b hn;subst e;simp only [if_true]
   show ef aL (bl jl::bl nm::bl [61]::bl (Lib.itoa n)::bl [59]::q)=_
   unfold ef;rw [show ∀r,au jl (bl jl::r)=some r from λr=>rfl];simp only [];rw [ql hn];simp only [Option.bind_some];rw [show ∀r,au [61] (bl [61]::r)=some r from λr=>rfl];simp only [Option.bind_some];rw [Yk a b]
   rfl
 · have hz:=h.n2 e
   simp only at e hz hn;subst e hz;simp only [if_true,if_false,Int.reduceEq]
   show ef aL (bl jm::bl nm::bl [59]::q)=_
   unfold ef;rw [show ∀r,au jl (bl jm::r)=none from λr=>rfl,show ∀r,au jm (bl jm::r)=some r from λr=>rfl];simp only [];rw [ql hn]
   rfl
 · obtain ⟨a,b⟩:=h.n3 e
   simp only at e a b hn;subst e;simp only [if_true,if_false,Int.reduceEq]
   show ef aL (bl jn::bl nm::bl [91]::bl (Lib.itoa n)::bl [93]::bl [59]::q)=_
   unfold ef;rw [show ∀r,au jl (bl jn::r)=none from λr=>rfl,show ∀r,au jm (bl jn::r)=none from λr=>rfl,show ∀r,au jn (bl jn::r)=some r from λr=>rfl];simp only [];rw [ql hn];simp only [Option.bind_some];rw [show ∀r,au [91] (bl [91]::r)=some r from λr=>rfl];simp only [Option.bind_some];rw [Yk (by omega) (by omega)]
   rfl
theorem YC {Z:Tk} (hZ:∀aL,ef aL (dt Z).2=some (none,(dt Z).2)):∀(ds:List bM),(∀d ∈ ds,(gU d).aT=0)->∀n,ds.length<n->
   lx n (dt (TW (ds.flatMap mG)++Z)).1 (dt (TW (ds.flatMap mG)++Z)).2=some ((ds,(dt Z).1),(dt Z).2)
 | [],_,n,hn=>by
   obtain ⟨n,rfl⟩:∃m,n=m+1:=⟨n-1,by simp at hn; omega⟩
   show lx (n+1) (dt Z).1 (dt Z).2=_
   unfold lx;rw [hZ]
   rfl
 | d::r,h,n,hn=>by
   obtain ⟨n,rfl⟩:∃m,n=m+1:=⟨n-1,by simp at hn; omega⟩;have hd:=Fv (h d (by simp));have ih:=YC hZ r (λx hx=>h x (List.mem_cons_of_mem _ hx)) n (by simp at hn; omega)
   have e:TW ((d::r).flatMap mG)++Z=TW (xY d.aL)++(TW (sf d)++(TW (r.flatMap mG)++Z)):=by
     rw [List.flatMap_cons,mG];simp only [sf,gK,List.append_assoc]
   rw [e,P6 (ajE hd)];simp only [];unfold lx;rw [ajF hd];simp only [Option.bind_some];rw [ih]
   rfl
theorem YD {q:Tk}:∀(l:List Tx),(∀s ∈ l,dL s=true)->∀(n:Nat) (first:Bool),l.length<n->
   iC n first (TW (if first=true\/l=[] then [] else [[44]])++(TW (gg (l.map λs=>[s]))++(TW [[41]]++q)))=some (l,q)
 | [],_,n,first,hn=>by
   obtain ⟨n,rfl⟩:∃m,n=m+1:=⟨n-1,by simp at hn; omega⟩;rw [if_pos (.inr rfl)]
   rfl
 | x::r,h,n,first,hn=>by
   obtain ⟨n,rfl⟩:∃m,n=m+1:=⟨n-1,by simp at hn; omega⟩;have hx:=h x (by simp);have ih:=YD (q:=q) r (λs hs=>h s (List.mem_cons_of_mem _ hs)) n false (by simp at hn; omega)
   have e:TW (gg ((x::r).map λs=>[s]))++(TW [[41]]++q)=bl x::(TW (if false=true\/r=[] then [] else [[44]])++(TW (gg (r.map λs=>[s]))++(TW [[41]]++q))):=by
     cases r with
     | nil=>rfl
     | cons y t=>rfl
   rw [e]
   cases first with
   | true=>
     simp only [true_or,if_true,Fy,List.nil_append];unfold iC;rw [PS hx (by decide)];simp only [if_true,Option.bind_some];rw [ql hx];simp only [Option.bind_some];rw [ih]
     rfl
   | false=>
     have e2:(if false=true\/x::r=[] then ([]:List Tx) else [[44]])=[[44]]:=by simp
     rw [e2];unfold iC;rw [show ∀r,au [41] (TW [[44]]++r)=none from λr=>rfl,show ∀r,au [44] (TW [[44]]++r)=some r from λr=>rfl];rw [if_neg (by simp)];simp only [Option.bind_some];rw [ql hx];simp only [Option.bind_some];rw [ih]
     rfl
theorem YE {Z:Tk} (hZ:au sa Z=none):∀(l:List Tx),(∀s ∈ l,dL s=true)->∀n,l.length<n->jI n (TW (l.flatMap sd)++Z)=some (l,Z)
 | [],_,n,hn=>by
   obtain ⟨n,rfl⟩:∃m,n=m+1:=⟨n-1,by simp at hn; omega⟩
   show jI (n+1) Z=_
   unfold jI;rw [hZ]
 | x::r,h,n,hn=>by
   obtain ⟨n,rfl⟩:∃m,n=m+1:=⟨n-1,by simp at hn; omega⟩;have ih:=YE hZ r (λs hs=>h s (List.mem_cons_of_mem _ hs)) n (by simp at hn; omega)
   show jI (n+1) (bl sa::bl x::bl [59]::(TW (r.flatMap sd)++Z))=_
   unfold jI;rw [show ∀r,au sa (bl sa::r)=some r from λr=>rfl];simp only [];rw [ql (h x (by simp))];simp only [Option.bind_some];rw [show ∀r,au [59] (bl [59]::r)=some r from λr=>rfl];simp only [Option.bind_some];rw [ih]
   rfl
theorem YF {Z:Tk} (hZ:au qg Z=none):∀(l:List Tx),(∀s ∈ l,dL s=true)->∀n,l.length<n->j1 n (TW (l.flatMap zI)++Z)=some (l,Z)
 | [],_,n,hn=>by
   obtain ⟨n,rfl⟩:∃m,n=m+1:=⟨n-1,by simp at hn; omega⟩
   show j1 (n+1) Z=_
   unfold j1;rw [hZ]
 | x::r,h,n,hn=>by
   obtain ⟨n,rfl⟩:∃m,n=m+1:=⟨n-1,by simp at hn; omega⟩;have ih:=YF hZ r (λs hs=>h s (List.mem_cons_of_mem _ hs)) n (by simp at hn; omega)
   show j1 (n+1) (bl qg::bl x::bl [59]::(TW (r.flatMap zI)++Z))=_
   unfold j1;rw [show ∀r,au qg (bl qg::r)=some r from λr=>rfl];simp only [];rw [ql (h x (by simp))];simp only [Option.bind_some];rw [show ∀r,au [59] (bl [59]::r)=some r from λr=>rfl];simp only [Option.bind_some];rw [ih]
   rfl
theorem YG {f:Tx->List Tx} (hf:∀x,1<=(f x).length):∀l:List Tx,l.length<=(l.flatMap f).length
 | []=>Nat.zero_le _
 | x::r=>by
   have:=YG hf r; have:=hf x;rw [List.flatMap_cons,List.length_append,List.length_cons];omega
theorem YH:∀l:List Tx,l.length<=(gg (l.map λs=>[s])).length
 | []=>Nat.zero_le _
 | [x]=>Nat.le_refl _
 | x::y::r=>by
   have:=YH (y::r)
   show _<=([x]++[[44]]++gg ((y::r).map λs=>[s])).length
   simp only [List.length_append,List.length_cons,List.length_nil] at this ⊢;omega
theorem ajG {p:dh} {q:Tk} (h:X5 p):iS p.aL (TW (vG p)++q)=some (p,q):=by
 obtain ⟨nm,aL,params,ay,body⟩:=p;unfold iS vG;simp only [gK,List.append_assoc];rw [show ∀r,TW [nm,[40]]++r=bl nm::(TW [[40]]++r) from λr=>rfl,ql h.name];simp only [Option.bind_some];rw [show ∀r,au [40] (TW [[40]]++r)=some r from λr=>rfl];simp only [Option.bind_some]
 have hp:=YD (q:=TW (ay.flatMap sd)++(TW (lv body)++q)) params h.params ((TW (gg (params.map λs=>[s]))++(TW [[41]]++(TW (ay.flatMap sd)++(TW (lv body)++q)))).length+1) true (by
   have:=YH params;simp only [List.length_append,TW,List.length_map] at this ⊢
   omega)
 simp only [true_or,if_true,Fy,List.nil_append] at hp;rw [hp];simp only [Option.bind_some]
 rw [YE (by rfl) ay h.ay _ (by
   have:=YG (f:=sd) (λx=>by simp [sd]) ay;simp only [List.length_append,TW,List.length_map]
   omega)]
 simp only [Option.bind_some];rw [P5 6 1 rfl body h.body q]
 rfl
theorem YI {Z:Tk} (hZ:au qh (dt Z).2=none):∀(ds:List dh),(∀d ∈ ds,(o1 d).aT=0)->∀n,ds.length<n->
   ly n (dt (TW (ds.flatMap iR)++Z)).1 (dt (TW (ds.flatMap iR)++Z)).2=some ((ds,(dt Z).1),(dt Z).2)
 | [],_,n,hn=>by
   obtain ⟨n,rfl⟩:∃m,n=m+1:=⟨n-1,by simp at hn; omega⟩
   show ly (n+1) (dt Z).1 (dt Z).2=_
   unfold ly;rw [hZ]
 | d::r,h,n,hn=>by
   obtain ⟨n,rfl⟩:∃m,n=m+1:=⟨n-1,by simp at hn; omega⟩;have hd:=PJ (h d (by simp));have ih:=YI hZ r (λx hx=>h x (List.mem_cons_of_mem _ hx)) n (by simp at hn; omega)
   have e:TW ((d::r).flatMap iR)++Z=TW (xY d.aL)++(bl qh::(TW (vG d)++(TW (r.flatMap iR)++Z))):=by
     rw [List.flatMap_cons,iR,vG];simp only [gK,List.append_assoc]
     rfl
   rw [e,P6 (by rfl)];simp only [];unfold ly;rw [show ∀r,au qh (bl qh::r)=some r from λr=>rfl];simp only [];rw [ajG hd];simp only [Option.bind_some];rw [ih]
   rfl
theorem JV {α:Type} {f:α->List Tx} (hf:∀x,1<=(f x).length):∀l:List α,l.length<=(l.flatMap f).length
 | []=>Nat.zero_le _
 | x::r=>by
   have:=JV hf r; have:=hf x;rw [List.flatMap_cons,List.length_append,List.length_cons];omega
theorem ajH {ps:List dh} {Z:Tk} (hZ:∃r,Z=bl gJ::r):∃r,(dt (TW (ps.flatMap iR)++Z)).2=bl qh::r\/(dt (TW (ps.flatMap iR)++Z)).2=bl gJ::r:=by
 obtain ⟨r,rfl⟩:=hZ
 cases ps with
 | nil=>exact ⟨r,.inr rfl⟩
 | cons d t=>
   have e:TW ((d::t).flatMap iR)++(bl gJ::r)=TW (xY d.aL)++(bl qh::(TW (vG d)++(TW (t.flatMap iR)++(bl gJ::r)))):=by
     rw [List.flatMap_cons,iR,vG];simp only [gK,List.append_assoc]
     rfl
   rw [e,P6 (by rfl)];exact ⟨_,.inl O⟩
theorem YJ (l:Tk):l.length<=(dt l).2.length+1:=by
 unfold dt
 cases l with
 | nil=>simp
 | cons t r=>
   simp only [au]
   split
   · simp
   · simp
theorem ajI {m:aD} (h:(rC m).aT=0):lz (TW (pg m))=some (m,[]):=by
 have ho:=PK h;obtain ⟨nm,ag,decls,procs,main⟩:=m;have ajJ:∀q,eP 6 (TW (lv main)++q)=some (main,q):=P5 6 1 rfl main ho.main;unfold pg;simp only [gK,List.append_assoc];have hM:(∃r,(TW [gJ]++(TW (lv main)++TW [[125]]))=bl gJ::r):=⟨_,rfl⟩
 generalize hZ:TW [gJ]++(TW (lv main)++TW [[125]])=Z at hM
 obtain ⟨rp,hp⟩:=ajH (ps:=procs) hM
 show lz (bl vF::bl nm::bl [123]::(TW (ag.flatMap zI)++(TW (decls.flatMap mG)++(TW (procs.flatMap iR)++Z))))=_
 have hu:au qg (TW (decls.flatMap mG)++(TW (procs.flatMap iR)++Z))=none:=by
   cases decls with
   | cons d t=>
     have hd:=Fv (ho.decls d (by simp));rw [List.flatMap_cons,mG,gK,gK,gK]
     cases d.aL with
     | true=>rfl
     | false=>
       show au qg (TW (tO d)++TW [[59]]++TW (t.flatMap mG)++_)=none
       unfold tO
       rcases hd.kind with e | e | e
       · rw [if_pos e]; rfl
       · rw [if_neg (by omega),if_pos e]; rfl
       · rw [if_neg (by omega),if_neg (by omega),if_pos e]; rfl
   | nil=>
     cases procs with
     | cons p t=>
       rw [List.flatMap_nil,Fy,List.nil_append,List.flatMap_cons,iR];simp only [gK,List.append_assoc]
       cases p.aL<;>rfl
     | nil=>obtain ⟨r,rfl⟩:=hM; rfl
 have hd:∀aL,ef aL (dt (TW (procs.flatMap iR)++Z)).2=some (none,(dt (TW (procs.flatMap iR)++Z)).2):=by
   intro aL
   rcases hp with e | e<;>rw [e]<;>rfl
 have hpr:au qh (dt Z).2=none:=by
   obtain ⟨r,rfl⟩:=hM
   rfl
 unfold lz;rw [show ∀r,au vF (bl vF::r)=some r from λr=>rfl];simp only [Option.bind_some];rw [ql ho.name];simp only [Option.bind_some];rw [show ∀r,au [123] (bl [123]::r)=some r from λr=>rfl];simp only [Option.bind_some]
 rw [YF hu ag ho.ag _ (by
   have:=JV (f:=zI) (λx=>by simp [zI]) ag;simp only [List.length_append,TW,List.length_map]
   omega)]
 simp only [Option.bind_some]
 have FA:decls.length<(dt (TW (decls.flatMap mG)++(TW (procs.flatMap iR)++Z))).2.length+1:=by
   have h1:=YJ (TW (decls.flatMap mG)++(TW (procs.flatMap iR)++Z));have h2:=JV (f:=mG) (λx=>by simp [mG]; omega) decls;obtain ⟨r,hr⟩:=hM;rw [hr] at h1 ⊢;simp only [List.length_append,TW,List.length_map,List.length_cons] at h1 h2 ⊢;omega
 rw [YC hd decls ho.decls _ FA];simp only [Option.bind_some]
 have iT:procs.length<(dt (TW (procs.flatMap iR)++Z)).2.length+1:=by
   have h1:=YJ (TW (procs.flatMap iR)++Z);have h2:=JV (f:=iR) (λx=>by simp [iR]; omega) procs;obtain ⟨r,hr⟩:=hM;rw [hr] at h1 ⊢;simp only [List.length_append,TW,List.length_map,List.length_cons] at h1 h2 ⊢;omega
 rw [YI hpr procs ho.procs _ iT];simp only [Option.bind_some];subst hZ
 show (if (dt (bl gJ::(TW (lv main)++TW [[125]]))).1=true then none else _)=_
 rw [show ∀r,dt (bl gJ::r)=(false,bl gJ::r) from λr=>rfl];simp only [Bool.false_eq_true,if_false]
 show (au gJ (dt (bl gJ::(TW (lv main)++TW [[125]]))).2).bind _=_
 rw [show ∀r,dt (bl gJ::r)=(false,bl gJ::r) from λr=>rfl];simp only [];rw [show ∀r,au gJ (bl gJ::r)=some r from λr=>rfl];simp only [Option.bind_some];rw [ajJ]
 rfl
end Go.Bw
end
section
namespace Go.Bw
open Go
theorem YK {s:Tx} {l r:Tk} (hl:gy l) (h:au s l=some r):gy r:=by
 cases l with
 | nil=>cases h
 | cons t q=>
   simp only [au] at h
   split at h
   · injection h with h; subst h; exact λx hx=>hl x (List.mem_cons_of_mem _ hx)
   · cases h
theorem ajL {pb:Tk->Option (List aH×Tk)} (hs:PO pb) {l r:Tk} {x:aH} (hl:gy l) (h:dC pb l=some (x,r)):r.length<l.length:=by
 have e:=(PQ hs hl h).2;have de:=XY x;rw [e]
 cases hw:l7 x with
 | nil=>exact absurd hw de
 | cons w ws=>simp; omega
def tY:aD:=⟨[],[],[],[],[]⟩
def bm (s:Tx):aD×Int:=if (ec s).2≠0 then (tY,(ec s).2) else match lz (ec s).1 with
 | some (m,[])=>if fG m=0 then (m,0) else (tY,1)
 | _=>(tY,1)
theorem ajM {s:Tx} (h:(ec s).2=0):gy (ec s).1:=(VB (VC h)).1
theorem ajN {m:aD} (h:(rC m).aT=0):gy (TW (pg m)):=by
 intro t ht;obtain ⟨w,hw,rfl⟩:=List.mem_map.1 ht;exact (X7 h w hw).1
theorem YL {m:aD}:fG m=0↔(rC m).aT=0:=ai_
theorem ajO {m:aD} (h:fG m=0) (hl:(J (pg m)).length<=4096):bm (J (pg m))=(m,0):=by
 have ht:=YL.1 h;have hj:=aja (X7 ht)
 have ajP:ec (J (pg m))=(TW (pg m),0):=by
   unfold ec;rw [if_neg (by omega),<-hj,show ff (vk (List.map bl (pg m)))=some (TW (pg m)) from VE (TW (pg m)) (ajN ht)]
 unfold bm;rw [ajP];simp only [ne_eq,not_true_eq_false,if_false];rw [ajI ht];simp only;rw [if_pos h]
end Go.Bw
end
section
namespace Go.Bw
open Go
mutual
theorem ajQ (σ:cR):∀x:az,dm (n_ σ x)<=wE x
 | .mk op n mod nm args=>by
   have h:=P7 σ args;simp only [n_,dm,wE]; omega
theorem P7 (σ:cR):∀l:List az,fw (oc σ l)<=dH l
 | []=>Nat.le_refl _
 | x::r=>by
   have h1:=ajQ σ x;have h2:=P7 σ r;simp only [oc,fw,dH]; omega
end
mutual
theorem ajR (σ:cR):∀x:aH,o6 (oe σ x)<=wS x
 | .mk op mod nm args body other=>by
   have h:=P7 σ args;have h2:=FB σ body;have h3:=FB σ other;simp only [oe,o6,wS]; omega
theorem FB (σ:cR):∀l:List aH,dP (jX σ l)<=cP l
 | []=>Nat.le_refl _
 | x::r=>by
   have h1:=ajR σ x;have h2:=FB σ r;simp only [jX,dP,cP]; omega
end
theorem YM (m:aD) (fs:List (List UInt8×List aN)):∀l:List dh,kV (l.map (zz m fs))<=wP l
 | []=>Nat.le_refl _
 | p::r=>by
   have h1:=YM m fs r;have h2:=FB (gG m fs (p.params++p.ay)) p.body;simp only [List.map_cons,kV,B_,wP,zz]; omega
theorem YN {m:aD} {fs:List (List UInt8×List aN)}:vv (bJ m fs).1<=wM m:=by
 have h0:vv jD<=wM m:=by
   show 1<=_
   unfold wM; omega
 unfold bJ
 split
 · exact h0
 · split
   · exact h0
   · split
     · exact h0
     · split
       · exact h0
       · have h1:=YM m fs m.procs
         have h2:=FB (gG m fs []) m.main
         show vv (xK m fs)<=wM m
         simp only [vv,xK,wM]; omega
abbrev kD:=List UInt8×List aN
def ic:List (List UInt8×kD)->List UInt8->kD
 | [],_=>([],[])
 | (k,f)::r,s=>if k=s then f else ic r s
def fy (M:List (List UInt8×kD)) (m:aD):b_×Int:=
 if (cG m).2≠0 then (jD,(cG m).2) else bJ m (m.ag.map (ic M))
def iD:List aD->List (List UInt8×kD)->List b_×Int
 | [],_=>([],0)
 | m::r,M=>if (fy M m).2≠0 then ([],(fy M m).2) else
   if (iD r ((m.nm,(cG m).1)::M)).2≠0 then ([],(iD r ((m.nm,(cG m).1)::M)).2) else ((fy M m).1::(iD r ((m.nm,(cG m).1)::M)).1,0)
theorem ajS {m:aD} {r:List aD} {M:List (List UInt8×kD)} (h:¬(fy M m).2=0):iD (m::r) M=([],(fy M m).2):=by rw [iD,if_pos h]
theorem YO:∀(l:List aD) (M:List (List UInt8×kD)),(iD l M).1.length<=l.length
 | [],_=>Nat.le_refl _
 | m::r,M=>by
   have:=YO r ((m.nm,(cG m).1)::M);rw [iD]
   split
   · simp
   · split
     · simp
     · simp; omega
theorem YP {b:Nat}:∀(l:List aD) (M:List (List UInt8×kD)),(∀m ∈ l,wM m<=b)->∀u ∈ (iD l M).1,vv u<=b
 | [],_,_,u,hu=>by simp [iD] at hu
 | m::r,M,h,u,hu=>by
   rw [iD] at hu
   split at hu
   · simp at hu
   · rename_i h1
     split at hu
     · simp at hu
     · rcases List.mem_cons.1 hu with e | hu
       · subst e
         unfold fy at h1 ⊢
         split
         · rename_i h2; rw [if_pos h2] at h1; exact absurd h2 h1
         · exact Nat.le_trans YN (h m (by simp))
       · exact YP r _ (λx hx=>h x (by simp [hx])) u hu
def vJ (us:List b_) (q:List b_×Int):List b_×Int:=if q.2≠0 then ([],q.2) else (us++q.1,0)
theorem YQ (l:List aD) (M:List (List UInt8×kD)):iD l M=vJ [] (iD l M):=by
 cases l with
 | nil=>rfl
 | cons m r=>
   rw [iD];unfold vJ
   by_cases h:(fy M m).2≠0
   · rw [if_pos h,if_pos h]
   · rw [if_neg h]
     by_cases h2:(iD r ((m.nm,(cG m).1)::M)).2≠0
     · rw [if_pos h2,if_pos h2]
     · rw [if_neg h2]; simp
theorem YR {us:List b_} {m:aD} {r:List aD} {M:List (List UInt8×kD)} (h:¬(fy M m).2=0):vJ us (iD (m::r) M)=([],(fy M m).2):=by
 rw [ajS h,vJ,if_pos h]
theorem P8 {us:List b_} {m:aD} {r:List aD} {M:List (List UInt8×kD)} (h:(fy M m).2=0):vJ us (iD (m::r) M)=vJ (us++[(fy M m).1]) (iD r ((m.nm,(cG m).1)::M)):=by
 rw [iD,if_neg (by rw [h]; simp)];unfold vJ
 by_cases h2:(iD r ((m.nm,(cG m).1)::M)).2≠0
 · rw [if_pos h2,if_pos h2,if_pos h2]
 · rw [if_neg h2,if_neg h2,if_neg (by simp)]; simp
theorem YS {M:List (List UInt8×kD)} {m:aD} (h:¬(cG m).2=0):fy M m=(jD,(cG m).2):=by rw [fy,if_pos h]
theorem YT {M:List (List UInt8×kD)} {m:aD} (h:(cG m).2=0):fy M m=bJ m (m.ag.map (ic M)):=by rw [fy,if_neg (by rw [h]; simp)]
theorem JW {α:Type} {f:α->Int}:∀{l:List α} {i:Nat} {x:α},(∀s ∈ l.take i,f s=0)->l[i]? = some x->¬f x=0->fI f l=f x
 | [],i,x,_,h,_=>by simp at h
 | y::l,0,x,_,h,h1=>by
   rw [List.getElem?_cons_zero] at h
   injection h with h
   subst h;rw [fI,er,if_neg h1]
 | y::l,i+1,x,h0,h,h1=>by
   rw [List.getElem?_cons_succ] at h;rw [fI,er,if_pos (h0 y (by simp))];exact JW (λs hs=>h0 s (by simp [hs])) h h1
abbrev Cz:=List UInt8
def ajT (l:List Cz):Int:=fI (λs=>(bm s).2) l
def e8 (l:List Cz):List aD:=l.map λs=>(bm s).1
def oB (ms:List aD) (d:List Nat):List aD:=d.filterMap λi=>ms[i]?
def nE (l:List Cz):Int:=if l.length<1\/4<l.length then 2 else ajT l
def pj (l:List Cz) (q:List Nat×Int):List b_×Int:=if q.2≠0 then ([],q.2) else iD (oB (e8 l) q.1) []
def JX (l:List b_):Int:=fI (λu=>(fJ u).2) l
def jr (r:List b_×Int):(List aU×Int)×Int:=if r.2≠0 then (([],0),r.2) else if JX r.1≠0 then (([],0),JX r.1) else qf (r.1.map λu=>(fJ u).1.to)
theorem FC {l:List Cz} (h:nE l=0):(1<=l.length/\l.length<=4)/\∀s ∈ l,(bm s).2=0:=by
 unfold nE at h
 split at h
 · cases h
 · exact ⟨by omega,p6.1 h⟩
theorem JY {l:List Cz} (h1:1<=l.length/\l.length<=4) (h2:∀s ∈ l,(bm s).2=0):nE l=0:=by
 rw [nE,if_neg (by omega)];exact p6.2 h2
theorem YU {l l':List aD} {f:Nat->Nat} (h:Ren l l' f):∀(d:List Nat),(∀i ∈ d,i<l.length)->oB l' (d.map f)=oB l d
 | [],_=>rfl
 | i::d,hd=>by
   have ih:=YU h d λj hj=>hd j (by simp [hj]);unfold oB at ih ⊢;rw [List.map_cons,List.filterMap_cons,List.filterMap_cons,h.get i (hd i (by simp)),ih]
theorem ajU {l:List aD} {d:List Nat} {k i:Nat} {m:aD} (h:d[k]? = some i) (hm:l[i]? = some m):oB l (d.drop k)=m::oB l (d.drop (k+1)):=by
 have av:=(List.getElem?_eq_some_iff.1 h).1;unfold oB;rw [List.drop_eq_getElem_cons av,List.filterMap_cons]
 have:d[k]=i:=by rw [List.getElem?_eq_getElem av] at h; injection h
 rw [this,hm]
section
variable {P:Program} {Q:Exit->Act->World->Prop} {n:Nat} {ds:List Deferred} {l:List (Nat×Value)} {W:World->Prop}
theorem WC.scope {c:Code} (h:WC P c (Exit.noGoto Q) n ds l W):WC P (.scope c) Q n ds l W:=λa w ha hw=>wp_scope_straight (h a w ha hw)
theorem WC.label {i:Nat} (h:WE Q .normal n ds l W):WC P (.label i) Q n ds l W:=λa w ha hw=>wp_label (h a w ha hw)
theorem WE.P9 (h:WE Q .ret n ds l W):WE (Exit.noGoto Q) .ret n ds l W:=h
end
section
variable {P:Program} {l:List (Nat×Value)} {W:World->Prop} {ty:TypeId} {pos:String} {af:Array Edge} {g:Option (Nat×Bool)} {d:Option Tmp}
theorem ajV {t u:TypeId} {x y:Operand} {a b:List UInt8} (hx:aB l x=some (st a)) (hy:aB l y=some (st b)):Yl P l W ⟨d,.binOp .lss t x y u,ty,pos,af,g⟩ (.bool (Op.bytesLess a b)):=
 λρ w aC _=>by simp [execOp,aC x _ hx,aC y _ hy,st,eqGuard,binOp,Op.stringOp]
theorem ajW {t u:TypeId} {x y:Operand} {a b:List UInt8} (hx:aB l x=some (st a)) (hy:aB l y=some (st b)):Yl P l W ⟨d,.binOp .gtr t x y u,ty,pos,af,g⟩ (.bool (!(Op.bytesLess a b||a==b))):=
 λρ w aC _=>by simp [execOp,aC x _ hx,aC y _ hy,st,eqGuard,binOp,Op.stringOp]
end
section
variable {P:Program} {ops:Array Oper} {cd:Code} {Q:Exit->Act->World->Prop} {n:Nat} {ds:List Deferred} {l:List (Nat×Value)} {w0:World} {F:List Nat} {L:List ao} {Vs:List View} {rest:List Oper}
theorem WL.JZ {b:Nat} {ob:Obj} (i:Nat) (hL:L[i]? = some (ah b ob)) (h:∀H:View,H b=some ob->WL P ops Q n ds l (Ws w0 F (df i L) (H::Vs)) rest):WL P ops Q n ds l (Ws w0 F L Vs) rest:=
 WL.mu i hL (h _ (by simp [bv]))
theorem WC.JZ {b:Nat} {ob:Obj} (i:Nat) (hL:L[i]? = some (ah b ob)) (h:∀H:View,H b=some ob->WC P cd Q n ds l (Ws w0 F (df i L) (H::Vs))):WC P cd Q n ds l (Ws w0 F L Vs):=
 λa w ha hw=>h _ (by simp [bv]) a w ha (hw.mu i hL)
end
end Go.Bw
end
section
namespace Go.Bw
open Go
theorem dD {s:Tx} {l q:Tk} (h:au s l=some q):l.length=q.length+1:=by
 cases l with
 | nil=>cases h
 | cons t r=>
   simp only [au] at h
   split at h
   · injection h with h; subst h; rfl
   · cases h
theorem YW {k:Int} {l q:Tk} {t:Tok} (h:kW k l=some (t,q)):l.length=q.length+1:=by
 cases l with
 | nil=>cases h
 | cons t r=>
   simp only [kW] at h
   split at h
   · injection h with h; injection h with h1 h2; subst h2; rfl
   · cases h
theorem tZ {l r:Tk} {a:Tx} (h:cN l=some (a,r)):a.length<=8/\l.length=r.length+1:=by
 unfold cN at h;obtain ⟨⟨t,q⟩,h1,h2⟩:=Option.bind_eq_some_iff.1 h;simp only at h2
 split at h2
 · rename_i hn
   simp only [Option.some.injEq,Prod.mk.injEq] at h2;obtain ⟨rfl,rfl⟩:=h2;refine ⟨?_,YW h1⟩;simp only [dL,dB,Bool.and_eq_true,decide_eq_true_eq] at hn;exact hn.1.1.1.2
 · cases h2
theorem YX {l r:Tk} {a:Int} (h:jZ l=some (a,r)):l.length=r.length+1:=by
 unfold jZ at h;obtain ⟨⟨t,q⟩,h1,h2⟩:=Option.map_eq_some_iff.1 h;simp only [Prod.mk.injEq] at h2;obtain ⟨_,rfl⟩:=h2;exact YW h1
theorem YY {l r:Tk} {p:Tx×Tx} (h:jo l=some (p,r)):p.1.length+p.2.length<=16/\r.length+1<=l.length:=by
 unfold jo at h;obtain ⟨⟨a,q⟩,h1,h2⟩:=Option.bind_eq_some_iff.1 h;obtain ⟨w1,w2⟩:=tZ h1;simp only at h2
 split at h2
 · rename_i q2 hd
   obtain ⟨⟨b,q3⟩,h3,h4⟩:=Option.map_eq_some_iff.1 h2;simp only [Prod.mk.injEq] at h4;obtain ⟨rfl,rfl⟩:=h4;obtain ⟨w3,w4⟩:=tZ h3;have:=dD hd;simp only;omega
 · simp only [Option.some.injEq,Prod.mk.injEq] at h2
   obtain ⟨rfl,rfl⟩:=h2;simp only [List.length_nil];omega
def WB (pe:Tk->Option (az×Tk)):Prop:=∀l x r,pe l=some (x,r)->wE x+18*r.length<=18*l.length
theorem YZ {pe:Tk->Option (az×Tk)} (hp:WB pe):∀(n:Nat) (l:Tk) (xs:List az) (r:Tk),kB pe n l=some (xs,r)->dH xs+18*r.length<=18*l.length
 | 0,_,_,_,h=>by cases h
 | n+1,l,xs,r,h=>by
   unfold kB at h;obtain ⟨⟨x,q⟩,h1,h2⟩:=Option.bind_eq_some_iff.1 h;have w1:=hp l x q h1;simp only at h2
   split at h2
   · rename_i q2 hd
     simp only [Option.some.injEq,Prod.mk.injEq] at h2;obtain ⟨rfl,rfl⟩:=h2;have:=dD hd;simp only [dH];omega
   · split at h2
     · rename_i q2 hd
       obtain ⟨⟨ys,q3⟩,h3,h4⟩:=Option.map_eq_some_iff.1 h2;simp only [Prod.mk.injEq] at h4;obtain ⟨rfl,rfl⟩:=h4;have:=dD hd;have:=YZ hp n q2 ys q3 h3;simp only [dH];omega
     · cases h2
theorem Y0 {pe:Tk->Option (az×Tk)} (hp:WB pe) {l r:Tk} {xs:List az} (h:j0 pe l=some (xs,r)):dH xs+18*r.length<=18*l.length:=by
 unfold j0 at h
 split at h
 · rename_i q hd
   simp only [Option.some.injEq,Prod.mk.injEq] at h;obtain ⟨rfl,rfl⟩:=h;have:=dD hd;simp only [dH];omega
 · exact YZ hp _ _ _ _ h
theorem Y1:∀(ws:List Tx) (i k:Nat) (l r:Tk),nD ws i l=some (k,r)->r.length+1<=l.length
 | [],_,_,_,_,h=>by cases h
 | w::ws,i,k,l,r,h=>by
   unfold nD at h
   split at h
   · rename_i q hd
     simp only [Option.some.injEq,Prod.mk.injEq] at h;obtain ⟨_,rfl⟩:=h;have:=dD hd;omega
   · exact Y1 ws _ _ _ _ h
theorem ajX {pe:Tk->Option (az×Tk)} (hp:WB pe) {l r:Tk} {x:az} (h:l8 pe l=some (x,r)):wE x+18*r.length<=18*l.length:=by
 unfold l8 at h;obtain ⟨⟨a,q1⟩,h1,h2⟩:=Option.bind_eq_some_iff.1 h;obtain ⟨⟨o,q2⟩,h3,h4⟩:=Option.bind_eq_some_iff.1 h2;obtain ⟨⟨b,q3⟩,h5,h6⟩:=Option.bind_eq_some_iff.1 h4;obtain ⟨q4,h7,h8⟩:=Option.map_eq_some_iff.1 h6;simp only [Prod.mk.injEq] at h8;obtain ⟨rfl,rfl⟩:=h8;have w1:=hp _ _ _ h1;have w2:=Y1 _ _ _ _ _ h3;have w3:=hp _ _ _ h5;have w4:=dD h7;simp only [wE,dH,List.length_nil] at *;omega
theorem ajY {pe:Tk->Option (az×Tk)} (hp:WB pe) {l r:Tk} {mod nm:Tx} {x:az} (hl:mod.length+nm.length<=16) (h:mH pe mod nm l=some (x,r)):wE x+18*r.length<=17+18*l.length:=by
 unfold mH at h
 split at h
 · rename_i q hd
   obtain ⟨⟨y,q1⟩,h1,h2⟩:=Option.bind_eq_some_iff.1 h;obtain ⟨q2,h3,h4⟩:=Option.map_eq_some_iff.1 h2;simp only [Prod.mk.injEq] at h4;obtain ⟨rfl,rfl⟩:=h4;have w1:=dD hd;have w2:=hp _ _ _ h1;have w3:=dD h3;simp only [wE,dH] at *;omega
 · split at h
   · rename_i q hd
     obtain ⟨⟨xs,q1⟩,h1,h2⟩:=Option.map_eq_some_iff.1 h;simp only [Prod.mk.injEq] at h2;obtain ⟨rfl,rfl⟩:=h2;have w1:=dD hd;have w2:=Y0 hp h1;simp only [wE] at *;omega
   · simp only [Option.some.injEq,Prod.mk.injEq] at h
     obtain ⟨rfl,rfl⟩:=h;simp only [wE,dH] at *;omega
theorem ajZ {pe:Tk->Option (az×Tk)} (hp:WB pe):WB (kC pe):=by
 intro l x r h;unfold kC at h
 split at h
 · rename_i q hd
   simp only [Option.some.injEq,Prod.mk.injEq] at h;obtain ⟨rfl,rfl⟩:=h;have:=dD hd;simp only [wE,dH,List.length_nil];omega
 · split at h
   · rename_i q hd
     obtain ⟨⟨y,q1⟩,h1,h2⟩:=Option.map_eq_some_iff.1 h;simp only [Prod.mk.injEq] at h2;obtain ⟨rfl,rfl⟩:=h2;have w1:=dD hd;have w2:=hp _ _ _ h1;simp only [wE,dH,List.length_nil];omega
   · split at h
     · rename_i q hd
       have w1:=dD hd;have w2:=ajX hp h;omega
     · obtain ⟨⟨p,q⟩,h1,h2⟩:=Option.bind_eq_some_iff.1 h
       obtain ⟨w1,w2⟩:=YY h1;have w3:=ajY hp w1 h2;simp only at w3;omega
theorem P':∀f,WB (bI f)
 | 0=>λ_ _ _ h=>by cases h
 | f+1=>by
   intro l x r h
   cases l with
   | nil=>cases h
   | cons t q=>
     unfold bI at h
     by_cases hk:t.kind=2
     · simp only [if_pos hk,Option.some.injEq,Prod.mk.injEq] at h
       obtain ⟨rfl,rfl⟩:=h;simp only [wE,dH,List.length_nil,List.length_cons];omega
     · simp only [if_neg hk] at h
       exact ajZ (P' f) _ _ _ h
theorem aj0 {l r:Tk} {s:aH} (h:dV l=some (s,r)):wS s+18*r.length<=18*l.length:=by
 have hp:=P' 6;unfold dV at h
 split at h
 · rename_i q hd
   obtain ⟨⟨x,q1⟩,h2,h3⟩:=Option.map_eq_some_iff.1 h;simp only [Prod.mk.injEq] at h3;obtain ⟨rfl,rfl⟩:=h3;have w1:=dD hd;have w2:=hp _ _ _ h2;simp only [wS,dH,cP,List.length_nil];omega
 · split at h
   · rename_i q hd
     obtain ⟨⟨x,q1⟩,h2,h3⟩:=Option.map_eq_some_iff.1 h;simp only [Prod.mk.injEq] at h3;obtain ⟨rfl,rfl⟩:=h3;have w1:=dD hd;have w2:=hp _ _ _ h2;simp only [wS,dH,cP,List.length_nil];omega
   · obtain ⟨⟨⟨mod,nm⟩,q⟩,h3,h4⟩:=Option.bind_eq_some_iff.1 h
     obtain ⟨w0,w1⟩:=YY h3;simp only at h4 w0
     split at h4
     · rename_i q1 hd
       obtain ⟨⟨xs,q2⟩,h6,h7⟩:=Option.map_eq_some_iff.1 h4;simp only [Prod.mk.injEq] at h7;obtain ⟨rfl,rfl⟩:=h7;have w2:=dD hd;have w3:=Y0 hp h6;simp only [wS,cP];omega
     · split at h4
       · rename_i q1 hd
         obtain ⟨⟨i,q2⟩,h7,h8⟩:=Option.bind_eq_some_iff.1 h4;obtain ⟨q3,h9,gF⟩:=Option.bind_eq_some_iff.1 h8;obtain ⟨q4,qa,qj⟩:=Option.bind_eq_some_iff.1 gF;obtain ⟨⟨x,q5⟩,jq,ph⟩:=Option.map_eq_some_iff.1 qj;simp only [Prod.mk.injEq] at ph;obtain ⟨rfl,rfl⟩:=ph;have w2:=dD hd;have w3:=hp _ _ _ h7;have w4:=dD h9;have w5:=dD qa;have w6:=hp _ _ _ jq;simp only [wS,dH,cP] at *;omega
       · obtain ⟨q1,h7,h8⟩:=Option.bind_eq_some_iff.1 h4
         obtain ⟨⟨x,q2⟩,h9,gF⟩:=Option.map_eq_some_iff.1 h8;simp only [Prod.mk.injEq] at gF;obtain ⟨rfl,rfl⟩:=gF;have w2:=dD h7;have w3:=hp _ _ _ h9;simp only [wS,dH,cP];omega
def Y2 (pb:Tk->Option (List aH×Tk)):Prop:=∀l x r,pb l=some (x,r)->cP x+18*r.length<=18*l.length
theorem aj1 {pb:Tk->Option (List aH×Tk)} (hb:Y2 pb) {l r:Tk} {s:aH} (h:dC pb l=some (s,r)):wS s+18*r.length<=18*l.length:=by
 have hp:=P' 6;unfold dC at h
 split at h
 · rename_i q hd
   obtain ⟨⟨x,q1⟩,h2,h3⟩:=Option.bind_eq_some_iff.1 h;obtain ⟨⟨b,q2⟩,h4,h5⟩:=Option.bind_eq_some_iff.1 h3;have w1:=dD hd;have w2:=hp _ _ _ h2;have w3:=hb _ _ _ h4;simp only at h5 w2 w3
   split at h5
   · rename_i q3 hd2
     obtain ⟨⟨o,q4⟩,h7,h8⟩:=Option.bind_eq_some_iff.1 h5;have w4:=dD hd2;have w5:=hb _ _ _ h7;simp only at h8
     split at h8
     · cases h8
     · simp only [Option.some.injEq,Prod.mk.injEq] at h8
       obtain ⟨rfl,rfl⟩:=h8;simp only [wS,dH,List.length_nil] at *;omega
   · simp only [Option.some.injEq,Prod.mk.injEq] at h5
     obtain ⟨rfl,rfl⟩:=h5;simp only [wS,dH,cP,List.length_nil] at *;omega
 · split at h
   · rename_i q hd
     obtain ⟨⟨x,q1⟩,h2,h3⟩:=Option.bind_eq_some_iff.1 h;obtain ⟨⟨b,q2⟩,h4,h5⟩:=Option.map_eq_some_iff.1 h3;simp only [Prod.mk.injEq] at h5;obtain ⟨rfl,rfl⟩:=h5;have w1:=dD hd;have w2:=hp _ _ _ h2;have w3:=hb _ _ _ h4;simp only [wS,dH,cP,List.length_nil] at *;omega
   · obtain ⟨⟨s',q⟩,h3,h4⟩:=Option.bind_eq_some_iff.1 h
     obtain ⟨q1,h5,h6⟩:=Option.map_eq_some_iff.1 h4;simp only [Prod.mk.injEq] at h6;obtain ⟨rfl,rfl⟩:=h6;have w1:=aj0 h3;have w2:=dD h5;simp only at *;omega
theorem Y3 {ps:Tk->Option (aH×Tk)} (hp:∀l x r,ps l=some (x,r)->wS x+18*r.length<=18*l.length):∀(n:Nat) (l:Tk) (xs:List aH) (r:Tk),mI ps n l=some (xs,r)->cP xs+18*r.length<=18*l.length
 | 0,_,_,_,h=>by cases h
 | n+1,l,xs,r,h=>by
   unfold mI at h
   split at h
   · rename_i q hd
     simp only [Option.some.injEq,Prod.mk.injEq] at h;obtain ⟨rfl,rfl⟩:=h;have:=dD hd;simp only [cP];omega
   · obtain ⟨⟨s,q⟩,h1,h2⟩:=Option.bind_eq_some_iff.1 h
     obtain ⟨⟨ys,q1⟩,h3,h4⟩:=Option.map_eq_some_iff.1 h2;simp only [Prod.mk.injEq] at h4;obtain ⟨rfl,rfl⟩:=h4;have w1:=hp _ _ _ h1;have w2:=Y3 hp n q ys q1 h3;simp only [cP];omega
theorem P_:∀f,Y2 (eP f)
 | 0=>λ_ _ _ h=>by cases h
 | f+1=>by
   intro l x r h;unfold eP at h;obtain ⟨q,h1,h2⟩:=Option.bind_eq_some_iff.1 h;have w1:=dD h1;have w2:=Y3 (λl x r hh=>aj1 (P_ f) hh) _ _ _ _ h2;omega
theorem Qa (l:Tk):(dt l).2.length<=l.length:=by
 unfold dt
 cases h:au zG l with
 | none=>exact Nat.le_refl _
 | some q=>have:=dD h; simp only [Option.getD_some]; omega
theorem aj3 {aL:Bool} {l r:Tk} {d:bM} (h:ef aL l=some (some d,r)):1+d.nm.length+18*r.length<=18*l.length:=by
 unfold ef at h
 split at h
 · rename_i q hd
   obtain ⟨⟨a,q1⟩,h2,h3⟩:=Option.bind_eq_some_iff.1 h;obtain ⟨q2,h4,h5⟩:=Option.bind_eq_some_iff.1 h3;obtain ⟨⟨n,q3⟩,h6,h7⟩:=Option.bind_eq_some_iff.1 h5;obtain ⟨q4,h8,h9⟩:=Option.map_eq_some_iff.1 h7;simp only [Prod.mk.injEq,Option.some.injEq] at h9;obtain ⟨rfl,rfl⟩:=h9;have w1:=dD hd;obtain ⟨w2,w3⟩:=tZ h2;have w4:=dD h4;have w5:=YX h6;have w6:=dD h8;simp only at *;omega
 · split at h
   · rename_i q hd
     obtain ⟨⟨a,q1⟩,h3,h4⟩:=Option.bind_eq_some_iff.1 h;obtain ⟨q2,h5,h6⟩:=Option.map_eq_some_iff.1 h4;simp only [Prod.mk.injEq,Option.some.injEq] at h6;obtain ⟨rfl,rfl⟩:=h6;have w1:=dD hd;obtain ⟨w2,w3⟩:=tZ h3;have w4:=dD h5;simp only at *;omega
   · split at h
     · rename_i q hd
       obtain ⟨⟨a,q1⟩,h4,h5⟩:=Option.bind_eq_some_iff.1 h;obtain ⟨q2,h6,h7⟩:=Option.bind_eq_some_iff.1 h5;obtain ⟨⟨n,q3⟩,h8,h9⟩:=Option.bind_eq_some_iff.1 h7;obtain ⟨q4,gF,qa⟩:=Option.bind_eq_some_iff.1 h9;obtain ⟨q5,qj,jq⟩:=Option.map_eq_some_iff.1 qa;simp only [Prod.mk.injEq,Option.some.injEq] at jq;obtain ⟨rfl,rfl⟩:=jq;have w1:=dD hd;obtain ⟨w2,w3⟩:=tZ h4;have w4:=dD h6;have w5:=YX h8;have w6:=dD gF;have w7:=dD qj;simp only at *;omega
     · simp at h
theorem Y4:∀(n:Nat) (aL:Bool) (l:Tk) (ds:List bM) (FD:Bool) (r:Tk),lx n aL l=some ((ds,FD),r)->wD ds+18*r.length<=18*l.length
 | 0,_,_,_,_,_,h=>by cases h
 | n+1,aL,l,ds,FD,r,h=>by
   unfold lx at h;obtain ⟨⟨o,q⟩,g1,h2⟩:=Option.bind_eq_some_iff.1 h
   cases o with
   | none=>
     have:=PR g1;simp only [Option.some.injEq,Prod.mk.injEq] at h2;obtain ⟨⟨h3,_⟩,h4⟩:=h2;rw [<-h3,<-h4,this];simp [wD]
   | some x=>
     obtain ⟨⟨⟨ys,pb⟩,q1⟩,g3,g4⟩:=Option.map_eq_some_iff.1 h2;simp only [Prod.mk.injEq] at g4;obtain ⟨⟨rfl,rfl⟩,rfl⟩:=g4;have w1:=aj3 g1;have w2:=Y4 n _ _ _ _ _ g3;have w3:=Qa q;simp only [wD] at *;omega
theorem Y5:∀(n:Nat) (first:Bool) (l:Tk) (xs:List Tx) (r:Tk),iC n first l=some (xs,r)->wN xs+18*r.length<=18*l.length
 | 0,_,_,_,_,h=>by cases h
 | n+1,first,l,xs,r,h=>by
   unfold iC at h
   split at h
   · rename_i q hd
     simp only [Option.some.injEq,Prod.mk.injEq] at h;obtain ⟨rfl,rfl⟩:=h;have:=dD hd;simp only [wN];omega
   · obtain ⟨l1,h1,h2⟩:=Option.bind_eq_some_iff.1 h
     obtain ⟨⟨a,q⟩,h3,h4⟩:=Option.bind_eq_some_iff.1 h2;obtain ⟨⟨ys,q1⟩,h5,h6⟩:=Option.map_eq_some_iff.1 h4;simp only [Prod.mk.injEq] at h6;obtain ⟨rfl,rfl⟩:=h6
     have w0:l1.length<=l.length:=by
       cases first with
       | true=>simp only [if_true,Option.some.injEq] at h1; subst h1; exact Nat.le_refl _
       | false=>have:=dD (s:=[44]) (l:=l) (q:=l1) h1; omega
     obtain ⟨w1,w2⟩:=tZ h3;have w3:=Y5 n false q ys q1 h5;simp only [wN] at *;omega
theorem Y6:∀(n:Nat) (l:Tk) (xs:List Tx) (r:Tk),jI n l=some (xs,r)->wN xs+18*r.length<=18*l.length
 | 0,_,_,_,h=>by cases h
 | n+1,l,xs,r,h=>by
   unfold jI at h
   split at h
   · rename_i q hd
     obtain ⟨⟨a,q1⟩,h1,h2⟩:=Option.bind_eq_some_iff.1 h;obtain ⟨q2,h3,h4⟩:=Option.bind_eq_some_iff.1 h2;obtain ⟨⟨ys,q3⟩,h5,h6⟩:=Option.map_eq_some_iff.1 h4;simp only [Prod.mk.injEq] at h6;obtain ⟨rfl,rfl⟩:=h6;have w0:=dD hd;obtain ⟨w1,w2⟩:=tZ h1;have w3:=dD h3;have w4:=Y6 n q2 ys q3 h5;simp only [wN] at *;omega
   · simp only [Option.some.injEq,Prod.mk.injEq] at h
     obtain ⟨rfl,rfl⟩:=h;simp [wN]
theorem Y7:∀(n:Nat) (l:Tk) (xs:List Tx) (r:Tk),j1 n l=some (xs,r)->wN xs+18*r.length<=18*l.length
 | 0,_,_,_,h=>by cases h
 | n+1,l,xs,r,h=>by
   unfold j1 at h
   split at h
   · rename_i q hd
     obtain ⟨⟨a,q1⟩,h1,h2⟩:=Option.bind_eq_some_iff.1 h;obtain ⟨q2,h3,h4⟩:=Option.bind_eq_some_iff.1 h2;obtain ⟨⟨ys,q3⟩,h5,h6⟩:=Option.map_eq_some_iff.1 h4;simp only [Prod.mk.injEq] at h6;obtain ⟨rfl,rfl⟩:=h6;have w0:=dD hd;obtain ⟨w1,w2⟩:=tZ h1;have w3:=dD h3;have w4:=Y7 n q2 ys q3 h5;simp only [wN] at *;omega
   · simp only [Option.some.injEq,Prod.mk.injEq] at h
     obtain ⟨rfl,rfl⟩:=h;simp [wN]
theorem aj4 {aL:Bool} {l r:Tk} {p:dh} (h:iS aL l=some (p,r)):p.nm.length+wN p.params+wN p.ay+cP p.body+18*r.length<=18*l.length:=by
 unfold iS at h;obtain ⟨⟨a,q1⟩,h1,h2⟩:=Option.bind_eq_some_iff.1 h;obtain ⟨q2,h3,h4⟩:=Option.bind_eq_some_iff.1 h2;obtain ⟨⟨ps,q3⟩,h5,h6⟩:=Option.bind_eq_some_iff.1 h4;obtain ⟨⟨ls,q4⟩,h7,h8⟩:=Option.bind_eq_some_iff.1 h6;obtain ⟨⟨b,q5⟩,h9,gF⟩:=Option.map_eq_some_iff.1 h8;simp only [Prod.mk.injEq] at gF;obtain ⟨rfl,rfl⟩:=gF;obtain ⟨w1,w2⟩:=tZ h1;have w3:=dD h3;have w4:=Y5 _ _ _ _ _ h5;have w5:=Y6 _ _ _ _ h7;have w6:=P_ 6 _ _ _ h9;simp only at *;omega
theorem Y8:∀(n:Nat) (aL:Bool) (l:Tk) (ds:List dh) (FD:Bool) (r:Tk),ly n aL l=some ((ds,FD),r)->wP ds+18*r.length<=18*l.length
 | 0,_,_,_,_,_,h=>by cases h
 | n+1,aL,l,ds,FD,r,h=>by
   unfold ly at h
   split at h
   · rename_i q hd
     obtain ⟨⟨p,q1⟩,g1,h2⟩:=Option.bind_eq_some_iff.1 h;obtain ⟨⟨⟨ys,pb⟩,q2⟩,g3,g4⟩:=Option.map_eq_some_iff.1 h2;simp only [Prod.mk.injEq] at g4;obtain ⟨⟨rfl,rfl⟩,rfl⟩:=g4;have w0:=dD hd;have w1:=aj4 g1;have w2:=Y8 n _ _ _ _ _ g3;have w3:=Qa q1;simp only [wP] at *;omega
   · simp only [Option.some.injEq,Prod.mk.injEq] at h
     obtain ⟨⟨rfl,rfl⟩,rfl⟩:=h;simp [wP]
theorem Y9 {l r:Tk} {m:aD} (h:lz l=some (m,r)):wM m+18*r.length<=18*l.length:=by
 unfold lz at h;obtain ⟨q1,h1,h⟩:=Option.bind_eq_some_iff.1 h;obtain ⟨⟨a,q2⟩,h2,h⟩:=Option.bind_eq_some_iff.1 h;obtain ⟨q3,h3,h⟩:=Option.bind_eq_some_iff.1 h;obtain ⟨⟨us,q4⟩,h4,h⟩:=Option.bind_eq_some_iff.1 h;obtain ⟨⟨⟨ds,ay4⟩,q5⟩,h5,h⟩:=Option.bind_eq_some_iff.1 h;obtain ⟨⟨⟨ps,ay5⟩,q6⟩,h6,h⟩:=Option.bind_eq_some_iff.1 h;simp only at h
 split at h
 · cases h
 · obtain ⟨q7,h7,h⟩:=Option.bind_eq_some_iff.1 h
   obtain ⟨⟨b,q8⟩,h8,h⟩:=Option.bind_eq_some_iff.1 h;obtain ⟨q9,h9,gF⟩:=Option.map_eq_some_iff.1 h;simp only [Prod.mk.injEq] at gF;obtain ⟨rfl,rfl⟩:=gF;have w1:=dD h1;obtain ⟨w2,w3⟩:=tZ h2;have w4:=dD h3;have w5:=Y7 _ _ _ _ h4;have w6:=Y4 _ _ _ _ _ _ h5;have w7:=Qa q4;have w8:=Y8 _ _ _ _ _ _ h6;have w9:=dD h7;have w10:=P_ 6 _ _ _ h8;have w11:=dD h9;simp only [wM] at *;omega
end Go.Bw
end
section
namespace Go.Bw
open Go
def Y' (l:Tk):Prop:=∀t ∈ l,t.kind=1->t.text.length<=8
structure zL (l r:Tk):Prop where
 ok:Y' r
 le:r.length<=l.length
theorem zL.trans {a b c:Tk} (h:zL a b) (g:zL b c):zL a c:=⟨g.ok,Nat.le_trans g.le h.le⟩
structure GoE (l:Tk) (p:az×Tk):Prop extends zL l p.2 where
 w:wE p.1+40*p.2.length<=20+40*l.length
structure GoS (l:Tk) (p:aH×Tk):Prop extends zL l p.2 where
 w:wS p.1+80*p.2.length<=80*l.length\/(p.2.length=l.length/\wS p.1<=40)
structure GoB (l:Tk) (p:List aH×Tk):Prop extends zL l p.2 where
 w:cP p.1+80*p.2.length<=80*l.length
def Qb (pb:Tk->List aH×Tk):Prop:=∀l,Y' l->GoB l (pb l)
end Go.Bw
end
section
namespace Go.Proofs
open Go.Shelf
def Tryz.aj6:Go.Shelf.Ren:=⟨fun | 137=>165 | 217=>211 | 266=>250 | n=>n,fun | 9=>9 | 5=>5 | 3=>3 | n=>n,fun | n=>n⟩
theorem Tryz.aj7:Go.Proofs.Lays.n137 Tryz.prog Tryz.aj6:={
 mixed:=by kernel_rfl
 f137:=Tryz.func165.trans (congrArg some (by kernel_rfl))
 f217:=Tryz.func211.trans (congrArg some (by kernel_rfl))
 f266:=Tryz.func250.trans (congrArg some (by kernel_rfl))
 t3:=Tryz.underlying3
 a3:=Tryz.isAgg3
 z3:=Tryz.sizeOf3
 v3:=Tryz.zeroValue3
 t5:=Tryz.underlying5
 a5:=Tryz.isAgg5
 z5:=Tryz.sizeOf5
 v5:=Tryz.zeroValue5
 t9:=Tryz.underlying9
 a9:=Tryz.isAgg9
 z9:=Tryz.sizeOf9
 v9:=Tryz.zeroValue9 }
def Tryz.aj8:Go.Shelf.Ren:=⟨fun | 171=>164 | 243=>210 | 246=>249 | 283=>268 | 284=>269 | 285=>270 | 286=>271 | 129=>207 | 317=>276 | 318=>277 | 319=>278 | 320=>279 | 337=>280 | 338=>281 | n=>n,fun | 3=>3 | 9=>9 | 2=>2 | 4=>4 | 171=>352 | 0=>0 | 53=>305 | 37=>161 | 5=>5 | 173=>354 | 212=>363 | 51=>303 | 20=>20 | 213=>364 | 46=>230 | 232=>365 | 233=>366 | n=>n,fun | 17=>3 | 18=>4 | 19=>5 | n=>n⟩
theorem Tryz.aj9:Go.Proofs.LaysM.n171 Tryz.prog Tryz.aj8:={
 mixed:=by kernel_rfl
 f129:=Tryz.func207.trans (congrArg some (by kernel_rfl))
 f171:=Tryz.func164.trans (congrArg some (by kernel_rfl))
 f243:=Tryz.func210.trans (congrArg some (by kernel_rfl))
 f246:=Tryz.func249.trans (congrArg some (by kernel_rfl))
 f283:=Tryz.func268.trans (congrArg some (by kernel_rfl))
 f284:=Tryz.func269.trans (congrArg some (by kernel_rfl))
 f285:=Tryz.func270.trans (congrArg some (by kernel_rfl))
 f286:=Tryz.func271.trans (congrArg some (by kernel_rfl))
 f317:=Tryz.func276.trans (congrArg some (by kernel_rfl))
 f318:=Tryz.func277.trans (congrArg some (by kernel_rfl))
 f319:=Tryz.func278.trans (congrArg some (by kernel_rfl))
 f320:=Tryz.func279.trans (congrArg some (by kernel_rfl))
 f337:=Tryz.func280.trans (congrArg some (by kernel_rfl))
 f338:=Tryz.func281.trans (congrArg some (by kernel_rfl))
 t0:=Tryz.underlying0
 a0:=Tryz.isAgg0
 z0:=Tryz.sizeOf0
 v0:=Tryz.zeroValue0
 t2:=Tryz.underlying2
 a2:=Tryz.isAgg2
 z2:=Tryz.sizeOf2
 v2:=Tryz.zeroValue2
 t3:=Tryz.underlying3
 a3:=Tryz.isAgg3
 z3:=Tryz.sizeOf3
 v3:=Tryz.zeroValue3
 t4:=Tryz.underlying4
 a4:=Tryz.isAgg4
 z4:=Tryz.sizeOf4
 v4:=Tryz.zeroValue4
 t5:=Tryz.underlying5
 a5:=Tryz.isAgg5
 z5:=Tryz.sizeOf5
 v5:=Tryz.zeroValue5
 t9:=Tryz.underlying9
 a9:=Tryz.isAgg9
 z9:=Tryz.sizeOf9
 v9:=Tryz.zeroValue9
 t20:=Tryz.underlying20
 a20:=Tryz.isAgg20
 z20:=Tryz.sizeOf20
 v20:=Tryz.zeroValue20
 t37:=Tryz.underlying161
 a37:=Tryz.isAgg161
 z37:=Tryz.sizeOf161
 v37:=Tryz.zeroValue161
 t46:=Tryz.underlying230
 a46:=Tryz.isAgg230
 z46:=Tryz.sizeOf230
 v46:=Tryz.zeroValue230
 t51:=Tryz.underlying303
 a51:=Tryz.isAgg303
 z51:=Tryz.sizeOf303
 v51:=Tryz.zeroValue303
 t53:=Tryz.underlying305
 a53:=Tryz.isAgg305
 z53:=Tryz.sizeOf305
 v53:=Tryz.zeroValue305
 t171:=Tryz.underlying352
 a171:=Tryz.isAgg352
 z171:=Tryz.sizeOf352
 v171:=Tryz.zeroValue352
 t173:=Tryz.underlying354
 a173:=Tryz.isAgg354
 z173:=Tryz.sizeOf354
 v173:=Tryz.zeroValue354
 t212:=Tryz.underlying363
 a212:=Tryz.isAgg363
 z212:=Tryz.sizeOf363
 v212:=Tryz.zeroValue363
 t213:=Tryz.underlying364
 a213:=Tryz.isAgg364
 z213:=Tryz.sizeOf364
 t232:=Tryz.underlying365
 a232:=Tryz.isAgg365
 z232:=Tryz.sizeOf365
 v232:=Tryz.zeroValue365
 t233:=Tryz.underlying366
 a233:=Tryz.isAgg366
 z233:=Tryz.sizeOf366
 v233:=Tryz.zeroValue366
 g17:=by kernel_rfl
 g18:=by kernel_rfl
 g19:=by kernel_rfl
 i0:=by kernel_rfl
 i2:=by kernel_rfl
 i3:=by kernel_rfl
 i4:=by kernel_rfl
 i5:=by kernel_rfl
 i9:=by kernel_rfl
 i20:=by kernel_rfl
 i37:=by kernel_rfl
 i46:=by kernel_rfl
 i51:=by kernel_rfl
 i53:=by kernel_rfl
 i171:=by kernel_rfl
 i173:=by kernel_rfl
 i212:=by kernel_rfl
 i232:=by kernel_rfl
 i233:=by kernel_rfl
 m17:=by kernel_rfl
 m18:=by kernel_rfl
 m19:=by kernel_rfl }
def Tryz.aj':Go.Shelf.Ren:=⟨fun | 172=>163 | 244=>208 | 245=>209 | 247=>244 | 279=>245 | 280=>246 | 281=>247 | 282=>248 | 287=>265 | 316=>266 | 171=>164 | 205=>267 | 321=>274 | 322=>275 | 243=>210 | 246=>249 | 283=>268 | 284=>269 | 285=>270 | 286=>271 | 129=>207 | 317=>276 | 318=>277 | 319=>278 | 320=>279 | 337=>280 | 338=>281 | n=>n,fun | 9=>9 | 3=>3 | 75=>246 | 76=>247 | 4=>4 | 5=>5 | 167=>329 | 37=>161 | 0=>0 | 85=>330 | 2=>2 | 168=>332 | 53=>305 | 175=>347 | 46=>230 | 210=>350 | 127=>250 | 145=>361 | 143=>359 | 21=>21 | 171=>352 | 173=>354 | 212=>363 | 51=>303 | 20=>20 | 213=>364 | 232=>365 | 233=>366 | 80=>78 | n=>n,fun | 15=>0 | 16=>1 | 17=>3 | 18=>4 | 19=>5 | n=>n⟩
theorem Tryz.Qc:Go.Proofs.LaysC.n172 Tryz.prog Tryz.aj':={
 mixed:=by kernel_rfl
 f129:=Tryz.func207.trans (congrArg some (by kernel_rfl))
 f171:=Tryz.func164.trans (congrArg some (by kernel_rfl))
 f172:=Tryz.func163.trans (congrArg some (by kernel_rfl))
 f205:=Tryz.func267.trans (congrArg some (by kernel_rfl))
 f243:=Tryz.func210.trans (congrArg some (by kernel_rfl))
 f244:=Tryz.func208.trans (congrArg some (by kernel_rfl))
 f245:=Tryz.func209.trans (congrArg some (by kernel_rfl))
 f246:=Tryz.func249.trans (congrArg some (by kernel_rfl))
 f247:=Tryz.func244.trans (congrArg some (by kernel_rfl))
 f279:=Tryz.func245.trans (congrArg some (by kernel_rfl))
 f280:=Tryz.func246.trans (congrArg some (by kernel_rfl))
 f281:=Tryz.func247.trans (congrArg some (by kernel_rfl))
 f282:=Tryz.func248.trans (congrArg some (by kernel_rfl))
 f283:=Tryz.func268.trans (congrArg some (by kernel_rfl))
 f284:=Tryz.func269.trans (congrArg some (by kernel_rfl))
 f285:=Tryz.func270.trans (congrArg some (by kernel_rfl))
 f286:=Tryz.func271.trans (congrArg some (by kernel_rfl))
 f287:=Tryz.func265.trans (congrArg some (by kernel_rfl))
 f316:=Tryz.func266.trans (congrArg some (by kernel_rfl))
 f317:=Tryz.func276.trans (congrArg some (by kernel_rfl))
 f318:=Tryz.func277.trans (congrArg some (by kernel_rfl))
 f319:=Tryz.func278.trans (congrArg some (by kernel_rfl))
 f320:=Tryz.func279.trans (congrArg some (by kernel_rfl))
 f321:=Tryz.func274.trans (congrArg some (by kernel_rfl))
 f322:=Tryz.func275.trans (congrArg some (by kernel_rfl))
 f337:=Tryz.func280.trans (congrArg some (by kernel_rfl))
 f338:=Tryz.func281.trans (congrArg some (by kernel_rfl))
 t0:=Tryz.underlying0
 a0:=Tryz.isAgg0
 z0:=Tryz.sizeOf0
 v0:=Tryz.zeroValue0
 t2:=Tryz.underlying2
 a2:=Tryz.isAgg2
 z2:=Tryz.sizeOf2
 v2:=Tryz.zeroValue2
 t3:=Tryz.underlying3
 a3:=Tryz.isAgg3
 z3:=Tryz.sizeOf3
 v3:=Tryz.zeroValue3
 t4:=Tryz.underlying4
 a4:=Tryz.isAgg4
 z4:=Tryz.sizeOf4
 v4:=Tryz.zeroValue4
 t5:=Tryz.underlying5
 a5:=Tryz.isAgg5
 z5:=Tryz.sizeOf5
 v5:=Tryz.zeroValue5
 t9:=Tryz.underlying9
 a9:=Tryz.isAgg9
 z9:=Tryz.sizeOf9
 v9:=Tryz.zeroValue9
 t20:=Tryz.underlying20
 a20:=Tryz.isAgg20
 z20:=Tryz.sizeOf20
 v20:=Tryz.zeroValue20
 t21:=Tryz.underlying21
 a21:=Tryz.isAgg21
 z21:=Tryz.sizeOf21
 v21:=Tryz.zeroValue21
 t37:=Tryz.underlying161
 a37:=Tryz.isAgg161
 z37:=Tryz.sizeOf161
 v37:=Tryz.zeroValue161
 t46:=Tryz.underlying230
 a46:=Tryz.isAgg230
 z46:=Tryz.sizeOf230
 v46:=Tryz.zeroValue230
 t51:=Tryz.underlying303
 a51:=Tryz.isAgg303
 z51:=Tryz.sizeOf303
 v51:=Tryz.zeroValue303
 t53:=Tryz.underlying305
 a53:=Tryz.isAgg305
 z53:=Tryz.sizeOf305
 v53:=Tryz.zeroValue305
 t75:=Tryz.underlying246
 a75:=Tryz.isAgg246
 z75:=Tryz.sizeOf246
 v75:=Tryz.zeroValue246
 t76:=Tryz.underlying247
 a76:=Tryz.isAgg247
 z76:=Tryz.sizeOf247
 v76:=Tryz.zeroValue247
 t85:=Tryz.underlying330
 a85:=Tryz.isAgg330
 z85:=Tryz.sizeOf330
 v85:=Tryz.zeroValue330
 t127:=Tryz.underlying250
 a127:=Tryz.isAgg250
 z127:=Tryz.sizeOf250
 v127:=Tryz.zeroValue250
 t143:=Tryz.underlying359
 a143:=Tryz.isAgg359
 z143:=Tryz.sizeOf359
 v143:=Tryz.zeroValue359
 t145:=Tryz.underlying361
 a145:=Tryz.isAgg361
 z145:=Tryz.sizeOf361
 v145:=Tryz.zeroValue361
 t167:=Tryz.underlying329
 a167:=Tryz.isAgg329
 z167:=Tryz.sizeOf329
 v167:=Tryz.zeroValue329
 t168:=Tryz.underlying332
 a168:=Tryz.isAgg332
 z168:=Tryz.sizeOf332
 v168:=Tryz.zeroValue332
 t171:=Tryz.underlying352
 a171:=Tryz.isAgg352
 z171:=Tryz.sizeOf352
 v171:=Tryz.zeroValue352
 t173:=Tryz.underlying354
 a173:=Tryz.isAgg354
 z173:=Tryz.sizeOf354
 v173:=Tryz.zeroValue354
 t175:=Tryz.underlying347
 a175:=Tryz.isAgg347
 z175:=Tryz.sizeOf347
 v175:=Tryz.zeroValue347
 t210:=Tryz.underlying350
 a210:=Tryz.isAgg350
 z210:=Tryz.sizeOf350
 v210:=Tryz.zeroValue350
 t212:=Tryz.underlying363
 a212:=Tryz.isAgg363
 z212:=Tryz.sizeOf363
 v212:=Tryz.zeroValue363
 t213:=Tryz.underlying364
 a213:=Tryz.isAgg364
 z213:=Tryz.sizeOf364
 t232:=Tryz.underlying365
 a232:=Tryz.isAgg365
 z232:=Tryz.sizeOf365
 v232:=Tryz.zeroValue365
 t233:=Tryz.underlying366
 a233:=Tryz.isAgg366
 z233:=Tryz.sizeOf366
 v233:=Tryz.zeroValue366
 g15:=by kernel_rfl
 g16:=by kernel_rfl
 g17:=by kernel_rfl
 g18:=by kernel_rfl
 g19:=by kernel_rfl
 t80:=Tryz.underlying78
 a80:=Tryz.isAgg78
 z80:=Tryz.sizeOf78
 v80:=Tryz.zeroValue78
 i0:=by kernel_rfl
 i2:=by kernel_rfl
 i3:=by kernel_rfl
 i4:=by kernel_rfl
 i5:=by kernel_rfl
 i9:=by kernel_rfl
 i20:=by kernel_rfl
 i21:=by kernel_rfl
 i37:=by kernel_rfl
 i46:=by kernel_rfl
 i51:=by kernel_rfl
 i53:=by kernel_rfl
 i75:=by kernel_rfl
 i76:=by kernel_rfl
 i80:=by kernel_rfl
 i85:=by kernel_rfl
 i127:=by kernel_rfl
 i143:=by kernel_rfl
 i145:=by kernel_rfl
 i167:=by kernel_rfl
 i168:=by kernel_rfl
 i171:=by kernel_rfl
 i173:=by kernel_rfl
 i175:=by kernel_rfl
 i210:=by kernel_rfl
 i212:=by kernel_rfl
 i232:=by kernel_rfl
 i233:=by kernel_rfl
 m15:=by kernel_rfl
 m16:=by kernel_rfl
 m17:=by kernel_rfl
 m18:=by kernel_rfl
 m19:=by kernel_rfl
 c0:=by kernel_rfl
 c2:=by kernel_rfl
 c3:=by kernel_rfl
 c4:=by kernel_rfl
 c5:=by kernel_rfl
 c9:=by kernel_rfl
 c20:=by kernel_rfl
 c21:=by kernel_rfl
 c37:=by kernel_rfl
 c46:=by kernel_rfl
 c51:=by kernel_rfl
 c53:=by kernel_rfl
 c75:=by kernel_rfl
 c76:=by kernel_rfl
 c80:=by kernel_rfl
 c85:=by kernel_rfl
 c127:=by kernel_rfl
 c143:=by kernel_rfl
 c145:=by kernel_rfl
 c167:=by kernel_rfl
 c168:=by kernel_rfl
 c171:=by kernel_rfl
 c173:=by kernel_rfl
 c175:=by kernel_rfl
 c210:=by kernel_rfl
 c212:=by kernel_rfl
 c213:=by kernel_rfl
 c232:=by kernel_rfl
 c233:=by kernel_rfl }
end Go.Proofs
end
section
namespace Go.Proofs.YtccenighnmfhgaaGreatDoor
open Go.Bw
open Go.Proofs
theorem Y_ (n:Nat) (u:Int):(((((n:Int)==0)||decide (8<(n:Int)))||decide (u<97))||decide (122<u)) = !((decide (1<=n)&&decide (n<=8))&&ni u):=by
 rw [Bool.eq_iff_iff];simp [ni];omega
theorem FE {s:List UInt8} {i:Nat} (h:i<s.length):s[i]? = some (s[i]?.getD 0):=by rw [List.getElem?_eq_getElem h]; rfl
theorem aj_ {s:List UInt8} {p:UInt8->Bool} {i:Nat} (h:i<s.length) (hp:p (s[i]?.getD 0)=false):s.all p=false:=by
 rw [List.all_eq_false];exact ⟨_,List.mem_of_getElem? (FE h),by simp [hp]⟩
theorem aka {s:List UInt8} {p:UInt8->Bool} (h:∀i,i<s.length->p (s[i]?.getD 0)=true):s.all p=true:=by
 rw [List.all_eq_true];intro x hx;obtain ⟨i,hi⟩:=List.getElem?_of_mem hx;have:=h i (List.getElem?_eq_some_iff.1 hi).1;rw [hi] at this;exact this
theorem Za (u:UInt8):∀s:List UInt8,decide (0<=Lib.indexByte s u)=s.contains u
 | []=>rfl
 | b::l=>by
   have ih:=Za u l;have bP:=Lib.indexByte_ge l u;unfold Lib.indexByte
   by_cases hb:b=u
   · subst hb; simp
   · have h1:(b==u)=false:=by simpa using hb
     have h2:(u==b)=false:=by simpa using λh=>hb h.symm
     rw [if_neg (by simp [h1]),List.contains_cons,h2,Bool.false_or,<-ih]
     split
     · rename_i h; simp at h; simp [h]
     · rename_i h; simp at h
       rw [Bool.eq_iff_iff]; simp; omega
theorem toNat_inj {u v:UInt8} (h:(u.toNat:Int)=(v.toNat:Int)):u=v:=UInt8.toNat_inj.1 (by omega)
theorem dy:Tryz.prog.underlying 9=some .string:=by kernel_rfl
theorem Zb:Enters Tryz.prog 115:=enters_of Tryz.func115 (by kernel_rfl) rfl
theorem akb:Enters Tryz.prog 165:=enters_of Tryz.func165 (by kernel_rfl) rfl
theorem ie:Tryz.prog.underlying 3=some (.int .i64):=by kernel_rfl
theorem CA:Tryz.prog.underlying 5=some (.int .u8):=by kernel_rfl
theorem Qd:e9 Tryz.prog 161 5 (.int .u8 0) 1 1:=ja (by kernel_rfl)
theorem Zc (u:Int) (w:World) :
   Calls Tryz.prog 115 #[.int .u8 u] w λe w'=>e = .returned (.bool (ni u||EM u))/\Ext w w':=by
 refine enter Tryz.func115 O 17 O O ?_;refine CE (Vs:=[]) (Ws.init (by simp)) (ad (ae O (ab (ad (aa O (V0 (fm O O) (aa O ?_)))))));apply La 2 O O O O Y O O O O O
 ·intro du;refine Vg (Ym O) (Vg (iN O O) ?_);exact Gt 2 O O O
 refine aa O ?_;apply Lo 6 O O O O Y O O O O O
 ·intro eh;refine Vg (Ym O) (Vg (fm O O) (Vg (Ym O) ?_));apply La 2 O O O O (.g O O O) O O O O O
  ·intro fB;refine Vg (Ym O) (Vg (iN O O) ?_);exact Gt 2 O O O
  exact Gt 4 O O O
 refine ae O (ab (aA ?_));refine R1 O O λw' hw=>?_;exact ⟨O,hw.fr⟩
theorem sh (s:List UInt8) (w:World) :
   Calls Tryz.prog 133 #[st s] w λe w'=>e = .returned (.bool (dB s))/\Ext w w':=by
 refine enter Tryz.func133 O 33 O O ?_;refine CE (Vs:=[]) (Ws.init (by simp)) (ad (ae O (ab (Cs (ad (aa O (V0 (qU dy O) (V0 (aW O O) (aa O ?_)))))))));apply Lo 3 O O O O Y O O O O O
 ·intro du;refine Vg (Ym O) (Vg (qU dy O) (Vg (cI O O) ?_));exact Gt 3 O O O
 refine aa O ?_;apply Lo 3 O O O O Y O O O O O
 ·intro eh
  have h0:0<s.length:=by
    rcases Nat.eq_zero_or_pos s.length with h | h
    · simp [h] at eh
    · exact h
  have CB:=FE h0;refine Vg (Ym O) (Vg (y6 dy O O (by assumption)) (Vg (bj O O) ?_));exact Gt 3 O O O
 refine aa O ?_;apply Lo 3 O O O O Y O O O O O
 ·intro fB
  have h0:0<s.length:=by
    rcases Nat.eq_zero_or_pos s.length with h | h
    · simp [h] at fB
    · exact h
  have CB:=FE h0;refine Vg (Ym O) (Vg (y6 dy O O CB) (Vg (cI O O) ?_));exact Gt 3 O O O
 refine ab ?_;refine Cc O (λai=>?_) (λai=>?_)
 ·rw [Y_] at ai
  have hn:dB s=false:=by
    unfold dB;simp only [Bool.not_eq_true'] at ai;rw [ai]; rfl
  refine ad (ae O (ab (aA (Er ?_))));refine R1 O O λw' hw=>?_;exact ⟨by rw [hn],hw.fr⟩
 rw [Y_] at ai
 have aJ:((decide (1<=s.length)&&decide (s.length<=8))&&ni ((s[0]?.getD 0).toNat))=true:=by simpa using ai
 have h8:s.length<=8:=by simp at aJ; omega
 refine aE (Cs (ad (aa O (V0 (qU dy O) (aa O (ab (Cb ?_)))))));refine CW (ι:=Nat) (λi=>[(24,.int .i64 (i:Int))]) [(0,_),(23,_)] (λi=>i<=s.length/\∀j,j<i->jS (s[j]?.getD 0)=true) (λi=>s.length-i) 0 ⟨Nat.zero_le _,by simp⟩ (sc O (sc O (sc O sn))) ?_;intro i ⟨hi,bT⟩;refine ad (V0 (bj O O) (ab (Cs ?_)));refine Cc O (λaw=>?_) (λaw=>?_)
 ·have av:i<s.length:=by simpa using aw
  have pk:=FE av;refine aE (Cs (Cb (ad (aa O (ae O (ab (ad (aa O (aa O (V0 (y6 dy O O pk) (Lp Y O Zb O (λw hw=>Zc _ w) ?_)))))))))));refine V0 (dK O) (ab ?_);refine Cc O (λaO=>?_) (λaO=>?_)
  ·have FF:jS (s[i]?.getD 0)=false:=by unfold jS; revert aO; cases ni _<;>cases EM _<;>simp
   refine ad (ae O (ab (aA (bE (Er (Er (bE (Er ?_))))))));refine R1 O O λw' hw=>?_;exact ⟨by unfold dB; rw [aj_ av FF]; simp,hw.fr⟩
  have FF:jS (s[i]?.getD 0)=true:=by unfold jS; revert aO; cases ni _<;>cases EM _<;>simp
  refine Ck (Eb (Et (Cr (V0 (Yi O O O (by omega)) (aa O (Ln ?_))))));exact Ea (i+1) (by omega) ⟨by omega,λj hj=>by rcases Nat.lt_succ_iff_lt_or_eq.1 hj with h | rfl; exact bT j h; exact FF⟩ (sc rfl (sc rfl (sc rfl sn))) (λ_ h=>h)
 have bP:¬i<s.length:=by simpa using aw
 refine Ce (Ex (Ex (bA (Et (ad (ae O (ab (aA ?_))))))));refine R1 O O λw' hw=>?_;exact ⟨by unfold dB; rw [aka λj hj=>bT j (by omega),aJ]; rfl,hw.fr⟩
theorem akc (s:List UInt8) (u:UInt8) (w:World):Calls Tryz.prog 165 #[st s,.int .u8 (u.toNat:Int)] w λe w'=>e = .returned (.int .i64 (Lib.indexByte s u))/\Ext w w':=
 (Any.strings_IndexByte Go.Proofs.Tryz.aj7 ⟨s.toArray⟩ (u.toNat:Int) w).mono λe w' h=>by
   obtain ⟨h1,h2⟩:=h;subst h2
   have e1:((u.toNat:Int)).toNat.toUInt8=u:=by simp
   rw [e1] at h1;exact ⟨h1,Fr.refl _ _⟩
theorem akd (u:UInt8) (w:World) :
   Calls Tryz.prog 117 #[.int .u8 (u.toNat:Int)] w λe w'=>e = .returned (.bool (nj u))/\Ext w w':=by
 refine enter Tryz.func117 O 6 O O ?_;refine CE (Vs:=[]) (Ws.init (by simp)) (ad (ae O (ab (ad (aa O (Lp Y O akb O (λw hw=>akc vi u w) (V0 (fm O O) (ae O ?_))))))));refine ab (aA ?_);refine R1 O O λw' hw=>?_;exact ⟨by rw [Za]; rfl,hw.fr⟩
theorem iU {α:Type} {l:List α} {i:Nat} {x:α} (h:l[i]? = some x):l.take (i+1)=l.take i++[x]:=by rw [List.take_add_one,h]; rfl
theorem Zd:bw Tryz.prog 209 0=some 0:=by kernel_rfl
theorem ar:dQ Tryz.prog 3=true:=by kernel_rfl
theorem ake:bw Tryz.prog 209 2=some 2:=by kernel_rfl
theorem bW:dQ Tryz.prog 9=true:=by kernel_rfl
theorem t':eo Tryz.prog 91=some 3:=by kernel_rfl
theorem CD:gj Tryz.prog 209=some 3:=by kernel_rfl
def qs (s:List UInt8):Int:=match Lib.atoiAll s with | .ok v=>v | .range=>Lib.atoiSat s | _=>0
def zM (s:List UInt8):Bool:=match Lib.atoiAll s with | .ok _=>true | _=>false
theorem akf (s:List UInt8) : -9223372036854775808<=qs s/\qs s<=9223372036854775807:=by
 unfold qs
 cases h:Lib.atoiAll s with
 | ok v=>exact Lib.atoiAll_bounds h
 | range=>exact Lib.atoiSat_bounds s
 | _=>simp
theorem akg {s:List UInt8} (h:dB s=false):nk s=(⟨2,qs s,[]⟩,((zM s&&decide (0<=qs s))&&decide (qs s<=1099511627775))&&(Lib.itoa (qs s)==s)):=by
 rw [nk,if_neg (by simp [h])];unfold qs zM
 cases Lib.atoiAll s<;>simp
theorem Ze {s:List UInt8} {l:List Tok} {t:List UInt8} (h:ff s=(ff t).map (l++·)) (ht:ff t=none):¬4096<s.length->ec s=([],1):=λhl=>by
 rw [ec,if_neg hl,h,ht]; rfl
theorem akh {s:List UInt8} {l:List Tok} (h:ff s=(ff []).map (l++·)):¬4096<s.length->ec s=(l,0):=λhl=>by
 rw [ec,if_neg hl,h]; simp [EO]
theorem Zf {o:Option (List Tok)} {l:List Tok} {t:Tok}:(o.map (t::·)).map (l++·)=o.map ((l++[t])++·):=by
 cases o<;>simp
theorem Qe:fo Tryz.prog 209=some [(0,1),(1,1),(2,1)]:=by kernel_rfl
theorem zN:zeroOf Tryz.prog 209=some (.agg #[.int .i64 0,.int .i64 0,st []]):=by kernel_rfl
theorem J0:e9 Tryz.prog 91 209 (.agg #[.int .i64 0,.int .i64 0,st []]) 3 32:=ja (by kernel_rfl)
abbrev Laid (H:View):Prop:=Oa Tryz.prog 3 0 1 H
def Zg : String := (Rows.buildCompilesRow.laid.map (·.1)).getD 2 ""
theorem Qf:Tryz.prog.globalNamed Zg=some 3:=by kernel_rfl
theorem aki (G:View) (n:Int) (h0 : -9223372036854775808<=n) (h1:n<=9223372036854775807) (w:World) (hG:Le G w) (hz:Laid G) :
   Calls Tryz.prog 164 #[.int .i64 n] w λe w'=>e = .returned (st (Lib.itoa n))/\Ext w w':=
 (Any.strconv_Itoa Go.Proofs.Tryz.aj9 n h0 h1 w (hz.Ob hG Qf)).mono λe w' h=>by
   obtain ⟨h1,k,os,rfl⟩:=h;exact ⟨h1,agD w k os⟩
theorem akj (G:View) (s:List UInt8) (hs:s.length<=4096) (w:World) (hG:Le G w) (hz:Laid G) :
   Calls Tryz.prog 163 #[st s] w λe w'=>∃r:Value,e = .returned (.tuple #[.int .i64 (qs s),r])/\Ext w w'/\EL r (zM s):=by
 have kh:(ByteArray.mk s.toArray).size=s.length:=zd s
 cases h:Lib.atoiAll s with
 | ok v=>
   refine (Any.strconv_Atoi_ok Go.Proofs.Tryz.Qc ⟨s.toArray⟩ (by rw [kh]; omega) v h w).mono λe w' hh=>?_;obtain ⟨h1,h2⟩:=hh;refine ⟨.nilIface,by simp only [qs,h]; exact h1,?_,by simp [EL,zM,h]⟩
   rcases h2 with rfl | ⟨t,rfl⟩
   · exact Fr.refl _ _
   · exact Ext.Nw (Lib.bytesWorld_below _ _ _)
 | range=>
   obtain ⟨ev,hv,FG⟩:=hz.rng;refine (Any.strconv_Atoi_range Go.Proofs.Tryz.Qc ⟨s.toArray⟩ (by rw [kh]; omega) h ev w (hG.cell hv) FG).mono λe w' hh=>?_;obtain ⟨N,h1,_,_,h2⟩:=hh;exact ⟨_,by simp only [qs,h]; exact h1,Ext.Nw h2,by simp [EL,zM,h]⟩
 | _=>
   obtain ⟨ev,hv,FG⟩:=hz.syn;refine (Any.strconv_Atoi_syntax Go.Proofs.Tryz.Qc ⟨s.toArray⟩ (by rw [kh]; omega) h ev w (hG.cell hv) FG).mono λe w' hh=>?_;obtain ⟨N,h1,_,_,h2⟩:=hh;exact ⟨_,by simp only [qs,h]; exact h1,Ext.Nw h2,by simp [EL,zM,h]⟩
theorem akk:Tryz.prog.underlying 246=some (.interface (Tryz.prog.methodsAt 246)):=by kernel_rfl
theorem si:Enters Tryz.prog 133:=enters_of Tryz.func133 (by kernel_rfl) rfl
theorem FH:cC Tryz.prog 209=some 3:=by kernel_rfl
theorem akl:Enters Tryz.prog 163:=enters_of Tryz.func163 (by kernel_rfl) rfl
theorem akm:Enters Tryz.prog 164:=enters_of Tryz.func164 (by kernel_rfl) rfl
theorem akn:Enters Tryz.prog 116:=enters_of Tryz.func116 (by kernel_rfl) rfl
theorem ako:Enters Tryz.prog 117:=enters_of Tryz.func117 (by kernel_rfl) rfl
theorem akp (G:View) (s:List UInt8) (hs:s.length<=4096) (w:World) (hG:Le G w) (hz:Laid G) :
   Calls Tryz.prog 116 #[st s] w λe w'=>e = .returned (.tuple #[.agg #[.int .i64 (nk s).1.kind,.int .i64 (nk s).1.n,st (nk s).1.text],.bool (nk s).2])/\Ext w w':=by
 refine enter Tryz.func116 O 33 O O ?_;refine CE (Vs:=[G]) (Ws.init (by simp [hG])) (ad ?_);refine Al Y O zN λb2=>?_;refine ae O (ab (Cs (ad (aa O (Lp Y O si O (λw hw=>sh _ w) (ab ?_))))));refine Cc O (λai=>?_) (λai=>?_)
 ·have hW:nk s=(⟨1,0,s⟩,true):=by rw [nk,if_pos ai]
  refine ad (aa O (V0 (Yb zN Qe O O) (an 0 Y O O O FH O O O (ae O (ab (aA (Er ?_)))))));refine WE.xo 0 O O O O CD O λw' hw=>?_;rw [hW];exact ⟨O,hw.fr⟩
 have hW:=akg ai;have iw:=akf s;refine aE (ad (aa O ?_));refine Ld Y O akl O (λr:Value=>.tuple #[.int .i64 (qs s),r]) (λ_ r=>EL r (zM s)) (λw hw=>akj G s hs w (hw.vs _ (by simp)) hz) ?_;intro F12 vK Qg qj;refine aa O (V0 (Yx O O) (V0 (Yx O O) (ae O (ae O (ab (ad (aa O (V0 (Yb zN Qe O O) ?_))))))));refine aa O (V0 (agy (zM s) akk O qj) (aa O ?_));apply La 2 O O O O Y O O O O O
 ·intro du;refine Vg (Ym O) (Vg (fm O O) ?_);exact Gt 2 O O O
 refine aa O ?_;apply La 2 O O O O Y O O O O O
 ·intro eh;refine Vg (Ym O) (Vg (iN O O) ?_);exact Gt 2 O O O
 refine aa O ?_;apply La 4 O O O O Y O O O O O
 ·intro fB;refine Vg (Ym O) (Lp (.g O O O) O akm O (λw hw=>aki G _ iw.1 iw.2 w (hw.vs _ (by simp)) hz) (Vg (Ym O) (Vg (y5 O O) ?_)));exact Gt 4 O O O
 refine an 0 Y O O O FH O O O (ae O (ab (aA ?_)));refine WE.xo 0 O O O O CD O λw' hw=>?_;rw [hW];exact ⟨O,hw.fr⟩
theorem akr (G:View) (s:List UInt8) (w:World) (hG:Le G w) (hz:Laid G) :
   Calls Tryz.prog 47 #[st s] w λe w'=>∃r:Option Addr×Nat,e = .returned (.tuple #[.slice r.1 (ec s).1.length r.2,.int .i64 (ec s).2])/\Ext w w'/\Sl aZ 3 (nv w w') r.1 r.2 (ec s).1:=by
 refine enter Tryz.func47 O 66 O O ?_;refine CE (Vs:=[G]) (Ws.init (by simp [hG])) (ad (ae O (ae O (ab (Cs (ad (aa O (V0 (qU dy O) (V0 (cI O O) ?_)))))))));refine ab ?_;refine Cc O (λai=>?_) (λai=>?_)
 ·have hl:4096<s.length:=by simp at ai; omega
  have hR:ec s=([],2):=by rw [ec,if_pos hl]
  refine ad (ae O (ae O (ab (aA (Er ?_)))));refine WE.dA (eZ O (gC O) (gC O)) λw' hw=>?_;rw [hR];exact ⟨(none,0),O,hw.fr,Sl.nil⟩
 have hl:¬4096<s.length:=by simp at ai; omega
 refine aE (ad (ae O (LW (λ_ h=>h.eM 209 3) (ab (Cs (Cb ?_))))));refine cq (ι:=List UInt8×List Tok×Option Addr×Nat) (λg=>[(0,st g.1),(4,.slice g.2.2.1 g.2.1.length g.2.2.2)]) [] (λg=>Ws w [] [bt 209 3 Tok.cells g.2.2.1 g.2.2.2 (g.2.1)] [G]) (λg=>g.2.1.length+g.1.length<=s.length/\ff s=(ff g.1).map (g.2.1++·)) (λg=>g.1.length) (s,[],none,0) ⟨by simp,by simp⟩ (sc O (sc O sn)) (λ_ h=>h) ?_;intro g ⟨da,hO⟩;refine Cs (ad (aa O (V0 (IB O O) (ab ?_))));refine Cc O (λaw=>?_) (λaw=>?_)
 ·obtain ⟨u,r,vL⟩:∃u r,g.1=u::r:=by
    cases eh:g.1 with
    | nil=>rw [eh] at aw; simp at aw
    | cons u r=>exact ⟨u,r,rfl⟩
  have lU:g.1.length=r.length+1:=by rw [vL]; rfl
  refine aE (Cb (ad (ae O (ab (Cs (Cb ?_))))));refine CW (ι:=Nat) (λi=>[(5,.int .i64 (i:Int))]) [(0,_),(4,_)] (λi=>i<=g.1.length/\∀j,j<i->jS (g.1[j]?.getD 0)=true) (λi=>g.1.length-i) 0 ⟨Nat.zero_le _,by simp⟩ (sc O (sc O (sc O sn))) ?_;intro i ⟨hi,bT⟩;refine Cs (ad (aa O (aa O (V0 (qU dy O) (V0 (bj O O) (aa O ?_))))));apply La 4 O O O O Y O O O O O
  ·intro du
   have av:i<g.1.length:=by simpa using du
   have CB:=FE av;refine Vg (Ym O) (Vg (Ym O) (Vg (y6 dy O O CB) (Lp (.g O O O) O Zb O (λw hw=>Zc _ w) ?_)));exact Gt 4 O O O
  refine ab ?_;refine Cc O (λaO=>?_) (λaO=>?_)
  ·have av:i<g.1.length:=by
     simp only [Bool.and_eq_true,decide_eq_true_eq] at aO;omega
   have FF:jS (g.1[i]?.getD 0)=true:=by
     simp only [Bool.and_eq_true] at aO;exact aO.2
   refine aE (Cb (Cr (aa O (V0 (Yi O O O (by omega)) (ae O (Ln (Eb ?_)))))));exact Ea (i+1) (by omega) ⟨by omega,λj hj=>by rcases Nat.lt_succ_iff_lt_or_eq.1 hj with h | rfl; exact bT j h; exact FF⟩ (sc rfl (sc rfl (sc rfl sn))) (λ_ h=>h)
  have FI:ep g.1=i:=by
    refine Od _ _ hi bT ?_
    rcases Nat.lt_or_ge i g.1.length with h | h
    · right
      rw [decide_eq_true (by omega:((i:Nat):Int)<(g.1.length:Int)),Bool.true_and] at aO;exact aO
    · left; omega
  have FJ:g.1[0]? = some u:=by rw [vL]; rfl
  refine Ce (Ex (Ex (bA (Et (Cs (ad (aa O (V0 (y6 dy O O (i:=0) FJ) (ae O (ab (Cb (ad (aa O (V0 (cI O O) ?_))))))))))))));refine ae O (ab ?_);refine Cc O (λbd=>?_) (λbd=>?_)
  ·have h0n:0<i:=by simp at bd; omega
   refine ad (aa O (aa O (V0 (N1 Tryz.underlying9 O O (by omega) (by omega)) ?_)));rw [Int.toNat_natCast];refine Lp Y O akn O (λw hw=>akp G _ (by simp; omega) w (hw.vs _ (by simp)) hz) (aa O (V0 (Yx O O) (V0 (Yx O O) ?_)));refine Al Y O zN λb7=>?_;refine an 0 Y O O O FH O O O (ae O (ab (Cs (ad (aa O (V0 (dK O) (ab ?_)))))));refine Cc O (λbC=>?_) (λbC=>?_)
   ·have hR:ec s=([],1):=Ze hO (by rw [zl (by omega),FI,VA,if_neg (by simpa using bC)]) hl;refine ad (ae O (ae O (ab (aA (Er (bE (Er (bE (Er (bE (Er ?_)))))))))));refine WE.dA (eZ O (gC O) (gC O)) λw' hw=>?_;rw [hR];exact ⟨(none,0),O,hw.fr,Sl.nil⟩
   have x0:rB (g.1.take i)=some ((nk (g.1.take i)).1):=by rw [VA,if_pos (by simpa using bC)]
   refine aE (ad (aa O (V0 (bk 0 O O CD O) ?_)));refine Lb Y O J0 O O O O λb42=>?_;refine bL 0 (.cells (Tok.cells ((nk (g.1.take i)).1)).toArray 209 (0,0)) O O ?_;refine LA ((nk (g.1.take i)).1) 2 0 Y O J0 O O O O O O (by omega) (by omega) λa43 c43=>?_;refine ae O (ab (ad (aa O (aa O (V0 (IZ Tryz.underlying9 O O (by omega) (by omega)) ?_)))));rw [Int.toNat_natCast];refine ae O (ab (Ce (Ec O (Ex (bA ?_)))))
   exact Ea ((g.1.drop i,g.2.1++[(nk (g.1.take i)).1],a43,c43):List UInt8×List Tok×Option Addr×Nat) (by dsimp only; simp; omega) ⟨by dsimp only; simp; omega,by
       dsimp only;rw [hO,zl (by omega),FI,x0];simp only
       rw [Zf]⟩ (sc rfl (sc rfl sn)) (λ_ h=>Wd 2 h)
  have Qh:ep (u::r)=0:=by rw [<-vL,FI]; simp at bd; omega
  refine ad (aa O (Lp Y O ako O (λw hw=>akd _ w) (ae O (ab ?_))));refine Cc O (λcU=>?_) (λcU=>?_)
  ·refine Cr (aa O (aa O (V0 (N1 Tryz.underlying9 O O (by omega) (by omega)) ?_)));rw [show g.1.take (1:Int).toNat=[u] by rw [vL]; rfl];refine V0 (Yb zN Qe O O) ?_;refine Lb Y O J0 O O O O λb54=>?_;refine bL 0 (.cells (Tok.cells (Tok.mk 3 0 [u])).toArray 209 (0,0)) O O ?_;refine LA (Tok.mk 3 0 [u]) 1 0 Y O J0 O O O O O O (by omega) (by omega) λa55 c55=>?_;refine ae O (Ln (Eb (Et (Cr (aa O (V0 (IZ Tryz.underlying9 O O (by omega) (by omega)) ?_))))));rw [show g.1.drop (1:Int).toNat=r by rw [vL]; rfl];refine ae O (Ln (Eb ?_))
   exact Ea ((r,g.2.1++[Tok.mk 3 0 [u]],a55,c55):List UInt8×List Tok×Option Addr×Nat) (by dsimp only; omega) ⟨by dsimp only; simp; omega,by
       dsimp only
       rw [hO,vL,EP Qh (by simpa using cU),Zf]⟩ (sc rfl (sc rfl sn)) (λ_ h=>Wd 1 h)
  refine ad (aa O (V0 (eL O O) (aa O ?_)));apply La 2 O O O O Y O O O O O
  ·intro eh;refine Vg (Ym O) (Vg (eL O O) ?_);exact Gt 2 O O O
  refine ae O (ab ?_);refine Cc O (λdb=>?_) (λdb=>?_)
  ·have CF:¬(u=32\/u=10):=by
     rintro (h | h)<;>rw [h] at db<;>simp at db
   have hR:ec s=([],1):=Ze hO (by rw [vL,Ja Qh (by simpa using cU) CF]) hl;refine ad (ae O (ae O (ab (aA (bE (Er (bE (Er (bE (Er ?_))))))))));refine WE.dA (eZ O (gC O) (gC O)) λw' hw=>?_;rw [hR];exact ⟨(none,0),O,hw.fr,Sl.nil⟩
  have CF:u=32\/u=10:=by
    simp only [bne,Bool.and_eq_false_iff,Bool.not_eq_false',beq_iff_eq] at db
    rcases db with h | h
    · left; exact toNat_inj (by simpa using h)
    · right; exact toNat_inj (by simpa using h)
  refine Ck (Eb (Et (Cr (aa O (V0 (IZ Tryz.underlying9 O O (by omega) (by omega)) ?_)))));rw [show g.1.drop (1:Int).toNat=r by rw [vL]; rfl];refine ae O (Ln (Eb ?_))
  exact Ea ((r,g.2.1,g.2.2.1,g.2.2.2):List UInt8×List Tok×Option Addr×Nat) (by dsimp only; omega) ⟨by dsimp only; omega,by
      dsimp only
      rw [hO,vL,ER Qh (by simpa using cU) CF]⟩ (sc rfl (sc rfl sn)) (λ_ h=>h)
 have bP:g.1=[]:=by simpa using aw
 have hR:ec s=(g.2.1,0):=by
   rw [bP] at hO;exact akh hO hl
 refine Ce (Ex (Ex (bA (Et (ad (aa O (ae O (ae O (ab (aA ?_))))))))));refine WE.dA (eZ O (gC O) (gC O)) λw' hw=>?_;rw [hR];exact ⟨(g.2.2.1,g.2.2.2),O,hw.fr,hw.kS 0 O Tok.bq (λ_ _ _ _ h=>h)⟩
abbrev kI:Int->Value:=λn:Int=>Value.int .i64 n
def vS (r:Bool) (a:Int):Value:=.agg #[.bool r,.int .i64 a]
def ig (n:Nat):List (cD Int):=[(1,vS false 0,0),(2,vS false 0,1),(3,vS true 0,2),(4,vS true 1,3),(5,vS true (-1),4),(6,vS false 1,5)]++(List.range n).map λj=>(((7+j:Nat):Int),vS false 2,6+j)
def jJ:List (cD Int):=[(1,vS true 1,0),(2,vS true 2,1),(3,vS true (-1),2),(4,vS false 1,3),(5,vS false 1,4),(6,vS false 1,5),(7,vS false 1,6)]
theorem akw (n:Nat) (h:n<9):bh kI (dv ((7+n:Nat):Int) (vS false 2) (ig n) (6+n)) (gS ((7+n:Nat):Int) (ig n) (6+n))=bh kI (ig (n+1)) (6+(n+1)):=by
 match n,h with
 | 0,_=>rfl
 | 1,_=>rfl
 | 2,_=>rfl
 | 3,_=>rfl
 | 4,_=>rfl
 | 5,_=>rfl
 | 6,_=>rfl
 | 7,_=>rfl
 | 8,_=>rfl
theorem Zh (op:Int):dO op (ig 9) (vS false 0)=vS ((dk op).getD (false,0)).1 ((dk op).getD (false,0)).2/\oZ op (ig 9) = !(dk op).isNone:=by
 by_cases h1:op=1
 · subst h1; exact ⟨rfl,rfl⟩
 by_cases h2:op=2
 · subst h2; exact ⟨rfl,rfl⟩
 by_cases h3:op=3
 · subst h3; exact ⟨rfl,rfl⟩
 by_cases h4:op=4
 · subst h4; exact ⟨rfl,rfl⟩
 by_cases h5:op=5
 · subst h5; exact ⟨rfl,rfl⟩
 by_cases h6:op=6
 · subst h6; exact ⟨rfl,rfl⟩
 by_cases h7:op=7
 · subst h7; exact ⟨rfl,rfl⟩
 by_cases h8:op=8
 · subst h8; exact ⟨rfl,rfl⟩
 by_cases h9:op=9
 · subst h9; exact ⟨rfl,rfl⟩
 by_cases gF:op=10
 · subst gF; exact ⟨rfl,rfl⟩
 by_cases qa:op=11
 · subst qa; exact ⟨rfl,rfl⟩
 by_cases qj:op=12
 · subst qj; exact ⟨rfl,rfl⟩
 by_cases jq:op=13
 · subst jq; exact ⟨rfl,rfl⟩
 by_cases ph:op=14
 · subst ph; exact ⟨rfl,rfl⟩
 by_cases sj:op=15
 · subst sj; exact ⟨rfl,rfl⟩
 have hn:dk op=none:=by
   unfold dk;rw [if_neg (by omega),if_neg h3,if_neg h4,if_neg h5,if_neg h6,if_neg (by omega)]
 have hf:bB op (ig 9) 0=none:=by
   show bB op [(1,vS false 0,0),(2,vS false 0,1),(3,vS true 0,2),(4,vS true 1,3),(5,vS true (-1),4),(6,vS false 1,5),(7,vS false 2,6),(8,vS false 2,7),(9,vS false 2,8),(10,vS false 2,9),(11,vS false 2,10),(12,vS false 2,11),(13,vS false 2,12),(14,vS false 2,13),(15,vS false 2,14)] 0=none
   simp [bB,h1,h2,h3,h4,h5,h6,h7,h8,h9,gF,qa,qj,jq,ph,sj]
 rw [dO,oZ,hf,hn];exact ⟨O,O⟩
theorem Zi (op:Int):dO op jJ (vS false 0)=vS ((bz op).getD (false,0)).1 ((bz op).getD (false,0)).2/\oZ op jJ = !(bz op).isNone:=by
 by_cases h1:op=1
 · subst h1; exact ⟨rfl,rfl⟩
 by_cases h2:op=2
 · subst h2; exact ⟨rfl,rfl⟩
 by_cases h3:op=3
 · subst h3; exact ⟨rfl,rfl⟩
 by_cases h4:op=4
 · subst h4; exact ⟨rfl,rfl⟩
 by_cases h5:op=5
 · subst h5; exact ⟨rfl,rfl⟩
 by_cases h6:op=6
 · subst h6; exact ⟨rfl,rfl⟩
 by_cases h7:op=7
 · subst h7; exact ⟨rfl,rfl⟩
 have hn:bz op=none:=by
   unfold bz;rw [if_neg h1,if_neg h2,if_neg h3,if_neg (by omega)]
 have hf:bB op jJ 0=none:=by simp [jJ,bB,h1,h2,h3,h4,h5,h6,h7]
 rw [dO,oZ,hf,hn];exact ⟨O,O⟩
theorem Zj:∀a b:List Tx,aI (a++b)=aI a+aI b
 | [],b=>by apply aG.ext'<;>simp [aG.zo,aG.zp,aG.zq,aI,c0]
 | x::a,b=>by
   rw [List.cons_append,show ∀q,aI (x::q)=cB (!dL x)+aI q from λ_=>rfl,Zj a b,show ∀q,aI (x::q)=cB (!dL x)+aI q from λ_=>rfl,aG.gT]
theorem akx (s:Tx):aI [s]=cB (!dL s):=rfl
theorem aky {l:List Tx} {i:Nat} {s:Tx} (h:l[i]? = some s):aI (l.take (i+1))=aI (l.take i)+cB (!dL s):=by rw [iU h,Zj,akx]
theorem CG (c:aG):c+c0=c:=rfl
theorem akz (c:aG):c.f<=c.aT:=by unfold aG.aT; omega
theorem akA (c:aG):c.m<=c.aT:=by unfold aG.aT; omega
theorem akB (c:aG):c.k<=c.aT:=by unfold aG.aT; omega
theorem dc:e9 Tryz.prog 22 9 (st []) 1 16:=ja (by kernel_rfl)
theorem cz:eo Tryz.prog 22=some 1:=by kernel_rfl
theorem akC:Enters Tryz.prog 251:=enters_of Tryz.func251 (by kernel_rfl) rfl
theorem akD:Enters Tryz.prog 213:=enters_of Tryz.func213 (by kernel_rfl) rfl
theorem akE:Enters Tryz.prog 212:=enters_of Tryz.func212 (by kernel_rfl) rfl
theorem oC:fo Tryz.prog 274=some [(0,1),(1,1)]:=by kernel_rfl
theorem lA:zeroOf Tryz.prog 274=some (.agg #[.bool false,.int .i64 0]):=by kernel_rfl
theorem mJ:Tryz.prog.underlying 220=some (.map 3 274):=by kernel_rfl
theorem mixed:Tryz.prog.follows .mixedOrders=true:=by kernel_rfl
theorem zO:bw Tryz.prog 224 0=some 0:=by kernel_rfl
theorem zP:zi Tryz.prog 222=some (10,1):=by kernel_rfl
theorem di:cC Tryz.prog 3=some 1:=by kernel_rfl
theorem akF (w:World) :
   Calls Tryz.prog 213 #[] w λe w'=>∃r:Option Addr×Nat,e = .returned (.slice r.1 vl.length r.2)/\Ext w w'/\Sl rdStr 1 (nv w w') r.1 r.2 vl:=by
 refine enter Tryz.func213 O 2 O O ?_;refine CE (Vs:=[]) (Ws.init (by simp)) (ad (ae O (ab (ad ?_))));refine Lb Y O dc O O O O λb1=>?_;refine ae O (ab (aA ?_));refine WE.dA (gR O (gC O)) λw' hw=>?_
 exact ⟨(some ⟨b1,0,none⟩,15),O,hw.fr,⟨show vl.length<=15 by decide,show 15<=9223372036854775807 by decide,by simp,λj x hj=>⟨b1,0,O,λk v hk=>hw.NK 0 O (by
     have:k<1:=(List.getElem?_eq_some_iff.1 hk).1
     show (vl.flatMap cM)[0+j*1+k]? = some v
     rw [Nat.zero_add,ve iy hj this]; exact hk)⟩⟩⟩
theorem akG (H:View) (a:Option Addr) (c:Nat) (l:List Tx) (s:Tx) (w:World) (hH:Le H w) (hm:Sl rdStr 1 H a c l) :
   Calls Tryz.prog 251 #[.slice a l.length c,st s] w λe w'=>(∃n:Int,e = .returned (.int .i64 n)/\decide (0<=n)=l.contains s)/\Ext w w':=by
 have dR:=hm.cap;have eQ:=hm.max;refine enter Tryz.func251 O 19 O O ?_;refine CE (Vs:=[H]) (Ws.init (by simp [hH])) (ad (ae O (ab (Cs (ad (aa O (V0 (Yn cz O) (aa O (ab (Cb ?_))))))))));refine CW (ι:=Nat) (λi=>[(8,.int .i64 (i:Int))]) [(0,_),(1,_),(7,_)] (λi=>i<=l.length/\∀j,j<i->l[j]?≠some s) (λi=>l.length-i) 0 ⟨Nat.zero_le _,by simp⟩ (sc O (sc O (sc O (sc O sn)))) ?_;intro i ⟨hi,bT⟩;refine ad (V0 (bj O O) (ab (Cs ?_)));refine Cc O (λai=>?_) (λai=>?_)
 ·have av:i<l.length:=by simpa using ai
  obtain ⟨x,bn⟩:∃x,l[i]? = some x:=⟨_,List.getElem?_eq_getElem av⟩;obtain ⟨dW,dX,ha,cw⟩:=hm.aS i x bn;have cw:aR H dW (dX+i*1) (cM x):=cw;refine aE (Cs (Cb (ad (aa O (ae O (ab (ad (aa O (aa O (aa O (V0 (Yo cz O O (by assumption) (by omega)) ?_)))))))))));refine V0 (bo 0 bW O O (cw 0 _ O)) (V0 (y5 O O) (ab ?_));refine Cc O (λaw=>?_) (λaw=>?_)
  ·have heq:s=x:=by simpa using aw
   refine ad (aa O (ae O (ab (aA (bE (Er (Er (bE (Er ?_)))))))));refine R1 O O λw' hw=>?_;refine ⟨⟨_,O,?_⟩,hw.fr⟩;rw [decide_eq_true (by omega),List.contains_iff_mem.2 (by rw [heq]; exact List.mem_of_getElem? bn)]
  have de:¬s=x:=by simpa using aw
  refine Ck (Eb (Et (Cr (V0 (Yi O O O (by omega)) (aa O (Ln ?_))))));exact Ea (i+1) (by omega) ⟨by omega,λj hj=>by rcases Nat.lt_succ_iff_lt_or_eq.1 hj with h | rfl; exact bT j h; rw [bn]; intro e; injection e with e; exact de e.symm⟩ (sc rfl (sc rfl (sc rfl (sc rfl sn)))) (λ_ h=>h)
 have bP:¬i<l.length:=by simpa using ai
 have e_:l.contains s=false:=by
   rw [Bool.eq_false_iff];intro h;rw [List.contains_iff_mem] at h;obtain ⟨j,hj⟩:=List.getElem?_of_mem h;exact bT j (by have:=(List.getElem?_eq_some_iff.1 hj).1; omega) hj
 refine Ce (Ex (Ex (bA (Et (ad (ae O (ab (aA ?_))))))));refine R1 O O λw' hw=>?_;refine ⟨⟨_,O,?_⟩,hw.fr⟩;rw [e_]; rfl
theorem akH (H:View) (a:Option Addr) (c:Nat) (l:List Tx) (s:Tx) (w:World) (hH:Le H w) (hm:Sl rdStr 1 H a c l) :
   Calls Tryz.prog 212 #[.slice a l.length c,st s] w λe w'=>e = .returned (.bool (l.contains s))/\Ext w w':=by
 refine enter Tryz.func212 O 9 O O ?_;refine CE (Vs:=[H]) (Ws.init (by simp [hH])) (ad (ae O (ab (ad (aa O (aa O ?_))))))
 refine Ld Y O akC O (λn:Int=>.int .i64 n) (λ_ n=>decide (0<=n)=l.contains s) (λw hw=>(akG H a c l s w (hw.vs _ (by simp)) hm).mono λe w' h=>by
     obtain ⟨⟨n,h1,h2⟩,h3⟩:=h
     exact ⟨n,h1,h3,h2⟩) ?_
 intro F7 n7 hf7 h7;refine V0 (fm O O) (ae O (ab (aA ?_)));refine R1 O O λw' hw=>?_;exact ⟨by rw [h7],hw.fr⟩
theorem J3 (s:Tx) (w:World) :
   Calls Tryz.prog 167 #[st s] w λe w'=>e = .returned (.bool (dL s))/\Ext w w':=by
 refine enter Tryz.func167 O 11 O O ?_;refine CE (Vs:=[]) (Ws.init (by simp)) (ad (ae O (ab (ad (aa O (Lp Y O si O (λw hw=>sh _ w) (aa O ?_)))))));apply La 4 O O O O Y O O O O O
 ·intro du;refine Ld (.g O O O) O akD O (λr:Option Addr×Nat=>.slice r.1 vl.length r.2) (λH r=>Sl rdStr 1 H r.1 r.2 vl) (λw hw=>akF w) ?_;intro F6 r6 hf6 h6;refine Vg (Ym O) (Lp (.g O O O) O akE O (λw hw=>akH F6 r6.1 r6.2 vl s w (hw.vs _ (by simp)) h6) (Vg (dK O) ?_));refine WL.wk ?_ (Gt 4 O O O);exact λ_ h=>Ws.bF (h) (λ_ hm=>List.mem_append_right [_] hm)
 refine ae O (ab (aA ?_));refine R1 O O λw' hw=>?_;exact ⟨O,hw.fr⟩
theorem akI (w:World) :
   Calls Tryz.prog 124 #[] w λe w'=>∃b:Nat,e = .returned (.map (some b))/\Ws w [] [ah b (bh kI (ig 9) 15)] [] w':=by
 refine enter Tryz.func124 O 19 O O ?_;refine CE (Vs:=[]) (Ws.init (by simp)) (ad (ae O (ab (ad ?_))));refine WL.oY (λn:Int=>Value.int .i64 n) Y O λb3=>?_;refine V0 (Yb lA oC O O) ?_;refine WL.nh 0 km Y mJ ie O O O O ?_;refine V0 (Yb lA oC O O) ?_;refine WL.nh 0 km Y mJ ie O O O O ?_;refine V0 (Yb lA oC O O) ?_;refine WL.nh 0 km Y mJ ie O O O O ?_;refine V0 (Yb lA oC O O) ?_;refine WL.nh 0 km Y mJ ie O O O O ?_;refine V0 (Yb lA oC O O) ?_;refine WL.nh 0 km Y mJ ie O O O O ?_;refine V0 (Yb lA oC O O) ?_;refine WL.nh 0 km Y mJ ie O O O O ?_;refine aa O (bL 0 (bh kI (ig 0) (6+0)) O O (ae O (ab (Cs (ad (ae O (ab (Cb ?_))))))));refine cq (ι:=Nat) (λi=>[(2,.int .i64 ((7+i:Nat):Int))]) [(0,_),(1,_)] (λi=>Ws w [] [ah b3 (bh kI (ig i) (6+i))] []) (λi=>i<=9) (λi=>9-i) 0 (Nat.zero_le _) (sc O (sc O (sc O sn))) (λ_ h=>h) ?_;intro i hi;refine Cs (ad (aa O (V0 (iN O O) (ab ?_))));refine Cc O (λai=>?_) (λai=>?_)
 ·have av:i<9:=by simp at ai; omega
  refine aE (Cs (Cb (Cr (aa O (aa O (V0 (Yb lA oC O O) ?_))))));refine WL.rr 0 km Y mJ ie O O O O ?_;refine Ln (Eb (Et (Cr (aa O (V0 (IV (((7+i:Nat):Int)+1) O O O (by omega)) (ae O (Ln ?_)))))));rw [show (((7+i:Nat):Int)+1)=((7+(i+1):Nat):Int) by omega]
  exact Ea (i+1) (by omega) (by omega) (sc O (sc O (sc O sn))) (λ_ h=>by
    have h:=Ws.EJ h 0 rfl (congrArg (ah b3) (akw i av))
    exact h)
 have lB:i=9:=by simp at ai; omega
 subst lB;refine Ce (Ex (Ex (bA (Et (ad (aa O (ae O (ab (aA ?_)))))))));refine WE.dA (gR O (gC O)) λw' hw=>?_;exact ⟨b3,O,hw⟩
theorem akJ (w:World) :
   Calls Tryz.prog 125 #[] w λe w'=>∃b:Nat,e = .returned (.map (some b))/\Ws w [] [ah b (bh kI jJ 7)] [] w':=by
 refine enter Tryz.func125 O 10 O O ?_;refine CE (Vs:=[]) (Ws.init (by simp)) (ad (ae O (ab (ad ?_))));refine WL.oY (λn:Int=>Value.int .i64 n) Y O λb1=>?_;refine V0 (Yb lA oC O O) ?_;refine WL.nh 0 km Y mJ ie O O O O ?_;refine V0 (Yb lA oC O O) ?_;refine WL.nh 0 km Y mJ ie O O O O ?_;refine V0 (Yb lA oC O O) ?_;refine WL.nh 0 km Y mJ ie O O O O ?_;refine V0 (Yb lA oC O O) ?_;refine WL.nh 0 km Y mJ ie O O O O ?_;refine V0 (Yb lA oC O O) ?_;refine WL.nh 0 km Y mJ ie O O O O ?_;refine V0 (Yb lA oC O O) ?_;refine WL.nh 0 km Y mJ ie O O O O ?_;refine V0 (Yb lA oC O O) ?_;refine WL.nh 0 km Y mJ ie O O O O ?_;refine aa O (ae O (ab (aA ?_)));refine WE.dA (gR O (gC O)) λw' hw=>?_;exact ⟨b1,O,hw⟩
theorem x1 (vb be bs:Nat) (c:aG) (b:Bool) (w:World) (hb:c.aT<=4611686018427387904) (hw:Ws w [vb] [ah vb (.cells #[.int .i64 0,.int .i64 ((c).f:Int),.int .i64 ((c).m:Int),.int .i64 0,.int .i64 ((c).k:Int),.int .i64 0,.int .i64 0,.int .i64 0,.int .i64 0,.int .i64 0,.map (some be),.map (some bs)] 224 (0,0))] [] w) :
   Calls Tryz.prog 127 #[.pointer (some ⟨vb,0,none⟩),.bool b,.int .i64 1] w λe w'=>e = .returned (.tuple #[])/\Ws w [vb] [ah vb (.cells #[.int .i64 0,.int .i64 ((c+cB b).f:Int),.int .i64 ((c+cB b).m:Int),.int .i64 0,.int .i64 ((c+cB b).k:Int),.int .i64 0,.int .i64 0,.int .i64 0,.int .i64 0,.int .i64 0,.map (some be),.map (some bs)] 224 (0,0))] [] w':=by
 have hf:=akz c;refine enter Tryz.func127 O 17 O O ?_;refine CE hw (ad (aa O (ab ?_)));refine Cc O (λai=>?_) (λai=>?_)
 ·subst ai;refine WC.mr 0 [(0,true),(1,true),(2,true),(3,true),(4,true),(7,true),(8,true),(5,false),(6,true),(9,true),(10,false)] mixed (by kernel_rfl) (λ_ _ _ d _ h=>by cases d<;>exact h) ?_;refine D0 O (Wp 0) (Ym O) (D0 O (Wp 0) (Ym O) (D0 O (Wp 0) (bD O) (D0 O (Wp 0) (Yf zO O) (D0 O (Wp 0) (zj (i:=1) zP O O (by decide)) (D0 O (Wp 0) (bD O) (D0 O (Wp 0) (Yf zO O) ?_))))));refine De O (Wp 0) ?_;refine V0 (Yd 0 O O O ar) (Ln (Ed (D0 O (Wp 0) (Yi O O O (by omega)) (D0 O (Wp 0) (zj (i:=1) zP O O (by decide)) ?_))));refine De O (Wp 0) ?_;refine an 0 Y O O O di O O O (Ln (Ed ?_));refine WD.nil (Wp 0) ?_;refine E0 O λw' hw=>?_;exact ⟨O,hw⟩
 subst ai;refine Ck ?_;refine E0 O λw' hw=>?_;exact ⟨O,hw⟩
theorem CH (vb be bs:Nat) (c:aG) (b:Bool) (w:World) (hb:c.aT<=4611686018427387904) (hw:Ws w [vb] [ah vb (.cells #[.int .i64 0,.int .i64 ((c).f:Int),.int .i64 ((c).m:Int),.int .i64 0,.int .i64 ((c).k:Int),.int .i64 0,.int .i64 0,.int .i64 0,.int .i64 0,.int .i64 0,.map (some be),.map (some bs)] 224 (0,0))] [] w) :
   Calls Tryz.prog 127 #[.pointer (some ⟨vb,0,none⟩),.bool b,.int .i64 2] w λe w'=>e = .returned (.tuple #[])/\Ws w [vb] [ah vb (.cells #[.int .i64 0,.int .i64 ((c+bu b).f:Int),.int .i64 ((c+bu b).m:Int),.int .i64 0,.int .i64 ((c+bu b).k:Int),.int .i64 0,.int .i64 0,.int .i64 0,.int .i64 0,.int .i64 0,.map (some be),.map (some bs)] 224 (0,0))] [] w':=by
 have hm:=akA c;refine enter Tryz.func127 O 17 O O ?_;refine CE hw (ad (aa O (ab ?_)));refine Cc O (λai=>?_) (λai=>?_)
 ·subst ai;refine WC.mr 0 [(0,true),(1,true),(2,true),(3,true),(4,true),(7,true),(8,true),(5,false),(6,true),(9,true),(10,false)] mixed (by kernel_rfl) (λ_ _ _ d _ h=>by cases d<;>exact h) ?_;refine D0 O (Wp 0) (Ym O) (D0 O (Wp 0) (Ym O) (D0 O (Wp 0) (bD O) (D0 O (Wp 0) (Yf zO O) (D0 O (Wp 0) (zj (i:=2) zP O O (by decide)) (D0 O (Wp 0) (bD O) (D0 O (Wp 0) (Yf zO O) ?_))))));refine De O (Wp 0) ?_;refine V0 (Yd 0 O O O ar) (Ln (Ed (D0 O (Wp 0) (Yi O O O (by omega)) (D0 O (Wp 0) (zj (i:=2) zP O O (by decide)) ?_))));refine De O (Wp 0) ?_;refine an 0 Y O O O di O O O (Ln (Ed ?_));refine WD.nil (Wp 0) ?_;refine E0 O λw' hw=>?_;exact ⟨O,hw⟩
 subst ai;refine Ck ?_;refine E0 O λw' hw=>?_;exact ⟨O,hw⟩
theorem Qi (vb be bs:Nat) (c:aG) (b:Bool) (w:World) (hb:c.aT<=4611686018427387904) (hw:Ws w [vb] [ah vb (.cells #[.int .i64 0,.int .i64 ((c).f:Int),.int .i64 ((c).m:Int),.int .i64 0,.int .i64 ((c).k:Int),.int .i64 0,.int .i64 0,.int .i64 0,.int .i64 0,.int .i64 0,.map (some be),.map (some bs)] 224 (0,0))] [] w) :
   Calls Tryz.prog 127 #[.pointer (some ⟨vb,0,none⟩),.bool b,.int .i64 4] w λe w'=>e = .returned (.tuple #[])/\Ws w [vb] [ah vb (.cells #[.int .i64 0,.int .i64 ((c+cK b).f:Int),.int .i64 ((c+cK b).m:Int),.int .i64 0,.int .i64 ((c+cK b).k:Int),.int .i64 0,.int .i64 0,.int .i64 0,.int .i64 0,.int .i64 0,.map (some be),.map (some bs)] 224 (0,0))] [] w':=by
 have hk:=akB c;refine enter Tryz.func127 O 17 O O ?_;refine CE hw (ad (aa O (ab ?_)));refine Cc O (λai=>?_) (λai=>?_)
 ·subst ai;refine WC.mr 0 [(0,true),(1,true),(2,true),(3,true),(4,true),(7,true),(8,true),(5,false),(6,true),(9,true),(10,false)] mixed (by kernel_rfl) (λ_ _ _ d _ h=>by cases d<;>exact h) ?_;refine D0 O (Wp 0) (Ym O) (D0 O (Wp 0) (Ym O) (D0 O (Wp 0) (bD O) (D0 O (Wp 0) (Yf zO O) (D0 O (Wp 0) (zj (i:=4) zP O O (by decide)) (D0 O (Wp 0) (bD O) (D0 O (Wp 0) (Yf zO O) ?_))))));refine De O (Wp 0) ?_;refine V0 (Yd 0 O O O ar) (Ln (Ed (D0 O (Wp 0) (Yi O O O (by omega)) (D0 O (Wp 0) (zj (i:=4) zP O O (by decide)) ?_))));refine De O (Wp 0) ?_;refine an 0 Y O O O di O O O (Ln (Ed ?_));refine WD.nil (Wp 0) ?_;refine E0 O λw' hw=>?_;exact ⟨O,hw⟩
 subst ai;refine Ck ?_;refine E0 O λw' hw=>?_;exact ⟨O,hw⟩
theorem Qj:∀l:List Tx,(aI l).aT<=l.length
 | []=>Nat.le_refl _
 | s::r=>by
   have:=Qj r; have:=my (!dL s);rw [show aI (s::r)=cB (!dL s)+aI r from rfl,aG.cX,List.length_cons];omega
theorem Qk (n:Nat):decide ((3:Int)<(n:Int))=decide (3<n):=by rw [Bool.eq_iff_iff]; simp; omega
theorem Zk (x:az) (d:Nat):gE x d=if 6<d then ⟨0,1,0⟩ else cK (dk x.op).isNone+cO ((dk x.op).getD (false,0)) x.mod x.nm x.args.length+cB (jU x.op x.n)+bY x.args (d+1):=by
 cases x; rw [gE]; rfl
theorem Zl (d:Nat):∀a b:List az,bY (a++b) d=bY a d+bY b d
 | [],b=>by apply aG.ext'<;>simp [aG.zo,aG.zp,aG.zq,bY,c0]
 | x::a,b=>by
   rw [List.cons_append,show ∀q,bY (x::q) d=gE x d+bY q d from λq=>by rw [bY],Zl d a b,show ∀q,bY (x::q) d=gE x d+bY q d from λq=>by rw [bY],aG.gT]
theorem Zm {l:List az} {i:Nat} {x:az} (d:Nat) (h:l[i]? = some x):bY (l.take (i+1)) d=bY (l.take i) d+gE x d:=by
 rw [iU h,Zl,show bY [x] d=gE x d+c0 by rw [bY,bY],CG]
theorem Zn:∀(l:List az) (i:Nat),dH (l.take i)<=dH l
 | [],i=>by simp
 | x::r,0=>by simp [dH]
 | x::r,i+1=>by have:=Zn r i; simp only [List.take_succ_cons,dH]; omega
theorem Zo {l:List az} {i:Nat} {x:az} (h:l[i]? = some x):dH (l.take i)+wE x<=dH l:=by
 have h2:=Zn l (i+1);rw [iU h] at h2
 have:∀a b:List az,dH (a++b)=dH a+dH b:=by
   intro a b
   induction a with
   | nil=>simp [dH]
   | cons y a ih=>simp only [List.cons_append,dH,ih]; omega
 rw [this] at h2;simp only [dH] at h2;omega
theorem J4 (x:aH) (d:Nat):ey x d=cK (bz x.op).isNone+cO ((bz x.op).getD (false,0)) x.mod x.nm x.args.length+bY x.args 1+cB (h_ x.op x.body.length x.other.length)
     + (if (inner x.op||decide (0<x.body.length))=true then cQ x.body (d+1) else c0)+(if 0<x.other.length then cQ x.other (d+1) else c0):=by
 cases x; rw [ey]; rfl
theorem Zp (d:Nat):∀a b:List aH,bS (a++b) d=bS a d+bS b d
 | [],b=>by apply aG.ext'<;>simp [aG.zo,aG.zp,aG.zq,bS,c0]
 | x::a,b=>by
   rw [List.cons_append,show ∀q,bS (x::q) d=ey x d+bS q d from λq=>by rw [bS],Zp d a b,show ∀q,bS (x::q) d=ey x d+bS q d from λq=>by rw [bS],aG.gT]
theorem J5 {l:List aH} {i:Nat} {x:aH} (d:Nat) (h:l[i]? = some x):bS (l.take (i+1)) d=bS (l.take i) d+ey x d:=by
 rw [iU h,Zp,show bS [x] d=ey x d+c0 by rw [bS,bS],CG]
theorem Zq:∀(l:List aH) (i:Nat),cP (l.take i)<=cP l
 | [],i=>by simp
 | x::r,0=>by simp [cP]
 | x::r,i+1=>by have:=Zq r i; simp only [List.take_succ_cons,cP]; omega
theorem akK {l:List aH} {i:Nat} {x:aH} (h:l[i]? = some x):cP (l.take i)+wS x<=cP l:=by
 have h2:=Zq l (i+1);rw [iU h] at h2
 have:∀a b:List aH,cP (a++b)=cP a+cP b:=by
   intro a b
   induction a with
   | nil=>simp [cP]
   | cons y a ih=>simp only [List.cons_append,cP,ih]; omega
 rw [this] at h2;simp only [cP] at h2;omega
theorem J6:Enters Tryz.prog 167:=enters_of Tryz.func167 (by kernel_rfl) rfl
theorem l9:Enters Tryz.prog 127:=enters_of Tryz.func127 (by kernel_rfl) rfl
theorem FL:bw Tryz.prog 214 1=some 1:=by kernel_rfl
theorem CI:Enters Tryz.prog 126:=enters_of Tryz.func126 (by kernel_rfl) rfl
theorem CJ:bw Tryz.prog 214 0=some 0:=by kernel_rfl
theorem vM:bw Tryz.prog 214 3=some 3:=by kernel_rfl
theorem Zr:bw Tryz.prog 274 0=some 0:=by kernel_rfl
theorem vN:dQ Tryz.prog 4=true:=by kernel_rfl
theorem Zs:bw Tryz.prog 274 1=some 1:=by kernel_rfl
theorem CL (vb be bs:Nat) (H:View) (a:Option Addr) (n:Nat) (l:List Tx) (c:aG) (w:World) (hm:Sl rdStr 1 H a n l) (hb:c.aT+l.length<=4611686018427387904) (hw:Ws w [vb] [ah vb (.cells #[.int .i64 0,.int .i64 ((c).f:Int),.int .i64 ((c).m:Int),.int .i64 0,.int .i64 ((c).k:Int),.int .i64 0,.int .i64 0,.int .i64 0,.int .i64 0,.int .i64 0,.map (some be),.map (some bs)] 224 (0,0))] [H] w) :
   Calls Tryz.prog 126 #[.pointer (some ⟨vb,0,none⟩),.slice a l.length n] w λe w'=>e = .returned (.tuple #[])/\Ws w [vb] [ah vb (.cells #[.int .i64 0,.int .i64 ((c+aI l).f:Int),.int .i64 ((c+aI l).m:Int),.int .i64 0,.int .i64 ((c+aI l).k:Int),.int .i64 0,.int .i64 0,.int .i64 0,.int .i64 0,.int .i64 0,.map (some be),.map (some bs)] 224 (0,0))] [H] w':=by
 have dR:=hm.cap;have eQ:=hm.max;refine enter Tryz.func126 O 18 O O ?_;refine CE hw (ad (aa O (V0 (Yn cz O) (aa O (ab (Cb ?_))))));refine cq (ι:=Nat) (λi=>[(8,.int .i64 (i:Int))]) [(0,_),(6,_),(7,_)] (λi=>Ws w [vb] [ah vb (.cells #[.int .i64 0,.int .i64 ((c+aI (l.take i)).f:Int),.int .i64 ((c+aI (l.take i)).m:Int),.int .i64 0,.int .i64 ((c+aI (l.take i)).k:Int),.int .i64 0,.int .i64 0,.int .i64 0,.int .i64 0,.int .i64 0,.map (some be),.map (some bs)] 224 (0,0))] [H]) (λi=>i<=l.length) (λi=>l.length-i) 0 (Nat.zero_le _) (sc O (sc O (sc O (sc O sn)))) (λ_ h=>h) ?_;intro i hi;refine ad (V0 (bj O O) (ab (Cs ?_)));refine Cc O (λai=>?_) (λai=>?_)
 ·have av:i<l.length:=by simpa using ai
  obtain ⟨x,bn⟩:∃x,l[i]? = some x:=⟨_,List.getElem?_eq_getElem av⟩;obtain ⟨dW,dX,ha,cw⟩:=hm.aS i x bn;have cw:aR H dW (dX+i*1) (cM x):=cw
  have e2:c+aI (l.take i)+cB (!dL x)=c+aI (l.take (i+1)):=by rw [aky bn,aG.gT]
  have kO:(c+aI (l.take i)).aT<=4611686018427387904:=by
    rw [aG.cX];have:=Qj (l.take i);simp at this;omega
  refine aE (Cs (Cb (ad (V0 (Yo cz O O (by assumption) (by omega)) (V0 (bo 0 bW O O (cw 0 _ O)) (ae O (ab (Cr (aa O (aa O (Lp Y O J6 O (λw hw=>J3 _ w) ?_)))))))))));refine V0 (dK O) (eT [_] _ _ Y O l9 O O [] (by simp) (λw hw=>x1 vb be bs (c+aI (l.take i)) (!dL x) w (kO) hw) (Ln (Eb (Et (Cr (V0 (Yi O O O (by omega)) (aa O (Ln ?_))))))));rw [e2];exact Ea (i+1) (by omega) (by omega) (sc O (sc O (sc O (sc O sn)))) (λ_ h=>h)
 have bP:¬i<l.length:=by simpa using ai
 have hT:l.take i=l:=List.take_of_length_le (by omega);rw [hT];refine Ce (Ex (Ex (bA ?_)));refine E0 O λw' hw=>?_;exact ⟨O,hw⟩
theorem akL (vb be bs:Nat) (d:bM) (c:aG) (w:World) (hb:c.aT+4<=4611686018427387904) (hw:Ws w [vb] [ah vb (.cells #[.int .i64 0,.int .i64 ((c).f:Int),.int .i64 ((c).m:Int),.int .i64 0,.int .i64 ((c).k:Int),.int .i64 0,.int .i64 0,.int .i64 0,.int .i64 0,.int .i64 0,.map (some be),.map (some bs)] 224 (0,0))] [] w) :
   Calls Tryz.prog 128 #[.pointer (some ⟨vb,0,none⟩),.agg #[.int .i64 d.kind,st d.nm,.bool d.aL,.int .i64 d.n]] w λe w'=>e = .returned (.tuple #[])/\Ws w [vb] [ah vb (.cells #[.int .i64 0,.int .i64 ((c+gU d).f:Int),.int .i64 ((c+gU d).m:Int),.int .i64 0,.int .i64 ((c+gU d).k:Int),.int .i64 0,.int .i64 0,.int .i64 0,.int .i64 0,.int .i64 0,.map (some be),.map (some bs)] 224 (0,0))] [] w':=by
 have kO:(c+aI [d.nm]).aT<=4611686018427387904:=by
   rw [aG.cX];have:=Qj [d.nm];simp at this;omega
 refine enter Tryz.func128 O 44 O O ?_;refine CE hw (ad ?_);refine WL.box Y O O λb3=>?_;refine ab (ad (aa O (V0 (Yf FL O) (V0 (Yd 0 O O O bW) ?_))));refine Lb Y O dc O O O O λb7=>?_;refine gq (T:=9) (m:=1) 0 [d.nm] O O (show 1<=1 by decide) (by decide) λH7 Ql=>?_;refine Lf 1 O (eT [_] _ [ah vb (.cells #[.int .i64 0,.int .i64 ((c+aI [d.nm]).f:Int),.int .i64 ((c+aI [d.nm]).m:Int),.int .i64 0,.int .i64 ((c+aI [d.nm]).k:Int),.int .i64 0,.int .i64 0,.int .i64 0,.int .i64 0,.int .i64 0,.map (some be),.map (some bs)] 224 (0,0))] Y O CI O O [H7] (by simp) (λw hw=>CL vb be bs H7 _ _ [d.nm] (c) w Ql (by show c.aT+1<=_; omega) hw) (ab (ad (V0 (Yf CJ O) (V0 (Yd 1 O O O ar) (ab (Cb (ad (V0 (aW O O) (ae O ?_))))))))));refine ab ?_;refine Cc O (λai=>?_) (λai=>?_)
 ·have hk:d.kind=1:=by simpa using ai
  have e2:∀b,(b=(decide (d.n<0)||decide (1099511627775<d.n)))->c+aI [d.nm]+cB b=c+gU d:=λb hb=>by rw [hb,gU,if_pos hk,aG.gT]
  refine Cr (aa O (V0 (Yf vM O) (V0 (Yd 1 O O O ar) (V0 (bj O O) (aa O ?_)))));apply Lo 3 O O O O Y O O O O O
  ·intro du;refine Vg (Yf vM O) (Vg (Yd 1 O O O ar) (Vg (cI O O) ?_));exact Gt 3 O O O
  refine eT [_] _ _ Y O l9 O O [] (by simp) (λw hw=>x1 vb be bs (c+aI [d.nm]) (decide (d.n<0)||decide (1099511627775<d.n)) w (kO) hw) (Ln (Eb ?_));refine E0 O λw' hw=>?_;rw [e2 _ rfl] at hw;exact ⟨O,Wv 1 (Wt 1 hw)⟩
 have hk:¬d.kind=1:=by simpa using ai
 refine ad (V0 (aW O O) (ae O (ab ?_)));refine Cc O (λaw=>?_) (λaw=>?_)
 ·have e7:d.kind=2:=by simpa using aw
  have e2:∀b,(b=(!(d.n==0)))->c+aI [d.nm]+cB b=c+gU d:=λb hb=>by rw [hb,gU,if_neg hk,if_pos e7,aG.gT]
  refine Cr (aa O (V0 (Yf vM O) (V0 (Yd 1 O O O ar) (V0 (eL O O) (eT [_] _ _ Y O l9 O O [] (by simp) (λw hw=>x1 vb be bs (c+aI [d.nm]) (!(d.n==0)) w (kO) hw) (Ln (Eb ?_)))))));refine E0 O λw' hw=>?_;rw [e2 _ rfl] at hw;exact ⟨O,Wv 1 (Wt 1 hw)⟩
 have e7:¬d.kind=2:=by simpa using aw
 refine ad (V0 (aW O O) (ae O (ab ?_)));refine Cc O (λaO=>?_) (λaO=>?_)
 ·have sk:d.kind=3:=by simpa using aO
  have e2:∀b,(b=(decide (d.n<1)||decide (32<d.n)))->c+aI [d.nm]+cB b=c+gU d:=λb hb=>by rw [hb,gU,if_neg hk,if_neg e7,if_pos sk,aG.gT]
  refine Cr (aa O (V0 (Yf vM O) (V0 (Yd 1 O O O ar) (V0 (bj O O) (aa O ?_)))));apply Lo 3 O O O O Y O O O O O
  ·intro eh;refine Vg (Yf vM O) (Vg (Yd 1 O O O ar) (Vg (cI O O) ?_));exact Gt 3 O O O
  refine eT [_] _ _ Y O l9 O O [] (by simp) (λw hw=>x1 vb be bs (c+aI [d.nm]) (decide (d.n<1)||decide (32<d.n)) w (kO) hw) (Ln (Eb ?_));refine E0 O λw' hw=>?_;rw [e2 _ rfl] at hw;exact ⟨O,Wv 1 (Wt 1 hw)⟩
 have sk:¬d.kind=3:=by simpa using aO
 have e2:∀b,(b=true)->c+aI [d.nm]+cK b=c+gU d:=λb hb=>by rw [hb,gU,if_neg hk,if_neg e7,if_neg sk,aG.gT]
 refine Cr (aa O (eT [_] _ _ Y O l9 O O [] (by simp) (λw hw=>Qi vb be bs (c+aI [d.nm]) (true) w (kO) hw) (Ln (Eb ?_))));refine E0 O λw' hw=>?_;rw [e2 _ rfl] at hw;exact ⟨O,Wv 1 (Wt 1 hw)⟩
theorem Zt (vb be bs:Nat) (r:Bool) (a:Int) (mod nm:Tx) (len:Nat) (c:aG) (w:World) (hb:c.aT+4<=4611686018427387904) (hl:mod.length+nm.length<=9223372036854775807) (hw:Ws w [vb] [ah vb (.cells #[.int .i64 0,.int .i64 ((c).f:Int),.int .i64 ((c).m:Int),.int .i64 0,.int .i64 ((c).k:Int),.int .i64 0,.int .i64 0,.int .i64 0,.int .i64 0,.int .i64 0,.map (some be),.map (some bs)] 224 (0,0))] [] w) :
   Calls Tryz.prog 170 #[.pointer (some ⟨vb,0,none⟩),.agg #[.bool r,.int .i64 a],st mod,st nm,.int .i64 (len:Int)] w λe w'=>e = .returned (.tuple #[])/\Ws w [vb] [ah vb (.cells #[.int .i64 0,.int .i64 ((c+cO (r,a) mod nm len).f:Int),.int .i64 ((c+cO (r,a) mod nm len).m:Int),.int .i64 0,.int .i64 ((c+cO (r,a) mod nm len).k:Int),.int .i64 0,.int .i64 0,.int .i64 0,.int .i64 0,.int .i64 0,.map (some be),.map (some bs)] 224 (0,0))] [] w':=by
 have h1:(c+cB (hY r mod nm)).aT<=4611686018427387904:=by rw [aG.cX]; have:=my (hY r mod nm); omega
 have h2:(c+cB (hY r mod nm)+cB (nn a len)).aT<=4611686018427387904:=by rw [aG.cX,aG.cX]; have:=my (hY r mod nm); have:=my (nn a len); omega
 have e3:c+cB (hY r mod nm)+cB (nn a len)+bu (decide (3<len))=c+cO (r,a) mod nm len:=by rw [cO,aG.gT,aG.gT,aG.gT]
 refine enter Tryz.func170 O 54 O O ?_;refine CE hw (ad ?_);refine WL.box Y O O λb6=>?_;refine ab (ad (aa O (V0 (Yf Zr O) (V0 (Yd 0 O O O vN) (aa O ?_)))));apply La 12 O O O O Y O O O O O
 ·intro du;refine Vg (Ym O) (Vg (IB O O) (Vg (Ym O) ?_));apply La 3 O O O O (.g O O O) O O O O O
  ·intro eh;refine Vg (Ym O) (Lp (.g O O O) O J6 O (λw hw=>J3 _ w) (Vg (dK O) ?_));exact Gt 3 O O O
  refine Vg (Ym O) ?_;apply Lo 3 O O O O (.g O O O) O O O O O
  ·intro fB;refine Vg (Ym O) (Lp (.g O O O) O J6 O (λw hw=>J3 _ w) (Vg (dK O) ?_));exact Gt 3 O O O
  exact Gt 6 O O O
 refine aa O ?_;apply Lo 9 O O O O Y O O O O O
 ·intro l_;refine Vg (Yf Zr O) (Vg (Yd 0 O O O vN) (Vg (dK O) (Vg (Ym O) ?_)));apply La 4 O O O O (.g O O O) O O O O O
  ·intro vO;refine Vg (Ym O) (Vg (Ym O) (Vg (aff O O hl) (Vg (IB O O) ?_)));exact Gt 4 O O O
  exact Gt 5 O O O
 refine Lf 1 O (eT [_] _ _ Y O l9 O O [] (by simp) (λw hw=>x1 vb be bs (c) (hY r mod nm) w (by omega) hw) (ab (ad (aa O (V0 (Yf Zs O) (V0 (Yd 1 O O O ar) (V0 (fm O O) (aa O ?_))))))));apply La 4 O O O O Y O O O O O
 ·intro x3;refine Vg (Ym O) (Vg (Yf Zs O) (Vg (Yd 1 O O O ar) (Vg (eL O O) ?_)));exact Gt 4 O O O
 refine eT [_] _ _ Y O l9 O O [] (by simp) (λw hw=>x1 vb be bs (c+cB (hY r mod nm)) (nn a len) w (h1) hw) (ab (Cr (aa O (aa O (V0 (cI O O) ?_)))));rw [Qk];refine eT [_] _ _ Y O l9 O O [] (by simp) (λw hw=>CH vb be bs (c+cB (hY r mod nm)+cB (nn a len)) (decide (3<len)) w (h2) hw) (Ln ?_);refine E0 O λw' hw=>?_;rw [e3] at hw;exact ⟨O,Wt 1 hw⟩
theorem akM:bw Tryz.prog 224 1=some 10:=by kernel_rfl
theorem Zu:dQ Tryz.prog 220=true:=by kernel_rfl
theorem zQ:bw Tryz.prog 263 0=some 0:=by kernel_rfl
theorem Zv:cC Tryz.prog 274=some 2:=by kernel_rfl
theorem Zw:gj Tryz.prog 274=some 2:=by kernel_rfl
theorem J7:bw Tryz.prog 263 2=some 2:=by kernel_rfl
theorem J8:bw Tryz.prog 263 3=some 3:=by kernel_rfl
theorem CM:bw Tryz.prog 263 4=some 4:=by kernel_rfl
theorem x4:dQ Tryz.prog 240=true:=by kernel_rfl
theorem t_:eo Tryz.prog 240=some 5:=by kernel_rfl
theorem Zx:Enters Tryz.prog 170:=enters_of Tryz.func170 (by kernel_rfl) rfl
theorem J9:bw Tryz.prog 263 1=some 1:=by kernel_rfl
theorem kE:gj Tryz.prog 263=some 5:=by kernel_rfl
theorem js:zeroOf Tryz.prog 263=some (.agg #[.int .i64 0,.int .i64 0,st [],st [],.slice none 0 0]):=by kernel_rfl
theorem nF:cC Tryz.prog 263=some 5:=by kernel_rfl
theorem Zy:Enters Tryz.prog 171:=enters_of Tryz.func171 (by kernel_rfl) rfl
theorem akN (vb be bs:Nat) (H:View) (k:Nat) (x:az) (a:Option Addr) (n:Nat) (d:Nat) (c:aG) (w:World) (hm:Sl (eU k) 5 H a n x.args) (hb:c.aT+8*wE x<=1152921504606846976) (hw:Ws w [vb,be,bs] [ah vb (.cells #[.int .i64 0,.int .i64 ((c).f:Int),.int .i64 ((c).m:Int),.int .i64 0,.int .i64 ((c).k:Int),.int .i64 0,.int .i64 0,.int .i64 0,.int .i64 0,.int .i64 0,.map (some be),.map (some bs)] 224 (0,0)),ah be (bh kI (ig 9) 15),ah bs (bh kI jJ 7)] [H] w) :
   Calls Tryz.prog 171 #[.pointer (some ⟨vb,0,none⟩),.agg #[.int .i64 x.op,.int .i64 x.n,st x.mod,st x.nm,.slice a x.args.length n],.int .i64 (d:Int)] w λe w'=>e = .returned (.tuple #[])/\Ws w [vb,be,bs] [ah vb (.cells #[.int .i64 0,.int .i64 ((c+gE x d).f:Int),.int .i64 ((c+gE x d).m:Int),.int .i64 0,.int .i64 ((c+gE x d).k:Int),.int .i64 0,.int .i64 0,.int .i64 0,.int .i64 0,.int .i64 0,.map (some be),.map (some bs)] 224 (0,0)),ah be (bh kI (ig 9) 15),ah bs (bh kI jJ 7)] [H] w':=by
 induction k using Nat.strongRecOn generalizing x a n d c w
 rename_i k ih;have dR:=hm.cap;have eQ:=hm.max;have hw8:=VJ x;have bP:dO x.op (ig 9) (.agg #[.bool false,.int .i64 0]) = .agg #[.bool ((dk x.op).getD (false,0)).1,.int .i64 ((dk x.op).getD (false,0)).2]:=(Zh x.op).1;have Qm:=(Zh x.op).2;have t1:=ET (dk x.op).isNone;have t2:=Je ((dk x.op).getD (false,0)) x.mod x.nm x.args.length;have t3:=my (jU x.op x.n);refine enter Tryz.func171 O 76 O O ?_;refine CE hw (ad ?_);refine WL.box Y O O λb4=>?_;refine ab (Cs (ad (aa O (V0 (cI O O) (ab ?_)))));refine Cc O (λai=>?_) (λai=>?_)
 ·have hd:6<d:=by simp at ai; omega
  refine ad (aa O (Lf 1 O (eT [_] _ _ Y O l9 O O [] (by simp) (λw hw=>CH vb be bs (c) (true) w (by omega) hw) (ab (aA (Er ?_))))));refine WE.Iy O λw' hw=>?_;rw [show c+gE x d=c+bu true by rw [Zk,if_pos hd]; rfl];exact ⟨O,(by have h:=hw; have h:=h.aX 3 O; have h:=h.aX 3 O; have h:=h.aX 2 O; exact Wt 3 h)⟩
 have hd:¬6<d:=by simp at ai; omega
 have hE:c+gE x d=c+cK (dk x.op).isNone+cO ((dk x.op).getD (false,0)) x.mod x.nm x.args.length+cB (jU x.op x.n)+bY x.args (d+1):=by rw [Zk,if_neg hd,aG.gT,aG.gT,aG.gT,aG.gT,aG.gT]
 have J_:(c+cK (dk x.op).isNone).aT<=1152921504606846980:=by rw [aG.cX]; omega
 have Ka:(c+cK (dk x.op).isNone+cO ((dk x.op).getD (false,0)) x.mod x.nm x.args.length).aT<=1152921504606846990:=by rw [aG.cX,aG.cX]; omega
 refine aE (Cs ?_);refine WC.nc [(0,true),(1,true),(2,true),(3,true),(4,true),(5,true),(6,true),(7,true),(8,true),(9,true),(10,false),(11,false),(12,false)] mixed (by kernel_rfl) (λ_ _ _ d _ h=>by cases d<;>exact h) ?_;refine D0 O (λ_ h=>h) (Ym O) (D0 O (λ_ h=>h) (bD O) (D0 O (λ_ h=>h) (Yf akM O) (D0 O (λ_ h=>h) (Yd 1 O O O Zu) (D0 O (λ_ h=>h) (Yf zQ O) (D0 O (λ_ h=>h) (Yd 0 O O O ar) (D0 O (λ_ h=>h) (I8 2 km mJ ie lA O O O) ?_))))));rw [bP,Qm];refine D0 O (λ_ h=>h) (Ym O) (D0 O (λ_ h=>h) (Yx O O) (D0 O (λ_ h=>h) (Yx O O) ?_));refine De O (λ_ h=>h) ?_;refine Al Y O lA λb6=>?_;refine Ln (Ed ?_);refine De O (λ_ h=>(Wd 1 h:)) ?_;refine an 0 Y O O O Zv O O O (Ln (Ed ?_));refine De O (λ_ h=>(Wd 1 h:)) ?_;refine ae O (Ln (Ed ?_));refine WD.nil (λ_ h=>(Wd 1 h:)) ?_;refine Et (ad (aa O (aa O (V0 (dK O) ?_))));rw [Bool.not_not];refine Lf 2 O (eT [_] _ _ Y O l9 O O [] (by simp) (λw hw=>Qi vb be bs (c) ((dk x.op).isNone) w (by omega) hw) (ab (ad (aa O (V0 (bk 1 O O Zw O) (V0 (Yf J7 O) (V0 (Yd 2 O O O bW) (V0 (Yf J8 O) ?_))))))));refine V0 (Yd 2 O O O bW) (V0 (Yf CM O) (V0 (Yd 2 O O O x4) (V0 (Yn t_ O) (eT [_] _ _ Y O Zx O O [] (by simp) (λw hw=>Zt vb be bs ((dk x.op).getD (false,0)).1 ((dk x.op).getD (false,0)).2 x.mod x.nm x.args.length (c+cK (dk x.op).isNone) w (by omega) (by omega) hw) (ab (ad (aa O (V0 (Yf zQ O) ?_))))))));refine V0 (Yd 2 O O O ar) (V0 (aW O O) (aa O ?_));apply La 8 O O O O Y O O O O O
 ·intro du;refine Vg (Yf J9 O) (Vg (Yd 2 O O O ar) (Vg (bj O O) (Vg (Ym O) ?_)));apply Lo 3 O O O O (.g O O O) O O O O O
  ·intro eh;refine Vg (Yf J9 O) (Vg (Yd 2 O O O ar) (Vg (cI O O) ?_));exact Gt 3 O O O
  exact Gt 5 O O O
 refine aa O ?_;apply Lo 8 O O O O Y O O O O O
 ·intro fB;refine Vg (Yf zQ O) (Vg (Yd 2 O O O ar) (Vg (eL O O) (Vg (Ym O) ?_)));apply La 3 O O O O (.g O O O) O O O O O
  ·intro l_;refine Vg (Yf J9 O) (Vg (Yd 2 O O O ar) (Vg (eL O O) ?_));exact Gt 3 O O O
  exact Gt 5 O O O
 refine eT [_] _ _ Y O l9 O O [] (by simp) (λw hw=>x1 vb be bs (c+cK (dk x.op).isNone+cO ((dk x.op).getD (false,0)) x.mod x.nm x.args.length) (jU x.op x.n) w (by omega) hw) (ab (ad (V0 (Yf CM O) (V0 (Yd 2 O O O x4) (V0 (Yn t_ O) (aa O (ab (Cb ?_))))))));refine cq (ι:=Nat) (λi=>[(66,.int .i64 (i:Int))]) [(0,_),(2,_),(64,_),(65,_)] (λi=>Ws w [vb,be,bs] [ah vb (.cells #[.int .i64 0,.int .i64 ((c+cK (dk x.op).isNone+cO ((dk x.op).getD (false,0)) x.mod x.nm x.args.length+cB (jU x.op x.n)+bY (x.args.take i) (d+1)).f:Int),.int .i64 ((c+cK (dk x.op).isNone+cO ((dk x.op).getD (false,0)) x.mod x.nm x.args.length+cB (jU x.op x.n)+bY (x.args.take i) (d+1)).m:Int),.int .i64 0,.int .i64 ((c+cK (dk x.op).isNone+cO ((dk x.op).getD (false,0)) x.mod x.nm x.args.length+cB (jU x.op x.n)+bY (x.args.take i) (d+1)).k:Int),.int .i64 0,.int .i64 0,.int .i64 0,.int .i64 0,.int .i64 0,.map (some be),.map (some bs)] 224 (0,0)),ah be (bh kI (ig 9) 15),ah bs (bh kI jJ 7)] [H]) (λi=>i<=x.args.length) (λi=>x.args.length-i) 0 (Nat.zero_le _) (sc O (sc O (sc O (sc O (sc O sn))))) (λ_ h=>(Wt 3 (((h.f 4 O).f 4 O).f 2 O):)) ?_;intro i hi;refine ad (V0 (bj O O) (ab (Cs ?_)));refine Cc O (λaw=>?_) (λaw=>?_)
 ·have av:i<x.args.length:=by simpa using aw
  obtain ⟨y,bK⟩:∃q,x.args[i]? = some q:=⟨_,List.getElem?_eq_getElem av⟩;obtain ⟨jK,jL,eX,cV⟩:=hm.aS i y bK
  obtain ⟨k',rfl⟩:∃k',k=k'+1:=by
    cases k with
    | zero=>exact cV.elim
    | succ k'=>exact ⟨k',rfl⟩
  obtain ⟨ya,yn,cw,hP⟩:=cV;have Qn:=Zo bK;have hle:=BQ (x.args.take i) (d+1)
  have Zz:(c+cK (dk x.op).isNone+cO ((dk x.op).getD (false,0)) x.mod x.nm x.args.length+cB (jU x.op x.n)+bY (x.args.take i) (d+1)).aT+8*wE y<=1152921504606846976:=by rw [aG.cX,aG.cX,aG.cX,aG.cX]; omega
  have e2:c+cK (dk x.op).isNone+cO ((dk x.op).getD (false,0)) x.mod x.nm x.args.length+cB (jU x.op x.n)+bY (x.args.take i) (d+1)+gE y (d+1)=c+cK (dk x.op).isNone+cO ((dk x.op).getD (false,0)) x.mod x.nm x.args.length+cB (jU x.op x.n)+bY (x.args.take (i+1)) (d+1):=by rw [Zm (d+1) bK,<-aG.gT]
  refine aE (Cs (Cb (ad (V0 (Yo t_ O O eX (by omega)) (V0 (cJ 0 kE O O O (cw)) ?_)))));refine Al Y O js λb9=>?_;refine an 0 Y O O O nF O O O (ab (Cr (aa O (V0 (bk 0 O O kE O) (aa O (V0 (Yi O O O (by omega)) (Lf 3 O (Lf 3 O ?_))))))));refine Lf 3 O ?_
  refine eT [_,_,_] _ [ah vb (.cells #[.int .i64 0,.int .i64 ((c+cK (dk x.op).isNone+cO ((dk x.op).getD (false,0)) x.mod x.nm x.args.length+cB (jU x.op x.n)+bY (x.args.take i) (d+1)+gE y (d+1)).f:Int),.int .i64 ((c+cK (dk x.op).isNone+cO ((dk x.op).getD (false,0)) x.mod x.nm x.args.length+cB (jU x.op x.n)+bY (x.args.take i) (d+1)+gE y (d+1)).m:Int),.int .i64 0,.int .i64 ((c+cK (dk x.op).isNone+cO ((dk x.op).getD (false,0)) x.mod x.nm x.args.length+cB (jU x.op x.n)+bY (x.args.take i) (d+1)+gE y (d+1)).k:Int),.int .i64 0,.int .i64 0,.int .i64 0,.int .i64 0,.int .i64 0,.map (some be),.map (some bs)] 224 (0,0)),ah be (bh kI (ig 9) 15),ah bs (bh kI jJ 7)] Y O Zy O O [H] (by simp) (λw hw=>by
      have:=ih k' (by omega) y ya yn (d+1) (c+cK (dk x.op).isNone+cO ((dk x.op).getD (false,0)) x.mod x.nm x.args.length+cB (jU x.op x.n)+bY (x.args.take i) (d+1)) w hP Zz hw
      exact this) ?_
  refine Ln (Eb (Et (Cr (V0 (Yi O O O (by omega)) (aa O (Ln ?_))))));rw [e2];exact Ea (i+1) (by omega) (by omega) (sc O (sc O (sc O (sc O (sc O sn))))) (λ_ h=>(Wt 3 h:))
 have vP:¬i<x.args.length:=by simpa using aw
 rw [List.take_of_length_le (by omega),<-hE];refine Ce (Ex (Ex (bA ?_)));refine E0 O λw' hw=>?_;exact ⟨O,hw⟩
theorem CN (c:aG):c0+c=c:=by apply aG.ext'<;>simp [aG.zo,aG.zp,aG.zq,c0]
theorem FM (n:Nat):decide ((0:Int)<(n:Int))=decide (0<n):=by rw [Bool.eq_iff_iff]; simp
theorem ZA (n:Nat):decide ((10:Int)<(n:Int))=decide (10<n):=by rw [Bool.eq_iff_iff]; simp; omega
theorem akO {l:List aH} {d:Nat} (h:¬6<d):cQ l d=bu (decide (10<l.length))+bS l d:=by rw [cQ,o0,if_neg h]
theorem so:eo Tryz.prog 48=some 6:=by kernel_rfl
theorem j3:gj Tryz.prog 242=some 6:=by kernel_rfl
theorem vQ:zeroOf Tryz.prog 242=some (.agg #[.int .i64 0,st [],st [],.slice none 0 0,.slice none 0 0,.slice none 0 0]):=by kernel_rfl
theorem sq:cC Tryz.prog 242=some 6:=by kernel_rfl
theorem akP:bw Tryz.prog 224 2=some 11:=by kernel_rfl
theorem pn:bw Tryz.prog 242 0=some 0:=by kernel_rfl
theorem FN:bw Tryz.prog 242 1=some 1:=by kernel_rfl
theorem FO:bw Tryz.prog 242 2=some 2:=by kernel_rfl
theorem qt:bw Tryz.prog 242 3=some 3:=by kernel_rfl
theorem CO:bw Tryz.prog 242 4=some 4:=by kernel_rfl
theorem nG:dQ Tryz.prog 48=true:=by kernel_rfl
theorem x5:bw Tryz.prog 242 5=some 5:=by kernel_rfl
theorem FR:Enters Tryz.prog 129:=enters_of Tryz.func129 (by kernel_rfl) rfl
theorem ZB (vb be bs:Nat) (H:View) (ke k:Nat) (l:List aH) (a:Option Addr) (n:Nat) (d:Nat) (c:aG) (w:World) (hm:Sl (gn ke k) 6 H a n l) (hb:c.aT+2+8*cP l<=1152921504606846976) (hw:Ws w [vb,be,bs] [ah vb (.cells #[.int .i64 0,.int .i64 ((c).f:Int),.int .i64 ((c).m:Int),.int .i64 0,.int .i64 ((c).k:Int),.int .i64 0,.int .i64 0,.int .i64 0,.int .i64 0,.int .i64 0,.map (some be),.map (some bs)] 224 (0,0)),ah be (bh kI (ig 9) 15),ah bs (bh kI jJ 7)] [H] w) :
   Calls Tryz.prog 129 #[.pointer (some ⟨vb,0,none⟩),.slice a l.length n,.int .i64 (d:Int)] w λe w'=>e = .returned (.tuple #[])/\Ws w [vb,be,bs] [ah vb (.cells #[.int .i64 0,.int .i64 ((c+cQ l d).f:Int),.int .i64 ((c+cQ l d).m:Int),.int .i64 0,.int .i64 ((c+cQ l d).k:Int),.int .i64 0,.int .i64 0,.int .i64 0,.int .i64 0,.int .i64 0,.map (some be),.map (some bs)] 224 (0,0)),ah be (bh kI (ig 9) 15),ah bs (bh kI jJ 7)] [H] w':=by
 induction k using Nat.strongRecOn generalizing l a n d c w
 rename_i k ih;have dR:=hm.cap;have eQ:=hm.max;have tM:=BP (decide (10<l.length));refine enter Tryz.func129 O 116 O O ?_;refine CE hw (Cs (ad (aa O (V0 (cI O O) (ab ?_)))));refine Cc O (λai=>?_) (λai=>?_)
 ·have hd:6<d:=by simp at ai; omega
  refine ad (aa O (eT [_] _ _ Y O l9 O O [] (by simp) (λw hw=>CH vb be bs (c) (true) w (by omega) hw) (ab (aA (Er ?_)))));refine WE.Iy O λw' hw=>?_;rw [show c+cQ l d=c+bu true by rw [cQ,o0,if_pos hd]; rfl];exact ⟨O,hw⟩
 have hd:¬6<d:=by simp at ai; omega
 refine aE (ad (aa O (aa O (V0 (Yn so O) (V0 (cI O O) ?_)))));rw [ZA];refine eT [_] _ _ Y O l9 O O [] (by simp) (λw hw=>CH vb be bs (c) (decide (10<l.length)) w (by omega) hw) (ab (ad (aa O (V0 (Yn so O) (aa O (ab (Cb ?_)))))));refine cq (ι:=Nat) (λi=>[(24,.int .i64 (i:Int))]) [(0,_),(2,_),(22,_),(23,_)] (λi=>Ws w [vb,be,bs] [ah vb (.cells #[.int .i64 0,.int .i64 ((c+bu (decide (10<l.length))+bS (l.take i) d).f:Int),.int .i64 ((c+bu (decide (10<l.length))+bS (l.take i) d).m:Int),.int .i64 0,.int .i64 ((c+bu (decide (10<l.length))+bS (l.take i) d).k:Int),.int .i64 0,.int .i64 0,.int .i64 0,.int .i64 0,.int .i64 0,.map (some be),.map (some bs)] 224 (0,0)),ah be (bh kI (ig 9) 15),ah bs (bh kI jJ 7)] [H]) (λi=>i<=l.length) (λi=>l.length-i) 0 (Nat.zero_le _) (sc O (sc O (sc O (sc O (sc O sn))))) (λ_ h=>h) ?_;intro i hi;refine ad (V0 (bj O O) (ab (Cs ?_)));refine Cc O (λaw=>?_) (λaw=>?_)
 ·have av:i<l.length:=by simpa using aw
  obtain ⟨y,bK⟩:∃q,l[i]? = some q:=⟨_,List.getElem?_eq_getElem av⟩;obtain ⟨jK,jL,eX,cV⟩:=hm.aS i y bK
  obtain ⟨k',rfl⟩:∃k',k=k'+1:=by
    cases k with
    | zero=>exact cV.elim
    | succ k'=>exact ⟨k',rfl⟩
  obtain ⟨ya,yn,y2,m2,y3,m3,cw,iE,gX,kF⟩:=cV;have Qn:=akK bK;have hwy:=VK y;have hle:=EU (l.take i) d;have t1:=ET (bz y.op).isNone;have t2:=Je ((bz y.op).getD (false,0)) y.mod y.nm y.args.length;have t3:=my (h_ y.op y.body.length y.other.length);have t4:=BQ y.args 1;have t5:=Ou y.body (d+1);have bP:dO y.op jJ (.agg #[.bool false,.int .i64 0]) = .agg #[.bool ((bz y.op).getD (false,0)).1,.int .i64 ((bz y.op).getD (false,0)).2]:=(Zi y.op).1;have Qm:=(Zi y.op).2;have azf:=iE.cap;have azg:=iE.max;have akQ:=gX.cap;have max2:=gX.max;have akR:=kF.cap;have akS:=kF.max
  have sg:(c+bu (decide (10<l.length))+bS (l.take i) d).aT<=1152921504606846976:=by simp only [aG.cX]; omega
  have oz:(c+bu (decide (10<l.length))+bS (l.take i) d+cK (bz y.op).isNone).aT+4<=1152921504606846976:=by simp only [aG.cX]; omega
  have Qo:(c+bu (decide (10<l.length))+bS (l.take i) d+cK (bz y.op).isNone+cO ((bz y.op).getD (false,0)) y.mod y.nm y.args.length+bY y.args 1).aT<=1152921504606846976:=by simp only [aG.cX]; omega
  have Kb:(c+bu (decide (10<l.length))+bS (l.take i) d+cK (bz y.op).isNone+cO ((bz y.op).getD (false,0)) y.mod y.nm y.args.length+bY y.args 1+cB (h_ y.op y.body.length y.other.length)).aT+2+8*cP y.body<=1152921504606846976:=by simp only [aG.cX]; omega
  have Kc:(c+bu (decide (10<l.length))+bS (l.take i) d+cK (bz y.op).isNone+cO ((bz y.op).getD (false,0)) y.mod y.nm y.args.length+bY y.args 1+cB (h_ y.op y.body.length y.other.length)+cQ y.body (d+1)).aT+2+8*cP y.other<=1152921504606846976:=by simp only [aG.cX]; omega
  have Qp:(c+bu (decide (10<l.length))+bS (l.take i) d+cK (bz y.op).isNone+cO ((bz y.op).getD (false,0)) y.mod y.nm y.args.length+bY y.args 1+cB (h_ y.op y.body.length y.other.length)).aT+2+8*cP y.other<=1152921504606846976:=by simp only [aG.cX]; omega
  refine aE (Cs (Cb (ad (V0 (Yo so O O eX (by omega)) (V0 (cJ 0 j3 O O O (cw)) ?_)))));refine Al Y O vQ λb7=>?_;refine an 0 Y O O O sq O O O (ab (Cs ?_));refine WC.nc [(0,true),(1,true),(2,true),(3,true),(4,true),(5,true),(6,true),(7,true),(8,true),(9,true),(10,false),(11,false),(12,false)] mixed (by kernel_rfl) (λ_ _ _ d _ h=>by cases d<;>exact h) ?_;refine D0 O (λ_ h=>h) (Ym O) (D0 O (λ_ h=>h) (bD O) (D0 O (λ_ h=>h) (Yf akP O) (D0 O (λ_ h=>h) (Yd 1 O O O Zu) (D0 O (λ_ h=>h) (Yf pn O) (D0 O (λ_ h=>h) (Yd 0 O O O ar) (D0 O (λ_ h=>h) (I8 3 km mJ ie lA O O O) ?_))))));rw [bP,Qm];refine D0 O (λ_ h=>h) (Ym O) (D0 O (λ_ h=>h) (Yx O O) (D0 O (λ_ h=>h) (Yx O O) ?_));refine De O (λ_ h=>h) ?_;refine Al Y O lA λb8=>?_;refine Ln (Ed ?_);refine De O (λ_ h=>(Wd 1 h:)) ?_;refine an 0 Y O O O Zv O O O (Ln (Ed ?_));refine De O (λ_ h=>(Wd 1 h:)) ?_;refine ae O (Ln (Ed ?_));refine WD.nil (λ_ h=>(Wd 1 h:)) ?_;refine Et (ad (aa O (aa O (V0 (dK O) ?_))));rw [Bool.not_not];refine Lf 2 O (eT [_] _ _ Y O l9 O O [] (by simp) (λw hw=>Qi vb be bs (c+bu (decide (10<l.length))+bS (l.take i) d) ((bz y.op).isNone) w (by omega) hw) (ab (ad (aa O (V0 (bk 1 O O Zw O) (V0 (Yf FN O) (V0 (Yd 2 O O O bW) (V0 (Yf FO O) ?_))))))));refine V0 (Yd 2 O O O bW) (V0 (Yf qt O) (V0 (Yd 2 O O O x4) (V0 (Yn t_ O) (eT [_] _ _ Y O Zx O O [] (by simp) (λw hw=>Zt vb be bs ((bz y.op).getD (false,0)).1 ((bz y.op).getD (false,0)).2 y.mod y.nm y.args.length (c+bu (decide (10<l.length))+bS (l.take i) d+cK (bz y.op).isNone) w (by omega) (by omega) hw) (ab (Cs (ad (V0 (Yf qt O) (V0 (Yd 2 O O O x4) ?_)))))))));refine V0 (Yn t_ O) (aa O (ab (Cb ?_)));refine cq (ι:=Nat) (λj=>[(55,.int .i64 (j:Int))]) [(0,_),(2,_),(7,_),(22,_),(23,_),(24,_),(53,_),(54,_)] (λj=>Ws w [vb,be,bs] ([ah vb (.cells #[.int .i64 0,.int .i64 ((c+bu (decide (10<l.length))+bS (l.take i) d+cK (bz y.op).isNone+cO ((bz y.op).getD (false,0)) y.mod y.nm y.args.length+bY (y.args.take j) 1).f:Int),.int .i64 ((c+bu (decide (10<l.length))+bS (l.take i) d+cK (bz y.op).isNone+cO ((bz y.op).getD (false,0)) y.mod y.nm y.args.length+bY (y.args.take j) 1).m:Int),.int .i64 0,.int .i64 ((c+bu (decide (10<l.length))+bS (l.take i) d+cK (bz y.op).isNone+cO ((bz y.op).getD (false,0)) y.mod y.nm y.args.length+bY (y.args.take j) 1).k:Int),.int .i64 0,.int .i64 0,.int .i64 0,.int .i64 0,.int .i64 0,.map (some be),.map (some bs)] 224 (0,0)),ah be (bh kI (ig 9) 15),ah bs (bh kI jJ 7)]++[ah b7 (.cells (zu y ya yn y2 m2 y3 m3).toArray 242 (0,0))]) [H]) (λj=>j<=y.args.length) (λj=>y.args.length-j) 0 (Nat.zero_le _) (sc O (sc O (sc O (sc O (sc O (sc O (sc O (sc O (sc O sn))))))))) (λ_ h=>by exact (Wt 4 ((((h.f 2 O).f 4 O).f 4 O).f 3 O):)) ?_
  intro j hj;refine ad (V0 (bj O O) (ab (Cs ?_)));refine Cc O (λaO=>?_) (λaO=>?_)
  ·have av:j<y.args.length:=by simpa using aO
   obtain ⟨z,lC⟩:∃q,y.args[j]? = some q:=⟨_,List.getElem?_eq_getElem av⟩;obtain ⟨Kd,Ke,vR,x6⟩:=iE.aS j z lC
   obtain ⟨np,rfl⟩:∃np,ke=np+1:=by
     cases ke with
     | zero=>exact x6.elim
     | succ k'=>exact ⟨k',rfl⟩
   obtain ⟨za,zn,FT,hP⟩:=x6;have azh:=Zo lC;have azi:=BQ (y.args.take j) 1
   have IU:(c+bu (decide (10<l.length))+bS (l.take i) d+cK (bz y.op).isNone+cO ((bz y.op).getD (false,0)) y.mod y.nm y.args.length+bY (y.args.take j) 1).aT+8*wE z<=1152921504606846976:=by simp only [aG.cX]; omega
   have e2:c+bu (decide (10<l.length))+bS (l.take i) d+cK (bz y.op).isNone+cO ((bz y.op).getD (false,0)) y.mod y.nm y.args.length+bY (y.args.take j) 1+gE z 1=c+bu (decide (10<l.length))+bS (l.take i) d+cK (bz y.op).isNone+cO ((bz y.op).getD (false,0)) y.mod y.nm y.args.length+bY (y.args.take (j+1)) 1:=by rw [Zm 1 lC,<-aG.gT]
   refine aE (Cs (Cb (ad (V0 (Yo t_ O O vR (by omega)) (V0 (cJ 0 kE O O O (FT)) ?_)))));refine Al Y O js λqu=>?_;refine an 0 Y O O O nF O O O (ab (Cr (aa O (V0 (bk 0 O O kE O) (Lf 3 O (Lf 3 O (Lf 3 O ?_)))))))
   refine eT [_,_,_] _ [ah vb (.cells #[.int .i64 0,.int .i64 ((c+bu (decide (10<l.length))+bS (l.take i) d+cK (bz y.op).isNone+cO ((bz y.op).getD (false,0)) y.mod y.nm y.args.length+bY (y.args.take j) 1+gE z 1).f:Int),.int .i64 ((c+bu (decide (10<l.length))+bS (l.take i) d+cK (bz y.op).isNone+cO ((bz y.op).getD (false,0)) y.mod y.nm y.args.length+bY (y.args.take j) 1+gE z 1).m:Int),.int .i64 0,.int .i64 ((c+bu (decide (10<l.length))+bS (l.take i) d+cK (bz y.op).isNone+cO ((bz y.op).getD (false,0)) y.mod y.nm y.args.length+bY (y.args.take j) 1+gE z 1).k:Int),.int .i64 0,.int .i64 0,.int .i64 0,.int .i64 0,.int .i64 0,.map (some be),.map (some bs)] 224 (0,0)),ah be (bh kI (ig 9) 15),ah bs (bh kI jJ 7)] Y O Zy O O [H] (by simp) (λw hw=>by
       have:=akN vb be bs H np z za zn 1 (c+bu (decide (10<l.length))+bS (l.take i) d+cK (bz y.op).isNone+cO ((bz y.op).getD (false,0)) y.mod y.nm y.args.length+bY (y.args.take j) 1) w hP IU hw
       exact this) ?_
   refine Ln (Eb (Et (Cr (V0 (Yi O O O (by omega)) (aa O (Ln ?_))))));rw [e2];exact Ea (j+1) (by omega) (by omega) (sc O (sc O (sc O (sc O (sc O (sc O (sc O (sc O (sc O sn))))))))) (λ_ h=>by exact (Wt 4 ((((h.f 4 O).f 3 O).f 3 O).f 3 O):))
  have vT:¬j<y.args.length:=by simpa using aO
  rw [List.take_of_length_le (by omega:y.args.length<=j)];refine Ce (Ex (Ex (bA (Et (ad (V0 (Yf pn O) (V0 (Yd 3 O O O ar) (V0 (aW O O) (aa O ?_)))))))));apply Lo 3 O O O O Y O O O O O
  ·intro du;refine Vg (Yf pn O) (Vg (Yd 3 O O O ar) (Vg (aW O O) ?_));exact Gt 3 O O O
  refine ae O (ab (ad (aa O (aa O (V0 (dK O) (aa O ?_))))));apply La 4 O O O O Y O O O O O
  ·intro eh;refine Vg (Yf CO O) (Vg (Yd 3 O O O nG) (Vg (Yn so O) (Vg (cI O O) ?_)));rw [FM];exact Gt 4 O O O
  refine aa O ?_;apply Lo 9 O O O O Y O O O O O
  ·intro fB;refine Vg (Yf pn O) (Vg (Yd 3 O O O ar) (Vg (eL O O) (Vg (Ym O) ?_)));apply La 4 O O O O (.g O O O) O O O O O
   ·intro l_;refine Vg (Yf x5 O) (Vg (Yd 3 O O O nG) (Vg (Yn so O) (Vg (cI O O) ?_)));rw [FM];exact Gt 4 O O O
   exact Gt 5 O O O
  refine eT [_] _ _ Y O l9 O O [] (by simp) (λw hw=>x1 vb be bs (c+bu (decide (10<l.length))+bS (l.take i) d+cK (bz y.op).isNone+cO ((bz y.op).getD (false,0)) y.mod y.nm y.args.length+bY y.args 1) (h_ y.op y.body.length y.other.length) w (by omega) hw) (ab (Cs (ad (aa O (aa O ?_)))));apply Lo 4 O O O O Y O O O O O
  ·intro vO;refine Vg (Yf CO O) (Vg (Yd 3 O O O nG) (Vg (Yn so O) (Vg (cI O O) ?_)));rw [FM];exact Gt 4 O O O
  refine ab ?_;refine Cc O (λbd=>?_) (λbd=>?_)
  ·have e3:(if (inner y.op||decide (0<y.body.length))=true then cQ y.body (d+1) else c0)=cQ y.body (d+1):=if_pos bd;refine Cr (aa O (V0 (Yf CO O) (V0 (Yd 3 O O O nG) (aa O (V0 (Yi O O O (by omega)) ?_)))))
   refine eT [_,_,_] _ [ah vb (.cells #[.int .i64 0,.int .i64 ((c+bu (decide (10<l.length))+bS (l.take i) d+cK (bz y.op).isNone+cO ((bz y.op).getD (false,0)) y.mod y.nm y.args.length+bY y.args 1+cB (h_ y.op y.body.length y.other.length)+cQ y.body (d+1)).f:Int),.int .i64 ((c+bu (decide (10<l.length))+bS (l.take i) d+cK (bz y.op).isNone+cO ((bz y.op).getD (false,0)) y.mod y.nm y.args.length+bY y.args 1+cB (h_ y.op y.body.length y.other.length)+cQ y.body (d+1)).m:Int),.int .i64 0,.int .i64 ((c+bu (decide (10<l.length))+bS (l.take i) d+cK (bz y.op).isNone+cO ((bz y.op).getD (false,0)) y.mod y.nm y.args.length+bY y.args 1+cB (h_ y.op y.body.length y.other.length)+cQ y.body (d+1)).k:Int),.int .i64 0,.int .i64 0,.int .i64 0,.int .i64 0,.int .i64 0,.map (some be),.map (some bs)] 224 (0,0)),ah be (bh kI (ig 9) 15),ah bs (bh kI jJ 7)] Y O FR O O [H] (by simp) (λw hw=>by
       have:=ih k' (by omega) y.body y2 m2 (d+1) (c+bu (decide (10<l.length))+bS (l.take i) d+cK (bz y.op).isNone+cO ((bz y.op).getD (false,0)) y.mod y.nm y.args.length+bY y.args 1+cB (h_ y.op y.body.length y.other.length)) w gX Kb hw
       exact this) ?_
   refine ab (ad (V0 (Yf x5 O) (V0 (Yd 3 O O O nG) (V0 (Yn so O) (V0 (cI O O) ?_)))));rw [FM];refine ab ?_;refine Cc O (λbC=>?_) (λbC=>?_)
   ·have e4:(if 0<y.other.length then cQ y.other (d+1) else c0)=cQ y.other (d+1):=if_pos (by simpa using bC);refine Cr (aa O (V0 (Yf x5 O) (V0 (Yd 3 O O O nG) (aa O (V0 (Yi O O O (by omega)) ?_)))))
    refine eT [_,_,_] _ [ah vb (.cells #[.int .i64 0,.int .i64 ((c+bu (decide (10<l.length))+bS (l.take i) d+cK (bz y.op).isNone+cO ((bz y.op).getD (false,0)) y.mod y.nm y.args.length+bY y.args 1+cB (h_ y.op y.body.length y.other.length)+cQ y.body (d+1)+cQ y.other (d+1)).f:Int),.int .i64 ((c+bu (decide (10<l.length))+bS (l.take i) d+cK (bz y.op).isNone+cO ((bz y.op).getD (false,0)) y.mod y.nm y.args.length+bY y.args 1+cB (h_ y.op y.body.length y.other.length)+cQ y.body (d+1)+cQ y.other (d+1)).m:Int),.int .i64 0,.int .i64 ((c+bu (decide (10<l.length))+bS (l.take i) d+cK (bz y.op).isNone+cO ((bz y.op).getD (false,0)) y.mod y.nm y.args.length+bY y.args 1+cB (h_ y.op y.body.length y.other.length)+cQ y.body (d+1)+cQ y.other (d+1)).k:Int),.int .i64 0,.int .i64 0,.int .i64 0,.int .i64 0,.int .i64 0,.map (some be),.map (some bs)] 224 (0,0)),ah be (bh kI (ig 9) 15),ah bs (bh kI jJ 7)] Y O FR O O [H] (by simp) (λw hw=>by
        have:=ih k' (by omega) y.other y3 m3 (d+1) (c+bu (decide (10<l.length))+bS (l.take i) d+cK (bz y.op).isNone+cO ((bz y.op).getD (false,0)) y.mod y.nm y.args.length+bY y.args 1+cB (h_ y.op y.body.length y.other.length)+cQ y.body (d+1)) w kF Kc hw
        exact this) ?_
    refine Ln (Eb (Et (Cr (V0 (Yi O O O (by omega)) (aa O (Ln ?_))))));rw [show c+bu (decide (10<l.length))+bS (l.take i) d+cK (bz y.op).isNone+cO ((bz y.op).getD (false,0)) y.mod y.nm y.args.length+bY y.args 1+cB (h_ y.op y.body.length y.other.length)+cQ y.body (d+1)+cQ y.other (d+1)=c+bu (decide (10<l.length))+bS (l.take (i+1)) d by rw [J5 d bK,J4,e3,e4]; simp only [aG.gT,CG,CN]];exact Ea (i+1) (by omega) (by omega) (sc O (sc O (sc O (sc O (sc O sn))))) (λ_ h=>(Wt 3 h:))
   have e4:(if 0<y.other.length then cQ y.other (d+1) else c0)=c0:=if_neg (by simpa using bC);refine Ck (Eb (Et (Cr (V0 (Yi O O O (by omega)) (aa O (Ln ?_))))));rw [show c+bu (decide (10<l.length))+bS (l.take i) d+cK (bz y.op).isNone+cO ((bz y.op).getD (false,0)) y.mod y.nm y.args.length+bY y.args 1+cB (h_ y.op y.body.length y.other.length)+cQ y.body (d+1)=c+bu (decide (10<l.length))+bS (l.take (i+1)) d by rw [J5 d bK,J4,e3,e4]; simp only [aG.gT,CG,CN]];exact Ea (i+1) (by omega) (by omega) (sc O (sc O (sc O (sc O (sc O sn))))) (λ_ h=>(Wt 3 h:))
  have e3:(if (inner y.op||decide (0<y.body.length))=true then cQ y.body (d+1) else c0)=c0:=if_neg (λe=>by rw [show (inner y.op||decide (0<y.body.length))=false from bd] at e; cases e);refine aE (ad (V0 (Yf x5 O) (V0 (Yd 3 O O O nG) (V0 (Yn so O) (V0 (cI O O) ?_)))));rw [FM];refine ab ?_;refine Cc O (λbC=>?_) (λbC=>?_)
  ·have e4:(if 0<y.other.length then cQ y.other (d+1) else c0)=cQ y.other (d+1):=if_pos (by simpa using bC);refine Cr (aa O (V0 (Yf x5 O) (V0 (Yd 3 O O O nG) (aa O (V0 (Yi O O O (by omega)) ?_)))))
   refine eT [_,_,_] _ [ah vb (.cells #[.int .i64 0,.int .i64 ((c+bu (decide (10<l.length))+bS (l.take i) d+cK (bz y.op).isNone+cO ((bz y.op).getD (false,0)) y.mod y.nm y.args.length+bY y.args 1+cB (h_ y.op y.body.length y.other.length)+cQ y.other (d+1)).f:Int),.int .i64 ((c+bu (decide (10<l.length))+bS (l.take i) d+cK (bz y.op).isNone+cO ((bz y.op).getD (false,0)) y.mod y.nm y.args.length+bY y.args 1+cB (h_ y.op y.body.length y.other.length)+cQ y.other (d+1)).m:Int),.int .i64 0,.int .i64 ((c+bu (decide (10<l.length))+bS (l.take i) d+cK (bz y.op).isNone+cO ((bz y.op).getD (false,0)) y.mod y.nm y.args.length+bY y.args 1+cB (h_ y.op y.body.length y.other.length)+cQ y.other (d+1)).k:Int),.int .i64 0,.int .i64 0,.int .i64 0,.int .i64 0,.int .i64 0,.map (some be),.map (some bs)] 224 (0,0)),ah be (bh kI (ig 9) 15),ah bs (bh kI jJ 7)] Y O FR O O [H] (by simp) (λw hw=>by
       have:=ih k' (by omega) y.other y3 m3 (d+1) (c+bu (decide (10<l.length))+bS (l.take i) d+cK (bz y.op).isNone+cO ((bz y.op).getD (false,0)) y.mod y.nm y.args.length+bY y.args 1+cB (h_ y.op y.body.length y.other.length)) w kF Qp hw
       exact this) ?_
   refine Ln (Eb (Et (Cr (V0 (Yi O O O (by omega)) (aa O (Ln ?_))))));rw [show c+bu (decide (10<l.length))+bS (l.take i) d+cK (bz y.op).isNone+cO ((bz y.op).getD (false,0)) y.mod y.nm y.args.length+bY y.args 1+cB (h_ y.op y.body.length y.other.length)+cQ y.other (d+1)=c+bu (decide (10<l.length))+bS (l.take (i+1)) d by rw [J5 d bK,J4,e3,e4]; simp only [aG.gT,CG,CN]];exact Ea (i+1) (by omega) (by omega) (sc O (sc O (sc O (sc O (sc O sn))))) (λ_ h=>(Wt 3 h:))
  have e4:(if 0<y.other.length then cQ y.other (d+1) else c0)=c0:=if_neg (by simpa using bC);refine Ck (Eb (Et (Cr (V0 (Yi O O O (by omega)) (aa O (Ln ?_))))));rw [show c+bu (decide (10<l.length))+bS (l.take i) d+cK (bz y.op).isNone+cO ((bz y.op).getD (false,0)) y.mod y.nm y.args.length+bY y.args 1+cB (h_ y.op y.body.length y.other.length)=c+bu (decide (10<l.length))+bS (l.take (i+1)) d by rw [J5 d bK,J4,e3,e4]; simp only [aG.gT,CG,CN]];exact Ea (i+1) (by omega) (by omega) (sc O (sc O (sc O (sc O (sc O sn))))) (λ_ h=>(Wt 3 h:))
 have vP:¬i<l.length:=by simpa using aw
 rw [List.take_of_length_le (by omega),aG.gT,<-akO hd];refine Ce (Ex (Ex (bA ?_)));refine E0 O λw' hw=>?_;exact ⟨O,hw⟩
theorem ZC:∀(l:List bM) (i:Nat),wD (l.take i)<=wD l
 | [],i=>by simp
 | x::r,0=>by simp [wD]
 | x::r,i+1=>by have:=ZC r i; simp only [List.take_succ_cons,wD]; omega
theorem Qq:∀(l:List dh) (i:Nat),wP (l.take i)<=wP l
 | [],i=>by simp
 | x::r,0=>by simp [wP]
 | x::r,i+1=>by have:=Qq r i; simp only [List.take_succ_cons,wP]; omega
theorem ZD {l:List dh} {i:Nat} {p:dh} (h:l[i]? = some p):wP (l.take i)+(1+p.nm.length+wN p.params+wN p.ay+cP p.body)<=wP l:=by
 have h2:=Qq l (i+1);rw [iU h] at h2
 have:∀a b:List dh,wP (a++b)=wP a+wP b:=by
   intro a b
   induction a with
   | nil=>simp [wP]
   | cons y a ih=>simp only [List.cons_append,wP,ih]; omega
 rw [this] at h2;simp only [wP] at h2;omega
theorem ZE:∀a b:List bM,c_ (a++b)=c_ a+c_ b
 | [],b=>by apply aG.ext'<;>simp [aG.zo,aG.zp,aG.zq,c_,c0]
 | x::a,b=>by
   rw [List.cons_append,show ∀q,c_ (x::q)=gU x+c_ q from λ_=>rfl,ZE a b,show ∀q,c_ (x::q)=gU x+c_ q from λ_=>rfl,aG.gT]
theorem akT {l:List bM} {i:Nat} {s:bM} (h:l[i]? = some s):c_ (l.take (i+1))=c_ (l.take i)+gU s:=by rw [iU h,ZE]; rfl
theorem ZF:∀a b:List dh,dF (a++b)=dF a+dF b
 | [],b=>by apply aG.ext'<;>simp [aG.zo,aG.zp,aG.zq,dF,c0]
 | x::a,b=>by
   rw [List.cons_append,show ∀q,dF (x::q)=o1 x+dF q from λ_=>rfl,ZF a b,show ∀q,dF (x::q)=o1 x+dF q from λ_=>rfl,aG.gT]
theorem akU {l:List dh} {i:Nat} {s:dh} (h:l[i]? = some s):dF (l.take (i+1))=dF (l.take i)+o1 s:=by rw [iU h,ZF]; rfl
theorem akV (n:Nat):decide ((4:Int)<(n:Int))=decide (4<n):=by rw [Bool.eq_iff_iff]; simp; omega
theorem akW (n:Nat):decide ((6:Int)<(n:Int))=decide (6<n):=by rw [Bool.eq_iff_iff]; simp; omega
def eN (i:Nat):Nat:=if i=0 then 4 else if i=1 then 2 else 1
def cE (c:aG) (i:Nat):Nat:=if i=0 then c.k else if i=1 then c.m else c.f
theorem akX {i:Nat} (h:i<3):(#[.int .i64 4,.int .i64 2,.int .i64 1]:Array Value)[i]? = some (.int .i64 (eN i:Int)):=by
 match i,h with
 | 0,_=>rfl
 | 1,_=>rfl
 | 2,_=>rfl
theorem akY (i:Nat):eN i<10:=by unfold eN; split; omega; split<;>omega
theorem akZ {c:aG} {be bs i:Nat} (h:i<3) {T:TypeId} {fz:Nat×Nat}:fT (.cells #[.int .i64 0,.int .i64 (c.f:Int),.int .i64 (c.m:Int),.int .i64 0,.int .i64 (c.k:Int),.int .i64 0,.int .i64 0,.int .i64 0,.int .i64 0,.int .i64 0,.map (some be),.map (some bs)] T fz) (0+0+eN i*1)=some (.int .i64 (cE c i:Int)):=by
 match i,h with
 | 0,_=>rfl
 | 1,_=>rfl
 | 2,_=>rfl
theorem ak0 {c:aG} {i:Nat} (h:i<3) (h0:∀j,j<i->cE c j=0) (h1:0<cE c i):(eN i:Int)=vm c:=by
 match i,h,h0,h1 with
 | 0,_,_,h1=>unfold vm; rw [if_pos (show 0<c.k from h1)]; rfl
 | 1,_,h0,h1=>have:=h0 0 (by omega); unfold vm; rw [if_neg (by simp [cE] at this; omega),if_pos (show 0<c.m from h1)]; rfl
 | 2,_,h0,h1=>have a:=h0 0 (by omega); have b:=h0 1 (by omega); unfold vm; rw [if_neg (by simp [cE] at a; omega),if_neg (by simp [cE] at b; omega),if_pos (show 0<c.f from h1)]; rfl
theorem ak1 {c:aG} (h:∀j,j<3->cE c j=0):vm c=0:=by
 have a:=h 0 (by omega); have b:=h 1 (by omega); have d:=h 2 (by omega);simp [cE] at a b d;unfold vm;rw [if_neg (by omega),if_neg (by omega),if_neg (by omega)]
theorem ak2:Enters Tryz.prog 124:=enters_of Tryz.func124 (by kernel_rfl) rfl
theorem ak3:Enters Tryz.prog 125:=enters_of Tryz.func125 (by kernel_rfl) rfl
theorem ak4:fo Tryz.prog 224=some [(0,10),(10,1),(11,1)]:=by kernel_rfl
theorem ak5:zeroOf Tryz.prog 224=some (.agg #[.int .i64 0,.int .i64 0,.int .i64 0,.int .i64 0,.int .i64 0,.int .i64 0,.int .i64 0,.int .i64 0,.int .i64 0,.int .i64 0,.map none,.map none]):=by kernel_rfl
theorem zR:bw Tryz.prog 50 0=some 0:=by kernel_rfl
theorem sr:bw Tryz.prog 50 1=some 1:=by kernel_rfl
theorem eE:dQ Tryz.prog 22=true:=by kernel_rfl
theorem CP:bw Tryz.prog 50 2=some 2:=by kernel_rfl
theorem FU:dQ Tryz.prog 46=true:=by kernel_rfl
theorem zS:eo Tryz.prog 46=some 4:=by kernel_rfl
theorem zT:bw Tryz.prog 50 3=some 3:=by kernel_rfl
theorem CQ:dQ Tryz.prog 47=true:=by kernel_rfl
theorem vU:eo Tryz.prog 47=some 5:=by kernel_rfl
theorem pq:gj Tryz.prog 214=some 4:=by kernel_rfl
theorem ud:zeroOf Tryz.prog 214=some (.agg #[.int .i64 0,st [],.bool false,.int .i64 0]):=by kernel_rfl
theorem vV:cC Tryz.prog 214=some 4:=by kernel_rfl
theorem ak6:Enters Tryz.prog 128:=enters_of Tryz.func128 (by kernel_rfl) rfl
theorem CR:gj Tryz.prog 151=some 5:=by kernel_rfl
theorem x7:zeroOf Tryz.prog 151=some (.agg #[st [],.bool false,.slice none 0 0,.slice none 0 0,.slice none 0 0]):=by kernel_rfl
theorem CS:cC Tryz.prog 151=some 5:=by kernel_rfl
theorem ZG:bw Tryz.prog 151 0=some 0:=by kernel_rfl
theorem ue:bw Tryz.prog 151 2=some 2:=by kernel_rfl
theorem CT:bw Tryz.prog 151 3=some 3:=by kernel_rfl
theorem Qr:bw Tryz.prog 151 4=some 4:=by kernel_rfl
theorem Qt:bw Tryz.prog 50 4=some 4:=by kernel_rfl
theorem ak7:zi Tryz.prog 227=some (3,1):=by kernel_rfl
theorem ak8:zeroOf Tryz.prog 227=some (.agg #[.int .i64 0,.int .i64 0,.int .i64 0]):=by kernel_rfl
theorem ak9:I9 Tryz.prog 227=some 3:=by kernel_rfl
theorem Qu (H:View) (ke ks:Nat) (r:jV) (m:aD) (w:World) (hH:Le H w) (hm:ko ke ks H r m) (hb:wM m<=9007199254740992) :
   Calls Tryz.prog 50 #[.agg (fq m r).toArray] w λe w'=>e = .returned (.int .i64 (fG m))/\Ext w w':=by
 have sg:=Ov m.nm;have oz:=BR m.ag;have CV:=BP ((decide (3<m.ag.length)||decide (10<m.decls.length))||decide (6<m.procs.length));have Qo:=Ot m.decls;have Kb:=Jf m.procs;have Kc:=Ou m.main 1;have hwM:wM m=1+m.nm.length+wN m.ag+wD m.decls+wP m.procs+cP m.main:=rfl;have hz:c0.aT=0:=rfl;have zU:=ES m.ag;have cu:=hm.ag.cap;have xu:=hm.ag.max;have cd:=hm.decls.cap;have xd:=hm.decls.max;have cp:=hm.procs.cap;have xp:=hm.procs.max
 have CX:∀i,(c_ (m.decls.take i)).aT<=8*wD m.decls:=λi=>by have:=Ot (m.decls.take i); have:=ZC m.decls i; omega
 have hbp:∀i,(dF (m.procs.take i)).aT<=8*wP m.procs:=λi=>by have:=Jf (m.procs.take i); have:=Qq m.procs i; omega
 have jB:(c0+aI [m.nm]).aT+16+m.ag.length<=1152921504606846976:=by simp only [aG.cX]; omega
 have e7:(c0+aI [m.nm]+aI m.ag).aT+16+m.ag.length<=1152921504606846976:=by simp only [aG.cX]; omega
 have sk:(c0+aI [m.nm]+aI m.ag+bu ((decide (3<m.ag.length)||decide (10<m.decls.length))||decide (6<m.procs.length))).aT+16+m.ag.length<=1152921504606846976:=by simp only [aG.cX]; omega
 have hk4:(c0+aI [m.nm]+aI m.ag+bu ((decide (3<m.ag.length)||decide (10<m.decls.length))||decide (6<m.procs.length))+c_ m.decls).aT+16+m.ag.length<=1152921504606846976:=by simp only [aG.cX]; omega
 have hk5:(c0+aI [m.nm]+aI m.ag+bu ((decide (3<m.ag.length)||decide (10<m.decls.length))||decide (6<m.procs.length))+c_ m.decls+dF m.procs).aT+16+8*cP m.main<=1152921504606846976:=by simp only [aG.cX]; omega
 refine enter Tryz.func50 O 106 O O ?_;refine CE (Vs:=[H]) (Ws.init (by simp [hH])) (ad ?_);refine WL.box Y O O λb1=>?_;refine ae O (ab (ad ?_))
 refine WL.Vm (ι:=Nat) Y O ak2 O (λb=>.map (some b)) (λb=>[ah b (bh kI (ig 9) 15)]) (λ_=>True) (λw hw=>(akI w).mono λe w' h=>by
     obtain ⟨b,h1,h2⟩:=h
     exact ⟨b,h1,trivial,h2⟩) ?_
 intro be _
 refine WL.Vm (ι:=Nat) Y O ak3 O (λb=>.map (some b)) (λb=>[ah b (bh kI jJ 7)]) (λ_=>True) (λw hw=>(akJ w).mono λe w' h=>by
     obtain ⟨b,h1,h2⟩:=h
     exact ⟨b,h1,trivial,h2⟩) ?_
 intro bs _;refine V0 (Yb ak5 ak4 O O) ?_;refine WL.box Y O O λj4=>?_;refine bL 0 (.cells #[.int .i64 0,.int .i64 ((c0).f:Int),.int .i64 ((c0).m:Int),.int .i64 0,.int .i64 ((c0).k:Int),.int .i64 0,.int .i64 0,.int .i64 0,.int .i64 0,.int .i64 0,.map (some be),.map (some bs)] 224 (0,0)) O O (ae O (ab (ad (aa O (V0 (Yf zR O) (V0 (Yd 3 O O O bW) ?_))))));refine Lb Y O dc O O O O λb17=>?_;refine gq (T:=9) (m:=1) 0 [m.nm] O O (show 1<=1 by decide) (by decide) λZH alb=>?_;refine eT [_] _ [ah j4 (.cells #[.int .i64 0,.int .i64 ((c0+aI [m.nm]).f:Int),.int .i64 ((c0+aI [m.nm]).m:Int),.int .i64 0,.int .i64 ((c0+aI [m.nm]).k:Int),.int .i64 0,.int .i64 0,.int .i64 0,.int .i64 0,.int .i64 0,.map (some be),.map (some bs)] 224 (0,0))] Y O CI O O [ZH] (by simp) (λw hw=>CL j4 be bs ZH _ _ [m.nm] (c0) w alb (by show c0.aT+1<=_; omega) hw) (ab (ad (aa O (V0 (Yf sr O) (V0 (Yd 3 O O O eE) (eT [_] _ _ Y O CI O O [H] (by simp) (λw hw=>CL j4 be bs H r.a1 r.c1 m.ag (c0+aI [m.nm]) w hm.ag (by omega) hw) (ab (ad (aa O ?_)))))))));refine V0 (Yf sr O) (V0 (Yd 3 O O O eE) (V0 (Yn cz O) (V0 (cI O O) ?_)));rw [Qk];refine aa O ?_;apply Lo 4 O O O O Y O O O O O
 ·intro du;refine Vg (Yf CP O) (Vg (Yd 3 O O O FU) (Vg (Yn zS O) (Vg (cI O O) ?_)));rw [ZA];exact Gt 4 O O O
 refine aa O ?_;apply Lo 4 O O O O Y O O O O O
 ·intro eh;refine Vg (Yf zT O) (Vg (Yd 3 O O O CQ) (Vg (Yn vU O) (Vg (cI O O) ?_)));rw [akW];exact Gt 4 O O O
 refine eT [_] _ _ Y O l9 O O [] (by simp) (λw hw=>CH j4 be bs (c0+aI [m.nm]+aI m.ag) ((decide (3<m.ag.length)||decide (10<m.decls.length))||decide (6<m.procs.length)) w (by omega) hw) (ab (Cs (ad (V0 (Yf CP O) (V0 (Yd 3 O O O FU) (V0 (Yn zS O) (aa O (ab (Cb ?_)))))))));refine cq (ι:=Nat) (λi=>[(44,.int .i64 (i:Int))]) [(1,_),(2,_),(3,_),(42,_),(43,_)] (λi=>Ws w [] [ah j4 (.cells #[.int .i64 0,.int .i64 ((c0+aI [m.nm]+aI m.ag+bu ((decide (3<m.ag.length)||decide (10<m.decls.length))||decide (6<m.procs.length))+c_ (m.decls.take i)).f:Int),.int .i64 ((c0+aI [m.nm]+aI m.ag+bu ((decide (3<m.ag.length)||decide (10<m.decls.length))||decide (6<m.procs.length))+c_ (m.decls.take i)).m:Int),.int .i64 0,.int .i64 ((c0+aI [m.nm]+aI m.ag+bu ((decide (3<m.ag.length)||decide (10<m.decls.length))||decide (6<m.procs.length))+c_ (m.decls.take i)).k:Int),.int .i64 0,.int .i64 0,.int .i64 0,.int .i64 0,.int .i64 0,.map (some be),.map (some bs)] 224 (0,0)),ah be (bh kI (ig 9) 15),ah bs (bh kI jJ 7),ah b1 (.cells (fq m r).toArray 50 (0,0))] [H]) (λi=>i<=m.decls.length) (λi=>m.decls.length-i) 0 (Nat.zero_le _) (sc O (sc O (sc O (sc O (sc O (sc O sn)))))) (λ_ h=>by have h:=h.aX 3 O; have h:=h.aX 2 O; have h:=h.aX 3 O; have h:=h.aX 3 O; have h:=Ws.bF h (a_:=[H]) (by simp); exact h) ?_;intro i hi;refine ad (V0 (bj O O) (ab (Cs ?_)));refine Cc O (λai=>?_) (λai=>?_)
 ·have av:i<m.decls.length:=by simpa using ai
  obtain ⟨d,vW⟩:∃q,m.decls[i]? = some q:=⟨_,List.getElem?_eq_getElem av⟩;obtain ⟨FV,FW,FX,d_⟩:=hm.decls.aS i d vW;have d_:aR H FV (FW+i*4) d.cells:=d_
  have e2:c0+aI [m.nm]+aI m.ag+bu ((decide (3<m.ag.length)||decide (10<m.decls.length))||decide (6<m.procs.length))+c_ (m.decls.take i)+gU d=c0+aI [m.nm]+aI m.ag+bu ((decide (3<m.ag.length)||decide (10<m.decls.length))||decide (6<m.procs.length))+c_ (m.decls.take (i+1)):=by rw [akT vW,<-aG.gT]
  have Zz:=CX i
  have pQ:(c0+aI [m.nm]+aI m.ag+bu ((decide (3<m.ag.length)||decide (10<m.decls.length))||decide (6<m.procs.length))+c_ (m.decls.take i)).aT+4<=4611686018427387904:=by simp only [aG.cX]; omega
  refine aE (Cs (Cb (ad (V0 (Yo zS O O FX (by omega)) (V0 (cJ 0 pq O O O (d_)) ?_)))));refine Al Y O ud λb5=>?_;refine an 0 Y O O O vV O O O (ab (Cr (aa O (V0 (bk 0 O O pq O) (Lf 1 O (eT [_] _ _ Y O ak6 O O [] (by simp) (λw hw=>akL j4 be bs d (c0+aI [m.nm]+aI m.ag+bu ((decide (3<m.ag.length)||decide (10<m.decls.length))||decide (6<m.procs.length))+c_ (m.decls.take i)) w (by omega) hw) (Ln (Eb (Et (Cr (V0 (Yi O O O (by omega)) ?_)))))))))));refine aa O (Ln ?_);rw [e2];exact Ea (i+1) (by omega) (by omega) (sc O (sc O (sc O (sc O (sc O (sc O sn)))))) (λ_ h=>by exact (Wt 4 ((((h.f 4 O).f 4 O).f 4 O).f 3 O):))
 have bP:¬i<m.decls.length:=by simpa using ai
 rw [List.take_of_length_le (by omega)];refine Ce (Ex (Ex (bA (Et (Cs (ad (V0 (Yf zT O) (V0 (Yd 3 O O O CQ) (V0 (Yn vU O) (aa O (ab (Cb ?_))))))))))));refine cq (ι:=Nat) (λj=>[(55,.int .i64 (j:Int))]) [(1,_),(2,_),(3,_),(53,_),(54,_)] (λj=>Ws w [] [ah j4 (.cells #[.int .i64 0,.int .i64 ((c0+aI [m.nm]+aI m.ag+bu ((decide (3<m.ag.length)||decide (10<m.decls.length))||decide (6<m.procs.length))+c_ m.decls+dF (m.procs.take j)).f:Int),.int .i64 ((c0+aI [m.nm]+aI m.ag+bu ((decide (3<m.ag.length)||decide (10<m.decls.length))||decide (6<m.procs.length))+c_ m.decls+dF (m.procs.take j)).m:Int),.int .i64 0,.int .i64 ((c0+aI [m.nm]+aI m.ag+bu ((decide (3<m.ag.length)||decide (10<m.decls.length))||decide (6<m.procs.length))+c_ m.decls+dF (m.procs.take j)).k:Int),.int .i64 0,.int .i64 0,.int .i64 0,.int .i64 0,.int .i64 0,.map (some be),.map (some bs)] 224 (0,0)),ah be (bh kI (ig 9) 15),ah bs (bh kI jJ 7),ah b1 (.cells (fq m r).toArray 50 (0,0))] [H]) (λj=>j<=m.procs.length) (λj=>m.procs.length-j) 0 (Nat.zero_le _) (sc O (sc O (sc O (sc O (sc O (sc O sn)))))) (λ_ h=>h) ?_;intro j hj;refine ad (V0 (bj O O) (ab (Cs ?_)));refine Cc O (λaw=>?_) (λaw=>?_)
 ·have av:j<m.procs.length:=by simpa using aw
  obtain ⟨p,lD⟩:∃q,m.procs[j]? = some q:=⟨_,List.getElem?_eq_getElem av⟩;obtain ⟨zV,pop,m_,zW⟩:=hm.procs.aS j p lD;obtain ⟨zX,zY,zZ,z6,CY,CZ,cw,iE,gX,kF⟩:=zW;have Qn:=ZD lD;have IU:=hbp j;have hle:=Jf (m.procs.take j);have q1:=Ov p.nm;have q2:=BR p.params;have q3:=BR p.ay;have q4:=BP (decide (3<p.params.length)||decide (4<p.ay.length));have q5:=ES p.params;have q6:=ES p.ay;have c1_:=iE.cap;have x1_:=iE.max;have c2_:=gX.cap;have x2_:=gX.max
  have e3:c0+aI [m.nm]+aI m.ag+bu ((decide (3<m.ag.length)||decide (10<m.decls.length))||decide (6<m.procs.length))+c_ m.decls+dF (m.procs.take j)+aI [p.nm]+aI p.params+aI p.ay+bu (decide (3<p.params.length)||decide (4<p.ay.length))+cQ p.body 1=c0+aI [m.nm]+aI m.ag+bu ((decide (3<m.ag.length)||decide (10<m.decls.length))||decide (6<m.procs.length))+c_ m.decls+dF (m.procs.take (j+1)):=by rw [akU lD,o1]; simp only [aG.gT]
  have hq0:(c0+aI [m.nm]+aI m.ag+bu ((decide (3<m.ag.length)||decide (10<m.decls.length))||decide (6<m.procs.length))+c_ m.decls+dF (m.procs.take j)).aT+16+p.params.length+p.ay.length+8*cP p.body<=1152921504606846976:=by simp only [aG.cX]; omega
  have ZI:(c0+aI [m.nm]+aI m.ag+bu ((decide (3<m.ag.length)||decide (10<m.decls.length))||decide (6<m.procs.length))+c_ m.decls+dF (m.procs.take j)+aI [p.nm]).aT+16+p.params.length+p.ay.length+8*cP p.body<=1152921504606846976:=by simp only [aG.cX]; omega
  have hq2:(c0+aI [m.nm]+aI m.ag+bu ((decide (3<m.ag.length)||decide (10<m.decls.length))||decide (6<m.procs.length))+c_ m.decls+dF (m.procs.take j)+aI [p.nm]+aI p.params).aT+16+p.params.length+p.ay.length+8*cP p.body<=1152921504606846976:=by simp only [aG.cX]; omega
  have hq3:(c0+aI [m.nm]+aI m.ag+bu ((decide (3<m.ag.length)||decide (10<m.decls.length))||decide (6<m.procs.length))+c_ m.decls+dF (m.procs.take j)+aI [p.nm]+aI p.params+aI p.ay).aT+16+p.params.length+p.ay.length+8*cP p.body<=1152921504606846976:=by simp only [aG.cX]; omega
  have ZJ:(c0+aI [m.nm]+aI m.ag+bu ((decide (3<m.ag.length)||decide (10<m.decls.length))||decide (6<m.procs.length))+c_ m.decls+dF (m.procs.take j)+aI [p.nm]+aI p.params+aI p.ay+bu (decide (3<p.params.length)||decide (4<p.ay.length))).aT+16+p.params.length+p.ay.length+8*cP p.body<=1152921504606846976:=by simp only [aG.cX]; omega
  refine aE (Cs (Cb (ad (V0 (Yo vU O O m_ (by omega)) (V0 (cJ 0 CR O O O (cw)) ?_)))));refine Al Y O x7 λb7=>?_;refine an 0 Y O O O CS O O O (ab (ad (aa O (V0 (Yf ZG O) (V0 (Yd 0 O O O bW) ?_)))));refine Lb Y O dc O O O O λQv=>?_;refine gq (T:=9) (m:=1) 0 [p.nm] O O (show 1<=1 by decide) (by decide) λFY Qw=>?_;refine Lf 1 O ?_;refine eT [_] _ [ah j4 (.cells #[.int .i64 0,.int .i64 ((c0+aI [m.nm]+aI m.ag+bu ((decide (3<m.ag.length)||decide (10<m.decls.length))||decide (6<m.procs.length))+c_ m.decls+dF (m.procs.take j)+aI [p.nm]).f:Int),.int .i64 ((c0+aI [m.nm]+aI m.ag+bu ((decide (3<m.ag.length)||decide (10<m.decls.length))||decide (6<m.procs.length))+c_ m.decls+dF (m.procs.take j)+aI [p.nm]).m:Int),.int .i64 0,.int .i64 ((c0+aI [m.nm]+aI m.ag+bu ((decide (3<m.ag.length)||decide (10<m.decls.length))||decide (6<m.procs.length))+c_ m.decls+dF (m.procs.take j)+aI [p.nm]).k:Int),.int .i64 0,.int .i64 0,.int .i64 0,.int .i64 0,.int .i64 0,.map (some be),.map (some bs)] 224 (0,0))] Y O CI O O [FY] (by simp) (λw hw=>CL j4 be bs FY _ _ [p.nm] (c0+aI [m.nm]+aI m.ag+bu ((decide (3<m.ag.length)||decide (10<m.decls.length))||decide (6<m.procs.length))+c_ m.decls+dF (m.procs.take j)) w Qw (by show (c0+aI [m.nm]+aI m.ag+bu ((decide (3<m.ag.length)||decide (10<m.decls.length))||decide (6<m.procs.length))+c_ m.decls+dF (m.procs.take j)).aT+1<=_; omega) hw) ?_;refine ab (ad (aa O (V0 (Yf ue O) (V0 (Yd 1 O O O eE) (eT [_] _ _ Y O CI O O [H] (by simp) (λw hw=>CL j4 be bs H zX zY p.params (c0+aI [m.nm]+aI m.ag+bu ((decide (3<m.ag.length)||decide (10<m.decls.length))||decide (6<m.procs.length))+c_ m.decls+dF (m.procs.take j)+aI [p.nm]) w iE (by omega) hw) (ab (ad (aa O (V0 (Yf CT O) ?_)))))))));refine V0 (Yd 1 O O O eE) (eT [_] _ _ Y O CI O O [H] (by simp) (λw hw=>CL j4 be bs H zZ z6 p.ay (c0+aI [m.nm]+aI m.ag+bu ((decide (3<m.ag.length)||decide (10<m.decls.length))||decide (6<m.procs.length))+c_ m.decls+dF (m.procs.take j)+aI [p.nm]+aI p.params) w gX (by omega) hw) (ab (ad (aa O (V0 (Yf ue O) (V0 (Yd 1 O O O eE) (V0 (Yn cz O) (V0 (cI O O) ?_))))))));rw [Qk];refine aa O ?_;apply Lo 4 O O O O Y O O O O O
  ·intro fB;refine Vg (Yf CT O) (Vg (Yd 1 O O O eE) (Vg (Yn cz O) (Vg (cI O O) ?_)));rw [akV];exact Gt 4 O O O
  refine eT [_] _ _ Y O l9 O O [] (by simp) (λw hw=>CH j4 be bs (c0+aI [m.nm]+aI m.ag+bu ((decide (3<m.ag.length)||decide (10<m.decls.length))||decide (6<m.procs.length))+c_ m.decls+dF (m.procs.take j)+aI [p.nm]+aI p.params+aI p.ay) (decide (3<p.params.length)||decide (4<p.ay.length)) w (by omega) hw) (ab (Cr (aa O (V0 (Yf Qr O) (V0 (Yd 1 O O O nG) (Lf 3 O (Lf 3 O (Lf 2 O ?_))))))));refine eT [_,_,_] _ _ Y O FR O O [H] (by simp) (λw hw=>ZB j4 be bs H ke ks (p.body) CY CZ 1 (c0+aI [m.nm]+aI m.ag+bu ((decide (3<m.ag.length)||decide (10<m.decls.length))||decide (6<m.procs.length))+c_ m.decls+dF (m.procs.take j)+aI [p.nm]+aI p.params+aI p.ay+bu (decide (3<p.params.length)||decide (4<p.ay.length))) w kF (by omega) hw) (Ln (Eb (Et (Cr (V0 (Yi O O O (by omega)) (aa O (Ln ?_)))))));rw [e3];exact Ea (j+1) (by omega) (by omega) (sc O (sc O (sc O (sc O (sc O (sc O sn)))))) (λ_ h=>by exact (Wv 1 (Wt 4 ((((h.f 4 O).f 3 O).f 3 O).f 3 O)):))
 have vP:¬j<m.procs.length:=by simpa using aw
 rw [List.take_of_length_le (by omega)];refine Ce (Ex (Ex (bA (Et (ad (aa O (V0 (Yf Qt O) (V0 (Yd 3 O O O nG) (eT [_,_,_] _ _ Y O FR O O [H] (by simp) (λw hw=>ZB j4 be bs H ke ks (m.main) r.a4 r.c4 1 (c0+aI [m.nm]+aI m.ag+bu ((decide (3<m.ag.length)||decide (10<m.decls.length))||decide (6<m.procs.length))+c_ m.decls+dF m.procs) w hm.main (by omega) hw) (ab (Cs (ad (V0 (VR ak8 ak7 O O) ?_)))))))))))));refine aa O (ab (Cb ?_));refine cq (ι:=Nat) (λi=>[(94,.int .i64 (i:Int))]) [(3,_),(93,_)] (λi=>Ws w [] [ah j4 (.cells #[.int .i64 0,.int .i64 ((c0+aI [m.nm]+aI m.ag+bu ((decide (3<m.ag.length)||decide (10<m.decls.length))||decide (6<m.procs.length))+c_ m.decls+dF m.procs+cQ m.main 1).f:Int),.int .i64 ((c0+aI [m.nm]+aI m.ag+bu ((decide (3<m.ag.length)||decide (10<m.decls.length))||decide (6<m.procs.length))+c_ m.decls+dF m.procs+cQ m.main 1).m:Int),.int .i64 0,.int .i64 ((c0+aI [m.nm]+aI m.ag+bu ((decide (3<m.ag.length)||decide (10<m.decls.length))||decide (6<m.procs.length))+c_ m.decls+dF m.procs+cQ m.main 1).k:Int),.int .i64 0,.int .i64 0,.int .i64 0,.int .i64 0,.int .i64 0,.map (some be),.map (some bs)] 224 (0,0)),ah be (bh kI (ig 9) 15),ah bs (bh kI jJ 7),ah b1 (.cells (fq m r).toArray 50 (0,0))] [H]) (λi=>i<=3/\∀j,j<i->cE (c0+aI [m.nm]+aI m.ag+bu ((decide (3<m.ag.length)||decide (10<m.decls.length))||decide (6<m.procs.length))+c_ m.decls+dF m.procs+cQ m.main 1) j=0) (λi=>3-i) 0 ⟨Nat.zero_le _,by simp⟩ (sc O (sc O (sc O sn))) (λ_ h=>h) ?_;intro i ⟨hi,bT⟩;refine ad (V0 (bj O O) (ab (Cs ?_)));refine Cc O (λaO=>?_) (λaO=>?_)
 ·have av:i<3:=by simp at aO; omega
  refine aE (Cs (Cb (ad (V0 (Vp (i:=i) ak9 O O av (akX av)) (ae O (ab (ad (aa O (aa O (V0 (bD O) (V0 (Yf zO O) ?_)))))))))));refine V0 (zj (i:=eN i) zP O O (akY i)) (V0 (Yd 0 O O (akZ av) ar) (V0 (cI O O) (ab ?_)));refine Cc O (λbd=>?_) (λbd=>?_)
  ·have s7:0<cE (c0+aI [m.nm]+aI m.ag+bu ((decide (3<m.ag.length)||decide (10<m.decls.length))||decide (6<m.procs.length))+c_ m.decls+dF m.procs+cQ m.main 1) i:=by simpa using bd
   refine ad (aa O (ae O (ab (aA (bE (Er (Er (bE (Er ?_)))))))));refine R1 O O λw' hw=>?_;refine ⟨?_,hw.fr⟩;rw [ak0 av bT s7,show c0+aI [m.nm]+aI m.ag+bu ((decide (3<m.ag.length)||decide (10<m.decls.length))||decide (6<m.procs.length))+c_ m.decls+dF m.procs+cQ m.main 1=rC m by rw [rC,CN]]
   rfl
  have hzero:cE (c0+aI [m.nm]+aI m.ag+bu ((decide (3<m.ag.length)||decide (10<m.decls.length))||decide (6<m.procs.length))+c_ m.decls+dF m.procs+cQ m.main 1) i=0:=by simp at bd; omega
  refine Ck (Eb (Et (Cr (V0 (Yi O O O (by omega)) (aa O (Ln ?_))))));exact Ea (i+1) (by omega) ⟨by omega,λj hj=>by rcases Nat.lt_succ_iff_lt_or_eq.1 hj with h | rfl; exact bT j h; exact hzero⟩ (sc rfl (sc rfl (sc rfl sn))) (λ_ h=>h)
 have vT:¬i<3:=by simp at aO; omega
 refine Ce (Ex (Ex (bA (Et (ad (ae O (ab (aA ?_))))))));refine R1 O O λw' hw=>?_;refine ⟨?_,hw.fr⟩;rw [fG,show rC m=c0+aI [m.nm]+aI m.ag+bu ((decide (3<m.ag.length)||decide (10<m.decls.length))||decide (6<m.procs.length))+c_ m.decls+dF m.procs+cQ m.main 1 by rw [rC,CN],ak1 λj hj=>bT j (by omega)]
theorem ZK:zeroOf Tryz.prog 356=some (.agg #[st [],st [],st [],st [],st [],st [],st [],st [],st []]):=by kernel_rfl
theorem alc:zi Tryz.prog 356=some (9,1):=by kernel_rfl
theorem ald:cC Tryz.prog 356=some 9:=by kernel_rfl
theorem ale:gj Tryz.prog 356=some 9:=by kernel_rfl
theorem alf (w:World) :
   Calls Tryz.prog 272 #[] w λe w'=>e = .returned (.agg (opsL.map st).toArray)/\Ext w w':=by
 refine enter Tryz.func272 O 2 O O ?_;refine CE (Vs:=[]) (Ws.init (by simp)) (ad ?_);refine Al Y O ZK λb0=>?_;refine ab (ad (V0 (VR ZK alc O O) (an 0 Y O O O ald O O O (ab (aA ?_)))));refine WE.dA (gR O (cZ 0 O O ale O)) λw' hw=>?_;exact ⟨O,hw.fr⟩
abbrev ak (gb:Nat) (r:Option Addr×Nat) (l:Tk):List ao:=[ah gb (.cells #[.slice r.1 l.length r.2] 96 (0,0))]
def bH:List PanicEntry:=[⟨.iface 100 (.agg #[]),false,false⟩]
def bZ:List Tx->Tk->Option Tk
 | [],l=>some l
 | w::ws,l=>(au w l).bind (bZ ws)
theorem dq (w:Tx) (l:Tk):bZ [w] l=au w l:=by unfold bZ; cases au w l<;>rfl
theorem ZL (v w:Tx) (l:Tk):bZ [v,w] l=(au v l).bind (au w):=by
 unfold bZ
 cases au v l with
 | none=>rfl
 | some q=>exact dq w q
theorem ZM:∀{ws:List Tx} {l r:Tk},gy l->bZ ws l=some r->gy r
 | [],l,r,hl,h=>by injection h with h; subst h; exact hl
 | w::ws,l,r,hl,h=>by
   obtain ⟨q,h1,h2⟩:=Option.bind_eq_some_iff.1 h;exact ZM (YK hl h1) h2
theorem Qx (s:Tx) (t:Tok) (r:Tk):au s (t::r)=if (t.text==s)=true then some r else none:=rfl
theorem ij {s:Tx} {l q:Tk} (h:au s l=some q):q.length+1=l.length:=by
 cases l with
 | nil=>cases h
 | cons t r=>
   rw [Qx] at h
   split at h
   · injection h with h; subst h; rfl
   · cases h
theorem alg {w:Tx} {ws:List Tx} {l q:Tk} (h:au w l=some q):bZ (w::ws) l=bZ ws q:=by show (au w l).bind (bZ ws)=_; rw [h]; rfl
theorem alh {w:Tx} {ws:List Tx} {l:Tk} (h:au w l=none):bZ (w::ws) l=none:=by show (au w l).bind (bZ ws)=_; rw [h]; rfl
structure bX (l:Tk):Prop where
 all:gy l
 len:l.length<=4096
theorem vX {l r:Tk} {ws:List Tx} (h:bX l) (e:eW l ws r):bX r:=⟨e.ok,by have:=h.len; rw [e.2,List.length_append] at this; omega⟩
theorem ik {s:Tx} {l r:Tk} (h:bX l) (e:au s l=some r):bX r:=⟨YK h.all e,by have:=ij e; have:=h.len; omega⟩
theorem FZ:∀{ws:List Tx} {l q:Tk},bZ ws l=some q->q.length+ws.length=l.length
 | [],l,q,h=>by injection h with h; subst h; rfl
 | w::ws,l,q,h=>by
   obtain ⟨q1,h1,h2⟩:=Option.bind_eq_some_iff.1 h;have:=ij h1; have:=FZ h2;simp only [List.length_cons];omega
theorem im {ws:List Tx} {l r:Tk} (h:bX l) (e:bZ ws l=some r):bX r:=⟨ZM h.all e,by have:=FZ e; have:=h.len; omega⟩
theorem su {l r:Tk} {a:Tx} (h:bX l) (e:cN l=some (a,r)):bX r:=vX h (tR h.all e).1
theorem Qy {l r:Tk} {a:Int} (h:bX l) (e:jZ l=some (a,r)):bX r:=vX h (PL h.all e)
theorem ZN {l r:Tk} {p:Tx×Tx} (h:bX l) (e:jo l=some (p,r)):bX r:=vX h (PM (mod:=p.1) (nm:=p.2) h.all e)
theorem qv {l r:Tk} {f:Nat} {x:az} (h:bX l) (e:bI f l=some (x,r)):bX r:=vX h (Cy f l x r h.all e)
theorem qw {l r:Tk} {f:Nat} {x:az} (h:bX l) (e:bI f l=some (x,r)):r.length+1<=l.length:=by
 have h1:=(Cy f l x r h.all e).2;have h2:=XW x;rw [h1]
 cases hw:eO x with
 | nil=>exact absurd hw h2
 | cons y t=>simp
theorem ali {ws:List Tx} {i:Nat} {x:Tx} (h:ws[i]? = some x):ws.drop i=x::ws.drop (i+1):=by
 obtain ⟨hi,e⟩:=List.getElem?_eq_some_iff.1 h;rw [<-e];exact List.drop_eq_getElem_cons hi
theorem qx:bw Tryz.prog 96 0=some 0:=by kernel_rfl
theorem uf:dQ Tryz.prog 91=true:=by kernel_rfl
theorem ZO:cC Tryz.prog 91=some 1:=by kernel_rfl
theorem gL:Enters Tryz.prog 120:=enters_of Tryz.func120 (by kernel_rfl) rfl
theorem vY:fo Tryz.prog 100=some []:=by kernel_rfl
theorem vZ:zeroOf Tryz.prog 100=some (.agg #[]):=by kernel_rfl
theorem v8:Tryz.prog.concrete 100=true:=by kernel_rfl
theorem ZP:Enters Tryz.prog 166:=enters_of Tryz.func166 (by kernel_rfl) rfl
theorem alj:Jh Tryz.prog 209 2=some 2:=by kernel_rfl
theorem alk:Jh Tryz.prog 209 1=some 1:=by kernel_rfl
theorem sv:Enters Tryz.prog 119:=enters_of Tryz.func119 (by kernel_rfl) rfl
theorem gM (gb:Nat) (HT:View) (r:Option Addr×Nat) (l:Tk) (s:Tx) (w:World) (hm:Sl aZ 3 HT r.1 r.2 l) (hw:Ws w (List.flatMap ao.ids (ak gb r l)) (ak gb r l) [HT] w) :
   Calls Tryz.prog 120 #[.pointer (some ⟨gb,0,none⟩),st s] w λe w'=>∃i:Bool×(Option Addr×Nat)×Tk,e = .returned (.bool i.1)/\((i.1=true->au s l=some i.2.2)/\(i.1=false->au s l=none/\l=i.2.2)/\Sl aZ 3 HT i.2.1.1 i.2.1.2 i.2.2)/\Ws w (List.flatMap ao.ids (ak gb r l)) (ak gb i.2.1 i.2.2) [HT] w':=by
 have dR:=hm.cap;have eQ:=hm.max;have x8:=hm.drop 1;refine enter Tryz.func120 O 33 O O ?_;refine CE hw (ad (ae O (ab (ad (aa O (V0 (bD O) (V0 (Yf qx O) (V0 (Yd 0 O O O uf) ?_))))))));refine V0 (Yn t' O) (V0 (cI O O) (aa O ?_));apply La 9 (x:=((l.head?.map λt=>t.text==s).getD false)) O O O O Y O O O O O
 ·intro du
  obtain ⟨t,r0,rfl⟩:∃t r0,l=t::r0:=by
    cases l with
    | nil=>simp at du
    | cons t r0=>exact ⟨t,r0,rfl⟩
  obtain ⟨z7,z8,ia,nH⟩:=hm.aS 0 t rfl;have nH:aR HT z7 (z8+0*3) t.cells:=nH;refine Vg (Ym O) (Vg (bD O) (Vg (Yf qx O) (Vg (Yd 0 O O O uf) (Vg (Yo (i:=0) t' O O ia (by simp)) (Vg (Yf ake O) (Vg (bo 0 bW O O (nH 2 _ O)) (Vg (Ym O) ?_)))))));refine Vg (y5 O O) ?_;exact Gt 9 O O O
 refine ae O (ab (Cs (ad (aa O (ab ?_)))));refine Cc O (λai=>?_) (λai=>?_)
 ·obtain ⟨t,r0,rfl⟩:∃t r0,l=t::r0:=by
    cases l with
    | nil=>simp at ai
    | cons t r0=>exact ⟨t,r0,rfl⟩
  have heq:(t.text==s)=true:=by simpa using ai
  have x8:=x8 (by simp);refine Cr (aa O (aa O (V0 (bD O) (V0 (Yf qx O) (V0 (Yd 0 O O O uf) (V0 (U9 1 t' O O O (by simp) dR) (V0 (bD O) ?_)))))));refine V0 (Yf qx O) (an 0 Y O O O ZO O O O (ab (ad (aa O (ae O (ab (aA ?_)))))));refine R1 O O λw' hw=>?_;exact ⟨(true,(if r.2-1=0 then r.1 else r.1.map (·.add (1*3)),r.2-1),r0),by rw [ai],⟨λ_=>by rw [Qx,if_pos heq],λh=>(by cases h),x8⟩,hw⟩
 have e_:au s l=none:=by
   cases l with
   | nil=>rfl
   | cons t r0=>rw [Qx,if_neg]; intro h; simp [h] at ai
 refine aE (ad (aa O (ae O (ab (aA ?_)))));refine R1 O O λw' hw=>?_;exact ⟨(false,r,l),by rw [ai],⟨λh=>(by cases h),λ_=>⟨e_,O⟩,hm⟩,hw⟩
theorem iq (gb:Nat) (HT:View) (r:Option Addr×Nat) (l:Tk) (H:View) (a:Option Addr) (n:Nat) (ws:List Tx) (w:World) (hs:Sl rdStr 1 H a n ws) (hm:Sl aZ 3 HT r.1 r.2 l) (hw:Ws w (List.flatMap ao.ids (ak gb r l)) (ak gb r l) [HT,H] w) :
   Calls Tryz.prog 118 #[.pointer (some ⟨gb,0,none⟩),.slice a ws.length n] w λe w'=>(∃(r2:Option Addr×Nat) (q:Tk),e = .returned (.tuple #[])/\bZ ws l=some q/\Sl aZ 3 HT r2.1 r2.2 q/\Ws w (List.flatMap ao.ids (ak gb r l)) (ak gb r2 q) [HT,H] w')\/(∃(r2:Option Addr×Nat) (q:Tk),e = .panicked bH/\bZ ws l=none/\Ws w (List.flatMap ao.ids (ak gb r l)) (ak gb r2 q) [HT,H] w'):=by
 have dR:=hs.cap;have eQ:=hs.max;refine enter Tryz.func118 O 19 O O ?_;refine CE hw (ad (aa O (V0 (Yn cz O) (aa O (ab (Cb ?_))))));refine cq (ι:=Nat×(Option Addr×Nat)×Tk) (λg=>[(8,.int .i64 (g.1:Int))]) [(0,_),(6,_),(7,_)] (λg=>Ws w (List.flatMap ao.ids (ak gb r l)) (ak gb g.2.1 g.2.2) [HT,H]) (λg=>g.1<=ws.length/\bZ ws l=bZ (ws.drop g.1) g.2.2/\Sl aZ 3 HT g.2.1.1 g.2.1.2 g.2.2) (λg=>ws.length-g.1) (0,r,l) ⟨Nat.zero_le _,O,hm⟩ (sc O (sc O (sc O (sc O sn)))) (λ_ h=>h) ?_;intro g ⟨hi,hR,qy⟩;refine ad (V0 (bj O O) (ab (Cs ?_)));refine Cc O (λai=>?_) (λai=>?_)
 ·have av:g.1<ws.length:=by simpa using ai
  obtain ⟨x,bn⟩:∃x,ws[g.1]? = some x:=⟨_,List.getElem?_eq_getElem av⟩;obtain ⟨dW,dX,ha,cw⟩:=hs.aS g.1 x bn;have cw:aR H dW (dX+g.1*1) (cM x):=cw;have mK:=ali bn;refine aE (Cs (Cb (ad (V0 (Yo cz O O (by assumption) (by omega)) (V0 (bo 1 bW O O (cw 0 _ O)) (ae O (ab (ad (aa O (aa O ?_))))))))));refine Lw [_] _ Y O gL O O _ _ _ [HT] (by simp) (λw hw=>gM gb HT g.2.1 g.2.2 x w qy hw) ?_;intro ⟨fO,j5,lE⟩ ⟨F0,F1,ug⟩;refine V0 (dK O) (ab ?_);refine Cc O (λaw=>?_) (λaw=>?_)
  ·obtain ⟨sw,Kf⟩:=F1 (by simpa using aw);refine Cr (V0 (Yb vZ vY O O) (V0 (rh v8 O) ?_));refine WL.panic Y O ?_;refine WE.bx (Ep (Ep (WE.bx ?_)));refine bc λw' hw=>?_;exact .inr ⟨j5,lE,O,by rw [hR,mK,alh sw],(by have h:=hw; exact h)⟩
  have oD:=F0 (by simpa using aw);refine Ck (Eb (Et (Cr (V0 (Yi O O O (by omega)) (aa O (Ln ?_))))));exact Ea ((g.1+1,j5,lE):Nat×(Option Addr×Nat)×Tk) (by show ws.length-(g.1+1)<ws.length-g.1; omega) ⟨by show g.1+1<=ws.length; omega,by rw [hR,mK,alg oD],ug⟩ (sc O (sc O (sc O (sc O sn)))) (λ_ h=>h)
 have bP:¬g.1<ws.length:=by simpa using ai
 rw [List.drop_eq_nil_of_le (by omega)] at hR;refine Ce (Ex (Ex (bA ?_)));refine E0 O λw' hw=>?_;exact .inl ⟨g.2.1,g.2.2,O,by rw [hR]; rfl,qy,hw⟩
theorem ZQ (gb:Nat) (HT:View) (r:Option Addr×Nat) (l:Tk) (k:Int) (w:World) (hm:Sl aZ 3 HT r.1 r.2 l) (hw:Ws w (List.flatMap ao.ids (ak gb r l)) (ak gb r l) [HT] w) :
   Calls Tryz.prog 166 #[.pointer (some ⟨gb,0,none⟩),.int .i64 k] w λe w'=>(∃(t:Tok) (r2:Option Addr×Nat) (q:Tk),e = .returned (.agg #[.int .i64 t.kind,.int .i64 t.n,st t.text])/\kW k l=some (t,q)/\Sl aZ 3 HT r2.1 r2.2 q/\Ws w (List.flatMap ao.ids (ak gb r l)) (ak gb r2 q) [HT] w')\/(∃(r2:Option Addr×Nat) (q:Tk),e = .panicked bH/\kW k l=none/\Ws w (List.flatMap ao.ids (ak gb r l)) (ak gb r2 q) [HT] w'):=by
 have dR:=hm.cap;have eQ:=hm.max;have x8:=hm.drop 1;refine enter Tryz.func166 O 40 O O ?_;refine CE hw (ad ?_);refine Al Y O zN λb4=>?_;refine ab (Cs (ad (aa O (V0 (bD O) (V0 (Yf qx O) (V0 (Yd 1 O O O uf) (V0 (Yn t' O) (V0 (aW O O) (aa O ?_)))))))));apply Lo 9 (x:=(!((l.head?.map λt=>t.kind==k).getD false))) O O O O Y O O O O O
 ·intro du
  obtain ⟨t,r0,rfl⟩:∃t r0,l=t::r0:=by
    cases l with
    | nil=>simp at du
    | cons t r0=>exact ⟨t,r0,rfl⟩
  obtain ⟨z7,z8,ia,nH⟩:=hm.aS 0 t rfl;have nH:aR HT z7 (z8+0*3) t.cells:=nH;refine Vg (Ym O) (Vg (bD O) (Vg (Yf qx O) (Vg (Yd 1 O O O uf) (Vg (Yo (i:=0) t' O O ia (by simp)) (Vg (Yf Zd O) (Vg (bo 0 ar O O (nH 0 _ O)) (Vg (Ym O) ?_)))))));refine Vg (eL O O) ?_;exact Gt 9 O O O
 refine ab ?_;refine Cc O (λai=>?_) (λai=>?_)
 ·have e_:kW k l=none:=by
    cases l with
    | nil=>rfl
    | cons t r0=>
      simp only [kW];rw [if_neg];intro h;simp [h] at ai;omega
  refine Cr (V0 (Yb vZ vY O O) (V0 (rh v8 O) ?_));refine WL.panic Y O ?_;refine Ep ?_;refine bc λw' hw=>?_;exact .inr ⟨r,l,O,e_,(by have h:=hw; have h:=h.aX 1 O; have h:=Wt 1 h; exact h)⟩
 obtain ⟨t,r0,rfl⟩:∃t r0,l=t::r0:=by
   cases l with
   | nil=>simp at ai
   | cons t r0=>exact ⟨t,r0,rfl⟩
 have hk:t.kind=k:=by simp at ai; exact ai.2
 have z_:kW k (t::r0)=some (t,r0):=by simp only [kW]; rw [if_pos hk]
 have x8:=x8 (by simp);obtain ⟨z7,z8,ia,nH⟩:=hm.aS 0 t rfl;have nH:aR HT z7 (z8+0*3) t.cells:=nH;refine aE (ad (aa O (V0 (bD O) (V0 (Yf qx O) (V0 (Yd 1 O O O uf) (V0 (Yo (i:=0) t' O O ia (by simp)) (V0 (cJ 0 CD O O O (nH)) ?_)))))));refine Al Y O zN λb5=>?_;refine an 0 Y O O O FH O O O (ab (ad (aa O (aa O (V0 (bD O) (V0 (Yf qx O) (V0 (Yd 2 O O O uf) (V0 (U9 1 t' O O O (by simp) dR) ?_))))))));refine V0 (bD O) (V0 (Yf qx O) (an 2 Y O O O ZO O O O (ab (ad (V0 (bk 0 O O CD O) (an 1 Y O O O FH O O O (ab (aA ?_))))))));refine WE.dA (gR O (cZ 1 O O CD O)) λw' hw=>?_;exact .inl ⟨t,(if r.2-1=0 then r.1 else r.1.map (·.add (1*3)),r.2-1),r0,O,z_,x8,Wd 2 hw⟩
theorem sx (gb:Nat) (HT:View) (r:Option Addr×Nat) (l:Tk) (w:World) (hm:Sl aZ 3 HT r.1 r.2 l) (hw:Ws w (List.flatMap ao.ids (ak gb r l)) (ak gb r l) [HT] w) :
   Calls Tryz.prog 119 #[.pointer (some ⟨gb,0,none⟩)] w λe w'=>(∃(s:Tx) (r2:Option Addr×Nat) (q:Tk),e = .returned (st s)/\cN l=some (s,q)/\Sl aZ 3 HT r2.1 r2.2 q/\Ws w (List.flatMap ao.ids (ak gb r l)) (ak gb r2 q) [HT] w')\/(∃(r2:Option Addr×Nat) (q:Tk),e = .panicked bH/\cN l=none/\Ws w (List.flatMap ao.ids (ak gb r l)) (ak gb r2 q) [HT] w'):=by
 refine enter Tryz.func119 O 13 O O ?_;refine CE hw (ad (ae O (ab (ad (aa O ?_)))))
 refine cW (ι:=Tok×(Option Addr×Nat)×Tk) (κ:=(Option Addr×Nat)×Tk) [_] _ Y O ZP O O (λi=>.agg #[.int .i64 i.1.kind,.int .i64 i.1.n,st i.1.text]) (λi=>ak gb i.2.1 i.2.2) (λi=>kW 1 l=some (i.1,i.2.2)/\Sl aZ 3 HT i.2.1.1 i.2.1.2 i.2.2) (λ_=>bH) (λi=>ak gb i.1 i.2) (λ_=>kW 1 l=none) ([HT]) (by simp) (λw hw=>(ZQ gb HT r l 1 w hm hw).mono λe w' h=>by
     rcases h with ⟨t,r2,q,h1,h2,h3,h4⟩ | ⟨r2,q,h1,h2,h3⟩
     · exact .inl ⟨(t,r2,q),h1,⟨h2,h3⟩,h4⟩
     · exact .inr ⟨(r2,q),h1,h2,h3⟩) ?_ ?_
 ·intro ⟨rp,qp⟩ hp;refine Ep ?_;refine bc λw' hw=>?_;exact .inr ⟨rp,qp,O,by unfold cN; rw [hp]; rfl,(by have h:=hw; exact h)⟩
 intro ⟨t5,r5,q5⟩ ⟨ZR,hm5⟩;refine V0 (VS alj O O) (ae O (ab (Cs (ad (aa O (Lp Y O J6 O (λw hw=>J3 _ w) (V0 (dK O) (ab ?_))))))));refine Cc O (λai=>?_) (λai=>?_)
 ·have e_:cN l=none:=by unfold cN; rw [ZR]; simp only [Option.bind_some]; rw [if_neg (by simpa using ai)]
  refine Cr (V0 (Yb vZ vY O O) (V0 (rh v8 O) ?_));refine WL.panic Y O ?_;refine Ep ?_;refine bc λw' hw=>?_;exact .inr ⟨r5,q5,O,e_,(by have h:=hw; exact h)⟩
 have z_:cN l=some (t5.text,q5):=by unfold cN; rw [ZR]; simp only [Option.bind_some]; rw [if_pos (by simpa using ai)]
 refine aE (ad (aa O (ae O (ab (aA ?_)))));refine R1 O O λw' hw=>?_;exact .inl ⟨t5.text,r5,q5,O,z_,hm5,hw⟩
theorem Qz (gb:Nat) (HT:View) (r:Option Addr×Nat) (l:Tk) (w:World) (hm:Sl aZ 3 HT r.1 r.2 l) (hw:Ws w (List.flatMap ao.ids (ak gb r l)) (ak gb r l) [HT] w) :
   Calls Tryz.prog 168 #[.pointer (some ⟨gb,0,none⟩)] w λe w'=>(∃(n:Int) (r2:Option Addr×Nat) (q:Tk),e = .returned (.int .i64 n)/\jZ l=some (n,q)/\Sl aZ 3 HT r2.1 r2.2 q/\Ws w (List.flatMap ao.ids (ak gb r l)) (ak gb r2 q) [HT] w')\/(∃(r2:Option Addr×Nat) (q:Tk),e = .panicked bH/\jZ l=none/\Ws w (List.flatMap ao.ids (ak gb r l)) (ak gb r2 q) [HT] w'):=by
 refine enter Tryz.func168 O 6 O O ?_;refine CE hw (ad (ae O (ab (ad (aa O ?_)))))
 refine cW (ι:=Tok×(Option Addr×Nat)×Tk) (κ:=(Option Addr×Nat)×Tk) [_] _ Y O ZP O O (λi=>.agg #[.int .i64 i.1.kind,.int .i64 i.1.n,st i.1.text]) (λi=>ak gb i.2.1 i.2.2) (λi=>kW 2 l=some (i.1,i.2.2)/\Sl aZ 3 HT i.2.1.1 i.2.1.2 i.2.2) (λ_=>bH) (λi=>ak gb i.1 i.2) (λ_=>kW 2 l=none) ([HT]) (by simp) (λw hw=>(ZQ gb HT r l 2 w hm hw).mono λe w' h=>by
     rcases h with ⟨t,r2,q,h1,h2,h3,h4⟩ | ⟨r2,q,h1,h2,h3⟩
     · exact .inl ⟨(t,r2,q),h1,⟨h2,h3⟩,h4⟩
     · exact .inr ⟨(r2,q),h1,h2,h3⟩) ?_ ?_
 ·intro ⟨rp,qp⟩ hp;refine Ep ?_;refine bc λw' hw=>?_;exact .inr ⟨rp,qp,O,by unfold jZ; rw [hp]; rfl,(by have h:=hw; exact h)⟩
 intro ⟨t4,r4,q4⟩ ⟨ZJ,hm4⟩;refine V0 (VS alk O O) (ae O (ab (aA ?_)));refine R1 O O λw' hw=>?_;exact .inl ⟨t4.n,r4,q4,O,by unfold jZ; rw [ZJ]; rfl,hm4,hw⟩
theorem ZS (gb:Nat) (HT:View) (r:Option Addr×Nat) (l:Tk) (w:World) (aJ:bX l) (hm:Sl aZ 3 HT r.1 r.2 l) (hw:Ws w (List.flatMap ao.ids (ak gb r l)) (ak gb r l) [HT] w) :
   Calls Tryz.prog 215 #[.pointer (some ⟨gb,0,none⟩)] w λe w'=>(∃(p:Tx×Tx) (r2:Option Addr×Nat) (q:Tk),e = .returned (.tuple #[st p.1,st p.2])/\jo l=some (p,q)/\Sl aZ 3 HT r2.1 r2.2 q/\Ws w (List.flatMap ao.ids (ak gb r l)) (ak gb r2 q) [HT] w')\/(∃(r2:Option Addr×Nat) (q:Tk),e = .panicked bH/\jo l=none/\Ws w (List.flatMap ao.ids (ak gb r l)) (ak gb r2 q) [HT] w'):=by
 refine enter Tryz.func215 O 13 O O ?_;refine CE hw (ad (ae O (ae O (ab (ad (aa O ?_))))))
 refine cW (ι:=(Tx)×(Option Addr×Nat)×Tk) (κ:=(Option Addr×Nat)×Tk) [_] _ Y O sv O O (λi=>st i.1) (λi=>ak gb i.2.1 i.2.2) (λi=>cN l=some (i.1,i.2.2)/\Sl aZ 3 HT i.2.1.1 i.2.1.2 i.2.2) (λ_=>bH) (λi=>ak gb i.1 i.2) (λ_=>cN l=none) ([HT]) (by simp) (λw hw=>(sx gb HT r l w hm hw).mono λe w' h=>by
     rcases h with ⟨t,r2,q,h1,h2,h3,h4⟩ | ⟨r2,q,h1,h2,h3⟩
     · exact .inl ⟨(t,r2,q),h1,⟨h2,h3⟩,h4⟩
     · exact .inr ⟨(r2,q),h1,h2,h3⟩) ?_ ?_
 ·intro ⟨rp,qp⟩ hp;refine Ep ?_;refine bc λw' hw=>?_;exact .inr ⟨rp,qp,O,by unfold jo; rw [hp]; rfl,(by have h:=hw; exact h)⟩
 intro ⟨s6,r6,q6⟩ ⟨Kg,hm6⟩;have ok6:=su aJ Kg;refine ae O (ab (Cs (ad (aa O ?_))));refine Lw [_] _ Y O gL O O _ _ _ [HT] (by simp) (λw hw=>gM gb HT r6 q6 [46] w hm6 hw) ?_;intro ⟨b8,r8,q8⟩ ⟨h8t,h8f,Kh⟩;refine ab ?_;refine Cc O (λai=>?_) (λai=>?_)
 ·have oE:=h8t ai;have QA:=ik ok6 oE;refine ad (aa O (aa O ?_))
  refine cW (ι:=(Tx)×(Option Addr×Nat)×Tk) (κ:=(Option Addr×Nat)×Tk) [_] _ Y O sv O O (λi=>st i.1) (λi=>ak gb i.2.1 i.2.2) (λi=>cN q8=some (i.1,i.2.2)/\Sl aZ 3 HT i.2.1.1 i.2.1.2 i.2.2) (λ_=>bH) (λi=>ak gb i.1 i.2) (λ_=>cN q8=none) ([HT]) (by simp) (λw hw=>(sx gb HT r8 q8 w Kh hw).mono λe w' h=>by
      rcases h with ⟨t,r2,q,h1,h2,h3,h4⟩ | ⟨r2,q,h1,h2,h3⟩
      · exact .inl ⟨(t,r2,q),h1,⟨h2,h3⟩,h4⟩
      · exact .inr ⟨(r2,q),h1,h2,h3⟩) ?_ ?_
  ·intro ⟨rp,qp⟩ hp;refine Ep (Ep ?_);refine bc λw' hw=>?_;exact .inr ⟨rp,qp,O,by unfold jo; rw [Kg]; simp only [Option.bind_some]; rw [oE]; simp only; rw [hp]; rfl,(by have h:=hw; exact h)⟩
  intro ⟨qz,F2,lF⟩ ⟨jM,F3⟩;have Ki:=su QA jM;refine ae O (ae O (ab (aA (Er ?_))));refine WE.gi O O O λw' hw=>?_;exact .inl ⟨(s6,qz),F2,lF,O,by unfold jo; rw [Kg]; simp only [Option.bind_some]; rw [oE]; simp only; rw [jM]; rfl,F3,hw⟩
 obtain ⟨QB,ZT⟩:=h8f ai;subst ZT;refine aE (ad (aa O (ae O (ae O (ab (aA ?_))))));refine WE.gi O O O λw' hw=>?_;exact .inl ⟨([],s6),r8,q6,O,by unfold jo; rw [Kg]; simp only [Option.bind_some]; rw [QB],Kh,hw⟩
abbrev XE:=az×Option Addr×Nat
def XE.cells (e:XE):List Value:=zt e.1 e.2.1 e.2.2
theorem XE.bq (e:XE):(XE.cells e).length=5:=rfl
theorem XE.one (e:XE):(XE.cells e).all (·.oneCell')=true:=rfl
def kX (H:View) (b o:Nat) (e:XE):Prop:=aR H b o (XE.cells e)
def gN (J:View) (f:Nat) (es:List XE):Prop:=∀e ∈ es,Sl (eU f) 5 J e.2.1 e.2.2 e.1.args
theorem gN.nil (J:View) (f:Nat):gN J f []:=by intro e h; simp at h
theorem gN.snoc {J J1 J2:View} {f:Nat} {es:List XE} {e:XE} (h:gN J f es) (h1:aK J J2) (h2:aK J1 J2) (he:Sl (eU f) 5 J1 e.2.1 e.2.2 e.1.args):gN J2 f (es++[e]):=by
 intro x hx
 rcases List.mem_append.1 hx with hx | hx
 · exact (h x hx).imp λb o y hy=>BO h1 (Nat.le_refl _) b o y hy
 · rw [List.mem_singleton] at hx
   subst hx;exact he.imp λb o y hy=>BO h2 (Nat.le_refl _) b o y hy
theorem kY {H J N:View} {f c:Nat} {a:Option Addr} {es:List XE} (h:Sl kX 5 H a c es) (hv:aK H N) (hJ:aK J N) (fV:gN J f es):Sl (eU (f+1)) 5 N a c (es.map (·.1)):=by
 refine ⟨by simpa using h.cap,h.max,h.spot,λi x hx=>?_⟩;rw [List.getElem?_map] at hx;obtain ⟨e,he,rfl⟩:=Option.map_eq_some_iff.1 hx;obtain ⟨b,o,h1,h2⟩:=h.aS i e he;exact ⟨b,o,h1,e.2.1,e.2.2,aR.mono hv h2,(fV e (List.mem_of_getElem? he)).imp λb o y hy=>BO hJ (Nat.le_refl _) b o y hy⟩
theorem F4 {H N:View} {f c:Nat} {a:Option Addr} {l:List az} (h:Sl (eU f) 5 H a c l) (hv:aK H N):Sl (eU f) 5 N a c l:=h.imp λb o y hy=>BO hv (Nat.le_refl _) b o y hy
structure GA where
 es:List XE
 a:Option Addr
 c:Nat
 J:View
 r:Option Addr×Nat
 q:Tk
def QC (HT:View) (f:Nat):Prop:=∀(gb:Nat) (r:Option Addr×Nat) (l:Tk) (d:Nat) (w:World),f+d=7->bX l->Sl aZ 3 HT r.1 r.2 l->Ws w (List.flatMap ao.ids (ak gb r l)) (ak gb r l) [HT] w->
 Calls Tryz.prog 214 #[.pointer (some ⟨gb,0,none⟩),.int .i64 (d:Int)] w λe w'=>(∃(x:az) (s:Option Addr×Nat) (r2:Option Addr×Nat) (q:Tk),e = .returned (.agg #[.int .i64 (x).op,.int .i64 (x).n,st (x).mod,st (x).nm,.slice s.1 (x).args.length s.2])/\bI f l=some (x,q)/\Sl (eU f) 5 (nv w w') s.1 s.2 x.args/\Sl aZ 3 HT r2.1 r2.2 q/\Ws w (List.flatMap ao.ids (ak gb r l)) (ak gb r2 q) [HT] w')\/(∃(r2:Option Addr×Nat) (q:Tk),e = .panicked bH/\bI f l=none/\Ws w (List.flatMap ao.ids (ak gb r l)) (ak gb r2 q) [HT] w')
theorem als {pe:Tk->Option (az×Tk)} {n:Nat} {l q q2:Tk} {x:az} (h1:pe l=some (x,q)) (h2:au [41] q=some q2):kB pe (n+1) l=some ([x],q2):=by rw [kB,h1]; simp only [Option.bind_some]; rw [h2]
theorem alu {pe:Tk->Option (az×Tk)} {n:Nat} {l q q2:Tk} {x:az} (h1:pe l=some (x,q)) (h2:au [41] q=none) (h3:au [44] q=some q2):kB pe (n+1) l=(kB pe n q2).map λp=>(x::p.1,p.2):=by rw [kB,h1]; simp only [Option.bind_some]; rw [h2]; simp only; rw [h3]
theorem alv {pe:Tk->Option (az×Tk)} {n:Nat} {l q:Tk} {x:az} (h1:pe l=some (x,q)) (h2:au [41] q=none) (h3:au [44] q=none):kB pe (n+1) l=none:=by rw [kB,h1]; simp only [Option.bind_some]; rw [h2]; simp only; rw [h3]
theorem alw {pe:Tk->Option (az×Tk)} {n:Nat} {l:Tk} (h1:pe l=none):kB pe (n+1) l=none:=by rw [kB,h1]; rfl
theorem ZU:∀(ws:List Tx) (i k:Nat) (w:Tx) (l q:Tk),ws[i]? = some w->(∀j v,j<i->ws[j]? = some v->au v l=none)->au w l=some q->nD ws k l=some (k+i,q)
 | [],i,k,w,l,q,h,_,_=>by simp at h
 | v::ws,0,k,w,l,q,h,_,hq=>by
   simp at h; subst h;rw [nD,hq]; rfl
 | v::ws,i+1,k,w,l,q,h,hn,hq=>by
   rw [nD,hn 0 v (by omega) rfl];simp only;rw [ZU ws i (k+1) w l q (by simpa using h) (λj u hj hu=>hn (j+1) u (by omega) (by simpa using hu)) hq]
   congr 2
   omega
theorem ZV:∀(ws:List Tx) (k:Nat) (l:Tk),(∀w ∈ ws,au w l=none)->nD ws k l=none
 | [],_,_,_=>rfl
 | w::ws,k,l,h=>by
   rw [nD,h w (by simp)];exact ZV ws (k+1) l λv hv=>h v (List.mem_cons_of_mem _ hv)
theorem alx {i:Nat} {w:Tx} (h:opsL[i]? = some w):((opsL.map st).toArray)[i]? = some (st w):=by
 rw [List.getElem?_toArray,List.getElem?_map,h]; rfl
theorem qA:Enters Tryz.prog 214:=enters_of Tryz.func214 (by kernel_rfl) rfl
theorem kZ:e9 Tryz.prog 240 263 (.agg #[.int .i64 0,.int .i64 0,st [],st [],.slice none 0 0]) 5 72:=ja (by kernel_rfl)
theorem ir:Enters Tryz.prog 118:=enters_of Tryz.func118 (by kernel_rfl) rfl
theorem ZW (gb:Nat) (HT:View) (r:Option Addr×Nat) (l:Tk) (f d:Nat) (w:World) (hE:QC HT f) (x9:f+d=7) (aJ:bX l) (hm:Sl aZ 3 HT r.1 r.2 l) (hw:Ws w (List.flatMap ao.ids (ak gb r l)) (ak gb r l) [HT] w) :
   Calls Tryz.prog 216 #[.pointer (some ⟨gb,0,none⟩),.int .i64 (d:Int)] w λe w'=>(∃(xs:List az) (s:Option Addr×Nat) (r2:Option Addr×Nat) (q:Tk),e = .returned (.slice s.1 xs.length s.2)/\j0 (bI f) l=some (xs,q)/\Sl (eU (f+1)) 5 (nv w w') s.1 s.2 xs/\Sl aZ 3 HT r2.1 r2.2 q/\Ws w (List.flatMap ao.ids (ak gb r l)) (ak gb r2 q) [HT] w')\/(∃(r2:Option Addr×Nat) (q:Tk),e = .panicked bH/\j0 (bI f) l=none/\Ws w (List.flatMap ao.ids (ak gb r l)) (ak gb r2 q) [HT] w'):=by
 refine enter Tryz.func216 O 21 O O ?_;refine CE hw (ad (ae O (ab (ad (ae O (LW (λ_ h=>h.eM 263 5) ?_))))));refine WL.v0 ?_;refine ab (Cs (ad (aa O (Lf 1 O ?_))));refine Lw [_] _ Y O gL O O _ _ _ [HT] (by simp) (λw hw=>gM gb HT r l [41] w hm hw) ?_;intro ⟨b7,r7,q7⟩ ⟨h7t,h7f,ZX⟩;refine ab ?_;refine Cc O (λai=>?_) (λai=>?_)
 ·have ZY:=h7t ai;have ok7:=ik aJ ZY;refine ad (aa O (ae O (ab (aA (Er ?_)))));refine R1 O O λw' hw=>?_;exact .inl ⟨[],(none,0),r7,q7,O,by rw [j0,ZY],Sl.nil,ZX,Wv 1 (Wt 1 hw)⟩
 obtain ⟨C0,hl7⟩:=h7f ai;subst hl7;refine aE (Cb ?_);refine cq (ι:=GA) (λg=>[(5,.slice g.a g.es.length g.c)]) [(0,_),(1,_)] (λg=>Ws w (List.flatMap ao.ids (ak gb r l)) (ak gb g.r g.q++[bt 263 5 XE.cells g.a g.c g.es]) [g.J,HT]) (λg=>(g.es.length+g.q.length<=l.length/\bX g.q)/\Sl aZ 3 HT g.r.1 g.r.2 g.q/\(ew w g.J/\gN g.J f g.es)/\∃n,g.q.length<n/\j0 (bI f) l=(kB (bI f) n g.q).map λp=>(g.es.map (·.1)++p.1,p.2)) (λg=>g.q.length) ⟨[],none,0,v0,r7,l⟩ ⟨⟨by simp,aJ⟩,ZX,⟨pW w,gN.nil _ _⟩,l.length+1,by simp,by rw [j0,C0]; simp⟩ (sc O (sc O (sc O sn))) (λ_ h=>by have h:=Ws.bF h (a_:=[v0,HT]) (by simp); exact h) ?_;intro g ⟨⟨hlen,lG⟩,qy,⟨mL,F5⟩,hA⟩;refine Cb (ad (aa O (aa O (aa O ?_))))
 refine jc (ι:=(az×(Option Addr×Nat))×(Option Addr×Nat)×Tk) (κ:=(Option Addr×Nat)×Tk) [_] _ Y O qA O O (λi=>.agg #[.int .i64 (i.1.1).op,.int .i64 (i.1.1).n,st (i.1.1).mod,st (i.1.1).nm,.slice i.1.2.1 (i.1.1).args.length i.1.2.2]) (λi=>ak gb i.2.1 i.2.2) (λF i=>bI f g.q=some (i.1.1,i.2.2)/\Sl (eU f) 5 F i.1.2.1 i.1.2.2 i.1.1.args/\Sl aZ 3 HT i.2.1.1 i.2.1.2 i.2.2) (λ_=>bH) (λi=>ak gb i.1 i.2) (λ_=>bI f g.q=none) ([HT]) (by simp) (λ_ _ h=>h) (λw hw=>(hE gb g.r g.q d w x9 lG qy hw).mono λe w' h=>by
     rcases h with ⟨x,s,r2,q,h1,h2,h3,h4,h5⟩ | ⟨r2,q,h1,h2,h3⟩
     · exact .inl ⟨((x,s),r2,q),h1,⟨h2,h3,h4⟩,h5⟩
     · exact .inr ⟨(r2,q),h1,h2,h3⟩) ?_ ?_
 ·intro ⟨rp,qp⟩ hp;refine Ep (WE.bx (Ep (WE.bx ?_)));refine bc λw' hw=>?_;obtain ⟨n,hn,hA⟩:=hA;obtain ⟨n,rfl⟩:∃k,n=k+1:=⟨n-1,by omega⟩;exact .inr ⟨rp,qp,O,by rw [hA,alw hp]; rfl,(by have h:=hw; have h:=Wt 1 h; have h:=Ws.bF h (a_:=[HT]) (by simp); exact h)⟩
 intro F12 ⟨⟨Kj,x'⟩,vK,eF⟩ Qg ⟨gO,ZZ,x_⟩;have yb:bX eF:=qv lG gO;have azt:eF.length+1<=List.length (g.q):=qw lG gO;refine WL.jd λZ0 Z1 Z2 Z3=>?_;refine Lb Y O kZ O O O O λj4=>?_;refine bL 0 (.cells (XE.cells (Kj,x'.1,x'.2)).toArray 263 (0,0)) O O ?_;refine LA ((Kj,x'.1,x'.2):XE) 2 0 Y O kZ O O O O O O (by have:=aJ.len; omega) (by have:=aJ.len; omega) λKk Kl=>?_;refine ae O (ab (Cs (ad (aa O (Lf 1 O ?_)))));refine Lw [_] _ Y O gL O O _ _ _ [HT] (by simp) (λw hw=>gM gb HT vK eF [41] w x_ hw) ?_;intro ⟨QD,C1,uh⟩ ⟨alB,alC,Km⟩;refine ab ?_;refine Cc O (λaw=>?_) (λaw=>?_)
 ·have ye:=alB aw;have Kn:=ik yb ye;obtain ⟨n,hn,hA⟩:=hA;obtain ⟨n,rfl⟩:∃k,n=k+1:=⟨n-1,by omega⟩;refine Cs ?_;refine WC.o3 (rd:=kX) 2 O (λk hk=>by simp [ak,ah] at hk; subst hk; simp [df,ak,ah,aY]) XE.bq (λ_ _ _ _ h=>h) λK6 fK6 hK6=>?_;refine Cr (aa O (ae O (ab (aA (Er (bE (Er (bE ?_))))))));refine R1 O O λw' hw=>?_;exact .inl ⟨(g.es++[(Kj,x'.1,x'.2)]).map (·.1),(Kk,Kl),C1,uh,by rw [List.length_map],by rw [hA,als gO ye]; simp,kY hK6 (bN hw (by simp) fK6) (bN hw (by simp) (Z3 _ Qg mL)) (gN.snoc F5 Z2 Z1 ZZ),Km,Wv 2 (Wt 1 hw)⟩
 obtain ⟨Z4,alF⟩:=alC aw;subst alF;obtain ⟨n,hn,hA⟩:=hA;obtain ⟨n,rfl⟩:∃k,n=k+1:=⟨n-1,by omega⟩;refine aE (Cr (aa O ?_));refine Lb Y O dc O O O O λC2=>?_;refine gq (T:=9) (m:=1) 0 [[44]] O O (show 1<=1 by decide) (by decide) λQE QF=>?_
 refine cW (ι:=(Option Addr×Nat)×Tk) (κ:=(Option Addr×Nat)×Tk) [_] _ Y O ir O O (λ_=>.tuple #[]) (λi=>ak gb i.1 i.2) (λi=>bZ [[44]] eF=some i.2/\Sl aZ 3 HT i.1.1 i.1.2 i.2) (λ_=>bH) (λi=>ak gb i.1 i.2) (λ_=>bZ [[44]] eF=none) ([HT,QE]) (by simp) (λw hw=>(iq gb HT C1 eF QE _ _ [[44]] w QF Km hw).mono λe w' h=>by
     rcases h with ⟨r2,q,h1,h2,h3,h4⟩ | ⟨r2,q,h1,h2,h3⟩
     · exact .inl ⟨(r2,q),h1,⟨h2,h3⟩,h4⟩
     · exact .inr ⟨(r2,q),h1,h2,h3⟩) ?_ ?_
 ·intro ⟨rp,qp⟩ hp;refine WE.bx (Ep (WE.bx ?_));refine bc λw' hw=>?_;exact .inr ⟨rp,qp,O,by rw [hA,alv gO Z4 ((dq _ _).symm.trans hp)]; rfl,(by have h:=hw; have h:=Wt 1 h; have h:=Ws.bF h (a_:=[HT]) (by simp); exact h)⟩
 intro ⟨QG,yf⟩ ⟨v_,Z5⟩;have alG:=im yb v_;refine Ln (Eb ?_)
 exact Ea (⟨g.es++[(Kj,x'.1,x'.2)],Kk,Kl,Z0,QG,yf⟩:GA) (by have:=FZ v_; simp at this; show yf.length<g.q.length; omega) ⟨⟨by have:=FZ v_; simp at this ⊢; omega,alG⟩,Z5,⟨Z3 _ Qg mL,gN.snoc F5 Z2 Z1 ZZ⟩,n,(show yf.length<n by have:=FZ v_; simp at this; omega),by rw [hA,alu gO Z4 ((dq _ _).symm.trans v_)]; simp [Function.comp_def]⟩ (sc O (sc O (sc O sn))) (λ_ h=>by
     have h:=h.aX 2 rfl;have h:=h.aX 1 rfl;have h:=Wt 2 h;have h:=Ws.bF h (a_:=[Z0,HT]) (by simp)
     exact h)
theorem alH {pe:Tk->Option (az×Tk)} {l q:Tk} (h:au [105,110] l=some q):kC pe l=some (az.mk 2 0 [] [] [],q):=by unfold kC; rw [show xX=[105,110] from rfl,h]
theorem Z6 {pe:Tk->Option (az×Tk)} {l q:Tk} (h1:au [105,110] l=none) (h:au [33] l=some q):kC pe l=(pe q).map λx=>(az.mk 6 0 [] [] [x.1],x.2):=by unfold kC; rw [show xX=[105,110] from rfl,h1]; simp only; rw [h]
theorem Z7 {pe:Tk->Option (az×Tk)} {l q:Tk} (h1:au [105,110] l=none) (h2:au [33] l=none) (h:au [40] l=some q):kC pe l=l8 pe q:=by unfold kC; rw [show xX=[105,110] from rfl,h1]; simp only; rw [h2]; simp only; rw [h]
theorem Aa {pe:Tk->Option (az×Tk)} {l:Tk} (h1:au [105,110] l=none) (h2:au [33] l=none) (h:au [40] l=none):kC pe l=(jo l).bind λp=>mH pe p.1.1 p.1.2 p.2:=by unfold kC; rw [show xX=[105,110] from rfl,h1]; simp only; rw [h2]; simp only; rw [h]
theorem QH {pe:Tk->Option (az×Tk)} {mod nm:Tx} {l q:Tk} (h:au [91] l=some q):mH pe mod nm l=(pe q).bind λx=>(au [93] x.2).map λr=>(az.mk 4 0 mod nm [x.1],r):=by unfold mH; rw [h]
theorem Z8 {pe:Tk->Option (az×Tk)} {mod nm:Tx} {l q:Tk} (h1:au [91] l=none) (h:au [40] l=some q):mH pe mod nm l=(j0 pe q).map λq=>(az.mk 5 0 mod nm q.1,q.2):=by unfold mH; rw [h1]; simp only; rw [h]
theorem alI {pe:Tk->Option (az×Tk)} {mod nm:Tx} {l:Tk} (h1:au [91] l=none) (h:au [40] l=none):mH pe mod nm l=some (az.mk 3 0 mod nm [],l):=by unfold mH; rw [h1]; simp only; rw [h]
theorem alJ {f d:Nat} {l:Tk} (hf:f+d=7) (h:6<d\/l=[]):bI f l=none:=by
 rcases h with h | rfl
 · obtain rfl:f=0:=by omega
   rfl
 · cases f<;>rfl
theorem alK {f:Nat} {t:Tok} {r:Tk} (h:t.kind=2):bI (f+1) (t::r)=some (az.mk 1 t.n [] [] [],r):=by rw [bI,if_pos h]
theorem alL {f:Nat} {t:Tok} {r:Tk} (h:¬t.kind=2):bI (f+1) (t::r)=kC (bI f) (t::r):=by rw [bI,if_neg h]
theorem Z9 {t:Tok} {r:Tk} (h:t.kind=2):jZ (t::r)=some (t.n,r):=by simp [jZ,kW,h]
theorem alM:Enters Tryz.prog 272:=enters_of Tryz.func272 (by kernel_rfl) rfl
theorem alN:I9 Tryz.prog 356=some 9:=by kernel_rfl
theorem oF:fo Tryz.prog 263=some [(0,1),(1,1),(2,1),(3,1),(4,1)]:=by kernel_rfl
theorem QI:Enters Tryz.prog 168:=enters_of Tryz.func168 (by kernel_rfl) rfl
theorem alO:Enters Tryz.prog 252:=enters_of Tryz.func252 (by kernel_rfl) rfl
theorem Z':Enters Tryz.prog 215:=enters_of Tryz.func215 (by kernel_rfl) rfl
theorem ui:cC Tryz.prog 240=some 1:=by kernel_rfl
theorem Z_:Enters Tryz.prog 216:=enters_of Tryz.func216 (by kernel_rfl) rfl
theorem alP (gb:Nat) (HT:View) (r:Option Addr×Nat) (l:Tk) (f d:Nat) (w:World) (hE:QC HT f) (x9:f+d=7) (aJ:bX l) (hm:Sl aZ 3 HT r.1 r.2 l) (hw:Ws w (List.flatMap ao.ids (ak gb r l)) (ak gb r l) [HT] w) :
   Calls Tryz.prog 252 #[.pointer (some ⟨gb,0,none⟩),.int .i64 (d:Int)] w λe w'=>(∃(x:az) (s:Option Addr×Nat) (r2:Option Addr×Nat) (q:Tk),e = .returned (.agg #[.int .i64 (x).op,.int .i64 (x).n,st (x).mod,st (x).nm,.slice s.1 (x).args.length s.2])/\l8 (bI f) l=some (x,q)/\Sl (eU (f+1)) 5 (nv w w') s.1 s.2 x.args/\Sl aZ 3 HT r2.1 r2.2 q/\Ws w (List.flatMap ao.ids (ak gb r l)) (ak gb r2 q) [HT] w')\/(∃(r2:Option Addr×Nat) (q:Tk),e = .panicked bH/\l8 (bI f) l=none/\Ws w (List.flatMap ao.ids (ak gb r l)) (ak gb r2 q) [HT] w'):=by
 refine enter Tryz.func252 O 35 O O ?_;refine CE hw (ad ?_);refine Al Y O js λb4=>?_;refine bL 0 (.cells (zt (az.mk 0 0 [] [] []) none 0).toArray 263 (0,0)) O O (ab (ad (aa O (aa O (Lf 1 O ?_)))))
 refine jc (ι:=(az×(Option Addr×Nat))×(Option Addr×Nat)×Tk) (κ:=(Option Addr×Nat)×Tk) [_] _ Y O qA O O (λi=>.agg #[.int .i64 (i.1.1).op,.int .i64 (i.1.1).n,st (i.1.1).mod,st (i.1.1).nm,.slice i.1.2.1 (i.1.1).args.length i.1.2.2]) (λi=>ak gb i.2.1 i.2.2) (λF i=>bI f l=some (i.1.1,i.2.2)/\Sl (eU f) 5 F i.1.2.1 i.1.2.2 i.1.1.args/\Sl aZ 3 HT i.2.1.1 i.2.1.2 i.2.2) (λ_=>bH) (λi=>ak gb i.1 i.2) (λ_=>bI f l=none) ([HT]) (by simp) (λ_ _ h=>h) (λw hw=>(hE gb r l d w x9 aJ hm hw).mono λe w' h=>by
     rcases h with ⟨x,s,r2,q,h1,h2,h3,h4,h5⟩ | ⟨r2,q,h1,h2,h3⟩
     · exact .inl ⟨((x,s),r2,q),h1,⟨h2,h3,h4⟩,h5⟩
     · exact .inr ⟨(r2,q),h1,h2,h3⟩) ?_ ?_
 ·intro ⟨rp,qp⟩ hp;refine Ep ?_;refine bc λw' hw=>?_;exact .inr ⟨rp,qp,O,by rw [l8,hp]; rfl,(by have h:=hw; have h:=Wt 1 h; exact h)⟩
 intro F11 ⟨⟨QJ,qz⟩,F2,lF⟩ alR ⟨jM,alS,F3⟩;have Ki:bX lF:=qv aJ jM;have azu:lF.length+1<=List.length (l):=qw aJ jM;refine Al Y O js λb5=>?_;refine an 0 Y O O O nF O O O (ab (Cs (ad (Lp Y O alM O (λw hw=>alf w) (aa O (ab (Cb ?_)))))));refine cq (ι:=Nat×(Option Addr×Nat)) (λg=>[(13,.int .i64 (g.1:Int))]) [(0,_),(1,_),(4,_),(5,_),(12,_)] (λg=>Ws w (List.flatMap ao.ids (ak gb r l)) (ak gb g.2 lF++[ah b5 (.cells (XE.cells (QJ,qz.1,qz.2)).toArray 263 (0,0)),ah b4 (.cells (zt (az.mk 0 0 [] [] []) none 0).toArray 263 (0,0))]) [F11,HT]) (λg=>g.1<=9/\(∀j v,j<g.1->opsL[j]? = some v->au v lF=none)/\Sl aZ 3 HT g.2.1 g.2.2 lF) (λg=>9-g.1) (0,F2) ⟨Nat.zero_le _,by simp,F3⟩ (sc O (sc O (sc O (sc O (sc O (sc O sn)))))) (λ_ h=>(((h.f 2 O).f 1 O).f 2 O:)) ?_;intro g ⟨hi,bT,qy⟩;refine ad (V0 (bj O O) (ab (Cs ?_)));refine Cc O (λai=>?_) (λai=>?_)
 ·have av:g.1<9:=by simp at ai; omega
  obtain ⟨o,ei⟩:∃o,opsL[g.1]? = some o:=⟨_,List.getElem?_eq_getElem (by show g.1<9; exact av)⟩;refine aE (Cs (Cb (ad (aa O (V0 (Vp (i:=g.1) alN O O av (alx ei)) (ae O (ae O (ab (ad (aa O (aa O ?_)))))))))));refine Lw [_] _ Y O gL O O _ _ _ [HT] (by simp) (λw hw=>gM gb HT g.2 lF o w qy hw) ?_;intro ⟨C2,pr,kG⟩ ⟨alT,alU,C3⟩;refine ab ?_;refine Cc O (λaw=>?_) (λaw=>?_)
  ·have qB:=alT aw;have Ab:=ik Ki qB
   have gD:nD opsL 0 lF=some (g.1,kG):=by rw [ZU opsL g.1 0 o lF kG ei bT qB,Nat.zero_add]
   refine ad (aa O (aa O ?_))
   refine jc (ι:=(az×(Option Addr×Nat))×(Option Addr×Nat)×Tk) (κ:=(Option Addr×Nat)×Tk) [_] _ Y O qA O O (λi=>.agg #[.int .i64 (i.1.1).op,.int .i64 (i.1.1).n,st (i.1.1).mod,st (i.1.1).nm,.slice i.1.2.1 (i.1.1).args.length i.1.2.2]) (λi=>ak gb i.2.1 i.2.2) (λF i=>bI f kG=some (i.1.1,i.2.2)/\Sl (eU f) 5 F i.1.2.1 i.1.2.2 i.1.1.args/\Sl aZ 3 HT i.2.1.1 i.2.1.2 i.2.2) (λ_=>bH) (λi=>ak gb i.1 i.2) (λ_=>bI f kG=none) ([HT]) (by simp) (λ_ _ h=>h) (λw hw=>(hE gb pr kG d w x9 Ab C3 hw).mono λe w' h=>by
       rcases h with ⟨x,s,r2,q,h1,h2,h3,h4,h5⟩ | ⟨r2,q,h1,h2,h3⟩
       · exact .inl ⟨((x,s),r2,q),h1,⟨h2,h3,h4⟩,h5⟩
       · exact .inr ⟨(r2,q),h1,h2,h3⟩) ?_ ?_
   ·intro ⟨rp,qp⟩ hp;refine Ep (WE.bx (Ep (Ep (WE.bx (Ep ?_)))));refine bc λw' hw=>?_;exact .inr ⟨rp,qp,O,by rw [l8,jM]; simp only [Option.bind_some]; rw [gD]; simp only [Option.bind_some]; rw [hp]; rfl,(by have h:=hw; have h:=Wt 1 h; have h:=Ws.bF h (a_:=[HT]) (by simp); exact h)⟩
   intro F22 ⟨⟨x22,s22⟩,QK,nI⟩ alV ⟨qC,alW,QL⟩;have C4:bX nI:=qv Ab qC;have azw:nI.length+1<=List.length (kG):=qw Ab qC;refine WL.jd λJ22 alY alZ al0=>?_;refine Al Y O js λb8=>?_;refine an 0 Y O O O nF O O O (ab (ad (aa O ?_)));refine Lb Y O dc O O O O λF'=>?_;refine gq (T:=9) (m:=1) 0 [[41]] O O (show 1<=1 by decide) (by decide) λC5 F_=>?_;refine Lf 1 O ?_
   refine cW (ι:=(Option Addr×Nat)×Tk) (κ:=(Option Addr×Nat)×Tk) [_] _ Y O ir O O (λ_=>.tuple #[]) (λi=>ak gb i.1 i.2) (λi=>bZ [[41]] nI=some i.2/\Sl aZ 3 HT i.1.1 i.1.2 i.2) (λ_=>bH) (λi=>ak gb i.1 i.2) (λ_=>bZ [[41]] nI=none) ([HT,C5]) (by simp) (λw hw=>(iq gb HT QK nI C5 _ _ [[41]] w F_ QL hw).mono λe w' h=>by
       rcases h with ⟨r2,q,h1,h2,h3,h4⟩ | ⟨r2,q,h1,h2,h3⟩
       · exact .inl ⟨(r2,q),h1,⟨h2,h3⟩,h4⟩
       · exact .inr ⟨(r2,q),h1,h2,h3⟩) ?_ ?_
   ·intro ⟨rp,qp⟩ hp;refine Ep (WE.bx (Ep (Ep (WE.bx (Ep ?_)))));refine bc λw' hw=>?_;exact .inr ⟨rp,qp,O,by rw [l8,jM]; simp only [Option.bind_some]; rw [gD]; simp only [Option.bind_some]; rw [qC]; simp only [Option.bind_some]; rw [<-dq,hp]; rfl,(by have h:=hw; have h:=Wt 1 h; have h:=Ws.bF h (a_:=[HT]) (by simp); exact h)⟩
   intro ⟨Ko,Ac⟩ ⟨Ad,Kq⟩;have aac:=im C4 Ad;refine ab (ad (aa O (V0 (IV ((7:Int)+(g.1:Int)) O O O (by omega)) (V0 (bk 2 O O kE O) (V0 (bk 1 O O kE O) ?_)))));refine Lb Y O kZ O O O O λGa=>?_;refine LN (rd:=kX) (f:=XE.cells) (m:=2) 0 [(QJ,qz.1,qz.2),(x22,s22.1,s22.2)] O O (λk hk=>by simp [ak,ah] at hk; subst hk; simp [df,ak,ah,aY]) XE.bq (λ_ _ _ _ h=>h) (show 2<=2 by decide) (by decide) λH30 al1 QM=>?_;refine V0 (Yb js oF O O) (an 3 Y O O O nF O O O (ab (aA (bE (Er (Er (bE (Er ?_))))))));refine WE.dA (gR O (cZ 3 O O kE O)) λw' hw=>?_;exact .inl ⟨az.mk (7+(g.1:Int)) 0 [] [] [QJ,x22],(some ⟨Ga,0,none⟩,2),Ko,Ac,O,by rw [l8,jM]; simp only [Option.bind_some]; rw [gD]; simp only [Option.bind_some]; rw [qC]; simp only [Option.bind_some]; rw [<-dq,Ad]; rfl,kY QM (bN hw (by simp) al1) (bN hw (by simp) (al0 _ alV alR)) (((gN.nil J22 f).snoc (aK.refl _) alZ alS).snoc (aK.refl _) alY alW),Kq,Wv 3 (Wt 1 hw)⟩
  obtain ⟨al2,al3⟩:=alU aw;subst al3;refine Ck (Eb (Et (Cr (V0 (Yi O O O (by omega)) (aa O (Ln ?_))))))
  exact Ea ((g.1+1,pr):Nat×(Option Addr×Nat)) (by show 9-(g.1+1)<9-g.1; omega) ⟨by show g.1+1<=9; omega,λj v hj hv=>by
      rcases Nat.lt_succ_iff_lt_or_eq.1 hj with h | rfl
      · exact bT j v h hv
      · rw [ei] at hv; injection hv with hv; subst hv; exact al2,C3⟩ (sc rfl (sc rfl (sc rfl (sc rfl (sc rfl (sc rfl sn)))))) (λ_ h=>h)
 have bP:¬g.1<9:=by simp at ai; omega
 have al4:nD opsL 0 lF=none:=ZV _ _ _ λv hv=>by
   obtain ⟨j,hj⟩:=List.getElem?_of_mem hv;exact bT j v (by have:=(List.getElem?_eq_some_iff.1 hj).1; have:opsL.length=9:=rfl; omega) hj
 refine Ce (Ex (Ex (bA (Et (Cr (V0 (Yb vZ vY O O) (V0 (rh v8 O) ?_)))))));refine WL.panic Y O ?_;refine bc λw' hw=>?_;exact .inr ⟨g.2,lF,O,by rw [l8,jM]; simp only [Option.bind_some]; rw [al4]; rfl,(by have h:=hw; have h:=Wt 1 h; have h:=Ws.bF h (a_:=[HT]) (by simp); exact h)⟩
theorem yg (HT:View) (f:Nat) (gb:Nat) (r:Option Addr×Nat) (l:Tk) (d:Nat) (w:World) (x9:f+d=7) (aJ:bX l) (hm:Sl aZ 3 HT r.1 r.2 l) (hw:Ws w (List.flatMap ao.ids (ak gb r l)) (ak gb r l) [HT] w) :
   Calls Tryz.prog 214 #[.pointer (some ⟨gb,0,none⟩),.int .i64 (d:Int)] w λe w'=>(∃(x:az) (s:Option Addr×Nat) (r2:Option Addr×Nat) (q:Tk),e = .returned (.agg #[.int .i64 (x).op,.int .i64 (x).n,st (x).mod,st (x).nm,.slice s.1 (x).args.length s.2])/\bI f l=some (x,q)/\Sl (eU f) 5 (nv w w') s.1 s.2 x.args/\Sl aZ 3 HT r2.1 r2.2 q/\Ws w (List.flatMap ao.ids (ak gb r l)) (ak gb r2 q) [HT] w')\/(∃(r2:Option Addr×Nat) (q:Tk),e = .panicked bH/\bI f l=none/\Ws w (List.flatMap ao.ids (ak gb r l)) (ak gb r2 q) [HT] w'):=by
 induction f using Nat.strongRecOn generalizing gb r l d w
 rename_i f ih;have dR:=hm.cap;have eQ:=hm.max;refine enter Tryz.func214 O 83 O O ?_;refine CE hw (ad ?_);refine Al Y O js λb4=>?_;refine bL 0 (.cells (zt (az.mk 0 0 [] [] []) none 0).toArray 263 (0,0)) O O (ab (Cs (ad (aa O (V0 (cI O O) (aa O ?_))))));apply Lo 6 O O O O Y O O O O O
 ·intro du;refine Vg (Ym O) (Vg (bD O) (Vg (Yf qx O) (Vg (Yd 1 O O O uf) (Vg (Yn t' O) (Vg (aW O O) ?_)))));exact Gt 6 O O O
 refine ab ?_;refine Cc O (λai=>?_) (λai=>?_)
 ·have e_:bI f l=none:=alJ x9 (by
    simp at ai
    rcases ai with h | h
    · left; omega
    · right; exact h)
  refine Cr (V0 (Yb vZ vY O O) (V0 (rh v8 O) ?_));refine WL.panic Y O ?_;refine Ep ?_;refine bc λw' hw=>?_;exact .inr ⟨r,l,O,e_,(by have h:=hw; have h:=h.aX 1 O; have h:=Wt 1 h; exact h)⟩
 have hd6:¬6<d:=by
   intro h
   have h2:(6:Int)<(d:Int):=by omega
   simp [h2] at ai
 obtain ⟨f,rfl⟩:∃k,f=k+1:=⟨f-1,by omega⟩
 obtain ⟨t0,r0,rfl⟩:∃t r,l=t::r:=by
   cases l with
   | nil=>simp at ai
   | cons t r=>exact ⟨t,r,rfl⟩
 obtain ⟨z7,z8,ia,nH⟩:=hm.aS 0 t0 rfl;have nH:aR HT z7 (z8+0*3) t0.cells:=nH;have hE:QC HT f:=λgb r l d w h1 h2 h3 h4=>ih f (by omega) gb r l d w h1 h2 h3 h4;refine aE (Cs (Cb (ad (aa O (V0 (bD O) (V0 (Yf qx O) (V0 (Yd 1 O O O uf) (V0 (Yo (i:=0) t' O O ia (by simp)) (V0 (Yf Zd O) (V0 (bo 0 ar O O (nH 0 _ O)) ?_))))))))));refine V0 (aW O O) (ae O (ab ?_));refine Cc O (λaw=>?_) (λaw=>?_)
 ·have hk:t0.kind=2:=by simpa using aw
  refine ad (aa O (Lf 1 O ?_))
  refine cW (ι:=(Int)×(Option Addr×Nat)×Tk) (κ:=(Option Addr×Nat)×Tk) [_] _ Y O QI O O (λi=>.int .i64 i.1) (λi=>ak gb i.2.1 i.2.2) (λi=>jZ (t0::r0)=some (i.1,i.2.2)/\Sl aZ 3 HT i.2.1.1 i.2.1.2 i.2.2) (λ_=>bH) (λi=>ak gb i.1 i.2) (λ_=>jZ (t0::r0)=none) ([HT]) (by simp) (λw hw=>(Qz gb HT r (t0::r0) w hm hw).mono λe w' h=>by
      rcases h with ⟨t,r2,q,h1,h2,h3,h4⟩ | ⟨r2,q,h1,h2,h3⟩
      · exact .inl ⟨(t,r2,q),h1,⟨h2,h3⟩,h4⟩
      · exact .inr ⟨(r2,q),h1,h2,h3⟩) ?_ ?_
  ·intro ⟨rp,qp⟩ hp;refine Ep (WE.bx (Ep ?_));refine bc λw' hw=>?_;rw [Z9 hk] at hp;cases hp
  intro ⟨n30,r30,q30⟩ ⟨Ae,al6⟩;have azy:=Qy aJ Ae;refine V0 (Yb js oF O O) ?_;rw [Z9 hk] at Ae
  injection Ae with Ae
  injection Ae with al7 Ae
  subst al7;subst Ae;refine an 1 Y O O O nF O O O (ab (aA (bE (Er ?_))));refine WE.dA (gR O (cZ 1 O O kE O)) λw' hw=>?_;exact .inl ⟨az.mk 1 t0.n [] [] [],(none,0),r30,r0,O,alK hk,Sl.nil,al6,Wt 1 hw⟩
 have hk:¬t0.kind=2:=by simpa using aw
 have hR:=alL (f:=f) (r:=r0) hk;refine ad (aa O (Lf 1 O ?_));refine Lw [_] _ Y O gL O O _ _ _ [HT] (by simp) (λw hw=>gM gb HT r (t0::r0) [105,110] w hm hw) ?_;intro ⟨b34,Kr,Af⟩ ⟨al8,al9,Ks⟩;refine ae O (ab ?_);refine Cc O (λaO=>?_) (λaO=>?_)
 ·have wa:=al8 aO;have aaf:=ik aJ wa;refine ad (V0 (Yb js oF O O) (an 1 Y O O O nF O O O (ab (aA (bE (Er ?_))))));refine WE.dA (gR O (cZ 1 O O kE O)) λw' hw=>?_;exact .inl ⟨az.mk 2 0 [] [] [],(none,0),Kr,Af,O,by rw [hR,alH wa],Sl.nil,Ks,Wt 1 hw⟩
 obtain ⟨sy,al'⟩:=al9 aO;subst al';refine ad (aa O ?_);refine Lw [_] _ Y O gL O O _ _ _ [HT] (by simp) (λw hw=>gM gb HT Kr (t0::r0) [33] w Ks hw) ?_;intro ⟨wb,Ah,Kt⟩ ⟨al_,ama,Ku⟩;refine ae O (ab ?_);refine Cc O (λbd=>?_) (λbd=>?_)
 ·have QN:=al_ bd;have QO:=ik aJ QN;refine ad (aa O (aa O (V0 (Yi O O O (by omega)) ?_)))
  refine jc (ι:=(az×(Option Addr×Nat))×(Option Addr×Nat)×Tk) (κ:=(Option Addr×Nat)×Tk) [_] _ Y O qA O O (λi=>.agg #[.int .i64 (i.1.1).op,.int .i64 (i.1.1).n,st (i.1.1).mod,st (i.1.1).nm,.slice i.1.2.1 (i.1.1).args.length i.1.2.2]) (λi=>ak gb i.2.1 i.2.2) (λF i=>bI f Kt=some (i.1.1,i.2.2)/\Sl (eU f) 5 F i.1.2.1 i.1.2.2 i.1.1.args/\Sl aZ 3 HT i.2.1.1 i.2.1.2 i.2.2) (λ_=>bH) (λi=>ak gb i.1 i.2) (λ_=>bI f Kt=none) ([HT]) (by simp) (λ_ _ h=>h) (λw hw=>(hE gb Ah Kt (d+1) w (by omega) QO Ku hw).mono λe w' h=>by
      rcases h with ⟨x,s,r2,q,h1,h2,h3,h4,h5⟩ | ⟨r2,q,h1,h2,h3⟩
      · exact .inl ⟨((x,s),r2,q),h1,⟨h2,h3,h4⟩,h5⟩
      · exact .inr ⟨(r2,q),h1,h2,h3⟩) ?_ ?_
  ·intro ⟨rp,qp⟩ hp;refine Ep (WE.bx (Ep ?_));refine bc λw' hw=>?_;exact .inr ⟨rp,qp,O,by rw [hR,Z6 sy QN,hp]; rfl,(by have h:=hw; have h:=Wt 1 h; exact h)⟩
  intro F42 ⟨⟨x42,s42⟩,r42,QP⟩ amd ⟨QQ,ame,amf⟩;have azA:bX QP:=qv QO QQ;have azB:QP.length+1<=List.length (Kt):=qw QO QQ;refine Lb Y O kZ O O O O λmb=>?_;refine LN (rd:=kX) (f:=XE.cells) (m:=1) 0 [(x42,s42.1,s42.2)] O O (λk hk=>by simp [ak,ah] at hk; subst hk; simp [df,ak,ah,aY]) XE.bq (λ_ _ _ _ h=>h) (show 1<=1 by decide) (by decide) λH43 amg QR=>?_;refine V0 (Yb js oF O O) (an 1 Y O O O nF O O O (ab (aA (bE (Er ?_)))));refine WE.dA (gR O (cZ 1 O O kE O)) λw' hw=>?_;exact .inl ⟨az.mk 6 0 [] [] [x42],(some ⟨mb,0,none⟩,1),r42,QP,O,by rw [hR,Z6 sy QN,QQ]; rfl,kY QR (bN hw (by simp) amg) (bN hw (by simp) amd) ((gN.nil F42 f).snoc (aK.refl _) (aK.refl _) ame),amf,Wv 2 (Wt 1 hw)⟩
 obtain ⟨wc,amh⟩:=ama bd;subst amh;refine ad (aa O ?_);refine Lw [_] _ Y O gL O O _ _ _ [HT] (by simp) (λw hw=>gM gb HT Ah (t0::r0) [40] w Ku hw) ?_;intro ⟨Gb,sz,iV⟩ ⟨QS,QT,we⟩;refine ae O (ab ?_);refine Cc O (λbC=>?_) (λbC=>?_)
 ·have lH:=QS bC;have uj:=ik aJ lH;refine ad (aa O (aa O (V0 (Yi O O O (by omega)) ?_)))
  refine jc (ι:=((az)×(Option Addr×Nat))×(Option Addr×Nat)×Tk) (κ:=(Option Addr×Nat)×Tk) [_] _ Y O alO O O (λi=>.agg #[.int .i64 (i.1.1).op,.int .i64 (i.1.1).n,st (i.1.1).mod,st (i.1.1).nm,.slice i.1.2.1 (i.1.1).args.length i.1.2.2]) (λi=>ak gb i.2.1 i.2.2) (λF i=>l8 (bI f) iV=some (i.1.1,i.2.2)/\Sl (eU (f+1)) 5 F i.1.2.1 i.1.2.2 i.1.1.args/\Sl aZ 3 HT i.2.1.1 i.2.1.2 i.2.2) (λ_=>bH) (λi=>ak gb i.1 i.2) (λ_=>l8 (bI f) iV=none) ([HT]) (by simp) (λ_ _ h=>h) (λw hw=>(alP gb HT sz iV f (d+1) w hE (by omega) uj we hw).mono λe w' h=>by
      rcases h with ⟨x,s,r2,q,h1,h2,h3,h4,h5⟩ | ⟨r2,q,h1,h2,h3⟩
      · exact .inl ⟨((x,s),r2,q),h1,⟨h2,h3,h4⟩,h5⟩
      · exact .inr ⟨(r2,q),h1,h2,h3⟩) ?_ ?_
  ·intro ⟨rp,qp⟩ hp;refine Ep (WE.bx (Ep ?_));refine bc λw' hw=>?_;exact .inr ⟨rp,qp,O,by rw [hR,Z7 sy wc lH,hp],(by have h:=hw; have h:=Wt 1 h; exact h)⟩
  intro Gc ⟨⟨x51,s51⟩,QU,q51⟩ aak ⟨yh,amk,aml⟩;refine an 1 Y O O O nF O O O (ab (aA (bE (Er ?_))));refine WE.dA (gR O (cZ 1 O O kE O)) λw' hw=>?_;exact .inl ⟨x51,s51,QU,q51,O,by rw [hR,Z7 sy wc lH,yh],F4 amk (bN hw (by simp) aak),aml,Wv 1 (Wt 1 hw)⟩
 obtain ⟨wg,QV⟩:=QT bC;subst QV;refine Ck (Eb (Et (ad (aa O ?_))))
 refine cW (ι:=(Tx×Tx)×(Option Addr×Nat)×Tk) (κ:=(Option Addr×Nat)×Tk) [_] _ Y O Z' O O (λi=>.tuple #[st i.1.1,st i.1.2]) (λi=>ak gb i.2.1 i.2.2) (λi=>jo (t0::r0)=some (i.1,i.2.2)/\Sl aZ 3 HT i.2.1.1 i.2.1.2 i.2.2) (λ_=>bH) (λi=>ak gb i.1 i.2) (λ_=>jo (t0::r0)=none) ([HT]) (by simp) (λw hw=>(ZS gb HT sz (t0::r0) w aJ we hw).mono λe w' h=>by
     rcases h with ⟨t,r2,q,h1,h2,h3,h4⟩ | ⟨r2,q,h1,h2,h3⟩
     · exact .inl ⟨(t,r2,q),h1,⟨h2,h3⟩,h4⟩
     · exact .inr ⟨(r2,q),h1,h2,h3⟩) ?_ ?_
 ·intro ⟨rp,qp⟩ hp;refine Ep ?_;refine bc λw' hw=>?_;exact .inr ⟨rp,qp,O,by rw [hR,Aa sy wc wg,hp]; rfl,(by have h:=hw; have h:=Wt 1 h; exact h)⟩
 intro ⟨C6,Gd,yi⟩ ⟨pw,QW⟩;have Kv:=ZN aJ pw;refine aa O (V0 (Yx O O) (V0 (Yx O O) (ae O (ae O (ab (ad (aa O (aa O ?_))))))));refine V0 (Yb js oF O O) ?_;refine Al Y O js λb7=>?_;refine an 0 Y O O O nF O O O (ab (Cs (Cb (ad (aa O (Lf 1 O ?_))))));refine Lw [_] _ Y O gL O O _ _ _ [HT] (by simp) (λw hw=>gM gb HT Gd yi [91] w QW hw) ?_;intro ⟨Qv,r62,Ky⟩ ⟨amm,amn,Kz⟩;refine ae O (ab ?_);refine Cc O (λcU=>?_) (λcU=>?_)
 ·have C7:=amm cU;have QX:=ik Kv C7;refine ad (aa O (aa O (V0 (Yi O O O (by omega)) ?_)))
  refine jc (ι:=(az×(Option Addr×Nat))×(Option Addr×Nat)×Tk) (κ:=(Option Addr×Nat)×Tk) [_] _ Y O qA O O (λi=>.agg #[.int .i64 (i.1.1).op,.int .i64 (i.1.1).n,st (i.1.1).mod,st (i.1.1).nm,.slice i.1.2.1 (i.1.1).args.length i.1.2.2]) (λi=>ak gb i.2.1 i.2.2) (λF i=>bI f Ky=some (i.1.1,i.2.2)/\Sl (eU f) 5 F i.1.2.1 i.1.2.2 i.1.1.args/\Sl aZ 3 HT i.2.1.1 i.2.1.2 i.2.2) (λ_=>bH) (λi=>ak gb i.1 i.2) (λ_=>bI f Ky=none) ([HT]) (by simp) (λ_ _ h=>h) (λw hw=>(hE gb r62 Ky (d+1) w (by omega) QX Kz hw).mono λe w' h=>by
      rcases h with ⟨x,s,r2,q,h1,h2,h3,h4,h5⟩ | ⟨r2,q,h1,h2,h3⟩
      · exact .inl ⟨((x,s),r2,q),h1,⟨h2,h3,h4⟩,h5⟩
      · exact .inr ⟨(r2,q),h1,h2,h3⟩) ?_ ?_
  ·intro ⟨rp,qp⟩ hp;refine Ep (WE.bx (Ep ?_));refine bc λw' hw=>?_;exact .inr ⟨rp,qp,O,by rw [hR,Aa sy wc wg,pw]; simp only [Option.bind_some]; rw [QH C7,hp]; rfl,(by have h:=hw; have h:=Wt 1 h; exact h)⟩
  intro F66 ⟨⟨x66,s66⟩,r66,Ge⟩ amq ⟨KA,amr,ams⟩;have amt:bX Ge:=qv QX KA;have azC:Ge.length+1<=List.length (Ky):=qw QX KA;refine Lb Y O kZ O O O O λb67=>?_;refine LN (rd:=kX) (f:=XE.cells) (m:=1) 0 [(x66,s66.1,s66.2)] O O (λk hk=>by simp [ak,ah] at hk; subst hk; simp [df,ak,ah,aY]) XE.bq (λ_ _ _ _ h=>h) (show 1<=1 by decide) (by decide) λH67 amu amv=>?_;refine V0 (Yf zQ O) (an 1 Y O O O di O O O (V0 (Yf CM O) (an 1 Y O O O ui O O O (ab (Cr (aa O ?_))))));refine Lb Y O dc O O O O λKB=>?_;refine gq (T:=9) (m:=1) 0 [[93]] O O (show 1<=1 by decide) (by decide) λH71 amw=>?_
  refine cW (ι:=(Option Addr×Nat)×Tk) (κ:=(Option Addr×Nat)×Tk) [_] _ Y O ir O O (λ_=>.tuple #[]) (λi=>ak gb i.1 i.2) (λi=>bZ [[93]] Ge=some i.2/\Sl aZ 3 HT i.1.1 i.1.2 i.2) (λ_=>bH) (λi=>ak gb i.1 i.2) (λ_=>bZ [[93]] Ge=none) ([HT,H71]) (by simp) (λw hw=>(iq gb HT r66 Ge H71 _ _ [[93]] w amw ams hw).mono λe w' h=>by
      rcases h with ⟨r2,q,h1,h2,h3,h4⟩ | ⟨r2,q,h1,h2,h3⟩
      · exact .inl ⟨(r2,q),h1,⟨h2,h3⟩,h4⟩
      · exact .inr ⟨(r2,q),h1,h2,h3⟩) ?_ ?_
  ·intro ⟨rp,qp⟩ hp;refine WE.bx (Ep ?_);refine bc λw' hw=>?_;exact .inr ⟨rp,qp,O,by rw [hR,Aa sy wc wg,pw]; simp only [Option.bind_some]; rw [QH C7,KA]; simp only [Option.bind_some]; rw [<-dq,hp]; rfl,(by have h:=hw; have h:=Wt 1 h; have h:=Ws.bF h (a_:=[HT]) (by simp); exact h)⟩
  intro ⟨Ai,C8⟩ ⟨Aj,KC⟩;have KG:=im amt Aj;refine Ln (Eb (Et (ad (V0 (bk 1 O O kE O) (an 2 Y O O O nF O O O (ab (aA ?_)))))));refine WE.dA (gR O (cZ 2 O O kE O)) λw' hw=>?_;exact .inl ⟨az.mk 4 0 C6.1 C6.2 [x66],(some ⟨b67,0,none⟩,1),Ai,C8,O,by rw [hR,Aa sy wc wg,pw]; simp only [Option.bind_some]; rw [QH C7,KA]; simp only [Option.bind_some]; rw [<-dq,Aj]; rfl,kY amv (bN hw (by simp) amu) (bN hw (by simp) amq) ((gN.nil F66 f).snoc (aK.refl _) (aK.refl _) amr),KC,Wv 3 (Wt 1 hw)⟩
 obtain ⟨QY,amx⟩:=amn cU;subst amx;refine ad (aa O ?_);refine Lw [_] _ Y O gL O O _ _ _ [HT] (by simp) (λw hw=>gM gb HT r62 yi [40] w Kz hw) ?_;intro ⟨b75,KH,QZ⟩ ⟨amy,amz,aar⟩;refine ae O (ab ?_);refine Cc O (λdb=>?_) (λdb=>?_)
 ·have Q0:=amy db;have amA:=ik Kv Q0;refine Cr (aa O (aa O (V0 (Yi O O O (by omega)) ?_)))
  refine jc (ι:=((List az)×(Option Addr×Nat))×(Option Addr×Nat)×Tk) (κ:=(Option Addr×Nat)×Tk) [_] _ Y O Z_ O O (λi=>.slice i.1.2.1 i.1.1.length i.1.2.2) (λi=>ak gb i.2.1 i.2.2) (λF i=>j0 (bI f) QZ=some (i.1.1,i.2.2)/\Sl (eU (f+1)) 5 F i.1.2.1 i.1.2.2 i.1.1/\Sl aZ 3 HT i.2.1.1 i.2.1.2 i.2.2) (λ_=>bH) (λi=>ak gb i.1 i.2) (λ_=>j0 (bI f) QZ=none) ([HT]) (by simp) (λ_ _ h=>h) (λw hw=>(ZW gb HT KH QZ f (d+1) w hE (by omega) amA aar hw).mono λe w' h=>by
      rcases h with ⟨x,s,r2,q,h1,h2,h3,h4,h5⟩ | ⟨r2,q,h1,h2,h3⟩
      · exact .inl ⟨((x,s),r2,q),h1,⟨h2,h3,h4⟩,h5⟩
      · exact .inr ⟨(r2,q),h1,h2,h3⟩) ?_ ?_
  ·intro ⟨rp,qp⟩ hp;refine WE.bx (Ep ?_);refine bc λw' hw=>?_;exact .inr ⟨rp,qp,O,by rw [hR,Aa sy wc wg,pw]; simp only [Option.bind_some]; rw [Z8 QY Q0,hp]; rfl,(by have h:=hw; have h:=Wt 1 h; exact h)⟩
  intro F79 ⟨⟨amB,s79⟩,r79,KI⟩ amE ⟨amF,amG,amH⟩;refine V0 (Yf zQ O) (an 1 Y O O O di O O O (V0 (Yf CM O) (an 1 Y O O O ui O O O (Ln (Eb (Et (ad (V0 (bk 1 O O kE O) (an 2 Y O O O nF O O O (ab (aA ?_)))))))))));refine WE.dA (gR O (cZ 2 O O kE O)) λw' hw=>?_;exact .inl ⟨az.mk 5 0 C6.1 C6.2 amB,s79,r79,KI,O,by rw [hR,Aa sy wc wg,pw]; simp only [Option.bind_some]; rw [Z8 QY Q0,amF]; rfl,F4 amG (bN hw (by simp) amE),amH,Wv 1 (Wt 1 hw)⟩
 obtain ⟨amI,amJ⟩:=amz db;subst amJ;refine Ck (Eb (Et (ad (V0 (bk 1 O O kE O) (an 2 Y O O O nF O O O (ab (aA ?_)))))));refine WE.dA (gR O (cZ 2 O O kE O)) λw' hw=>?_;exact .inl ⟨az.mk 3 0 C6.1 C6.2 [],(none,0),KH,yi,O,by rw [hR,Aa sy wc wg,pw]; simp only [Option.bind_some]; rw [alI QY amI],Sl.nil,aar,Wt 1 hw⟩
end Go.Proofs.YtccenighnmfhgaaGreatDoor
end
