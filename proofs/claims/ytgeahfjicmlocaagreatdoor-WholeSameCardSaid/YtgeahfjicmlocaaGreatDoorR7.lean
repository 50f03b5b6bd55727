/- WholeSame: Exec tells what Mean tells: the same numbers, the same end, the same data, as many ticks; and what is executed is never Broken, nor out of steps. -/
import Derived.Scope
import Derived.Test.YtgeahfjicmlocaaGreatDoorR6
set_option linter.unusedVariables false
set_option linter.unusedSimpArgs false
set_option linter.defProp false
open _root_ renaming List->I,Nat->Z,Int->ac,Option->aA,Bool->aS,UInt8->ar,Array->bH,Unit->ef,String->fO
open Option renaming some->aa,none->ao
open Bool renaming true->ad,false->aq
open Go.Value renaming int->am,slice->aE,bool->bW,agg->b0,pointer->b8,tuple->cO
open Go.IntKind renaming i64->an
open Go.Proofs.Tryz renaming prog->aC
open Go renaming World->aP,Value->aR,Addr->a6,TypeId->cn,Calls->cx,Oper->cg,Act->cY,Exit->di,Program->dJ,Operand->ei,Deferred->fw,Edge->fY
open Go.Obj renaming cells->aY
open Or renaming inr->be,inl->bB
open Go.Ending renaming returned->cf
open List renaming flatMap->c6,replicate->gb,range->lf,length->m0
open Nat renaming strongRecOn->om
section
namespace Go.Proofs.YtgeahfjicmlocaaGreatDoor
open Go.Bw Go.Proofs.Tryz
section
variable {P:Env} {d u:Z} {loc:I ac} {body:I et} {w w1:Wm} {x:ef}
variable {az:ac}
def aeI (h:mJ P w = .ov az w1):dE P (d+1) u loc body w = .ov az w1:=by unfold dE;rw [kk h]
def aeJ (h:mJ P w = .ok x w1) (a:w1.calls=24):dE P (d+1) u loc body w = .ov 4 w1:=by unfold dE;rw [gX h];exact aD a
def aeK {a:Wm} (h:mJ P w = .ok x w1) (b:¬w1.calls=24) (c:hP P (dE P d) u body ⟨loc,0,{ w1 with calls:=w1.calls+1 }⟩ = .ov az a):dE P (d+1) u loc body w = .ov az a:=by unfold dE;rw [gX h];refine (aj b).trans ?_;rw [c]
def aeL {f:Fm} {t:aS} (h:mJ P w = .ok x w1) (a:¬w1.calls=24) (b:hP P (dE P d) u body ⟨loc,0,{ w1 with calls:=w1.calls+1 }⟩ = .ok t f):dE P (d+1) u loc body w = .ok f.val { f.w with calls:=f.w.calls-1 }:=by unfold dE;rw [gX h];refine (aj a).trans ?_;rw [b]
end
def D':aT aC 180 5=aa 5:=ah
def aeM:hW aC 281=aa [(0,1),(1,1),(2,1),(3,1)]:=ah
def aeN:zeroOf aC 281=aa (b0 #[b8 ao,am an 0,aE ao 0 0,am an 0]):=ah
def aeO (f:View) (n:Z) (g:KW) (l:I aI) (aO b C d:Z) (i u:Z) (z:aI) (x:SP) (loc:I ac) (v:ac) (body:I et) (a:aA a6) (c k1 k q:Z) (s:fW) (w:aP) (S:kC f (av l aO) (d' l) C s) (T:iU f n g l aO) (U:l[u]? = aa z) (hC:zF f n g l aO b C d) (E:Sl (jK k1 k) 7 f a c body) (V:g8 (ec z::fV l z) loc.length body q=ad) (j:Ws w (c6 bh.ids<|(eO 180 3 b g (av l aO) s)++(g9 281 3 i b u x loc v)) ((eO 180 3 b g (av l aO) s)++(g9 281 3 i b u x loc v)) [f] w) : cx aC 164 #[b8 (aa ⟨i,0,ao⟩),aE a body.length c] w λe m=>(∃r:aS×fW×I ac×ac,e = cf (bW r.1)/\(hP (av l aO) (dE (av l aO) d) u body (⟨loc,v,s.w⟩:Fm) = .ok r.1 ⟨r.2.2.1,r.2.2.2,r.2.1.w⟩/\kC f (av l aO) (d' l) C r.2.1/\r.2.2.1.length=loc.length)/\Ws w (c6 bh.ids<|(eO 180 3 b g (av l aO) s)++(g9 281 3 i b u x loc v)) ((eO 180 3 b g (av l aO) r.2.1)++(g9 281 3 i b u x r.2.2.1 r.2.2.2)) [f] m)\/(∃r:ac×fW,e = .panicked (oI 182 r.1)/\hP (av l aO) (dE (av l aO) d) u body (⟨loc,v,s.w⟩:Fm) = .ov r.1 r.2.w/\Ws w (c6 bh.ids<|(eO 180 3 b g (av l aO) s)++(g9 281 3 i b u x loc v)) (eO 180 3 b g (av l aO) r.2) [f] m):=by
 induction k using om generalizing i u z x loc v body a c q s w;rename_i k W;have X:∀k2,k2<k->T9 f n g l aO b C d k1 k2:=λk2 h i u z x loc v y a c q s w F G H ae af=>W k2 h i u z x loc v y a c q s w F G H ae af;have aB:=E.cap;have aF:=E.max;refine enter func164 O 17 O O<|CE j<|ak<|au O<|ag<|Cs<|ak<|ab O<|V0 (Yn sW O)<|ab O<|ag<|Cb ?_;refine f_ (ι:=Z×fW×I ac×ac) (λt=>[(9,am an (t.1:ac))]) [(0,_),(7,_),(8,_)] (λt=>Ws w (c6 bh.ids<|(eO 180 3 b g (av l aO) s)++(g9 281 3 i b u x loc v)) ((eO 180 3 b g (av l aO) t.2.1)++(g9 281 3 i b u x t.2.2.1 t.2.2.2)) [f]) (λt=>t.1<=body.length/\(kC f (av l aO) (d' l) C t.2.1)/\t.2.2.1.length=loc.length/\hP (av l aO) (dE (av l aO) d) u body (⟨loc,v,s.w⟩:Fm)=hP (av l aO) (dE (av l aO) d) u (body.drop t.1) (⟨t.2.2.1,t.2.2.2,t.2.1.w⟩:Fm)) (λt=>body.length-t.1) (0,s,loc,v) ⟨dw _,S,O,O⟩ a' λt ⟨aG,L,A,B⟩=>ak<|V0 (c8 O O)<|ag<|Cs ?_;refine Cc O (λJ=>?_)<|λJ=>?_
 ·have M:t.1<body.length:=by simpa using J
  obtain ⟨y,o⟩:=bk M;obtain ⟨aH,aL,ah,N⟩:=E.ct t.1 y o;obtain ⟨k2,rfl⟩:∃k2,k=k2+1:=by cases k with| zero=>exact N.elim| succ k2=>exact ⟨k2,rfl⟩
  obtain ⟨P,al,F,G,H⟩:=N;have ap:=XB V o;refine ay<|Cs<|Cb<|ak<|V0 (Yo sW O O ah M)<|V0 (eB 0 xL O O O<|al) ?_;refine Al Y O Bu λaM=>aw 0 Y O O O DQ O O O<|ag<|Cs<|hk 0 (aY (rq y P).toArray 51 (0,0)) O O<|Cr<|ab O<|V0 (dW 0 O O xL O)<|Lf 5 O<|Lf 5 O ?_;refine Lf 5 O<|Lf 5 O<|Lf 5 O ?_;refine bU (ι:=_) (κ:=_) [_,_,_,_,_] _ Y O bp O O _ _ _ _ _ _ [f] aK (λw j=>aeH f n g l aO b C d i u z x t.2.2.1 t.2.2.2 y P k1 k2 _ t.2.1 w L T U hC (X k2 ai) F G H (by rw [A];exact ap) j) ?_ ?_;·intro p D;refine Ep<|WE.cp<|Ep<|Ep<|WE.cp<|Ep ?_;refine b_ λm j=>be ⟨p,O,B.trans<|(L5 _ o).trans<|kk D,by have h:=j;have h:=Wt 3 h;exact h⟩
  intro p ⟨D,Q,R⟩;refine ag<|Cc O (λK=>?_)<|λK=>?_;·refine ak<|au O<|ag<|bu<|aU<|Er<|Er<|aU<|Er ?_;refine R1 O O λm j=>?_;have ax:p.1=ad:=K;exact bB ⟨(ad,p.2),O,⟨B.trans<|(L5 _ o).trans<|(gX D).trans<|aD ax,Q,R.trans A⟩,Wt 5 j⟩
  refine Ck<|Eb<|Et<|Cr<|V0 (Yi O O O ai)<|ab O<|Ln ?_;exact ep ((t.1+1,p.2):Z×fW×I ac×ac) (by show _-(t.1+1)<_;omega) ⟨by show t.1+1<=_;omega,Q,R.trans A,B.trans<|(L5 _ o).trans<|(gX D).trans<|aj (by rw [K];simp)⟩<|λ_ h=>(Wt 5 h:)
 have az:body.length<=t.1:=by simp at J;omega
 refine Ce<|Ex<|Ex<|ee<|Et<|ak<|au O<|ag<|bu ?_;refine R1 O O λm j=>bB ⟨(aq,t.2),O,⟨B.trans<|aeG _ az,L,A⟩,j⟩
def aeP (j:View) (n:Z) (k:KW) (l:I aI) (aO m C d:Z) (u:Z) (z:aI) (x:SP) (loc:I ac) (body:I et) (a:aA a6) (c k1 k2:Z) (s:fW) (w:aP) (G:iU j n k l aO) (T:C<=24) (hC:C+1<=24->zF j n k l aO m (C+1) d) (J:kC j (av l aO) (d' l) C s) (K:l[u]? = aa z) (L:Sl (jK k1 k2) 7 j a c body) (M:bX (ec z::fV l z) loc.length body 1=ad) (f:Ws w (c6 bh.ids<|(eO 180 3 m k (av l aO) s)++[cQ 3 1 ik x.1 x.2 loc]) ((eO 180 3 m k (av l aO) s)++[cQ 3 1 ik x.1 x.2 loc]) [j] w) :
   cx aC 96 #[b8 (aa ⟨m,0,ao⟩),am an (u:ac),aE x.1 loc.length x.2,aE a body.length c] w λe p=>(∃r:ac×fW,e = cf (am an r.1)/\(dE (av l aO) (d+1) u loc body s.w = .ok r.1 r.2.w/\kC j (av l aO) (d' l) C r.2)/\Ws w (c6 bh.ids<|(eO 180 3 m k (av l aO) s)++[cQ 3 1 ik x.1 x.2 loc]) (eO 180 3 m k (av l aO) r.2) [j] p)\/(∃r:ac×fW,e = .panicked (oI 182 r.1)/\dE (av l aO) (d+1) u loc body s.w = .ov r.1 r.2.w/\Ws w (c6 bh.ids<|(eO 180 3 m k (av l aO) s)++[cQ 3 1 ik x.1 x.2 loc]) (eO 180 3 m k (av l aO) r.2) [j] p):=by
 refine enter func96 O 44 O O<|CE f<|ak<|au O<|ag<|ak<|ab O ?_;refine bU [_,_,_] _ Y O bp O O _ _ _ _ _ _ [j] aK (λw f=>T3 m k l aO C j s w J G.aO f) ?_ ?_;·intro b t;refine Ep<|b_ λp f=>be ⟨b,O,aeI t,by have h:=f;have h:=Wt 3 h;exact h⟩
 intro b ⟨t,v⟩;refine ag<|Cs ?_;have N:=v.cl;have U:mJ (av l aO) s.w = .ok b.1 b.2.w:=t;refine Cr<|ab O<|V0 (bS O)<|V0 (Yf D' O)<|V0 (Yd 0 O O O ah)<|V0 (bY O O) ?_;refine bU (ι:=ef) (κ:=ef) [] _ Y O bp O O (λ_=>cO #[]) (λ_=>[]) (λ_=>(((b.2.w.calls:Z):ac)==24)=aq) (λ_=>oI 182 4) (λ_=>[]) (λ_=>(((b.2.w.calls:Z):ac)==24)=ad) [] aK (λw f=>(D8 _ 4 w).mono λe p h=>by
  rcases h with ⟨_,B,D,E⟩ | ⟨_,B,D,E⟩;·exact bB ⟨(),B,D,f.ext E⟩
  ·exact be ⟨(),B,D,f.ext E⟩) ?_ ?_;·intro _ A;refine Ep<|b_ λp f=>be ⟨(4,b.2),O,aeJ t (show b.2.w.calls=24 from by have h:=A;simp at h;omega),by have h:=f;have h:=Wt 3 h;exact h⟩
 intro _ A;refine ag<|Cs ?_;have H:¬b.2.w.calls=24:=by intro h;rw [h] at A;simp at A
 have P:kC j (av l aO) (d' l) (C+1) (⟨{ b.2.w with calls:=b.2.w.calls+1 },b.2.i,b.2.o,b.2.d⟩:fW):=⟨v.bn,v.out,v.tk,v.hr,by show b.2.w.calls+1=C+1;rw [N]⟩;refine Cr<|ab O<|V0 (bS O)<|V0 (Yf D' O)<|V0 (Yd 0 O O O ah)<|V0 (Yi O O O ai)<|V0 (bS O)<|V0 (Yf D' O) ?_;refine aw 0 Y O O O eE O O O<|ag<|Cs<|hk 0 (n4 180 k (av l aO) (⟨{ b.2.w with calls:=b.2.w.calls+1 },b.2.i,b.2.o,b.2.d⟩:fW)) O O<|Cr<|ab O<|ab O<|ab O<|V0 (Yb aeN aeM O O) ?_;refine WL.box Y O O λQ=>?_;obtain ⟨R,S⟩:∃q,q=Q:=⟨_,rfl⟩;subst S;refine eb 0 (xh 281 m u x loc.length 0) O O<|au O<|ag<|ak<|ab O<|ab O<|Lf 4 O<|Lf 1 O<|Lf 4 O ?_;refine Lf 4 O<|Lf 4 O ?_;refine bU [_,_,_,_,_] _ Y O bp O O _ _ _ _ _ _ [j] aK (λw f=>aeO j n k l aO m (C+1) d R u z x loc 0 body a c k1 k2 1 (⟨{ b.2.w with calls:=b.2.w.calls+1 },b.2.i,b.2.o,b.2.d⟩:fW) w P G K (hC ai) L (xf M) f) ?_ ?_;·intro g F;refine Ep<|b_ λp f=>be ⟨g,O,aeK t H F,by have h:=f;exact h⟩
 intro g ⟨F,y,V⟩;refine ag<|Cs ?_;have W:=y.cl;refine Cr<|ab O<|V0 (bS O)<|V0 (Yf D' O)<|V0 (Yd 0 O O O ah)<|V0 (dC ((g.2.1.w.calls-1:Z):ac) O O ai ai)<|V0 (bS O)<|V0 (Yf D' O) ?_;refine aw 0 Y O O O eE O O O<|ag<|Cs<|hk 0 (n4 180 k (av l aO) (⟨{ g.2.1.w with calls:=g.2.1.w.calls-1 },g.2.1.i,g.2.1.o,g.2.1.d⟩:fW)) O O<|Cr<|ab O<|V0 (bS O)<|V0 (Yf T_ O)<|V0 (Yd 3 O O O ah) ?_;refine au O<|ag<|bu ?_;refine R1 O O λp f=>bB ⟨(g.2.2.2,(⟨{ g.2.1.w with calls:=g.2.1.w.calls-1 },g.2.1.i,g.2.1.o,g.2.1.d⟩:fW)),O,⟨aeL t H F,⟨y.bn,y.out,y.tk,y.hr,by show g.2.1.w.calls-1=C;omega⟩⟩,Wt 3 f⟩
def Ua (b:View) (n:Z) (e:KW) (l:I aI) (aO f:Z) (g:iU b n e l aO):∀d C,C+d=25->C<=24->zF b n e l aO f C d| 0,C,i,j=>absurd i ai| d+1,C,i,j=>λu z x loc body a c k1 k2 s w k m o p q=>aeP b n e l aO f C d u z x loc body a c k1 k2 s w g j (λh=>Ua b n e l aO f g d (C+1) ai h) k m o p q
def Ub:e2 aC 182=aa 1:=ah
def aeQ:aT aC 182 0=aa 0:=ah
def aeR (f:View) (a:aA a6) (c:Z) (l:I ac) (w:aP) (k:Le f w) (g:Sl gW 1 f a c l) (q:l.length<=1048576) : cx aC 82 #[aE a l.length c] w λe i=>∃r:SP,e = cf (aE r.1 l.length r.2)/\Ext w i/\Sl gW 1 (nv w i) r.1 r.2 l:=by
 have s:=g.cap;have t:=g.max;refine enter func82 O 8 O O<|CE (Vs:=[f]) (Ws.init (by simp [k]))<|ak<|au O<|ag<|Cs<|ak<|ab O<|V0 (E4 e8 O)<|ag ?_;refine Cc O (λj=>?_)<|λj=>?_
 ·have m:l=[]:=by cases l with| nil=>rfl| cons x r=>obtain ⟨b,o,h,_⟩:=g.ct 0 x rfl;rw [h] at j;cases j
  refine ak<|au O<|ag<|bu<|Er ?_;refine R1 O O λi d=>?_;subst m;exact ⟨(ao,0),O,d.fr,Sl.nil⟩
 refine ay<|ak ?_;refine WL.Ca Y O gn O O O λu=>WL.z_ (size:=1) 0 O (c7 0) (dw _) O<|WL.m7 0 ([]:I ac).length (([]:I ac).flatMap ik) O O O<|ab O<|WL.wZ (ys:=l) (xs:=[]) 0 (λ_=>f) Y O gn O O O (λw d=>⟨d.vs f aK,g⟩) iH lr WZ (by simp;omega) (by simp;omega) λn p=>au O<|ag<|bu ?_;refine R1 O O λi d=>⟨(n,p),O,d.fr,d.kb 0 O lr iH⟩
def aeS (f g a:Z) (b:aR) (w:aP) (c:Ws w (c6 bh.ids [aQ a<|aY #[b] 30 (0,0)]) [aQ a<|aY #[b] 30 (0,0)] [] w) : CallsD aC 95 #[b8 (aa ⟨f,0,ao⟩),b8 (aa ⟨g,0,ao⟩),b8 (aa ⟨a,0,ao⟩)] (.returning) w λe h d=>h = .returning/\(e = cf (cO #[])/\Ws w (c6 bh.ids [aQ a<|aY #[b] 30 (0,0)]) [aQ a<|aY #[b] 30 (0,0)] [] d):=by refine lx func95 O 26 O O O O O (λ_=>rfl) (bB ⟨O,O,O⟩)<|LW (W':=Ws w (c6 bh.ids [aQ a<|aY #[b] 30 (0,0)]) [aQ a<|aY #[b] 30 (0,0)] []) (λ_ e=>by subst e;exact c)<|au O<|ag<|ak<|ab O<|V0 (Oj underlying182 Hm O)<|ab O<|V0 (Yx O O)<|V0 (Yx O O) ?_;refine Al Y O Hm λi=>aw 0 Y O O O Ub O O O<|au O<|ag<|ak<|ab O<|ag ?_;refine WC.uc O<|ak<|ab O<|V0 (IA GY O)<|ag ?_;refine WC.uc O<|Ck<|E0 O λd c=>⟨O,Wd 1 c⟩
def aeT (b c f a:Z) (g:KW) (P:Env) (s:fW) (x:ac) (v0 v1 v2 h k:aR) (w:aP) (l:Ws w (c6 bh.ids [aQ b<|aY #[b8 (aa ⟨a,0,ao⟩)] 177 (0,0),aQ c<|aY #[v0,v1,v2,h] 64 (0,0),aQ f<|aY #[k] 30 (0,0),aQ a<|n4 180 g P s]) [aQ b<|aY #[b8 (aa ⟨a,0,ao⟩)] 177 (0,0),aQ c<|aY #[v0,v1,v2,h] 64 (0,0),aQ f<|aY #[k] 30 (0,0),aQ a<|n4 180 g P s] [] w) : CallsD aC 95 #[b8 (aa ⟨b,0,ao⟩),b8 (aa ⟨c,0,ao⟩),b8 (aa ⟨f,0,ao⟩)] (.panicking<|oI 182 x) w λe n m=>n = .panicking [⟨.iface 182<|b0 #[am an x],ad,aq⟩]/\(e = cf (cO #[])/\Ws w (c6 bh.ids [aQ b<|aY #[b8 (aa ⟨a,0,ao⟩)] 177 (0,0),aQ c<|aY #[v0,v1,v2,h] 64 (0,0),aQ f<|aY #[k] 30 (0,0),aQ a<|n4 180 g P s]) [aQ b<|aY #[b8 (aa ⟨a,0,ao⟩)] 177 (0,0),aQ c<|ahQ 64 x s,aQ f<|aY #[am an 0] 30 (0,0),aQ a<|mD (n4 180 g P s) 6 [am an x]] [] m):=by refine lx func95 O 26 O O O O O (λ_=>rfl) (be ⟨_,O,O,O⟩)<|LW (W':=Ws w (c6 bh.ids [aQ b<|aY #[b8 (aa ⟨a,0,ao⟩)] 177 (0,0),aQ c<|aY #[v0,v1,v2,h] 64 (0,0),aQ f<|aY #[k] 30 (0,0),aQ a<|n4 180 g P s]) [aQ b<|aY #[b8 (aa ⟨a,0,ao⟩)] 177 (0,0),aQ c<|aY #[v0,v1,v2,h] 64 (0,0),aQ f<|aY #[k] 30 (0,0),aQ a<|n4 180 g P s] []) (λ_ e=>by subst e;exact l)<|au O<|ag<|ak<|ab O<|V0 (Oi underlying182 O)<|ab O<|V0 (Yx O O)<|V0 (Yx O O) ?_;refine Al Y O Hm λp=>aw 0 Y O O O Ub O O O<|au O<|ag<|ak<|ab O<|ag ?_;refine WC.EN O<|ak<|V0 (Yd 1 O O O ah)<|V0 (Yf aeQ O)<|V0 (Yd 0 O O (v:=am an x) O ah)<|V0 (bS O)<|V0 (Yf tY O)<|V0 (Yf yY O)<|aw 4 Y O O O eE O O O ?_;refine eb 4 (mD (n4 180 g P s) 6 [am an x]) O O<|ag<|Cr<|V0 (Yd 1 O O O ah)<|V0 (bS O)<|V0 (Yf tY O) ?_;refine V0 (ET kD O (cs:=[am an x,aE s.o.1 s.w.out.length s.o.2,aE s.d.1 s.w.data.length s.d.2,am an (s.w.a0:ac)]) O (λw l j v hv=>by refine cell_of_heap (l.kn _<|gd (i:=4) O) ?_;match j,hv with| 0,hv=>exact hv| 1,hv=>exact hv| 2,hv=>exact hv| 3,hv=>exact hv))<|aw 2 Y O O O mO O O O<|aw 3 Y O O O n8 O O O<|Ln ?_;refine E0 O λm l=>⟨O,Wd 1 l⟩
def Hr (l:I aI) (bn:I ac) (a0:ac):pi l bn a0=if lS l=0 then (if 64<bn.length then 2 else if (decide (a0<0)||decide (2000<a0))=ad then 3 else 0) else lS l:=rfl
def aeU:hW aC 180=aa [(0,1),(1,1),(2,1),(3,1),(4,1),(5,1),(6,4)]:=ah
def aeV:zeroOf aC 180=aa (b0 #[aE ao 0 0,aE ao 0 0,aE ao 0 0,aE ao 0 0,am an 0,am an 0,am an 0,aE ao 0 0,aE ao 0 0,am an 0]):=ah
def aeW:zeroOf aC 177=aa (b8 ao):=ah
def aeX:e2 aC 177=aa 1:=ah
def vZ:ii aC 178 29 (aE ao 0 0) 1 24:=j_ ah
def L6:e2 aC 178=aa 1:=ah
set_option maxHeartbeats 4000000 in
def aeY (A:View) (n:Nat) (a:Option Addr) (c:Nat) (l:List aI) (X:View) (aB:Option Addr) (aF:Nat) (bn:List Int) (a0:Int) (w:World) (bv:Le A w) (K:Sl (CI n) 5 A a c l) (bg:∀u ∈ l,u.aN.length<=1048576) (bw:Le X w) (aG:Sl gW 1 X aB aF bn) :
   Calls prog 25 #[.slice a l.length c,.slice aB bn.length aF,.int .i64 a0] w λe B=>∃r:SP×SP,e = .returned (.tuple #[XR (mN l bn a0) r,.int .i64 (pi l bn a0)])/\Ext w B/\Sl gW 1 (nv w B) r.1.1 r.1.2 (mN l bn a0).out/\Sl gW 1 (nv w B) r.2.1 r.2.2 (mN l bn a0).data:=by
 have cl:=K.cap;have cm:=K.max;have co:=aG.cap;have cq:=aG.max;refine E' func25 O 119 O O<|CE (Vs:=[X,A]) (Ws.init (by simp [bw,bv]))<|ak ?_;refine Al Y O mP λP=>Al Y O C3 λL=>ag<|Cs<|ak<|ab O<|Lp Y O bp O (λw k=>ad2 A n n a c l w (k.vs _ (by simp)) (K.imp λ_ _ _ h=>h) bg)<|au O<|ag<|ak<|ab O<|V0 (ha O O)<|ag ?_;refine Cc O (λaH=>?_)<|λaH=>?_
 ·have G:¬lS l=0:=by simpa using aH
  refine ak<|V0 (Yb mP tC O O)<|ab O<|aw 1 Y O O O mO O O O<|aw 0 Y O O O n8 O O O<|ag<|bu<|Er ?_;refine WE.vB (hX O (fj 1 O O kD O)<|jJ 0 O O O ah) λB k=>?_;have p:(pi l bn a0)=lS l:=by rw [Hr,aj G]
  rw [JT (by rw [p];exact G),p];exact ⟨((none,0),(none,0)),O,k.fr,Sl.nil,Sl.nil⟩
 have G:lS l=0:=by simpa using aH
 have H:=uJ.1 G;have cr:=H.fH;have cs:=yS H;refine ay<|Cs<|ak<|ab O<|V0 (Yn e8 O)<|V0 (eZ O O)<|ag ?_;refine Cc O (λaK=>?_)<|λaK=>?_
 ·have ae:64<bn.length:=by simp at aK;omega
  refine ak<|V0 (Yb mP tC O O)<|aw 1 Y O O O mO O O O<|aw 0 Y O O O n8 O O O<|ag<|bu<|Er ?_;refine WE.vB (hX O (fj 1 O O kD O)<|jJ 0 O O O ah) λB k=>?_;have p:(pi l bn a0)=2:=by rw [Hr,aD G,aD ae]
  rw [JT (by rw [p];decide),p];exact ⟨((none,0),(none,0)),O,k.fr,Sl.nil,Sl.nil⟩
 have ae:¬64<bn.length:=by simp at aK;omega
 refine ay<|Cs<|ak<|ab O<|V0 (c8 O O)<|ab O ?_;apply Lo 2 O O O O Y O O O O O;·intro cu;refine Vg (Ym O)<|Vg (eZ O O) ?_;exact Gt 2 O O O
 refine ag<|Cc O (λaf=>?_)<|λaf=>?_
 ·refine ak<|V0 (Yb mP tC O O)<|aw 1 Y O O O mO O O O<|aw 0 Y O O O n8 O O O<|ag<|bu<|Er ?_;refine WE.vB (hX O (fj 1 O O kD O)<|jJ 0 O O O ah) λB k=>?_;have p:(pi l bn a0)=3:=by rw [Hr,aD G,aj ae,aD af]
  rw [JT (by rw [p];decide),p];exact ⟨((none,0),(none,0)),O,k.fr,Sl.nil,Sl.nil⟩
 have p:(pi l bn a0)=0:=by rw [Hr,aD G,aj ae,af];rfl
 have bx:0<=a0/\a0<=2000:=by simp at af;omega
 refine ay<|ak<|ab O<|ab O ?_;refine Ld Y O bp O (λr:SP=>.slice r.1 bn.length r.2) (λF r=>Sl gW 1 F r.1 r.2 bn) (λw k=>aeR X aB aF bn w (k.vs _ (by simp)) aG (by omega)) λai v cv bz=>ab O<|V0 (Yb aeV aeU O O) ?_;refine WL.box Y O O λbA=>?_;obtain ⟨C,bC⟩:∃q,q=bA:=⟨_,rfl⟩;subst bC;refine eb 0 (JV 180 (.slice a l.length c) (.slice none 0 0) (.slice none 0 0) (.slice v.1 bn.length v.2) a0<|.slice none 0 0) O O<|Al Y O aeW λQ=>aw 0 Y O O O aeX O O O<|ag<|ak ?_;refine WL.pT st Y O λbh=>au O<|ag<|ak<|au O<|ag<|Cs<|Cs ?_;refine pI (λ_ h=>h.hM 3 1)<|pI (λ_ h=>h.hM 29 1)<|pI (λ_ h=>h.v0)<|Cr<|ab O<|V0 (Yn oV O)<|ab O<|ag<|Cb ?_;refine nQ (ι:=F7) (λg=>[(45,.int .i64 (g.i:Int)),(11,.int .i64 (d'<|l.take g.i:Int))]) [(0,_),(6,_),(7,_),(9,_),(10,_),(43,_),(44,_)] (λg=>Ws w [] [cQ 29 1 XI.cells g.ua.1 g.ua.2<|g.es,cQ 3 1 ly g.ba.1 g.ba.2<|(jZ l 0).take g.i,aQ bh<|dT st (i5 ((fR l).take g.i) 0) g.i,aQ C<|JV 180 (.slice a l.length c) (.slice g.ua.1 g.es.length g.ua.2) (.slice g.ba.1 ((jZ l 0).take g.i).length g.ba.2) (.slice v.1 bn.length v.2) a0<|.slice none 0 0,aQ Q<|.cells #[.pointer (some ⟨C,0,none⟩)] 177 (0,0),aQ L<|.cells (Value.cells<|.int .i64 0) 30 (0,0),aQ P<|.cells (Value.cells<|.agg #[.int .i64 0,.slice none 0 0,.slice none 0 0,.int .i64 0]) 64 (0,0)] [g.J,ai,A]) (λg=>g.i<=l.length/\g.es.map (·.1)=(eF l).take g.i/\Xs sm g.J g.es) (λg=>l.length-g.i) ⟨0,[],(none,0),(none,0),v0⟩ ⟨dw _,O,Xs.nil _⟩ (sc O<|sc O<|sc O<|sc O<|sc O<|sc O<|sc O<|sc O<|sc O sn) (λ_ h=>by have h:=h.bs 6 O;have h:=h.bs 6 O;have h:=h.bs 5 O;have h:=h.bs 6 O;have h:=h.bs 6 O;have h:=h.bs 6 O;have h:=h.bs 6 O;have h:=Ws.aZ h (cI:=[v0,ai,A]) (by simp);exact h) λg ⟨cw,D,al⟩=>ak<|V0 (c8 O O)<|ag<|Cs ?_;refine Cc O (λaL=>?_)<|λaL=>?_
 ·have E:g.i<l.length:=by simpa using aL
  obtain ⟨u,m⟩:∃q,l[g.i]? = some q:=⟨_,cy E⟩;obtain ⟨bD,bE,aM,aT⟩:=K.ct g.i u m;obtain ⟨M,aU,S⟩:=aT;have cz:=S.aN.cap;have cA:=S.aN.max;have bi:=TF m;have bj:=Pj H.nd bi;have bk:((fR l).take g.i).length=g.i:=by rw [m3,DX];omega
  have bF:(fR l).take (g.i+1)=(fR l).take g.i++[u.nm]:=by rw [h7,bi];rfl
  have cC:=bg u<|aW m;have cD:((jZ l 0).take g.i).length=g.i:=by rw [m3,JU];omega
  have cE:g.es.length=g.i:=by rw [<-fB,D,m3,Pp];omega
  have aV:=XJ m;have aX:=JD m;have cF:=JH l<|g.i+1;have cG:0<=u.data/\u.data<=512:=by have bl:=TI<|H.oF u<|aW m;unfold p2 at bl;simp only [kG,mC] at bl;omega
  refine ay<|Cs<|Cb<|ak<|ab O<|V0 (Yo oV O O aM E)<|V0 (eB 2 mY O O O<|aU) ?_;refine Al Y O sU λbG=>au O<|aw 0 Y O O O sV O O O<|ag<|Cs<|hk 0 (.cells (ij u M).toArray 37 (0,0)) O O<|Cr<|ab O<|V0 (Yf Bz O)<|V0 (Yd 0 O O O ah) ?_;refine ab O<|WL.rk 3 jx Y js ah O O O O<|ag<|Cs ?_;rw [(F6 bj bk).1,(F6 bj bk).2,<-bF];refine Cr<|ab O ?_;refine Lb Y O gn O O O O λbI=>eb 0 (.cells ((([g.i]:List Nat)).flatMap ly).toArray 3 (0,0)) O O<|LW (λ_ h=>h.r9 (f:=ly) (xs:=([g.i]:List Nat)) (c:=1) 0 O AK O (by decide))<|au O<|ag<|Cs<|ak<|V0 (Yf zz O)<|V0 (Yd 1 O O O ah)<|V0 (Yn gf O)<|ab O ?_;refine ag<|Cb ?_;refine nQ (ι:=Nat×SP) (λj=>[(59,.int .i64 (j.1:Int)),(14,.slice j.2.1 (g.i::(u.aN.take j.1).map (nB l)).length j.2.2)]) [(0,_),(6,_),(7,_),(9,_),(10,_),(11,_),(13,_),(43,_),(44,_),(45,_),(57,_),(58,_)] (λj=>Ws w [] [cQ 3 1 ly j.2.1 j.2.2<|g.i::(u.aN.take j.1).map (nB l),aQ bG<|.cells (ij u M).toArray 37 (0,0),cQ 29 1 XI.cells g.ua.1 g.ua.2<|g.es,cQ 3 1 ly g.ba.1 g.ba.2<|(jZ l 0).take g.i,aQ bh<|dT st (i5 ((fR l).take<|g.i+1) 0)<|g.i+1,aQ C<|JV 180 (.slice a l.length c) (.slice g.ua.1 g.es.length g.ua.2) (.slice g.ba.1 ((jZ l 0).take g.i).length g.ba.2) (.slice v.1 bn.length v.2) a0<|.slice none 0 0,aQ Q<|.cells #[.pointer (some ⟨C,0,none⟩)] 177 (0,0),aQ L<|.cells (Value.cells<|.int .i64 0) 30 (0,0),aQ P<|.cells (Value.cells<|.agg #[.int .i64 0,.slice none 0 0,.slice none 0 0,.int .i64 0]) 64 (0,0)] [g.J,ai,A]) (λj=>j.1<=u.aN.length) (λj=>u.aN.length-j.1) (0,(some ⟨bI,0,none⟩,1)) (dw _) (sc O<|sc O<|sc O<|sc O<|sc O<|sc O<|sc O<|sc O<|sc O<|sc O<|sc O<|sc O<|sc O<|sc O sn) (λ_ h=>h) λj cH=>ak<|V0 (c8 O O)<|ag<|Cs ?_;refine Cc O (λa1=>?_)<|λa1=>?_
  ·have E:j.1<u.aN.length:=by simpa using a1
   obtain ⟨s,a2⟩:∃q,u.aN[j.1]? = some q:=⟨_,cy E⟩;obtain ⟨bJ,pos,bK,a3⟩:=S.aN.ct j.1 s a2;have a3:cB A bJ (pos+j.1*1)<|g4 s:=a3;obtain ⟨bL,cJ,bM,cK,_⟩:=FR H m<|aW a2;have bN:s ∈ (fR l).take (g.i+1):=by have bm:=(se bM).2;rw [qp] at bm;exact aW (show ((fR l).take<|g.i+1)[bL]? = some s by rw [jF,aD (by omega)];exact bm)
   refine ay<|Cs<|Cb<|ak<|V0 (Yo gf O O bK E)<|V0 (ew 2 ah O O<|a3 0 _ O)<|au O<|ag<|Cr<|ab O<|ab O<|ab O ?_;refine V0 (rj 4 jx js ah lY O O O) ?_;rw [(AE s _).1,ahL bN];refine Lb Y O gn O O O O λcL=>eb 0 (.cells (ly<|nB l s).toArray 3 (0,0)) O O<|LA (nB l s) 1 0 Y O gn O O O O O O (by simp;omega) (by simp;omega) λbO bP=>?_;rw [show (g.i::(u.aN.take j.1).map (nB l))++[nB l s]=g.i::(u.aN.take<|j.1+1).map (nB l) by rw [h7,a2];simp];refine au O<|Ln<|Eb<|Et<|Cr<|V0 (Yi O O O (by omega))<|ab O<|Ln ?_;exact Ea ((j.1+1,(bO,bP)):Nat×SP) (by show _-(j.1+1)<_;omega) (by show j.1+1<=_;omega) (sc O<|sc O<|sc O<|sc O<|sc O<|sc O<|sc O<|sc O<|sc O<|sc O<|sc O<|sc O<|sc O<|sc O sn)<|λ_ h=>Wd 1 h
  have bQ:j.1=u.aN.length:=by simp at a1;omega
  refine Ce<|Ex<|Ex<|ee<|Et<|Cs ?_;have bR:j.1=u.aN.length:=bQ;rw [bR,gH];refine WC.dM (rd:=sj) 0 O AK (λ_ _ _ _ h=>h) λcM a4=>WC.cb λa5 a7 a8 cN=>WC.WI (ow [.cell 6 64,.cell 7 30]) [1,1] [1,1,2] [18,19,20,21] (.q true 0<|.q false 1<|.q true 2<|.q false 3<|.q false 4<|.q true 5<|.q false 6<|.q true 9<|.q false 10<|.q false 11<|.q true 12<|.q false 13<|.e 7 (.e 8 (.e 14 (.e 15 (.q false 16<|.q false 17 .nil) .stop) .stop)<|.e 14 (.e 8 (.e 15 (.q false 16<|.q false 17 .nil) .stop) .stop) .stop)<|.e 14 (.e 7 (.e 8 (.e 15 (.q false 16<|.q false 17 .nil) .stop) .stop) .stop) .stop) mixed (by kernel_rfl) (λ_ _ _ _ _ a9 h=>rf (fn:=f25) [.cell 6 64,.cell 7 30] O a9 h)<|WV.q O Y O (dn [1,1]) (λ_ h=>by exact (Wt 5<|((((h.f 7 O).f 7 O).f 7 O).f 6 O).f 4 O:)) (Yd 3 O O O ah)<|WV.q O Y O (dn [1,1]) (λ_ h=>by exact (Wt 5<|((((h.f 7 O).f 7 O).f 7 O).f 6 O).f 4 O:)) (Yd 2 O O O ah)<|WV.q O Y O (dn [1,1]) (λ_ h=>by exact (Wt 5<|((((h.f 7 O).f 7 O).f 7 O).f 6 O).f 4 O:)) (Yd 3 O O O ah)<|WV.q O Y O (dn [1,1]) (λ_ h=>by exact (Wt 5<|((((h.f 7 O).f 7 O).f 7 O).f 6 O).f 4 O:)) (bS O)<|WV.q O Y O (dn [1,1]) (λ_ h=>by exact (Wt 5<|((((h.f 7 O).f 7 O).f 7 O).f 6 O).f 4 O:)) (Yf BG O)<|WV.q O Y O (dn [1,1]) (λ_ h=>by exact (Wt 5<|((((h.f 7 O).f 7 O).f 7 O).f 6 O).f 4 O:)) (Yd 2 O O O ah)<|WV.q O Y O (dn [1,1]) (λ_ h=>by exact (Wt 5<|((((h.f 7 O).f 7 O).f 7 O).f 6 O).f 4 O:)) (Ym O)<|WV.q O Y O (dn [1,1]) (λ_ h=>by exact (Wt 5<|((((h.f 7 O).f 7 O).f 7 O).f 6 O).f 4 O:)) (Yd 3 O O O ah)<|WV.q O Y O (dn [1,1]) (λ_ h=>by exact (Wt 5<|((((h.f 7 O).f 7 O).f 7 O).f 6 O).f 4 O:)) (bS O)<|WV.q O Y O (dn [1,1]) (λ_ h=>by exact (Wt 5<|((((h.f 7 O).f 7 O).f 7 O).f 6 O).f 4 O:)) (Yf D7 O)<|WV.q O Y O (dn [1,1]) (λ_ h=>by exact (Wt 5<|((((h.f 7 O).f 7 O).f 7 O).f 6 O).f 4 O:)) (Yd 2 O O O ah)<|WV.q O Y O (dn [1,1]) (λ_ h=>by exact (Wt 5<|((((h.f 7 O).f 7 O).f 7 O).f 6 O).f 4 O:)) (Ym O)<|WV.e O (dn [1,1]) (λ_ h=>by exact (Wt 5<|((((h.f 7 O).f 7 O).f 7 O).f 6 O).f 4 O:)) ?_ ?_
  ·refine Lb Y O vZ O O O O λbT=>eb 0 (.cells (XI.cells (g.i::u.aN.map (nB l),j.2)).toArray 29 (0,0)) O O<|Ln<|Eu ?_;refine WV.e O (λ_ h=>(Wo 1<|Wo 1<|Wd 1 h:)) (λ_ h=>by exact (Wt 5<|((((h.f 8 O).f 8 O).f 8 O).f 7 O).f 5 O:)) ?_ ?_;·refine LA ((g.i::u.aN.map (nB l),j.2):XI) 2 0 Y O vZ O O O O O O (by omega) (by omega) λT U=>Ln<|Eu ?_;refine WV.e O (λ_ h=>(Wo 1<|Wo 1<|Wd 1 h:)) (λ_ h=>by exact (Wt 5<|((((h.f 8 O).f 8 O).f 8 O).f 7 O).f 5 O:)) ?_ WU.stop;refine Lb Y O gn O O O O λbo=>eb 0 (.cells (ly<|d'<|l.take g.i).toArray 3 (0,0)) O O<|Ln<|Eu ?_;refine WV.e O (λ_ h=>(Wo 1<|Wo 1<|Wd 2 h:)) (λ_ h=>by exact (Wt 5<|((((h.f 9 O).f 9 O).f 9 O).f 8 O).f 6 O:)) ?_ WU.stop;refine LA (d'<|l.take g.i) 4 0 Y O gn O O O O O O (by omega) (by omega) λV W=>Ln<|Eu ?_;refine WV.q O Y O (λ_ h=>(Wo 1<|Wo 1<|Wd 2 h:)) (λ_ h=>by exact (Wt 5<|((((h.f 9 O).f 9 O).f 9 O).f 8 O).f 6 O:)) (bS O)<|WV.q O Y O (λ_ h=>(Wo 1<|Wo 1<|Wd 2 h:)) (λ_ h=>by exact (Wt 5<|((((h.f 9 O).f 9 O).f 9 O).f 8 O).f 6 O:)) (Yf BG O)<|WU.nil (λ_ h=>(Wo 1<|Wo 1<|Wd 2 h:))<|nT.e O (λ_ h=>by exact (Wt 5<|((((h.f 9 O).f 9 O).f 9 O).f 8 O).f 6 O:))<|aw 6 Y O O O L6 O O O<|Ln<|Es ?_;refine nT.e O (λ_ h=>by exact (Wt 5<|((((h.f 9 O).f 9 O).f 9 O).f 8 O).f 6 O:))<|V0 (bS O)<|Ln<|Es ?_;refine nT.e O (λ_ h=>by exact (Wt 5<|((((h.f 9 O).f 9 O).f 9 O).f 8 O).f 6 O:))<|V0 (Yf D7 O)<|Ln<|Es ?_;refine nT.e O (λ_ h=>by exact (Wt 5<|((((h.f 9 O).f 9 O).f 9 O).f 8 O).f 6 O:))<|aw 6 Y O O O lX O O O<|Ln<|Es ?_;refine nT.nil (λ_ h=>by exact (Wt 5<|((((h.f 9 O).f 9 O).f 9 O).f 8 O).f 6 O:))<|Et<|Cr<|ab O<|V0 (Yf vb O)<|V0 (Yd 2 O O O ah)<|V0 (o7 (a:=d'<|l.take g.i) (b:=u.data.toNat) O O O (by omega) (by omega))<|au O<|Ln<|Eb<|Et<|Cr<|V0 (Yi O O O (by omega)) ?_;refine ab O<|Ln ?_;rw [<-aV,<-aX];exact Ea (⟨g.i+1,g.es++[(g.i::u.aN.map (nB l),j.2)],(T,U),(V,W),a5⟩:F7) (by show _-(g.i+1)<_;omega) ⟨by show g.i+1<=_;omega,by show (g.es++[(g.i::u.aN.map (nB l),j.2)]).map (·.1)=_;rw [qs,D,JS m];rfl,Xs.snoc (R:=sm) (λhv h=>sm.mv hv h) al a8 a7 a4⟩ (sc O<|sc O<|sc O<|sc O<|sc O<|sc O<|sc O<|sc O<|sc O sn)<|λ_ h=>Wd 3 h
   refine WV.e O (λ_ h=>(Wo 1<|Wo 1<|Wd 1 h:)) (λ_ h=>by exact (Wt 5<|((((h.f 8 O).f 8 O).f 8 O).f 7 O).f 5 O:)) ?_ WU.stop;refine Lb Y O gn O O O O λbo=>eb 0 (.cells (ly<|d'<|l.take g.i).toArray 3 (0,0)) O O<|Ln<|Eu ?_;refine WV.e O (λ_ h=>(Wo 1<|Wo 1<|Wd 2 h:)) (λ_ h=>by exact (Wt 5<|((((h.f 9 O).f 9 O).f 9 O).f 8 O).f 6 O:)) ?_ WU.stop;refine LA ((g.i::u.aN.map (nB l),j.2):XI) 3 1 Y O vZ O O O O O O (by omega) (by omega) λT U=>Ln<|Eu ?_;refine WV.e O (λ_ h=>(Wo 1<|Wo 1<|Wd 2 h:)) (λ_ h=>by exact (Wt 5<|((((h.f 9 O).f 9 O).f 9 O).f 8 O).f 6 O:)) ?_ WU.stop;refine LA (d'<|l.take g.i) 4 0 Y O gn O O O O O O (by omega) (by omega) λV W=>Ln<|Eu ?_;refine WV.q O Y O (λ_ h=>(Wo 1<|Wo 1<|Wd 2 h:)) (λ_ h=>by exact (Wt 5<|((((h.f 9 O).f 9 O).f 9 O).f 8 O).f 6 O:)) (bS O)<|WV.q O Y O (λ_ h=>(Wo 1<|Wo 1<|Wd 2 h:)) (λ_ h=>by exact (Wt 5<|((((h.f 9 O).f 9 O).f 9 O).f 8 O).f 6 O:)) (Yf BG O)<|WU.nil (λ_ h=>(Wo 1<|Wo 1<|Wd 2 h:))<|nT.e O (λ_ h=>by exact (Wt 5<|((((h.f 9 O).f 9 O).f 9 O).f 8 O).f 6 O:))<|aw 6 Y O O O L6 O O O<|Ln<|Es ?_;refine nT.e O (λ_ h=>by exact (Wt 5<|((((h.f 9 O).f 9 O).f 9 O).f 8 O).f 6 O:))<|V0 (bS O)<|Ln<|Es ?_;refine nT.e O (λ_ h=>by exact (Wt 5<|((((h.f 9 O).f 9 O).f 9 O).f 8 O).f 6 O:))<|V0 (Yf D7 O)<|Ln<|Es ?_;refine nT.e O (λ_ h=>by exact (Wt 5<|((((h.f 9 O).f 9 O).f 9 O).f 8 O).f 6 O:))<|aw 6 Y O O O lX O O O<|Ln<|Es ?_;refine nT.nil (λ_ h=>by exact (Wt 5<|((((h.f 9 O).f 9 O).f 9 O).f 8 O).f 6 O:))<|Et<|Cr<|ab O<|V0 (Yf vb O)<|V0 (Yd 2 O O O ah)<|V0 (o7 (a:=d'<|l.take g.i) (b:=u.data.toNat) O O O (by omega) (by omega))<|au O<|Ln<|Eb<|Et<|Cr<|V0 (Yi O O O (by omega)) ?_;refine ab O<|Ln ?_;rw [<-aV,<-aX];exact Ea (⟨g.i+1,g.es++[(g.i::u.aN.map (nB l),j.2)],(T,U),(V,W),a5⟩:F7) (by show _-(g.i+1)<_;omega) ⟨by show g.i+1<=_;omega,by show (g.es++[(g.i::u.aN.map (nB l),j.2)]).map (·.1)=_;rw [qs,D,JS m];rfl,Xs.snoc (R:=sm) (λhv h=>sm.mv hv h) al a8 a7 a4⟩ (sc O<|sc O<|sc O<|sc O<|sc O<|sc O<|sc O<|sc O<|sc O sn)<|λ_ h=>Wd 3 h
  refine WV.e O (dn [1,1]) (λ_ h=>by exact (Wt 5<|((((h.f 7 O).f 7 O).f 7 O).f 6 O).f 4 O:)) ?_ WU.stop;refine Lb Y O gn O O O O λbo=>eb 0 (.cells (ly<|d'<|l.take g.i).toArray 3 (0,0)) O O<|Ln<|Eu ?_;refine WV.e O (λ_ h=>(Wo 1<|Wo 1<|Wd 1 h:)) (λ_ h=>by exact (Wt 5<|((((h.f 8 O).f 8 O).f 8 O).f 7 O).f 5 O:)) ?_ WU.stop;refine Lb Y O vZ O O O O λbT=>eb 0 (.cells (XI.cells (g.i::u.aN.map (nB l),j.2)).toArray 29 (0,0)) O O<|Ln<|Eu ?_;refine WV.e O (λ_ h=>(Wo 1<|Wo 1<|Wd 2 h:)) (λ_ h=>by exact (Wt 5<|((((h.f 9 O).f 9 O).f 9 O).f 8 O).f 6 O:)) ?_ WU.stop;refine LA ((g.i::u.aN.map (nB l),j.2):XI) 3 0 Y O vZ O O O O O O (by omega) (by omega) λT U=>Ln<|Eu ?_;refine WV.e O (λ_ h=>(Wo 1<|Wo 1<|Wd 2 h:)) (λ_ h=>by exact (Wt 5<|((((h.f 9 O).f 9 O).f 9 O).f 8 O).f 6 O:)) ?_ WU.stop;refine LA (d'<|l.take g.i) 4 1 Y O gn O O O O O O (by omega) (by omega) λV W=>Ln<|Eu ?_;refine WV.q O Y O (λ_ h=>(Wo 1<|Wo 1<|Wd 2 h:)) (λ_ h=>by exact (Wt 5<|((((h.f 9 O).f 9 O).f 9 O).f 8 O).f 6 O:)) (bS O)<|WV.q O Y O (λ_ h=>(Wo 1<|Wo 1<|Wd 2 h:)) (λ_ h=>by exact (Wt 5<|((((h.f 9 O).f 9 O).f 9 O).f 8 O).f 6 O:)) (Yf BG O)<|WU.nil (λ_ h=>(Wo 1<|Wo 1<|Wd 2 h:))<|nT.e O (λ_ h=>by exact (Wt 5<|((((h.f 9 O).f 9 O).f 9 O).f 8 O).f 6 O:))<|aw 6 Y O O O L6 O O O<|Ln<|Es ?_;refine nT.e O (λ_ h=>by exact (Wt 5<|((((h.f 9 O).f 9 O).f 9 O).f 8 O).f 6 O:))<|V0 (bS O)<|Ln<|Es ?_;refine nT.e O (λ_ h=>by exact (Wt 5<|((((h.f 9 O).f 9 O).f 9 O).f 8 O).f 6 O:))<|V0 (Yf D7 O)<|Ln<|Es ?_;refine nT.e O (λ_ h=>by exact (Wt 5<|((((h.f 9 O).f 9 O).f 9 O).f 8 O).f 6 O:))<|aw 6 Y O O O lX O O O<|Ln<|Es ?_;refine nT.nil (λ_ h=>by exact (Wt 5<|((((h.f 9 O).f 9 O).f 9 O).f 8 O).f 6 O:))<|Et<|Cr<|ab O<|V0 (Yf vb O)<|V0 (Yd 2 O O O ah)<|V0 (o7 (a:=d'<|l.take g.i) (b:=u.data.toNat) O O O (by omega) (by omega))<|au O<|Ln<|Eb<|Et<|Cr<|V0 (Yi O O O (by omega)) ?_;refine ab O<|Ln ?_;rw [<-aV,<-aX];exact Ea (⟨g.i+1,g.es++[(g.i::u.aN.map (nB l),j.2)],(T,U),(V,W),a5⟩:F7) (by show _-(g.i+1)<_;omega) ⟨by show g.i+1<=_;omega,by show (g.es++[(g.i::u.aN.map (nB l),j.2)]).map (·.1)=_;rw [qs,D,JS m];rfl,Xs.snoc (R:=sm) (λhv h=>sm.mv hv h) al a8 a7 a4⟩ (sc O<|sc O<|sc O<|sc O<|sc O<|sc O<|sc O<|sc O<|sc O sn)<|λ_ h=>Wd 3 h
 have bq:g.i=l.length:=by simp at aL;omega
 rw [bq,show (jZ l 0).take l.length=jZ l 0 from mz (by rw [JU];omega),gH];have D:=D.trans (by rw [bq,mz (by rw [Pp];omega)]);refine Ce<|Ex<|Ex<|ee<|Et<|Cs ?_;refine CU (ow [.cell 6 64,.cell 7 30]) [] [6] (.q true 0<|.q false 1<|.e 2 (.q false 3<|.q false 4<|.q false 5 .nil) .stop) mixed (by kernel_rfl) (λ_ _ _ _ _ a9 h=>rf (fn:=f25) [.cell 6 64,.cell 7 30] O a9 h)<|U0 O (λ_ h=>h) (Yd 4 O O O ah)<|U0 O (λ_ h=>h) (Ym O) ?_;refine Ue O (λ_ h=>h) ?_ WU.stop;refine WL.make Y O gn O O (by omega) (by omega) (by omega) (by omega) λap=>eb 0 (.cells ((List.replicate (d' l) (0:Int)).flatMap ik).toArray 3 (0,0)) O (by rw [ku,T4])<|LW (λ_ h=>h.r9 (f:=ik) (xs:=List.replicate (d' l) 0) (c:=d' l) 0 O lr (by simp) (by unfold maxLen;omega))<|Ln<|Eu<|U0 O (λ_ h=>(Wd 1 h:)) (bS O)<|U0 O (λ_ h=>(Wd 1 h:)) (Yf tY O)<|U0 O (λ_ h=>(Wd 1 h:)) (Yf uK O) ?_;refine WU.nil (λ_ h=>(Wd 1 h:))<|WS.e O<|aw 4 Y O O O lX O O O<|Ln<|Es ?_;refine WS.nil<|Et<|ak<|V0 (wW O) ?_;refine WL.defer Y O<|ag<|Cs<|Cs ?_;refine WC.dM (rd:=Pq) 1 O XI.dR (λ_ _ _ _ h=>h) λbV bY=>WC.dM (rd:=sj) 1 O AK (λ_ _ _ _ h=>h) λbZ b1=>WC.cb λcP b2 b3 cR=>WC.cb λcS br b4 cT=>WC.cb λcU a' b5 cV=>WC.cb λN ax a_ cW=>?_;have b6:g.es.length=(eF l).length:=by rw [<-D,fB]
 have b7:cX bZ N:=cX.trans b2<|cX.trans br<|cX.trans a' ax;have b9:cX bV N:=cX.trans b3<|cX.trans br<|cX.trans a' ax;have b':cX g.J N:=cX.trans b4<|cX.trans a' ax;have b_:cX ai N:=cX.trans b5 ax;have bt:iU N n (⟨(a,c),g.ua,g.ba⟩:KW) l a0.toNat:=⟨H,by omega,K.imp<|XQ a_ n,by rw [<-D];exact ahP bY b9 b' al,b1.imp<|Pr b7⟩;have ca:kC N (av l a0.toNat) (d' l) 0 (⟨vR l bn,v,(none,0),(some ⟨ap,0,none⟩,d' l)⟩:fW):=⟨bz.imp λb o x h=>cB.mono b_ h,by show 0<=200;decide,dw _,by show (List.replicate (d' l) 0).length=_;simp,rfl⟩;obtain ⟨z,az⟩:∃z,z=(⟨(a,c),g.ua,g.ba⟩:KW):=⟨_,rfl⟩;rw [<-az] at bt;have cc:z.l=(a,c):=by rw [az]
 have cd:z.u=g.ua:=by rw [az]
 have ce:z.b=g.ba:=by rw [az]
 refine pI (λ_ h=>h.hM 3 1)<|hk 3 (n4 180 z (av l a0.toNat) (⟨vR l bn,v,(none,0),(some ⟨ap,0,none⟩,d' l)⟩:fW)) rfl (by unfold n4;rw [cc,cd,ce,show (av l a0.toNat).aN=eF l from rfl,<-b6,show ((av l a0.toNat).aO:Int)=a0 from Int.toNat_of_nonneg bx.1,show (⟨vR l bn,v,(none,0),(some ⟨ap,0,none⟩,d' l)⟩:fW).w.data.length=d' l from ED,show (av l a0.toNat).g1=jZ l 0 from rfl];rfl)<|Cr<|ab O<|V0 (Yn oV O)<|ab O<|ag<|Cb ?_;refine nQ (ι:=Nat×fW) (λt=>[(104,.int .i64 (t.1:Int))]) [(6,_),(7,_),(9,_),(102,_),(103,_)] (λt=>Ws w [] ((eO 180 3 C z (av l a0.toNat) t.2)++[aQ Q<|.cells #[.pointer (some ⟨C,0,none⟩)] 177 (0,0),aQ L<|.cells (Value.cells<|.int .i64 0) 30 (0,0),aQ P<|.cells (Value.cells<|.agg #[.int .i64 0,.slice none 0 0,.slice none 0 0,.int .i64 0]) 64 (0,0)]) [N]) (λt=>t.1<=l.length/\kC N (av l a0.toNat) (d' l) 0 t.2/\mK (av l a0.toNat) l 0 (vR l bn)=mK (av l a0.toNat) (l.drop t.1) t.1 t.2.w) (λt=>l.length-t.1) (0,(⟨vR l bn,v,(none,0),(some ⟨ap,0,none⟩,d' l)⟩:fW)) ⟨dw _,ca,O⟩ (sc O<|sc O<|sc O<|sc O<|sc O<|sc O sn) (λ_ h=>by exact (Wt 6<|(((((h.f 6 O).f 6 O).f 6 O).f 4 O).f 4 O).f 6 O:)) λt ⟨cZ,ch,bb⟩=>ak<|V0 (c8 O O)<|ag<|Cs ?_;refine Cc O (λbc=>?_)<|λbc=>?_
 ·have E:t.1<l.length:=by simpa using bc
  obtain ⟨u,m⟩:∃q,l[t.1]? = some q:=⟨_,cy E⟩;obtain ⟨bD,bE,aM,aT⟩:=K.ct t.1 u m;obtain ⟨M,aU,S⟩:=aT;have ci:bX (ec u::fV l u) ((([]:List Int).length:Nat):Int) u.main 1=true:=(iD<|H.oF u<|aW m).2.1;refine ay<|Cs<|Cb<|ak<|ab O<|V0 (Yo oV O O aM E)<|V0 (eB 0 mY O O O<|cB.mono a_ aU) ?_;refine Al Y O sU λc0=>au O<|aw 0 Y O O O sV O O O<|ag<|hk 0 (.cells (ij u M).toArray 37 (0,0)) O O ?_;refine pI (λ_ h=>h.hM 3 1)<|Cr<|V0 (Yd 5 O O O ah)<|ab O<|V0 (Yf G7 O)<|V0 (Yd 1 O O O ah)<|Lf 4 O<|Lf 4 O<|Lf 4 O ?_;refine bU (ι:=_) (κ:=_) [_,_,_,_] _ Y O bp O O _ _ _ _ _ _ [N] (by simp) (λw k=>Ua N n z l a0.toNat C bt 25 0 O (by omega) t.1 u (none,0) [] u.main M.s3.1 M.s3.2 n n t.2 w ch m (w5 S.main a_) ci k) ?_ ?_;·intro y bd;refine WE.cp<|Ep<|Ep<|WE.cp<|Ep ?_;refine WE.front 0 O<|WE.front 5 O<|WE.front 6 O<|WE.front 6 O<|WE.td bp (qx [_,_,_,_] _ _ O<|λw k=>aeT Q P L C z (av l a0.toNat) y.2 y.1 _ _ _ _ _ w k) (hX O (fj 1 O O kD O)<|jJ 2 O O O ah) λB k=>?_;have bf:(mN l bn a0)=yO y.2.w y.1:=ahN p<|bb.trans<|(Pn _ m).trans<|kk bd;rw [bf,p];exact ⟨((y.2.o.1,y.2.o.2),(y.2.d.1,y.2.d.2)),O,k.fr,k.kb 4 O lr<|λ_ _ _ _ h=>h,k.kb 5 O lr<|λ_ _ _ _ h=>h⟩
  intro y ⟨bd,cj⟩;refine Ln<|Eb<|Et<|Cr<|V0 (Yi O O O (by omega))<|ab O<|Ln ?_;exact Ea ((t.1+1,y.2):Nat×fW) (by show _-(t.1+1)<_;omega) ⟨by show t.1+1<=_;omega,cj,bb.trans<|(Pn _ m).trans<|gX bd⟩ (sc O<|sc O<|sc O<|sc O<|sc O<|sc O sn) (λ_ h=>by exact (Wt 6<|(((((h.f 6 O).f 6 O).f 6 O).f 5 O).f 5 O).f 5 O:))
 have ck:l.length<=t.1:=by simp at bc;omega
 refine Ce<|Ex<|Ex<|ee<|Et<|ak<|V0 (Yd 3 O O O ah)<|V0 (bS O)<|V0 (Yf tY O)<|V0 (dW 0 O O kD O)<|aw 5 Y O O O mO O O O<|aw 4 Y O O O n8 O O O ?_;refine ag<|bu ?_;refine WE.front 4 O<|WE.Iz bp (qx [_] _ [aQ L<|.cells #[.int .i64 0] 30 (0,0)] O<|λw k=>aeS Q P L _ w k) (hX O (fj 5 O O kD O)<|jJ 0 O O O ah) λB k=>?_;have bf:(mN l bn a0)=yO t.2.w 0:=XL p<|bb.trans<|ahM _ ck;rw [bf,p];exact ⟨((t.2.o.1,t.2.o.2),(t.2.d.1,t.2.d.2)),O,k.fr,k.kb 2 O lr<|λ_ _ _ _ h=>h,k.kb 3 O lr<|λ_ _ _ _ h=>h⟩
end Go.Proofs.YtgeahfjicmlocaaGreatDoor
end
section
namespace Go.Proofs.YtgeahfjicmlocaaGreatDoor.Mch
open Go.Bw Go.Proofs.Tryz
structure St where
 at_:Z
 bF:I ac
 fr:I<|I ac×ac
 w:Wm
def St.m (L s:Z) (x:St):Pm:=⟨(x.at_:ac),(L:ac),(s:ac),x.bF,x.fr,x.w.bn,x.w.out,x.w.data,(x.w.a0:ac)⟩
structure Cd (C:I ce) (L N:Z):Prop where
 hN:N<=134217728
 hC:C.length<=2048
 hL:L<=2000
def Gx (C:I ce) (L N n:Z) (x y:St):Prop:=∀s,s+n<=N->∀k,runK C N (n+k) (x.m L s)=runK C N k (y.m L<|s+n)
def Xx (C:I ce) (L N n:Z) (x:St) (e:ac) (w:Wm):Prop:=(e≠6/\e≠7)/\∀s,s+n<=N->∀k,∃m',runK C N (n+k) (x.m L s)=(e,m')/\m'.out=w.out/\m'.data=w.data/\m'.a0=(w.a0:ac)
section
variable {C:I ce} {L N:Z}
def Gx.refl (x:St):Gx C L N 0 x x:=λs _ k=>by rw [lJ,wI]
variable {bE aL:Z}
def Gx.trans {x y z:St} (h:Gx C L N bE x y) (k:Gx C L N aL y z):Gx C L N (bE+aL) x z:=λs a q=>by rw [vm,h s ai<|aL+q,k (s+bE) ai q,vm]
variable {n5 i0:St} {p9:Wm}
def Gx.x {e:ac}  (h:Gx C L N bE n5 i0) (k:Xx C L N aL i0 e p9):Xx C L N (bE+aL) n5 e p9:=⟨k.1,λs a q=>by rw [vm,h s ai<|aL+q];exact k.2 (s+bE) ai q⟩
variable {fv:ce}
def Uc (c:Cd C L N)   (hi:C[n5.at_]? = aa fv) {s:Z} (a:s+1<=N):iterM C N (n5.m L s)=dA fv (St.m L (s+1) { n5 with at_:=n5.at_+1 }):=by
 have b:=(cN.1 hi).1;have d:=c.hN;have f:=c.hC;unfold iterM;have a1:((n5.m L s).steps==(N:ac))=aq:=by show ((s:ac)==(N:ac))=aq;simp;omega
 have a2:bq (n5.m L s).at_ C.length=aq:=by show bq (n5.at_:ac) C.length=aq;simp [bq];omega
 rw [a1,a2,aj a8,aj a8];unfold dN;have e:(n5.m L s).tk.bj=St.m L (s+1) { n5 with at_:=n5.at_+1 }:=by unfold Pm.tk Pm.bj St.m;dsimp only;rw [qt ai,qt ai];rfl
 rw [e,show C[(n5.m L s).at_.toNat]?.getD ⟨0,0,0⟩=fv by simp [St.m,hi]]
def mZ (c:Cd C L N)   (hi:C[n5.at_]? = aa fv) (h:∀s,dA fv (St.m L s { n5 with at_:=n5.at_+1 }) = .ok () (i0.m L s)):Gx C L N 1 n5 i0:=λs a k=>by rw [H2 1 k,runK,Uc c hi ai,h]
variable {az:ac}
def zH (c:Cd C L N)     (a:az≠6/\az≠7) (hi:C[n5.at_]? = aa fv) (h:∀s,∃m',dA fv (St.m L s { n5 with at_:=n5.at_+1 }) = .ov az m'/\m'.out=p9.out/\m'.data=p9.data/\m'.a0=(p9.a0:ac)):Xx C L N 1 n5 az p9:=⟨a,λs e k=>by obtain ⟨m',b,d⟩:=h<|s+1;exact ⟨m',by rw [H2 1 k,runK,Uc c hi ai,b],d⟩⟩
variable {p:Z} {a b v v2:ac} {bF:I ac} {fr:I<|I ac×ac} {w:Wm}
def Ht (c:Cd C L N) (hi:C[p]? = aa ⟨1,a,b⟩) (e:bF.length<2048):Gx C L N 1 ⟨p,bF,fr,w⟩ ⟨p+1,a::bF,fr,w⟩:= mZ c hi λs=>by have d:¬bF.length=2048:=ai;simp [dA,gh,St.m,d]
variable {gO:I ac}
def aeZ (c:Cd C L N)   (hi:C[p]? = aa ⟨2,a,b⟩) (g:0<=a/\a<(gO.length:ac)) (h:bF.length<2048):Gx C L N 1 ⟨p,bF,(gO,az)::fr,w⟩ ⟨p+1,ru gO a.toNat::bF,(gO,az)::fr,w⟩:= mZ c hi λs=>by have d:¬(a<0):=ai;have e:¬((gO.length:ac)<=a):=ai;have f:¬bF.length=2048:=ai;simp [dA,gh,St.m,xn,bq,ru,d,e,f]
def ae0 (c:Cd C L N)   (hi:C[p]? = aa ⟨3,a,b⟩) (f:0<=a/\a<(gO.length:ac)):Gx C L N 1 ⟨p,v::bF,(gO,az)::fr,w⟩ ⟨p+1,bF,(gO.set a.toNat v,az)::fr,w⟩:= mZ c hi λs=>by have d:¬(a<0):=ai;have e:¬((gO.length:ac)<=a):=ai;simp [dA,eH,Rz.bind,St.m,xn,bq,AQ,d,e]
def ae1 (c:Cd C L N) (hi:C[p]? = aa ⟨4,a,b⟩) (g:0<=a/\a<(w.data.length:ac)) (h:bF.length<2048):Gx C L N 1 ⟨p,bF,fr,w⟩ ⟨p+1,ru w.data a.toNat::bF,fr,w⟩:= mZ c hi λs=>by have d:¬(a<0):=ai;have e:¬((w.data.length:ac)<=a):=ai;have f:¬bF.length=2048:=ai;simp [dA,gh,St.m,bq,ru,d,e,f]
def ae2 (c:Cd C L N) (hi:C[p]? = aa ⟨5,a,b⟩) (f:0<=a/\a<(w.data.length:ac)):Gx C L N 1 ⟨p,v::bF,fr,w⟩ ⟨p+1,bF,fr,{ w with data:=w.data.set a.toNat v }⟩:= mZ c hi λs=>by have d:¬(a<0):=ai;have e:¬((w.data.length:ac)<=a):=ai;simp [dA,eH,Rz.bind,St.m,bq,d,e]
def ae3 (c:Cd C L N) (hi:C[p]? = aa ⟨6,a,b⟩) (hv:(decide (v<0)||decide (b<=v))=aq) (g:0<=a/\a<=4096) (h:b<=4096) (i:bF.length<2048):Gx C L N 1 ⟨p,v::bF,fr,w⟩ ⟨p+1,(a+v)::bF,fr,w⟩:= mZ c hi λs=>by
 have d:an.wrap (a+v)=a+v:=by simp at hv;exact qt ai
 have e:¬(v<0\/b<=v):=by simpa using hv
 have f:¬bF.length=2048:=ai;simp [dA,eH,Rz.bind,St.m,gh,e,d,f]
def ae4 (c:Cd C L N) (hi:C[p]? = aa ⟨6,a,b⟩) (hv:(decide (v<0)||decide (b<=v))=ad):Xx C L N 1 ⟨p,v::bF,fr,w⟩ 2 w:= zH c a8 hi λs=>by
 have d:v<0\/b<=v:=by simpa using hv
 exact ⟨St.m L s ⟨p+1,bF,fr,w⟩,by simp [dA,eH,Rz.bind,St.m,d],O,O,O⟩
def ae5 (c:Cd C L N) (hi:C[p]? = aa ⟨7,a,b⟩) (g:0<=v/\v<(w.data.length:ac)) (h:bF.length<2048):Gx C L N 1 ⟨p,v::bF,fr,w⟩ ⟨p+1,ru w.data v.toNat::bF,fr,w⟩:= mZ c hi λs=>by have d:¬(v<0):=ai;have e:¬((w.data.length:ac)<=v):=ai;have f:¬bF.length=2048:=ai;simp [dA,eH,Rz.bind,gh,St.m,bq,ru,d,e,f]
def ae6 (c:Cd C L N) (hi:C[p]? = aa ⟨8,a,b⟩) (f:0<=v/\v<(w.data.length:ac)):Gx C L N 1 ⟨p,v2::v::bF,fr,w⟩ ⟨p+1,bF,fr,{ w with data:=w.data.set v.toNat v2 }⟩:= mZ c hi λs=>by have d:¬(v<0):=ai;have e:¬((w.data.length:ac)<=v):=ai;simp [dA,eH,Rz.bind,St.m,bq,d,e]
def ae7 (c:Cd C L N) (hi:C[p]? = aa ⟨9,a,b⟩) (e:bF.length<2048):Gx C L N 1 ⟨p,v::bF,fr,w⟩ ⟨p+1,mI (v==0)::bF,fr,w⟩:= mZ c hi λs=>by have d:¬bF.length=2048:=ai;simp [dA,eH,Rz.bind,gh,St.m,iC,mI,d]
def Ud (c:Cd C L N) (hi:C[p]? = aa ⟨22,a,b⟩) (e:bF.length<2048):Gx C L N 1 ⟨p,v::bF,fr,w⟩ ⟨p+1,mI (!(v==0))::bF,fr,w⟩:= mZ c hi λs=>by have d:¬bF.length=2048:=ai;simp [dA,eH,Rz.bind,gh,St.m,iC,mI,d]
def Hu (c:Cd C L N) {q:Z} (hi:C[p]? = aa ⟨11,(q:ac),b⟩):Gx C L N 1 ⟨p,bF,fr,w⟩ ⟨q,bF,fr,w⟩:= mZ c hi λs=>by simp [dA,St.m]
def D_ (c:Cd C L N) {q:Z} (hi:C[p]? = aa ⟨12,(q:ac),b⟩):Gx C L N 1 ⟨p,0::bF,fr,w⟩ ⟨q,bF,fr,w⟩:= mZ c hi λs=>by simp [dA,eH,Rz.bind,St.m]
def qC (c:Cd C L N) (hi:C[p]? = aa ⟨12,a,b⟩) (hv:v≠0):Gx C L N 1 ⟨p,v::bF,fr,w⟩ ⟨p+1,bF,fr,w⟩:= mZ c hi λs=>by simp [dA,eH,Rz.bind,St.m,hv]
def ae8 (c:Cd C L N) (hi:C[p]? = aa ⟨16,a,b⟩) (f:w.a0<L):Gx C L N 1 ⟨p,bF,fr,w⟩ ⟨p+1,bF,fr,{ w with a0:=w.a0+1 }⟩:= mZ c hi λs=>by have d:¬((w.a0:ac)=(L:ac)):=ai;have e:an.wrap ((w.a0:ac)+1)=(w.a0:ac)+1:=qt (by have:=c.hL;omega);simp [dA,n6,St.m,d,e]
def ae9 (c:Cd C L N) (hi:C[p]? = aa ⟨16,a,b⟩) (d:w.a0=L):Xx C L N 1 ⟨p,bF,fr,w⟩ 3 w:= zH c a8 hi λs=>⟨St.m L s ⟨p+1,bF,fr,w⟩,by simp [dA,n6,St.m,d],rfl,rfl,rfl⟩
def ae' (c:Cd C L N) (hi:C[p]? = aa ⟨17,a,b⟩):Gx C L N 1 ⟨p,v::bF,fr,w⟩ ⟨p+1,bF,fr,w⟩:= mZ c hi λs=>by simp [dA,eH,Rz.bind,St.m]
def ae_ (c:Cd C L N) (hi:C[p]? = aa ⟨18,a,b⟩) (f:bF.length<2048):Gx C L N 1 ⟨p,bF,fr,w⟩ (match w.bn with| []=>⟨p+1,0::bF,fr,w⟩| x::r=>⟨p+1,x::bF,fr,{ w with bn:=r }⟩):= mZ c hi λs=>by obtain ⟨d,bn,o,t,cl⟩:=w;have e:¬bF.length=2048:=ai;cases bn<;>simp [dA,oJ,gh,St.m,e]
def afa (c:Cd C L N) (hi:C[p]? = aa ⟨19,a,b⟩) (d:¬w.out.length=200):Gx C L N 1 ⟨p,v::bF,fr,w⟩ ⟨p+1,bF,fr,{ w with out:=w.out++[v] }⟩:= mZ c hi λs=>by simp [dA,eH,Rz.bind,St.m,d]
def afb (c:Cd C L N) (hi:C[p]? = aa ⟨19,a,b⟩) (d:w.out.length=200):Xx C L N 1 ⟨p,v::bF,fr,w⟩ 5 w:= zH c a8 hi λs=>⟨St.m L s ⟨p+1,bF,fr,w⟩,by simp [dA,eH,Rz.bind,St.m,d],rfl,rfl,rfl⟩
def afc (c:Cd C L N) (hi:C[p]? = aa ⟨20,a,b⟩):Xx C L N 1 ⟨p,bF,fr,w⟩ 0 w:= zH c a8 hi λs=>⟨St.m L s ⟨p+1,bF,fr,w⟩,by simp [dA],rfl,rfl,rfl⟩
def TP (c:Cd C L N)  {back:Z} {f:I ac×ac} (hi:C[p]? = aa ⟨15,a,b⟩):Gx C L N 1 ⟨p,bF,(gO,(back:ac))::f::fr,w⟩ ⟨back,bF,f::fr,w⟩:= mZ c hi λs=>by simp [dA,f',St.m]
def afd (c:Cd C L N) {e:Z} (hi:C[p]? = aa ⟨13,(e:ac),b⟩) (g:w.a0<L) (h:fr.length<=24):Gx C L N 1 ⟨p,bF,fr,w⟩ ⟨e,bF,([],((p+1:Z):ac))::fr,{ w with a0:=w.a0+1 }⟩:= mZ c hi λs=>by have a:¬((w.a0:ac)=(L:ac)):=ai;have d:an.wrap ((w.a0:ac)+1)=(w.a0:ac)+1:=qt (by have:=c.hL;omega);have f:¬(24<fr.length):=ai;simp [dA,qa,n6,Rz.bind,St.m,a,d,f]
def Uf (c:Cd C L N) (hi:C[p]? = aa ⟨13,a,b⟩) (d:w.a0=L):Xx C L N 1 ⟨p,bF,fr,w⟩ 3 w:= zH c a8 hi λs=>⟨St.m L s ⟨p+1,bF,fr,w⟩,by simp [dA,qa,n6,Rz.bind,St.m,d],rfl,rfl,rfl⟩
def afe (c:Cd C L N) (hi:C[p]? = aa ⟨13,a,b⟩) (g:w.a0<L) (d:24<fr.length):Xx C L N 1 ⟨p,bF,fr,w⟩ 4 { w with a0:=w.a0+1 }:= zH c a8 hi λs=>⟨St.m L s ⟨p+1,bF,fr,{ w with a0:=w.a0+1 }⟩,by have e:¬((w.a0:ac)=(L:ac)):=ai;have f:an.wrap ((w.a0:ac)+1)=(w.a0:ac)+1:=qt (by have:=c.hL;omega);simp [dA,qa,n6,Rz.bind,St.m,e,f,d],rfl,rfl,rfl⟩
def aff (c:Cd C L N) {np nl:ac} {vs loc:I ac} {back:ac} (hi:C[p]? = aa ⟨14,np,nl⟩) (l:0<=np/\np<=3) (n:0<=nl/\nl<=4) (hv:(vs.length:ac)=np):Gx C L N 1 ⟨p,vs.reverse++bF,(loc,back)::fr,w⟩ ⟨p+1,bF,(vs++gb nl.toNat 0,back)::fr,w⟩:=
 mZ c hi λs=>by
 have e:an.wrap (2048-np)=2048-np:=qt ai;have b:¬(np<0):=ai;have d:¬(nl<0):=ai;have f:¬(2048<np):=ai;have g:¬(2048-np<nl):=ai;have h:¬(((vs.reverse++bF).length:ac)<np):=by simp;omega
 have a:np.toNat=vs.reverse.length:=by simp;omega
 have i:(vs.reverse++bF).drop np.toNat=bF:=by rw [a];simp
 have j:(vs.reverse++bF).take np.toNat=vs.reverse:=by rw [a];simp
 have k:((((decide (np<0)||decide (nl<0))||decide (2048<np))||decide (an.wrap (2048-np)<nl))||decide (((vs.reverse++bF).length:ac)<np))=aq:=by rw [e,tb b,tb d,tb f,tb g,tb h];rfl
 rw [show dA ⟨14,np,nl⟩ (St.m L s ⟨p+1,vs.reverse++bF,(loc,back)::fr,w⟩)=p_ np nl (St.m L s ⟨p+1,vs.reverse++bF,(loc,back)::fr,w⟩) by simp [dA]];unfold p_;rw [show ((((decide (np<0)||decide (nl<0))||decide (2048<np))||decide (an.wrap (2048-np)<nl))||decide (((St.m L s ⟨p+1,vs.reverse++bF,(loc,back)::fr,w⟩).stack.length:ac)<np))=aq from k,aj a8];show Rz.ok () _=Rz.ok () _;unfold St.m;dsimp only;rw [i,j,I.reverse_reverse]
def afg (c:Cd C L N)  (hi:C[p]? = aa ⟨10,az,b⟩) (j:9<=az/\az<=15) (k:bF.length<2048) : (∀x a,m_ az v v2 w = .ok x a->a=w/\Gx C L N 1 ⟨p,v2::v::bF,fr,w⟩ ⟨p+1,x::bF,fr,w⟩)/\(∀e a,m_ az v v2 w = .ov e a->a=w/\Xx C L N 1 ⟨p,v2::v::bF,fr,w⟩ e w):=by
 have g:az=9\/az=10\/az=11\/az=12\/az=13\/az=14\/az=15:=ai;have i:¬bF.length=2048:=ai;constructor
 ·intro x a h;have f:a=w/\∀s,dA ⟨10,az,b⟩ (St.m L s ⟨p+1,v2::v::bF,fr,w⟩) = .ok () (St.m L s ⟨p+1,x::bF,fr,w⟩):=by
   by_cases d:v2=0;·rcases g with rfl | rfl | rfl | rfl | rfl | rfl | rfl<;>simp [m_,d] at h<;>obtain ⟨rfl,rfl⟩:=h<;>refine ⟨rfl,λs=>?_⟩<;>simp [dA,k9,eH,Rz.bind,iV,gh,St.m,i,d,mI,iC]
   ·rcases g with rfl | rfl | rfl | rfl | rfl | rfl | rfl<;>simp [m_,d] at h<;>obtain ⟨rfl,rfl⟩:=h<;>refine ⟨rfl,λs=>?_⟩<;>simp [dA,k9,eH,Rz.bind,iV,gh,St.m,i,d,mI,iC]
  exact ⟨f.1,mZ c hi f.2⟩
 ·intro e a h;have f:a=w/\e=1/\∀s,∃m',dA ⟨10,az,b⟩ (St.m L s ⟨p+1,v2::v::bF,fr,w⟩) = .ov e m'/\m'.out=w.out/\m'.data=w.data/\m'.a0=(w.a0:ac):=by
   by_cases d:v2=0;·rcases g with rfl | rfl | rfl | rfl | rfl | rfl | rfl<;>simp [m_,d] at h<;>obtain ⟨rfl,rfl⟩:=h<;>refine ⟨rfl,rfl,λs=>⟨St.m L s ⟨p+1,bF,fr,w⟩,?_,rfl,rfl,rfl⟩⟩<;>simp [dA,k9,eH,Rz.bind,iV,St.m,d]
   ·rcases g with rfl | rfl | rfl | rfl | rfl | rfl | rfl<;>simp [m_,d] at h
  exact ⟨f.1,zH c (by rw [f.2.1];decide) hi f.2.2⟩
end
def KK:Z:=2050
def Sm {a α:Type} (C:I ce) (L N B:Z) (d:a->Prop) (c:a->Wm) (w:Wm) (x:St) (r:Bw.Rz a α) (y:α->a->St):Prop:=match r with| .ok v f=>∃n,d f/\w.a0<=(c f).a0/\n<=B+KK*((c f).a0-w.a0)/\Gx C L N n x (y v f)| .ov e b=>∃n,w.a0<=b.a0/\n<=B+KK*(b.a0-w.a0+1)/\Xx C L N n x e b
section
variable {C:I ce} {L N:Z}
def qM {a b c:Z} (h:a<=b) (k:b<=c):KK*(b-a)+KK*(c-b)=KK*(c-a):=by rw [<-yf];congr 1;omega
variable {bE aL:Z}
def L7 (h:bE<=aL):KK*bE<=KK*aL:=MI _ h
variable {aB qe:Type} {GV:aB->Prop} {CM:aB->Wm} {p9:Wm} {n5:St} {BI:qe->aB->St}
def Sm.ok {B n:Z}     {v:qe} {f:aB}  (a:GV f) (b:p9.a0=(CM f).a0) (c:n<=B) (h:Gx C L N n n5<|BI v f):Sm C L N B GV CM p9 n5 (.ok v f) BI:=⟨n,a,ai,ai,h⟩
def Sm.ov {a α:Type} {B n:Z} {c:a->Prop} {d:a->Wm} {w b:Wm}  {e:ac} {y:α->a->St} (f:w.a0<=b.a0) (g:n<=B+KK) (h:Xx C L N n n5 e b):Sm C L N B c d w n5 (.ov e b:Bw.Rz a α) y:=⟨n,f,by have:=L7 (show 1<=b.a0-w.a0+1 by omega);omega,h⟩
variable {BJ:Bw.Rz aB qe}
def Sm.mono (h:Sm C L N bE GV CM p9 n5 BJ BI) (g:bE<=aL):Sm C L N aL GV CM p9 n5 BJ BI:=by cases BJ with| ok v f=>obtain ⟨n,a,b,c,d⟩:=h;exact ⟨n,a,b,ai,d⟩| ov e i=>obtain ⟨n,a,b,c⟩:=h;exact ⟨n,a,ai,c⟩
def Sm.pre {B n:Z}    {x b:St}   (g:Gx C L N n x b) (h:Sm C L N B GV CM p9 b BJ BI):Sm C L N (n+B) GV CM p9 x BJ BI:=by cases BJ with| ok v f=>obtain ⟨m,a,c,d,i⟩:=h;exact ⟨n+m,a,c,ai,g.trans i⟩| ov e j=>obtain ⟨m,a,c,d⟩:=h;exact ⟨n+m,a,ai,g.x d⟩
def Sm.bind {a c α β:Type}  {l:a->Prop} {I':c->Prop} {b:a->Wm} {o:c->Wm} {w:Wm}  {r:Bw.Rz a α} {g:α->a->Bw.Rz c β} {y:α->a->St} {z:β->c->St} (h:Sm C L N bE l b w n5 r y) (k:∀v f,r = .ok v f->l f->w.a0<=(b f).a0->Sm C L N aL I' o (b f) (y v f) (g v f) z):Sm C L N (bE+aL) I' o w n5 (match r with| .ok v f=>g v f| .ov e w=>.ov e w) z:=by
 cases r with
 | ok v f=>
  obtain ⟨n,i,j,p,q⟩:=h;have d:=k v f rfl i j;dsimp only;cases s:g v f with
  | ok v2 B=>rw [s] at d;obtain ⟨m,k1,k2,t,A⟩:=d;have:=qM j k2;exact ⟨n+m,k1,ai,ai,q.trans A⟩
  | ov e u=>
   rw [s] at d;obtain ⟨m,k1,k2,t⟩:=d;have D:KK*((b f).a0-w.a0)+KK*(u.a0-(b f).a0+1)=KK*(u.a0-w.a0+1):=by rw [<-yf];congr 1;omega
   exact ⟨n+m,ai,ai,q.x t⟩
 | ov e E=>obtain ⟨n,i,j,p⟩:=h;exact ⟨n,i,ai,p⟩
def Sm.bd {a α β:Type} {B1 B2:Z} {c I':a->Prop} {b d:a->Wm}   {r:Bw.Rz a α} {g:α->a->Bw.Rz a β} {y:α->a->St} {z:β->a->St} (h:Sm C L N B1 c b p9 n5 r y) (k:∀v f,r = .ok v f->c f->p9.a0<=(b f).a0->Sm C L N B2 I' d (b f) (y v f) (g v f) z):Sm C L N (B1+B2) I' d p9 n5 (r.bind g) z:=Sm.bind h k
def Sm.fr {a:Wm->Prop} {I':Fm->Prop} {w:Wm}  {r:Bw.Rz Wm aB} {y:aB->Wm->St} {z:aB->Fm->St} {f:Fm} (h:Sm C L N bE a id w n5 r y) (b:∀w,a w->I' { f with w:=w }) (c:∀v w,y v w=z v { f with w:=w }):Sm C L N bE I' Fm.w w n5 (Bw.Rz.fr f r) z:=by cases r with| ok v d=>obtain ⟨n,g,i,j,k⟩:=h;exact ⟨n,b _ g,i,j,by rw [<-c];exact k⟩| ov e d=>exact h
end
abbrev Cr:=Z->Z->Prop
def e0 (C:I ce) (p:Z) (op a b:ac):Prop:=C[p]? = aa ⟨op,a,b⟩
def mx (ks:I Cr) (i:Z):Cr:=(ks[i]?).getD λ_ _=>False
def tZ:I Cr->Cr| [],p,q=>p=q| k::r,p,q=>∃t,k p t/\tZ r t q
def Ug (C:I ce) (a k1:Cr) (p q:Z):Prop:=∃t r,a p t/\e0 C t 12 ((r+2:Z):ac) 0/\k1 (t+1) r/\e0 C r 22 0 0/\e0 C (r+1) 11 ((r+3:Z):ac) 0/\e0 C (r+2) 1 0 0/\q=r+3
def Uh (C:I ce) (a k1:Cr) (p q:Z):Prop:=∃t r,a p t/\e0 C t 12 ((t+3:Z):ac) 0/\e0 C (t+1) 1 1 0/\e0 C (t+2) 11 ((r+1:Z):ac) 0/\k1 (t+3) r/\e0 C r 22 0 0/\q=r+1
def L8 (C:I ce) (a:ac->ac) (b:ac->ac->Z) (op n m pl:ac) (ks:I Cr) (p q:Z):Prop:= if op=1 then e0 C p 1 n 0/\q=p+1 else if op=2 then e0 C p 18 0 0/\q=p+1 else if op=16 then e0 C p 2 pl 0/\q=p+1 else if op=3 then e0 C p 4 (pl+a m) 0/\q=p+1 else if op=4 then ∃t,mx ks 0 p t/\e0 C t 6 (pl+a m) n/\e0 C (t+1) 7 0 0/\q=t+2 else if op=5 then ∃t,tZ ks p t/\e0 C t 13 (b m pl:Z) 0/\q=t+1 else if op=6 then ∃t,tZ ks p t/\e0 C t 9 0 0/\q=t+1 else if op=7 then Ug C (mx ks 0) (mx ks 1) p q else if op=8 then Uh C (mx ks 0) (mx ks 1) p q else ∃t,tZ ks p t/\e0 C t 10 op 0/\q=t+1
mutual
def qo (C:I ce) (a:ac->ac) (b:ac->ac->Z):eC->Cr| .mk op n m pl args=>L8 C a b op n m pl<|kV C a b args
def kV (C:I ce) (a:ac->ac) (b:ac->ac->Z):I eC->I Cr| []=>[]| x::r=>qo C a b x::kV C a b r
end
def Ui (C:I ce) (a body other:Cr) (b:Z) (p q:Z):Prop:=∃t r,a p t/\body (t+1) r/\if 0<b then e0 C t 12 ((r+1:Z):ac) 0/\e0 C r 11 (q:Z) 0/\other (r+1) q else e0 C t 12 (r:Z) 0/\q=r
def Uj (C:I ce) (a body:Cr) (p q:Z):Prop:=∃t r,a p t/\e0 C t 12 (q:Z) 0/\e0 C (t+1) 16 0 0/\body (t+2) r/\e0 C r 11 (p:Z) 0/\q=r+1
def L9 (C:I ce) (a:ac->ac) (b:ac->ac->Z) (op n m pl:ac) (ks:I Cr) (body other:Cr) (c:Z) (p q:Z):Prop:= if op=1 then ∃t,mx ks 0 p t/\(if m<0 then e0 C t 3 pl 0 else e0 C t 5 (pl+a m) 0)/\q=t+1 else if op=2 then ∃t r,mx ks 0 p t/\e0 C t 6 (pl+a m) n/\mx ks 1 (t+1) r/\e0 C r 8 0 0/\q=r+1 else if op=3 then ∃t,tZ ks p t/\e0 C t 13 (b m pl:Z) 0/\e0 C (t+1) 17 0 0/\q=t+2 else if op=4 then Ui C (mx ks 0) body other c p q else if op=5 then Uj C (mx ks 0) body p q else if op=6 then ∃t,mx ks 0 p t/\e0 C t 15 0 0/\q=t+1 else if op=7 then ∃t,mx ks 0 p t/\e0 C t 19 0 0/\q=t+1 else q=p
mutual
def Ec (C:I ce) (a:ac->ac) (b:ac->ac->Z):et->Cr| .mk op n m pl args body other=>L9 C a b op n m pl (kV C a b args) (s0 C a b body) (s0 C a b other) other.length
def s0 (C:I ce) (a:ac->ac) (b:ac->ac->Z):I et->Cr| []=>λp q=>p=q| x::r=>λp q=>∃t,Ec C a b x p t/\s0 C a b r t q
end
def xU (C:I ce) (a:ac->ac) (b:ac->ac->Z) (params locals:ac) (body:I et) (p q:Z):Prop:=∃t,e0 C p 14 params locals/\s0 C a b body (p+1) t/\e0 C t 1 0 0/\e0 C (t+1) 15 0 0/\q=t+2
def Hv (C:I ce) (a:ac->ac) (b:ac->ac->Z):∀l,kV C a b l=l.map (qo C a b)| []=>by rw [kV];rfl| x::r=>by rw [kV,Hv C a b r];rfl
variable {bE:Z}
def Hw {C:I ce} {a:ac->ac} {b:ac->ac->Z} {l:I eC}  {y:eC} (h:l[bE]? = aa y):mx (kV C a b l) bE=qo C a b y:=by unfold mx;rw [Hv,fp,h];rfl
def Uk {loc:I ac}:∀(ks:I Ev) {w a:Wm} (vs:I ac),lv loc ks w = .ok vs a->vs.length=ks.length| [],w,a,vs,h=>by unfold lv at h;injection h with h;subst h;rfl| k::r,w,a,vs,h=>by unfold lv at h;cases d:k loc w with| ov e b=>rw [d] at h;cases h| ok v b=>rw [d] at h;have h:(lv loc r b).bind (λvs w=>.ok (v::vs) w) = .ok vs a:=h;cases c:lv loc r b with| ov e f=>rw [c] at h;cases h| ok g f=>rw [c] at h;injection h with h;subst h;simp [Uk r g c]
def jt (P:Env) (u:Z) (m:ac):ac:=(((P.g1[P.mod u m]?).getD 0:Z):ac)
def my (P:Env) (h6:Z->Z->Z) (u:Z) (m pl:ac):Z:=h6 (P.mod u m) pl.toNat
structure Wi (L D cc:Z) (w:Wm):Prop where
 calls:w.calls=cc
 a0:w.a0<=L
 data:w.data.length=D
def vf (C:I ce) (L N D cc nl h:Z) (k:Cr) (e:Ev):Prop:=∀p q,k p q->p<=q/\∀(loc:I ac) (back:ac) (bF:I ac) (fr:I<|I ac×ac) (w:Wm),loc.length=nl->bF.length+h<=16*cc+20->fr.length=cc->Wi L D cc w-> Sm C L N (q-p) (Wi L D cc) id w ⟨p,bF,(loc,back)::fr,w⟩ (e loc w) (λv a=>⟨q,v::bF,(loc,back)::fr,a⟩)
def IM (C:I ce) (L N D cc:Z) (call:Cl) (j:Z) (np nl:ac) (bd:I et) (e:Z):Prop:=∀(a:Z) (vs bF:I ac) (fr:I<|I ac×ac) (w:Wm),e0 C a 13 (e:ac) 0->(vs.length:ac)=np->fr.length=cc+1->bF.length<=16*cc+20->Wi L D cc w-> Sm C L N 1 (Wi L D cc) id w ⟨a,vs.reverse++bF,fr,w⟩ (call j (vs++gb nl.toNat 0) bd w) (λv b=>⟨a+1,v::bF,fr,b⟩)
structure qO (C:I ce) (L N D cc:Z) (P:Env) (call:Cl) (h6:Z->Z->Z) (u:Z) (kn:I e7):Prop where
 data:∀{m pl n:ac},ls kn m pl n=ad->0<=n->0<=pl/\(∀i:Z,((P.at_ u m<|pl+i:Z):ac)=pl+jt P u m+i)/\pl+jt P u m+n<=(D:ac)
 fH:∀{m pl:ac} {k:Z},k4 kn m pl (k:ac)=ad->k<=3
 part:∀{m pl n:ac},k4 kn m pl n=ad->∃(p:b3),((P.l[P.mod u m]?).bind λx=>x.parts[pl.toNat]?)=aa p/\p.params=n/\IM C L N D cc call (P.mod u m) p.params p.locals p.body (my P h6 u m pl)
section
variable {C:I ce} {L N D cc nl:Z} {P:Env} {call:Cl} {h6:Z->Z->Z} {u:Z} {kn:I e7}
def L_ {loc:I ac} {back:ac} {fr:I<|I ac×ac} (c:loc.length=nl) (d:fr.length=cc):∀(args:I eC),(∀x ∈ args,vf C L N D cc nl bE (qo C (jt P u) (my P h6 u) x) (bA P call u x))->∀p q,tZ (kV C (jt P u) (my P h6 u) args) p q->p<=q/\∀(bF:I ac) (w:Wm),bF.length+args.length+bE<=16*cc+21->Wi L D cc w-> Sm C L N (q-p) (Wi L D cc) id w ⟨p,bF,(loc,back)::fr,w⟩ (lv loc (hx P call u args) w) (λvs f=>⟨q,vs.reverse++bF,(loc,back)::fr,f⟩)| [],_,p,q,a=>by rw [kV] at a;have a:p=q:=a;subst a;exact ⟨c7 _,λbF w _ b=>by rw [hx];exact Sm.ok (n:=0) b O (dw _)<|Gx.refl _⟩| x::r,e,p,q,a=>by rw [kV] at a;obtain ⟨t,g,h⟩:=a;obtain ⟨a1,a2⟩:=e x aK p t g;obtain ⟨s,i⟩:=L_ c d r (λy j=>e y (by simp [j])) t q h;refine ⟨ai,λbF w k b=>?_⟩;rw [gj] at k;rw [hx,lv];refine (Sm.bd (B1:=t-p) (B2:=q-t) (a2 loc back bF fr w c ai d b) λv l _ m _=>?_).mono ai;have:=i (v::bF) l (by simp;omega) m;refine (Sm.bd (B1:=q-t) (B2:=0) this λvs z _ o _=>?_).mono ai;refine Sm.ok (n:=0) o O (c7 _) ?_;rw [ye,g2];exact Gx.refl _
def Ul (c:Cd C L N) (e:qO C L N D cc P call h6 u kn)  {args:I eC} {m pl:ac} (a:∀x ∈ args,vf C L N D cc nl bE (qo C (jt P u) (my P h6 u) x) (bA P call u x)) (f:k4 kn m pl (args.length:ac)=ad) {p t:Z} (b:tZ (kV C (jt P u) (my P h6 u) args) p t) (g:e0 C t 13 (my P h6 u m pl:Z) 0):p<=t/\∀(loc:I ac) (back:ac) (bF:I ac) (fr:I<|I ac×ac) (w:Wm),loc.length=nl->bF.length+args.length+bE<=16*cc+21->bF.length<=16*cc+20->fr.length=cc->Wi L D cc w-> Sm C L N (t+1-p) (Wi L D cc) id w ⟨p,bF,(loc,back)::fr,w⟩ (qJ P call u m pl (hx P call u args) loc w) (λv h=>⟨t+1,v::bF,(loc,back)::fr,h⟩):=by
 obtain ⟨A,i,j,k⟩:=e.part f;refine ⟨?_,λloc back bF fr w l n o d q=>?_⟩;·exact (L_ (C:=C) (L:=L) (N:=N) (D:=D) (cc:=cc) (nl:=nl) (P:=P) (call:=call) (h6:=h6) (u:=u) (loc:=gb nl 0) (back:=0) (fr:=gb cc ([],0)) aK aK args a p t b).1
 ·obtain ⟨B,r⟩:=L_ (back:=back) l d args a p t b;unfold qJ;rw [i];dsimp only;refine (Sm.bd (B1:=t-p) (B2:=1) (r bF w n q) λvs s y z _=>?_).mono ai;exact k t vs bF ((loc,back)::fr) s g (by rw [j,Uk _ _ y,JF,fB]) (by simp [d]) o z
end
section
variable {C:I ce} {L N D cc nl:Z} {P:Env} {call:Cl} {h6:Z->Z->Z} {u:Z} {kn:I e7}
variable {rK:Cr}
def Um {p q:Z} (h:tZ [rK] p q):rK p q:=by obtain ⟨t,b,a⟩:=h;have a:t=q:=a;subst a;exact b
variable {xm:Ev} {az b':ac}
def Un (c:Cd C L N) (m:cc<=24) {h:Z}   (a:vf C L N D cc nl h rK xm) {p t:Z}  (b:rK p t) (hi:e0 C t 6 az b') (d:0<=az/\az<=4096) (e:b'<=4096):p<=t/\∀(loc:I ac) (back:ac) (bF:I ac) (fr:I<|I ac×ac) (w:Wm),loc.length=nl->bF.length+h<=16*cc+20->fr.length=cc->Wi L D cc w-> Sm C L N (t+1-p) (Wi L D cc) id w ⟨p,bF,(loc,back)::fr,w⟩ (p7 b' xm loc w) (λv f=>⟨t+1,(az+v)::bF,(loc,back)::fr,f⟩):=by
 obtain ⟨a1,a2⟩:=a p t b;refine ⟨a1,λloc back bF fr w g i j k=>?_⟩;unfold p7;refine (Sm.bd (B1:=t-p) (B2:=1) (a2 loc back bF fr w g i j k) λv o _ l _=>?_).mono ai;split;·rename_i hv;exact Sm.ov (n:=1) (c7 _) ai<|ae4 c hi hv
 ·rename_i hv;exact Sm.ok (n:=1) l O (c7 _)<|ae3 c hi (by simpa using hv) d e ai
def Uo {loc:I ac} {w a:Wm} (h:p7 az xm loc w = .ok b' a):0<=b'/\b'<az:=by
 unfold p7 at h;cases b:xm loc w with
 | ov x y=>rw [b] at h;cases h
 | ok v1 c=>
  rw [b] at h;have h:(if (decide (v1<0)||decide (az<=v1))=ad then (Bw.Rz.ov 2 c:Bw.Rz Wm ac) else .ok v1 c) = .ok b' a:=h;split at h;·cases h
  ·rename_i hv;injection h with d e;subst d;simp at hv;omega
def Ma (c:Cd C L N) (ax:cc<=24) (aI:D<=512) (X:qO C L N D cc P call h6 u kn):∀(x:eC) (d:Z),k5 kn (nl:ac) x d=ad->vf C L N D cc nl (1+2*(7-d)) (qo C (jt P u) (my P h6 u) x) (bA P call u x)
 | .mk op n m pl args,d,ah=>by
  intro p q b;have aO:d<=6:=by rw [k5] at ah;simp only [eI,cw] at ah;exact ah.1
  have ay:=F4 ah;have E:node1 kn (nl:ac) op n m pl args.length=ad:=ay.1;have aK:hZ kn (nl:ac) args (d+1)=ad:=ay.2;have f:=F1 E;have Y:∀x ∈ args,vf C L N D cc nl (1+2*(7-(d+1))) (qo C (jt P u) (my P h6 u) x) (bA P call u x):=λx az=>by obtain ⟨i,hi⟩:=jd az;exact Ma c ax aI X x (d+1)<|mM aK hi
  have ab:∀{i:Z} {y:eC},args[i]? = aa y->vf C L N D cc nl (1+2*(7-(d+1))) (mx (kV C (jt P u) (my P h6 u) args) i) (kg (hx P call u args) i):=λh=>by rw [Hw h,mg h];exact Y _<|aW h
  rw [qo] at b;have aL:bA P call u (.mk op n m pl args)=cU P call u op n m pl (hx P call u args):=by funext loc w;rw [bA]
  rw [aL];unfold L8 at b;unfold cU;by_cases g:op=1;·rw [aD g] at b;obtain ⟨j,rfl⟩:=b;refine ⟨by omega,λloc back bF fr w l K o a=>?_⟩;rw [aD g];exact Sm.ok (n:=1) a O (by omega)<|Ht c j (by omega)
  by_cases j:op=2;·rw [aj g,aD j] at b;obtain ⟨k,rfl⟩:=b;refine ⟨by omega,λloc back bF fr w l K o a=>?_⟩;rw [aj g,aD j];have M:=ae_ (fr:=(loc,back)::fr) (w:=w) c k (show bF.length<2048 by omega);cases hi:w.bn with| nil=>rw [hi] at M;exact Sm.ok (n:=1) a rfl (by omega) M| cons y r=>rw [hi] at M;exact Sm.ok (n:=1) (⟨a.calls,a.a0,a.data⟩:Wi L D cc { w with bn:=r }) rfl (by omega) M
  by_cases A:op=16
  ·rw [aj g,aj j,aD A] at b;obtain ⟨k,rfl⟩:=b;have aB:gT (nl:ac) pl=ad:=by rw [A] at E;simp [node1] at E;exact E.2
   unfold gT at aB;simp at aB;refine ⟨by omega,λloc back bF fr w l K o a=>?_⟩;rw [aj g,aj j,aD A];exact Sm.ok (n:=1) a O (by omega)<|aeZ c k (by omega) (by omega)
  by_cases k:op=3;·rw [aj g,aj j,aj A,aD k] at b;obtain ⟨F,rfl⟩:=b;obtain ⟨aM,S,T⟩:=X.data (f.1 k) (by decide);have aF:=S 0;rw [show pl+((0:Z):ac)=pl by omega] at aF;refine ⟨by omega,λloc back bF fr w l K o a=>?_⟩;rw [aj g,aj j,aj A,aD k];have:=ae1 (fr:=(loc,back)::fr) (w:=w) c F (by rw [a.data];omega) (show bF.length<2048 by omega);rw [show (pl+jt P u m).toNat=P.at_ u m pl by omega] at this;exact Sm.ok (n:=1) a O (by omega) this
  by_cases F:op=4
  ·rw [aj g,aj j,aj A,aj k,aD F] at b;obtain ⟨t,c1,c2,c3,rfl⟩:=b;obtain ⟨⟨aQ,n1⟩,aN⟩:=f.2.1 F;obtain ⟨aM,S,T⟩:=X.data aN (by omega);have U:args.length=1:=by rw [F] at E;simp [node1] at E;omega
   obtain ⟨y,ae⟩:∃y,args[0]? = aa y:=⟨_,cy (by omega)⟩;have aF:=S 0;obtain ⟨a1,a2⟩:=Un c ax (ab ae) c1 c2 (by omega) (by omega);refine ⟨by omega,λloc back bF fr w l K o a=>?_⟩;rw [aj g,aj j,aj A,aj k,aD F];refine (Sm.bd (B1:=t+1-p) (B2:=1) (a2 loc back bF fr w l (by omega) o a) λv Q R G _=>?_).mono (by omega);obtain ⟨v0,v1⟩:=Uo R;obtain ⟨W,rfl⟩:∃W:Z,v=W:=⟨v.toNat,by omega⟩;have aT:=S W;have:=ae5 (fr:=(loc,back)::fr) (w:=Q) (v:=pl+jt P u m+W) c c3 (by rw [G.data];omega) (show bF.length<2048 by omega);rw [show (pl+jt P u m+(W:ac)).toNat=P.at_ u m (pl+W) by omega] at this;exact Sm.ok (n:=1) G O (c7 _) this
  by_cases H:op=5;·rw [aj g,aj j,aj A,aj k,aj F,aD H] at b;obtain ⟨t,c1,c2,rfl⟩:=b;have aG:=f.2.2.1 H;obtain ⟨a1,a2⟩:=Ul c X Y aG c1 c2;have U:args.length<=3:=X.fH aG;refine ⟨by omega,λloc back bF fr w l K o a=>?_⟩;rw [aj g,aj j,aj A,aj k,aj F,aD H];exact a2 loc back bF fr w l (by omega) (by omega) o a
  by_cases J:op=6
  ·rw [aj g,aj j,aj A,aj k,aj F,aj H,aD J] at b;obtain ⟨t,c1,c2,rfl⟩:=b;have U:args.length=1:=by rw [J] at E;simp [node1] at E;omega
   obtain ⟨y,rfl⟩:∃y,args=[y]:=I.length_eq_one_iff.1 U;have c1:qo C (jt P u) (my P h6 u) y p t:=by rw [kV,kV] at c1;exact Um c1
   obtain ⟨a1,a2⟩:=Y y (by simp) p t c1;refine ⟨by omega,λloc back bF fr w l K o a=>?_⟩;rw [aj g,aj j,aj A,aj k,aj F,aj H,aD J,mg (y:=y) rfl];refine (Sm.bd (B1:=t-p) (B2:=1) (a2 loc back bF fr w l (by omega) o a) λv Q R G _=>?_).mono (by omega);exact Sm.ok (n:=1) G O (c7 _)<|ae7 c c2 (by omega)
  by_cases V:op=7
  ·rw [aj g,aj j,aj A,aj k,aj F,aj H,aj J,aD V] at b;obtain ⟨t,r,c1,c2,c3,c4,ak,al,rfl⟩:=b;have U:args.length=2:=by rw [V] at E;simp [node1] at E;omega
   obtain ⟨y,ae⟩:∃y,args[0]? = aa y:=⟨_,cy (by omega)⟩;obtain ⟨z,ap⟩:∃y,args[1]? = aa y:=⟨_,cy (by omega)⟩;obtain ⟨a1,a2⟩:=ab ae p t c1;obtain ⟨S,T⟩:=ab ap (t+1) r c3;refine ⟨by omega,λloc back bF fr w l K o a=>?_⟩;rw [aj g,aj j,aj A,aj k,aj F,aj H,aj J,aD V];refine (Sm.bd (B1:=t-p) (B2:=r+3-t) (a2 loc back bF fr w l (by omega) o a) λv Q R G _=>?_).mono (by omega);by_cases hv:v=0;·rw [aD hv,hv];exact Sm.ok (n:=1+1) G O (by omega)<|(D_ c c2).trans<|Ht c al (by omega)
   ·rw [aj hv];refine (Sm.pre (n:=1) (B:=r+2-t) (qC c c2 hv) ?_).mono (by omega);refine (Sm.bd (B1:=r-(t+1)) (B2:=2) (T loc back bF fr Q l (by omega) o G) λv2 ai R af _=>?_).mono (by omega);exact Sm.ok (n:=1+1) af O (by omega)<|(Ud c c4 (by omega)).trans<|Hu c ak
  by_cases ag:op=8
  ·rw [aj g,aj j,aj A,aj k,aj F,aj H,aj J,aj V,aD ag] at b;obtain ⟨t,r,c1,c2,c3,c4,ak,al,rfl⟩:=b;have U:args.length=2:=by rw [ag] at E;simp [node1] at E;omega
   obtain ⟨y,ae⟩:∃y,args[0]? = aa y:=⟨_,cy (by omega)⟩;obtain ⟨z,ap⟩:∃y,args[1]? = aa y:=⟨_,cy (by omega)⟩;obtain ⟨a1,a2⟩:=ab ae p t c1;obtain ⟨S,T⟩:=ab ap (t+3) r ak;refine ⟨by omega,λloc back bF fr w l K o a=>?_⟩;rw [aj g,aj j,aj A,aj k,aj F,aj H,aj J,aj V,aD ag];refine (Sm.bd (B1:=t-p) (B2:=r+1-t) (a2 loc back bF fr w l (by omega) o a) λv Q R G _=>?_).mono (by omega);by_cases hv:v=0;·rw [aD hv,hv];refine (Sm.pre (n:=1) (B:=r-t) (D_ c c2) ?_).mono (by omega);refine (Sm.bd (B1:=r-(t+3)) (B2:=1) (T loc back bF fr Q l (by omega) o G) λv2 ai R af _=>?_).mono (by omega);exact Sm.ok (n:=1) af O (by omega)<|Ud c al (by omega)
   ·rw [aj hv];exact Sm.ok (n:=1+1+1) G O (by omega)<|((qC c c2 hv).trans<|Ht c c3 (by omega)).trans<|Hu c c4
  rw [aj g,aj j,aj A,aj k,aj F,aj H,aj J,aj V,aj ag] at b;obtain ⟨t,c1,c2,rfl⟩:=b;have au:(9<=op/\op<=15)/\args.length=2:=by
   unfold node1 at E;rw [aj g,aj k,aj F,aj H,aj A,aj j,aj J] at E;split at E;·simp at E;omega
   ·cases E
  obtain ⟨au,U⟩:=au;obtain ⟨y,z,rfl⟩:∃y z,args=[y,z]:=by match args,U with| [y,z],_=>exact ⟨y,z,rfl⟩
  rw [kV,kV,kV] at c1;obtain ⟨s,c1,c3⟩:=c1;have c3:=Um c3;obtain ⟨a1,a2⟩:=Y y (by simp) p s c1;obtain ⟨S,T⟩:=Y z (by simp) s t c3;refine ⟨by omega,λloc back bF fr w l K o a=>?_⟩;rw [aj g,aj j,aj A,aj k,aj F,aj H,aj J,aj V,aj ag,mg (y:=y) rfl,mg (i:=1) (y:=z) rfl];refine (Sm.bd (B1:=s-p) (B2:=t+1-s) (a2 loc back bF fr w l (by omega) o a) λv Q R G _=>?_).mono (by omega);refine (Sm.bd (B1:=t-s) (B2:=1) (T loc back (v::bF) fr Q l (by simp;omega) o G) λv2 ai R af _=>?_).mono (by omega);have av:=afg (fr:=(loc,back)::fr) (w:=ai) (v:=v) (v2:=v2) (bF:=bF) c c2 au (by omega);cases aH:m_ op v v2 ai with| ok x aw=>obtain ⟨rfl,M⟩:=av.1 x aw aH;exact Sm.ok (n:=1) af O (c7 _) M| ov e aw=>obtain ⟨rfl,M⟩:=av.2 e aw aH;exact Sm.ov (n:=1) (c7 _) (by omega) M
termination_by x=>SizeOf.sizeOf x
decreasing_by have av:=MQ az;simp only [eC.mk.sizeOf_spec];omega
end
structure Fi (L D cc nl:Z) (f:Fm):Prop where
 w:Wi L D cc f.w
 loc:f.loc.length=nl
def Hx (q back:Z) (bF:I ac) (fr:I<|I ac×ac) (t:aS) (f:Fm):St:=if t=ad then ⟨back,f.val::bF,fr,f.w⟩ else ⟨q,bF,(f.loc,(back:ac))::fr,f.w⟩
def Mb (C:I ce) (L N D cc nl:Z) (k:Cr) (e:Fm->Bw.Rz Fm aS):Prop:=∀p q,k p q->p<=q/\∀(f:Fm) (back:Z) (bF:I ac) (fr:I<|I ac×ac),bF.length<=16*cc+4->fr.length=cc->fr≠[]->Fi L D cc nl f-> Sm C L N (q-p) (Fi L D cc nl) Fm.w f.w ⟨p,bF,(f.loc,(back:ac))::fr,f.w⟩ (e f) (Hx q back bF fr)
section
variable {C:I ce} {L N D cc nl:Z} {P:Env} {call:Cl} {h6:Z->Z->Z} {u:Z} {kn:I e7}
variable {rK:Cr} {xm:Ev}
def zI {h:Z}   (c:vf C L N D cc nl h rK xm) {p t:Z} (d:rK p t) (f:Fm) (back:ac) (bF:I ac) (fr:I<|I ac×ac) (e:bF.length+h<=16*cc+20) (g:fr.length=cc) (b:Fi L D cc nl f) : Sm C L N (t-p) (λa=>Fi L D cc nl a/\a.loc=f.loc/\a.val=f.val) Fm.w f.w ⟨p,bF,(f.loc,back)::fr,f.w⟩ (Bw.Rz.fr f<|xm f.loc f.w)<|λv a=>⟨t,v::bF,(f.loc,back)::fr,a.w⟩:= Sm.fr ((c p t d).2 f.loc back bF fr f.w b.loc e g b.w) (λw i=>⟨⟨i,b.loc⟩,rfl,rfl⟩) λv w=>rfl
def Up (c:Cd C L N) (V:cc<=24) (s:P.aO=L)   {G:Cr} {g:Fm->Bw.Rz Fm aS} (u:vf C L N D cc nl 13 rK xm) (H:Mb C L N D cc nl G g) {p t r:Z} (c1:rK p t) (c2:e0 C t 12 ((r+1:Z):ac) 0) (c3:e0 C (t+1) 16 0 0) (c4:G (t+2) r) (y:e0 C r 11 (p:Z) 0):∀(n:Z) (f:Fm) (back:Z) (bF:I ac) (fr:I<|I ac×ac),L-f.w.a0<n->bF.length<=16*cc+4->fr.length=cc->fr≠[]->Fi L D cc nl f->
   Sm C L N (r+1-p) (Fi L D cc nl) Fm.w f.w ⟨p,bF,(f.loc,(back:ac))::fr,f.w⟩ (nb P (λf=>Bw.Rz.fr f<|xm f.loc f.w) g n f) (Hx (r+1) back bF fr)
 | 0,f,back,bF,fr,W,_,_,_,_=>by omega
 | n+1,f,back,bF,fr,W,J,z,K,X=>by
  have a1:=(u p t c1).1;obtain ⟨au,Y⟩:=H (t+2) r c4;have av:r<C.length:=(cN.1 y).1;have hC:=c.hC;rw [nb];refine (Sm.bd (B1:=t-p) (B2:=r+1-t) (zI u c1 f back bF fr ai z X) λv a _ h _=>?_).mono ai;obtain ⟨h,ab,aw⟩:=h;rw [<-ab];by_cases hv:v=0;·rw [aD hv,hv];refine Sm.ok (n:=1) h O ai<|D_ c c2
  ·rw [aj hv];refine (Sm.pre (n:=1) (B:=r-t) (qC c c2 hv) ?_).mono ai;unfold mJ;by_cases j:a.w.a0=P.aO;·rw [aD j];exact Sm.ov (n:=1) (c7 _) (by unfold KK;omega)<|ae9 c c3 (by rw [j,s])
   ·rw [aj j];have ae:a.w.a0<L:=by have:=h.w.a0;rw [s] at j;omega
    have af:Fi L D cc nl { a with w:={ a.w with a0:=a.w.a0+1 } }:=⟨⟨h.w.calls,by show a.w.a0+1<=L;omega,h.w.data⟩,h.loc⟩;have A:=ae8 (bF:=bF) (fr:=(a.loc,(back:ac))::fr) (w:=a.w) c c3 ae;have k:=Y { a with w:={ a.w with a0:=a.w.a0+1 } } back bF fr J z K af;show Sm C L N (r-t) (Fi L D cc nl) Fm.w a.w _ ((g { a with w:={ a.w with a0:=a.w.a0+1 } }).bind λt f=>if t=ad then .ok ad f else nb P (λf=>Bw.Rz.fr f<|xm f.loc f.w) g n f) _;cases M:g { a with w:={ a.w with a0:=a.w.a0+1 } } with
    | ov e i=>rw [M] at k;obtain ⟨m,k1,k2,l⟩:=k;have k1:a.w.a0+1<=i.a0:=k1;have k2:m<=r-(t+2)+KK*(i.a0-(a.w.a0+1)+1):=k2;refine ⟨1+m,ai,?_,A.x l⟩;have ag:i.a0-(a.w.a0+1)+1=i.a0-a.w.a0:=ai;rw [ag] at k2;have:=L7 (show i.a0-a.w.a0<=i.a0-a.w.a0+1 by omega);omega
    | ok b d=>
     rw [M] at k;obtain ⟨m,k1,k2,l,Q⟩:=k;have k2:a.w.a0+1<=d.w.a0:=k2;have l:m<=r-(t+2)+KK*(d.w.a0-(a.w.a0+1)):=l;have ax:=qM (show a.w.a0<=a.w.a0+1 by omega) k2;have ay:KK*(a.w.a0+1-a.w.a0)=KK:=by rw [show a.w.a0+1-a.w.a0=1 by omega,vo]
     cases b with
     | true=>exact ⟨1+m,k1,ai,ai,A.trans Q⟩
     | false=>
      have o:=Up c V s u H c1 c2 c3 c4 y n d back bF fr ai J z K k1;have ah:Gx C L N 1 ⟨r,bF,(d.loc,(back:ac))::fr,d.w⟩ ⟨p,bF,(d.loc,(back:ac))::fr,d.w⟩:=Hu c y;have R:Gx C L N (1+m+1) _ _:=(A.trans Q).trans ah;have az:KK=2050:=rfl;show Sm C L N (r-t) (Fi L D cc nl) Fm.w a.w _ (nb P (λf=>Bw.Rz.fr f<|xm f.loc f.w) g n d) _;cases S:nb P (λf=>Bw.Rz.fr f<|xm f.loc f.w) g n d with
      | ok aB aF=>rw [S] at o;obtain ⟨E,T,F,U,ak⟩:=o;have al:=qM k2 F;have ap:=qM (show a.w.a0<=a.w.a0+1 by omega)<|pG k2 F;exact ⟨1+m+1+E,T,ai,ai,R.trans ak⟩
      | ov e q=>
       rw [S] at o;obtain ⟨E,T,F,U⟩:=o;have al:KK*(d.w.a0-(a.w.a0+1))+KK*(q.a0-d.w.a0+1)=KK*(q.a0-a.w.a0):=by rw [<-yf];congr 1;omega
       have ap:KK*(q.a0-a.w.a0+1)=KK*(q.a0-a.w.a0)+KK:=by rw [yf,vo]
       exact ⟨1+m+1+E,ai,ai,R.x U⟩
end
section
variable {C:I ce} {L N D cc nl:Z} {P:Env} {call:Cl} {h6:Z->Z->Z} {u:Z} {kn:I e7}
def Sm.after {B n:Z} {w:Wm} {x:St} {a:Fm->Prop} {r:Bw.Rz Fm aS} {q q' back:Z} {bF:I ac} {fr:I<|I ac×ac} (h:Sm C L N B a Fm.w w x r<|Hx q back bF fr) (g:∀f:Fm,Gx C L N n ⟨q,bF,(f.loc,(back:ac))::fr,f.w⟩ ⟨q',bF,(f.loc,(back:ac))::fr,f.w⟩):Sm C L N (B+n) a Fm.w w x r<|Hx q' back bF fr:=by cases r with| ov e i=>exact Sm.mono h ai| ok t f=>obtain ⟨m,b,c,j,d⟩:=h;cases t with| true=>exact ⟨m,b,c,ai,d⟩| false=>exact ⟨m+n,b,c,ai,d.trans<|g f⟩
mutual
def afh (c:Cd C L N) (V:cc<=24) (ag:D<=512) (al:P.aO=L) (R:qO C L N D cc P call h6 u kn):∀(x:et) (d:Z),lR kn (nl:ac) x d=ad->Mb C L N D cc nl (Ec C (jt P u) (my P h6 u) x) (nc P call u x)
 | .mk op n m pl args body other,d,aN=>by
  intro p q o;have ap:=F5 aN;have G:gC kn (nl:ac) op n m pl args.length body.length other.length=ad:=ap.1;have aG:hZ kn (nl:ac) args 1=ad:=ap.2.1;have aH:op=4\/op=5->g8 kn (nl:ac) body (d+1)=ad:=ap.2.2.1;have aQ:g8 kn (nl:ac) other (d+1)=ad:=ap.2.2.2;have ay:=F2 G;have E:∀{i:Z} {y:eC},args[i]? = aa y->vf C L N D cc nl 13 (mx (kV C (jt P u) (my P h6 u) args) i) (kg (hx P call u args) i):=λh=>by rw [Hw h,mg h];exact Ma c V ag R _ 1<|mM aG h
  have aT:∀x ∈ args,vf C L N D cc nl 13 (qo C (jt P u) (my P h6 u) x) (bA P call u x):=λx S=>by obtain ⟨i,hi⟩:=jd S;exact Ma c V ag R x 1<|mM aG hi
  rw [Ec] at o;have aU:nc P call u (.mk op n m pl args body other)=λf=>qL P call u op n m pl (hx P call u args) (λf=>hP P call u body f) (λf=>hP P call u other f) f:=by funext f;rw [nc]
  rw [aU];unfold L9 at o;unfold qL;by_cases l:op=1
  ·rw [aD l] at o;obtain ⟨t,c1,c2,rfl⟩:=o;have ab:args.length=1:=by rw [l] at G;simp [gC] at G;omega
   obtain ⟨y,s⟩:∃y,args[0]? = aa y:=⟨_,cy (by omega)⟩;have au:=(E s p t c1).1;obtain ⟨aV,aW⟩:=ay.1 l;refine ⟨by omega,λf back bF fr K k H j=>?_⟩;dsimp only;rw [aD l];refine (Sm.bd (B1:=t-p) (B2:=1) (zI (E s) c1 f back bF fr (by omega) k j) λv b _ a _=>?_).mono (by omega);obtain ⟨a,M,av⟩:=a;rw [<-M];by_cases aw:m<0;·rw [aD aw] at c2 ⊢;have ae:=aV aw;exact Sm.ok (n:=1) (⟨a.w,by rw [zW];exact a.loc⟩:Fi L D cc nl { b with loc:=b.loc.set pl.toNat v }) O (c7 _)<|ae0 c c2 (by rw [a.loc];omega)
   ·rw [aj aw] at c2 ⊢;obtain ⟨aX,ah,ax⟩:=R.data (aW aw) (by decide);have aI:=ah 0;rw [show pl+((0:Z):ac)=pl by omega] at aI;have ae:=ae2 (v:=v) (bF:=bF) (fr:=(b.loc,(back:ac))::fr) (w:=b.w) c c2 (by rw [a.w.data];omega);rw [show (pl+jt P u m).toNat=P.at_ u m pl by omega] at ae;exact Sm.ok (n:=1) (⟨⟨a.w.calls,a.w.a0,by show (b.w.data.set _ _).length=D;rw [zW];exact a.w.data⟩,a.loc⟩:Fi L D cc nl { b with w:={ b.w with data:=b.w.data.set (P.at_ u m pl) v } }) O (c7 _) ae
  by_cases A:op=2
  ·rw [aj l,aD A] at o;obtain ⟨t,r,c1,c2,c3,c4,rfl⟩:=o;have ab:args.length=2:=by rw [A] at G;simp [gC] at G;omega
   obtain ⟨y,s⟩:∃y,args[0]? = aa y:=⟨_,cy (by omega)⟩;obtain ⟨z,aK⟩:∃y,args[1]? = aa y:=⟨_,cy (by omega)⟩;obtain ⟨⟨a_,n1⟩,aZ⟩:=ay.2.1 A;obtain ⟨aX,ah,ax⟩:=R.data aZ (by omega);have aI:=ah 0;obtain ⟨a1,a2⟩:=Un c V (E s) c1 c2 (by omega) (by omega);have a3:=(E aK (t+1) r c3).1;refine ⟨by omega,λf back bF fr K k H j=>?_⟩;dsimp only;rw [aj l,aD A];have S:=a2 f.loc back bF fr f.w j.loc (by omega) k j.w;have S:=Sm.fr (I':=λT=>Fi L D cc nl T/\T.loc=f.loc) (f:=f) (z:=λv T=>⟨t+1,(pl+jt P u m+v)::bF,(f.loc,(back:ac))::fr,T.w⟩) S (λw az=>⟨⟨az,j.loc⟩,rfl⟩) λv w=>rfl;refine (Sm.bd (B1:=t+1-p) (B2:=r+1-(t+1)) S λi b ai a _=>?_).mono (by omega);obtain ⟨a,M⟩:=a;have hi:0<=i/\i<n:=by cases aB:p7 n (kg (hx P call u args) 0) f.loc f.w with| ov e a4=>rw [aB] at ai;cases ai| ok v a4=>rw [aB] at ai;injection ai with a5 ba;subst a5;exact Uo aB
   rw [<-M];refine (Sm.bd (B1:=r-(t+1)) (B2:=1) (zI (E aK) c3 b back ((pl+jt P u m+i)::bF) fr (by simp;omega) k a) λv af _ W _=>?_).mono (by omega);obtain ⟨W,a7,_⟩:=W;rw [<-a7];obtain ⟨X,rfl⟩:∃X:Z,i=X:=⟨i.toNat,by omega⟩;have bb:=ah X;have ae:=ae6 (v2:=v) (v:=pl+jt P u m+X) (bF:=bF) (fr:=(af.loc,(back:ac))::fr) (w:=af.w) c c4 (by rw [W.w.data];omega);rw [show (pl+jt P u m+(X:ac)).toNat=P.at_ u m (pl+X) by omega] at ae;exact Sm.ok (n:=1) (⟨⟨W.w.calls,W.w.a0,by show (af.w.data.set _ _).length=D;rw [zW];exact W.w.data⟩,W.loc⟩:Fi L D cc nl { af with w:={ af.w with data:=af.w.data.set (P.at_ u m<|pl+X) v } }) O (c7 _) ae
  by_cases F:op=3;·rw [aj l,aj A,aD F] at o;obtain ⟨t,c1,c2,c3,rfl⟩:=o;have aL:=ay.2.2 F;have ab:args.length<=3:=R.fH aL;obtain ⟨a1,a2⟩:=Ul c R aT aL c1 c2;refine ⟨by omega,λf back bF fr K k H j=>?_⟩;dsimp only;rw [aj l,aj A,aD F];have S:=a2 f.loc back bF fr f.w j.loc (by omega) (by omega) k j.w;have S:=Sm.fr (I':=λT=>Fi L D cc nl T/\T.loc=f.loc) (f:=f) (z:=λv T=>⟨t+1,v::bF,(f.loc,(back:ac))::fr,T.w⟩) S (λw az=>⟨⟨az,j.loc⟩,rfl⟩) λv w=>rfl;refine (Sm.bd (B1:=t+1-p) (B2:=1) S λi b ai a _=>?_).mono (by omega);obtain ⟨a,M⟩:=a;rw [<-M];exact Sm.ok (n:=1) a O (c7 _)<|ae' c c3
  by_cases J:op=4
  ·rw [aj l,aj A,aj F,aD J] at o;obtain ⟨t,r,c1,c2,c3⟩:=o;have ab:args.length=1:=by rw [J] at G;simp [gC] at G;omega
   obtain ⟨y,s⟩:∃y,args[0]? = aa y:=⟨_,cy (by omega)⟩;have au:=(E s p t c1).1;obtain ⟨ah,ax⟩:=Ee c V ag al R body (d+1) (aH<|bB J) (t+1) r c2;by_cases U:0<other.length
   ·rw [aD U] at c3;obtain ⟨c4,aF,a8⟩:=c3;obtain ⟨bc,a9⟩:=Ee c V ag al R other (d+1) aQ (r+1) q a8;refine ⟨by omega,λf back bF fr K k H j=>?_⟩;dsimp only;rw [aj l,aj A,aj F,aD J];refine (Sm.bd (B1:=t-p) (B2:=q-t) (zI (E s) c1 f back bF fr (by omega) k j) λv b _ a _=>?_).mono (by omega);obtain ⟨a,M,av⟩:=a;rw [<-M];by_cases hv:v=0;·rw [aD hv,hv];exact (Sm.pre (n:=1) (B:=q-(r+1)) (D_ c c4)<|a9 b back bF fr K k H a).mono (by omega)
    ·rw [aj hv];have:=Sm.after (n:=1) (q':=q) (ax b back bF fr K k H a) λf=>Hu c aF;exact (Sm.pre (n:=1) (B:=r-(t+1)+1) (qC c c4 hv) this).mono (by omega)
   ·rw [aj U] at c3;obtain ⟨c4,rfl⟩:=c3;have a':other=[]:=by cases other with| nil=>rfl| cons z zs=>simp at U
    refine ⟨by omega,λf back bF fr K k H j=>?_⟩;dsimp only;rw [aj l,aj A,aj F,aD J];refine (Sm.bd (B1:=t-p) (B2:=q-t) (zI (E s) c1 f back bF fr (by omega) k j) λv b _ a _=>?_).mono (by omega);obtain ⟨a,M,av⟩:=a;rw [<-M];by_cases hv:v=0;·rw [aD hv,hv,a',hP];exact Sm.ok (n:=1) a O (by omega)<|D_ c c4
    ·rw [aj hv];exact (Sm.pre (n:=1) (B:=q-(t+1)) (qC c c4 hv)<|ax b back bF fr K k H a).mono (by omega)
  by_cases Q:op=5
  ·rw [aj l,aj A,aj F,aj J,aD Q] at o;obtain ⟨t,r,c1,c2,c3,c4,aF,rfl⟩:=o;have ab:args.length=1:=by rw [Q] at G;simp [gC] at G;omega
   obtain ⟨y,s⟩:∃y,args[0]? = aa y:=⟨_,cy (by omega)⟩;have au:=(E s p t c1).1;have aM:=Ee c V ag al R body (d+1)<|aH<|be Q;have bf:=(aM (t+2) r c4).1;refine ⟨by omega,λf back bF fr K k H j=>?_⟩;dsimp only;rw [aj l,aj A,aj F,aj J,aD Q];exact Up c V al (E s) aM c1 c2 c3 c4 aF (P.aO+1) f back bF fr (by omega) K k H j
  by_cases Y:op=6
  ·rw [aj l,aj A,aj F,aj J,aj Q,aD Y] at o;obtain ⟨t,c1,c2,rfl⟩:=o;have ab:args.length=1:=by rw [Y] at G;simp [gC] at G;omega
   obtain ⟨y,s⟩:∃y,args[0]? = aa y:=⟨_,cy (by omega)⟩;have au:=(E s p t c1).1;refine ⟨by omega,λf back bF fr K k H j=>?_⟩;dsimp only;rw [aj l,aj A,aj F,aj J,aj Q,aD Y];refine (Sm.bd (B1:=t-p) (B2:=1) (zI (E s) c1 f back bF fr (by omega) k j) λv b _ a _=>?_).mono (by omega);obtain ⟨a,M,av⟩:=a;cases fr with| nil=>exact absurd rfl H| cons g fr=>exact Sm.ok (n:=1) (⟨a.w,a.loc⟩:Fi L D cc nl { b with val:=v }) rfl (c7 _)<|TP c c2
  by_cases ak:op=7
  ·rw [aj l,aj A,aj F,aj J,aj Q,aj Y,aD ak] at o;obtain ⟨t,c1,c2,rfl⟩:=o;have ab:args.length=1:=by rw [ak] at G;simp [gC] at G;omega
   obtain ⟨y,s⟩:∃y,args[0]? = aa y:=⟨_,cy (by omega)⟩;have au:=(E s p t c1).1;refine ⟨by omega,λf back bF fr K k H j=>?_⟩;dsimp only;rw [aj l,aj A,aj F,aj J,aj Q,aj Y,aD ak];refine (Sm.bd (B1:=t-p) (B2:=1) (zI (E s) c1 f back bF fr (by omega) k j) λv b _ a _=>?_).mono (by omega);obtain ⟨a,M,av⟩:=a;rw [<-M];unfold CG;by_cases U:b.w.out.length=200;·rw [aD U];exact Sm.ov (n:=1) (c7 _) (by unfold KK;omega)<|afb c c2 U
   ·rw [aj U];exact Sm.ok (n:=1) (⟨⟨a.w.calls,a.w.a0,a.w.data⟩,a.loc⟩:Fi L D cc nl { b with w:={ b.w with out:=b.w.out++[v] } }) O (c7 _)<|afa c c2 U
  rw [aj l,aj A,aj F,aj J,aj Q,aj Y,aj ak] at o;subst o;refine ⟨c7 _,λf back bF fr K k H j=>?_⟩;dsimp only;rw [aj l,aj A,aj F,aj J,aj Q,aj Y,aj ak];exact Sm.ok (n:=0) j O (dw _)<|Gx.refl _
def Ee (c:Cd C L N) (j:cc<=24) (k:D<=512) (m:P.aO=L) (o:qO C L N D cc P call h6 u kn):∀(l:I et) (d:Z),g8 kn (nl:ac) l d=ad->Mb C L N D cc nl (s0 C (jt P u) (my P h6 u) l) (hP P call u l)| [],d,_=>by intro p q a;rw [s0] at a;have a:p=q:=a;subst a;refine ⟨c7 _,λf back bF fr e g h i=>?_⟩;rw [hP];exact Sm.ok (n:=0) i O (dw _)<|Gx.refl _| x::r,d,s=>by intro p q a;rw [g8] at s;obtain ⟨w,y⟩:=bz.1 s;rw [s0] at a;obtain ⟨t,c1,c2⟩:=a;obtain ⟨a1,a2⟩:=afh c j k m o x d w p t c1;obtain ⟨B,z⟩:=Ee c j k m o r d y t q c2;refine ⟨ai,λf back bF fr e g h i=>?_⟩;rw [hP];refine (Sm.bd (B1:=t-p) (B2:=q-t) (a2 f back bF fr e g h i) λb A _ v _=>?_).mono ai;cases b with| true=>exact Sm.ok (n:=0) v rfl (dw _)<|Gx.refl _| false=>exact z A back bF fr e g h v
end
end
section
variable {P:Env} {call:Cl} {u:Z}
def VK (v:ac) (r:Bw.Rz Fm aS):Prop:=∀a,r = .ok aq a->a.val=v
variable {az:ac} {aB:Type}
def VK.bd {r:Bw.Rz Fm aB} {g:aB->Fm->Bw.Rz Fm aS} (h:∀a s,r = .ok a s->VK az (g a s)):VK az<|r.bind g:=λc e=>by cases b:r with| ok a s=>rw [b] at e;exact h a s b c e| ov x w=>rw [b] at e;cases e
def wB {f c:Fm} {r:Bw.Rz Wm aB} {a:aB} (h:Bw.Rz.fr f r = .ok a c):c.val=f.val:=by cases r with| ok b w=>injection h with e d;subst d;rfl| ov x w=>cases h
variable {xb:Fm}
def VK.ok {b:aS} (h:xb.val=az):VK az<|.ok b xb:=λc e=>by injection e with d a;subst a;exact h
def VK.tr:VK az<|.ok ad xb:=λb e=>by injection e with a c;cases a
def Vt {c:Fm->Bw.Rz Fm ac} {b:Fm->Bw.Rz Fm aS} (d:∀f a e,c f = .ok a e->e.val=f.val) (g:∀f,VK f.val (b f)):∀n f,VK f.val (nb P c b n f)
 | 0,f=>VK.ok rfl
 | n+1,f=>by
  rw [nb];refine VK.bd λv p i=>?_;have h:=d _ _ _ i;split;·exact VK.ok h
  ·refine VK.bd λ_ q j=>?_;have k:=wB j;refine VK.bd λt l m=>?_;cases t with| true=>exact VK.tr| false=>have o:=g _ _ m;have:=Vt d g n l;rw [o,k,h] at this;exact this
mutual
def afi:∀(x:et) (f:Fm),VK f.val (nc P call u x f)
 | .mk op n m pl args body other,f=>by
  rw [nc];unfold qL;split
  ·refine VK.bd λv c b=>?_;have e:=wB b;split;·exact VK.ok e
   ·exact VK.ok e
  split;·refine VK.bd λv c b=>VK.bd λv2 g d=>?_;exact VK.ok<|(wB d).trans<|wB b
  split;·exact VK.bd λv c b=>VK.ok<|wB b
  split
  ·refine VK.bd λv c b=>?_;rw [<-wB b];split;·exact Ef other c
   ·exact Ef body c
  split;·exact Vt (λf a i h=>wB h) (λf=>Ef body f) _ f
  split;·exact VK.bd λv c b=>VK.tr
  split;·exact VK.bd λv c b=>VK.bd λ_ g d=>VK.ok<|(wB d).trans<|wB b
  ·exact VK.ok O
def Ef:∀(l:I et) (f:Fm),VK f.val (hP P call u l f)| [],f=>by rw [hP];exact VK.ok rfl| x::r,f=>by rw [hP];refine VK.bd λt a b=>?_;cases t with| true=>exact VK.tr| false=>have e:=afi x f a b;rw [<-e];exact Ef r a
end
end
structure Hy (C:I ce) (l:I aI) (L:Z) (h6:Z->Z->Z) (BL:Z->Z):Prop where
 parts:∀{j:Z} {z:aI} {q:Z} {p:b3},l[j]? = aa z->z.parts[q]? = aa p->∃q',xU C (jt (av l L) j) (my (av l L) h6 j) p.params p.locals p.body (h6 j q) q'
 afj:∀{j:Z} {z:aI},l[j]? = aa z->∃q',xU C (jt (av l L) j) (my (av l L) h6 j) 0 0 z.main (BL j) q'
 afk:∀{j:Z},j<l.length->e0 C j 13 (BL j:Z) 0
 halt:e0 C l.length 20 0 0
section
variable {C:I ce} {L N:Z} {l:I aI} {h6:Z->Z->Z} {BL:Z->Z}
def afl (f:lw l) {j:Z} {z:aI} (o:l[j]? = aa z) {cc:Z} {call:Cl}
   (u:∀{i:Z} {y:aI} {q:Z} {p:b3},l[i]? = aa y->y.parts[q]? = aa p->IM C L N (d' l) cc call i p.params p.locals p.body (h6 i q)):qO C L N (d' l) cc (av l L) call h6 j<|ec z::fV l z:=by
 refine ⟨fun {m pl n} h v=>?_,fun {m pl k} h=>?_,fun {m pl n} h=>?_⟩
 ·obtain ⟨r,s,b,p,rfl,rfl,t,a,c,g,d⟩:=AF f L o h v;have e:jt (av l L) j r=(b:ac):=by unfold jt;rw [g,show (av l L).g1=jZ l 0 from rfl,a];rfl
  rw [e];refine ⟨ai,λi=>?_,ai⟩;have:=d i;rw [show ((p:ac)+(i:ac))=((p+i:Z):ac) by omega,this];omega
 ·obtain ⟨r,s,q,y,p,rfl,rfl,t,a,c,g,d⟩:=CH f L o h;have:=yQ<|(iD<|f.oF y<|aW a).1 p<|aW c;omega
 ·obtain ⟨r,s,q,y,p,rfl,rfl,t,a,c,g,d⟩:=CH f L o h;refine ⟨p,?_,g,?_⟩;·rw [d,show (av l L).l=l from rfl,a];exact c
  ·unfold my;rw [d,ku];exact u a c
def afm (c:Cd C L N) (F:lw l) (X:Hy C l L h6 BL):∀(d cc:Z),cc+d=24->∀{j:Z} {z:aI},l[j]? = aa z->∀{np nl:ac} {bd:I et} {e q':Z},(0<=np/\np<=3)->(0<=nl/\nl<=4)->bX (ec z::fV l z) (np+nl) bd 1=ad->xU C (jt (av l L) j) (my (av l L) h6 j) np nl bd e q'->IM C L N (d' l) cc (dE (av l L)<|d+1) j np nl bd e:=by
 intro d;induction d with
 | zero=>
  intro cc Y j z K np nl bd e q' M O Q hC a vs bF fr w v hv B ab o;rw [dE];unfold mJ;have G:(av l L).aO=L:=rfl;by_cases r:w.a0=(av l L).aO;·rw [aD r];exact Sm.ov (n:=1) (c7 _) (by unfold KK;omega)<|Uf c v (by rw [r,G])
  ·rw [aj r];show Sm C L N 1 _ id w _ (if w.calls=24 then _ else _) _;rw [aD (by rw [o.calls];omega)];exact Sm.ov (n:=1) (Z.le_succ _) (by unfold KK;omega)<|afe c v (by have:=o.a0;omega) ai
 | succ d ae=>
  intro cc Y j z K np nl bd e q' M O Q hC a vs bF fr w v hv B ab o;rw [dE];unfold mJ;have G:(av l L).aO=L:=rfl;by_cases r:w.a0=(av l L).aO;·rw [aD r];exact Sm.ov (n:=1) (c7 _) (by unfold KK;omega)<|Uf c v (by rw [r,G])
  ·rw [aj r];show Sm C L N 1 _ id w _ (if w.calls=24 then _ else _) _;rw [aj (by rw [o.calls];omega)];have af:w.a0<L:=by have:=o.a0;omega
   obtain ⟨t,c1,c2,c3,c4,rfl⟩:=hC;have aG:t+1<C.length:=(cN.1 c4).1;have aH:=c.hC;have ag:=afd (bF:=vs.reverse++bF) (fr:=fr) (w:=w) c v af ai;have ah:=aff (bF:=bF) (fr:=fr) (w:={ w with a0:=w.a0+1 }) (loc:=[]) (back:=((a+1:Z):ac)) c c1 M O hv;have ak:=afl (C:=C) (N:=N) (L:=L) (h6:=h6) F K (cc:=cc+1) (call:=dE (av l L)<|d+1) fun {i y q p} H R=>by have A:=yQ<|(iD<|F.oF y<|aW H).1 p<|aW R;obtain ⟨aK,al⟩:=X.parts H R;exact ae (cc+1) ai H ⟨A.1,A.2.1⟩ ⟨A.2.2.1,A.2.2.2.1⟩ A.2.2.2.2 al
   have ap:(((vs++gb nl.toNat 0).length:Z):ac)=np+nl:=by simp;omega
   have au:=yS F;have S:=xf Q;rw [<-ap] at S;have aw:Fi L (d' l) (cc+1) (vs++gb nl.toNat 0).length ⟨vs++gb nl.toNat 0,0,{ w with a0:=w.a0+1,calls:=w.calls+1 }⟩:=⟨⟨by show w.calls+1=cc+1;rw [o.calls],by show w.a0+1<=L;omega,o.data⟩,rfl⟩;obtain ⟨aL,ax⟩:=Ee (C:=C) (N:=N) (nl:=(vs++gb nl.toNat 0).length) c (show cc+1<=24 by omega) au (show (av l L).aO=L from rfl) ak bd 1 S (e+1) t c2;have D:=ax _ (a+1) bF fr ai ai (by intro h;rw [h] at B;simp at B) aw;have T:=Ef (P:=av l L) (call:=dE (av l L)<|d+1) (u:=j) bd ⟨vs++gb nl.toNat 0,0,{ w with a0:=w.a0+1,calls:=w.calls+1 }⟩;have aM:KK=2050:=rfl;have J:Gx C L N (1+1) ⟨a,vs.reverse++bF,fr,w⟩ ⟨e+1,bF,(vs++gb nl.toNat 0,((a+1:Z):ac))::fr,{ w with a0:=w.a0+1,calls:=w.calls+1 }⟩:=ag.trans ah;show Sm C L N 1 _ id w _ (match hP (av l L) (dE (av l L)<|d+1) j bd ⟨vs++gb nl.toNat 0,0,{ w with a0:=w.a0+1,calls:=w.calls+1 }⟩ with| .ok _ f=>.ok f.val { f.w with calls:=f.w.calls-1 }| .ov e w=>.ov e w) _;cases U:hP (av l L) (dE (av l L)<|d+1) j bd ⟨vs++gb nl.toNat 0,0,{ w with a0:=w.a0+1,calls:=w.calls+1 }⟩ with
   | ov x s=>
    rw [U] at D;obtain ⟨m,k1,k2,E⟩:=D;have k1:w.a0+1<=s.a0:=k1;have k2:m<=t-(e+1)+KK*(s.a0-(w.a0+1)+1):=k2;rw [show s.a0-(w.a0+1)+1=s.a0-w.a0 by omega] at k2;have aN:KK*(s.a0-w.a0+1)=KK*(s.a0-w.a0)+KK:=by rw [yf,vo]
    exact ⟨1+1+m,ai,ai,J.x E⟩
   | ok b k=>
    rw [U] at D T;obtain ⟨m,k1,k2,E,V⟩:=D;have k2:w.a0+1<=k.w.a0:=k2;have E:m<=t-(e+1)+KK*(k.w.a0-(w.a0+1)):=E;have aQ:=qM (show w.a0<=w.a0+1 by omega) k2;have aT:KK*(w.a0+1-w.a0)=KK:=by rw [show w.a0+1-w.a0=1 by omega,vo]
    have W:Wi L (d' l) cc { k.w with calls:=k.w.calls-1 }:=⟨by show k.w.calls-1=cc;rw [k1.w.calls];rfl,k1.w.a0,k1.w.data⟩;cases b with| true=>exact ⟨1+1+m,W,by show w.a0<=k.w.a0;omega,by show 1+1+m<=1+KK*(k.w.a0-w.a0);omega,J.trans V⟩| false=>have ay:k.val=0:=T k rfl;cases fr with| nil=>simp at B| cons g fr=>have az:Gx C L N 1 ⟨t,bF,(k.loc,((a+1:Z):ac))::g::fr,k.w⟩ ⟨t+1,0::bF,(k.loc,((a+1:Z):ac))::g::fr,k.w⟩:=Ht c c3 ai;have aB:Gx C L N 1 ⟨t+1,0::bF,(k.loc,((a+1:Z):ac))::g::fr,k.w⟩ ⟨a+1,0::bF,g::fr,k.w⟩:=TP c c4;have aF:=((J.trans V).trans az).trans aB;refine ⟨1+1+m+1+1,W,by show w.a0<=k.w.a0;omega,by show 1+1+m+1+1<=1+KK*(k.w.a0-w.a0);omega,?_⟩;rw [ay];exact aF
def fu (r:Bw.Rz Wm ef):ac×Wm:=match r with| .ok _ w=>(0,w)| .ov e w=>(e,w)
def Ur (c:Cd C L N) (g:lw l) (f:Hy C l L h6 BL):∀(r:I aI) (n:Z) (bF:I ac) (w:Wm),l.drop n=r->n<=l.length->bF.length=n->Wi L (d' l) 0 w->∃m,w.a0<=(fu<|mK (av l L) r n w).2.a0/\(fu<|mK (av l L) r n w).2.a0<=L+1/\m<=r.length+1+KK*((fu<|mK (av l L) r n w).2.a0-w.a0+1)/\Xx C L N m ⟨n,bF,[([],0)],w⟩ (fu<|mK (av l L) r n w).1 (fu<|mK (av l L) r n w).2
 | [],n,bF,w,b,t,o,hw=>by
  have e:n=l.length:=by have:=congrArg m0 b;simp at this;omega
  subst e;exact ⟨1,c7 _,by have:=hw.a0;show w.a0<=L+1;omega,ai,afc c f.halt⟩
 | x::r,n,bF,w,b,t,o,hw=>by
  have p:n<l.length:=by
   rcases m2 n l.length with h | h;·exact h
   ·rw [k0 h] at b;cases b
  have i:l[n]? = aa x:=by have:=congrArg (·[0]?) b;simpa using this
  have u:l.drop (n+1)=r:=by have:=congrArg I.tail b;simpa using this
  obtain ⟨q',y⟩:=f.afj i;have z:=(iD<|g.oF x<|aW i).2.1;have G:=g.fH;have d:=afm c g f 24 0 rfl i (np:=0) (nl:=0) a8 a8 (by simpa using z) y n [] bF [([],0)] w (f.afk p) rfl rfl ai hw;rw [mK];have d:Sm C L N 1 (Wi L (d' l) 0) id w ⟨n,bF,[([],0)],w⟩ (dE (av l L) 25 n [] x.main w)<|λv A=>⟨n+1,v::bF,[([],0)],A⟩:=d;cases j:dE (av l L) 25 n [] x.main w with
  | ov e a=>rw [j] at d;obtain ⟨m,k1,k2,k⟩:=d;have q:=F0 (P:=av l L) 25 n [] x.main w;rw [j] at q;have H:=q.aO hw.a0;exact ⟨m,k1,by show a.a0<=L+1;have:(av l L).aO=L:=rfl;omega,by show m<=(x::r).length+1+KK*(a.a0-w.a0+1);rw [gj];omega,k⟩
  | ok v a=>
   rw [j] at d;obtain ⟨m,B,k1,k2,k⟩:=d;have k1:w.a0<=a.a0:=k1;have k2:m<=1+KK*(a.a0-w.a0):=k2;obtain ⟨s,D,E,J,F⟩:=Ur c g f r (n+1) (v::bF) a u p (by simp [o]) B;refine ⟨m+s,pG k1 D,E,?_,k.x F⟩;show m+s<=(x::r).length+1+KK*((fu<|mK (av l L) r (n+1) a).2.a0-w.a0+1);rw [gj];have K:KK*(a.a0-w.a0)+KK*((fu<|mK (av l L) r (n+1) a).2.a0-a.a0+1)=KK*((fu<|mK (av l L) r (n+1) a).2.a0-w.a0+1):=by rw [<-yf];congr 1;omega
   omega
def afn (d:lw l) {L:Z} (hL:L<=2000) (hC:C.length<=2048) (f:Hy C l L h6 BL) (bn:I ac) (g:k_ C (d' l:Z) bn L 134217728=0):(gY C (d' l:Z) bn L 134217728).1=⟨(ny l bn L).fin,(ny l bn L).out,(ny l bn L).data,(ny l bn L).a0⟩/\(ny l bn L).fin≠6/\(ny l bn L).fin≠7:=by
 have c:Cd C L 134217728:=⟨c7 _,hC,hL⟩;have h:Wi L (d' l) 0 ⟨gb (d' l) 0,bn,[],0,0⟩:=⟨rfl,dw _,aK⟩;obtain ⟨m,i,j,a,b⟩:=Ur c d f l 0 [] ⟨gb (d' l) 0,bn,[],0,0⟩ rfl (dw _) rfl h;have v:=d.fH;generalize k:mK (av l L) l 0 ⟨gb (d' l) 0,bn,[],0,0⟩=r at i j a b;have w:m<=134217728:=by have n:(fu r).2.a0-0+1<=2002:=ai;have x:=L7 n;have y:KK*2002=4104100:=rfl;have a:m<=l.length+1+KK*((fu r).2.a0-0+1):=a;omega
 obtain ⟨m',e,o,p,q⟩:=b.2 0 ai<|134217728+1-m;rw [show m+(134217728+1-m)=134217728+1 by omega] at e;have s:uL (L:ac) bn ((d' l:Z):ac)=St.m L 0 ⟨0,[],[([],0)],⟨gb (d' l) 0,bn,[],0,0⟩⟩:=by unfold uL St.m;rw [ku];rfl
 have t:runK C 134217728 ((134217728:ac).toNat+1) (uL (L:ac) bn ((d' l:Z):ac))=((fu r).1,m'):=by rw [s];exact e
 have u:ny l bn L=yO (fu r).2 (fu r).1:=by unfold ny;rw [k];cases r<;>rfl
 rw [u];refine ⟨?_,b.1⟩;unfold gY;rw [aD g];dsimp only;rw [t];dsimp only;rw [o,p,q];rfl
end
def gm (x:cK):ce:=⟨x.op,x.a,x.b⟩
abbrev Vl:=ho->ac->ac
def lE (fs:I ho) (p:Z):aA ho:=fs.find? λf=>f.at_==(p:ac)
def Vg (val:Vl) (g:Gs) (p:Z):aA cK:=(g.code[p]?).map λi=>match lE g.fix p with| ao=>i| aa f=>⟨i.op,val f i.a,i.b⟩
def Wf (g:Gs):Prop:=∀f ∈ g.fix,∃p:Z,f.at_=(p:ac)/\p<g.code.length
structure Ex (g g':Gs):Prop where
 lo:g.code.length<=g'.code.length
 code:∀p,p<g.code.length->g'.code[p]? = g.code[p]?
 fix:∀p,p<g.code.length->lE g'.fix p=lE g.fix p
 wf:Wf g->Wf g'
def Ex.refl (g:Gs):Ex g g:=⟨c7 _,λ_ _=>rfl,λ_ _=>rfl,id⟩
def Ex.trans {g b c:Gs} (h:Ex g b) (k:Ex b c):Ex g c:=⟨pG h.lo k.lo,λp a=>(k.code p<|rT a h.lo).trans<|h.code p a,λp a=>(k.fix p<|rT a h.lo).trans<|h.fix p a,λw=>k.wf<|h.wf w⟩
def Hz {fs:I ho} {p:Z} (h:∀f ∈ fs,f.at_≠(p:ac)):lE fs p=ao:=by unfold lE;rw [I.find?_eq_none];intro f a;simpa using h f a
def Us {a b:I ho} {p:Z} (h:∀f ∈ b,f.at_≠(p:ac)):lE (a++b) p=lE a p:=by have:=Hz h;unfold lE at this ⊢;rw [MR,this];cases I.find? (λf=>f.at_==(p:ac)) a<;>rfl
variable {dH:Gs}
def afo (h:Wf dH):lE dH.fix dH.code.length=ao:=Hz λf a e=>by obtain ⟨p,b,c⟩:=h f a;rw [b] at e;omega
def Ap.ex {Pk:ac->ac->Prop} {o:I Z} {g d:Gs} (h:Ap bE Pk o g d):Ex g d:=by
 obtain ⟨c,fx,r,k,t,s,u⟩:=h.more;have l:∀f ∈ fx,∃p:Z,f.at_=(p:ac)/\g.code.length<=p/\p<d.code.length:=λf a=>by obtain ⟨p,i,a1,a2,a3,_⟩:=s f a;exact ⟨p,a1,a3,(cN.1 a2).1⟩
 refine ⟨h.lo,λp m=>by rw [r,q9 m],λp m=>?_,λw f a=>?_⟩;·rw [k];refine Us λf a e=>?_;obtain ⟨q,b,j,n⟩:=l f a;rw [b] at e;omega
 ·rw [k] at a;rcases fe.1 a with a | a;·obtain ⟨p,b,j⟩:=w f a;exact ⟨p,b,rT j h.lo⟩
  ·obtain ⟨q,b,j,n⟩:=l f a;exact ⟨q,b,n⟩
def BM (l:I cK) (g:Gs):Ex g<|dg l g:=by refine ⟨by simp [dg],λp a=>by simp only [dg];rw [q9 a],λ_ _=>rfl,λw f b=>?_⟩;obtain ⟨p,c,d⟩:=w f b;exact ⟨p,c,by simp only [dg,iy];omega⟩
def kE (i:cK) (k m:ac) (g:Gs):Ex g<|dk i k m g:=by
 refine ⟨by simp [dk],λp b=>by simp only [dk];rw [q9 b],λp b=>?_,λw f a=>?_⟩;·simp only [dk];refine Us λf a e=>?_;rw [e_] at a;subst a;have e:(g.code.length:ac)=(p:ac):=e;omega
 ·have a:f ∈ g.fix++[⟨(g.code.length:ac),k,m⟩]:=a;rcases fe.1 a with a | a;·obtain ⟨p,c,d⟩:=w f a;exact ⟨p,c,by simp only [dk,iy];omega⟩
  ·rw [e_] at a;subst a;exact ⟨g.code.length,O,by simp [dk]⟩
def HA (n:Z) (h:Wf dH):Wf<|eT n dH:=λf a=>by obtain ⟨p,b,c⟩:=h f a;exact ⟨p,b,by rw [hl];exact c⟩
variable {aL:Z}
def Eg (h:aL≠bE):(eT bE dH).code[aL]? = dH.code[aL]?:=by show (dH.code.modify bE _)[aL]? = _;rw [vp];have e:¬bE=aL:=λe=>h e.symm;simp [e]
section
variable {val:Vl} {g g':Gs} {p n:Z}
def l6 (h:Ex g g') (a:p<g.code.length):Vg val g' p=Vg val g p:=by unfold Vg;rw [h.code p a,h.fix p a]
def xV (h:p≠n):Vg val (eT n g) p=Vg val g p:=by unfold Vg;rw [Eg h];rfl
variable {l7:I cK} {yX:cK}
def afp {i:Z}  (w:Wf g) (h:l7[i]? = aa yX):Vg val (dg l7 g) (g.code.length+i)=aa yX:=by unfold Vg;rw [show (dg l7 g).code=g.code++l7 from rfl,pH ai,zQ,h,show (dg l7 g).fix=g.fix from rfl,Hz λf a e=>by obtain ⟨q,b,c⟩:=w f a;rw [b] at e;omega];rfl
def BN (w:Wf g):Vg val (dg (yX::l7) g) g.code.length=aa yX:=afp (i:=0) w rfl
def xW (i:cK) (k m:ac) (w:Wf g):lE (dk i k m g).fix g.code.length=aa ⟨(g.code.length:ac),k,m⟩:=by have:=afo w;unfold lE at this ⊢;rw [show (dk i k m g).fix=g.fix++[⟨(g.code.length:ac),k,m⟩] from rfl,MR,this];simp
def xX (i:cK) (k m:ac):(dk i k m g).code[g.code.length]? = aa i:=by simp [dk]
def Ut {i:cK} {k m:ac} (w:Wf g):Vg val (dk i k m g) g.code.length=aa ⟨i.op,val ⟨(g.code.length:ac),k,m⟩ i.a,i.b⟩:=by unfold Vg;rw [xX,xW i k m w];rfl
def xY {i:cK} {f:ho} (c:g.code[n]? = aa i) (d:lE g.fix n=aa f):Vg val (eT n g) n=aa ⟨i.op,val f (g.code.length:ac),i.b⟩:=by unfold Vg;rw [show (eT n g).code=g.code.modify n λi=>{ i with a:=(g.code.length:ac) } from rfl,vp,c,show (eT n g).fix=g.fix from rfl,d];simp
end
structure BO (val:Vl) (b:Z) (dm:ac->ac) (pm:ac->ac->Z) (kn:I e7):Prop where
 j:∀(at_ a:ac),val ⟨at_,1,0⟩ a=a+b
 p:∀{at_ m pl n:ac},k4 kn m pl n=ad->val ⟨at_,2,m⟩ pl=(pm m pl:Z)
 d:∀{at_ m pl n:ac},ls kn m pl n=ad->0<=n->val ⟨at_,3,m⟩ pl=pl+dm m
def Hc (C:I ce) (b:Z) (val:Vl) (g:Gs) (lo hi:Z):Prop:=∀p,lo<=p->p<hi->C[b+p]? = (Vg val g p).map gm
section
variable {C:I ce} {b:Z} {val:Vl} {dm:ac->ac} {pm:ac->ac->Z} {kn:I e7} {U:Z} {Pk:ac->ac->Prop}
variable {dq:Gs}
def Hc.to {lo hi a c:Z} (h:Hc C b val dq lo hi) (d:lo<=a) (f:c<=hi) (e:∀p,a<=p->p<c->Vg val dq p=Vg val dH p):Hc C b val dH a c:=λp a1 a2=>by rw [h p ai ai,e p a1 a2]
def Hc.ex {lo hi a:Z} (h:Hc C b val dq lo hi) (x:Ex dH dq) (c:lo<=a) (d:dH.code.length<=hi):Hc C b val dH a dH.code.length:=h.to c d λp _ a2=>l6 x a2
def Hc.at {lo hi p:Z} {i:cK} (h:Hc C b val dH lo hi) (c:lo<=p) (d:p<hi) (e:Vg val dH p=aa i):e0 C (b+p) i.op i.a i.b:=by unfold e0;rw [h p c d,e];rfl
def Gc (C:I ce) (b:Z) (val:Vl) (k:Gk) (r:Cr):Prop:=∀g,Wf g->Ex g (k g)/\(Hc C b val (k g) g.code.length (k g).code.length->r (b+g.code.length) (b+(k g).code.length))
def Uu:∀{ks:I Gk} {rs:I Cr},ks.length=rs.length->(∀(i:Z) k r,ks[i]? = aa k->rs[i]? = aa r->Gc C b val k r)->Gc C b val (oG ks) (tZ rs)| [],[],_,_=>λg w=>⟨.refl g,λ_=>rfl⟩| [],_::_,h,_=>by cases h| _::_,[],h,_=>by cases h| k::ks,r::rs,h,d=>λg w=>by obtain ⟨a1,a2⟩:=d 0 k r rfl rfl g w;obtain ⟨c,e⟩:=Uu (ks:=ks) (rs:=rs) (by simpa using h) (λi k r f j=>d (i+1) k r (by simpa using f) (by simpa using j)) (k g)<|a1.wf w;refine ⟨a1.trans c,λa=>?_⟩;have a:Hc C b val (oG ks<|k g) g.code.length (oG ks<|k g).code.length:=a;exact ⟨_,a2<|a.ex c (c7 _) c.lo,e<|a.to a1.lo (c7 _) λ_ _ _=>rfl⟩
variable {rK:Cr}
def q5 {op a c:ac}  (d:∀p,e0 C p op a c->rK p (p+1)):Gc C b val (dg [⟨op,a,c⟩]) rK:=λg w=>⟨BM _ g,λf=>by
 have e:(dg [⟨op,a,c⟩] g).code.length=g.code.length+1:=by simp [dg]
 have:=f.at (p:=g.code.length) (c7 _) ai<|BN w;rw [e];exact d _ this⟩
def BP {op a c d:ac} {k m:ac}  (hv:∀at_,val ⟨at_,k,m⟩ a=d) (f:∀p,e0 C p op d c->rK p (p+1)):Gc C b val (dk ⟨op,a,c⟩ k m) rK:=λg w=>⟨kE _ k m g,λh=>by have e:(dk ⟨op,a,c⟩ k m g).code.length=g.code.length+1:=eX _ k m g;have:=h.at (p:=g.code.length) (c7 _) ai<|Ut w;rw [hv] at this;rw [e];exact f _ this⟩
def oi {k1 k2:Gk} {r1 r2 r:Cr} (d:Gc C b val k1 r1) (e:Gc C b val k2 r2) (f:∀p t q,r1 p t->r2 t q->r p q):Gc C b val (λg=>k2<|k1 g) r:=λg w=>by obtain ⟨a1,a2⟩:=d g w;obtain ⟨a,h⟩:=e (k1 g)<|a1.wf w;exact ⟨a1.trans a,λc=>f _ _ _ (a2<|c.ex a (c7 _) a.lo)<|h<|c.to a1.lo (c7 _) λ_ _ _=>rfl⟩
variable {l5:Cr}
def Gc.imp {k:Gk}  (h:Gc C b val k rK) (a:∀p q,rK p q->l5 p q):Gc C b val k l5:=λg w=>⟨(h g w).1,λc=>a _ _<|(h g w).2 c⟩
def xZ {n:Z} (h:Ex dH dq) (b:dH.code.length<=n):Ex dH<|eT n dq:=⟨by rw [hl];exact h.lo,λp a=>by rw [Eg ai];exact h.code p a,h.fix,λw=>HA n<|h.wf w⟩
def afq (hv:∀at_ a:ac,val ⟨at_,1,0⟩ a=a+b) {q k1:Gk}  (E:Gc C b val q rK) (F:Gc C b val k1 l5):Gc C b val (xc q k1)<|Ug C rK l5:=λg w=>by
 unfold xc;dsimp only;obtain ⟨n,G⟩:=E g w;generalize W:q g=c at *;have r:=n.wf w;have s:Ex c<|dk ⟨12,0,0⟩ 1 0 c:=kE _ _ _ _;obtain ⟨t,H⟩:=F (dk ⟨12,0,0⟩ 1 0 c)<|s.wf r;have c2:(dk ⟨12,0,0⟩ 1 0 c).code[c.code.length]? = aa ⟨12,0,0⟩:=xX _ _ _;have J:=xW ⟨12,0,0⟩ 1 0 r;have K:=eX ⟨12,0,0⟩ 1 0 c;generalize X:dk ⟨12,0,0⟩ 1 0 c=A at *;generalize Y:k1 A=e at *;have ab:=t.lo;have L:=s.wf r;have wk:=t.wf L;have u:Ex e<|dg [⟨22,0,0⟩] e:=BM _ _;have M:Vg val (dg [⟨22,0,0⟩] e) e.code.length=aa ⟨22,0,0⟩:=BN wk;have ae:(dg [⟨22,0,0⟩] e).code.length=e.code.length+1:=by simp [dg]
 generalize af:dg [⟨22,0,0⟩] e=d at *;have B:=u.wf wk;have o:Ex d<|dk ⟨11,0,0⟩ 1 0 d:=kE _ _ _ _;have c4:(dk ⟨11,0,0⟩ 1 0 d).code[d.code.length]? = aa ⟨11,0,0⟩:=xX _ _ _;have N:=xW ⟨11,0,0⟩ 1 0 B;have ag:=eX ⟨11,0,0⟩ 1 0 d;generalize ah:dk ⟨11,0,0⟩ 1 0 d=f at *;have O:=o.wf B;have v:Ex A f:=t.trans<|u.trans o;have a1:Vg val (eT c.code.length f) c.code.length=aa ⟨12,(f.code.length:ac)+b,0⟩:=by rw [xY (i:=⟨12,0,0⟩) (by rw [v.code _ ai];exact c2) (by rw [v.fix _ ai];exact J),hv]
 have aj:=hl c.code.length f;have P:=HA c.code.length O;have x:∀p,p≠c.code.length->Vg val (eT c.code.length f) p=Vg val f p:=λp y=>xV y;have Q:(eT c.code.length f).code[d.code.length]? = aa ⟨11,0,0⟩:=by rw [Eg ai];exact c4
 have R:lE (eT c.code.length f).fix d.code.length=_:=N;have D:Ex c f:=s.trans v;have S:Ex g<|eT c.code.length f:=xZ (n.trans D) n.lo;generalize ak:eT c.code.length f=h at *;have j:Ex h<|dg [⟨1,0,0⟩] h:=BM _ _;have v6:Vg val (dg [⟨1,0,0⟩] h) h.code.length=aa ⟨1,0,0⟩:=BN P;have al:(dg [⟨1,0,0⟩] h).code.length=h.code.length+1:=by simp [dg]
 generalize ap:dg [⟨1,0,0⟩] h=l at *;have T:Vg val (eT d.code.length l) d.code.length=aa ⟨11,(l.code.length:ac)+b,0⟩:=by rw [xY (i:=⟨11,0,0⟩) (by rw [j.code _ ai];exact Q) (by rw [j.fix _ ai];exact R),hv]
 have U:=n.lo;refine ⟨xZ (S.trans j) ai,λk=>?_⟩;rw [hl] at k ⊢;have m:∀p,p≠d.code.length->Vg val (eT d.code.length l) p=Vg val l p:=λp y=>xV y;refine ⟨b+c.code.length,b+e.code.length,G<|k.to (c7 _) ai λp V z=>?_,?_,?_,?_,?_,?_,ai⟩;·rw [m p ai,l6 j ai,x p ai,l6 D z]
 ·have:=k.at (p:=c.code.length) U ai<|(m _ ai).trans<|(l6 j ai).trans a1;rw [show (((b+e.code.length+2:Z):ac))=(f.code.length:ac)+b by omega];exact this
 ·have:=H (k.to ai ai λp V z=>by rw [m p ai,l6 j ai,x p ai,l6 (u.trans o) z]);rw [K] at this;exact this
 ·exact k.at (p:=e.code.length) ai ai<|(m _ ai).trans<|(l6 j ai).trans<|(x _ ai).trans<|(l6 o ai).trans M
 ·have:=k.at (p:=d.code.length) ai ai T;rw [show (((b+e.code.length+3:Z):ac))=(l.code.length:ac)+b by omega,show b+e.code.length+1=b+d.code.length by omega];exact this
 ·have:=k.at (p:=h.code.length) ai ai<|(m _ ai).trans v6;rw [show b+e.code.length+2=b+h.code.length by omega];exact this
end
section
variable {C:I ce} {b:Z} {val:Vl} {dm:ac->ac} {pm:ac->ac->Z} {kn:I e7} {U:Z} {Pk:ac->ac->Prop}
variable {n' ek:Gk} {rK l5:Cr}
def afr (hv:∀at_ a:ac,val ⟨at_,1,0⟩ a=a+b)   (F:Gc C b val n' rK) (G:Gc C b val ek l5):Gc C b val (xd n' ek)<|Uh C rK l5:=λg w=>by
 unfold xd;dsimp only;obtain ⟨o,H⟩:=F g w;generalize U:n' g=c at *;have J:=o.lo;have v:=o.wf w;have x:Ex c<|dk ⟨12,0,0⟩ 1 0 c:=kE _ _ _ _;have c2:(dk ⟨12,0,0⟩ 1 0 c).code[c.code.length]? = aa ⟨12,0,0⟩:=xX _ _ _;have K:=xW ⟨12,0,0⟩ 1 0 v;have V:=eX ⟨12,0,0⟩ 1 0 c;generalize W:dk ⟨12,0,0⟩ 1 0 c=h at *;have y:=x.wf v;have q:Ex h<|dg [⟨1,1,0⟩] h:=BM _ _;have L:Vg val (dg [⟨1,1,0⟩] h) h.code.length=aa ⟨1,1,0⟩:=BN y;have X:(dg [⟨1,1,0⟩] h).code.length=h.code.length+1:=by simp [dg]
 generalize Y:dg [⟨1,1,0⟩] h=d at *;have z:=q.wf y;have m:Ex d<|dk ⟨11,0,0⟩ 1 0 d:=kE _ _ _ _;have c4:(dk ⟨11,0,0⟩ 1 0 d).code[d.code.length]? = aa ⟨11,0,0⟩:=xX _ _ _;have M:=xW ⟨11,0,0⟩ 1 0 z;have ab:=eX ⟨11,0,0⟩ 1 0 d;generalize ae:dk ⟨11,0,0⟩ 1 0 d=e at *;have N:=m.wf z;have a1:Vg val (eT c.code.length e) c.code.length=aa ⟨12,(e.code.length:ac)+b,0⟩:=by rw [xY (i:=⟨12,0,0⟩) (by rw [m.code _ ai,q.code _ ai];exact c2) (by rw [m.fix _ ai,q.fix _ ai];exact K),hv]
 have af:=hl c.code.length e;have A:=HA c.code.length N;have B:∀p,p≠c.code.length->Vg val (eT c.code.length e) p=Vg val e p:=λp s=>xV s;have O:(eT c.code.length e).code[d.code.length]? = aa ⟨11,0,0⟩:=by rw [Eg ai];exact c4
 have P:lE (eT c.code.length e).fix d.code.length=_:=M;have D:Ex c e:=x.trans<|q.trans m;have Q:Ex g<|eT c.code.length e:=xZ (o.trans D) o.lo;generalize ag:eT c.code.length e=r at *;obtain ⟨t,R⟩:=G r A;generalize ah:ek r=f at *;have aj:=t.lo;have wk:=t.wf A;have E:Ex f<|dg [⟨22,0,0⟩] f:=BM _ _;have v6:Vg val (dg [⟨22,0,0⟩] f) f.code.length=aa ⟨22,0,0⟩:=BN wk;have ak:(dg [⟨22,0,0⟩] f).code.length=f.code.length+1:=by simp [dg]
 generalize al:dg [⟨22,0,0⟩] f=k at *;have l:Ex r k:=t.trans E;have S:Vg val (eT d.code.length k) d.code.length=aa ⟨11,(k.code.length:ac)+b,0⟩:=by rw [xY (i:=⟨11,0,0⟩) (by rw [l.code _ ai];exact O) (by rw [l.fix _ ai];exact P),hv]
 refine ⟨xZ (Q.trans l) ai,λj=>?_⟩;rw [hl] at j ⊢;have n:∀p,p≠d.code.length->Vg val (eT d.code.length k) p=Vg val k p:=λp s=>xV s;refine ⟨b+c.code.length,b+f.code.length,H<|j.to (c7 _) ai λp T u=>?_,?_,?_,?_,?_,?_,ai⟩;·rw [n p ai,l6 l ai,B p ai,l6 D u]
 ·have:=j.at (p:=c.code.length) J ai<|(n _ ai).trans<|(l6 l ai).trans a1;rw [show (((b+c.code.length+3:Z):ac))=(e.code.length:ac)+b by omega];exact this
 ·have:=j.at (p:=h.code.length) ai ai<|(n _ ai).trans<|(l6 l ai).trans<|(B _ ai).trans<|(l6 m ai).trans L;rw [show b+c.code.length+1=b+h.code.length by omega];exact this
 ·have:=j.at (p:=d.code.length) ai ai S;rw [show (((b+f.code.length+1:Z):ac))=(k.code.length:ac)+b by omega,show b+c.code.length+2=b+d.code.length by omega];exact this
 ·have:=R (j.to ai ai λp T u=>by rw [n p ai,l6 E u]);rw [show b+c.code.length+3=b+r.code.length by omega];exact this
 ·exact j.at (p:=f.code.length) ai ai<|(n _ ai).trans v6
def afs (hv:∀at_ a:ac,val ⟨at_,1,0⟩ a=a+b) {v body other:Gk} {z A B:Cr}  (N:Gc C b val v z) (P:Gc C b val body A) (Q:Gc C b val other B):Gc C b val (vM v body other bE)<|Ui C z A B bE:=λg w=>by
 unfold vM;dsimp only;obtain ⟨l,D⟩:=N g w;generalize ab:v g=c at *;have E:=l.lo;have F:=l.wf w;have x:Ex c<|dk ⟨12,0,0⟩ 1 0 c:=kE _ _ _ _;have c2:(dk ⟨12,0,0⟩ 1 0 c).code[c.code.length]? = aa ⟨12,0,0⟩:=xX _ _ _;have G:=xW ⟨12,0,0⟩ 1 0 F;have ae:=eX ⟨12,0,0⟩ 1 0 c;generalize af:dk ⟨12,0,0⟩ 1 0 c=r at *;have H:=x.wf F;obtain ⟨h,J⟩:=P r H;generalize ag:body r=d at *;have ah:=h.lo;have K:=h.wf H;by_cases s:0<bE
 ·rw [aD s];have n:Ex d<|dk ⟨11,0,0⟩ 1 0 d:=kE _ _ _ _;have c4:(dk ⟨11,0,0⟩ 1 0 d).code[d.code.length]? = aa ⟨11,0,0⟩:=xX _ _ _;have R:=xW ⟨11,0,0⟩ 1 0 K;have ak:=eX ⟨11,0,0⟩ 1 0 d;generalize al:dk ⟨11,0,0⟩ 1 0 d=e at *;have S:=n.wf K;have a1:Vg val (eT c.code.length e) c.code.length=aa ⟨12,(e.code.length:ac)+b,0⟩:=by rw [xY (i:=⟨12,0,0⟩) (by rw [n.code _ ai,h.code _ ai];exact c2) (by rw [n.fix _ ai,h.fix _ ai];exact G),hv]
  have ap:=hl c.code.length e;have T:=HA c.code.length S;have o:∀p,p≠c.code.length->Vg val (eT c.code.length e) p=Vg val e p:=λp q=>xV q;have U:(eT c.code.length e).code[d.code.length]? = aa ⟨11,0,0⟩:=by rw [Eg ai];exact c4
  have V:lE (eT c.code.length e).fix d.code.length=_:=R;have L:Ex c e:=x.trans<|h.trans n;have W:Ex g<|eT c.code.length e:=xZ (l.trans L) l.lo;generalize au:eT c.code.length e=y at *;obtain ⟨j,X⟩:=Q y T;generalize av:other y=m at *;have aw:=j.lo;have Y:Vg val (eT d.code.length m) d.code.length=aa ⟨11,(m.code.length:ac)+b,0⟩:=by rw [xY (i:=⟨11,0,0⟩) (by rw [j.code _ ai];exact U) (by rw [j.fix _ ai];exact V),hv]
  refine ⟨xZ (W.trans j) ai,λf=>?_⟩;rw [hl] at f ⊢;have t:∀p,p≠d.code.length->Vg val (eT d.code.length m) p=Vg val m p:=λp q=>xV q;refine ⟨b+c.code.length,b+d.code.length,D<|f.to (c7 _) ai λp u k=>?_,?_,?_⟩;·rw [t p ai,l6 j ai,o p ai,l6 L k]
  ·have:=J (f.to ai ai λp u k=>by rw [t p ai,l6 j ai,o p ai,l6 n k]);rw [show b+c.code.length+1=b+r.code.length by omega];exact this
  ·rw [aD s];refine ⟨?_,?_,?_⟩;·have:=f.at (p:=c.code.length) E ai<|(t _ ai).trans<|(l6 j ai).trans a1;rw [show (((b+d.code.length+1:Z):ac))=(e.code.length:ac)+b by omega];exact this
   ·have:=f.at (p:=d.code.length) ai ai Y;rw [show (((b+m.code.length:Z):ac))=(m.code.length:ac)+b by omega];exact this
   ·have:=X (f.to ai ai λp u k=>by rw [t p ai]);rw [show b+d.code.length+1=b+y.code.length by omega];exact this
 ·rw [aj s];have a1:Vg val (eT c.code.length d) c.code.length=aa ⟨12,(d.code.length:ac)+b,0⟩:=by rw [xY (i:=⟨12,0,0⟩) (by rw [h.code _ ai];exact c2) (by rw [h.fix _ ai];exact G),hv]
  have M:Ex c d:=x.trans h;refine ⟨xZ (l.trans M) l.lo,λf=>?_⟩;rw [hl] at f ⊢;have o:∀p,p≠c.code.length->Vg val (eT c.code.length d) p=Vg val d p:=λp q=>xV q;refine ⟨b+c.code.length,b+d.code.length,D<|f.to (c7 _) ai λp u k=>?_,?_,?_⟩;·rw [o p ai,l6 M k]
  ·have:=J (f.to ai ai λp u k=>by rw [o p ai]);rw [show b+c.code.length+1=b+r.code.length by omega];exact this
  ·rw [aj s];have:=f.at (p:=c.code.length) E ai a1;rw [show (((b+d.code.length:Z):ac))=(d.code.length:ac)+b by omega];exact ⟨this,O⟩
def aft (hv:∀at_ a:ac,val ⟨at_,1,0⟩ a=a+b)   (B:Gc C b val n' rK) (D:Gc C b val ek l5):Gc C b val (yR n' ek)<|Uj C rK l5:=λg w=>by
 unfold yR;dsimp only;obtain ⟨j,E⟩:=B g w;generalize N:n' g=c at *;have F:=j.lo;have t:=j.wf w;have u:Ex c<|dk ⟨12,0,0⟩ 1 0 c:=kE _ _ _ _;have c2:(dk ⟨12,0,0⟩ 1 0 c).code[c.code.length]? = aa ⟨12,0,0⟩:=xX _ _ _;have G:=xW ⟨12,0,0⟩ 1 0 t;have O:=eX ⟨12,0,0⟩ 1 0 c;generalize P:dk ⟨12,0,0⟩ 1 0 c=d at *;have v:=u.wf t;have x:Ex d<|dg [⟨16,0,0⟩] d:=BM _ _;have H:Vg val (dg [⟨16,0,0⟩] d) d.code.length=aa ⟨16,0,0⟩:=BN v;have Q:(dg [⟨16,0,0⟩] d).code.length=d.code.length+1:=by simp [dg]
 generalize R:dg [⟨16,0,0⟩] d=o at *;have y:=x.wf v;obtain ⟨l,J⟩:=D o y;generalize S:ek o=f at *;have T:=l.lo;have K:=l.wf y;have q:Ex f<|dk ⟨11,(g.code.length:ac),0⟩ 1 0 f:=kE _ _ _ _;have z:=Ut (val:=val) (i:=⟨11,(g.code.length:ac),0⟩) (k:=1) (m:=0) K;have U:=eX ⟨11,(g.code.length:ac),0⟩ 1 0 f;rw [hv] at z;generalize V:dk ⟨11,(g.code.length:ac),0⟩ 1 0 f=e at *;have r:Ex d e:=x.trans<|l.trans q;have a1:Vg val (eT c.code.length e) c.code.length=aa ⟨12,(e.code.length:ac)+b,0⟩:=by rw [xY (i:=⟨12,0,0⟩) (by rw [r.code _ ai];exact c2) (by rw [r.fix _ ai];exact G),hv]
 have A:Ex c e:=u.trans r;refine ⟨xZ (j.trans A) j.lo,λh=>?_⟩;rw [hl] at h ⊢;have n:∀p,p≠c.code.length->Vg val (eT c.code.length e) p=Vg val e p:=λp L=>xV L;refine ⟨b+c.code.length,b+f.code.length,E<|h.to (c7 _) ai λp M s=>?_,?_,?_,?_,?_,ai⟩;·rw [n p ai,l6 A s]
 ·have:=h.at (p:=c.code.length) F ai a1;rw [show (((b+e.code.length:Z):ac))=(e.code.length:ac)+b by omega];exact this
 ·have:=h.at (p:=d.code.length) ai ai<|(n _ ai).trans<|(l6 (l.trans q) ai).trans H;rw [show b+c.code.length+1=b+d.code.length by omega];exact this
 ·have:=J (h.to ai ai λp M s=>by rw [n p ai,l6 q s]);rw [show b+c.code.length+2=b+o.code.length by omega];exact this
 ·have:=h.at (p:=f.code.length) ai ai<|(n _ ai).trans z;rw [show (((b+g.code.length:Z):ac))=(g.code.length:ac)+b by omega];exact this
variable {jX:I eC}
def oH {y:eC} (h:jX[bE]? = aa y):hQ (e4 jX) bE=fk y:=by unfold hQ;rw [vL,fp,h];rfl
def HB (h:∀x ∈ jX,Gc C b val (fk x) (qo C dm pm x)):Gc C b val (oG<|e4 jX)<|tZ<|kV C dm pm jX:=by refine Uu (by rw [vL,Hv];simp) λi k r c a=>?_;rw [vL,fp] at c;rw [Hv,fp] at a;obtain ⟨x,d,rfl⟩:=eQ.1 c;rw [d] at a;injection a with a;subst a;exact h x<|aW d
def Uv (E:BO val b dm pm kn) (aX:ac):∀(x:eC) (d:Z),k5 kn aX x d=ad->Gc C b val (fk x) (qo C dm pm x)
 | .mk op n m pl args,d,P=>by
  have M:=F4 P;have B:node1 kn aX op n m pl args.length=ad:=M.1;have Q:hZ kn aX args (d+1)=ad:=M.2;have f:=F1 B;have J:∀x ∈ args,Gc C b val (fk x) (qo C dm pm x):=λx N=>by obtain ⟨i,hi⟩:=jd N;exact Uv E aX x (d+1)<|mM Q hi
  have G:∀{i:Z} {y:eC},args[i]? = aa y->Gc C b val (hQ (e4 args) i) (mx (kV C dm pm args) i):=λh=>by rw [Hw h,oH h];exact J _<|aW h
  have R:fk (.mk op n m pl args)=im op n m pl (e4 args):=by funext g;rw [fk]
  rw [R,qo];have one:∀{k:Z},args.length=k->∀i,i<k->∃y,args[i]? = aa y:=λe i hi=>⟨_,cy ai⟩;unfold L8;have U:∀g,im op n m pl (e4 args) g=im op n m pl (e4 args) g:=λ_=>rfl;by_cases c:op=1
  ·have:im op n m pl (e4 args)=dg [⟨1,n,0⟩]:=by funext g;rw [im,aD c]
   rw [this];refine q5 λp o=>?_;rw [aD c];exact ⟨o,rfl⟩
  by_cases l:op=2
  ·have:im op n m pl (e4 args)=dg [⟨18,0,0⟩]:=by funext g;rw [im,aj c,aD l]
   rw [this];refine q5 λp o=>?_;rw [aj c,aD l];exact ⟨o,rfl⟩
  by_cases r:op=16
  ·have:im op n m pl (e4 args)=dg [⟨2,pl,0⟩]:=by funext g;rw [im,aj c,aj l,aD r]
   rw [this];refine q5 λp o=>?_;rw [aj c,aj l,aD r];exact ⟨o,rfl⟩
  by_cases u:op=3
  ·have:im op n m pl (e4 args)=dk ⟨4,pl,0⟩ 3 m:=by funext g;rw [im,aj c,aj l,aj r,aD u]
   rw [this];refine BP (λat_=>E.d (f.1 u) a8) λp o=>?_;rw [aj c,aj l,aj r,aD u];exact ⟨o,rfl⟩
  by_cases v:op=4
  ·have:im op n m pl (e4 args)=λg=>dg [⟨7,0,0⟩]<|dk ⟨6,pl,n⟩ 3 m<|hQ (e4 args) 0 g:=by funext g;rw [im,aj c,aj l,aj r,aj u,aD v]
   rw [this];have D:args.length=1:=by rw [v] at B;simp [node1] at B;omega
   obtain ⟨y,H⟩:=one D 0 ai;refine oi (r1:=λp q=>∃t,mx (kV C dm pm args) 0 p t/\e0 C t 6 (pl+dm m) n/\q=t+1) (r2:=λp q=>e0 C p 7 0 0/\q=p+1) (k1:=λg=>dk ⟨6,pl,n⟩ 3 m<|hQ (e4 args) 0 g) (k2:=dg [⟨7,0,0⟩]) (oi (r2:=λp q=>e0 C p 6 (pl+dm m) n/\q=p+1) (G H) (BP (λat_=>E.d (f.2.1 v).2 (by have:=(f.2.1 v).1;omega)) λp o=>⟨o,O⟩) λp t q a1 a2=>⟨t,a1,a2⟩) (q5 λp o=>⟨o,O⟩) λp t q a1 a2=>?_;obtain ⟨s,S,T,rfl⟩:=a1;rw [aj c,aj l,aj r,aj u,aD v];exact ⟨s,S,T,a2⟩
  by_cases w:op=5
  ·have:im op n m pl (e4 args)=λg=>dk ⟨13,pl,0⟩ 2 m<|oG (e4 args) g:=by funext g;rw [im,aj c,aj l,aj r,aj u,aj v,aD w]
   rw [this];refine oi (r2:=λp q=>e0 C p 13 (pm m pl:Z) 0/\q=p+1) (HB J) (BP (λat_=>E.p<|f.2.2.1 w) λp o=>⟨o,O⟩) λp t q a1 a2=>?_;rw [aj c,aj l,aj r,aj u,aj v,aD w];exact ⟨t,a1,a2⟩
  by_cases A:op=7
  ·have:im op n m pl (e4 args)=xc (hQ (e4 args) 0) (hQ (e4 args) 1):=by funext g;rw [im,aj c,aj l,aj r,aj u,aj v,aj w,aD A]
   rw [this];have D:args.length=2:=by rw [A] at B;simp [node1] at B;omega
   obtain ⟨y,H⟩:=one D 0 ai;obtain ⟨z,L⟩:=one D 1 ai;refine (afq E.j (G H)<|G L).imp λp q a=>?_;rw [aj c,aj l,aj r,aj u,aj v,aj w,aj ai,aD A];exact a
  by_cases F:op=8
  ·have:im op n m pl (e4 args)=xd (hQ (e4 args) 0) (hQ (e4 args) 1):=by funext g;rw [im,aj c,aj l,aj r,aj u,aj v,aj w,aj A,aD F]
   rw [this];have D:args.length=2:=by rw [F] at B;simp [node1] at B;omega
   obtain ⟨y,H⟩:=one D 0 ai;obtain ⟨z,L⟩:=one D 1 ai;refine (afr E.j (G H)<|G L).imp λp q a=>?_;rw [aj c,aj l,aj r,aj u,aj v,aj w,aj ai,aj A,aD F];exact a
  by_cases K:op=6
  ·have:im op n m pl (e4 args)=λg=>dg [⟨9,0,0⟩]<|oG (e4 args) g:=by funext g;rw [im,aj c,aj l,aj r,aj u,aj v,aj w,aj A,aj F,aD K]
   rw [this];refine oi (r2:=λp q=>e0 C p 9 0 0/\q=p+1) (HB J) (q5 λp o=>⟨o,O⟩) λp t q a1 a2=>?_;rw [aj c,aj l,aj r,aj u,aj v,aj w,aD K];exact ⟨t,a1,a2⟩
  have:im op n m pl (e4 args)=λg=>dg [⟨10,op,0⟩]<|oG (e4 args) g:=by funext g;rw [im,aj c,aj l,aj r,aj u,aj v,aj w,aj A,aj F,aj K]
  rw [this];refine oi (r2:=λp q=>e0 C p 10 op 0/\q=p+1) (HB J) (q5 λp o=>⟨o,O⟩) λp t q a1 a2=>?_;rw [aj c,aj l,aj r,aj u,aj v,aj w,aj K,aj A,aj F];exact ⟨t,a1,a2⟩ termination_by x=>SizeOf.sizeOf x decreasing_by have V:=MQ N;simp only [eC.mk.sizeOf_spec];omega
end
section
variable {C:I ce} {b:Z} {val:Vl} {dm:ac->ac} {pm:ac->ac->Z} {kn:I e7} {U:Z} {Pk:ac->ac->Prop}
mutual
def afu (E:BO val b dm pm kn) (aX:ac):∀(x:et) (d:Z),lR kn aX x d=ad->Gc C b val (mf x) (Ec C dm pm x)
 | .mk op n m pl args body other,d,R=>by
  have M:=F5 R;have o:gC kn aX op n m pl args.length body.length other.length=ad:=M.1;have S:hZ kn aX args 1=ad:=M.2.1;have P:op=4\/op=5->g8 kn aX body (d+1)=ad:=M.2.2.1;have T:g8 kn aX other (d+1)=ad:=M.2.2.2;have N:=F2 o;have Q:∀x ∈ args,Gc C b val (fk x) (qo C dm pm x):=λx U=>by obtain ⟨i,hi⟩:=jd U;exact Uv E aX x 1<|mM S hi
  have F:∀{i:Z} {y:eC},args[i]? = aa y->Gc C b val (hQ (e4 args) i) (mx (kV C dm pm args) i):=λh=>by rw [Hw h,oH h];exact Q _<|aW h
  have one:∀{k:Z},args.length=k->∀i,i<k->∃y,args[i]? = aa y:=λe i hi=>⟨_,cy ai⟩;have V:mf (.mk op n m pl args body other)=jo op n m pl (e4 args) (λg=>ff body g) (λg=>ff other g) other.length:=by funext g;rw [mf]
  rw [V,Ec];unfold L9;by_cases c:op=1
  ·have v:args.length=1:=by rw [c] at o;simp [gC] at o;omega
   obtain ⟨y,A⟩:=one v 0 ai;obtain ⟨ab,W⟩:=N.1 c;by_cases H:m<0
   ·have:jo op n m pl (e4 args) (λg=>ff body g) (λg=>ff other g) other.length=λg=>dg [⟨3,pl,0⟩]<|hQ (e4 args) 0 g:=by funext g;rw [jo,aD c,aD H]
    rw [this];refine oi (r2:=λp q=>e0 C p 3 pl 0/\q=p+1) (F A) (q5 λp l=>⟨l,O⟩) λp t q a1 a2=>?_;rw [aD c];exact ⟨t,a1,by rw [aD H];exact a2.1,a2.2⟩
   ·have:jo op n m pl (e4 args) (λg=>ff body g) (λg=>ff other g) other.length=λg=>dk ⟨5,pl,0⟩ 3 m<|hQ (e4 args) 0 g:=by funext g;rw [jo,aD c,aj H]
    rw [this];refine oi (r2:=λp q=>e0 C p 5 (pl+dm m) 0/\q=p+1) (F A) (BP (λat_=>E.d (W H) a8) λp l=>⟨l,O⟩) λp t q a1 a2=>?_;rw [aD c];exact ⟨t,a1,by rw [aj H];exact a2.1,a2.2⟩
  by_cases f:op=2
  ·have v:args.length=2:=by rw [f] at o;simp [gC] at o;omega
   obtain ⟨y,A⟩:=one v 0 ai;obtain ⟨z,X⟩:=one v 1 ai;have:jo op n m pl (e4 args) (λg=>ff body g) (λg=>ff other g) other.length=λg=>dg [⟨8,0,0⟩]<|hQ (e4 args) 1<|dk ⟨6,pl,n⟩ 3 m<|hQ (e4 args) 0 g:=by funext g;rw [jo,aj c,aD f]
   rw [this];refine oi (k1:=λg=>hQ (e4 args) 1<|dk ⟨6,pl,n⟩ 3 m<|hQ (e4 args) 0 g) (k2:=dg [⟨8,0,0⟩]) (r1:=λp r=>∃t,mx (kV C dm pm args) 0 p t/\e0 C t 6 (pl+dm m) n/\mx (kV C dm pm args) 1 (t+1) r) (r2:=λp q=>e0 C p 8 0 0/\q=p+1) (oi (k1:=λg=>dk ⟨6,pl,n⟩ 3 m<|hQ (e4 args) 0 g) (r1:=λp q=>∃t,mx (kV C dm pm args) 0 p t/\e0 C t 6 (pl+dm m) n/\q=t+1) (oi (r2:=λp q=>e0 C p 6 (pl+dm m) n/\q=p+1) (F A) (BP (λat_=>E.d (N.2.1 f).2 (by have:=(N.2.1 f).1;omega)) λp l=>⟨l,O⟩) λp t q a1 a2=>⟨t,a1,a2⟩) (F X) λp t q a1 a2=>?_) (q5 λp l=>⟨l,O⟩) λp r q a1 a2=>?_;·obtain ⟨s,J,K,rfl⟩:=a1;exact ⟨s,J,K,a2⟩
   ·obtain ⟨s,J,K,Y⟩:=a1;rw [aj c,aD f];exact ⟨s,r,J,K,Y,a2⟩
  by_cases u:op=3
  ·have:jo op n m pl (e4 args) (λg=>ff body g) (λg=>ff other g) other.length=λg=>dg [⟨17,0,0⟩]<|dk ⟨13,pl,0⟩ 2 m<|oG (e4 args) g:=by funext g;rw [jo,aj c,aj f,aD u]
   rw [this];refine oi (k1:=λg=>dk ⟨13,pl,0⟩ 2 m<|oG (e4 args) g) (k2:=dg [⟨17,0,0⟩]) (r1:=λp q=>∃t,tZ (kV C dm pm args) p t/\e0 C t 13 (pm m pl:Z) 0/\q=t+1) (r2:=λp q=>e0 C p 17 0 0/\q=p+1) (oi (r2:=λp q=>e0 C p 13 (pm m pl:Z) 0/\q=p+1) (HB Q) (BP (λat_=>E.p<|N.2.2 u) λp l=>⟨l,O⟩) λp t q a1 a2=>⟨t,a1,a2⟩) (q5 λp l=>⟨l,O⟩) λp t q a1 a2=>?_;obtain ⟨s,J,K,rfl⟩:=a1;rw [aj c,aj f,aD u];exact ⟨s,J,K,a2⟩
  by_cases B:op=4
  ·have v:args.length=1:=by rw [B] at o;simp [gC] at o;omega
   obtain ⟨y,A⟩:=one v 0 ai;have:jo op n m pl (e4 args) (λg=>ff body g) (λg=>ff other g) other.length=vM (hQ (e4 args) 0) (λg=>ff body g) (λg=>ff other g) other.length:=by funext g;rw [jo,aj c,aj f,aj u,aD B]
   rw [this];refine (afs E.j (F A) (Eh E aX body (d+1)<|P<|bB B)<|Eh E aX other (d+1) T).imp λp q a=>?_;rw [aj c,aj f,aj u,aD B];exact a
  by_cases D:op=5
  ·have v:args.length=1:=by rw [D] at o;simp [gC] at o;omega
   obtain ⟨y,A⟩:=one v 0 ai;have:jo op n m pl (e4 args) (λg=>ff body g) (λg=>ff other g) other.length=yR (hQ (e4 args) 0) (λg=>ff body g):=by funext g;rw [jo,aj c,aj f,aj u,aj B,aD D]
   rw [this];refine (aft E.j (F A)<|Eh E aX body (d+1)<|P<|be D).imp λp q a=>?_;rw [aj c,aj f,aj u,aj B,aD D];exact a
  by_cases G:op=6
  ·have v:args.length=1:=by rw [G] at o;simp [gC] at o;omega
   obtain ⟨y,A⟩:=one v 0 ai;have:jo op n m pl (e4 args) (λg=>ff body g) (λg=>ff other g) other.length=λg=>dg [⟨15,0,0⟩]<|hQ (e4 args) 0 g:=by funext g;rw [jo,aj c,aj f,aj u,aj B,aj D,aD G]
   rw [this];refine oi (r2:=λp q=>e0 C p 15 0 0/\q=p+1) (F A) (q5 λp l=>⟨l,O⟩) λp t q a1 a2=>?_;rw [aj c,aj f,aj u,aj B,aj D,aD G];exact ⟨t,a1,a2⟩
  by_cases L:op=7
  ·have v:args.length=1:=by rw [L] at o;simp [gC] at o;omega
   obtain ⟨y,A⟩:=one v 0 ai;have:jo op n m pl (e4 args) (λg=>ff body g) (λg=>ff other g) other.length=λg=>dg [⟨19,0,0⟩]<|hQ (e4 args) 0 g:=by funext g;rw [jo,aj c,aj f,aj u,aj B,aj D,aj G,aD L]
   rw [this];refine oi (r2:=λp q=>e0 C p 19 0 0/\q=p+1) (F A) (q5 λp l=>⟨l,O⟩) λp t q a1 a2=>?_;rw [aj c,aj f,aj u,aj B,aj D,aj G,aD L];exact ⟨t,a1,a2⟩
  have:jo op n m pl (e4 args) (λg=>ff body g) (λg=>ff other g) other.length=λg=>g:=by funext g;rw [jo,aj c,aj f,aj u,aj B,aj D,aj G,aj L]
  rw [this];refine λg w=>⟨.refl g,λ_=>?_⟩;dsimp only;rw [aj c,aj f,aj u,aj B,aj D,aj G,aj L]
def Eh (a:BO val b dm pm kn) (aX:ac):∀(l:I et) (d:Z),g8 kn aX l d=ad->Gc C b val (λg=>ff l g) (s0 C dm pm l)
 | [],d,_=>λg w=>by
  have e:(λg=>ff [] g)=λg:Gs=>g:=by funext g;rw [ff]
  rw [e,s0];exact ⟨.refl g,λ_=>rfl⟩
 | x::r,d,c=>by
  rw [g8] at c;obtain ⟨f,h⟩:=bz.1 c;have e:(λg=>ff (x::r) g)=λg=>(λg=>ff r g)<|mf x g:=by funext g;rw [ff]
  rw [e,s0];exact oi (afu a aX x d f) (Eh a aX r d h) λp t q a1 a2=>⟨t,a1,a2⟩
end
def Uw (c:BO val b dm pm kn) {aX:ac} {body:I et} {d:Z} (h:g8 kn aX body d=ad) (pa lo:ac):Gc C b val (kL pa lo body)<|xU C dm pm pa lo body:=by
 have e:kL pa lo body=λg=>dg [⟨15,0,0⟩]<|dg [⟨1,0,0⟩]<|(λg=>ff body g)<|dg [⟨14,pa,lo⟩] g:=by funext g;show dg [⟨1,0,0⟩,⟨15,0,0⟩] (ff body<|dg [⟨14,pa,lo⟩] g)=_;simp [dg]
 rw [e];refine oi (k1:=λg=>dg [⟨1,0,0⟩]<|(λg=>ff body g)<|dg [⟨14,pa,lo⟩] g) (k2:=dg [⟨15,0,0⟩]) (r1:=λp q=>∃t,e0 C p 14 pa lo/\s0 C dm pm body (p+1) t/\e0 C t 1 0 0/\q=t+1) (r2:=λp q=>e0 C p 15 0 0/\q=p+1) (oi (k1:=λg=>(λg=>ff body g)<|dg [⟨14,pa,lo⟩] g) (k2:=dg [⟨1,0,0⟩]) (r1:=λp t=>e0 C p 14 pa lo/\s0 C dm pm body (p+1) t) (r2:=λp q=>e0 C p 1 0 0/\q=p+1) (oi (k1:=dg [⟨14,pa,lo⟩]) (r1:=λp q=>e0 C p 14 pa lo/\q=p+1) (q5 λp a=>⟨a,O⟩) (Eh c aX body d h) λp t q a1 a2=>⟨a1.1,by rw [<-a1.2];exact a2⟩) (q5 λp a=>⟨a,O⟩) λp t q a1 a2=>⟨t,a1.1,a1.2,a2⟩) (q5 λp a=>⟨a,O⟩) λp t q a1 a2=>?_;obtain ⟨s,f,i,j,rfl⟩:=a1;exact ⟨s,f,i,j,a2⟩
def Ux (f:BO val b dm pm kn):∀(l:I b3),(∀p ∈ l,∃aX d,g8 kn aX p.body d=ad)->∀g,Wf g->Ex g (fC l g).2/\(Hc C b val (fC l g).2 g.code.length (fC l g).2.code.length->∀{q:Z} {p:b3},l[q]? = aa p->∃s,(fC l g).1[q]? = aa s/\∃q',xU C dm pm p.params p.locals p.body (b+s) q')| [],_,g,w=>⟨.refl g,λ_ q p h=>by simp at h⟩| x::r,i,g,w=>by obtain ⟨aX,d,h⟩:=i x aK;obtain ⟨a1,a2⟩:=Uw (C:=C) (b:=b) f h x.params x.locals g w;obtain ⟨c,j⟩:=Ux f r (λp k=>i p (by simp [k])) (kL x.params x.locals x.body g)<|a1.wf w;rw [fC];refine ⟨a1.trans c,λa q p e=>?_⟩;have a:Hc C b val (fC r<|kL x.params x.locals x.body g).2 g.code.length (fC r<|kL x.params x.locals x.body g).2.code.length:=a;cases q with| zero=>simp at e;subst e;exact ⟨g.code.length,O,_,a2<|a.ex c (c7 _) c.lo⟩| succ q=>exact j (a.to a1.lo (c7 _) λ_ _ _=>rfl) (by simpa using e)
end
section
variable {l:I aI}
def zJ (a:lw l) {u:aI} (b:u ∈ l):ry u=ad:=YS (uJ.2 a) b
def Md (c:lw l) (d:∀u ∈ l,(bI u).2=0)  {o:dU} (h:(dI l)[bE]? = aa o):∃u,l[bE]? = aa u/\o=(fo u).to/\(fo u).g.code.length<=2048:=by unfold dI at h;rw [fp] at h;obtain ⟨u,a,rfl⟩:=eQ.1 h;have b:=aW a;obtain ⟨e,f⟩:=xD (zJ c b)<|d u b;exact ⟨u,a,by rw [e],f⟩
def HC (b:lw l) (c:∀u ∈ l,(bI u).2=0)  {u:aI} (h:l[bE]? = aa u):(dI l)[bE]? = aa (fo u).to:=by have a:=aW h;rw [RG h,(xD (zJ b a)<|c u a).1]
def Uy (b:lw l) (c:∀u ∈ l,(bI u).2=0):g0 (dI l)=fR l:=by unfold g0 dI fR;rw [zR];refine ya λu a=>?_;show (bI u).1.to.nm=u.nm;rw [(xD (zJ b a)<|c u a).1];rfl
def mo (a:lw l) (g:∀u ∈ l,(bI u).2=0)  {u:aI} (i:l[bE]? = aa u) {b j:Z} (h:(bE::u.aN.map λs=>(idxOf s (fR l) 0).getD 0)[b]? = aa j):h3 (dI l) bE (fo u).to b=j:=by unfold h3 qf;cases b with| zero=>simp at h;subst h;rfl| succ t=>rw [lh,fp] at h;obtain ⟨s,c,e⟩:=eQ.1 h;obtain ⟨p,z,d,m,n⟩:=FR a i<|aW c;rw [d] at e;simp at e;subst e;rw [show ((t+1:Z):ac).toNat=t+1 from rfl,lh,fp,show (fo u).to.aN=u.aN from rfl,c,a5,o1];unfold hA;rw [Uy a g];have f:=(se d).2;rw [qp] at f;rw [xR (k:=0) (j:=p) (a.nd.sublist<|MN _ _) (by rw [jF,aD m,f])];simp
def afv (a:lw l) (c:∀u ∈ l,(bI u).2=0) {n:Z} {u:aI} (b:l[n]? = aa u):jf (dI l) n=u.parts.length:=by unfold jf;rw [HC a c b];show ((fo u).ge.map λn:Z=>(n:ac)).length=_;rw [fB];exact (Gn<|zJ a<|aW b).fH
def afw (b:lw l) (h:∀u ∈ l,(bI u).2=0):Kd<|dI l:=by
 have w:=Uy b h;have t:=b.fH;refine ⟨by unfold dI;rw [fB];omega,λo v=>?_,by rw [w];exact b.nd,λn o m=>?_,λn o m f x=>?_⟩;·obtain ⟨n,m⟩:=jd v;obtain ⟨u,d,rfl,y⟩:=Md b h m;exact P_ (zJ b<|aW d) y
 ·obtain ⟨u,d,rfl,_⟩:=Md b h m;unfold uR;refine gA.2 λs A=>?_;obtain ⟨p,z,k1,k2,Q⟩:=FR b d<|show s ∈ u.aN from A;cases B:idxOf s ((g0<|dI l).take n) 0 with| some _=>rfl| none=>refine absurd ?_<|sd.1 B;rw [w];have t:=(se k1).2;rw [qp] at t;exact aW (i:=p) (by rw [jF,aD k2,t])
 ·obtain ⟨u,d,rfl,_⟩:=Md b h m;have v:=aW d;have C:=J9 (b.oF u v) (by simp [fV]) λk D hi=>by have:=(PY b u k D hi).2.1;omega
  obtain ⟨c,fx,a1,a2,_,a4,_⟩:=C.ap.more;have a2:(fo u).g.fix=fx:=by simpa using a2
  obtain ⟨p,i,E,F,_,G⟩:=a4 f (by rw [<-a2];exact x);have H:ko (fo u).to.code f.at_=i.a:=by show ko (fo u).g.code f.at_=_;unfold ko;rw [E,ku,F];rfl
  unfold sz;rcases G with ⟨e,_⟩ | ⟨e,_,c0,c1,c2,c3,J⟩;·rw [e];rfl
  ·rcases e with e | e;·obtain ⟨q,K⟩:=J e;obtain ⟨R,j,r,z,S,L,M,N,O,P,T,U⟩:=CH b 0 d K;rw [L,mo b h d N,afv b h O,H,M];have:=(cN.1 P).1;rw [tb ai];simp
   ·rw [e];rfl
end
variable {gw:I dU} {dv:dU}
def Uz {p:Z}:∀(fs:I ho) (c:I cK),fs.Pairwise (λa b=>a.at_<b.at_)->(∀f ∈ fs,0<=f.at_)->(ni gw bE dv c fs)[p]? = match lE fs p with| ao=>c[p]?| aa f=>(c[p]?).map λx=>⟨x.op,rI gw bE dv f,x.b⟩
 | [],c,_,_=>rfl
 | f::r,c,hp,j=>by
  have l:=j f aK;obtain ⟨k1,k2⟩:=EH.1 hp;show (ni gw bE dv (qg c f.at_.toNat<|rI gw bE dv f) r)[p]? = _;rw [Uz r _ k2 λg h=>j g (by simp [h])];by_cases e:f.at_=(p:ac)
  ·have k:lE r p=ao:=Hz λg h=>by have:=k1 g h;omega
   have i:lE (f::r) p=aa f:=by unfold lE;rw [MS,show (f.at_==(p:ac))=ad by simpa using e]
   rw [k,i,e,ku];dsimp only;cases d:c[p]? with| none=>unfold qg;rw [d];exact d| some x=>rw [Qu d];have:=(cN.1 d).1;rw [I.getElem?_set_self this];rfl
  ·have i:lE (f::r) p=lE r p:=by unfold lE;rw [MS,show (f.at_==(p:ac))=aq by simpa using e]
   rw [i,Qv _ ai]
def wF (l:I dU) (n:Z) (o:dU):Vl:=λf a=>if f.kind=1 then a+bw l n else if f.kind=2 then bw l (h3 l n o f.m)+A5 l (h3 l n o f.m) a else a+bK l (h3 l n o f.m)
def afx (d:A2 dv) (p:Z):(v_ gw bE dv)[p]? = Vg (wF gw bE dv) ⟨dv.code,dv.fix⟩ p:=by
 unfold v_ Vg;rw [Uz _ _ d.up λf c=>by obtain ⟨q,j,_⟩:=uQ (d.fix f c).1;omega];show _=(dv.code[p]?).map λi=>match lE dv.fix p with| ao=>i| aa f=>⟨i.op,wF gw bE dv f i.a,i.b⟩;cases c:lE dv.fix p with
 | none=>cases dv.code[p]?<;>rfl
 | some f=>
  have e:f.at_=(p:ac):=by have:=I.find?_some c;simpa using this
  cases g:dv.code[p]? with
  | none=>rfl
  | some x=>
   have h:ko dv.code f.at_=x.a:=by unfold ko;rw [e,ku,g];rfl
   show aa _=aa _;unfold rI wF;rw [h]
def nq (l:I dU) (n:Z):Z:=l.length+1+rH (l.take n)
def UA {l:I dU} {n:Z} {o:dU} (b:l[n]? = aa o) {p:Z} (f:p<o.code.length):∀k,n<k->k<=l.length->(iL l k)[nq l n+p]? = (v_ l n o)[p]?
 | 0,h,_=>by omega
 | k+1,h,j=>by
  obtain ⟨c,a⟩:∃c,l[k]? = aa c:=⟨_,cy (by omega)⟩;have g:(iL l k).length=nq l k:=by have:=Km (l:=l) (i:=k) (by omega);unfold bw at this;unfold nq;omega
  rw [Kn a];by_cases e:n=k;·subst e;rw [b] at a;injection a with a;subst a;rw [pH (by omega),g,zQ]
  ·have m:nq l n+o.code.length<=nq l k:=by
    have q:=vT b;have r:rH (l.take<|n+1)<=rH (l.take k):=by
     unfold rH;have:l.take k=l.take (n+1)++(l.take k).drop (n+1):=by have d:=(rZ (n+1)<|l.take k).symm;rw [H3,vn (by omega)] at d;exact d
     rw [this,qs,H8];omega
    unfold nq;omega
   rw [q9 (by omega)];exact UA b f k (by omega) (by omega)
def afy (a:gw[bE]? = aa dv)  (b:aL<dv.code.length):(jN gw)[nq gw bE+aL]? = (v_ gw bE dv)[aL]?:=by have:=(cN.1 a).1;exact UA a b gw.length this<|c7 _
def afz (a:gw[bE]? = aa dv):(jN gw)[bE]? = aa ⟨13,bw gw bE+dv.main,0⟩:=by have b:=(cN.1 a).1;unfold jN iL;rw [g2,q9 (by rw [y5];exact b)];unfold qT;rw [yg,a];rfl
def afA (l:I dU):(jN l)[l.length]? = aa ⟨20,0,0⟩:=by unfold jN iL;rw [g2,pH (by rw [y5];exact c7 _),y5,zV];rfl
def UB:∀{l:I aI} {s j b:Z},(∀u ∈ l,0<=u.data)->(jZ l s)[j]? = aa b->(b:ac)=s+((l.take j).map (·.data)).sum| [],s,j,b,_,h=>by simp [jZ] at h| u::r,s,0,b,_,h=>by simp [jZ] at h;subst h;simp| u::r,s,j+1,b,a,h=>by have c:=a u aK;have:=UB (l:=r) (s:=s+u.data.toNat) (j:=j) (λv hv=>a v (by simp [hv])) (by simpa [jZ] using h);rw [qq,nt,Ez];omega
section
variable {l:I aI}
def UC (l:I aI):(dI l).length=l.length:=by simp [dI]
def UD (b:lw l) (c:∀u ∈ l,(bI u).2=0) (j:Z):bK (dI l) j=((l.take j).map (·.data)).sum:=by unfold bK v9 dI;rw [<-I.map_take,zR];congr 1;refine ya λu d=>?_;have a:=BX d;show (bI u).1.to.data=u.data;rw [(xD (zJ b a)<|c u a).1];rfl
def UE (b:lw l):∀u ∈ l,0<=u.data:=by
 rcases JG b.data with h | h;·exact h.1
 ·intro u a;rw [h] at a;cases a
def UF:∀{l:I aI},(∀u ∈ l,0<=u.data)->(d' l:ac)=(l.map (·.data)).sum| [],_=>rfl| u::r,h=>by have a:=h u aK;have:=UF (l:=r) λv hv=>h v (by simp [hv]);rw [nt,Ez,d'];omega
def BQ (l:I aI) (j q:Z):Z:=nq (dI l) j+((l[j]?).bind λz=>(fo z).ge[q]?).getD 0
def Me (l:I aI) (j:Z):Z:=nq (dI l) j+((l[j]?).map λz=>(fo z).main).getD 0
def afB (c:lw l) (e:∀u ∈ l,(bI u).2=0) (L:Z) {n:Z} {u:aI} (f:l[n]? = aa u):BO (wF (dI l) n (fo u).to) (nq (dI l) n) (jt (av l L) n) (my (av l L) (BQ l) n)<|ec u::fV l u:=by
 refine ⟨λat_ a=>?_,fun {at_ m pl k} h=>?_,fun {at_ m pl k} h o=>?_⟩;·unfold wF;rw [aD rfl];unfold bw nq;omega
 ·obtain ⟨d,j,q,z,p,rfl,rfl,r,g,t,A,v⟩:=CH c L f h;have B:=(Gn<|zJ c<|aW g).fH;have C:=(cN.1 t).1;obtain ⟨s,w⟩:∃s,(fo z).ge[q]? = aa s:=⟨_,cy (by omega)⟩;unfold wF;rw [aj (show ¬(2:ac)=1 by decide),aD rfl];show bw (dI l) (h3 (dI l) n (fo u).to d)+A5 (dI l) (h3 (dI l) n (fo u).to d) q=_;rw [mo c e f r];unfold A5 my BQ;rw [HC c e g,v,g];show bw (dI l) j+(((fo z).ge.map λn:Z=>(n:ac))[((q:Z):ac).toNat]?).getD 0=((nq (dI l) j+((fo z).ge[((q:Z):ac).toNat]?).getD 0:Z):ac);rw [ku,fp,w];show bw (dI l) j+(s:ac)=((nq (dI l) j+s:Z):ac);unfold bw nq;omega
 ·obtain ⟨d,j,b,p,rfl,rfl,x,i,D,y,E⟩:=AF c L f h o;unfold wF;rw [aj (show ¬(3:ac)=1 by decide),aj (show ¬(3:ac)=2 by decide)];show (p:ac)+bK (dI l) (h3 (dI l) n (fo u).to d)=p+jt (av l L) n d;rw [mo c e f x,UD c e,<-If<|I.sum _];unfold jt;rw [y,show (av l L).g1=jZ l 0 from rfl,i];have:=UB (UE c) i;show _=(p:ac)+(b:ac);rw [this];rfl
def afC (b:lw l) (d:∀u ∈ l,(bI u).2=0) (L:Z):Hy ((jN<|dI l).map gm) l L (BQ l)<|Me l:=by
 have key:∀{j:Z} {z:aI},l[j]? = aa z->(∀{q:Z} {p:b3},z.parts[q]? = aa p->∃s,(fo z).ge[q]? = aa s/\∃q',xU ((jN<|dI l).map gm) (jt (av l L) j) (my (av l L) (BQ l) j) p.params p.locals p.body (nq (dI l) j+s) q')/\∃q',xU ((jN<|dI l).map gm) (jt (av l L) j) (my (av l L) (BQ l) j) 0 0 z.main (nq (dI l) j+(fo z).main) q':=by
  intro j z a;have n:=aW a;have e:=afB b d L a;obtain ⟨o,r,_⟩:=iD<|b.oF z n;have h:=HC b d a;have t:=(xv<|(afw b d).dt _<|aW h).2;have i:Wf ⟨[],[]⟩:=λf v=>by cases v
  obtain ⟨a1,a2⟩:=Ux (C:=(jN<|dI l).map gm) e z.parts (λp c=>⟨_,1,xf (yQ<|o p c).2.2.2.2⟩) ⟨[],[]⟩ i;obtain ⟨k,w⟩:=Uw (C:=(jN<|dI l).map gm) e (xf r) 0 0 (fC z.parts ⟨[],[]⟩).2<|a1.wf i;have m:Hc ((jN<|dI l).map gm) (nq (dI l) j) (wF (dI l) j (fo z).to) (fo z).g 0 (fo z).g.code.length:=λp _ c=>by rw [fp,afy h c,afx t];rfl
  have x:Hc ((jN<|dI l).map gm) (nq (dI l) j) (wF (dI l) j (fo z).to) (fC z.parts ⟨[],[]⟩).2 0 (fC z.parts ⟨[],[]⟩).2.code.length:=m.ex k (c7 _) k.lo;exact ⟨λy=>a2 x y,_,w<|m.to (dw _) (c7 _) λ_ _ _=>rfl⟩
 refine ⟨fun {j z q p} a c=>?_,fun {j z} a=>?_,fun {j} A=>?_,?_⟩;·obtain ⟨s,B,D⟩:=(key a).1 c;unfold BQ;rw [a];show ∃q',xU _ _ _ _ _ _ (nq (dI l) j+((fo z).ge[q]?).getD 0) q';rw [B];exact D
 ·unfold Me;rw [a];exact (key a).2
 ·obtain ⟨z,a⟩:=bk A;unfold e0 Me;rw [fp,afz<|HC b d a,a];show aa _=aa _;unfold gm bw nq;show aa (⟨13,_,0⟩:ce)=aa ⟨13,_,0⟩;congr 2
 ·unfold e0;rw [fp,<-UC l,afA];rfl
def afD (a:lw l) (b:∀u ∈ l,(bI u).2=0) (e:¬(2048<bw (dI l) (dI l).length\/512<bK (dI l) (dI l).length)) {L:Z} (hL:L<=2000) (bn:I ac) (c:k_ ((jN<|dI l).map gm) (bK (dI l) (dI l).length) bn L 134217728=0) : (gY ((jN<|dI l).map gm) (bK (dI l) (dI l).length) bn L 134217728).1=⟨(ny l bn L).fin,(ny l bn L).out,(ny l bn L).data,(ny l bn L).a0⟩/\(ny l bn L).fin≠6/\(ny l bn L).fin≠7:=by
 have d:bK (dI l) (dI l).length=(d' l:Z):=by rw [UD a b,UC,gH,UF<|UE a]
 rw [d] at c ⊢;have hC:((jN<|dI l).map gm).length<=2048:=by rw [fB];have:=QA<|dI l;omega
 exact afn a hL hC (afC a b L) bn c
end
end Go.Proofs.YtgeahfjicmlocaaGreatDoor.Mch
end
section
namespace Go.Bw
open Go Go.RowKit
section
variable {P:dJ} {Q:di->cY->aP->Prop} {n:Z} {ds:I fw} {l:I<|Z×aR} {W:aP->Prop}
def WC.scope {c:Code} (h:WC P c (di.noGoto Q) n ds l W):WC P (.scope c) Q n ds l W:=λa w b d=>wp_scope_straight<|h a w b d
def WC.label {i:Z} (h:WE Q .normal n ds l W):WC P (.label i) Q n ds l W:=λa w b c=>wp_label<|h a w b c
def WE.Mf (h:WE Q .ret n ds l W):WE (di.noGoto Q) .ret n ds l W:=h
end
section
variable {P:dJ} {l:I<|Z×aR} {W:aP->Prop} {ty:cn} {pos:fO} {af:bH fY} {g:aA<|Z×aS} {d:aA Tmp}
variable {bx eY:cn} {bo ck:ei} {bc ey:I ar}
def afE (b:b9 l bo=aa (st bc)) (c:b9 l ck=aa (st ey)):Yl P l W ⟨d,.binOp .lss bx bo ck eY,ty,pos,af,g⟩<|bW<|Op.bytesLess bc ey:= λe w a _=>by simp [execOp,a bo _ b,a ck _ c,st,eqGuard,binOp,Op.stringOp]
def afF (b:b9 l bo=aa (st bc)) (c:b9 l ck=aa (st ey)):Yl P l W ⟨d,.binOp .gtr bx bo ck eY,ty,pos,af,g⟩<|bW<|!(Op.bytesLess bc ey||bc==ey):= λe w a _=>by simp [execOp,a bo _ b,a ck _ c,st,eqGuard,binOp,Op.stringOp]
end
section
variable {P:dJ} {ops:bH cg} {cd:Code} {Q:di->cY->aP->Prop} {n:Z} {ds:I fw} {l:I<|Z×aR} {w0:aP} {F:I Z} {L:I bh} {Vs:I View} {rest:I cg}
variable {bE:Z} {a9:Obj}
def WL.HD (i:Z) (hL:L[i]? = aa (aQ bE a9)) (h:∀a:View,a bE=aa a9->WL P ops Q n ds l (Ws w0 F (gk i L)<|a::Vs) rest):WL P ops Q n ds l (Ws w0 F L Vs) rest:= WL.yp i hL<|h _ (by simp [bv])
def WC.HD (i:Z) (hL:L[i]? = aa (aQ bE a9)) (h:∀b:View,b bE=aa a9->WC P cd Q n ds l (Ws w0 F (gk i L)<|b::Vs)):WC P cd Q n ds l<|Ws w0 F L Vs:= λa w c d=>h _ (by simp [bv]) a w c<|d.yp i hL
end
end Go.Bw
end
section
namespace Go.Proofs.YtgeahfjicmlocaaGreatDoor
open Go.Bw Go.Proofs.Tryz
def x0 (ke ks:Z) (a:View) (b o:Z) (m:cV):Prop:=∃r:ox,cB a b o (b7 m r)/\oy ke ks a r m
structure UG where
 i:Z
 M:I<|fz<|I ar
 c:Z
variable {dh:I cV}
def afG (h:4<dh.length):me dh=2:=by rw [me,aD h]
variable {bE:Z} {bD:cV}
def afH (a:¬4<dh.length) (hi:dh[bE]? = aa bD) (b:∀x ∈ dh.take bE,jh x=0) (h:¬jh bD=0):me dh=jh bD:=by rw [me,aj a,Ay jh hi (sf.2 b) h,uu h]
def UH (a:¬4<dh.length) (b:∀x ∈ dh,jh x=0):me dh=if g6 (jl dh)=ad then 6 else if oY dh=ad then 0 else 5:=by rw [me,aj a,sf.2 b,oB]
def HE {α:Type} {l:I α}  {x:α} {p:α->Prop} (b:l[bE]? = aa x) (h:∀y ∈ l.take bE,p y) (c:p x):∀y ∈ l.take (bE+1),p y:=by
 intro y a;rw [l3 b] at a;rcases fe.1 a with a | a;·exact h y a
 ·rw [e_] at a;subst a;exact c
def afI {s:I ar} (a:bD ∈ dh) (b:s ∈ bD.aN) (h:(k6 dh s).isSome=aq):oY dh=aq:=by unfold oY;rw [zU];refine ⟨bD,a,?_⟩;rw [B0,zU];exact ⟨s,b,by simp [h]⟩
def afJ (h:∀m ∈ dh,∀s ∈ m.aN,(k6 dh s).isSome=ad):oY dh=ad:=gA.2 λm a=>gA.2 λs b=>h m a s b
def s6:g_ aC 206=aa 5:=ah
def afK:hW aC 309=aa [(0,1),(1,1)]:=ah
def afL:zeroOf aC 309=aa (b0 #[aE ao 0 0,.map ao]):=ah
def HF:aT aC 309 1=aa 1:=ah
def afM (o:View) (ke ks:Z) (a:aA a6) (c:Z) (l:I cV) (w:aP) (af:Le o w) (p:Sl (x0 ke ks) 5 o a c l) (U:∀m ∈ l,wM m<=109951162777) : cx aC 185 #[aE a l.length c] w λe f=>∃r:Z×Z,e = cf (cO #[b8 (if me l=0 then aa ⟨r.1,0,ao⟩ else ao),am an (me l)])/\Ext w f/\(me l=0->vc (nv w f) r.1 1=aa (.map<|aa r.2)/\(nv w f) r.2=aa (dT st (i5 (jl l) 0) l.length)):=by
 have a3:=p.cap;have a4:=p.max;refine enter func185 O 76 O O<|CE (Vs:=[o]) (Ws.init (by simp [af]))<|ak<|au O<|au O<|ag<|Cs<|ak<|ab O<|V0 (Yn s6 O)<|V0 (eZ O O) ?_;refine ag<|Cc O (λA=>?_)<|λA=>?_
 ·have t:4<l.length:=by simp at A;omega
  refine ak<|au O<|au O<|ag<|bu<|Er ?_;refine WE.jv O O O λf b=>?_;rw [afG t];exact ⟨(0,0),O,b.fr,λh=>by cases h⟩
 have t:¬4<l.length:=by simp at A;omega
 refine ay<|ak<|ab O ?_;refine WL.pT st Y O λB=>V0 (Yb afL afK O O)<|WL.box Y O O λW=>au O<|ag<|Cs<|ak<|ab O<|V0 (Yn s6 O)<|ab O<|ag<|Cb ?_;refine f_ (ι:=UG) (λg=>[(23,am an (g.i:ac))]) [(0,_),(4,_),(21,_),(22,_)] (λg=>Ws w [] [aQ W<|aY #[aE a l.length c,.map (aa B)] 309 (0,0),aQ B<|dT st g.M g.c] [o]) (λg=>g.i<=l.length/\(∀m ∈ l.take g.i,jh m=0)/\Jy (jl l) g.i g.M g.c) (λg=>l.length-g.i) ⟨0,[],0⟩ ⟨dw _,aK,bB ⟨aK,O,O⟩⟩ a' λg ⟨hi,u,C⟩=>ak<|V0 (c8 O O)<|ag<|Cs ?_;refine Cc O (λD=>?_)<|λD=>?_
 ·have v:g.i<l.length:=by simpa using D
  obtain ⟨m,x⟩:=bk v;obtain ⟨a5,a7,al,ap⟩:=p.ct g.i m x;obtain ⟨av,ax,az⟩:=ap;have aB:=aW x;have a8:=U m aB;have aD:=AC x;refine ay<|Cs<|Cb<|ak<|ab O<|V0 (Yo s6 O O al ai)<|V0 (eB 0 nn O O O<|ax) ?_;refine Al Y O u9 λa9=>au O<|aw 0 Y O O O u' O O O<|ag<|Cs<|ak<|V0 (dW 0 O O nn O)<|Lp Y O bp O (λw b=>K9 o ke ks av m w b.V az ai)<|au O<|ag<|ak<|ab O ?_;refine V0 (ha O O)<|ag ?_;refine Cc O (λE=>?_)<|λE=>?_
  ·have y:¬jh m=0:=by simpa using E
   refine ak<|ab O<|au O<|au O<|ag<|bu<|Er<|aU<|Er<|Er<|aU<|Er ?_;refine WE.jv O O O λf b=>?_;rw [afH t x u y];exact ⟨(0,0),by rw [aj y],b.fr,λh=>absurd h y⟩
  have y:jh m=0:=by simpa using E
  refine ay<|WC.nS 2 [(0,ad),(1,ad),(2,ad),(3,ad),(4,ad),(5,ad),(6,ad),(7,aq)] mixed ah (λ_ _ _ d _ h=>by cases d<;>exact h)<|D0 O (Wp 2) (Ym O)<|D0 O (Wp 2) (bS O)<|D0 O (Wp 2) (Yf HF O)<|D0 O (Wp 2) (Yd 1 O O O ah)<|D0 O (Wp 2) (Yf zj O)<|D0 O (Wp 2) (Yd 0 O O O ah)<|D0 O (Wp 2) (Ym O) ?_;refine De O (Wp 2)<|WL.rk 2 jx Y js ah O O O O<|Ln<|Ed ?_;refine WD.nil (Wp 2)<|Eb<|Et<|Cr<|V0 (Yi O O O ai)<|ab O<|Ln ?_;exact ep (⟨g.i+1,gB m.nm (am an (g.i:ac)) g.M g.c,kc m.nm g.M g.c⟩:UG) (by show _-(g.i+1)<_;omega) ⟨by show g.i+1<=_;omega,HE x u y,W9 C aD⟩<|λ_ h=>Wd 1 h
 have z:g.i=l.length:=by simp at D;omega
 rw [z,gH] at u;refine Ce<|Ex<|Ex<|ee<|Et<|Cs<|ak<|ab O<|V0 (bS O)<|V0 (Yf HF O)<|V0 (Yd 0 O O O ah)<|V0 (E9 1 js O O)<|ab O ?_;refine V0 (Yn s6 O)<|V0 (c8 O O)<|ag ?_;refine Cc O (λF=>?_)<|λF=>?_
 ·have G:g.M.length<l.length:=by simp at F;omega
  have H:g6 (jl l)=ad:=by
   rcases C with ⟨j,q,aF⟩ | ⟨j,q⟩;·rw [q,Jv] at G;simp [lu] at G;omega
   ·rw [z,<-lu l,gH] at j;rw [kK] at j;simpa using j
  refine ak<|au O<|au O<|ag<|bu<|Er ?_;refine WE.jv O O O λf b=>?_;rw [UH t u,H];exact ⟨(0,0),O,b.fr,λh=>by cases h⟩
 have G:¬g.M.length<l.length:=by simp at F;omega
 obtain ⟨aG,aH,aI⟩:(jl l).Nodup/\g.M=i5 (jl l) 0/\g.c=l.length:=by
  rcases C with ⟨j,q,aF⟩ | ⟨j,q⟩;·rw [z,<-lu l,gH] at j;rw [z,<-lu l,gH] at q;exact ⟨j,q,ai⟩
  ·omega
 have H:=kK.1 aG;rw [aH,aI];have J:=UH t u;rw [H] at J;refine ay<|Cs<|ak<|ab O<|V0 (Yn s6 O)<|ab O<|ag<|Cb ?_;refine pL (ι:=Z) (λi=>[(51,am an (i:ac))]) [(4,_),(49,_),(50,_)] (λi=>i<=l.length/\∀m ∈ l.take i,∀s ∈ m.aN,(k6 l s).isSome=ad) (λi=>l.length-i) 0 ⟨dw _,aK⟩ λi ⟨a_,X⟩=>ak<|V0 (c8 O O)<|ag<|Cs ?_;refine Cc O (λK=>?_)<|λK=>?_
 ·have v:i<l.length:=by simpa using K
  obtain ⟨n,L⟩:=bk v;obtain ⟨ba,bb,aL,aM⟩:=p.ct i n L;obtain ⟨bc,aO,N⟩:=aM;have ae:=aW L;have bd:=U n ae;have bf:=N.aN.cap;have bg:=N.aN.max;refine ay<|Cs<|Cb<|ak<|V0 (Yo s6 O O aL ai)<|V0 (eB 0 nn O O O<|aO) ?_;refine Al Y O u9 λbh=>aw 0 Y O O O u' O O O<|ag<|ak<|V0 (Yf h2 O)<|V0 (Yd 0 O O O ah)<|V0 (Yn gf O)<|ab O<|ag<|Cb ?_;refine pL (ι:=Z) (λk=>[(58,am an (k:ac))]) [(4,_),(49,_),(50,_),(51,_),(56,_),(57,_)] (λk=>k<=n.aN.length/\∀s ∈ n.aN.take k,(k6 l s).isSome=ad) (λk=>n.aN.length-k) 0 ⟨dw _,aK⟩ λk ⟨bi,P⟩=>ak<|V0 (c8 O O)<|ag<|Cs ?_;refine Cc O (λQ=>?_)<|λQ=>?_
  ·have v:k<n.aN.length:=by simpa using Q
   obtain ⟨s,R⟩:=bk v;obtain ⟨aT,pos,aV,S⟩:=N.aN.ct k s R;have S:cB o aT (pos+k*1)<|g4 s:=S;refine ay<|Cs<|Cb<|ak<|V0 (Yo gf O O aV ai)<|V0 (ew 0 ah O O<|S 0 _ O)<|au O<|ag<|ak<|ab O<|V0 (bS O)<|V0 (Yf HF O) ?_;refine V0 (Yd 1 O O O ah)<|ab O<|V0 (Fl 2 jx js ah lY O O O) ?_;rw [(AE _ _).1,(AE _ _).2];refine ab O<|V0 (Yx O O)<|V0 (Yx O O)<|au O<|au O<|ag<|ak<|ab O<|V0 (ih O) ?_;refine ag<|Cc O (λT=>?_)<|λT=>?_
   ·have aX:(k6 l s).isSome=aq:=by simpa [k6] using T
    refine ak<|au O<|au O<|ag<|bu<|aU<|Er<|Er<|aU<|aU<|Er<|Er<|aU<|Er ?_;refine WE.jv O O O λf b=>?_;rw [J,afI ae (aW R) aX];exact ⟨(0,0),O,b.fr,λh=>by cases h⟩
   have aZ:(k6 l s).isSome=ad:=by simpa [k6] using T
   refine Ck<|Eb<|Et<|Cr<|V0 (Yi O O O ai)<|ab O<|Ln ?_;exact ep (k+1) ai ⟨ai,HE R P aZ⟩ a'
  have a0:k=n.aN.length:=by simp at Q;omega
  rw [a0,gH] at P;refine Ce<|Ex<|Ex<|ee<|Eb<|Et<|Cr<|V0 (Yi O O O ai)<|ab O<|Ln ?_;exact ep (i+1) ai ⟨ai,HE L X P⟩<|λ_ h=>Wd 1 h
 have bj:¬i<l.length:=by simpa using K
 have a1:∀m ∈ l,∀s ∈ m.aN,(k6 l s).isSome=ad:=λm p=>X m (by rw [mz ai];exact p);have a2:me l=0:=by rw [J,afJ a1];rfl
 refine Ce<|Ex<|Ex<|ee<|Et<|ak<|ab O<|au O<|au O<|ag<|bu ?_;refine WE.jv O O O λf b=>?_;rw [a2];exact ⟨(W,B),O,b.fr,λ_=>⟨b.Ir 0 O O,b.Og 1 O⟩⟩
def kW (i:Z):I aR:=[am an (i:ac)]
def x1 (i:Z):(kW i).length=1:=rfl
def Mg (a:View) (b o:Z) (i:Z):Prop:=cB a b o<|kW i
def Mh (x:Z):ac:=if x=0 then 0 else if x=1 then 1 else if x<=3 then 2 else 3
def cu (d:I Z) (j:Z):Z:=d.getD j 0
def UI {d:I Z} {j:Z} (h:j<d.length):d[j]? = aa (cu d j):=by simp [cu,I.getD,cy h]
def zK (l:I cV) (d:I Z) (ss:I Tx):ac:=if ss.all (cP l d)=ad then -1 else ((ss.findIdx λs=>!cP l d s:Z):ac)
variable {cS:I Z} {eh:I Tx}
def afN (h:∀s ∈ eh,cP dh cS s=ad):zK dh cS eh = -1:=by rw [zK,aD<|gA.2 h]
def afO {i:Z} {s:Tx} (hi:eh[i]? = aa s) (b:∀s ∈ eh.take i,cP dh cS s=ad) (h:cP dh cS s=aq):zK dh cS eh=(i:ac):=by have c:=(cN.1 hi).1;have d:=(cN.1 hi).2;rw [zK,aj (λa=>by rw [gA] at a;rw [a s<|aW hi] at h;cases h)];congr 1;rw [I.findIdx_eq c];refine ⟨by rw [d,h];rfl,λj e=>?_⟩;rw [b _ (by rw [I.mem_take_iff_getElem];exact ⟨j,ai,rfl⟩)];rfl
def afP (l:I cV) (d:I Z) (ss:I Tx):decide (zK l d ss≥0) = !ss.all (cP l d):=by
 unfold zK;by_cases h:ss.all (cP l d)=ad;·rw [aD h,h];rfl
 ·rw [aj h,vr.2 h];simp
structure HG where
 i:Z
 d:I Z
def afQ (k:(jl dh).Nodup)  (f:∀x ∈ cS,x<dh.length) (l:cS.Nodup) {i j a b:Z} (c:cS[i]? = aa a) (g:cS[j]? = aa b) (m:i≠j) (h:¬gZ (jm dh a) (jm dh b)<0):sg dh b a:=by
 have n:jm dh a≠jm dh b:=λe=>by have:=FM k (f a<|aW c) (f b<|aW g) e;subst this;exact m<|(ib (cN.1 c).1 l).1<|c.trans g.symm
 rcases OJ _ _ n with d | d;·exact absurd (OO.2 d) h
 ·exact d
variable {Mi:Z->Z->Prop} {aL:Z}
def afR (h:p4 Mi cS bE) (f:cS.length<=bE):p4 Mi cS aL:=λx y a b d g e c=>h x y a b d (by have:=(cN.1 c).1;omega) e c
def afS:p4 Mi cS 1:=λx y a b c d=>by omega
def afT:prog.underlying 406=some (.int .u64):=ah
def UJ (s:Tx) (w:aP) : cx aC 252 #[st s] w λe a=>e = cf (bW aq)/\Ext w a:=by refine enter func252 O 6 O O<|CE (Vs:=[]) (Ws.init aK)<|ak<|au O<|ag<|ak<|ab O<|ab O<|V0 (ahy O O O)<|au O ?_;refine ag<|bu ?_;refine R1 O O λa b=>⟨O,b.fr⟩
def afU (s t:Tx) (w:aP) : cx aC 188 #[st s,st t] w λe b=>e = cf (am an<|gZ s t)/\Ext w b:=by
 refine enter func188 O 20 O O<|CE (Vs:=[]) (Ws.init aK)<|ak<|au O<|ag<|ak<|ab O<|Lp Y O bp O (λw a=>UJ _ w)<|au O<|ag<|ak ?_;refine ab O<|Lp Y O bp O (λw a=>UJ _ w)<|au O<|ag<|Cs<|ak<|ab O<|ag ?_;refine WC.uc O<|ay<|Cs<|ak<|ab O<|ag ?_;refine WC.uc O<|ay<|Cs<|ak<|ab O<|ab O<|V0 (afE O O)<|ag ?_;refine Cc O (λc=>?_)<|λc=>?_;·refine ak<|au O<|ag<|bu<|Er ?_;refine R1 O O λb a=>?_;have h:lT s t=ad:=c;exact ⟨by rw [gZ,aD h],a.fr⟩
 refine ay<|Cs<|ak<|ab O<|ab O<|V0 (afF O O)<|ag ?_;refine Cc O (λd=>?_)<|λd=>?_
 ·refine ak<|au O<|ag<|bu<|Er ?_;refine R1 O O λb a=>?_;have h:¬lT s t=ad:=by rw [B0];exact c
  have f:(!(lT s t||s==t))=ad:=d;exact ⟨by rw [gZ,aj h,aD f],a.fr⟩
 refine ay<|ak<|au O<|ag<|bu ?_;refine R1 O O λb a=>?_;have h:¬lT s t=ad:=by rw [B0];exact c
 have f:¬(!(lT s t||s==t))=ad:=by rw [B0];exact d
 exact ⟨by rw [gZ,aj h,aj f],a.fr⟩
def afV (x:Nat) (w:World) (h:x<=4) :
   Calls prog 302 #[.int .u64 (x:Int)] w λe a=>e = .returned (.int .i64<|Mh x)/\Ext w a:=by
 have f:IntKind.u8.wrap (x:Int)=(x:Int):=by rcases (show x=0\/x=1\/x=2\/x=3\/x=4 by omega) with rfl | rfl | rfl | rfl | rfl<;>rfl
 refine enter func302 O 25 O O<|CE (Vs:=[]) (Ws.init aK)<|ak<|au O<|ag<|Cs<|ak<|ab O<|V0 (h9 O O)<|ag ?_;refine Cc O (λb=>?_)<|λb=>?_;·exfalso;simp at b;omega
 refine ay<|Cs<|ak<|ab O<|V0 (h9 O O)<|ag ?_;refine Cc O (λc=>?_)<|λc=>?_;·exfalso;simp at c;omega
 refine ay<|Cs<|ak<|ab O<|V0 (h9 O O)<|ag ?_;refine Cc O (λd=>?_)<|λd=>?_;·exfalso;simp at d;omega
 refine ay<|ak<|ab O<|ab O<|V0 (Iw afT Pt O) ?_;rw [f];refine V0 (z7 ah rfl rfl (show _=some (UInt8.ofNat (Mh x).toNat) by rcases (show x=0\/x=1\/x=2\/x=3\/x=4 by omega) with rfl | rfl | rfl | rfl | rfl<;>rfl))<|V0 (Iw Pt k' rfl)<|V0 (ud rfl rfl)<|V0 (Ya rfl)<|ag<|bu ?_;refine R1 O O λa g=>⟨by rcases (show x=0\/x=1\/x=2\/x=3\/x=4 by omega) with rfl | rfl | rfl | rfl | rfl<;>rfl,g.fr⟩
def afW (x:Z) (w:aP) (c:x<=4) : cx aC 251 #[am .u64 (x:ac)] w λe a=>e = cf (am an<|Mh x)/\Ext w a:=by refine enter func251 O 8 O O<|CE (Vs:=[]) (Ws.init aK)<|ak<|au O<|ag<|Cs ?_;refine WC.uc O<|ay<|ak<|ab O<|Lp Y O bp O (λw b=>afV x w c)<|au O<|ag<|bu ?_;refine R1 O O λa b=>⟨O,b.fr⟩
def afX (a b:View) (ke ks c:Z) (f:aA a6) (g:Z) (l:I cV) (k:vc a c 0=aa (aE f l.length g)) (m:Sl (x0 ke ks) 5 b f g l) (i j:Z) (w:aP) (s:Le a w) (t:Le b w) (hi:i<l.length) (n:j<l.length) : cx aC 187 #[am an (i:ac),am an (j:ac),b8 (aa ⟨c,0,ao⟩)] w λe o=>e = cf (am an<|gZ (jm l i)<|jm l j)/\Ext w o:=by obtain ⟨u,p⟩:=bk hi;obtain ⟨D,E,v,F,x,G⟩:=m.ct i u p;have y:=uz p;obtain ⟨z,q⟩:=bk n;obtain ⟨H,J,A,K,B,L⟩:=m.ct j z q;have C:=uz q;refine enter func187 O 17 O O<|CE (Vs:=[a,b]) (Ws.init (by simp [s,t]))<|ak<|au O<|ag<|Cs ?_;refine WC.o6 [(0,ad),(1,ad),(2,ad),(3,ad),(4,ad),(5,ad),(6,ad),(7,ad),(8,ad),(9,ad),(10,aq),(11,ad)] mixed ah (λ_ _ _ d _ h=>by cases d<;>exact h)<|D0 O a' (ew 0 ah O O<|k)<|D0 O a' (Ym O)<|D0 O a' (Yo s6 O O v hi)<|D0 O a' (Yf zj O)<|D0 O a' (ew 1 ah O O<|x 0 _ O)<|D0 O a' (ew 0 ah O O<|k)<|D0 O a' (Ym O)<|D0 O a' (Yo s6 O O A n) ?_;refine D0 O a' (Yf zj O)<|D0 O a' (ew 1 ah O O<|B 0 _ O) ?_;refine De O a'<|Lp Y O bp O (λw r=>afU _ _ w)<|Ln<|Ed<|D0 O a' (Ya O) ?_;refine WD.nil a'<|Et<|bu ?_;refine R1 O O λo r=>⟨by rw [y,C],r.fr⟩
def afY (o p:View) (ke ks u:Z) (v:aA a6) (z:Z) (l:I cV) (A:vc o u 0=aa (aE v l.length z)) (G:Sl (x0 ke ks) 5 p v z l) (a:aA a6) (c:Z) (d0:I Z) (H:(jl l).Nodup) (J:∀x ∈ d0,x<l.length) (K:d0.Nodup) (ap:d0.length<=4) (w:aP) (r:Ws w (c6 bh.ids [cQ 3 1 kW a c d0]) [cQ 3 1 kW a c d0] [o,p] w) : cx aC 293 #[aE a d0.length c,am an 0,am an (d0.length:ac),.func (.func 187) #[] #[b8 (aa ⟨u,0,ao⟩)]] w λe E=>∃d:I Z,e = cf (cO #[])/\(d.Perm d0/\p4 (sg l) d d.length)/\Ws w (c6 bh.ids [cQ 3 1 kW a c d0]) [cQ 3 1 kW a c d] [o,p] E:=by
 refine enter func293 O 53 O O<|CE r<|ak<|ab O<|V0 (o7 (a:=0) (b:=1) O O O O ai)<|au O<|ag<|Cb ?_;refine f_ (ι:=HG) (λg=>[(8,am an (g.i:ac))]) [(0,_),(1,_),(2,_),(3,_)] (λg=>Ws w (c6 bh.ids [cQ 3 1 kW a c d0]) [cQ 3 1 kW a c g.d] [o,p]) (λg=>g.d.Perm d0/\p4 (sg l) g.d g.i) (λg=>d0.length-g.i) ⟨1,d0⟩ ⟨I.Perm.refl _,afS⟩ a' λg ⟨t,F⟩=>Cs<|ak<|ab O<|ab O<|V0 (c8 O O)<|ag ?_;refine Cc O (λB=>?_)<|λB=>?_
 ·have L:g.i<d0.length:=by simpa using B
  have M:=t.length_eq;refine ay<|Cs<|Cb<|ak<|ab O<|au O<|ag<|Cb ?_;refine f_ (ι:=HG) (λq=>[(9,am an (q.i:ac))]) [(0,_),(1,_),(2,_),(3,_),(8,_)] (λq=>Ws w (c6 bh.ids [cQ 3 1 kW a c d0]) [cQ 3 1 kW a c q.d] [o,p]) (λq=>yK (sg l) d0 q.d g.i q.i) (λq=>q.i) ⟨g.i,g.d⟩ (ahF t (by rw [M];exact L) F) a' λq k=>Cs<|Cs ?_;have av:q.d.length=d0.length:=k.perm.length_eq;have aw:=k.ji;have C:∀x ∈ q.d,x<l.length:=λx N=>J x<|k.perm.subset N;have P:q.d.Nodup:=k.perm.nodup_iff.2 K;have m:=UI (d:=q.d) (j:=q.i) ai;have n:=UI (d:=q.d) (j:=q.i-1) ai;refine WC.tf 0 O ai λax f az aB=>WC.o6 [(0,ad),(1,ad),(2,ad),(3,ad),(4,ad),(5,ad),(6,ad),(7,ad),(8,ad),(9,ad),(10,ad),(11,ad),(12,ad),(13,ad),(14,aq),(15,ad),(16,ad)] mixed ah (λ_ _ _ d _ h=>by cases d<;>exact h)<|D0 O a' (Ym O)<|D0 O a' (Ym O)<|D0 O a' (eZ O O)<|D0 O a' (Ym O) ?_;apply WD.and 12 (x:=decide<|gZ (jm l<|cu q.d q.i) (jm l<|cu q.d<|q.i-1)<0) O O O O O Y O a' O O O O
  ·intro Q;have S:0<q.i:=by simpa using Q
   refine Dq O (.g O O O) O a' (Ym O)<|Dq O (.g O O O) O a' (Ym O)<|Dq O (.g O O O) O a' (Ym O)<|Dq O (.g O O O) O a' (Yo e8 O O f ai)<|Dq O (.g O O O) O a' (nU (y:=cu q.d q.i) 0 q.i 0 O O f O x1 m O ah)<|Dq O (.g O O O) O a' (Ym O)<|Dq O (.g O O O) O a' (Ym O)<|Dq O (.g O O O) O a' (dC ((q.i-1:Z):ac) O O ai ai) ?_;refine Dq O (.g O O O) O a' (Yo e8 O O f ai)<|Dq O (.g O O O) O a' (nU (y:=cu q.d<|q.i-1) 0 (q.i-1) 0 O O f O x1 n O ah) ?_;refine De O a'<|WL.vy (.g O O O) O bp O O (λw r=>afX o p ke ks u v z l A G (cu q.d q.i) (cu q.d<|q.i-1) w r.V r.V (C _<|aW m)<|C _<|aW n)<|Ln<|Ed<|Dq O (.g O O O) O a' (c8 O O) ?_;exact Gi 12 a' O O O
  refine WD.nil a'<|Et<|Cc O (λD=>?_)<|λD=>?_
  ·obtain ⟨S,T⟩:0<q.i/\gZ (jm l<|cu q.d q.i) (jm l<|cu q.d<|q.i-1)<0:=by simpa using D
   have U:(q.d.set q.i<|cu q.d<|q.i-1)[q.i-1]? = aa (cu q.d<|q.i-1):=by rw [MK ai];exact n
   have s:q.i-1+1=q.i:=ai;have W:yK (sg l) d0 ((q.d.set q.i<|cu q.d<|q.i-1).set (q.i-1)<|cu q.d q.i) g.i<|q.i-1:=by have h:=Xa (j:=q.i-1) (a:=cu q.d q.i) (b:=cu q.d<|q.i-1) (by rw [s];exact k) (by rw [s];exact m) n<|OO.1 T;rw [s] at h;exact h
   refine ay<|Cs<|Cb ?_;refine CU (λ_=>ad) [] [15,16,17] (.q aq 0<|.q aq 1<|.q aq 2<|.q aq 3<|.q aq 4<|.q aq 5<|.q aq 6<|.q aq 7<|.q aq 8<|.q ad 9<|.q aq 10<|.q aq 11<|.q aq 12<|.q ad 13<|.q aq 14 .nil) mixed ah (λ_ _ _ d _ _ h=>by cases d<;>exact h)<|U0 O a' (Ym O)<|U0 O a' (Ym O)<|U0 O a' (Ym O)<|U0 O a' (Ym O)<|U0 O a' (dC ((q.i-1:Z):ac) O O ai ai)<|U0 O a' (Ym O)<|U0 O a' (Ym O)<|U0 O a' (dC ((q.i-1:Z):ac) O O ai ai) ?_;refine U0 O a' (Yo e8 O O f ai)<|U0 O a' (nU (y:=cu q.d<|q.i-1) 0 (q.i-1) 0 O O f O x1 n O ah)<|U0 O a' (Ym O)<|U0 O a' (Ym O)<|U0 O a' (Yo e8 O O f ai)<|U0 O a' (nU (y:=cu q.d q.i) 0 q.i 0 O O f O x1 m O ah)<|U0 O a' (Yo e8 O O f ai) ?_;refine WU.nil a'<|WS.e O<|WL.storeT (y:=cu q.d q.i) 0 q.i 0 (cu q.d<|q.i-1) Y O O O f O x1 m eE O O a8 O<|Ln<|Es ?_;refine WS.e O<|V0 (Yo e8 O O f ai)<|Ln<|Es ?_;refine WS.e O<|WL.storeT (y:=cu q.d<|q.i-1) 0 (q.i-1) 0 (cu q.d q.i) Y O O O f O x1 U eE O O a8 O<|Ln<|Es ?_;refine WS.nil<|Eb<|Et<|Cr<|ab O<|V0 (dC ((q.i-1:Z):ac) O O ai ai)<|au O<|Ln ?_;exact ep (⟨q.i-1,(q.d.set q.i<|cu q.d<|q.i-1).set (q.i-1)<|cu q.d q.i⟩:HG) (by show q.i-1<q.i;omega) W a'
  have X:p4 (sg l) q.d<|g.i+1:=by
   by_cases ae:q.i=0;·rw [ae] at k;exact Xb k
   ·have af:¬gZ (jm l<|cu q.d q.i) (jm l<|cu q.d<|q.i-1)<0:=λh=>by simp [h] at D;omega
    have s:q.i-1+1=q.i:=ai;exact Xc (R:=sg l) (d0:=d0) (i:=g.i) (λa b c A aj=>Jo _ _ _ A aj) (j:=q.i-1) (a:=cu q.d q.i) (b:=cu q.d<|q.i-1) (by rw [s];exact k) (by rw [s];exact m) n<|afQ H C P m n ai af
  refine Ce<|Ex<|Ex<|ee<|Eb<|Et<|Cr<|ab O<|V0 (Yi O O O ai)<|au O<|Ln ?_;exact ep (⟨g.i+1,q.d⟩:HG) (by show _-(g.i+1)<_;omega) ⟨k.perm,X⟩ a'
 have al:d0.length<=g.i:=by simp at B;omega
 refine Ce<|Ex<|Ex<|ee ?_;refine E0 O λE r=>⟨g.d,O,⟨t,afR F (by rw [t.length_eq];exact al)⟩,r⟩
def afZ {x:Z} (h:x<=4):IntKind.u64.wrap (x:ac)=(x:ac):=by rcases (show x=0\/x=1\/x=2\/x=3\/x=4 by omega) with rfl | rfl | rfl | rfl | rfl<;>rfl
variable {bR:Tx}
def af0 (h:(k6 dh bR).isSome=ad):((if cS.contains ((idxOf bR (jl dh) 0).getD 0)=ad then (1:ac) else 0)==0) = !cP dh cS bR:=by obtain ⟨j,a⟩:=aA.isSome_iff_exists.1 h;have b:idxOf bR (jl dh) 0=aa j:=a;rw [b];unfold cP;rw [a];show ((if cS.contains j=ad then (1:ac) else 0)==0) = !cS.contains j;cases cS.contains j<;>rfl
def af1:prog.underlying 355=some (.int .u64):=ah
def HH:aC.underlying 306=aa (.map 3 3):=ah
def af2 (b f:View) (ke ks i:Z) (j:aA a6) (k:Z) (l:I cV) (o:vc b i 0=aa (aE j l.length k)) (p:Sl (x0 ke ks) 5 f j k l) (a:aA a6) (c:Z) (d0:I Z) (q:(jl l).Nodup) (r:∀x ∈ d0,x<l.length) (s:d0.Nodup) (t:d0.length<=4) (aO:ac) (w:aP) (h:Ws w (c6 bh.ids [cQ 3 1 kW a c d0]) [cQ 3 1 kW a c d0] [b,f] w) : cx aC 250 #[aE a d0.length c,am an 0,am an (d0.length:ac),am an aO,.func (.func 187) #[] #[b8 (aa ⟨i,0,ao⟩)]] w λe m=>∃d:I Z,e = cf (cO #[])/\(d.Perm d0/\p4 (sg l) d d.length)/\Ws w (c6 bh.ids [cQ 3 1 kW a c d0]) [cQ 3 1 kW a c d] [b,f] m:=by
 refine enter func250 O 148 O O<|CE h<|ak<|au O<|ag<|ak<|au O<|ag<|Cb ?_;refine pL (ι:=ef) (λg=>[]) [(0,_),(1,_),(2,_),(4,_)] (λg=>True) (λg=>0) () trivial ?_;intro g _;refine Cb<|ak<|ab O<|ab O<|V0 (dC (d0.length:ac) O O ai ai)<|au O<|ag<|Cs<|ak<|ab O<|V0 (li O O) ?_;refine ag<|Cc O (λn=>?_)<|λn=>?_;·refine ak<|ab O<|ab O<|ab O<|ab O ?_;refine Lw [_] _ Y O bp O O _ _ _ [b,f] aK (λw h=>afY b f ke ks i j k l o p a c d0 q r s t w h) λd u=>ag<|bu<|Er<|aU<|Er<|aU ?_;refine WE.z3 O λm h=>⟨d,O,u,h⟩
 exfalso;simp at n;omega
def af3 (f g:View) (ke ks h:Z) (i:aA a6) (j:Z) (l:I cV) (n:vc f h 0=aa (aE i l.length j)) (o:Sl (x0 ke ks) 5 g i j l) (a:aA a6) (c:Z) (d0:I Z) (p:(jl l).Nodup) (q:∀x ∈ d0,x<l.length) (r:d0.Nodup) (k:d0.length<=4) (w:aP) (b:Ws w (c6 bh.ids [cQ 3 1 kW a c d0]) [cQ 3 1 kW a c d0] [f,g] w) : cx aC 186 #[aE a d0.length c,.func (.func 187) #[] #[b8 (aa ⟨h,0,ao⟩)]] w λe m=>∃d:I Z,e = cf (cO #[])/\(d.Perm d0/\p4 (sg l) d d.length)/\Ws w (c6 bh.ids [cQ 3 1 kW a c d0]) [cQ 3 1 kW a c d] [f,g] m:=by refine enter func186 O 14 O O ?_;refine CE b<|ak<|ab O<|V0 (Yn e8 O)<|au O<|ag<|Cr<|ab O<|ab O ?_;refine ab O<|V0 (Iw k' af1 O) ?_;rw [afZ k];refine Lp Y O bp O (λw b=>afW _ w k)<|ab O ?_;refine Lw (ι:=I Z) [_] _ Y O bp O O (λ_=>cO #[]) (λd=>[cQ 3 1 kW a c d]) (λd=>d.Perm d0/\p4 (sg l) d d.length) [f,g] aK (λw b=>af2 f g ke ks h i j l n o a c d0 p q r k _ w b) ?_;intro d s;refine Ln ?_;refine E0 O λm b=>?_;exact ⟨d,O,s,b⟩
def af4 (b c f a:View) (g i j k m:Z) (l:I cV) (d:I Z) (p:vc b g 0=aa (.map<|aa i)) (q:c i=aa (dT (λn:ac=>aR.int an n) (db d 0) d.length)) (r:vc f j 0=aa (b8<|aa ⟨k,0,ao⟩)) (t:vc a k 1=aa (.map<|aa m)) (u:a m=aa (dT st (i5 (jl l) 0) l.length)) (s:Tx) (w:aP) (v:Le b w) (x:Le c w) (y:Le f w) (z:Le a w) (A:(k6 l s).isSome=ad) : cx aC 190 #[st s,b8 (aa ⟨g,0,ao⟩),b8 (aa ⟨j,0,ao⟩)] w λe o=>e = cf (bW<|!cP l d s)/\Ext w o:=by refine enter func190 O 14 O O<|CE (Vs:=[b,c,f,a]) (Ws.init (by simp [v,x,y,z]))<|ak<|au O<|ag<|Cs ?_;refine WC.o6 [(0,ad),(1,ad),(2,ad),(3,ad),(4,ad),(5,ad),(6,ad),(7,ad),(8,ad),(9,ad)] mixed ah (λ_ _ _ d _ h=>by cases d<;>exact h)<|D0 O a' (ew 0 ah O O<|p)<|D0 O a' (ew 2 ah O O<|r)<|D0 O a' (bS O)<|D0 O a' (Yf HF O)<|D0 O a' (ew 3 ah O O<|t)<|D0 O a' (Ym O)<|D0 O a' (Fy 3 O jx js ah lY O O<|u) ?_;rw [(AE _ _).1];refine D0 O a' (Fy 1 O m4 HH k' lY O O<|q) ?_;rw [JB];refine D0 O a' (bY O O)<|D0 O a' (Ya O) ?_;refine WD.nil a'<|Et<|bu ?_;refine R1 O O λo B=>⟨by rw [<-af0 A],B.fr⟩
def af5 (c:View) (A:aA a6) (cs:Z) (ss:I Tx) (m:Sl rdStr 1 c A cs ss) (f g h b:View) (o p q r t:Z) (l:I cV) (d:I Z) (B:vc f o 0=aa (.map<|aa p)) (C:g p=aa (dT (λn:ac=>aR.int an n) (db d 0) d.length)) (D:vc h q 0=aa (b8<|aa ⟨r,0,ao⟩)) (E:vc b r 1=aa (.map<|aa t)) (F:b t=aa (dT st (i5 (jl l) 0) l.length)) (w:aP) (G:Le c w) (H:Le f w) (J:Le g w) (K:Le h w) (L:Le b w) (M:∀s ∈ ss,(k6 l s).isSome=ad) : cx aC 253 #[aE A ss.length cs,.func (.func 190) #[] #[b8 (aa ⟨o,0,ao⟩),b8 (aa ⟨q,0,ao⟩)]] w λe u=>e = cf (am an<|zK l d ss)/\Ext w u:=by
 have R:=m.cap;have S:=m.max;refine enter func253 O 19 O O<|CE (Vs:=[c,f,g,h,b]) (Ws.init (by simp [G,H,J,K,L]))<|ak<|au O<|ag<|Cs<|ak<|ab O<|V0 (Yn gf O)<|ab O<|ag<|Cb ?_;refine pL (ι:=Z) (λi=>[(8,am an (i:ac))]) [(0,_),(1,_),(7,_)] (λi=>i<=ss.length/\∀s ∈ ss.take i,cP l d s=ad) (λi=>ss.length-i) 0 ⟨dw _,aK⟩ λi ⟨hi,j⟩=>ak<|V0 (c8 O O)<|ag<|Cs ?_;refine Cc O (λv=>?_)<|λv=>?_
 ·have N:i<ss.length:=by simpa using v
  obtain ⟨s,k⟩:=bk N;obtain ⟨P,pos,Q,x⟩:=m.ct i s k;have x:cB c P (pos+i*1)<|g4 s:=x;refine ay<|Cs<|Cb<|ak<|ab O<|au O<|ag<|ak<|ab O<|ab O<|ab O<|V0 (Yo gf O O Q ai) ?_;refine V0 (ew 0 ah O O<|x 0 _ O)<|WL.vy Y O bp O O (λw a=>af4 f g h b o p q r t l d B C D E F s w a.V a.V a.V a.V<|M s<|aW k)<|ag<|Cc O (λy=>?_)<|λy=>?_
  ·have z:cP l d s=aq:=by simpa using y
   refine ak<|ab O<|au O<|ag<|bu<|aU<|Er<|Er<|aU<|Er ?_;refine R1 O O λu a=>⟨by rw [afO k j z],a.fr⟩
  have z:cP l d s=ad:=by simpa using y
  refine Ck<|Eb<|Et<|Cr<|V0 (Yi O O O ai)<|ab O<|Ln ?_;exact ep (i+1) ai ⟨ai,HE k j z⟩ a'
 have T:¬i<ss.length:=by simpa using v
 rw [mz ai] at j;refine Ce<|Ex<|Ex<|ee<|Et<|ak<|au O<|ag<|bu ?_;refine R1 O O λu a=>⟨by rw [afN j],a.fr⟩
def af6 (c:View) (i:aA a6) (cs:Z) (ss:I Tx) (r:Sl rdStr 1 c i cs ss) (f g h b:View) (j k m o p:Z) (l:I cV) (d:I Z) (t:vc f j 0=aa (.map<|aa k)) (u:g k=aa (dT (λn:ac=>aR.int an n) (db d 0) d.length)) (v:vc h m 0=aa (b8<|aa ⟨o,0,ao⟩)) (x:vc b o 1=aa (.map<|aa p)) (y:b p=aa (dT st (i5 (jl l) 0) l.length)) (w:aP) (z:Le c w) (A:Le f w) (B:Le g w) (C:Le h w) (D:Le b w) (E:∀s ∈ ss,(k6 l s).isSome=ad) : cx aC 189 #[aE i ss.length cs,.func (.func 190) #[] #[b8 (aa ⟨j,0,ao⟩),b8 (aa ⟨m,0,ao⟩)]] w λe q=>e = cf (bW<|!ss.all (cP l d))/\Ext w q:=by refine enter func189 O 9 O O<|CE (Vs:=[c,f,g,h,b]) (Ws.init (by simp [z,A,B,C,D]))<|ak<|au O<|ag<|ak<|ab O<|ab O<|Lp Y O bp O (λw a=>af5 c i cs ss r f g h b j k m o p l d t u v x y w a.V a.V a.V a.V a.V E)<|V0 (h9 O O) ?_;refine au O<|ag<|bu ?_;refine R1 O O λq a=>⟨by rw [<-afP],a.fr⟩
def x2 (l:I cV) (r:I Z×ac):Prop:=(¬me l=0/\r=([],me l))\/(me l=0/\∃d,Jt l d/\r=o4 l d)
def UK {r c:I Z×ac} (h:x2 dh r) (e:x2 dh c):r=c:=by
 rcases h with ⟨a,rfl⟩ | ⟨a,d,f,rfl⟩
 ·rcases e with ⟨_,rfl⟩ | ⟨b,_⟩;·rfl
  ·exact absurd b a
 ·rcases e with ⟨b,_⟩ | ⟨_,i,g,rfl⟩;·exact absurd a b
  ·rw [W8 f g]
structure UL where
 out:I Z
 s:SP
def UM (h:tq dh bE=eh):(decide ((if cS.contains bE=ad then (1:ac) else 0) > 0)||!eh.all (cP dh cS)) = !ph dh cS bE:=by unfold ph;rw [h];cases cS.contains bE<;>simp
def af7:zeroOf aC 300=aa (b8 ao):=ah
def af8:e2 aC 300=aa 1:=ah
def af9:zeroOf aC 306=aa (.map ao):=ah
def af':e2 aC 306=aa 1:=ah
def af_ (i:View) (ke ks:Z) (a:aA a6) (c:Z) (l:I cV) (w:aP) (aF:Le i w) (u:Sl (x0 ke ks) 5 i a c l) (aG:∀m ∈ l,wM m<=109951162777) :
   cx aC 111 #[aE a l.length c] w λe v=>∃r:SP×I Z×ac,e = cf (cO #[aE r.1.1 r.2.1.length r.1.2,am an r.2.2])/\Ext w v/\Sl Mg 1 (nv w v) r.1.1 r.1.2 r.2.1/\x2 l r.2:=by
 have bi:=u.cap;have bj:=u.max;refine enter func111 O 68 O O<|CE (Vs:=[i]) (Ws.init (by simp [aF]))<|ak ?_;refine WL.box Y O O λae=>au O<|au O<|ag ?_;refine WC.scope<|ak<|V0 (Yd 0 O O O ah) ?_;refine Ld Y O bp O (λr:Z×Z=>cO #[b8 (if me l=0 then aa ⟨r.1,0,ao⟩ else ao),am an (me l)]) (λp r=>me l=0->vc p r.1 1=aa (.map<|aa r.2)/\p r.2=aa (dT st (i5 (jl l) 0) l.length)) (λw f=>afM i ke ks a c l w (f.vs _ (by simp)) u aG) λp F bk aH=>ab O<|V0 (Yx O O)<|V0 (Yx O O) ?_;refine Al Y O af7 λaf=>aw 0 Y O O O af8 O O O<|au O<|ag<|Cs<|ak<|ab O<|V0 (ha O O)<|ag ?_;refine Cc O (λN=>?_)<|λN=>?_
 ·have aI:¬me l=0:=by simpa using N
  refine ak<|ab O<|au O<|au O<|ag<|bu<|Er ?_;refine WE.Mf<|WE.jv O O O λv f=>⟨((ao,0),[],me l),O,f.fr,Sl.nil,bB ⟨aI,O⟩⟩
 have z:me l=0:=by simpa using N
 have A:=OK.1 z;obtain ⟨aK,aL⟩:=aH z;refine ay<|Cs<|hk 0 (aY #[b8 (aa ⟨F.1,0,ao⟩)] 300 (0,0)) O (by rw [z];rfl) ?_;refine WC.HD 0 O λG aM=>?_;have aO:vc G af 0=aa (b8<|aa ⟨F.1,0,ao⟩):=gR aM rfl;refine WC.HD 0 O λB aT=>?_;have H:vc B ae 0=aa (aE a l.length c):=gR aT rfl;refine Cr<|au O<|LW (λ_ h=>h.hM 3 1)<|ag<|Cs<|ak<|V0 (ew 0 ah O O<|H)<|V0 (Yn s6 O)<|ab O<|ag<|Cb ?_;refine nQ (ι:=Z×SP) (λg=>[(22,am an (g.1:ac)),(6,aE g.2.1 (lf g.1).length g.2.2)]) [(1,_),(2,_),(3,_),(4,_),(21,_)] (λg=>Ws w [] [cQ 3 1 kW g.2.1 g.2.2<|lf g.1] [B,G,p,i]) (λg=>g.1<=l.length) (λg=>l.length-g.1) (0,(ao,0)) (dw _) (sc O<|sc O<|sc O<|sc O<|sc O<|sc O<|sc O sn) (λ_ h=>h) λg bl=>ak<|V0 (c8 O O)<|ag<|Cs ?_;refine Cc O (λP=>?_)<|λP=>?_
 ·have bm:g.1<l.length:=by simpa using P
  have bn:=MT (n:=g.1);have aV:=A.fH;refine ay<|Cs<|Cb<|ak<|ab O<|au O<|ag<|Cr<|ab O<|ab O ?_;refine Lb Y O gn O O O O λbo=>eb 0 (aY (kW g.1).toArray 3 (0,0)) O O<|LA (g.1) 1 0 Y O gn O O O O O O (by omega) (by omega) λaX aZ=>au O<|Ln<|Eb<|Et<|Cr<|V0 (Yi O O O (by omega))<|ab O<|Ln ?_;rw [<-zX];exact Ea ((g.1+1,(aX,aZ)):Z×SP) (by show _-(g.1+1)<_;omega) (by show g.1+1<=_;omega) (sc O<|sc O<|sc O<|sc O<|sc O<|sc O<|sc O sn)<|λ_ h=>Wd 1 h
 have a0:g.1=l.length:=by simp at P;omega
 rw [a0];refine Ce<|Ex<|Ex<|ee<|Et<|ak<|ab O<|V0 (wW O) ?_;refine Lw (ι:=I Z) [_] _ Y O bp O O (λ_=>cO #[]) (λd=>[cQ 3 1 kW g.2.1 g.2.2 d]) (λd=>d.Perm (lf l.length)/\p4 (sg l) d d.length) [B,i] (by simp) (λw f=>af3 B i ke ks ae a c l H u g.2.1 g.2.2 (lf l.length) A.nd (by simp) I.nodup_range (by simpa using A.fH) w f) ?_;intro d C;have ai:(lf l.length).length=d.length:=C.1.length_eq.symm;have bq:d.length=l.length:=by rw [<-ai,MT]
 rw [ai];refine WL.dM (rd:=Mg) 0 O x1 (λ_ _ _ _ h=>h) λal a2=>ag<|ak ?_;refine WL.pT (λn:ac=>aR.int an n) Y O λJ=>Al Y O af9 λap=>aw 0 Y O O O af' O O O<|ag<|Cs ?_;refine WC.HD 0 O λQ a3=>?_;have R:vc Q ap 0=aa (.map<|aa J):=gR a3 rfl;refine Cr<|au O<|LW (λ_ h=>h.hM 3 1)<|ag<|Cs ?_;refine WC.label<|Et<|Cs<|Cb ?_;refine nQ (ι:=UL) (λq=>[(9,aE q.s.1 q.out.length q.s.2)]) [(1,_),(4,_),(6,_),(8,_)] (λq=>Ws w [] [cQ 3 1 kW q.s.1 q.s.2 q.out,aQ J<|dT (λn:ac=>aR.int an n) (db q.out 0) q.out.length] [Q,al,B,G,p,i]) (λq=>c' l q.out) (λq=>l.length-q.out.length) ⟨[],(ao,0)⟩ c'.nil (sc O<|sc O<|sc O<|sc O<|sc O sn) (λ_ h=>h) λq D=>Cs<|ak<|ab O<|V0 (Yn e8 O)<|V0 (ew 2 ah O O<|H)<|V0 (Yn s6 O)<|V0 (c8 O O)<|ag ?_;refine Cc O (λS=>?_)<|λS=>?_
 ·have br:q.out.length<l.length:=by simpa using S
  have aV:=A.fH;refine ay<|Cb<|Cs<|ak<|ab O<|V0 (Yn e8 O)<|ab O<|ag<|Cb ?_;refine CW (ι:=Z) (λk=>[(41,am an (k:ac))]) [(1,_),(4,_),(6,_),(8,_),(9,_),(39,_),(40,_)] (λk=>k<=d.length/\∀y e,y<k->d[y]? = aa e->ph l q.out e=aq) (λk=>d.length-k) 0 ⟨dw _,λy e h=>by omega⟩ (sc O<|sc O<|sc O<|sc O<|sc O<|sc O<|sc O<|sc O sn) λk ⟨bs,T⟩=>ak<|V0 (c8 O O)<|ag<|Cs ?_;refine Cc O (λU=>?_)<|λU=>?_
  ·have a4:k<d.length:=by simpa using U
   obtain ⟨x,K⟩:∃q,d[k]? = aa q:=⟨_,cy a4⟩;obtain ⟨a5,a7,a8,V⟩:=a2.ct k x K;have V:cB al a5 (a7+k*1)<|kW x:=V;have av:x<l.length:=by simpa using C.1.subset (aW K)
   obtain ⟨L,M⟩:∃m,l[x]? = aa m:=⟨_,cy av⟩;obtain ⟨bt,bw,a9,ax,a',a_⟩:=u.ct x L M;have bx:=uz M;have az:=OM M;refine ay<|Cs<|Cb<|ak<|V0 (Yo e8 O O a8 (by omega))<|V0 (ew 1 ah O O<|V 0 _ O)<|au O<|ag<|Cs<|ak<|V0 (ew 0 ah O O<|R)<|ab O<|V0 (rj 1 m4 HH k' lY O O O) ?_;rw [JB];refine V0 (eZ O O)<|ab O ?_;apply Lo 7 (x:=!L.aN.all (cP l q.out)) O O O O Y O O O O O;·intro bz;refine Vg (ew 2 ah O O<|H)<|Vg (Ym O)<|Vg (Yo s6 O O a9 av)<|Vg (Yf h2 O)<|Vg (ew 5 ah O O<|a' 1 _ O)<|Vg (wW O) ?_;refine Lp (.g rfl rfl rfl) rfl bp rfl (λw f=>af6 i ax.a1 ax.c1 L.aN a_.aN Q (bv J<|dT (λn:ac=>aR.int an n) (db q.out 0) q.out.length) G p ap J af F.1 F.2 l q.out R (by simp [bv]) aO aK aL w (f.vs _ (by simp)) (f.vs _ (by simp)) ((f.yp 1 rfl).vs _ (by simp)) (f.vs _ (by simp)) (f.vs _ (by simp)) (λs ba=>by obtain ⟨j,bb⟩:=A.aN L (aW M) s ba;rw [bb];rfl))<|Gt 7 O O O
   refine ag<|Cc O (λE=>?_)<|λE=>?_
   ·have bc:ph l q.out x=aq:=by rw [UM az] at E;simpa using E
    refine Ce<|Ex<|ee<|Et<|Cr<|V0 (Yi O O O (by omega))<|ab O<|Ln ?_;exact Ea (k+1) (by omega) ⟨by omega,λy e t o=>by
     rcases oq.1 t with h | h;·exact T y e h o
     ·subst h;rw [K] at o;injection o with o;subst o;exact bc⟩ (sc rfl<|sc rfl<|sc rfl<|sc rfl<|sc rfl<|sc rfl<|sc rfl<|sc rfl sn)<|λ_ h=>h
   have W:ph l q.out x=ad:=by rw [UM az] at E;simpa using E
   have X:q.out.contains x=aq:=by unfold ph at W;revert W;cases q.out.contains x<;>simp
   have bd:AD l q.out x:=Xd C.1 C.2 K W<|λy e t o=>T y e t o;refine ay<|ak<|V0 (ew 0 ah O O<|R)<|ab O<|V0 (rj 1 m4 HH k' lY O O O) ?_;rw [JB,X,aj (by decide)];refine V0 (show Yl _ _ _ _<|am an 1 from o7 (a:=0) (b:=1) O O O O (by omega))<|WL.rk 1 m4 Y HH k' O O O O ?_;rw [(OQ X).1,(OQ X).2];refine ag<|ak<|ab O<|ab O ?_;refine Lb Y O gn O O O O λbA=>eb 0 (aY (kW x).toArray 3 (0,0)) O O<|LA x 1 0 Y O gn O O O O O O (by omega) (by omega) λbf bg=>au O<|ag<|Ce<|B3 O<|Ex<|Ex<|B3 O<|Ex<|ee ?_;exact Ea (⟨q.out++[x],(bf,bg)⟩:UL) (by show _-(q.out++[x]).length<_;simp;omega) (.snoc D bd) (sc O<|sc O<|sc O<|sc O<|sc O sn)<|λ_ h=>Wd 1 h
  have bC:k=d.length:=by simp at U;omega
  have bh:=Xe C.1<|λy e t=>T y e (by have:=(cN.1 t).1;omega) t;refine Ce<|Ex<|Ex<|ee<|Et<|ak<|au O<|au O<|ag<|bu<|aU<|Er<|aU<|Er ?_;refine WE.Mf<|WE.jv O O O λv f=>⟨((ao,0),[],9),O,f.fr,Sl.nil,be ⟨z,q.out,⟨D,be bh⟩,by rw [o4,aj (by omega)]⟩⟩
 have aB:q.out.length=l.length:=by have bD:=CD (iB D).2 (iB D).1;simp at S;omega
 refine Ce<|Ex<|Ex<|ee<|Et<|ak<|ab O<|au O<|au O<|ag<|bu ?_;refine WE.Mf<|WE.jv O O O λv f=>⟨(q.s,q.out,0),O,f.fr,f.kb 0 O x1<|λ_ _ _ _ h=>h,be ⟨z,q.out,⟨D,bB aB⟩,by rw [o4,aD aB]⟩⟩
variable {az:ac}
def UN (h:x2 dh (cS,az)) (c:az=0) (f:0<dh.length):AB dh/\c' dh cS/\cS.length=dh.length:=by
 rcases h with ⟨b,a⟩ | ⟨b,g,d,a⟩;·injection a with _ a;exact absurd (a.symm.trans c) b
 ·unfold o4 at a;split at a;·rename_i e;injection a with a _;subst a;exact ⟨OK.1 b,d.1,e⟩
  ·injection a with _ a;rw [c] at a;cases a
def nr (l:I Tx) (r:I aI×ac):Prop:=(¬qW l=0/\r=([],qW l))\/(qW l=0/\∃q,x2 (jE l) q/\r=tO l q)
def aga {r c:I aI×ac} (h:nr eh r) (d:nr eh c):r=c:=by
 rcases h with ⟨a,rfl⟩ | ⟨a,q,e,rfl⟩
 ·rcases d with ⟨_,rfl⟩ | ⟨b,_⟩;·rfl
  ·exact absurd b a
 ·rcases d with ⟨b,_⟩ | ⟨_,q',f,rfl⟩;·exact absurd a b
  ·rw [UK e f]
variable {Fz:I aI×ac}
def agb (h:nr eh Fz) (f:Fz.2=0):qW eh=0/\∃d,x2 (jE eh) (d,0)/\AB (jE eh)/\c' (jE eh) d/\d.length=(jE eh).length/\Fz=jD (nH (jE eh) d) []:=by
 rcases h with ⟨g,rfl⟩ | ⟨g,⟨d,e⟩,i,rfl⟩;·exact absurd f g
 ·have j:e=0:=by
   unfold tO at f;by_cases k:e=0;·exact k
   ·rw [aD k] at f;exact absurd f k
  subst j;have l:0<(jE eh).length:=by have:=(KU g).1.1;simp [jE];omega
  obtain ⟨a,b,c⟩:=UN i rfl l;exact ⟨g,d,i,a,b,c,by rw [tO,aj aK]⟩
abbrev MP:=cV×ox
def A3 (x:MP):I aR:=b7 x.1 x.2
def agc (x:MP):(A3 x).length=5:=rfl
def UO (a:View) (b o:Z) (x:MP):Prop:=cB a b o<|A3 x
variable {bN cR:View} {cq:aA a6} {D9:I MP}
def agd {ke ks:Z}     (h:Sl UO 5 bN cq bE D9) (hv:cX bN cR) (d:∀y ∈ D9,oy ke ks cR y.2 y.1):Sl (x0 ke ks) 5 cR cq bE (D9.map (·.1)):=by refine ⟨by rw [fB];exact h.cap,h.max,h.spot,λi x a=>?_⟩;rw [fp] at a;obtain ⟨y,c,rfl⟩:=eQ.1 a;obtain ⟨b,o,e,f⟩:=h.ct i y c;exact ⟨b,o,e,y.2,cB.mono hv f,d y<|aW c⟩
variable {wu:ox}
def Mk (a:cX bN cR)    (h:oy bE aL bN wu bD):oy bE aL cR wu bD:= ⟨h.aN.imp λ_ _ _ h=>cB.mono a h,h.decls.imp λ_ _ _ h=>cB.mono a h,h.procs.imp λb o x c=>N2 a (c7 _) (c7 _) b o x c,h.main.imp λb o x c=>yF a (c7 _) (c7 _) b o x c⟩
abbrev FP:=j4×SP
def HJ (x:FP):I aR:=Tl x.1 x.2
def age (x:FP):(HJ x).length=2:=rfl
def UP (a:View) (b o:Z) (x:FP):Prop:=cB a b o<|HJ x
def agf {ys:I FP} (h:Sl UP 2 bN cq bE ys) (hv:cX bN cR) (d:∀y ∈ ys,Sl nV 4 cR y.2.1 y.2.2 y.1.2):Sl G6 2 cR cq bE (ys.map (·.1)):=by refine ⟨by rw [fB];exact h.cap,h.max,h.spot,λi x a=>?_⟩;rw [fp] at a;obtain ⟨y,c,rfl⟩:=eQ.1 a;obtain ⟨b,o,e,f⟩:=h.ct i y c;exact ⟨b,o,e,y.2,cB.mono hv f,d y<|aW c⟩
def vg (J:View) (M:I<|fz Tx) (fl:I<|Tx×j4):Prop:=∀s,∃r:SP,bO s M (b0 #[st [],aE ao 0 0]) = b0 #[st (iN fl s).1,aE r.1 (iN fl s).2.length r.2]/\Sl nV 4 J r.1 r.2 (iN fl s).2
def vg.nil:vg bN [] []:=λ_=>⟨(ao,0),rfl,Sl.nil⟩
variable {Ej:I<|fz Tx} {Hs:I<|Tx×j4}
def vg.mv (h:vg bN Ej Hs) (hv:cX bN cR):vg cR Ej Hs:=λs=>by obtain ⟨r,a,b⟩:=h s;exact ⟨r,a,LJ hv b⟩
def vg.put (h:vg bN Ej Hs)  {f:j4}   (c:Z) (b:Sl nV 4 bN cq bE f.2):vg bN (gB bR (b0 #[st f.1,aE cq f.2.length bE]) Ej c)<|(bR,f)::Hs:=λs=>by
 by_cases e:s=bR;·subst e;refine ⟨(cq,bE),by rw [yM,iN,aD rfl],?_⟩;rw [iN,aD rfl];exact b
 ·obtain ⟨r,d,g⟩:=h s;have a:¬bR=s:=λq=>e q.symm;refine ⟨r,by rw [CF _ Ej c _ e,d,iN,aj a],?_⟩;rw [iN,aj a];exact g
structure KZ where
 i:Z
 es:I MP
 m:SP
 J:View
structure UQ where
 i:Z
 us:I XU
 o:SP
 fl:I<|Tx×j4
 M:I<|fz Tx
 c:Z
 J:View
structure UR where
 k:Z
 es:I FP
 r:SP
def agh (a:¬(eh.length<1\/4<eh.length)) (b:∀s ∈ eh.take bE,(hJ s).2=0) (c:eh[bE]? = aa bR) (h:¬(hJ bR).2=0):qW eh=(hJ bR).2:=by rw [qW,aj a];exact KT b c h
def agi (b:∀s ∈ eh.take bE,(hJ s).2=0) (c:eh[bE]? = aa bR) (h:(hJ bR).2=0):∀s ∈ eh.take (bE+1),(hJ s).2=0:=λs a=>by
 rw [l3 c] at a;rcases fe.1 a with k | k;·exact b s k
 ·rw [e_] at k;subst k;exact h
def agj (a:D9.map (·.1)=jE (eh.take bE)) (b:eh[bE]? = aa bR):(D9++[((hJ bR).1,wu)]).map (·.1)=jE (eh.take<|bE+1):=by rw [qs,a,l3 b];simp [jE]
def agk {l:I cV}   (h:¬bE<cS.length):nH l (cS.drop bE)=[]:=by rw [k0 ai];rfl
def US:ii aC 206 27 (b0 #[st [],aE ao 0 0,aE ao 0 0,aE ao 0 0,aE ao 0 0]) 5 112:=j_ ah
def UT:aC.underlying 209=aa (.map 9 42):=ah
def UU (j n:View) (a:aA a6) (c:Z) (l:I Tx) (w:aP) (bf:Le j w) (C:Le n w) (bg:Laid n) (X:Sl rdStr 1 j a c l) :
   cx aC 33 #[aE a l.length c] w λe u=>∃r:SP×I aI×ac,e = cf (cO #[aE r.1.1 r.2.1.length r.1.2,am an r.2.2])/\Ext w u/\Sl (D2 8 7) 5 (nv w u) r.1.1 r.1.2 r.2.1/\nr l r.2:=by
 have co:=X.cap;have cp:=X.max;refine enter func33 O 109 O O<|CE (Vs:=[j,n]) (Ws.init (by simp [bf,C]))<|ak<|au O<|au O<|ag<|Cs<|ak<|ab O<|V0 (Yn gf O)<|V0 (c8 O O) ?_;refine ab O ?_;apply Lo 3 O O O O Y O O O O O;·intro cq;refine Vg (Ym O)<|Vg (Yn gf O)<|Vg (eZ O O) ?_;exact Gt 3 O O O
 refine ag<|Cc O (λae=>?_)<|λae=>?_
 ·have f:l.length<1\/4<l.length:=by simp at ae;omega
  refine ak<|au O<|au O<|ag<|bu<|Er ?_;refine WE.jv O O O λu b=>?_;have H:qW l=2:=by rw [qW,aD f]
  exact ⟨((ao,0),[],2),O,b.fr,Sl.nil,bB ⟨by rw [H];decide,by rw [H]⟩⟩
 have bh:¬(l.length<1\/4<l.length):=by simp at ae;omega
 refine ay<|ak<|au O<|LW (λ_ h=>h.hM 27 5) ?_;refine WL.v0<|ag<|Cs<|ak<|ab O<|V0 (Yn gf O)<|ab O<|ag<|Cb ?_;refine nQ (ι:=KZ) (λg=>[(32,am an (g.i:ac)),(4,aE g.m.1 g.es.length g.m.2)]) [(30,_),(31,_)] (λg=>Ws w [] [cQ 27 5 A3 g.m.1 g.m.2 g.es] [g.J,j,n]) (λg=>g.i<=l.length/\g.es.map (·.1)=jE (l.take g.i)/\(∀s ∈ l.take g.i,(hJ s).2=0)/\hf w g.J/\(∀e ∈ g.es,oy 7 6 g.J e.2 e.1)/\g.es.length=g.i) (λg=>l.length-g.i) ⟨0,[],(ao,0),v0⟩ ⟨dw _,O,by simp,fK w,by simp,O⟩ (sc O<|sc O<|sc O<|sc O sn) (λ_ h=>by have h:=Ws.aZ h (cI:=[v0,j,n]) (by simp);exact h) λg ⟨hi,L,N,bi,a2,bj⟩=>ak<|V0 (c8 O O)<|ag<|Cs ?_;refine Cc O (λaf=>?_)<|λaf=>?_
 ·have ai:g.i<l.length:=by simpa using af
  obtain ⟨x,v⟩:∃q,l[g.i]? = aa q:=⟨_,cy ai⟩;obtain ⟨al,ap,av,D⟩:=X.ct g.i x v;have D:cB j al (ap+g.i*1)<|g4 x:=D;refine ay<|Cs<|Cb<|ak<|V0 (Yo gf O O av (by omega))<|V0 (ew 1 ah O O<|D 0 _ O)<|au O<|ag<|ak<|ab O ?_;refine Ld Y O bp O (λr:ox=>cO #[b0 (b7 ((hJ x).1) r).toArray,am an ((hJ x).2)]) (λax r=>oy 7 6 ax r<|(hJ x).1) (λw b=>by have:=acC n x w (b.vs _ (by simp)) bg;exact this) λcr az bk bl=>ab O<|V0 (Yx O O)<|V0 (Yx O O) ?_;refine Al Y O u9 λcs=>aw 0 Y O O O u' O O O<|au O<|ag<|Cs<|ak<|ab O<|V0 (ha O O)<|ag ?_;refine Cc O (λaB=>?_)<|λaB=>?_
  ·have f:¬(hJ x).2=0:=by simpa using aB
   refine ak<|ab O<|au O<|au O<|ag<|bu<|Er<|aU<|Er<|Er<|aU<|Er ?_;refine WE.jv O O O λu b=>?_;have H:=agh bh N v f;exact ⟨((ao,0),[],(hJ x).2),O,b.fr,Sl.nil,bB ⟨by rw [H];exact f,by rw [H]⟩⟩
  have bm:(hJ x).2=0:=by simpa using aB
  refine ay<|Cr<|ab O<|V0 (dW 0 O O nn O) ?_;refine Lb Y O US O O O O λcu=>eb 0 (aY (A3 ((hJ x).1,az)).toArray 27 (0,0)) O O<|LA ((hJ x).1,az) 2 0 Y O US O O O O O O (by omega) (by omega) λbn bo=>WL.cb λbq br bs bt=>au O<|Ln<|Eb<|Et<|Cr<|V0 (Yi O O O (by omega))<|ab O<|Ln ?_;exact Ea (⟨g.i+1,g.es++[((hJ x).1,az)],(bn,bo),bq⟩:KZ) (by show _-(g.i+1)<_;omega) ⟨by show g.i+1<=_;omega,agj L v,agi N v bm,bt w bk bi,λy t=>by
   rcases fe.1 t with k | k;·exact Mk bs<|a2 y k
   ·rw [e_] at k;subst k;exact Mk br bl,by simp [bj]⟩ (sc rfl<|sc rfl<|sc rfl<|sc rfl sn)<|λ_ h=>Wd 2 h
 have bv:g.i=l.length:=by simp at af;omega
 rw [bv,gH] at L N;have P:qW l=0:=Rx (by omega) N;have bw:g.es.length=(jE l).length:=by rw [<-L,fB]
 rw [bw];have a3:∀m ∈ jE l,wM m<=109951162777:=λm bx=>by obtain ⟨s,_,rfl⟩:=o2.1 bx;have:=Tu s;omega
 refine Ce<|Ex<|Ex<|ee<|Et<|Cs ?_;refine WC.dM (rd:=UO) 0 O agc (λ_ _ _ _ h=>h) λcv bz=>WC.cb λA bA bC cw=>?_;have Q:Sl (x0 7 6) 5 A g.m.1 g.m.2<|jE l:=by have E:=agd (ke:=7) (ks:=6) bz bA λy t=>Mk bC<|a2 y t;rw [L] at E;exact E
 have cz:=Q.cap;have cA:=Q.max;refine Cr<|ab O ?_;refine Ld Y O bp O (λr:SP×I Z×ac=>cO #[aE r.1.1 r.2.1.length r.1.2,am an r.2.2]) (λF r=>Sl Mg 1 F r.1.1 r.1.2 r.2.1/\x2 (jE l) r.2) (λw b=>af_ A 7 6 g.m.1 g.m.2 (jE l) w (b.vs _ (by simp)) Q a3) ?_;intro R bD cC bE;obtain ⟨cD,d,B⟩:=bD;obtain ⟨S,G⟩:=bE;dsimp only at S G;have cE:=S.cap;have cF:=S.max;refine ab O<|V0 (Yx O O)<|V0 (Yx O O)<|au O<|au O<|ag<|Cs<|ak<|ab O<|V0 (ha O O) ?_;refine ag<|Cc O (λaF=>?_)<|λaF=>?_
 ·have f:¬B=0:=by simpa using aF
  refine ak<|ab O<|au O<|au O<|ag<|bu<|Er ?_;refine WE.jv O O O λu b=>⟨((ao,0),[],B),O,b.fr,Sl.nil,be ⟨P,(d,B),G,by rw [tO,aD f]⟩⟩
 have T:B=0:=by simpa using aF
 have bF:0<(jE l).length:=by simp [jE];omega
 obtain ⟨a4,bG,cG⟩:=UN G T bF;have cH:=a4.fH;refine ay<|ak ?_;refine WL.pT st Y O λa5=>eb 0 (dT st ([]:I (fz Tx)) 0) O O<|au O<|ag<|ak<|au O<|LW (λ_ h=>h.hM 37 5) ?_;refine WL.v0<|ag<|Cs<|ak<|ab O<|V0 (Yn e8 O)<|ab O<|ag<|Cb ?_;refine nQ (ι:=UQ) (λp=>[(60,am an (p.i:ac)),(12,aE p.o.1 p.us.length p.o.2)]) [(4,_),(11,_),(58,_),(59,_)] (λp=>Ws w [] [cQ 37 5 XU.cells p.o.1 p.o.2 p.us,aQ a5<|dT st p.M p.c] [p.J,R,A,j,n]) (λp=>p.i<=d.length/\jD (nH (jE l) d) []=we (p.us.map (·.1)) (jD (nH (jE l)<|d.drop p.i) p.fl)/\hf w p.J/\(∀e ∈ p.us,dY 8 7 p.J e.2 e.1)/\vg p.J p.M p.fl/\p.us.length=p.i) (λp=>d.length-p.i) ⟨0,[],(ao,0),[],[],0,v0⟩ ⟨dw _,Ru _ _,fK w,by simp,vg.nil,O⟩ (sc O<|sc O<|sc O<|sc O<|sc O<|sc O sn) (λ_ h=>by have h:=Ws.aZ h (cI:=[v0,R,A,j,n]) (by simp);exact h) λp ⟨cJ,C,a7,a8,a9,bI⟩=>ak<|V0 (c8 O O)<|ag<|Cs ?_;refine Cc O (λaG=>?_)<|λaG=>?_
 ·have bJ:p.i<d.length:=by simpa using aG
  obtain ⟨x,v⟩:∃x,d[p.i]? = aa x:=⟨_,cy bJ⟩;obtain ⟨al,ap,av,D⟩:=S.ct p.i x v;have D:cB R al (ap+p.i*1)<|kW x:=D;have bK:x<(jE l).length:=(iB bG).1 x<|aW v;obtain ⟨m,U⟩:∃m,(jE l)[x]? = aa m:=⟨_,cy bK⟩;obtain ⟨cK,cL,bL,aH,bM,K⟩:=Q.ct x m U;have a':=a3 m<|aW U;have aK:=aaf v U;have cM:=(FB<|a4.vI m<|aW U).fH;have cN:=K.aN.cap;have cP:=K.aN.max;refine ay<|Cs<|Cb<|ak<|V0 (Yo e8 O O av (by omega))<|V0 (ew 1 ah O O<|D 0 _ O)<|au O<|ag<|ak<|ab O<|ab O<|V0 (Yo s6 O O bL (by omega)) ?_;refine V0 (eB 2 nn O O O<|bM)<|Al Y O u9 λbN=>aw 0 Y O O O u' O O O<|ag<|ak<|au O<|LW (λ_ h=>h.hM 42 2)<|ag<|Cs<|ak<|V0 (Yf h2 O)<|V0 (Yd 1 O O O ah)<|V0 (Yn gf O) ?_;refine ab O<|ag<|Cb ?_;refine nQ (ι:=UR) (λz=>[(71,am an (z.k:ac)),(16,aE z.r.1 z.es.length z.r.2)]) [(4,_),(11,_),(12,_),(15,_),(58,_),(59,_),(60,_),(69,_),(70,_)] (λz=>Ws w [] [cQ 42 2 HJ z.r.1 z.r.2 z.es,aQ bN<|aY (b7 m aH).toArray 27 (0,0),cQ 37 5 XU.cells p.o.1 p.o.2 p.us,aQ a5<|dT st p.M p.c] [p.J,R,A,j,n]) (λz=>z.k<=m.aN.length/\z.es.map (·.1)=(m.aN.take z.k).map (iN p.fl)/\(∀e ∈ z.es,Sl nV 4 p.J e.2.1 e.2.2 e.1.2)/\z.es.length=z.k) (λz=>m.aN.length-z.k) ⟨0,[],(ao,0)⟩ ⟨dw _,O,by simp,O⟩ (sc O<|sc O<|sc O<|sc O<|sc O<|sc O<|sc O<|sc O<|sc O<|sc O<|sc O sn) (λ_ h=>h) λz ⟨cR,V,a_,bO⟩=>ak<|V0 (c8 O O)<|ag<|Cs ?_;refine Cc O (λaL=>?_)<|λaL=>?_
  ·have ai:z.k<m.aN.length:=by simpa using aL
   obtain ⟨s,ba⟩:∃q,m.aN[z.k]? = aa q:=⟨_,cy ai⟩;obtain ⟨bP,pos,bQ,aM⟩:=K.aN.ct z.k s ba;have aM:cB A bP (pos+z.k*1)<|g4 s:=aM;obtain ⟨rs,aO,bR⟩:=a9 s;refine ay<|Cs<|Cb<|ak<|V0 (Yo gf O O bQ (by omega))<|V0 (ew 2 ah O O<|aM 0 _ O)<|au O<|ag<|Cr<|ab O<|ab O<|ab O ?_;refine V0 (rj 3 jx UT ah ww O O O) ?_;rw [aO];refine Lb Y O Tv O O O O λcS=>eb 0 (aY (HJ (iN p.fl s,rs)).toArray 42 (0,0)) O O<|LA (iN p.fl s,rs) 1 0 Y O Tv O O O O O O (by omega) (by omega) λbS bT=>au O<|Ln<|Eb<|Et<|Cr<|V0 (Yi O O O (by omega))<|ab O<|Ln ?_;exact Ea (⟨z.k+1,z.es++[(iN p.fl s,rs)],(bS,bT)⟩:UR) (by show _-(z.k+1)<_;omega) ⟨by show z.k+1<=_;omega,by rw [qs,V,l3 ba];simp,λy t=>by
    rcases fe.1 t with k | k;·exact a_ y k
    ·rw [e_] at k;subst k;exact bR,by simp [bO]⟩ (sc rfl<|sc rfl<|sc rfl<|sc rfl<|sc rfl<|sc rfl<|sc rfl<|sc rfl<|sc rfl<|sc rfl<|sc rfl sn)<|λ_ h=>Wd 1 h
  have aO:z.k=m.aN.length:=by simp at aL;omega
  rw [aO,gH] at V;have bU:z.es.length=(m.aN.map<|iN p.fl).length:=by rw [<-V,fB]
  rw [bU];refine Ce<|Ex<|Ex<|ee<|Et<|ak<|V0 (dW 1 O O nn O) ?_;refine Ld Y O bp O (λr:SP=>cO #[b0 #[st (eW m).1.1,aE r.1 (eW m).1.2.length r.2],am an (eW m).2]) (λax r=>Sl nV 4 ax r.1 r.2 (eW m).1.2) (λw b=>S7 A 7 6 aH m w (b.vs _ (by simp)) K a') λcT bb bV bX=>ab O<|V0 (Yx O O)<|V0 (Yx O O) ?_;refine Al Y O ww λcU=>aw 0 Y O O O zu O O O<|au O<|ag<|Cs<|ak<|ab O<|V0 (ha O O)<|ag ?_;refine Cc O (λaT=>?_)<|λaT=>?_
  ·have f:¬(eW m).2=0:=by simpa using aT
   refine ak<|ab O<|au O<|au O<|ag<|bu<|Er<|aU<|Er<|Er<|aU<|Er ?_;refine WE.jv O O O λu b=>⟨((ao,0),[],(eW m).2),O,b.fr,Sl.nil,be ⟨P,(d,B),G,by rw [tO,aj (by simpa using T),C,aK,Rv (by rw [KS f];exact f),KS f]⟩⟩
  have bY:(eW m).2=0:=by simpa using aT
  have W:=Rw (M:=p.fl) bY;refine ay<|Cs ?_;refine WC.qD (rd:=UP) 1 O (by simp) age (λ_ _ _ _ h=>h) λcV bZ b1=>WC.cb λcW b2 b3 b4=>WC.cb λbc bd aV b5=>?_;have b6:Sl G6 2 bc z.r.1 z.r.2<|m.aN.map<|iN p.fl:=by have E:=agf b1 (λ_ _ h=>bd _ _<|b2 _ _ h) λy t=>LJ (λ_ _ h=>aV _ _ h)<|a_ y t;rw [V] at E;exact E
  refine Cr<|V0 (dW 1 O O nn O)<|ab O ?_;refine Ld Y O bp O (λr:p0=>cO #[b0 (ij (jL m<|m.aN.map<|iN p.fl).1 r).toArray,am an (jL m<|m.aN.map<|iN p.fl).2]) (λF r=>dY (7+1) (6+1) F r (jL m<|m.aN.map<|iN p.fl).1) (λw b=>by skip;exact adG A bc 7 6 aH m z.r.1 z.r.2 (m.aN.map<|iN p.fl) w (b.vs _ (by simp)) (b.vs _ (by simp)) K b6 a') λcX aX b9 b'=>ab O<|V0 (Yx O O)<|V0 (Yx O O) ?_;refine Al Y O sU λcZ=>aw 0 Y O O O sV O O O<|au O<|ag<|Cs<|ak<|ab O<|V0 (ha O O)<|ag ?_;refine Cc O (λa0=>?_)<|λa0=>?_
  ·have f:¬(jL m<|m.aN.map<|iN p.fl).2=0:=by simpa using a0
   refine ak<|ab O<|au O<|au O<|ag<|bu<|Er<|aU<|Er<|Er<|aU<|Er ?_;refine WE.jv O O O λu b=>⟨((ao,0),[],(jL m<|m.aN.map<|iN p.fl).2),O,b.fr,Sl.nil,be ⟨P,(d,B),G,by rw [tO,aj (by simpa using T),C,aK,Rv (by rw [W];exact f),W]⟩⟩
  have b_:(jL m<|m.aN.map<|iN p.fl).2=0:=by simpa using a0
  refine ay<|ak<|ab O<|V0 (Yf zj O)<|V0 (Yd 2 O O O ah)<|V0 (dW 1 O O zv O) ?_;refine WL.rk 4 jx Y UT ah O O O O<|ag<|Cr<|ab O<|V0 (dW 0 O O mY O) ?_;refine Lb Y O TR O O O O λc0=>eb 0 (aY (XU.cells ((jL m<|m.aN.map<|iN p.fl).1,aX)).toArray 37 (0,0)) O O<|LA ((jL m<|m.aN.map<|iN p.fl).1,aX) 4 0 Y O TR O O O O O O (by omega) (by omega) λca cc=>WL.cb λcd ce a1 ch=>au O<|Ln<|Eb<|Et<|Cr<|V0 (Yi O O O (by omega))<|ab O<|Ln ?_;exact Ea (⟨p.i+1,p.us++[((jL m<|m.aN.map<|iN p.fl).1,aX)],(ca,cc),(m.nm,(eW m).1)::p.fl,gB m.nm (b0 #[st (eW m).1.1,aE bb.1 (eW m).1.2.length bb.2]) p.M p.c,kc m.nm p.M p.c,cd⟩:UQ) (by show _-(p.i+1)<_;omega) ⟨by show p.i+1<=_;omega,by have E:=KR (us:=p.us.map (·.1)) (r:=nH (jE l)<|d.drop<|p.i+1) (show (jR p.fl m).2=0 by rw [W];exact b_);rw [C,aK,E,W];simp,ch w b9<|b5 w (b4 w (by exact bZ) bV) a7,λy t=>by
   rcases fe.1 t with k | k;·exact (a8 y k).mv<|λ_ _ h=>a1 _ _<|aV _ _ h
   ·rw [e_] at k;subst k;exact b'.mv ce,(a9.mv<|λ_ _ h=>a1 _ _<|aV _ _ h).put _<|LJ (λ_ _ h=>a1 _ _<|bd _ _<|b3 _ _ h) bX,by simp [bI]⟩ (sc rfl<|sc rfl<|sc rfl<|sc rfl<|sc rfl<|sc rfl sn)<|λ_ h=>Wd 4 h
 have ci:¬p.i<d.length:=by simpa using aG
 refine Ce<|Ex<|Ex<|ee<|Et<|ak<|ab O<|au O<|au O<|ag<|bu ?_;refine WE.jv O O O λu b=>?_;have cj:=agk (l:=jE l) ci;rw [cj] at C;have ck:(p.us.map (·.1),(0:ac))=tO l (d,B):=by rw [tO,aj (by simpa using T),C];simp [we,jD]
 refine ⟨(p.o,p.us.map (·.1),0),by rw [fB],b.fr,?_,be ⟨P,(d,B),G,ck⟩⟩;have cl:=b.kb (rd:=TQ) 0 rfl XU.dR<|λ_ _ _ _ h=>h;exact aed cl (λ_ _ h=>h) λe cm=>(a8 e cm).mv<|fm b (by simp) a7
def UV (h:nr eh Fz):∀u ∈ Fz.1,vK u<=1048576:=by
 rcases h with ⟨_,rfl⟩ | ⟨_,q,_,rfl⟩;·intro u a;simp at a
 ·intro u a;unfold tO at a;split at a;·simp at a
  ·refine pG (Rt (b:=73728) _ _ (λm c=>?_) u a) a8;unfold nH at c;obtain ⟨i,_,hi⟩:=MU.1 c;obtain ⟨s,_,rfl⟩:=o2.1<|aW hi;exact Tu s
def agl (h:nr eh Fz):Fz.1.length<=4:=by
 rcases h with ⟨_,rfl⟩ | ⟨b,q,c,rfl⟩;·simp
 ·unfold tO;split;·simp
  ·have e:(jE eh).length<=4:=by have:=(KU b).1.2;simpa [jE] using this
   refine pG (Oz _ _)<|pG (m:=q.1.length) ?_ ?_;·unfold nH;exact I.length_filterMap_le _ _
   ·rcases c with ⟨_,rfl⟩ | ⟨_,d,a,rfl⟩;·simp
    ·have:=CD (iB a.1).2 (iB a.1).1;unfold o4;split;·show d.length<=4;omega
     ·simp
structure UW where
 i:Z
 es:I XO
 o:SP
 J:View
structure GB5 where
 i:Z
 es:I FP
 r:SP
 J:View
def oj (u:aI):dU:=(bI u).1.to
variable {df:I aI} {eA:aI}
def agm (a:∀s ∈ df.take bE,(bI s).2=0) (b:df[bE]? = aa eA) (h:¬(bI eA).2=0):j5 (df,0)=(([],0),(bI eA).2):=by have e:Dn df=(bI eA).2:=KT a b h;rw [j5,aj aK,e,aD h]
def UX (a:∀s ∈ df,(bI s).2=0):j5 (df,0)=iu (df.map oj):=by have e:Dn df=0:=sf.2 a;rw [j5,aj aK,e,aj aK];rfl
def UY {us:I aI}  (h:¬az=0):j5 (us,az)=(([],0),az):=by rw [j5,aD h]
def agn (b:∀s ∈ df.take bE,(bI s).2=0) (c:df[bE]? = aa eA) (h:(bI eA).2=0):∀s ∈ df.take (bE+1),(bI s).2=0:=λs a=>by
 rw [l3 c] at a;rcases fe.1 a with k | k;·exact b s k
 ·rw [e_] at k;subst k;exact h
def ago {es:I XO}  (h:Sl G8 7 bN cq bE es) (hv:cX bN cR) (a:∀e ∈ es,jb cR e.2 e.1) (b:es.map (·.1)=df.map oj):Sl D4 7 cR cq bE<|df.map oj:=by rw [<-b];exact aeh h hv a
def agp (f j:View) (a:aA a6) (c:Z) (l:I Tx) (w:aP) (M:Le f w) (N:Le j w) (P:Laid j) (Q:Sl rdStr 1 f a c l) : cx aC 34 #[aE a l.length c] w λe n=>∃r:SP×I aI×ac,e = cf (cO #[b0 #[aE r.1.1 (j5 r.2).1.1.length r.1.2,am an (j5 r.2).1.2],am an (j5 r.2).2])/\Ext w n/\Sl kj 3 (nv w n) r.1.1 r.1.2 (j5 r.2).1.1/\nr l r.2:=by
 refine enter func34 O 44 O O<|CE (Vs:=[f,j]) (Ws.init (by simp [M,N]))<|ak ?_;refine Al Y O eM λR=>au O<|ag<|ak<|ab O ?_;refine Ld Y O bp O (λr:SP×I aI×ac=>cO #[aE r.1.1 r.2.1.length r.1.2,am an r.2.2]) (λF r=>Sl (D2 8 7) 5 F r.1.1 r.1.2 r.2.1/\nr l r.2) (λw b=>UU f j a c l w (b.vs _ (by simp)) (b.vs _ (by simp)) P Q) ?_;intro z S aX T;obtain ⟨a0,us,A⟩:=S;obtain ⟨t,m⟩:=T;dsimp only at t m;have a1:=t.cap;have a2:=t.max;have a3:us.length<=4:=agl m;refine ab O<|V0 (Yx O O)<|V0 (Yx O O)<|au O<|au O<|ag<|Cs<|ak<|ab O<|V0 (ha O O) ?_;refine ag<|Cc O (λB=>?_)<|λB=>?_
 ·have C:¬A=0:=by simpa using B
  refine ak<|V0 (Yb eM xr O O)<|ab O<|aw 0 Y O O O sx O O O<|au O<|ag<|bu<|Er ?_;refine WE.gF (hX O (fj 0 O O pn O)<|jI O) λn b=>?_;have d:=UY (us:=us) C;refine ⟨((ao,0),us,A),?_,b.fr,?_,m⟩;·dsimp only;rw [d];rfl
  ·dsimp only;rw [d];exact Sl.nil
 have U:A=0:=by simpa using B
 subst U;refine ay<|ak<|au O<|LW (λ_ h=>h.hM 77 7) ?_;refine WL.v0<|ag<|Cs<|ak<|ab O<|V0 (Yn oV O)<|ab O<|ag<|Cb ?_;refine nQ (ι:=UW) (λg=>[(22,am an (g.i:ac)),(6,aE g.o.1 g.es.length g.o.2)]) [(2,_),(20,_),(21,_)] (λg=>Ws w [] [cQ 77 7 XO.cells g.o.1 g.o.2 g.es,aQ R<|aY #[aE ao 0 0,am an 0] 57 (0,0)] [g.J,z,f,j]) (λg=>g.i<=us.length/\g.es.map (·.1)=(us.take g.i).map oj/\(∀s ∈ us.take g.i,(bI s).2=0)/\hf w g.J/\(∀e ∈ g.es,jb g.J e.2 e.1)/\g.es.length=g.i) (λg=>us.length-g.i) ⟨0,[],(ao,0),v0⟩ ⟨dw _,O,by simp,fK w,by simp,O⟩ (sc O<|sc O<|sc O<|sc O<|sc O sn) (λ_ h=>by have h:=Ws.aZ h (cI:=[v0,z,f,j]) (by simp);exact h) λg ⟨hi,v,x,V,K,W⟩=>ak<|V0 (c8 O O)<|ag<|Cs ?_;refine Cc O (λD=>?_)<|λD=>?_
 ·have X:g.i<us.length:=by simpa using D
  obtain ⟨u,p⟩:∃u,us[g.i]? = aa u:=⟨_,cy X⟩;obtain ⟨a4,a5,ae,af,ah,ai⟩:=t.ct g.i u p;refine ay<|Cs<|Cb<|ak<|V0 (Yo oV O O ae (by omega))<|V0 (eB 1 mY O O O<|ah) ?_;refine Al Y O sU λa7=>aw 0 Y O O O sV O O O<|ag<|ak<|V0 (dW 0 O O mY O) ?_;refine Ld Y O bp O (λr:eG=>cO #[b0 (nD (oj u) r).toArray,am an (bI u).2]) (λF r=>jb F r<|oj u) (λw b=>aei z 8 7 u af w (b.vs _ (by simp)) ai<|UV m u<|aW p) λa8 E aj al=>ab O<|V0 (Yx O O)<|V0 (Yx O O) ?_;refine Al Y O vd λa9=>aw 0 Y O O O wA O O O<|au O<|ag<|Cs<|ak<|ab O<|V0 (ha O O)<|ag ?_;refine Cc O (λG=>?_)<|λG=>?_
  ·have C:¬(bI u).2=0:=by simpa using G
   refine ak<|V0 (Yb eM xr O O)<|ab O<|aw 3 Y O O O sx O O O<|au O<|ag<|bu<|Er<|aU<|Er<|Er<|aU<|Er ?_;refine WE.gF (hX O (fj 3 O O pn O)<|jI O) λn b=>?_;have d:=agm x p C;refine ⟨((ao,0),us,0),?_,b.fr,?_,m⟩;·dsimp only;rw [d];rfl
   ·dsimp only;rw [d];exact Sl.nil
  have ap:(bI u).2=0:=by simpa using G
  refine ay<|Cr<|ab O<|V0 (dW 0 O O h_ O) ?_;refine Lb Y O TT O O O O λa'=>eb 0 (aY (XO.cells (oj u,E)).toArray 77 (0,0)) O O<|LA (oj u,E) 3 0 Y O TT O O O O O O (by omega) (by omega) λav ax=>WL.cb λaz aB aD aF=>au O<|Ln<|Eb<|Et<|Cr<|V0 (Yi O O O (by omega))<|ab O<|Ln ?_;exact Ea (⟨g.i+1,g.es++[(oj u,E)],(av,ax),az⟩:UW) (by show _-(g.i+1)<_;omega) ⟨by show g.i+1<=_;omega,by rw [qs,v,l3 p];simp,agn x p ap,aF w aj V,λy H=>by
   rcases fe.1 H with k | k;·exact LX (K y k) aD
   ·rw [e_] at k;subst k;exact LX al aB,by simp [W]⟩ (sc rfl<|sc rfl<|sc rfl<|sc rfl<|sc rfl sn)<|λ_ h=>Wd 3 h
 have aG:g.i=us.length:=by simp at D;omega
 rw [aG,gH] at v x;have aH:g.es.length=(us.map oj).length:=by rw [<-v,fB]
 rw [aH];refine Ce<|Ex<|Ex<|ee<|Et<|Cs ?_;refine WC.dM (rd:=G8) 0 O XO.dR (λ_ _ _ _ h=>h) λa_ aK=>WC.cb λL aL aM ba=>?_;have aN:Sl D4 7 L g.o.1 g.o.2<|us.map oj:=ago aK aL (λy H=>LX (K y H) aM) v;refine Cr<|ab O ?_;refine Ld Y O bp O (λq:SP=>cO #[b0 #[aE q.1 (iu<|us.map oj).1.1.length q.2,am an (iu<|us.map oj).1.2],am an (iu<|us.map oj).2]) (λF q=>Sl kj 3 F q.1 q.2 (iu<|us.map oj).1.1) (λw b=>aer L g.o.1 g.o.2 (us.map oj) w (b.vs _ (by simp)) aN) λbb aO aT aV=>V0 (Yx O O)<|V0 (Yx O O)<|aw 0 Y O O O sx O O O<|au O<|ag<|bu ?_;refine WE.gF (hX O (fj 0 O O pn O)<|jI O) λn b=>?_;have d:=UX x;refine ⟨(aO,us,0),?_,b.fr,?_,m⟩;·dsimp only;rw [d];rfl
 ·dsimp only;rw [d];exact aV.imp λ_ _ _ h=>cB.mono (fm b (by simp) aT) h
def jg:Tx:=[109,111,100,117,108,101,32,99,110,116,32,123,32,112,117,98,32,99,111,110,115,116,32,107,32,61,32,51,32,59,32,112,117,98,32,118,97,114,32,115,117,109,32,59,32,112,117,98,32,97,114,114,97,121,32,116,32,91,32,52,32,93,32,59,32,112,117,98,32,112,114,111,99,32,100,111,119,110,32,40,32,110,32,41,32,108,111,99,97,108,32,105,32,59,32,123,32,105,32,61,32,110,32,59,32,119,104,105,108,101,32,105,32,123,32,115,117,109,32,61,32,40,32,115,117,109,32,43,32,105,32,41,32,59,32,105,32,61,32,40,32,105,32,45,32,49,32,41,32,59,32,125,32,114,101,116,117,114,110,32,115,117,109,32,59,32,125,32,109,97,105,110,32,123,32,125,32,125]
def agq:jh fb=0:=by decide +kernel
def UZ:hJ jg=(fb,0):=by
 have h:J (rJ fb)=jg:=by decide +kernel
 rw [<-h];exact Z5 agq (by rw [h];decide +kernel)
def bQ:I Z×ac:=([1,0],0)
def Ml:I<|Tx×j4:=[(fb.nm,(eW fb).1)]
def agr:me [eH,fb]=0:=by decide +kernel
def ags:x2 [eH,fb] bQ:=by refine be ⟨agr,[1,0],⟨?_,bB O⟩,O⟩;have a:c' [eH,fb]<|[]++[1]:=.snoc .nil ⟨a8,by decide +kernel,by decide +kernel⟩;have b:c' [eH,fb]<|[1]++[0]:=.snoc a ⟨a8,by decide +kernel,by decide +kernel⟩;exact b
def U1:jE [sX,jg]=[eH,fb]:=by show [(hJ sX).1,(hJ jg).1]=_;rw [UZ];rfl
def agt:qW [sX,jg]=0:=Rx a8 λs a=>by
 rcases eR.1 a with e | a;·subst e;exact adI
 ·rw [e_] at a;subst a;rw [UZ]
def agu:(jR [] fb).2=0:=by decide +kernel
def agv:(jR Ml eH).2=0:=by decide +kernel
def agw {m m':cV} (h:(jR [] m).2=0) (a:(jR [(m.nm,(eW m).1)] m').2=0):jD [m,m'] []=([(jR [] m).1,(jR [(m.nm,(eW m).1)] m').1],0):=by rw [Ru,KR h,KR a];rfl
def agx:∀r,nr [sX,jg] r->r=([(jR [] fb).1,(jR Ml eH).1],0):=λr h=>by
 rcases h with ⟨b,_⟩ | ⟨_,q,a,rfl⟩;·exact absurd agt b
 ·rw [U1] at a;have:=UK a ags;subst this;rw [tO,aj (by simp [bQ]),U1];exact agw agu agv
def agy (w:aP) : cx aC 109 #[] w λe a=>e = cf (st jg)/\Ext w a:=by refine enter func109 O 1 O O<|CE (Vs:=[]) (Ws.init aK)<|ak<|au O<|ag<|ak<|au O<|ag<|bu ?_;refine R1 O O λa b=>⟨O,b.fr⟩
def U2 {l:I dU} (h:(iu l).2=0):iu l=((jN l,bK l l.length),0):=by obtain ⟨a,b⟩:=Hl h;exact IL a b
def U3 (R:jM):Mch.jM:=⟨R.fin,R.out,R.data,R.a0⟩
def wH (q:I aI×ac) (bn:I ac) (t:ac):ac:=if q.2≠0 then q.2 else pi q.1 bn t
def c9 (q:I aI×ac) (bn:I ac) (t:ac):jM:=if q.2≠0 then ur else mN q.1 bn t
def HL:Mch.jM:=⟨0,[],[],0⟩
def hs (q:I aI×ac):I Mch.ce×ac×ac:=Mch.hd ((j5 q).1.1.map toI) (j5 q).1.2
def s7 (q:I aI×ac) (bn:I ac) (t:ac):ac:=if (j5 q).2≠0 then (j5 q).2 else if (hs q).2.2≠0 then (hs q).2.2 else Mch.k_ (hs q).1 (hs q).2.1 bn t 134217728
def j6 (q:I aI×ac) (bn:I ac) (t:ac):Mch.jM:=if (j5 q).2≠0 then HL else if (hs q).2.2≠0 then HL else (Mch.gY (hs q).1 (hs q).2.1 bn t 134217728).1
def agz (b o:Z) (u:aI) (h:D2 8 7 bN b o u):CI 8 bN b o u:=by obtain ⟨r,c,a⟩:=h;exact ⟨r,c,a.aN,a.parts.imp λb o x h=>Ou (cX.refl _) (c7 _) a8 b o x h,a.main.imp λb o x h=>Cw (cX.refl _) (c7 _) a8 b o x h⟩
def agA (h:nr eh Fz):∀u ∈ Fz.1,u.aN.length<=1048576:=λu a=>by have b:=UV h u a;have c:=O9 u;have d:=Am u.aN;omega
def U4 (g i:View) (a:aA a6) (c:Z) (l:I Tx) (j:View) (m:aA a6) (n:Z) (bn:I ac) (t:ac) (w:aP) (A:Le g w) (B:Le i w) (C:Laid i) (D:Sl rdStr 1 g a c l) (E:Le j w) (G:Sl gW 1 j m n bn) : cx aC 37 #[aE a l.length c,aE m bn.length n,am an t] w λe f=>∃(r:SP×SP) (q:I aI×ac),e = cf (cO #[b0 #[am an (c9 q bn t).fin,aE r.1.1 (c9 q bn t).out.length r.1.2,aE r.2.1 (c9 q bn t).data.length r.2.2,am an (c9 q bn t).a0],am an (wH q bn t)])/\Ext w f/\Sl gW 1 (nv w f) r.1.1 r.1.2 (c9 q bn t).out/\Sl gW 1 (nv w f) r.2.1 r.2.2 (c9 q bn t).data/\nr l q:=by
 refine enter func37 O 25 O O<|CE (Vs:=[g,i,j]) (Ws.init (by simp [A,B,E]))<|ak ?_;refine Al Y O mP λM=>au O<|ag<|ak<|ab O ?_;refine Ld Y O bp O (λr:SP×I aI×ac=>cO #[aE r.1.1 r.2.1.length r.1.2,am an r.2.2]) (λF r=>Sl (D2 8 7) 5 F r.1.1 r.1.2 r.2.1/\nr l r.2) (λw b=>UU g i a c l w (b.vs _ (by simp)) (b.vs _ (by simp)) C D) ?_;intro H J N K;obtain ⟨s,q⟩:=J;obtain ⟨u,k⟩:=K;dsimp only at u k;refine ab O<|V0 (Yx O O)<|V0 (Yx O O)<|au O<|au O<|ag<|Cs<|ak<|ab O<|V0 (ha O O) ?_;refine ag<|Cc O (λo=>?_)<|λo=>?_
 ·have v:q.2≠0:=by simpa using o
  refine ak<|V0 (Yb mP tC O O)<|ab O<|aw 0 Y O O O mO O O O<|au O<|ag<|bu<|Er ?_;refine WE.gF (hX O (fj 0 O O kD O)<|jI O) λf b=>?_;have d:c9 q bn t=ur:=aD v;have p:wH q bn t=q.2:=aD v;exact ⟨((ao,0),(ao,0)),q,by rw [d,p];rfl,b.fr,by rw [d];exact Sl.nil,by rw [d];exact Sl.nil,k⟩
 have x:¬(q.2≠0):=by simpa using o
 refine ay<|ak<|ab O<|ab O<|ab O ?_;refine Ld Y O bp O (λr:SP×SP=>cO #[b0 #[am an (mN q.1 bn t).fin,aE r.1.1 (mN q.1 bn t).out.length r.1.2,aE r.2.1 (mN q.1 bn t).data.length r.2.2,am an (mN q.1 bn t).a0],am an (pi q.1 bn t)]) (λF r=>Sl gW 1 F r.1.1 r.1.2 (mN q.1 bn t).out/\Sl gW 1 F r.2.1 r.2.2 (mN q.1 bn t).data) (λw b=>aeY H 8 s.1 s.2 q.1 j m n bn t w (b.vs _ (by simp)) (u.imp agz) (agA k) (b.vs _ (by simp)) G) λP L y z=>V0 (Yx O O)<|V0 (Yx O O)<|aw 0 Y O O O mO O O O<|au O<|ag<|bu ?_;refine WE.gF (hX O (fj 0 O O kD O)<|jI O) λf b=>?_;have d:c9 q bn t=mN q.1 bn t:=aj x;have p:wH q bn t=pi q.1 bn t:=aj x;exact ⟨L,q,by rw [d,p];rfl,b.fr,by rw [d];exact z.1.imp λ_ _ _ h=>cB.mono (fm b (by simp) y) h,by rw [d];exact z.2.imp λ_ _ _ h=>cB.mono (fm b (by simp) y) h,k⟩
def Mm (i j:View) (a:aA a6) (c:Z) (l:I Tx) (k:View) (o:aA a6) (p:Z) (bn:I ac) (t:ac) (w:aP) (G:Le i w) (H:Le j w) (J:Laid j) (K:Sl rdStr 1 i a c l) (L:Le k w) (M:Sl gW 1 k o p bn) : cx aC 38 #[aE a l.length c,aE o bn.length p,am an t] w λe f=>∃(r:SP×SP) (q:I aI×ac),e = cf (cO #[b0 #[am an (j6 q bn t).fin,aE r.1.1 (j6 q bn t).out.length r.1.2,aE r.2.1 (j6 q bn t).data.length r.2.2,am an (j6 q bn t).a0],am an (s7 q bn t)])/\Ext w f/\Sl gW 1 (nv w f) r.1.1 r.1.2 (j6 q bn t).out/\Sl gW 1 (nv w f) r.2.1 r.2.2 (j6 q bn t).data/\nr l q:=by
 refine enter func38 O 40 O O<|CE (Vs:=[i,j,k]) (Ws.init (by simp [G,H,L]))<|ak ?_;refine Al Y O mP λW=>au O<|ag<|ak<|ab O ?_;refine Ld Y O bp O (λr:SP×I aI×ac=>cO #[b0 #[aE r.1.1 (j5 r.2).1.1.length r.1.2,am an (j5 r.2).1.2],am an (j5 r.2).2]) (λF r=>Sl kj 3 F r.1.1 r.1.2 (j5 r.2).1.1/\nr l r.2) (λw b=>agp i j a c l w (b.vs _ (by simp)) (b.vs _ (by simp)) J K) ?_;intro N P X Q;obtain ⟨v,q⟩:=P;obtain ⟨x,m⟩:=Q;dsimp only at x m;refine ab O<|V0 (Yx O O)<|V0 (Yx O O) ?_;refine Al Y O eM λae=>aw 0 Y O O O sx O O O<|au O<|ag<|Cs<|ak<|ab O<|V0 (ha O O)<|ag ?_;refine Cc O (λs=>?_)<|λs=>?_
 ·have y:(j5 q).2≠0:=by simpa using s
  refine ak<|V0 (Yb mP tC O O)<|ab O<|aw 1 Y O O O mO O O O<|au O<|ag<|bu<|Er ?_;refine WE.gF (hX O (fj 1 O O kD O)<|jI O) λf b=>?_;have d:j6 q bn t=HL:=aD y;have g:s7 q bn t=(j5 q).2:=aD y;exact ⟨((ao,0),(ao,0)),q,by rw [d,g];rfl,b.fr,by rw [d];exact Sl.nil,by rw [d];exact Sl.nil,m⟩
 have n:¬((j5 q).2≠0):=by simpa using s
 refine ay<|ak<|V0 (dW 0 O O pn O) ?_;refine Ld Y O bp O (λr:SP=>cO #[b0 #[aE r.1 (hs q).1.length r.2,am an (hs q).2.1],am an (hs q).2.2]) (λF r=>Sl Mch.qN 3 F r.1 r.2 (hs q).1) (λw b=>by have z:=Mch.YK N v.1 v.2 ((j5 q).1.1.map toI) (j5 q).1.2 w (b.vs _ (by simp))<|aes x;rw [fB] at z;exact z) λR A af S=>ab O<|V0 (Yx O O)<|V0 (Yx O O)<|aw 0 Y O O O sx O O O<|au O<|ag<|Cs<|ak<|ab O<|V0 (ha O O) ?_;refine ag<|Cc O (λu=>?_)<|λu=>?_
 ·have B:(hs q).2.2≠0:=by simpa using u
  refine ak<|V0 (Yb mP tC O O)<|ab O<|aw 1 Y O O O mO O O O<|au O<|ag<|bu<|Er ?_;refine WE.gF (hX O (fj 1 O O kD O)<|jI O) λf b=>?_;have d:j6 q bn t=HL:=(aj n).trans<|aD B;have g:s7 q bn t=(hs q).2.2:=(aj n).trans<|aD B;exact ⟨((ao,0),(ao,0)),q,by rw [d,g];rfl,b.fr,by rw [d];exact Sl.nil,by rw [d];exact Sl.nil,m⟩
 have C:¬((hs q).2.2≠0):=by simpa using u
 refine ay<|ak<|V0 (dW 0 O O pn O)<|ab O<|ab O ?_;refine Ld Y O bp O (λr:SP×SP=>cO #[b0 #[am an (Mch.gY (hs q).1 (hs q).2.1 bn t 134217728).1.fin,aE r.1.1 (Mch.gY (hs q).1 (hs q).2.1 bn t 134217728).1.out.length r.1.2,aE r.2.1 (Mch.gY (hs q).1 (hs q).2.1 bn t 134217728).1.data.length r.2.2,am an (Mch.gY (hs q).1 (hs q).2.1 bn t 134217728).1.a0],am an (Mch.gY (hs q).1 (hs q).2.1 bn t 134217728).2,am an (Mch.k_ (hs q).1 (hs q).2.1 bn t 134217728)]) (λF r=>Sl gW 1 F r.1.1 r.1.2 (Mch.gY (hs q).1 (hs q).2.1 bn t 134217728).1.out/\Sl gW 1 F r.2.1 r.2.2 (Mch.gY (hs q).1 (hs q).2.1 bn t 134217728).1.data) (λw b=>(Mch.Yt R A.1 A.2 (hs q).1 (hs q).2.1 k o p bn t 134217728 w (b.vs _ (by simp)) S (b.vs _ (by simp))<|aet M).mono λe f ⟨r,k1,k2,T,U⟩=>⟨r,k1,k2,T1 T,T1 U⟩) λah V D E=>ab O<|V0 (Yx O O)<|V0 (Yx O O)<|V0 (Yx O O) ?_;refine Al Y O mP λai=>aw 0 Y O O O mO O O O<|au O<|au O<|ag<|ak<|V0 (dW 0 O O kD O)<|ab O<|aw 2 Y O O O mO O O O<|au O ?_;refine ag<|bu ?_;refine WE.gF (hX O (fj 2 O O kD O)<|jI O) λf b=>?_;have d:j6 q bn t=(Mch.gY (hs q).1 (hs q).2.1 bn t 134217728).1:=(aj n).trans<|aj C;have g:s7 q bn t=Mch.k_ (hs q).1 (hs q).2.1 bn t 134217728:=(aj n).trans<|aj C;exact ⟨V,q,by rw [d,g];rfl,b.fr,by rw [d];exact E.1.imp λ_ _ _ h=>cB.mono (fm b (by simp) D) h,by rw [d];exact E.2.imp λ_ _ _ h=>cB.mono (fm b (by simp) D) h,m⟩
end Go.Proofs.YtgeahfjicmlocaaGreatDoor
end
