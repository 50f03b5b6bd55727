/- BuildApart: compiled one by one, each with the faces of its uses alone, and linked, modules are what Build tells. -/
import Derived.Lib.AppendZeros
import Derived.Test.YtccenighnmfhgaaGreatDoorV3
set_option linter.unusedVariables false
set_option linter.unusedSimpArgs false
set_option linter.defProp false
section
namespace Go.Proofs.YtccenighnmfhgaaGreatDoor
open Go.Bw Go.Proofs.Tryz
structure oe where
 s1:Option Addr×Nat
 s2:Option Addr×Nat
 s3:Option Addr×Nat
abbrev SX:=bq×oe
def SX.cells (e:SX):List Value:=sX e.1 e.2.s1.1 e.2.s1.2 e.2.s2.1 e.2.s2.2 e.2.s3.1 e.2.s3.2
theorem SX.ck (e:SX):(SX.cells e).length=6:=rfl
def zQ (a:View) (b o:Nat) (e:SX):Prop:=bR a b o (SX.cells e)
structure tv (f:Nat) (N:View) (x:bq) (p:oe):Prop where
 args:Sl (a_ 7) 5 N p.s1.1 p.s1.2 x.args
 body:Sl (g_ 7 f) 6 N p.s2.1 p.s2.2 x.body
 other:Sl (g_ 7 f) 6 N p.s3.1 p.s3.2 x.other
theorem q6 {d N:View} {f c:Nat} {a:Option Addr} {l:List bq} (h:Sl (g_ 7 f) 6 d a c l) (hv:bF d N):Sl (g_ 7 f) 6 N a c l:=h.imp λb o y e=>sY hv (dp _) (dp _) b o y e
theorem tv.mv {f:Nat} {a N:View} {x:bq} {p:oe} (h:tv f a x p) (hv:bF a N):tv f N x p:=⟨xh h.args hv,q6 h.body hv,q6 h.other hv⟩
def o6 (J:View) (f:Nat) (es:List SX):Prop:=∀e ∈ es,tv f J e.1 e.2
theorem o6.nil (J:View) (f:Nat):o6 J f []:=by intro e h; simp at h
theorem o6.snoc {J c b:View} {f:Nat} {es:List SX} {e:SX} (h:o6 J f es) (d:bF J b) (g:bF c b) (i:tv f c e.1 e.2):o6 b f (es++[e]):=by
 intro x a
 rcases dA.1 a with a | a
 · exact (h x a).mv d
 · rw [az] at a
   subst a;exact i.mv g
theorem DW {g J N:View} {f c:Nat} {a:Option Addr} {es:List SX} (h:Sl zQ 6 g a c es) (hv:bF g N) (l:bF J N) (m:o6 J f es):Sl (g_ 7 (f+1)) 6 N a c (es.map (·.1)):=by
 refine ⟨by simpa using h.cap,h.max,h.spot,λi x j=>?_⟩;rw [eZ] at j;obtain ⟨e,k,rfl⟩:=dr.1 j;obtain ⟨b,o,n,p⟩:=h.bT i e k;have d:=(m e (ax k)).mv l;exact ⟨b,o,n,e.2.s1.1,e.2.s1.2,e.2.s2.1,e.2.s2.2,e.2.s3.1,e.2.s3.2,bR.mono hv p,d.args,d.body,d.other⟩
structure GS where
 es:List SX
 a:Option Addr
 c:Nat
 J:View
 r:Option Addr×Nat
 q:Tk
def Kl (b:View) (f:Nat):Prop:=∀(a:Nat) (r:Option Addr×Nat) (l:Tk) (d:Nat) (w:World),f+d=7->dm l->Sl b7 3 b r.1 r.2 l->Ws w (List.flatMap aW.ids (aS a r l)) (aS a r l) [b] w->
 Calls prog 123 #[.pointer (some ⟨a,0,none⟩),.int .i64 (d:Int)] w λe w'=>(∃(x:List bq) (s:Option Addr×Nat) (c:Option Addr×Nat) (q:Tk),e = .returned (.slice s.1 x.length s.2)/\a' f l=some (x,q)/\Sl (g_ 7 f) 6 (nv w w') s.1 s.2 x/\Sl b7 3 b c.1 c.2 q/\Ws w (List.flatMap aW.ids (aS a r l)) (aS a c q) [b] w')\/(∃(c:Option Addr×Nat) (q:Tk),e = .panicked cP/\a' f l=none/\Ws w (List.flatMap aW.ids (aS a r l)) (aS a c q) [b] w')
theorem xi {l r:Tk} {f:Nat} {x:List bq} (h:dm l) (e:a' f l=some (x,r)):dm r:=dD h (w7 f l x r h.all e)
theorem SD {l r:Tk} {f:Nat} {x:bq} (h:dm l) (e:eO (a' f) l=some (x,r)):dm r:=dD h (Dj (w7 f) h.all e)
theorem SE {l r:Tk} {xs:List a8} (h:dm l) (e:jN (cR 6) l=some (xs,r)):dm r:=by
 unfold jN at e
 cases a:aY [41] l with
 | some q=>
   rw [a] at e;simp only [e0,df] at e;obtain ⟨_,rfl⟩:=e;exact hZ h a
 | none=>
   rw [a] at e;exact dD h (Dh (uZ 6) _ _ _ _ h.all e)
theorem xj {v w:Tx} {l q:Tk} (h:dn [v,w] l=some q):∃a,aY v l=some a/\aY w a=some q:=by rw [J8] at h; exact b'.1 h
theorem Pn {v w:Tx} {l:Tk} (h:dn [v,w] l=none):aY v l=none\/∃a,aY v l=some a/\aY w a=none:=by
 rw [J8] at h
 cases hv:aY v l with
 | none=>exact .inl rfl
 | some a=>rw [hv] at h; exact .inr ⟨a,rfl,h⟩
theorem SG {ps:Tk->Option (bq×Tk)} {n:Nat} {l q:Tk} (h:aY [125] l=some q):lK ps (n+1) l=some ([],q):=by rw [lK,h]
theorem SH {ps:Tk->Option (bq×Tk)} {n:Nat} {l q:Tk} {x:bq} (h:aY [125] l=none) (a:ps l=some (x,q)):lK ps (n+1) l=(lK ps n q).map λp=>(x::p.1,p.2):=by rw [lK,h]; simp only; rw [a]; rfl
theorem SI {ps:Tk->Option (bq×Tk)} {n:Nat} {l:Tk} (h:aY [125] l=none) (a:ps l=none):lK ps (n+1) l=none:=by rw [lK,h]; simp only; rw [a]; rfl
theorem xk:dI prog 48=some 1:=ab
theorem vd:dI prog 9=some 1:=ab
theorem zR:gg prog 48 242 (.agg #[.int .i64 0,st [],st [],.slice none 0 0,.slice none 0 0,.slice none 0 0]) 6 112:=iN ab
theorem SJ (o:Nat) (j:View) (r:Option Addr×Nat) (l:Tk) (f d:Nat) (w:World) (a4:Kl j f) (el:f+(d+1)=7) (ah:dm l) (cA:Sl b7 3 j r.1 r.2 l) (a:Ws w (List.flatMap aW.ids (aS o r l)) (aS o r l) [j] w) :
   Calls prog 169 #[.pointer (some ⟨o,0,none⟩),.int .i64 (d:Int)] w λe w'=>(∃(x:bq) (p:oe) (u:Option Addr×Nat) (q:Tk),e = .returned (.agg #[.int .i64 (x).op,st (x).mod,st (x).nm,.slice (p).s1.1 (x).args.length (p).s1.2,.slice (p).s2.1 (x).body.length (p).s2.2,.slice (p).s3.1 (x).other.length (p).s3.2])/\eO (a' f) l=some (x,q)/\tv f (nv w w') x p/\Sl b7 3 j u.1 u.2 q/\Ws w (List.flatMap aW.ids (aS o r l)) (aS o u q) [j] w')\/(∃(u:Option Addr×Nat) (q:Tk),e = .panicked cP/\eO (a' f) l=none/\Ws w (List.flatMap aW.ids (aS o r l)) (aS o u q) [j] w'):=by
 refine enter func169 O 104 O O ?_;refine CE a (ag ?_);refine Al Y O qY λem=>?_;refine cF 0 (.cells (sX (bq.mk 0 [] [] [] [] []) none 0 none 0 none 0).toArray 242 (0,0)) O O (aa (ag ?_));refine Al Y O qY λen=>?_;refine cF 0 (.cells (sX (bq.mk 0 [] [] [] [] []) none 0 none 0 none 0).toArray 242 (0,0)) O O (aa (Cs (Cb (ag (ad O (Lf 2 O ?_))))));refine Lw [_] _ Y O aC O O _ _ _ [j] aj (λw a=>hq o j r l [105,102] w cA a) ?_;intro ⟨eo,bE,aD⟩ ⟨cB,cC,bG⟩;refine ak O (aa ?_);refine Cc O (λa5=>?_) (λa5=>?_)
 ·have ac:=cB a5;have a6:=hZ ah ac;refine ag (ad O ?_)
  refine iR (ι:=(a8×(Option Addr×Nat))×(Option Addr×Nat)×Tk) (κ:=(Option Addr×Nat)×Tk) [_] _ Y O aC O O (λi=>.agg #[.int .i64 (i.1.1).op,.int .i64 (i.1.1).n,st (i.1.1).mod,st (i.1.1).nm,.slice i.1.2.1 (i.1.1).args.length i.1.2.2]) (λi=>aS o i.2.1 i.2.2) (λE i=>cR 6 aD=some (i.1.1,i.2.2)/\Sl (a_ 6) 5 E i.1.2.1 i.1.2.2 i.1.1.args/\Sl b7 3 j i.2.1.1 i.2.1.2 i.2.2) (λ_=>cP) (λi=>aS o i.1 i.2) (λ_=>cR 6 aD=none) ([j]) aj gO (λw a=>((λo r l d w b c g v=>sa j 6 o r l d w b c g v) o bE aD 1 w O a6 bG a).mono λe w' h=>by
      rcases h with ⟨x,s,u,q,b,c,g,v,F⟩ | ⟨u,q,b,c,g⟩
      · exact .inl ⟨((x,s),u,q),b,⟨c,g,v⟩,F⟩
      · exact .inr ⟨(u,q),b,c,g⟩) ?_ ?_
  ·intro ⟨z,A⟩ y;refine Ep (WE.cm (Ep ?_));refine bU λw' a=>?_;exact .inr ⟨z,A,O,by simp only [eO,fh,fq,fe,aM,ff,fg,ac,y,bt,da,cW,dB],(by have h:=a; have h:=Wt 1 h; exact h)⟩
  intro bH ⟨⟨a9,bI⟩,cD,am⟩ bJ ⟨af,bL,cE⟩;have bM:dm am:=c_ a6 af;have ep:am.length+1<=List.length (aD):=oc a6 af;refine Lb Y O ky O O O O λbN=>?_;refine LN (rd:=bK) (f:=XE.cells) (m:=1) 0 [(a9,bI.1,bI.2)] O O (λk G=>by simp [aS,ao] at G; subst G; simp [eu,aS,ao,b6]) XE.ck cp (show 1<=1 by decide) aF λeq bO bP=>?_;refine I (Yf ny O) (aQ 1 Y O O O dZ O O O (I (Yf c8 O) (aQ 1 Y O O O p5 O O O (aa (ag (ad O (ad O (I (Yi O O O ae) ?_))))))))
  refine iR (ι:=((List bq)×(Option Addr×Nat))×(Option Addr×Nat)×Tk) (κ:=(Option Addr×Nat)×Tk) [_] _ Y O aC O O (λi=>.slice i.1.2.1 i.1.1.length i.1.2.2) (λi=>aS o i.2.1 i.2.2) (λE i=>a' f am=some (i.1.1,i.2.2)/\Sl (g_ 7 f) 6 E i.1.2.1 i.1.2.2 i.1.1/\Sl b7 3 j i.2.1.1 i.2.1.2 i.2.2) (λ_=>cP) (λi=>aS o i.1 i.2) (λ_=>a' f am=none) ([j]) aj gO (λw a=>(a4 o cD am (d+1) w ae bM cE a).mono λe w' h=>by
      rcases h with ⟨x,s,u,q,b,c,g,v,F⟩ | ⟨u,q,b,c,g⟩
      · exact .inl ⟨((x,s),u,q),b,⟨c,g,v⟩,F⟩
      · exact .inr ⟨(u,q),b,c,g⟩) ?_ ?_
  ·intro ⟨z,A⟩ y;refine Ep (WE.cm (Ep ?_));refine bU λw' a=>?_;exact .inr ⟨z,A,O,by simp only [eO,fh,fq,fe,aM,ff,fg,ac,af,y,bt,da,cW,dB],(by have h:=a; have h:=Wt 1 h; have h:=Ws.av h (b3:=[j]) aj; exact h)⟩
  intro er ⟨⟨bQ,bR⟩,cI,ba⟩ bS ⟨an,bT,cJ⟩;have cK:dm ba:=xi bM an;refine I (Yf u9 O) (aQ 1 Y O O O xk O O O (aa (Cs (ag (ad O ?_)))));refine Lw [_] _ Y O aC O O _ _ _ [j] aj (λw a=>hq o j cI ba [101,108,115,101] w cJ a) ?_;intro ⟨es,bV,bb⟩ ⟨cL,cM,bW⟩;refine aa ?_;refine Cc O (λbc=>?_) (λbc=>?_)
  ·have aE:=cL bc;have bX:=hZ cK aE;refine ag (ad O (ad O (I (Yi O O O ae) ?_)))
   refine iR (ι:=((List bq)×(Option Addr×Nat))×(Option Addr×Nat)×Tk) (κ:=(Option Addr×Nat)×Tk) [_] _ Y O aC O O (λi=>.slice i.1.2.1 i.1.1.length i.1.2.2) (λi=>aS o i.2.1 i.2.2) (λE i=>a' f bb=some (i.1.1,i.2.2)/\Sl (g_ 7 f) 6 E i.1.2.1 i.1.2.2 i.1.1/\Sl b7 3 j i.2.1.1 i.2.1.2 i.2.2) (λ_=>cP) (λi=>aS o i.1 i.2) (λ_=>a' f bb=none) ([j]) aj gO (λw a=>(a4 o bV bb (d+1) w ae bX bW a).mono λe w' h=>by
       rcases h with ⟨x,s,u,q,b,c,g,v,F⟩ | ⟨u,q,b,c,g⟩
       · exact .inl ⟨((x,s),u,q),b,⟨c,g,v⟩,F⟩
       · exact .inr ⟨(u,q),b,c,g⟩) ?_ ?_
   ·intro ⟨z,A⟩ y;refine Ep (Ep (WE.cm (Ep ?_)));refine bU λw' a=>?_;exact .inr ⟨z,A,O,by simp only [eO,fh,fq,fe,aM,ff,fg,ac,af,an,aE,y,bt,da,cW,dB],(by have h:=a; have h:=Wt 1 h; have h:=Ws.av h (b3:=[j]) aj; exact h)⟩
   intro et ⟨⟨bd,cN⟩,bZ,be⟩ cO ⟨bf,cQ,cS⟩;have ev:dm be:=xi bX bf;refine I (Yf r' O) (aQ 1 Y O O O xk O O O (aa (ag (I (Yf r' O) (I (Yd 1 O O O ab) (I (Yn o1 O) (I (bY O O) (aa ?_))))))));refine Cc O (λbg=>?_) (λbg=>?_)
   ·have bh:bd.length=0:=by simpa using bg
    refine Cr (I (Yb dH dF O O) (I (nO q5 O) ?_));refine WL.panic Y O ?_;refine Ep (WE.cm (Ep ?_));refine bU λw' a=>?_;exact .inr ⟨bZ,be,O,by simp only [eO,fh,fq,fe,aM,ff,fg,ac,af,an,aE,bf,bt,da,cW,dB,if_pos bh],(by have h:=a; have h:=Wt 1 h; have h:=Ws.av h (b3:=[j]) aj; exact h)⟩
   have bh:¬bd.length=0:=by simpa using bg
   refine bk (ag (I (cc 1 O O jQ O) (aQ 2 Y O O O o2 O O O (aa (a7 (cG (Er ?_)))))));refine WE.eB (hy O (dX 2 O O jQ O)) λw' a=>?_;exact .inl ⟨bq.mk 4 [] [] [a9] bQ bd,⟨(some ⟨bN,0,none⟩,1),bR,cN⟩,bZ,be,O,by simp only [eO,fh,fq,fe,aM,ff,fg,ac,af,an,aE,bf,bt,da,cW,dB,if_neg bh],⟨(kx bP (cU a aj bO) (cU a aj bJ) ((hr.nil bH 6).snoc (bF.refl _) (bF.refl _) bL)),(q6 bT (cU a aj bS)),(q6 cQ (cU a aj cO))⟩,cS,Wv 4 (Wt 1 a)⟩
  obtain ⟨cT,cV⟩:=cM bc;subst cV;refine bk (ag (I (cc 1 O O jQ O) (aQ 2 Y O O O o2 O O O (aa (a7 (cG (Er ?_)))))));refine WE.eB (hy O (dX 2 O O jQ O)) λw' a=>?_;exact .inl ⟨bq.mk 4 [] [] [a9] bQ [],⟨(some ⟨bN,0,none⟩,1),bR,((none,0):Option Addr×Nat)⟩,bV,ba,O,by simp only [eO,fh,fq,fe,aM,ff,fg,ac,af,an,cT,bt,da,cW,dB],⟨(kx bP (cU a aj bO) (cU a aj bJ) ((hr.nil bH 6).snoc (bF.refl _) (bF.refl _) bL)),(q6 bT (cU a aj bS)),Sl.nil⟩,bW,Wv 3 (Wt 1 a)⟩
 obtain ⟨B,cX⟩:=cC a5;subst cX;refine ag (ad O ?_);refine Lw [_] _ Y O aC O O _ _ _ [j] aj (λw a=>hq o j bE l [119,104,105,108,101] w bG a) ?_;intro ⟨ew,b0,aG⟩ ⟨cY,cZ,b1⟩;refine ak O (aa ?_);refine Cc O (λbi=>?_) (λbi=>?_)
 ·have aH:=cY bi;have bj:=hZ ah aH;refine ag (ad O ?_)
  refine iR (ι:=(a8×(Option Addr×Nat))×(Option Addr×Nat)×Tk) (κ:=(Option Addr×Nat)×Tk) [_] _ Y O aC O O (λi=>.agg #[.int .i64 (i.1.1).op,.int .i64 (i.1.1).n,st (i.1.1).mod,st (i.1.1).nm,.slice i.1.2.1 (i.1.1).args.length i.1.2.2]) (λi=>aS o i.2.1 i.2.2) (λE i=>cR 6 aG=some (i.1.1,i.2.2)/\Sl (a_ 6) 5 E i.1.2.1 i.1.2.2 i.1.1.args/\Sl b7 3 j i.2.1.1 i.2.1.2 i.2.2) (λ_=>cP) (λi=>aS o i.1 i.2) (λ_=>cR 6 aG=none) ([j]) aj gO (λw a=>((λo r l d w b c g v=>sa j 6 o r l d w b c g v) o b0 aG 1 w O bj b1 a).mono λe w' h=>by
      rcases h with ⟨x,s,u,q,b,c,g,v,F⟩ | ⟨u,q,b,c,g⟩
      · exact .inl ⟨((x,s),u,q),b,⟨c,g,v⟩,F⟩
      · exact .inr ⟨(u,q),b,c,g⟩) ?_ ?_
  ·intro ⟨z,A⟩ y;refine Ep (WE.cm (Ep ?_));refine bU λw' a=>?_;exact .inr ⟨z,A,O,by simp only [eO,fh,fq,fe,aM,ff,fg,B,aH,y,bt,da,cW,dB],(by have h:=a; have h:=Wt 1 h; exact h)⟩
  intro c0 ⟨⟨b2,b4⟩,c1,ap⟩ c2 ⟨aI,c3,c4⟩;have b5:dm ap:=c_ bj aI;have ex:ap.length+1<=List.length (aG):=oc bj aI;refine Lb Y O ky O O O O λc5=>?_;refine LN (rd:=bK) (f:=XE.cells) (m:=1) 0 [(b2,b4.1,b4.2)] O O (λk G=>by simp [aS,ao] at G; subst G; simp [eu,aS,ao,b6]) XE.ck cp (show 1<=1 by decide) aF λey c6 c7=>?_;refine I (Yf ny O) (aQ 1 Y O O O dZ O O O (I (Yf c8 O) (aQ 1 Y O O O p5 O O O (aa (ag (ad O (ad O (I (Yi O O O ae) ?_))))))))
  refine iR (ι:=((List bq)×(Option Addr×Nat))×(Option Addr×Nat)×Tk) (κ:=(Option Addr×Nat)×Tk) [_] _ Y O aC O O (λi=>.slice i.1.2.1 i.1.1.length i.1.2.2) (λi=>aS o i.2.1 i.2.2) (λE i=>a' f ap=some (i.1.1,i.2.2)/\Sl (g_ 7 f) 6 E i.1.2.1 i.1.2.2 i.1.1/\Sl b7 3 j i.2.1.1 i.2.1.2 i.2.2) (λ_=>cP) (λi=>aS o i.1 i.2) (λ_=>a' f ap=none) ([j]) aj gO (λw a=>(a4 o c1 ap (d+1) w ae b5 c4 a).mono λe w' h=>by
      rcases h with ⟨x,s,u,q,b,c,g,v,F⟩ | ⟨u,q,b,c,g⟩
      · exact .inl ⟨((x,s),u,q),b,⟨c,g,v⟩,F⟩
      · exact .inr ⟨(u,q),b,c,g⟩) ?_ ?_
  ·intro ⟨z,A⟩ y;refine Ep (WE.cm (Ep ?_));refine bU λw' a=>?_;exact .inr ⟨z,A,O,by simp only [eO,fh,fq,fe,aM,ff,fg,B,aH,aI,y,bt,da,cW,dB],(by have h:=a; have h:=Wt 1 h; have h:=Ws.av h (b3:=[j]) aj; exact h)⟩
  intro ez ⟨⟨c9,c'⟩,db,b8⟩ dc ⟨b9,dd,de⟩;have eA:dm b8:=xi b5 b9;refine I (Yf u9 O) (aQ 1 Y O O O xk O O O (aa (ag (I (cc 1 O O jQ O) (aQ 2 Y O O O o2 O O O (aa (a7 (cG (Er ?_)))))))));refine WE.eB (hy O (dX 2 O O jQ O)) λw' a=>?_;exact .inl ⟨bq.mk 5 [] [] [b2] c9 [],⟨(some ⟨c5,0,none⟩,1),c',((none,0):Option Addr×Nat)⟩,db,b8,O,by simp only [eO,fh,fq,fe,aM,ff,fg,B,aH,aI,b9,bt,da,cW,dB],⟨(kx c7 (cU a aj c6) (cU a aj c2) ((hr.nil c0 6).snoc (bF.refl _) (bF.refl _) c3)),(q6 dd (cU a aj dc)),Sl.nil⟩,de,Wv 3 (Wt 1 a)⟩
 obtain ⟨D,df⟩:=cZ bi;subst df;refine ag (ad O ?_);refine Lw [_] _ Y O aC O O _ _ _ [j] aj (λw a=>hq o j b0 l [114,101,116,117,114,110] w b1 a) ?_;intro ⟨eC,b',aJ⟩ ⟨dg,dh,b_⟩;refine ak O (aa ?_);refine Cc O (λbl=>?_) (λbl=>?_)
 ·have aK:=dg bl;have bn:=hZ ah aK;refine Cr (ad O ?_)
  refine iR (ι:=(a8×(Option Addr×Nat))×(Option Addr×Nat)×Tk) (κ:=(Option Addr×Nat)×Tk) [_] _ Y O aC O O (λi=>.agg #[.int .i64 (i.1.1).op,.int .i64 (i.1.1).n,st (i.1.1).mod,st (i.1.1).nm,.slice i.1.2.1 (i.1.1).args.length i.1.2.2]) (λi=>aS o i.2.1 i.2.2) (λE i=>cR 6 aJ=some (i.1.1,i.2.2)/\Sl (a_ 6) 5 E i.1.2.1 i.1.2.2 i.1.1.args/\Sl b7 3 j i.2.1.1 i.2.1.2 i.2.2) (λ_=>cP) (λi=>aS o i.1 i.2) (λ_=>cR 6 aJ=none) ([j]) aj gO (λw a=>((λo r l d w b c g v=>sa j 6 o r l d w b c g v) o b' aJ 1 w O bn b_ a).mono λe w' h=>by
      rcases h with ⟨x,s,u,q,b,c,g,v,F⟩ | ⟨u,q,b,c,g⟩
      · exact .inl ⟨((x,s),u,q),b,⟨c,g,v⟩,F⟩
      · exact .inr ⟨(u,q),b,c,g⟩) ?_ ?_
  ·intro ⟨z,A⟩ y;refine WE.cm (Ep ?_);refine bU λw' a=>?_;exact .inr ⟨z,A,O,by simp only [eO,fh,fq,fe,aM,ff,fg,B,D,aK,y,bt,da,cW,dB],(by have h:=a; have h:=Wt 1 h; exact h)⟩
  intro di ⟨⟨ca,cb⟩,dj,aq⟩ dl ⟨aL,dp,dq⟩;have dr:dm aq:=c_ bn aL;have eD:aq.length+1<=List.length (aJ):=oc bn aL;refine Lb Y O ky O O O O λds=>?_;refine LN (rd:=bK) (f:=XE.cells) (m:=1) 0 [(ca,cb.1,cb.2)] O O (λk G=>by simp [aS,ao] at G; subst G; simp [eu,aS,ao,b6]) XE.ck cp (show 1<=1 by decide) aF λeF dt du=>?_;refine I (Yf ny O) (aQ 1 Y O O O dZ O O O (I (Yf c8 O) (aQ 1 Y O O O p5 O O O (Ln (Eb (Et (ag (ad O ?_))))))));refine Lb Y O dT O O O O λar=>?_;refine bm (T:=9) (m:=1) 0 [[59]] O O (show 1<=1 by decide) aF λJ N=>?_
  refine dk (ι:=(Option Addr×Nat)×Tk) (κ:=(Option Addr×Nat)×Tk) [_] _ Y O aC O O (λ_=>.tuple #[]) (λi=>aS o i.1 i.2) (λi=>dn [[59]] aq=some i.2/\Sl b7 3 j i.1.1 i.1.2 i.2) (λ_=>cP) (λi=>aS o i.1 i.2) (λ_=>dn [[59]] aq=none) ([j,J]) aj (λw a=>(h1 o j dj aq J _ _ [[59]] w N dq a).mono λe w' h=>by
      rcases h with ⟨u,q,b,c,g,v⟩ | ⟨u,q,b,c,g⟩
      · exact .inl ⟨(u,q),b,⟨c,g⟩,v⟩
      · exact .inr ⟨(u,q),b,c,g⟩) ?_ ?_
  ·intro ⟨z,A⟩ y;rw [eE] at y;refine Ep ?_;refine bU λw' a=>?_;exact .inr ⟨z,A,O,by simp only [eO,fh,fq,fe,aM,ff,fg,B,D,aK,aL,y,bt,da,cW,dB],(by have h:=a; have h:=Wt 1 h; have h:=Ws.av h (b3:=[j]) aj; exact h)⟩
  intro ⟨P,Q⟩ ⟨C,R⟩;have au:=h0 dr C;rw [eE] at C;refine aa (ag (I (cc 1 O O jQ O) (aQ 2 Y O O O o2 O O O (aa (a7 ?_)))));refine WE.eB (hy O (dX 2 O O jQ O)) λw' a=>?_;exact .inl ⟨bq.mk 6 [] [] [ca] [] [],⟨(some ⟨ds,0,none⟩,1),((none,0):Option Addr×Nat),((none,0):Option Addr×Nat)⟩,P,Q,O,by simp only [eO,fh,fq,fe,aM,ff,fg,B,D,aK,aL,C,bt,da,cW,dB],⟨(kx du (cU a aj dt) (cU a aj dl) ((hr.nil di 6).snoc (bF.refl _) (bF.refl _) dp)),Sl.nil,Sl.nil⟩,R,Wv 3 (Wt 1 a)⟩
 obtain ⟨H,dv⟩:=dh bl;subst dv;refine ag (ad O ?_);refine Lw [_] _ Y O aC O O _ _ _ [j] aj (λw a=>hq o j b' l [111,117,116] w b_ a) ?_;intro ⟨eG,cd,aN⟩ ⟨dw,dx,ce⟩;refine ak O (aa ?_);refine Cc O (λbo=>?_) (λbo=>?_)
 ·have aO:=dw bo;have bp:=hZ ah aO;refine Cr (ad O ?_)
  refine iR (ι:=(a8×(Option Addr×Nat))×(Option Addr×Nat)×Tk) (κ:=(Option Addr×Nat)×Tk) [_] _ Y O aC O O (λi=>.agg #[.int .i64 (i.1.1).op,.int .i64 (i.1.1).n,st (i.1.1).mod,st (i.1.1).nm,.slice i.1.2.1 (i.1.1).args.length i.1.2.2]) (λi=>aS o i.2.1 i.2.2) (λE i=>cR 6 aN=some (i.1.1,i.2.2)/\Sl (a_ 6) 5 E i.1.2.1 i.1.2.2 i.1.1.args/\Sl b7 3 j i.2.1.1 i.2.1.2 i.2.2) (λ_=>cP) (λi=>aS o i.1 i.2) (λ_=>cR 6 aN=none) ([j]) aj gO (λw a=>((λo r l d w b c g v=>sa j 6 o r l d w b c g v) o cd aN 1 w O bp ce a).mono λe w' h=>by
      rcases h with ⟨x,s,u,q,b,c,g,v,F⟩ | ⟨u,q,b,c,g⟩
      · exact .inl ⟨((x,s),u,q),b,⟨c,g,v⟩,F⟩
      · exact .inr ⟨(u,q),b,c,g⟩) ?_ ?_
  ·intro ⟨z,A⟩ y;refine WE.cm (Ep ?_);refine bU λw' a=>?_;exact .inr ⟨z,A,O,by simp only [eO,fh,fq,fe,aM,ff,fg,B,D,H,aO,y,bt,da,cW,dB],(by have h:=a; have h:=Wt 1 h; exact h)⟩
  intro dy ⟨⟨cf,cg⟩,dz,aw⟩ dA ⟨aP,dC,dD⟩;have dE:dm aw:=c_ bp aP;have eH:aw.length+1<=List.length (aN):=oc bp aP;refine Lb Y O ky O O O O λdG=>?_;refine LN (rd:=bK) (f:=XE.cells) (m:=1) 0 [(cf,cg.1,cg.2)] O O (λk G=>by simp [aS,ao] at G; subst G; simp [eu,aS,ao,b6]) XE.ck cp (show 1<=1 by decide) aF λeI dI dJ=>?_;refine I (Yf ny O) (aQ 1 Y O O O dZ O O O (I (Yf c8 O) (aQ 1 Y O O O p5 O O O (Ln (Eb (Et (ag (ad O ?_))))))));refine Lb Y O dT O O O O λar=>?_;refine bm (T:=9) (m:=1) 0 [[59]] O O (show 1<=1 by decide) aF λJ N=>?_
  refine dk (ι:=(Option Addr×Nat)×Tk) (κ:=(Option Addr×Nat)×Tk) [_] _ Y O aC O O (λ_=>.tuple #[]) (λi=>aS o i.1 i.2) (λi=>dn [[59]] aw=some i.2/\Sl b7 3 j i.1.1 i.1.2 i.2) (λ_=>cP) (λi=>aS o i.1 i.2) (λ_=>dn [[59]] aw=none) ([j,J]) aj (λw a=>(h1 o j dz aw J _ _ [[59]] w N dD a).mono λe w' h=>by
      rcases h with ⟨u,q,b,c,g,v⟩ | ⟨u,q,b,c,g⟩
      · exact .inl ⟨(u,q),b,⟨c,g⟩,v⟩
      · exact .inr ⟨(u,q),b,c,g⟩) ?_ ?_
  ·intro ⟨z,A⟩ y;rw [eE] at y;refine Ep ?_;refine bU λw' a=>?_;exact .inr ⟨z,A,O,by simp only [eO,fh,fq,fe,aM,ff,fg,B,D,H,aO,aP,y,bt,da,cW,dB],(by have h:=a; have h:=Wt 1 h; have h:=Ws.av h (b3:=[j]) aj; exact h)⟩
  intro ⟨P,Q⟩ ⟨C,R⟩;have au:=h0 dE C;rw [eE] at C;refine aa (ag (I (cc 1 O O jQ O) (aQ 2 Y O O O o2 O O O (aa (a7 ?_)))));refine WE.eB (hy O (dX 2 O O jQ O)) λw' a=>?_;exact .inl ⟨bq.mk 7 [] [] [cf] [] [],⟨(some ⟨dG,0,none⟩,1),((none,0):Option Addr×Nat),((none,0):Option Addr×Nat)⟩,P,Q,O,by simp only [eO,fh,fq,fe,aM,ff,fg,B,D,H,aO,aP,C,bt,da,cW,dB],⟨(kx dJ (cU a aj dI) (cU a aj dA) ((hr.nil dy 6).snoc (bF.refl _) (bF.refl _) dC)),Sl.nil,Sl.nil⟩,R,Wv 3 (Wt 1 a)⟩
 obtain ⟨K,dK⟩:=dx bo;subst dK;refine ag (ad O ?_)
 refine dk (ι:=(Tx×Tx)×(Option Addr×Nat)×Tk) (κ:=(Option Addr×Nat)×Tk) [_] _ Y O aC O O (λi=>.tuple #[st i.1.1,st i.1.2]) (λi=>aS o i.2.1 i.2.2) (λi=>jd l=some (i.1,i.2.2)/\Sl b7 3 j i.2.1.1 i.2.1.2 i.2.2) (λ_=>cP) (λi=>aS o i.1 i.2) (λ_=>jd l=none) ([j]) aj (λw a=>(Kb o j cd l w ah ce a).mono λe w' h=>by
     rcases h with ⟨t,u,q,b,c,g,v⟩ | ⟨u,q,b,c,g⟩
     · exact .inl ⟨(t,u,q),b,⟨c,g⟩,v⟩
     · exact .inr ⟨(u,q),b,c,g⟩) ?_ ?_
 ·intro ⟨z,A⟩ y;refine Ep (WE.cm (Ep ?_));refine bU λw' a=>?_;exact .inr ⟨z,A,O,by simp only [eO,fh,fq,fe,aM,ff,fg,B,D,H,K,y,bt,da,cW,dB],(by have h:=a; have h:=Wt 1 h; exact h)⟩
 intro ⟨X,dL,ax⟩ ⟨L,dM⟩;have br:=J' ah L;refine ad O (I (Yx O O) (I (Yx O O) (I (Yf xe O) (aQ 1 Y O O O vd O O O (I (Yf xf O) (aQ 1 Y O O O vd O O O (aa (Cb (ag ?_)))))))));refine ad O ?_;refine Lw [_] _ Y O aC O O _ _ _ [j] aj (λw a=>hq o j dL ax [40] w dM a) ?_;intro ⟨eJ,ch,bs⟩ ⟨dN,dO,ci⟩;refine ak O (aa ?_);refine Cc O (λbu=>?_) (λbu=>?_)
 ·have aR:=dN bu;have cj:=hZ br aR;refine Cr (ad O ?_)
  refine iR (ι:=((List a8)×(Option Addr×Nat))×(Option Addr×Nat)×Tk) (κ:=(Option Addr×Nat)×Tk) [_] _ Y O aC O O (λi=>.slice i.1.2.1 i.1.1.length i.1.2.2) (λi=>aS o i.2.1 i.2.2) (λE i=>jN (cR 6) bs=some (i.1.1,i.2.2)/\Sl (a_ (6+1)) 5 E i.1.2.1 i.1.2.2 i.1.1/\Sl b7 3 j i.2.1.1 i.2.1.2 i.2.2) (λ_=>cP) (λi=>aS o i.1 i.2) (λ_=>jN (cR 6) bs=none) ([j]) aj gO (λw a=>(Kf o j ch bs 6 (1) w (λo r l d w b c g v=>sa j 6 o r l d w b c g v) ae cj ci a).mono λe w' h=>by
      rcases h with ⟨x,s,u,q,b,c,g,v,F⟩ | ⟨u,q,b,c,g⟩
      · exact .inl ⟨((x,s),u,q),b,⟨c,g,v⟩,F⟩
      · exact .inr ⟨(u,q),b,c,g⟩) ?_ ?_
  ·intro ⟨z,A⟩ y;refine WE.cm (WE.cm (Ep ?_));refine bU λw' a=>?_;exact .inr ⟨z,A,O,by simp only [eO,fh,fq,fe,aM,ff,fg,B,D,H,K,L,aR,y,bt,da,cW,dB],(by have h:=a; have h:=Wt 1 h; exact h)⟩
  intro eK ⟨⟨dP,dQ⟩,dR,aT⟩ dS ⟨bv,dU,dV⟩;have dW:dm aT:=SE cj bv;refine I (Yf ny O) (aQ 1 Y O O O dZ O O O (I (Yf c8 O) (aQ 1 Y O O O p5 O O O (Ln (Eb (Eb (Et (ag (ad O ?_)))))))));refine Lb Y O dT O O O O λar=>?_;refine bm (T:=9) (m:=1) 0 [[59]] O O (show 1<=1 by decide) aF λJ N=>?_
  refine dk (ι:=(Option Addr×Nat)×Tk) (κ:=(Option Addr×Nat)×Tk) [_] _ Y O aC O O (λ_=>.tuple #[]) (λi=>aS o i.1 i.2) (λi=>dn [[59]] aT=some i.2/\Sl b7 3 j i.1.1 i.1.2 i.2) (λ_=>cP) (λi=>aS o i.1 i.2) (λ_=>dn [[59]] aT=none) ([j,J]) aj (λw a=>(h1 o j dR aT J _ _ [[59]] w N dV a).mono λe w' h=>by
      rcases h with ⟨u,q,b,c,g,v⟩ | ⟨u,q,b,c,g⟩
      · exact .inl ⟨(u,q),b,⟨c,g⟩,v⟩
      · exact .inr ⟨(u,q),b,c,g⟩) ?_ ?_
  ·intro ⟨z,A⟩ y;rw [eE] at y;refine Ep ?_;refine bU λw' a=>?_;exact .inr ⟨z,A,O,by simp only [eO,fh,fq,fe,aM,ff,fg,B,D,H,K,L,aR,bv,y,bt,da,cW,dB],(by have h:=a; have h:=Wt 1 h; have h:=Ws.av h (b3:=[j]) aj; exact h)⟩
  intro ⟨P,Q⟩ ⟨C,R⟩;have au:=h0 dW C;rw [eE] at C;refine aa (ag (I (cc 1 O O jQ O) (aQ 2 Y O O O o2 O O O (aa (a7 ?_)))));refine WE.eB (hy O (dX 2 O O jQ O)) λw' a=>?_;exact .inl ⟨bq.mk 3 X.1 X.2 dP [] [],⟨dQ,((none,0):Option Addr×Nat),((none,0):Option Addr×Nat)⟩,P,Q,O,by simp only [eO,fh,fq,fe,aM,ff,fg,B,D,H,K,L,aR,bv,C,bt,da,cW,dB],⟨(xh dU (cU a aj dS)),Sl.nil,Sl.nil⟩,R,Wv 2 (Wt 1 a)⟩
 obtain ⟨M,dY⟩:=dO bu;subst dY;refine ag (ad O ?_);refine Lw [_] _ Y O aC O O _ _ _ [j] aj (λw a=>hq o j ch ax [91] w ci a) ?_;intro ⟨eL,cl,aU⟩ ⟨d0,d1,cn⟩;refine ak O (aa ?_);refine Cc O (λbw=>?_) (λbw=>?_)
 ·have S:=d0 bw;have bx:=hZ br S;refine ag (ad O ?_)
  refine iR (ι:=(a8×(Option Addr×Nat))×(Option Addr×Nat)×Tk) (κ:=(Option Addr×Nat)×Tk) [_] _ Y O aC O O (λi=>.agg #[.int .i64 (i.1.1).op,.int .i64 (i.1.1).n,st (i.1.1).mod,st (i.1.1).nm,.slice i.1.2.1 (i.1.1).args.length i.1.2.2]) (λi=>aS o i.2.1 i.2.2) (λE i=>cR 6 aU=some (i.1.1,i.2.2)/\Sl (a_ 6) 5 E i.1.2.1 i.1.2.2 i.1.1.args/\Sl b7 3 j i.2.1.1 i.2.1.2 i.2.2) (λ_=>cP) (λi=>aS o i.1 i.2) (λ_=>cR 6 aU=none) ([j]) aj gO (λw a=>((λo r l d w b c g v=>sa j 6 o r l d w b c g v) o cl aU 1 w O bx cn a).mono λe w' h=>by
      rcases h with ⟨x,s,u,q,b,c,g,v,F⟩ | ⟨u,q,b,c,g⟩
      · exact .inl ⟨((x,s),u,q),b,⟨c,g,v⟩,F⟩
      · exact .inr ⟨(u,q),b,c,g⟩) ?_ ?_
  ·intro ⟨z,A⟩ y;refine Ep (WE.cm (WE.cm (Ep ?_)));refine bU λw' a=>?_;exact .inr ⟨z,A,O,by simp only [eO,fh,fq,fe,aM,ff,fg,B,D,H,K,L,M,S,y,bt,da,cW,dB],(by have h:=a; have h:=Wt 1 h; exact h)⟩
  intro eM ⟨⟨aV,aX⟩,d2,ay⟩ co ⟨U,cq,d3⟩;have d4:dm ay:=c_ bx U;have eN:ay.length+1<=List.length (aU):=oc bx U;refine Al Y O je λeP=>?_;refine aQ 0 Y O O O mh O O O (aa (ag (ad O ?_)));refine Lb Y O dT O O O O λeQ=>?_;refine bm (T:=9) (m:=2) 0 [[93],[61]] O O (show 2<=2 by decide) aF λcr d5=>?_;refine Lf 1 O ?_
  refine dk (ι:=(Option Addr×Nat)×Tk) (κ:=(Option Addr×Nat)×Tk) [_] _ Y O aC O O (λ_=>.tuple #[]) (λi=>aS o i.1 i.2) (λi=>dn [[93],[61]] ay=some i.2/\Sl b7 3 j i.1.1 i.1.2 i.2) (λ_=>cP) (λi=>aS o i.1 i.2) (λ_=>dn [[93],[61]] ay=none) ([j,cr]) aj (λw a=>(h1 o j d2 ay cr _ _ [[93],[61]] w d5 d3 a).mono λe w' h=>by
      rcases h with ⟨u,q,b,c,g,v⟩ | ⟨u,q,b,c,g⟩
      · exact .inl ⟨(u,q),b,⟨c,g⟩,v⟩
      · exact .inr ⟨(u,q),b,c,g⟩) ?_ ?_
  ·intro ⟨z,A⟩ y;refine Ep (WE.cm (WE.cm (Ep ?_)));refine bU λw' a=>?_
   rcases Pn y with y | ⟨az,d6,y⟩
   · exact .inr ⟨z,A,O,by simp only [eO,fh,fq,fe,aM,ff,fg,B,D,H,K,L,M,S,U,y,bt,da,cW,dB],(by have h:=a; have h:=Wt 1 h; have h:=Ws.av h (b3:=[j]) aj; exact h)⟩
   · exact .inr ⟨z,A,O,by simp only [eO,fh,fq,fe,aM,ff,fg,B,D,H,K,L,M,S,U,d6,y,bt,da,cW,dB],(by have h:=a; have h:=Wt 1 h; have h:=Ws.av h (b3:=[j]) aj; exact h)⟩
  intro ⟨d7,aY⟩ ⟨ai,d8⟩;have bz:=h0 d4 ai;refine aa ?_;refine CU (λ_=>true) [2,0] [7] (.q true 0 (.q false 1 (.q false 4 (.e 2 (.e 3 (.e 5 (.q false 6 .nil) .stop) (.e 5 (.e 3 (.q false 6 .nil) .stop) .stop)) .stop)))) mixed ab (λ_ _ _ d _ _ h=>by cases d<;>exact h) ?_;refine U0 O (cH [2,0]) (cc 0 O O kb O) (U0 O (cH [2,0]) (Ym O) (U0 O (cH [2,0]) (Yf ny O) ?_));refine Ue O (cH [2,0]) ?_ WU.stop
  refine iR (ι:=(a8×(Option Addr×Nat))×(Option Addr×Nat)×Tk) (κ:=(Option Addr×Nat)×Tk) [_] _ Y O aC O O (λi=>.agg #[.int .i64 (i.1.1).op,.int .i64 (i.1.1).n,st (i.1.1).mod,st (i.1.1).nm,.slice i.1.2.1 (i.1.1).args.length i.1.2.2]) (λi=>aS o i.2.1 i.2.2) (λE i=>cR 6 aY=some (i.1.1,i.2.2)/\Sl (a_ 6) 5 E i.1.2.1 i.1.2.2 i.1.1.args/\Sl b7 3 j i.2.1.1 i.2.1.2 i.2.2) (λ_=>cP) (λi=>aS o i.1 i.2) (λ_=>cR 6 aY=none) ([j]) aj gO (λw a=>((λo r l d w b c g v=>sa j 6 o r l d w b c g v) o d7 aY 1 w O bz d8 a).mono λe w' h=>by
      rcases h with ⟨x,s,u,q,b,c,g,v,F⟩ | ⟨u,q,b,c,g⟩
      · exact .inl ⟨((x,s),u,q),b,⟨c,g,v⟩,F⟩
      · exact .inr ⟨(u,q),b,c,g⟩) ?_ ?_
  ·intro ⟨z,A⟩ y;refine Ep (WE.cm (WE.cm (Ep ?_)));refine bU λw' a=>?_;obtain ⟨az,V,W⟩:=xj ai;exact .inr ⟨z,A,O,by simp only [eO,fh,fq,fe,aM,ff,fg,B,D,H,K,L,M,S,U,V,W,y,bt,da,cW,dB],(by have h:=a; have h:=Wt 1 h; have h:=Ws.av h (b3:=[j]) aj; exact h)⟩
  intro eR ⟨⟨aZ,a0⟩,cs,Z⟩ ct ⟨al,cu,cv⟩;have cw:dm Z:=c_ bz al;have eS:Z.length+1<=List.length (aY):=oc bz al;refine Ln (Eu ?_);refine Ue O (λ_ h=>(Wv 1 (Wo 0 (Wo 2 h)):)) ?_ ?_
  ·refine Lb Y O ky O O O O λbA=>?_;refine LN (rd:=bK) (f:=XE.cells) (m:=2) 0 [(aV,aX.1,aX.2),(aZ,a0.1,a0.2)] O O (λk G=>by simp [aS,ao] at G; subst G; simp [eu,aS,ao,b6]) XE.ck cp (show 2<=2 by decide) aF λd9 bB bC=>?_;refine Ln (Eu ?_);refine Ue O (λ_ h=>(Wv 2 (Wo 0 (Wo 2 h)):)) ?_ WU.stop;refine aQ 2 Y O O O dZ O O O (Ln (Eu (U0 O (λ_ h=>(Wv 2 (Wo 0 (Wo 2 h)):)) (Yf c8 O) ?_)));refine WU.nil (λ_ h=>(Wv 2 (Wo 0 (Wo 2 h)):)) ?_;refine WS.e O ?_;refine aQ 2 Y O O O p5 O O O (Ln (Es ?_));refine WS.nil ?_;refine Eb (Eb (Et (ag (ad O ?_))));refine Lb Y O dT O O O O λar=>?_;refine bm (T:=9) (m:=1) 0 [[59]] O O (show 1<=1 by decide) aF λJ N=>?_
   refine dk (ι:=(Option Addr×Nat)×Tk) (κ:=(Option Addr×Nat)×Tk) [_] _ Y O aC O O (λ_=>.tuple #[]) (λi=>aS o i.1 i.2) (λi=>dn [[59]] Z=some i.2/\Sl b7 3 j i.1.1 i.1.2 i.2) (λ_=>cP) (λi=>aS o i.1 i.2) (λ_=>dn [[59]] Z=none) ([j,J]) aj (λw a=>(h1 o j cs Z J _ _ [[59]] w N cv a).mono λe w' h=>by
       rcases h with ⟨u,q,b,c,g,v⟩ | ⟨u,q,b,c,g⟩
       · exact .inl ⟨(u,q),b,⟨c,g⟩,v⟩
       · exact .inr ⟨(u,q),b,c,g⟩) ?_ ?_
   ·intro ⟨z,A⟩ y;rw [eE] at y;refine Ep ?_;refine bU λw' a=>?_;obtain ⟨az,V,W⟩:=xj ai;exact .inr ⟨z,A,O,by simp only [eO,fh,fq,fe,aM,ff,fg,B,D,H,K,L,M,S,U,V,W,al,y,bt,da,cW,dB],(by have h:=a; have h:=Wt 1 h; have h:=Ws.av h (b3:=[j]) aj; exact h)⟩
   intro ⟨P,Q⟩ ⟨C,R⟩;have au:=h0 cw C;rw [eE] at C;refine aa (ag (I (cc 2 O O jQ O) (aQ 3 Y O O O o2 O O O (aa (a7 ?_)))));refine WE.eB (hy O (dX 3 O O jQ O)) λw' a=>?_;obtain ⟨az,V,W⟩:=xj ai;exact .inl ⟨bq.mk 2 X.1 X.2 [aV,aZ] [] [],⟨(some ⟨bA,0,none⟩,2),((none,0):Option Addr×Nat),((none,0):Option Addr×Nat)⟩,P,Q,O,by simp only [eO,fh,fq,fe,aM,ff,fg,B,D,H,K,L,M,S,U,V,W,al,C,bt,da,cW,dB],⟨(kx bC (cU a aj bB) (bF.refl _) (((hr.nil (nv w w') 6).snoc (bF.refl _) (cU a aj co) cq).snoc (bF.refl _) (cU a aj ct) cu)),Sl.nil,Sl.nil⟩,R,Wv 5 (Wt 1 a)⟩
  refine Ue O (λ_ h=>(Wv 1 (Wo 0 (Wo 2 h)):)) ?_ WU.stop;refine aQ 2 Y O O O dZ O O O (Ln (Eu ?_));refine Ue O (λ_ h=>(Wv 1 (Wo 0 (Wo 2 h)):)) ?_ WU.stop;refine Lb Y O ky O O O O λbA=>?_;refine LN (rd:=bK) (f:=XE.cells) (m:=2) 0 [(aV,aX.1,aX.2),(aZ,a0.1,a0.2)] O O (λk G=>by simp [aS,ao] at G; subst G; simp [eu,aS,ao,b6]) XE.ck cp (show 2<=2 by decide) aF λd9 bB bC=>?_;refine Ln (Eu (U0 O (λ_ h=>(Wv 2 (Wo 0 (Wo 2 h)):)) (Yf c8 O) ?_));refine WU.nil (λ_ h=>(Wv 2 (Wo 0 (Wo 2 h)):)) ?_;refine WS.e O ?_;refine aQ 2 Y O O O p5 O O O (Ln (Es ?_));refine WS.nil ?_;refine Eb (Eb (Et (ag (ad O ?_))));refine Lb Y O dT O O O O λar=>?_;refine bm (T:=9) (m:=1) 0 [[59]] O O (show 1<=1 by decide) aF λJ N=>?_
  refine dk (ι:=(Option Addr×Nat)×Tk) (κ:=(Option Addr×Nat)×Tk) [_] _ Y O aC O O (λ_=>.tuple #[]) (λi=>aS o i.1 i.2) (λi=>dn [[59]] Z=some i.2/\Sl b7 3 j i.1.1 i.1.2 i.2) (λ_=>cP) (λi=>aS o i.1 i.2) (λ_=>dn [[59]] Z=none) ([j,J]) aj (λw a=>(h1 o j cs Z J _ _ [[59]] w N cv a).mono λe w' h=>by
      rcases h with ⟨u,q,b,c,g,v⟩ | ⟨u,q,b,c,g⟩
      · exact .inl ⟨(u,q),b,⟨c,g⟩,v⟩
      · exact .inr ⟨(u,q),b,c,g⟩) ?_ ?_
  ·intro ⟨z,A⟩ y;rw [eE] at y;refine Ep ?_;refine bU λw' a=>?_;obtain ⟨az,V,W⟩:=xj ai;exact .inr ⟨z,A,O,by simp only [eO,fh,fq,fe,aM,ff,fg,B,D,H,K,L,M,S,U,V,W,al,y,bt,da,cW,dB],(by have h:=a; have h:=Wt 1 h; have h:=Ws.av h (b3:=[j]) aj; exact h)⟩
  intro ⟨P,Q⟩ ⟨C,R⟩;have au:=h0 cw C;rw [eE] at C;refine aa (ag (I (cc 2 O O jQ O) (aQ 3 Y O O O o2 O O O (aa (a7 ?_)))));refine WE.eB (hy O (dX 3 O O jQ O)) λw' a=>?_;obtain ⟨az,V,W⟩:=xj ai;exact .inl ⟨bq.mk 2 X.1 X.2 [aV,aZ] [] [],⟨(some ⟨bA,0,none⟩,2),((none,0):Option Addr×Nat),((none,0):Option Addr×Nat)⟩,P,Q,O,by simp only [eO,fh,fq,fe,aM,ff,fg,B,D,H,K,L,M,S,U,V,W,al,C,bt,da,cW,dB],⟨(kx bC (cU a aj bB) (bF.refl _) (((hr.nil (nv w w') 6).snoc (bF.refl _) (cU a aj co) cq).snoc (bF.refl _) (cU a aj ct) cu)),Sl.nil,Sl.nil⟩,R,Wv 5 (Wt 1 a)⟩
 obtain ⟨a1,d'⟩:=d1 bw;subst d';refine ag (ad O ?_);refine Lb Y O dT O O O O λeT=>?_;refine bm (T:=9) (m:=1) 0 [[61]] O O (show 1<=1 by decide) aF λcx d_=>?_
 refine dk (ι:=(Option Addr×Nat)×Tk) (κ:=(Option Addr×Nat)×Tk) [_] _ Y O aC O O (λ_=>.tuple #[]) (λi=>aS o i.1 i.2) (λi=>dn [[61]] ax=some i.2/\Sl b7 3 j i.1.1 i.1.2 i.2) (λ_=>cP) (λi=>aS o i.1 i.2) (λ_=>dn [[61]] ax=none) ([j,cx]) aj (λw a=>(h1 o j cl ax cx _ _ [[61]] w d_ cn a).mono λe w' h=>by
     rcases h with ⟨u,q,b,c,g,v⟩ | ⟨u,q,b,c,g⟩
     · exact .inl ⟨(u,q),b,⟨c,g⟩,v⟩
     · exact .inr ⟨(u,q),b,c,g⟩) ?_ ?_
 ·intro ⟨z,A⟩ y;rw [eE] at y;refine Ep (WE.cm (WE.cm (Ep ?_)));refine bU λw' a=>?_;exact .inr ⟨z,A,O,by simp only [eO,fh,fq,fe,aM,ff,fg,B,D,H,K,L,M,a1,y,bt,da,cW,dB],(by have h:=a; have h:=Wt 1 h; have h:=Ws.av h (b3:=[j]) aj; exact h)⟩
 intro ⟨ea,a2⟩ ⟨aA,eb⟩;have bD:=h0 br aA;rw [eE] at aA;refine aa (Cr (ad O ?_))
 refine iR (ι:=(a8×(Option Addr×Nat))×(Option Addr×Nat)×Tk) (κ:=(Option Addr×Nat)×Tk) [_] _ Y O aC O O (λi=>.agg #[.int .i64 (i.1.1).op,.int .i64 (i.1.1).n,st (i.1.1).mod,st (i.1.1).nm,.slice i.1.2.1 (i.1.1).args.length i.1.2.2]) (λi=>aS o i.2.1 i.2.2) (λE i=>cR 6 a2=some (i.1.1,i.2.2)/\Sl (a_ 6) 5 E i.1.2.1 i.1.2.2 i.1.1.args/\Sl b7 3 j i.2.1.1 i.2.1.2 i.2.2) (λ_=>cP) (λi=>aS o i.1 i.2) (λ_=>cR 6 a2=none) ([j]) aj gO (λw a=>((λo r l d w b c g v=>sa j 6 o r l d w b c g v) o ea a2 1 w O bD eb a).mono λe w' h=>by
     rcases h with ⟨x,s,u,q,b,c,g,v,F⟩ | ⟨u,q,b,c,g⟩
     · exact .inl ⟨((x,s),u,q),b,⟨c,g,v⟩,F⟩
     · exact .inr ⟨(u,q),b,c,g⟩) ?_ ?_
 ·intro ⟨z,A⟩ y;refine WE.cm (WE.cm (Ep ?_));refine bU λw' a=>?_;exact .inr ⟨z,A,O,by simp only [eO,fh,fq,fe,aM,ff,fg,B,D,H,K,L,M,a1,aA,y,bt,da,cW,dB],(by have h:=a; have h:=Wt 1 h; have h:=Ws.av h (b3:=[j]) aj; exact h)⟩
 intro ec ⟨⟨cy,cz⟩,ed,aB⟩ ee ⟨a3,ef,eg⟩;have eh:dm aB:=c_ bD a3;have eU:aB.length+1<=List.length (a2):=oc bD a3;refine Lb Y O ky O O O O λei=>?_;refine LN (rd:=bK) (f:=XE.cells) (m:=1) 0 [(cy,cz.1,cz.2)] O O (λk G=>by simp [aS,ao] at G; subst G; simp [eu,aS,ao,b6]) XE.ck cp (show 1<=1 by decide) aF λeV ej ek=>?_;refine I (Yf ny O) (aQ 1 Y O O O dZ O O O (I (Yf c8 O) (aQ 1 Y O O O p5 O O O (Ln (Eb (Eb (Et (ag (ad O ?_)))))))));refine Lb Y O dT O O O O λar=>?_;refine bm (T:=9) (m:=1) 0 [[59]] O O (show 1<=1 by decide) aF λJ N=>?_
 refine dk (ι:=(Option Addr×Nat)×Tk) (κ:=(Option Addr×Nat)×Tk) [_] _ Y O aC O O (λ_=>.tuple #[]) (λi=>aS o i.1 i.2) (λi=>dn [[59]] aB=some i.2/\Sl b7 3 j i.1.1 i.1.2 i.2) (λ_=>cP) (λi=>aS o i.1 i.2) (λ_=>dn [[59]] aB=none) ([j,J]) aj (λw a=>(h1 o j ed aB J _ _ [[59]] w N eg a).mono λe w' h=>by
     rcases h with ⟨u,q,b,c,g,v⟩ | ⟨u,q,b,c,g⟩
     · exact .inl ⟨(u,q),b,⟨c,g⟩,v⟩
     · exact .inr ⟨(u,q),b,c,g⟩) ?_ ?_
 ·intro ⟨z,A⟩ y;rw [eE] at y;refine Ep ?_;refine bU λw' a=>?_;exact .inr ⟨z,A,O,by simp only [eO,fh,fq,fe,aM,ff,fg,B,D,H,K,L,M,a1,aA,a3,y,bt,da,cW,dB],(by have h:=a; have h:=Wt 1 h; have h:=Ws.av h (b3:=[j]) aj; exact h)⟩
 intro ⟨P,Q⟩ ⟨C,R⟩;have au:=h0 eh C;rw [eE] at C;refine aa (ag (I (cc 1 O O jQ O) (aQ 2 Y O O O o2 O O O (aa (a7 ?_)))));refine WE.eB (hy O (dX 2 O O jQ O)) λw' a=>?_;exact .inl ⟨bq.mk 1 X.1 X.2 [cy] [] [],⟨(some ⟨ei,0,none⟩,1),((none,0):Option Addr×Nat),((none,0):Option Addr×Nat)⟩,P,Q,O,by simp only [eO,fh,fq,fe,aM,ff,fg,B,D,H,K,L,M,a1,aA,a3,C,bt,da,cW,dB],⟨(kx ek (cU a aj ej) (cU a aj ee) ((hr.nil ec 6).snoc (bF.refl _) (bF.refl _) ef)),Sl.nil,Sl.nil⟩,R,Wv 4 (Wt 1 a)⟩
theorem Km (b:View) (f:Nat) (j:Nat) (r:Option Addr×Nat) (l:Tk) (d:Nat) (w:World) (aQ:f+d=7) (F:dm l) (af:Sl b7 3 b r.1 r.2 l) (o:Ws w (List.flatMap aW.ids (aS j r l)) (aS j r l) [b] w) :
   Calls prog 123 #[.pointer (some ⟨j,0,none⟩),.int .i64 (d:Int)] w λe w'=>(∃(x:List bq) (s:Option Addr×Nat) (t:Option Addr×Nat) (q:Tk),e = .returned (.slice s.1 x.length s.2)/\a' f l=some (x,q)/\Sl (g_ 7 f) 6 (nv w w') s.1 s.2 x/\Sl b7 3 b t.1 t.2 q/\Ws w (List.flatMap aW.ids (aS j r l)) (aS j t q) [b] w')\/(∃(t:Option Addr×Nat) (q:Tk),e = .panicked cP/\a' f l=none/\Ws w (List.flatMap aW.ids (aS j r l)) (aS j t q) [b] w'):=by
 induction f using Nat.strongRecOn generalizing j r l d w
 rename_i f ah;refine enter func123 O 23 O O ?_;refine CE o (ag (ak O (aa (Cs (ag (ad O (I (dO O O) (aa ?_))))))));refine Cc O (λG=>?_) (λG=>?_)
 ·have ai:a' f l=none:=by
    obtain rfl:f=0:=by simp at G; omega
    rfl
  refine Cr (I (Yb dH dF O O) (I (nO q5 O) ?_));refine WL.panic Y O ?_;refine Ep ?_;refine bU λw' o=>?_;exact .inr ⟨r,l,O,ai,(by have h:=o; exact h)⟩
 have aR:¬6<d:=by simp at G; omega
 obtain ⟨f,rfl⟩:∃k,f=k+1:=⟨f-1,ae⟩;have al:Kl b f:=λj r l d w u v y A=>ah f ae j r l d w u v y A;refine bk (ag (ad O ?_));refine Lb Y O dT O O O O λaT=>?_;refine bm (T:=9) (m:=1) 0 [[123]] O O (show 1<=1 by decide) aF λR am=>?_
 refine dk (ι:=(Option Addr×Nat)×Tk) (κ:=(Option Addr×Nat)×Tk) [_] _ Y O aC O O (λ_=>.tuple #[]) (λi=>aS j i.1 i.2) (λi=>dn [[123]] l=some i.2/\Sl b7 3 b i.1.1 i.1.2 i.2) (λ_=>cP) (λi=>aS j i.1 i.2) (λ_=>dn [[123]] l=none) ([b,R]) aj (λw o=>(h1 j b r l R _ _ [[123]] w am af o).mono λe w' h=>by
     rcases h with ⟨t,q,u,v,y,A⟩ | ⟨t,q,u,v,y⟩
     · exact .inl ⟨(t,q),u,⟨v,y⟩,A⟩
     · exact .inr ⟨(t,q),u,v,y⟩) ?_ ?_
 ·intro ⟨H,K⟩ C;rw [eE] at C;refine Ep ?_;refine bU λw' o=>?_;exact .inr ⟨H,K,O,by rw [a',C]; rfl,(by have h:=o; have h:=Ws.av h (b3:=[b]) aj; exact h)⟩
 intro ⟨an,L⟩ ⟨D,ap⟩;have aq:=h0 F D;rw [eE] at D;refine aa (ag (ak O (LW (λ_ h=>h.eM 242 6) ?_)));refine WL.v0 ?_;refine aa (Cs (Cb ?_));refine dc (ι:=GS) (λg=>[(5,.slice g.a g.es.length g.c)]) [(0,_),(1,_),(4,_)] (λg=>Ws w (List.flatMap aW.ids (aS j r l)) (aS j g.r g.q++[bS 242 6 SX.cells g.a g.c g.es]) [g.J,b]) (λg=>(g.es.length+g.q.length<=l.length/\dm g.q)/\Sl b7 3 b g.r.1 g.r.2 g.q/\(fj w g.J/\o6 g.J f g.es)/\∃n,g.q.length<n/\a' (f+1) l=(lK (eO (a' f)) n g.q).map λp=>(g.es.map (·.1)++p.1,p.2)) (λg=>g.q.length) ⟨[],none,0,v0,an,L⟩ ⟨⟨by have:L.length+1=l.length:=hY D; simp; omega,aq⟩,ap,⟨nh w,o6.nil _ _⟩,L.length+1,aj,by rw [a',D]; simp⟩ (λ_ h=>by have h:=h.bu 1 O; have h:=Ws.av h (b3:=[v0,b]) aj; exact h) ?_;intro g ⟨⟨aU,E⟩,ar,⟨S,U⟩,z⟩;refine Cs (ag (ad O ?_));refine Lw [_] _ Y O aC O O _ _ _ [b] aj (λw o=>hq j b g.r g.q [125] w ar o) ?_;intro ⟨aV,V,au⟩ ⟨aw,ax,W⟩;refine I (e5 O) (aa ?_);refine Cc O (λM=>?_) (λM=>?_)
 ·obtain ⟨X,ay⟩:=ax (by simpa using M);subst ay;obtain ⟨n,az,z⟩:=z;obtain ⟨n,rfl⟩:∃k,n=k+1:=⟨n-1,ae⟩;refine bk (Cb (Cr (ad O (ad O (ad O ?_)))))
  refine iR (ι:=(bq×oe)×(Option Addr×Nat)×Tk) (κ:=(Option Addr×Nat)×Tk) [_] _ Y O aC O O (λi=>.agg #[.int .i64 (i.1.1).op,st (i.1.1).mod,st (i.1.1).nm,.slice (i.1.2).s1.1 (i.1.1).args.length (i.1.2).s1.2,.slice (i.1.2).s2.1 (i.1.1).body.length (i.1.2).s2.2,.slice (i.1.2).s3.1 (i.1.1).other.length (i.1.2).s3.2]) (λi=>aS j i.2.1 i.2.2) (λaA i=>eO (a' f) g.q=some (i.1.1,i.2.2)/\tv f aA i.1.1 i.1.2/\Sl b7 3 b i.2.1.1 i.2.1.2 i.2.2) (λ_=>cP) (λi=>aS j i.1 i.2) (λ_=>eO (a' f) g.q=none) ([b]) aj gO (λw o=>(SJ j b V g.q f d w al ae E W o).mono λe w' h=>by
      rcases h with ⟨x,s,t,q,u,v,y,A,aB⟩ | ⟨t,q,u,v,y⟩
      · exact .inl ⟨((x,s),t,q),u,⟨v,y,A⟩,aB⟩
      · exact .inr ⟨(t,q),u,v,y⟩) ?_ ?_
  ·intro ⟨H,K⟩ C;refine WE.cm (Ep (WE.cm (Ep ?_)));refine bU λw' o=>?_;exact .inr ⟨H,K,O,by rw [z,SI X C]; rfl,(by have h:=o; have h:=Wt 1 h; have h:=Ws.av h (b3:=[b]) aj; exact h)⟩
  intro aX ⟨⟨N,P⟩,aD,B⟩ aE ⟨Q,aG,aH⟩;have aI:dm B:=SD E Q;have aY:B.length<List.length (g.q):=Ra (w7 f) (E).all Q;refine WL.h6 λZ aJ aK aL=>?_;refine Lb Y O zR O O O O λaZ=>?_;refine cF 0 (.cells (SX.cells (N,P)).toArray 242 (0,0)) O O ?_;refine LA ((N,P):SX) 2 0 Y O zR O O O O O O (by have:=F.len; omega) (by have:=F.len; omega) λaM aN=>?_;refine ak O (Ln (Eb ?_))
  exact b8 (⟨g.es++[(N,P)],aM,aN,Z,aD,B⟩:GS) (by show B.length<g.q.length; omega) ⟨⟨by simp; omega,aI⟩,aH,⟨aL _ aE S,o6.snoc U aK aJ aG⟩,n,(show B.length<n by omega),by rw [z,SH X Q]; simp [qm]⟩ (λ_ h=>by
      have h:=h.bu 2 rfl;have h:=h.bu 2 rfl;have h:=Wt 2 h;have h:=Ws.av h (b3:=[Z,b]) aj
      exact h)
 have ab:=aw (by simpa using M);have a0:=hZ E ab;obtain ⟨n,az,z⟩:=z;obtain ⟨n,rfl⟩:∃k,n=k+1:=⟨n-1,ae⟩;refine Ce (Ex (Ex (cB (Et (Cs ?_)))));refine WC.nj (rd:=zQ) 1 O (λk ac=>by simp [aS,ao] at ac; subst ac; simp [eu,aS,ao,b6]) SX.ck cp λa1 aO aP=>?_;refine Cr (ad O (ak O (aa (a7 ?_))));refine R1 O O λw' o=>?_;exact .inl ⟨g.es.map (·.1),(g.a,g.c),V,au,by rw [eo],by rw [z,SG ab]; simp,DW aP (cU o aj aO) (cU o aj S) U,W,(Wv 2 o)⟩
theorem SK {l r:Tk} {bG:Bool} {o:Option cQ} (h:dm l) (e:aN bG l=some (o,r)):dm r:=by
 cases o with
 | none=>obtain rfl:=Dk e; exact h
 | some d=>exact dD h (IT h.all e).1
theorem SL {l r:Tk} {bG:Bool} {d:cQ} (h:dm l) (e:aN bG l=some (some d,r)):r.length<l.length:=by
 have a:=(IT h.all e).1.2;rw [a];simp [oZ];omega
theorem SM {l r:Tk} {bG:Bool} {p:ed} (h:dm l) (e:iF bG l=some (p,r)):dm r:=dD h (IW h.all e).1
theorem DX {l r:Tk} {bG:Bool} {p:ed} (h:dm l) (e:iF bG l=some (p,r)):r.length<l.length:=by
 have a:=(IW h.all e).1.2;rw [a];simp [qU];omega
theorem mS {l r:Tk} {a:Tx} (h:dm l) (e:eb l=some (a,r)):r.length<l.length:=by
 have b:=(pW h.all e).1.2;rw [b];simp
theorem DY {l q:Tk} {b:Bool} (a:b=true->aY [112,117,98] l=some q) (c:b=false->aY [112,117,98] l=none/\l=q):eG l=(b,q):=by
 unfold eG;rw [show tf=[112,117,98] from rfl]
 cases b with
 | true=>rw [a rfl]; rfl
 | false=>obtain ⟨d,e⟩:=c rfl; rw [d,e]; rfl
theorem DZ {l q:Tk} {b:Bool} (h:dm l) (a:b=true->aY [112,117,98] l=some q) (c:b=false->aY [112,117,98] l=none/\l=q):dm q/\q.length<=l.length:=by
 cases b with
 | true=>exact ⟨hZ h (a rfl),by have:=hY (a rfl); omega⟩
 | false=>obtain ⟨_,d⟩:=c rfl; subst d; exact ⟨h,dp _⟩
theorem SN {n:Nat} {first:Bool} {l q:Tk} (h:aY [41] l=some q):ic (n+1) first l=some ([],q):=by rw [ic,h]
theorem SO {n:Nat} {l q:Tk} {a:Tx} (h:aY [41] l=none) (b:eb l=some (a,q)):ic (n+1) true l=(ic n false q).map λp=>(a::p.1,p.2):=by rw [ic,h]; simp [b]
theorem Pr {n:Nat} {l:Tk} (h:aY [41] l=none) (a:eb l=none):ic (n+1) true l=none:=by rw [ic,h]; simp [a]
theorem SQ {n:Nat} {l b q:Tk} {a:Tx} (h:aY [41] l=none) (c:aY [44] l=some b) (d:eb b=some (a,q)):ic (n+1) false l=(ic n false q).map λp=>(a::p.1,p.2):=by rw [ic,h]; simp [d,c]
theorem SR {n:Nat} {l:Tk} (h:aY [41] l=none) (a:aY [44] l=none):ic (n+1) false l=none:=by rw [ic,h]; simp [a]
theorem SS {n:Nat} {l a:Tk} (h:aY [41] l=none) (b:aY [44] l=some a) (c:eb a=none):ic (n+1) false l=none:=by rw [ic,h]; simp [c,b]
def isNil (l:List Tx):Bool:=match l with | []=>true | _=>false
theorem Kn (l:List Tx) (x:Tx):isNil (l++[x])=false:=by cases l<;>rfl
theorem SU {l:List Tx} (h:¬0<l.length):isNil l=true:=by cases l with | nil=>rfl | cons _ _=>exact absurd aj h
theorem SV {l:List Tx} (h:0<l.length):isNil l=false:=by cases l with | nil=>simp at h | cons _ _=>rfl
structure eF where
 s1:Option Addr×Nat
 s2:Option Addr×Nat
 s3:Option Addr×Nat
abbrev PX:=ed×eF
def PX.cells (e:PX):List Value:=BR e.1 e.2.s1.1 e.2.s1.2 e.2.s2.1 e.2.s2.2 e.2.s3.1 e.2.s3.2
theorem PX.ck (e:PX):(PX.cells e).length=5:=rfl
def rY (a:View) (b o:Nat) (e:PX):Prop:=bR a b o (PX.cells e)
structure tw (N:View) (x:ed) (p:eF):Prop where
 params:Sl rdStr 1 N p.s1.1 p.s1.2 x.params
 aB:Sl rdStr 1 N p.s2.1 p.s2.2 x.aB
 body:Sl (g_ 7 6) 6 N p.s3.1 p.s3.2 x.body
theorem o7 {d N:View} {c:Nat} {a:Option Addr} {l:List Tx} (h:Sl rdStr 1 d a c l) (hv:bF d N):Sl rdStr 1 N a c l:=h.imp λb o y e=>um hv b o y e
theorem D1 {d N:View} {c:Nat} {a:Option Addr} {l:List cQ} (h:Sl sV 4 d a c l) (hv:bF d N):Sl sV 4 N a c l:=h.imp λb o y e=>N5 hv b o y e
theorem tw.mv {a N:View} {x:ed} {p:eF} (h:tw a x p) (hv:bF a N):tw N x p:=⟨o7 h.params hv,o7 h.aB hv,q6 h.body hv⟩
def p6 (J:View) (es:List PX):Prop:=∀e ∈ es,tw J e.1 e.2
theorem p6.nil (J:View):p6 J []:=by intro e h; simp at h
theorem p6.snoc {J c b:View} {es:List PX} {e:PX} (h:p6 J es) (d:bF J b) (f:bF c b) (g:tw c e.1 e.2):p6 b (es++[e]):=by
 intro x a
 rcases dA.1 a with a | a
 · exact (h x a).mv d
 · rw [az] at a
   subst a;exact g.mv f
theorem Ko {f J N:View} {c:Nat} {a:Option Addr} {es:List PX} (h:Sl rY 5 f a c es) (hv:bF f N) (k:bF J N) (l:p6 J es):Sl (yN 7 6) 5 N a c (es.map (·.1)):=by
 refine ⟨by simpa using h.cap,h.max,h.spot,λi x g=>?_⟩;rw [eZ] at g;obtain ⟨e,j,rfl⟩:=dr.1 g;obtain ⟨b,o,m,n⟩:=h.bT i e j;have d:=(l e (ax j)).mv k;exact ⟨b,o,m,e.2.s1.1,e.2.s1.2,e.2.s2.1,e.2.s2.2,e.2.s3.1,e.2.s3.2,bR.mono hv n,d.params,d.aB,d.body⟩
structure GN where
 ps:List Tx
 a:Option Addr
 c:Nat
 r:Option Addr×Nat
 q:Tk
structure GD where
 ds:List cQ
 a:Option Addr
 c:Nat
 bG:Bool
 r:Option Addr×Nat
 q:Tk
structure GM where
 ps:List PX
 a:Option Addr
 c:Nat
 J:View
 bG:Bool
 r:Option Addr×Nat
 q:Tk
theorem Pu {n:Nat} {l:Tk} (h:aY [108,111,99,97,108] l=none):jr (n+1) l=some ([],l):=by rw [jr,show oW=[108,111,99,97,108] from rfl,h]
theorem Px {n:Nat} {l b q c:Tk} {a:Tx} (h:aY [108,111,99,97,108] l=some b) (d:eb b=some (a,q)) (e:aY [59] q=some c):jr (n+1) l=(jr n c).map λp=>(a::p.1,p.2):=by rw [jr,show oW=[108,111,99,97,108] from rfl,h]; simp [d,e]
theorem SY {n:Nat} {l a:Tk} (h:aY [108,111,99,97,108] l=some a) (b:eb a=none):jr (n+1) l=none:=by rw [jr,show oW=[108,111,99,97,108] from rfl,h]; simp [b]
theorem SZ {n:Nat} {l b q:Tk} {a:Tx} (h:aY [108,111,99,97,108] l=some b) (c:eb b=some (a,q)) (d:aY [59] q=none):jr (n+1) l=none:=by rw [jr,show oW=[108,111,99,97,108] from rfl,h]; simp [c,d]
theorem Py {n:Nat} {l:Tk} (h:aY [117,115,101] l=none):jO (n+1) l=some ([],l):=by rw [jO,show n5=[117,115,101] from rfl,h]
theorem S1 {n:Nat} {l b q c:Tk} {a:Tx} (h:aY [117,115,101] l=some b) (d:eb b=some (a,q)) (e:aY [59] q=some c):jO (n+1) l=(jO n c).map λp=>(a::p.1,p.2):=by rw [jO,show n5=[117,115,101] from rfl,h]; simp [d,e]
theorem S2 {n:Nat} {l a:Tk} (h:aY [117,115,101] l=some a) (b:eb a=none):jO (n+1) l=none:=by rw [jO,show n5=[117,115,101] from rfl,h]; simp [b]
theorem S3 {n:Nat} {l b q:Tk} {a:Tx} (h:aY [117,115,101] l=some b) (c:eb b=some (a,q)) (d:aY [59] q=none):jO (n+1) l=none:=by rw [jO,show n5=[117,115,101] from rfl,h]; simp [c,d]
theorem S4 {n:Nat} {bG:Bool} {l q:Tk} (h:aN bG l=some (none,q)):kQ (n+1) bG l=some (([],bG),q):=by rw [kQ,h]; rfl
theorem S5 {n:Nat} {bG b:Bool} {l q a:Tk} {d:cQ} (h:aN bG l=some (some d,q)) (c:eG q=(b,a)):kQ (n+1) bG l=(kQ n b a).map λp=>((d::p.1.1,p.1.2),p.2):=by rw [kQ,h]; simp only [bt]; rw [c]
theorem S6 {n:Nat} {bG:Bool} {l:Tk} (h:aN bG l=none):kQ (n+1) bG l=none:=by rw [kQ,h]; rfl
theorem S7 {n:Nat} {bG:Bool} {l:Tk} (h:aY [112,114,111,99] l=none):kR (n+1) bG l=some (([],bG),l):=by rw [kR,show n6=[112,114,111,99] from rfl,h]
theorem S8 {n:Nat} {bG b:Bool} {l a q c:Tk} {d:ed} (e:aY [112,114,111,99] l=some a) (h:iF bG a=some (d,q)) (f:eG q=(b,c)):kR (n+1) bG l=(kR n b c).map λp=>((d::p.1.1,p.1.2),p.2):=by rw [kR,show n6=[112,114,111,99] from rfl,e]; simp only; rw [h]; simp only [bt]; rw [f]
theorem S9 {n:Nat} {bG:Bool} {l a:Tk} (b:aY [112,114,111,99] l=some a) (h:iF bG a=none):kR (n+1) bG l=none:=by rw [kR,show n6=[112,114,111,99] from rfl,b]; simp only; rw [h]; rfl
theorem zS:gx prog 214=some [(0,1),(1,1),(2,1),(3,1)]:=ab
theorem S' (d:Nat) (b:View) (r:Option Addr×Nat) (l:Tk) (bG:Bool) (w:World) (P:dm l) (aB:Sl b7 3 b r.1 r.2 l) (a:Ws w (List.flatMap aW.ids (aS d r l)) (aS d r l) [b] w) :
   Calls prog 121 #[.pointer (some ⟨d,0,none⟩),.bool bG] w λe w'=>(∃(o:Option cQ) (c:Option Addr×Nat) (q:Tk),e = .returned (.tuple #[.agg #[.int .i64 ((o).getD (⟨0,[],bG,0⟩:cQ)).kind,st ((o).getD (⟨0,[],bG,0⟩:cQ)).nm,.bool ((o).getD (⟨0,[],bG,0⟩:cQ)).bG,.int .i64 ((o).getD (⟨0,[],bG,0⟩:cQ)).n],.bool (o).isSome])/\aN bG l=some (o,q)/\Sl b7 3 b c.1 c.2 q/\Ws w (List.flatMap aW.ids (aS d r l)) (aS d c q) [b] w')\/(∃(c:Option Addr×Nat) (q:Tk),e = .panicked cP/\aN bG l=none/\Ws w (List.flatMap aW.ids (aS d r l)) (aS d c q) [b] w'):=by
 refine enter func121 O 50 O O ?_;refine CE a (ag ?_);refine Al Y O p3 λbr=>?_;refine ak O (aa (ag (ad O (I (Yb p3 zS O O) ?_))));refine Al Y O p3 λbs=>?_;refine aQ 0 Y O O O dC O O O (aa (Cs (Cb (ag (ad O (Lf 2 O ?_))))));refine Lw [_] _ Y O aC O O _ _ _ [b] aj (λw a=>hq d b r l [99,111,110,115,116] w aB a) ?_;intro ⟨bu,an,Q⟩ ⟨aD,aE,ao⟩;refine ak O (aa ?_);refine Cc O (λR=>?_) (λR=>?_)
 ·have B:=aD R;have aG:=hZ P B;refine ag (ad O ?_)
  refine dk (ι:=(Tx)×(Option Addr×Nat)×Tk) (κ:=(Option Addr×Nat)×Tk) [_] _ Y O aC O O (λi=>st i.1) (λi=>aS d i.2.1 i.2.2) (λi=>eb Q=some (i.1,i.2.2)/\Sl b7 3 b i.2.1.1 i.2.1.2 i.2.2) (λ_=>cP) (λi=>aS d i.1 i.2) (λ_=>eb Q=none) ([b]) aj (λw a=>(o5 d b an Q w ao a).mono λe w' h=>by
      rcases h with ⟨t,c,q,f,g,j,p⟩ | ⟨c,q,f,g,j⟩
      · exact .inl ⟨(t,c,q),f,⟨g,j⟩,p⟩
      · exact .inr ⟨(c,q),f,g,j⟩) ?_ ?_
  ·intro ⟨s,u⟩ k;refine Ep (WE.cm (Ep ?_));refine bU λw' a=>?_;exact .inr ⟨s,u,O,by simp only [aN,ja,jb,jc,B,k,bt,da,cW,dB],(by have h:=a; have h:=Wt 1 h; exact h)⟩
  intro ⟨aH,aI,S⟩ ⟨E,aJ⟩;have aK:=o4 aG E;refine I (Yf u4 O) (aQ 1 Y O O O dZ O O O (I (Yf xc O) (aQ 1 Y O O O vd O O O (aa (ag (ad O ?_))))));refine Lb Y O dT O O O O λbv=>?_;refine bm (T:=9) (m:=1) 0 [[61]] O O (show 1<=1 by decide) aF λap aL=>?_
  refine dk (ι:=(Option Addr×Nat)×Tk) (κ:=(Option Addr×Nat)×Tk) [_] _ Y O aC O O (λ_=>.tuple #[]) (λi=>aS d i.1 i.2) (λi=>dn [[61]] S=some i.2/\Sl b7 3 b i.1.1 i.1.2 i.2) (λ_=>cP) (λi=>aS d i.1 i.2) (λ_=>dn [[61]] S=none) ([b,ap]) aj (λw a=>(h1 d b aI S ap _ _ [[61]] w aL aJ a).mono λe w' h=>by
      rcases h with ⟨c,q,f,g,j,p⟩ | ⟨c,q,f,g,j⟩
      · exact .inl ⟨(c,q),f,⟨g,j⟩,p⟩
      · exact .inr ⟨(c,q),f,g,j⟩) ?_ ?_
  ·intro ⟨s,u⟩ k;rw [eE] at k;refine Ep (WE.cm (Ep ?_));refine bU λw' a=>?_;exact .inr ⟨s,u,O,by simp only [aN,ja,jb,jc,B,E,k,bt,da,cW,dB],(by have h:=a; have h:=Wt 1 h; have h:=Ws.av h (b3:=[b]) aj; exact h)⟩
  intro ⟨aM,U⟩ ⟨F,aO⟩;have aP:=h0 aK F;rw [eE] at F;refine aa (Cr (ad O ?_))
  refine dk (ι:=(Int)×(Option Addr×Nat)×Tk) (κ:=(Option Addr×Nat)×Tk) [_] _ Y O aC O O (λi=>.int .i64 i.1) (λi=>aS d i.2.1 i.2.2) (λi=>jM U=some (i.1,i.2.2)/\Sl b7 3 b i.2.1.1 i.2.1.2 i.2.2) (λ_=>cP) (λi=>aS d i.1 i.2) (λ_=>jM U=none) ([b]) aj (λw a=>(DT d b aM U w aO a).mono λe w' h=>by
      rcases h with ⟨t,c,q,f,g,j,p⟩ | ⟨c,q,f,g,j⟩
      · exact .inl ⟨(t,c,q),f,⟨g,j⟩,p⟩
      · exact .inr ⟨(c,q),f,g,j⟩) ?_ ?_
  ·intro ⟨s,u⟩ k;refine WE.cm (Ep ?_);refine bU λw' a=>?_;exact .inr ⟨s,u,O,by simp only [aN,ja,jb,jc,B,E,F,k,bt,da,cW,dB],(by have h:=a; have h:=Wt 1 h; have h:=Ws.av h (b3:=[b]) aj; exact h)⟩
  intro ⟨aR,aT,V⟩ ⟨W,aU⟩;have aV:=DS aP W;refine I (Yf qX O) (aQ 1 Y O O O dZ O O O (Ln (Eb (Et (ag (ad O ?_))))));refine Lb Y O dT O O O O λaq=>?_;refine bm (T:=9) (m:=1) 0 [[59]] O O (show 1<=1 by decide) aF λy G=>?_
  refine dk (ι:=(Option Addr×Nat)×Tk) (κ:=(Option Addr×Nat)×Tk) [_] _ Y O aC O O (λ_=>.tuple #[]) (λi=>aS d i.1 i.2) (λi=>dn [[59]] V=some i.2/\Sl b7 3 b i.1.1 i.1.2 i.2) (λ_=>cP) (λi=>aS d i.1 i.2) (λ_=>dn [[59]] V=none) ([b,y]) aj (λw a=>(h1 d b aT V y _ _ [[59]] w G aU a).mono λe w' h=>by
      rcases h with ⟨c,q,f,g,j,p⟩ | ⟨c,q,f,g,j⟩
      · exact .inl ⟨(c,q),f,⟨g,j⟩,p⟩
      · exact .inr ⟨(c,q),f,g,j⟩) ?_ ?_
  ·intro ⟨s,u⟩ k;rw [eE] at k;refine Ep ?_;refine bU λw' a=>?_;exact .inr ⟨s,u,O,by simp only [aN,ja,jb,jc,B,E,F,W,k,bt,da,cW,dB],(by have h:=a; have h:=Wt 1 h; have h:=Ws.av h (b3:=[b]) aj; exact h)⟩
  intro ⟨H,J⟩ ⟨v,K⟩;have ar:=h0 aV v;rw [eE] at v;refine aa (ag (I (cc 1 O O nA O) (aQ 2 Y O O O dC O O O (ak O (aa (a7 ?_))))));refine WE.eB (fu O (dX 2 O O nA O) (gG O)) λw' a=>?_;exact .inl ⟨some ⟨1,aH,bG,aR⟩,H,J,O,by simp only [aN,ja,jb,jc,B,E,F,W,v,bt,da,cW,dB],K,Wv 2 (Wt 1 a)⟩
 obtain ⟨x,aX⟩:=aE R;subst aX;refine ag (ad O ?_);refine Lw [_] _ Y O aC O O _ _ _ [b] aj (λw a=>hq d b an l [118,97,114] w ao a) ?_;intro ⟨bw,au,X⟩ ⟨aY,aZ,aw⟩;refine ak O (aa ?_);refine Cc O (λZ=>?_) (λZ=>?_)
 ·have L:=aY Z;have a0:=hZ P L;refine Cr (ad O ?_)
  refine dk (ι:=(Tx)×(Option Addr×Nat)×Tk) (κ:=(Option Addr×Nat)×Tk) [_] _ Y O aC O O (λi=>st i.1) (λi=>aS d i.2.1 i.2.2) (λi=>eb X=some (i.1,i.2.2)/\Sl b7 3 b i.2.1.1 i.2.1.2 i.2.2) (λ_=>cP) (λi=>aS d i.1 i.2) (λ_=>eb X=none) ([b]) aj (λw a=>(o5 d b au X w aw a).mono λe w' h=>by
      rcases h with ⟨t,c,q,f,g,j,p⟩ | ⟨c,q,f,g,j⟩
      · exact .inl ⟨(t,c,q),f,⟨g,j⟩,p⟩
      · exact .inr ⟨(c,q),f,g,j⟩) ?_ ?_
  ·intro ⟨s,u⟩ k;refine WE.cm (Ep ?_);refine bU λw' a=>?_;exact .inr ⟨s,u,O,by simp only [aN,ja,jb,jc,x,L,k,bt,da,cW,dB],(by have h:=a; have h:=Wt 1 h; exact h)⟩
  intro ⟨a1,a2,ab⟩ ⟨ac,a3⟩;have a4:=o4 a0 ac;refine I (Yf u4 O) (aQ 1 Y O O O dZ O O O (I (Yf xc O) (aQ 1 Y O O O vd O O O (Ln (Eb (Et (ag (ad O ?_))))))));refine Lb Y O dT O O O O λaq=>?_;refine bm (T:=9) (m:=1) 0 [[59]] O O (show 1<=1 by decide) aF λy G=>?_
  refine dk (ι:=(Option Addr×Nat)×Tk) (κ:=(Option Addr×Nat)×Tk) [_] _ Y O aC O O (λ_=>.tuple #[]) (λi=>aS d i.1 i.2) (λi=>dn [[59]] ab=some i.2/\Sl b7 3 b i.1.1 i.1.2 i.2) (λ_=>cP) (λi=>aS d i.1 i.2) (λ_=>dn [[59]] ab=none) ([b,y]) aj (λw a=>(h1 d b a2 ab y _ _ [[59]] w G a3 a).mono λe w' h=>by
      rcases h with ⟨c,q,f,g,j,p⟩ | ⟨c,q,f,g,j⟩
      · exact .inl ⟨(c,q),f,⟨g,j⟩,p⟩
      · exact .inr ⟨(c,q),f,g,j⟩) ?_ ?_
  ·intro ⟨s,u⟩ k;rw [eE] at k;refine Ep ?_;refine bU λw' a=>?_;exact .inr ⟨s,u,O,by simp only [aN,ja,jb,jc,x,L,ac,k,bt,da,cW,dB],(by have h:=a; have h:=Wt 1 h; have h:=Ws.av h (b3:=[b]) aj; exact h)⟩
  intro ⟨H,J⟩ ⟨v,K⟩;have ar:=h0 a4 v;rw [eE] at v;refine aa (ag (I (cc 1 O O nA O) (aQ 2 Y O O O dC O O O (ak O (aa (a7 ?_))))));refine WE.eB (fu O (dX 2 O O nA O) (gG O)) λw' a=>?_;exact .inl ⟨some ⟨2,a1,bG,0⟩,H,J,O,by simp only [aN,ja,jb,jc,x,L,ac,v,bt,da,cW,dB],K,Wv 1 (Wt 1 a)⟩
 obtain ⟨z,a5⟩:=aZ Z;subst a5;refine ag (ad O ?_);refine Lw [_] _ Y O aC O O _ _ _ [b] aj (λw a=>hq d b au l [97,114,114,97,121] w aw a) ?_;intro ⟨bx,ax,ae⟩ ⟨a6,a8,ay⟩;refine ak O (aa ?_);refine Cc O (λaf=>?_) (λaf=>?_)
 ·have A:=a6 af;have a9:=hZ P A;refine ag (ad O ?_)
  refine dk (ι:=(Tx)×(Option Addr×Nat)×Tk) (κ:=(Option Addr×Nat)×Tk) [_] _ Y O aC O O (λi=>st i.1) (λi=>aS d i.2.1 i.2.2) (λi=>eb ae=some (i.1,i.2.2)/\Sl b7 3 b i.2.1.1 i.2.1.2 i.2.2) (λ_=>cP) (λi=>aS d i.1 i.2) (λ_=>eb ae=none) ([b]) aj (λw a=>(o5 d b ax ae w ay a).mono λe w' h=>by
      rcases h with ⟨t,c,q,f,g,j,p⟩ | ⟨c,q,f,g,j⟩
      · exact .inl ⟨(t,c,q),f,⟨g,j⟩,p⟩
      · exact .inr ⟨(c,q),f,g,j⟩) ?_ ?_
  ·intro ⟨s,u⟩ k;refine Ep (WE.cm (Ep ?_));refine bU λw' a=>?_;exact .inr ⟨s,u,O,by simp only [aN,ja,jb,jc,x,z,A,k,bt,da,cW,dB],(by have h:=a; have h:=Wt 1 h; exact h)⟩
  intro ⟨a',a_,ah⟩ ⟨C,ba⟩;have bb:=o4 a9 C;refine I (Yf u4 O) (aQ 1 Y O O O dZ O O O (I (Yf xc O) (aQ 1 Y O O O vd O O O (aa (ag (ad O ?_))))));refine Lb Y O dT O O O O λbz=>?_;refine bm (T:=9) (m:=1) 0 [[91]] O O (show 1<=1 by decide) aF λaz bc=>?_
  refine dk (ι:=(Option Addr×Nat)×Tk) (κ:=(Option Addr×Nat)×Tk) [_] _ Y O aC O O (λ_=>.tuple #[]) (λi=>aS d i.1 i.2) (λi=>dn [[91]] ah=some i.2/\Sl b7 3 b i.1.1 i.1.2 i.2) (λ_=>cP) (λi=>aS d i.1 i.2) (λ_=>dn [[91]] ah=none) ([b,az]) aj (λw a=>(h1 d b a_ ah az _ _ [[91]] w bc ba a).mono λe w' h=>by
      rcases h with ⟨c,q,f,g,j,p⟩ | ⟨c,q,f,g,j⟩
      · exact .inl ⟨(c,q),f,⟨g,j⟩,p⟩
      · exact .inr ⟨(c,q),f,g,j⟩) ?_ ?_
  ·intro ⟨s,u⟩ k;rw [eE] at k;refine Ep (WE.cm (Ep ?_));refine bU λw' a=>?_;exact .inr ⟨s,u,O,by simp only [aN,ja,jb,jc,x,z,A,C,k,bt,da,cW,dB],(by have h:=a; have h:=Wt 1 h; have h:=Ws.av h (b3:=[b]) aj; exact h)⟩
  intro ⟨bd,ai⟩ ⟨D,be⟩;have bf:=h0 bb D;rw [eE] at D;refine aa (ag (ad O ?_))
  refine dk (ι:=(Int)×(Option Addr×Nat)×Tk) (κ:=(Option Addr×Nat)×Tk) [_] _ Y O aC O O (λi=>.int .i64 i.1) (λi=>aS d i.2.1 i.2.2) (λi=>jM ai=some (i.1,i.2.2)/\Sl b7 3 b i.2.1.1 i.2.1.2 i.2.2) (λ_=>cP) (λi=>aS d i.1 i.2) (λ_=>jM ai=none) ([b]) aj (λw a=>(DT d b bd ai w be a).mono λe w' h=>by
      rcases h with ⟨t,c,q,f,g,j,p⟩ | ⟨c,q,f,g,j⟩
      · exact .inl ⟨(t,c,q),f,⟨g,j⟩,p⟩
      · exact .inr ⟨(c,q),f,g,j⟩) ?_ ?_
  ·intro ⟨s,u⟩ k;refine Ep (WE.cm (Ep ?_));refine bU λw' a=>?_;exact .inr ⟨s,u,O,by simp only [aN,ja,jb,jc,x,z,A,C,D,k,bt,da,cW,dB],(by have h:=a; have h:=Wt 1 h; have h:=Ws.av h (b3:=[b]) aj; exact h)⟩
  intro ⟨bg,bh,al⟩ ⟨M,bi⟩;have bj:=DS bf M;refine I (Yf qX O) (aQ 1 Y O O O dZ O O O (aa (Cr (ad O ?_))));refine Lb Y O dT O O O O λbA=>?_;refine bm (T:=9) (m:=1) 0 [[93]] O O (show 1<=1 by decide) aF λaA bk=>?_
  refine dk (ι:=(Option Addr×Nat)×Tk) (κ:=(Option Addr×Nat)×Tk) [_] _ Y O aC O O (λ_=>.tuple #[]) (λi=>aS d i.1 i.2) (λi=>dn [[93]] al=some i.2/\Sl b7 3 b i.1.1 i.1.2 i.2) (λ_=>cP) (λi=>aS d i.1 i.2) (λ_=>dn [[93]] al=none) ([b,aA]) aj (λw a=>(h1 d b bh al aA _ _ [[93]] w bk bi a).mono λe w' h=>by
      rcases h with ⟨c,q,f,g,j,p⟩ | ⟨c,q,f,g,j⟩
      · exact .inl ⟨(c,q),f,⟨g,j⟩,p⟩
      · exact .inr ⟨(c,q),f,g,j⟩) ?_ ?_
  ·intro ⟨s,u⟩ k;rw [eE] at k;refine WE.cm (Ep ?_);refine bU λw' a=>?_;exact .inr ⟨s,u,O,by simp only [aN,ja,jb,jc,x,z,A,C,D,M,k,bt,da,cW,dB],(by have h:=a; have h:=Wt 1 h; have h:=Ws.av h (b3:=[b]) aj; exact h)⟩
  intro ⟨bl,am⟩ ⟨N,bn⟩;have bo:=h0 bj N;rw [eE] at N;refine Ln (Eb (Et (ag (ad O ?_))));refine Lb Y O dT O O O O λaq=>?_;refine bm (T:=9) (m:=1) 0 [[59]] O O (show 1<=1 by decide) aF λy G=>?_
  refine dk (ι:=(Option Addr×Nat)×Tk) (κ:=(Option Addr×Nat)×Tk) [_] _ Y O aC O O (λ_=>.tuple #[]) (λi=>aS d i.1 i.2) (λi=>dn [[59]] am=some i.2/\Sl b7 3 b i.1.1 i.1.2 i.2) (λ_=>cP) (λi=>aS d i.1 i.2) (λ_=>dn [[59]] am=none) ([b,y]) aj (λw a=>(h1 d b bl am y _ _ [[59]] w G bn a).mono λe w' h=>by
      rcases h with ⟨c,q,f,g,j,p⟩ | ⟨c,q,f,g,j⟩
      · exact .inl ⟨(c,q),f,⟨g,j⟩,p⟩
      · exact .inr ⟨(c,q),f,g,j⟩) ?_ ?_
  ·intro ⟨s,u⟩ k;rw [eE] at k;refine Ep ?_;refine bU λw' a=>?_;exact .inr ⟨s,u,O,by simp only [aN,ja,jb,jc,x,z,A,C,D,M,N,k,bt,da,cW,dB],(by have h:=a; have h:=Wt 1 h; have h:=Ws.av h (b3:=[b]) aj; exact h)⟩
  intro ⟨H,J⟩ ⟨v,K⟩;have ar:=h0 bo v;rw [eE] at v;refine aa (ag (I (cc 1 O O nA O) (aQ 2 Y O O O dC O O O (ak O (aa (a7 ?_))))));refine WE.eB (fu O (dX 2 O O nA O) (gG O)) λw' a=>?_;exact .inl ⟨some ⟨3,a',bG,bg⟩,H,J,O,by simp only [aN,ja,jb,jc,x,z,A,C,D,M,N,v,bt,da,cW,dB],K,Wv 3 (Wt 1 a)⟩
 obtain ⟨bp,bq⟩:=a8 af;subst bq;refine ag (I (cc 1 O O nA O) (aQ 2 Y O O O dC O O O (ak O (aa (a7 (cG (Er ?_)))))));refine WE.eB (fu O (dX 2 O O nA O) (gG O)) λw' a=>?_;exact .inl ⟨none,ax,l,O,by simp only [aN,ja,jb,jc,x,z,bp,bt,da,cW,dB],ay,Wt 1 a⟩
def xm (nm:Tx) (bG:Bool) (a1:Option Addr) (n1 c1:Nat) (a2:Option Addr) (n2 c2:Nat) (a3:Option Addr) (n3 c3:Nat):List Value:=[st nm,.bool bG,.slice a1 n1 c1,.slice a2 n2 c2,.slice a3 n3 c3]
theorem Kr:gx prog 151=some [(0,1),(1,1),(2,1),(3,1),(4,1)]:=ab
theorem xn:dI prog 22=some 1:=ab
theorem S_ (j:Nat) (b:View) (r:Option Addr×Nat) (l:Tk) (bG:Bool) (w:World) (P:dm l) (aV:Sl b7 3 b r.1 r.2 l) (f:Ws w (List.flatMap aW.ids (aS j r l)) (aS j r l) [b] w) :
   Calls prog 122 #[.pointer (some ⟨j,0,none⟩),.bool bG] w λe w'=>(∃(p:ed) (s:eF) (o:Option Addr×Nat) (q:Tk),e = .returned (.agg #[st (p).nm,.bool (p).bG,.slice (s).s1.1 (p).params.length (s).s1.2,.slice (s).s2.1 (p).aB.length (s).s2.2,.slice (s).s3.1 (p).body.length (s).s3.2])/\iF bG l=some (p,q)/\tw (nv w w') p s/\Sl b7 3 b o.1 o.2 q/\Ws w (List.flatMap aW.ids (aS j r l)) (aS j o q) [b] w')\/(∃(o:Option Addr×Nat) (q:Tk),e = .panicked cP/\iF bG l=none/\Ws w (List.flatMap aW.ids (aS j r l)) (aS j o q) [b] w'):=by
 refine enter func122 O 46 O O ?_;refine CE f (ag ?_);refine Al Y O r_ λaK=>?_;refine cF 0 (.cells (xm [] false none 0 0 none 0 0 none 0 0).toArray 151 (0,0)) O O (aa (ag (ad O (ad O (Lf 1 O ?_)))))
 refine dk (ι:=(Tx)×(Option Addr×Nat)×Tk) (κ:=(Option Addr×Nat)×Tk) [_] _ Y O aC O O (λi=>st i.1) (λi=>aS j i.2.1 i.2.2) (λi=>eb l=some (i.1,i.2.2)/\Sl b7 3 b i.2.1.1 i.2.1.2 i.2.2) (λ_=>cP) (λi=>aS j i.1 i.2) (λ_=>eb l=none) ([b]) aj (λw f=>(o5 j b r l w aV f).mono λe w' h=>by
     rcases h with ⟨t,o,q,u,y,z,C⟩ | ⟨o,q,u,y,z⟩
     · exact .inl ⟨(t,o,q),u,⟨y,z⟩,C⟩
     · exact .inr ⟨(o,q),u,y,z⟩) ?_ ?_
 ·intro ⟨D,E⟩ B;refine Ep ?_;refine bU λw' f=>?_;exact .inr ⟨D,E,O,by simp only [iF,B,cW],(by have h:=f; have h:=Wt 1 h; exact h)⟩
 intro ⟨am,aX,Z⟩ ⟨J,aY⟩;have aZ:=o4 P J;refine I (Yb r_ Kr O O) ?_;refine Al Y O r_ λaL=>?_;refine aQ 0 Y O O O vb O O O (LW (λ_ h=>h.eM 9 1) (LW (λ_ h=>h.eM 9 1) (aa (ag (ad O ?_)))));refine Lb Y O dT O O O O λbK=>?_;refine bm (T:=9) (m:=1) 0 [[40]] O O (show 1<=1 by decide) aF λaM a0=>?_;refine Lf 3 O ?_
 refine dk (ι:=(Option Addr×Nat)×Tk) (κ:=(Option Addr×Nat)×Tk) [_] _ Y O aC O O (λ_=>.tuple #[]) (λi=>aS j i.1 i.2) (λi=>dn [[40]] Z=some i.2/\Sl b7 3 b i.1.1 i.1.2 i.2) (λ_=>cP) (λi=>aS j i.1 i.2) (λ_=>dn [[40]] Z=none) ([b,aM]) aj (λw f=>(h1 j b aX Z aM _ _ [[40]] w a0 aY f).mono λe w' h=>by
     rcases h with ⟨o,q,u,y,z,C⟩ | ⟨o,q,u,y,z⟩
     · exact .inl ⟨(o,q),u,⟨y,z⟩,C⟩
     · exact .inr ⟨(o,q),u,y,z⟩) ?_ ?_
 ·intro ⟨D,E⟩ B;rw [eE] at B;refine Ep ?_;refine bU λw' f=>?_;exact .inr ⟨D,E,O,by simp only [iF,J,B,bt,cW],(by have h:=f; have h:=Wt 1 h; have h:=Ws.av h (b3:=[b]) aj; exact h)⟩
 intro ⟨a1,ac⟩ ⟨K,a2⟩;have a3:=h0 aZ K;rw [eE] at K;refine aa (Cs (Cb ?_));refine dc (ι:=GN) (λg=>[]) [(0,_),(4,_),(5,_)] (λg=>Ws w (List.flatMap aW.ids (aS j r l)) (aS j g.r g.q++[ao aL (.cells (xm am bG g.a g.ps.length g.c none 0 0 none 0 0).toArray 151 (0,0)),bS 9 1 c' g.a g.c g.ps,(bS 9 1 c' none 0 ([]:List Tx)),ao aK (.cells (xm [] false none 0 0 none 0 0 none 0 0).toArray 151 (0,0))]) [b]) (λg=>(g.ps.length+g.q.length<=l.length/\dm g.q)/\Sl b7 3 b g.r.1 g.r.2 g.q/\∃n,g.q.length<n/\ic (ac.length+1) true ac=(ic n (isNil g.ps) g.q).map λp=>(g.ps++p.1,p.2)) (λg=>g.q.length) ⟨[],none,0,a1,ac⟩ ⟨⟨by have:Z.length<l.length:=mS P J; have:ac.length+1=Z.length:=hY K; simp; omega,a3⟩,a2,ac.length+1,aj,by simp [isNil]⟩ (λ_ h=>by have h:=h.bu 4 O; have h:=h.bu 3 O; have h:=h.bu 3 O; have h:=h.bu 4 O; have h:=h.bu 4 O; have h:=Ws.av h (b3:=[b]) aj; exact h) ?_;intro g ⟨⟨bL,U⟩,a4,A⟩;refine Cs (ag (ad O ?_));refine Lw [_] _ Y O aC O O _ _ _ [b] aj (λw f=>hq j b g.r g.q [41] w a4 f) ?_;intro ⟨bM,ap,af⟩ ⟨a5,a6,aq⟩;refine I (e5 O) (aa ?_);refine Cc O (λar=>?_) (λar=>?_)
 ·obtain ⟨ah,a8⟩:=a6 (by simpa using ar);subst a8;obtain ⟨n,au,A⟩:=A;obtain ⟨n,rfl⟩:∃k,n=k+1:=⟨n-1,ae⟩;refine bk (Cb (Cs (ag (I (Yf p4 O) (I (Yd 1 O O O ab) (I (Yn dy O) (I (dO O O) (aa ?_))))))));refine Cc O (λaw=>?_) (λaw=>?_)
  ·have ax:0<g.ps.length:=by simpa using aw
   rw [SV ax] at A;refine Cr (ad O ?_);refine Lb Y O dT O O O O λbN=>?_;refine bm (T:=9) (m:=1) 0 [[44]] O O (show 1<=1 by decide) aF λaN a9=>?_
   refine dk (ι:=(Option Addr×Nat)×Tk) (κ:=(Option Addr×Nat)×Tk) [_] _ Y O aC O O (λ_=>.tuple #[]) (λi=>aS j i.1 i.2) (λi=>dn [[44]] g.q=some i.2/\Sl b7 3 b i.1.1 i.1.2 i.2) (λ_=>cP) (λi=>aS j i.1 i.2) (λ_=>dn [[44]] g.q=none) ([b,aN]) aj (λw f=>(h1 j b ap g.q aN _ _ [[44]] w a9 aq f).mono λe w' h=>by
       rcases h with ⟨o,q,u,y,z,C⟩ | ⟨o,q,u,y,z⟩
       · exact .inl ⟨(o,q),u,⟨y,z⟩,C⟩
       · exact .inr ⟨(o,q),u,y,z⟩) ?_ ?_
   ·intro ⟨D,E⟩ B;rw [eE] at B;refine Ep (WE.cm (Ep (WE.cm (Ep ?_))));refine bU λw' f=>?_;rw [SR ah B] at A;exact .inr ⟨D,E,O,by simp only [iF,J,K,A,bt,cW,dB],(by have h:=f; have h:=Wt 1 h; have h:=Ws.av h (b3:=[b]) aj; exact h)⟩
   intro ⟨a_,L⟩ ⟨Q,ba⟩;have ak:=h0 U Q;rw [eE] at Q;refine aa ?_;refine CU (λ_=>true) [0,1] [6,7] (.q false 0 (.q true 1 (.q false 2 (.e 3 (.e 4 (.e 5 .nil .stop) .stop) .stop)))) mixed ab (λ_ _ _ d _ _ h=>by cases d<;>exact h) ?_;refine U0 O (cH [0,1]) (Yf p4 O) (U0 O (cH [0,1]) (Yd 0 O O O ab) (U0 O (cH [0,1]) (Ym O) ?_));refine Ue O (cH [0,1]) ?_ WU.stop
   refine dk (ι:=(Tx)×(Option Addr×Nat)×Tk) (κ:=(Option Addr×Nat)×Tk) [_] _ Y O aC O O (λi=>st i.1) (λi=>aS j i.2.1 i.2.2) (λi=>eb L=some (i.1,i.2.2)/\Sl b7 3 b i.2.1.1 i.2.1.2 i.2.2) (λ_=>cP) (λi=>aS j i.1 i.2) (λ_=>eb L=none) ([b]) aj (λw f=>(o5 j b a_ L w ba f).mono λe w' h=>by
       rcases h with ⟨t,o,q,u,y,z,C⟩ | ⟨o,q,u,y,z⟩
       · exact .inl ⟨(t,o,q),u,⟨y,z⟩,C⟩
       · exact .inr ⟨(o,q),u,y,z⟩) ?_ ?_
   ·intro ⟨D,E⟩ B;refine Ep (WE.cm (Ep (WE.cm (Ep ?_))));refine bU λw' f=>?_;rw [SS ah Q B] at A;exact .inr ⟨D,E,O,by simp only [iF,J,K,A,bt,cW,dB],(by have h:=f; have h:=Wt 1 h; have h:=Ws.av h (b3:=[b]) aj; exact h)⟩
   intro ⟨R,ay,F⟩ ⟨H,az⟩;have aA:=o4 ak H;refine Ln (Eu ?_);refine Ue O (cH [0,1]) ?_ WU.stop;refine Lb Y O dT O O O O λbb=>?_;refine cF 0 (.cells (c' R).toArray 9 (0,0)) O O (Ln (Eu ?_));refine Ue O (λ_ h=>(Wo 1 (Wo 0 (Wd 1 h)):)) ?_ WU.stop;refine LA (R:Tx) 3 0 Y O dT O O O O O O (by have:=P.len; omega) (by have:=P.len; omega) λaD aE=>?_;refine Ln (Eu ?_);refine WU.nil (λ_ h=>(Wo 1 (Wo 0 (Wd 1 h)):)) ?_;refine WS.e O ?_;refine I (Yf p4 O) (Ln (Es ?_));refine WS.e O ?_;refine aQ 2 Y O O O xn O O O (Ln (Es ?_));refine WS.nil ?_;refine Eb ?_
   exact b8 (⟨g.ps++[R],aD,aE,ay,F⟩:GN) (by have:F.length<L.length:=mS ak H; have:L.length+1=g.q.length:=hY Q; show F.length<g.q.length; omega) ⟨⟨by have:F.length<L.length:=mS ak H; have:L.length+1=g.q.length:=hY Q; simp; omega,aA⟩,az,n,(show F.length<n by have:F.length<L.length:=mS ak H; have:L.length+1=g.q.length:=hY Q; omega),by rw [A,SQ ah Q H,Kn]; simp [qm]⟩ (λ_ h=>by
       have h:=h.bu 5 rfl;have h:=h.bu 5 rfl;have h:=h.bu 5 rfl;have h:=h.bu 5 rfl;have h:=h.bu 5 rfl;have h:=Wt 5 h;have h:=Ws.av h (b3:=[b]) aj
       exact h)
  have ax:¬0<g.ps.length:=by simpa using aw
  rw [SU ax] at A;refine bk ?_;refine CU (λ_=>true) [0,1] [6,7] (.q false 0 (.q true 1 (.q false 2 (.e 3 (.e 4 (.e 5 .nil .stop) .stop) .stop)))) mixed ab (λ_ _ _ d _ _ h=>by cases d<;>exact h) ?_;refine U0 O (cH [0,1]) (Yf p4 O) (U0 O (cH [0,1]) (Yd 0 O O O ab) (U0 O (cH [0,1]) (Ym O) ?_));refine Ue O (cH [0,1]) ?_ WU.stop
  refine dk (ι:=(Tx)×(Option Addr×Nat)×Tk) (κ:=(Option Addr×Nat)×Tk) [_] _ Y O aC O O (λi=>st i.1) (λi=>aS j i.2.1 i.2.2) (λi=>eb g.q=some (i.1,i.2.2)/\Sl b7 3 b i.2.1.1 i.2.1.2 i.2.2) (λ_=>cP) (λi=>aS j i.1 i.2) (λ_=>eb g.q=none) ([b]) aj (λw f=>(o5 j b ap g.q w aq f).mono λe w' h=>by
      rcases h with ⟨t,o,q,u,y,z,C⟩ | ⟨o,q,u,y,z⟩
      · exact .inl ⟨(t,o,q),u,⟨y,z⟩,C⟩
      · exact .inr ⟨(o,q),u,y,z⟩) ?_ ?_
  ·intro ⟨D,E⟩ B;refine Ep (WE.cm (Ep (WE.cm (Ep ?_))));refine bU λw' f=>?_;rw [Pr ah B] at A;exact .inr ⟨D,E,O,by simp only [iF,J,K,A,bt,cW,dB],(by have h:=f; have h:=Wt 1 h; exact h)⟩
  intro ⟨R,ay,F⟩ ⟨H,az⟩;have aA:=o4 U H;refine Ln (Eu ?_);refine Ue O (cH [0,1]) ?_ WU.stop;refine Lb Y O dT O O O O λbb=>?_;refine cF 0 (.cells (c' R).toArray 9 (0,0)) O O (Ln (Eu ?_));refine Ue O (λ_ h=>(Wo 1 (Wo 0 (Wd 1 h)):)) ?_ WU.stop;refine LA (R:Tx) 3 0 Y O dT O O O O O O (by have:=P.len; omega) (by have:=P.len; omega) λaD aE=>?_;refine Ln (Eu ?_);refine WU.nil (λ_ h=>(Wo 1 (Wo 0 (Wd 1 h)):)) ?_;refine WS.e O ?_;refine I (Yf p4 O) (Ln (Es ?_));refine WS.e O ?_;refine aQ 2 Y O O O xn O O O (Ln (Es ?_));refine WS.nil ?_;refine Eb ?_
  exact b8 (⟨g.ps++[R],aD,aE,ay,F⟩:GN) (by have:F.length<g.q.length:=mS U H; show F.length<g.q.length; omega) ⟨⟨by have:F.length<g.q.length:=mS U H; simp; omega,aA⟩,az,n,(show F.length<n by have:F.length<g.q.length:=mS U H; omega),by rw [A,SO ah H,Kn]; simp [qm]⟩ (λ_ h=>by
      have h:=h.bu 5 rfl;have h:=h.bu 5 rfl;have h:=h.bu 5 rfl;have h:=h.bu 5 rfl;have h:=h.bu 5 rfl;have h:=Wt 5 h;have h:=Ws.av h (b3:=[b]) aj
      exact h)
 have aG:=a5 (by simpa using ar);have bc:=hZ U aG;obtain ⟨n,au,A⟩:=A;obtain ⟨n,rfl⟩:∃k,n=k+1:=⟨n-1,ae⟩;rw [SN aG] at A;simp at A;refine Ce (Ex (Ex (cB (Et (Cs (Cb ?_))))));refine dc (ι:=GN) (λv=>[]) [(0,_),(4,_),(5,_)] (λv=>Ws w (List.flatMap aW.ids (aS j r l)) (aS j v.r v.q++[ao aL (.cells (xm am bG g.a g.ps.length g.c v.a v.ps.length v.c none 0 0).toArray 151 (0,0)),bS 9 1 c' g.a g.c g.ps,bS 9 1 c' v.a v.c v.ps,ao aK (.cells (xm [] false none 0 0 none 0 0 none 0 0).toArray 151 (0,0))]) [b]) (λv=>(v.ps.length+v.q.length<=l.length/\dm v.q)/\Sl b7 3 b v.r.1 v.r.2 v.q/\∃n,v.q.length<n/\jr (af.length+1) af=(jr n v.q).map λp=>(v.ps++p.1,p.2)) (λv=>v.q.length) ⟨[],none,0,ap,af⟩ ⟨⟨by have:af.length+1=g.q.length:=hY aG; simp; omega,bc⟩,aq,af.length+1,aj,aj⟩ an ?_;intro v ⟨⟨bO,aH⟩,bd,G⟩;refine Cs (ag (ad O ?_));refine Lw [_] _ Y O aC O O _ _ _ [b] aj (λw f=>hq j b v.r v.q [108,111,99,97,108] w bd f) ?_;intro ⟨bP,aO,M⟩ ⟨be,bf,aP⟩;refine aa ?_;refine Cc O (λaI=>?_) (λaI=>?_)
 ·have S:=be aI;have al:=hZ aH S;obtain ⟨n,au,G⟩:=G;obtain ⟨n,rfl⟩:∃k,n=k+1:=⟨n-1,ae⟩;refine bk (Cb (Cs ?_));refine CU (λ_=>true) [0,2] [6,7] (.q false 0 (.q true 1 (.q false 2 (.e 3 (.e 4 (.e 5 .nil .stop) .stop) .stop)))) mixed ab (λ_ _ _ d _ _ h=>by cases d<;>exact h) ?_;refine U0 O (cH [0,2]) (Yf jf O) (U0 O (cH [0,2]) (Yd 0 O O O ab) (U0 O (cH [0,2]) (Ym O) ?_));refine Ue O (cH [0,2]) ?_ WU.stop
  refine dk (ι:=(Tx)×(Option Addr×Nat)×Tk) (κ:=(Option Addr×Nat)×Tk) [_] _ Y O aC O O (λi=>st i.1) (λi=>aS j i.2.1 i.2.2) (λi=>eb M=some (i.1,i.2.2)/\Sl b7 3 b i.2.1.1 i.2.1.2 i.2.2) (λ_=>cP) (λi=>aS j i.1 i.2) (λ_=>eb M=none) ([b]) aj (λw f=>(o5 j b aO M w aP f).mono λe w' h=>by
      rcases h with ⟨t,o,q,u,y,z,C⟩ | ⟨o,q,u,y,z⟩
      · exact .inl ⟨(t,o,q),u,⟨y,z⟩,C⟩
      · exact .inr ⟨(o,q),u,y,z⟩) ?_ ?_
  ·intro ⟨D,E⟩ B;refine Ep (Ep (WE.cm (Ep (WE.cm (Ep ?_)))));refine bU λw' f=>?_;rw [SY S B] at G;exact .inr ⟨D,E,O,by simp only [iF,J,K,A,G,bt,cW,dB],(by have h:=f; have h:=Wt 1 h; exact h)⟩
  intro ⟨aJ,bg,N⟩ ⟨V,bh⟩;have bi:=o4 al V;refine Ln (Eu ?_);refine Ue O (cH [0,2]) ?_ WU.stop;refine Lb Y O dT O O O O λbQ=>?_;refine cF 0 (.cells (c' aJ).toArray 9 (0,0)) O O (Ln (Eu ?_));refine Ue O (λ_ h=>(Wo 2 (Wo 0 (Wd 1 h)):)) ?_ WU.stop;refine LA (aJ:Tx) 4 0 Y O dT O O O O O O (by have:=P.len; omega) (by have:=P.len; omega) λbj bl=>?_;refine Ln (Eu ?_);refine WU.nil (λ_ h=>(Wo 2 (Wo 0 (Wd 1 h)):)) ?_;refine WS.e O ?_;refine I (Yf jf O) (Ln (Es ?_));refine WS.e O ?_;refine aQ 2 Y O O O xn O O O (Ln (Es ?_));refine WS.nil ?_;refine Et (Cr (ad O ?_));refine Lb Y O dT O O O O λbR=>?_;refine bm (T:=9) (m:=1) 0 [[59]] O O (show 1<=1 by decide) aF λaR bn=>?_;refine Lf 1 O ?_
  refine dk (ι:=(Option Addr×Nat)×Tk) (κ:=(Option Addr×Nat)×Tk) [_] _ Y O aC O O (λ_=>.tuple #[]) (λi=>aS j i.1 i.2) (λi=>dn [[59]] N=some i.2/\Sl b7 3 b i.1.1 i.1.2 i.2) (λ_=>cP) (λi=>aS j i.1 i.2) (λ_=>dn [[59]] N=none) ([b,aR]) aj (λw f=>(h1 j b bg N aR _ _ [[59]] w bn bh f).mono λe w' h=>by
      rcases h with ⟨o,q,u,y,z,C⟩ | ⟨o,q,u,y,z⟩
      · exact .inl ⟨(o,q),u,⟨y,z⟩,C⟩
      · exact .inr ⟨(o,q),u,y,z⟩) ?_ ?_
  ·intro ⟨D,E⟩ B;rw [eE] at B;refine WE.cm (Ep (WE.cm (Ep ?_)));refine bU λw' f=>?_;rw [SZ S V B] at G;exact .inr ⟨D,E,O,by simp only [iF,J,K,A,G,bt,cW,dB],(by have h:=f; have h:=Wt 1 h; have h:=Ws.av h (b3:=[b]) aj; exact h)⟩
  intro ⟨bo,W⟩ ⟨X,bp⟩;have br:=h0 bi X;rw [eE] at X;refine Ln (Eb ?_)
  exact b8 (⟨v.ps++[aJ],bj,bl,bo,W⟩:GN) (by have:M.length+1=v.q.length:=hY S; have:N.length<M.length:=mS al V; have:W.length+1=N.length:=hY X; show W.length<v.q.length; omega) ⟨⟨by have:M.length+1=v.q.length:=hY S; have:N.length<M.length:=mS al V; have:W.length+1=N.length:=hY X; simp; omega,br⟩,bp,n,(show W.length<n by have:M.length+1=v.q.length:=hY S; have:N.length<M.length:=mS al V; have:W.length+1=N.length:=hY X; omega),by rw [G,Px S V X]; simp [qm]⟩ (λ_ h=>by
      have h:=h.bu 5 rfl;have h:=h.bu 5 rfl;have h:=h.bu 5 rfl;have h:=h.bu 5 rfl;have h:=h.bu 4 rfl;have h:=Wt 5 h;have h:=Ws.av h (b3:=[b]) aj
      exact h)
 obtain ⟨bs,bv⟩:=bf aI;subst bv;obtain ⟨n,au,G⟩:=G;obtain ⟨n,rfl⟩:∃k,n=k+1:=⟨n-1,ae⟩;rw [Pu bs] at G;simp at G;refine Ce (Ex (Ex (cB (Et (ag (ad O ?_))))))
 refine iR (ι:=((List bq)×(Option Addr×Nat))×(Option Addr×Nat)×Tk) (κ:=(Option Addr×Nat)×Tk) [_] _ Y O aC O O (λi=>.slice i.1.2.1 i.1.1.length i.1.2.2) (λi=>aS j i.2.1 i.2.2) (λbw i=>a' 6 v.q=some (i.1.1,i.2.2)/\Sl (g_ 7 6) 6 bw i.1.2.1 i.1.2.2 i.1.1/\Sl b7 3 b i.2.1.1 i.2.1.2 i.2.2) (λ_=>cP) (λi=>aS j i.1 i.2) (λ_=>a' 6 v.q=none) ([b]) aj gO (λw f=>(Km b 6 j aO v.q (1) w ae aH aP f).mono λe w' h=>by
     rcases h with ⟨x,s,o,q,u,y,z,C,bx⟩ | ⟨o,q,u,y,z⟩
     · exact .inl ⟨((x,s),o,q),u,⟨y,z,C⟩,bx⟩
     · exact .inr ⟨(o,q),u,y,z⟩) ?_ ?_
 ·intro ⟨D,E⟩ B;refine Ep ?_;refine bU λw' f=>?_;exact .inr ⟨D,E,O,by simp only [iF,J,K,A,G,B,bt,cW,dB],(by have h:=f; have h:=Wt 1 h; exact h)⟩
 intro bT ⟨⟨bz,bA⟩,bB,aT⟩ bC ⟨aU,bD,bE⟩;have bV:dm aT:=xi aH aU;refine I (Yf DO O) (aQ 1 Y O O O xk O O O (aa (Cs ?_)));refine WC.nj (rd:=rdStr) 2 O (λk ai=>by simp [aS,ao] at ai; subst ai; simp [eu,aS,ao,b6]) hO cp λbW bF bH=>?_;refine WC.nj (rd:=rdStr) 2 O (λk ai=>by simp [aS,ao] at ai; subst ai; simp [eu,aS,ao,b6]) hO cp λbX bI bJ=>?_;refine Cr (I (cc 1 O O va O) (aQ 2 Y O O O vb O O O (aa (a7 ?_))));refine WE.eB (hy O (dX 2 O O va O)) λw' f=>?_;exact .inl ⟨⟨am,bG,g.ps,v.ps,bz⟩,⟨(g.a,g.c),(v.a,v.c),bA⟩,bB,aT,O,by simp only [iF,J,K,A,G,aU,bt,da],⟨o7 bH (cU f aj bF),o7 bJ (cU f aj bI),q6 bD (cU f aj bC)⟩,bE,Wv 3 (Wt 1 f)⟩
structure GU where
 us:List Tx
 a:Option Addr
 c:Nat
 r:Option Addr×Nat
 q:Tk
def mT (nm:Tx) (a1:Option Addr) (n1 c1:Nat) (a2:Option Addr) (n2 c2:Nat) (a3:Option Addr) (n3 c3:Nat) (a4:Option Addr) (a c4:Nat):List Value:=[st nm,.slice a1 n1 c1,.slice a2 n2 c2,.slice a3 n3 c3,.slice a4 a c4]
theorem q7 {l c e a:Tk} {nm:Tx} (f:aY [109,111,100,117,108,101] l=some c) (g:eb c=some (nm,e)) (h:aY [123] e=some a):kS l=(jO (a.length+1) a).bind λu=>
   (kQ ((eG u.2).2.length+1) (eG u.2).1 (eG u.2).2).bind λd=>(kR (d.2.length+1) d.1.2 d.2).bind λp=>if p.1.2=true then none else
   (aY hl p.2).bind λr=>(a' 6 r).bind λb=>(aY [125] b.2).map λr=>(⟨nm,u.1,d.1.1,p.1.1,b.1⟩,r):=by
 rw [kS,show qT=[109,111,100,117,108,101] from rfl,f]; simp only [bt]; rw [g]; simp only [bt]; rw [h]; rfl
theorem ch:zeroOf prog 50=some (.agg #[st [],.slice none 0 0,.slice none 0 0,.slice none 0 0,.slice none 0 0]):=ab
theorem zT:gx prog 50=some [(0,1),(1,1),(2,1),(3,1),(4,1)]:=ab
theorem mU:dI prog 50=some 5:=ab
theorem D2:gg prog 47 151 (.agg #[st [],.bool false,.slice none 0 0,.slice none 0 0,.slice none 0 0]) 5 96:=iN ab
theorem Ta:dI prog 47=some 1:=ab
theorem iG:gP prog 50=some 5:=ab
theorem D3:gg prog 46 214 (.agg #[.int .i64 0,st [],.bool false,.int .i64 0]) 4 40:=iN ab
theorem Tb:dI prog 46=some 1:=ab
theorem Tc (j:Nat) (b:View) (r:Option Addr×Nat) (l:Tk) (w:World) (S:dm l) (bE:Sl b7 3 b r.1 r.2 l) (f:Ws w (List.flatMap aW.ids (aS j r l)) (aS j r l) [b] w) :
   Calls prog 49 #[.pointer (some ⟨j,0,none⟩)] w λe w'=>(∃(m:aX) (s:iQ) (o:Option Addr×Nat) (q:Tk),e = .returned (.agg (a6 m s).toArray)/\kS l=some (m,q)/\jk 7 6 (nv w w') s m/\Sl b7 3 b o.1 o.2 q/\Ws w (List.flatMap aW.ids (aS j r l)) (aS j o q) [b] w')\/(∃(o:Option Addr×Nat) (q:Tk),e = .panicked cP/\kS l=none/\Ws w (List.flatMap aW.ids (aS j r l)) (aS j o q) [b] w'):=by
 refine enter func49 O 71 O O ?_;refine CE f (ag ?_);refine Al Y O ch λaJ=>?_;refine cF 0 (.cells (mT [] none 0 0 none 0 0 none 0 0 none 0 0).toArray 50 (0,0)) O O (aa (ag (ad O ?_)));refine Lb Y O dT O O O O λc6=>?_;refine bm (T:=9) (m:=1) 0 [[109,111,100,117,108,101]] O O (show 1<=1 by decide) aF λa8 bF=>?_;refine Lf 1 O ?_
 refine dk (ι:=(Option Addr×Nat)×Tk) (κ:=(Option Addr×Nat)×Tk) [_] _ Y O aC O O (λ_=>.tuple #[]) (λi=>aS j i.1 i.2) (λi=>dn [[109,111,100,117,108,101]] l=some i.2/\Sl b7 3 b i.1.1 i.1.2 i.2) (λ_=>cP) (λi=>aS j i.1 i.2) (λ_=>dn [[109,111,100,117,108,101]] l=none) ([b,a8]) aj (λw f=>(h1 j b r l a8 _ _ [[109,111,100,117,108,101]] w bF bE f).mono λe w' h=>by
     rcases h with ⟨o,q,u,y,z,B⟩ | ⟨o,q,u,y,z⟩
     · exact .inl ⟨(o,q),u,⟨y,z⟩,B⟩
     · exact .inr ⟨(o,q),u,y,z⟩) ?_ ?_
 ·intro ⟨C,D⟩ A;rw [eE] at A;refine Ep ?_;refine bU λw' f=>?_;exact .inr ⟨C,D,O,by simp only [kS,qT,A,cW],(by have h:=f; have h:=Wt 1 h; have h:=Ws.av h (b3:=[b]) aj; exact h)⟩
 intro ⟨bH,ar⟩ ⟨G,bI⟩;have a9:=h0 S G;rw [eE] at G;refine aa (ag (ad O ?_))
 refine dk (ι:=(Tx)×(Option Addr×Nat)×Tk) (κ:=(Option Addr×Nat)×Tk) [_] _ Y O aC O O (λi=>st i.1) (λi=>aS j i.2.1 i.2.2) (λi=>eb ar=some (i.1,i.2.2)/\Sl b7 3 b i.2.1.1 i.2.1.2 i.2.2) (λ_=>cP) (λi=>aS j i.1 i.2) (λ_=>eb ar=none) ([b]) aj (λw f=>(o5 j b bH ar w bI f).mono λe w' h=>by
     rcases h with ⟨t,o,q,u,y,z,B⟩ | ⟨o,q,u,y,z⟩
     · exact .inl ⟨(t,o,q),u,⟨y,z⟩,B⟩
     · exact .inr ⟨(o,q),u,y,z⟩) ?_ ?_
 ·intro ⟨C,D⟩ A;refine Ep ?_;refine bU λw' f=>?_;exact .inr ⟨C,D,O,by simp only [kS,qT,G,A,bt,cW],(by have h:=f; have h:=Wt 1 h; have h:=Ws.av h (b3:=[b]) aj; exact h)⟩
 intro ⟨au,bJ,aw⟩ ⟨K,bK⟩;have bL:=o4 a9 K;refine I (Yb ch zT O O) ?_;refine Al Y O ch λaK=>?_;refine aQ 0 Y O O O mU O O O (LW (λ_ h=>h.eM 9 1) (LW (λ_ h=>h.eM 214 4) (LW (λ_ h=>h.eM 151 5) ?_)));refine WL.v0 ?_;refine aa (ag (ad O ?_));refine Lb Y O dT O O O O λc7=>?_;refine bm (T:=9) (m:=1) 0 [[123]] O O (show 1<=1 by decide) aF λa_ bM=>?_;refine Lf 4 O ?_
 refine dk (ι:=(Option Addr×Nat)×Tk) (κ:=(Option Addr×Nat)×Tk) [_] _ Y O aC O O (λ_=>.tuple #[]) (λi=>aS j i.1 i.2) (λi=>dn [[123]] aw=some i.2/\Sl b7 3 b i.1.1 i.1.2 i.2) (λ_=>cP) (λi=>aS j i.1 i.2) (λ_=>dn [[123]] aw=none) ([b,a_]) aj (λw f=>(h1 j b bJ aw a_ _ _ [[123]] w bM bK f).mono λe w' h=>by
     rcases h with ⟨o,q,u,y,z,B⟩ | ⟨o,q,u,y,z⟩
     · exact .inl ⟨(o,q),u,⟨y,z⟩,B⟩
     · exact .inr ⟨(o,q),u,y,z⟩) ?_ ?_
 ·intro ⟨C,D⟩ A;rw [eE] at A;refine Ep ?_;refine bU λw' f=>?_;exact .inr ⟨C,D,O,by simp only [kS,qT,G,K,A,bt,cW],(by have h:=f; have h:=Wt 1 h; have h:=Ws.av h (b3:=[b]) aj; exact h)⟩
 intro ⟨bN,ax⟩ ⟨L,bO⟩;have bP:=h0 bL L;rw [eE] at L;refine aa (Cs (Cb ?_));refine dc (ι:=GU) (λg=>[]) [(0,_),(2,_),(3,_)] (λg=>Ws w (List.flatMap aW.ids (aS j r l)) (aS j g.r g.q++[ao aK (.cells (mT au g.a g.us.length g.c none 0 0 none 0 0 none 0 0).toArray 50 (0,0)),bS 9 1 c' g.a g.c g.us,bS 214 4 cQ.cells none 0 ([]:List cQ),bS 151 5 PX.cells none 0 ([]:List PX),ao aJ (.cells (mT [] none 0 0 none 0 0 none 0 0 none 0 0).toArray 50 (0,0))]) [v0,b]) (λg=>(g.us.length+g.q.length<=l.length/\dm g.q)/\Sl b7 3 b g.r.1 g.r.2 g.q/\∃n,g.q.length<n/\jO (ax.length+1) ax=(jO n g.q).map λp=>(g.us++p.1,p.2)) (λg=>g.q.length) ⟨[],none,0,bN,ax⟩ ⟨⟨by have:ar.length+1=l.length:=hY G; have:aw.length<ar.length:=mS a9 K; have:ax.length+1=aw.length:=hY L; simp; omega,bP⟩,bO,ax.length+1,aj,aj⟩ (λ_ h=>by have h:=h.bu 5 O; have h:=h.bu 2 O; have h:=h.bu 3 O; have h:=h.bu 4 O; have h:=h.bu 5 O; have h:=h.bu 5 O; have h:=Ws.av h (b3:=[v0,b]) aj; exact h) ?_;intro g ⟨⟨c8,ba⟩,bQ,E⟩;refine Cs (ag (ad O ?_));refine Lw [_] _ Y O aC O O _ _ _ [b] aj (λw f=>hq j b g.r g.q [117,115,101] w bQ f) ?_;intro ⟨c9,bb,M⟩ ⟨bR,bT,bc⟩;refine aa ?_;refine Cc O (λaL=>?_) (λaL=>?_)
 ·have U:=bR aL;have aD:=hZ ba U;obtain ⟨n,Z,E⟩:=E;obtain ⟨n,rfl⟩:∃k,n=k+1:=⟨n-1,ae⟩;refine bk (Cb (Cs ?_));refine CU (λ_=>true) [0,1] [6,7] (.q false 0 (.q true 1 (.q false 2 (.e 3 (.e 4 (.e 5 .nil .stop) .stop) .stop)))) mixed ab (λ_ _ _ d _ _ h=>by cases d<;>exact h) ?_;refine U0 O (cH [0,1]) (Yf nz O) (U0 O (cH [0,1]) (Yd 0 O O O ab) (U0 O (cH [0,1]) (Ym O) ?_));refine Ue O (cH [0,1]) ?_ WU.stop
  refine dk (ι:=(Tx)×(Option Addr×Nat)×Tk) (κ:=(Option Addr×Nat)×Tk) [_] _ Y O aC O O (λi=>st i.1) (λi=>aS j i.2.1 i.2.2) (λi=>eb M=some (i.1,i.2.2)/\Sl b7 3 b i.2.1.1 i.2.1.2 i.2.2) (λ_=>cP) (λi=>aS j i.1 i.2) (λ_=>eb M=none) ([b]) aj (λw f=>(o5 j b bb M w bc f).mono λe w' h=>by
      rcases h with ⟨t,o,q,u,y,z,B⟩ | ⟨o,q,u,y,z⟩
      · exact .inl ⟨(t,o,q),u,⟨y,z⟩,B⟩
      · exact .inr ⟨(o,q),u,y,z⟩) ?_ ?_
  ·intro ⟨C,D⟩ A;refine Ep (Ep (WE.cm (Ep (WE.cm (Ep ?_)))));refine bU λw' f=>?_;rw [S2 U A] at E;exact .inr ⟨C,D,O,by rw [q7 G K L]; simp only [hl,E,bt,da,cW,dB],(by have h:=f; have h:=Wt 1 h; have h:=Ws.av h (b3:=[b]) aj; exact h)⟩
  intro ⟨aM,bV,N⟩ ⟨ac,bW⟩;have bX:=o4 aD ac;refine Ln (Eu ?_);refine Ue O (cH [0,1]) ?_ WU.stop;refine Lb Y O dT O O O O λc_=>?_;refine cF 0 (.cells (c' aM).toArray 9 (0,0)) O O (Ln (Eu ?_));refine Ue O (λ_ h=>(Wo 1 (Wo 0 (Wd 1 h)):)) ?_ WU.stop;refine LA (aM:Tx) 3 0 Y O dT O O O O O O (by have:=S.len; omega) (by have:=S.len; omega) λbY bZ=>?_;refine Ln (Eu ?_);refine WU.nil (λ_ h=>(Wo 1 (Wo 0 (Wd 1 h)):)) ?_;refine WS.e O ?_;refine I (Yf nz O) (Ln (Es ?_));refine WS.e O ?_;refine aQ 2 Y O O O xn O O O (Ln (Es ?_));refine WS.nil ?_;refine Et (Cr (ad O ?_));refine Lb Y O dT O O O O λdb=>?_;refine bm (T:=9) (m:=1) 0 [[59]] O O (show 1<=1 by decide) aF λbd b0=>?_;refine Lf 1 O ?_
  refine dk (ι:=(Option Addr×Nat)×Tk) (κ:=(Option Addr×Nat)×Tk) [_] _ Y O aC O O (λ_=>.tuple #[]) (λi=>aS j i.1 i.2) (λi=>dn [[59]] N=some i.2/\Sl b7 3 b i.1.1 i.1.2 i.2) (λ_=>cP) (λi=>aS j i.1 i.2) (λ_=>dn [[59]] N=none) ([b,bd]) aj (λw f=>(h1 j b bV N bd _ _ [[59]] w b0 bW f).mono λe w' h=>by
      rcases h with ⟨o,q,u,y,z,B⟩ | ⟨o,q,u,y,z⟩
      · exact .inl ⟨(o,q),u,⟨y,z⟩,B⟩
      · exact .inr ⟨(o,q),u,y,z⟩) ?_ ?_
  ·intro ⟨C,D⟩ A;rw [eE] at A;refine WE.cm (Ep (WE.cm (Ep ?_)));refine bU λw' f=>?_;rw [S3 U ac A] at E;exact .inr ⟨C,D,O,by rw [q7 G K L]; simp only [hl,E,bt,da,cW,dB],(by have h:=f; have h:=Wt 1 h; have h:=Ws.av h (b3:=[b]) aj; exact h)⟩
  intro ⟨b1,af⟩ ⟨ah,b2⟩;have b4:=h0 bX ah;rw [eE] at ah;refine Ln (Eb ?_)
  exact b8 (⟨g.us++[aM],bY,bZ,b1,af⟩:GU) (by have:M.length+1=g.q.length:=hY U; have:N.length<M.length:=mS aD ac; have:af.length+1=N.length:=hY ah; show af.length<g.q.length; omega) ⟨⟨by have:M.length+1=g.q.length:=hY U; have:N.length<M.length:=mS aD ac; have:af.length+1=N.length:=hY ah; simp; omega,b4⟩,b2,n,(show af.length<n by have:M.length+1=g.q.length:=hY U; have:N.length<M.length:=mS aD ac; have:af.length+1=N.length:=hY ah; omega),by rw [E,S1 U ac ah]; simp [qm]⟩ (λ_ h=>by
      have h:=h.bu 6 rfl;have h:=h.bu 6 rfl;have h:=h.bu 6 rfl;have h:=h.bu 6 rfl;have h:=h.bu 6 rfl;have h:=h.bu 5 rfl;have h:=Wt 6 h;have h:=Ws.av h (b3:=[v0,b]) aj
      exact h)
 obtain ⟨b5,b9⟩:=bT aL;subst b9;obtain ⟨n,Z,E⟩:=E;obtain ⟨n,rfl⟩:∃k,n=k+1:=⟨n-1,ae⟩;rw [Py b5] at E;simp at E;refine Ce (Ex (Ex (cB (Et (ag (ad O ?_))))));refine Lw [_] _ Y O aC O O _ _ _ [b] aj (λw f=>hq j b bb g.q [112,117,98] w bc f) ?_;intro ⟨aO,b',V⟩ ⟨be,bf,b_⟩;have W:eG g.q=(aO,V):=DY be bf;obtain ⟨ca,dd⟩:dm V/\V.length<=List.length (g.q):=DZ ba be bf;refine ak O (aa (Cs (Cb ?_)));refine dc (ι:=GD) (λv=>[(4,.bool v.bG)]) [(0,_),(2,_),(3,_)] (λv=>Ws w (List.flatMap aW.ids (aS j r l)) (aS j v.r v.q++[ao aK (.cells (mT au g.a g.us.length g.c v.a v.ds.length v.c none 0 0 none 0 0).toArray 50 (0,0)),bS 9 1 c' g.a g.c g.us,bS 214 4 cQ.cells v.a v.c v.ds,bS 151 5 PX.cells none 0 ([]:List PX),ao aJ (.cells (mT [] none 0 0 none 0 0 none 0 0 none 0 0).toArray 50 (0,0))]) [v0,b]) (λv=>(v.ds.length+v.q.length<=l.length/\dm v.q)/\Sl b7 3 b v.r.1 v.r.2 v.q/\∃n,v.q.length<n/\kQ (V.length+1) aO V=(kQ n v.bG v.q).map λp=>((v.ds++p.1.1,p.1.2),p.2)) (λv=>v.q.length) ⟨[],none,0,aO,b',V⟩ ⟨⟨by simp; omega,ca⟩,b_,V.length+1,aj,aj⟩ an ?_;intro v ⟨⟨de,aP⟩,cb,F⟩;refine Cb (ag (ad O (ad O ?_)))
 refine dk (ι:=(Option cQ)×(Option Addr×Nat)×Tk) (κ:=(Option Addr×Nat)×Tk) [_] _ Y O aC O O (λi=>.tuple #[.agg #[.int .i64 ((i.1).getD (⟨0,[],v.bG,0⟩:cQ)).kind,st ((i.1).getD (⟨0,[],v.bG,0⟩:cQ)).nm,.bool ((i.1).getD (⟨0,[],v.bG,0⟩:cQ)).bG,.int .i64 ((i.1).getD (⟨0,[],v.bG,0⟩:cQ)).n],.bool (i.1).isSome]) (λi=>aS j i.2.1 i.2.2) (λi=>aN v.bG v.q=some (i.1,i.2.2)/\Sl b7 3 b i.2.1.1 i.2.1.2 i.2.2) (λ_=>cP) (λi=>aS j i.1 i.2) (λ_=>aN v.bG v.q=none) ([b]) aj (λw f=>(S' j b v.r v.q v.bG w aP cb f).mono λe w' h=>by
     rcases h with ⟨t,o,q,u,y,z,B⟩ | ⟨o,q,u,y,z⟩
     · exact .inl ⟨(t,o,q),u,⟨y,z⟩,B⟩
     · exact .inr ⟨(o,q),u,y,z⟩) ?_ ?_
 ·intro ⟨C,D⟩ A;refine Ep (WE.cm (Ep (WE.cm (Ep ?_))));refine bU λw' f=>?_;obtain ⟨n,Z,F⟩:=F;obtain ⟨n,rfl⟩:∃k,n=k+1:=⟨n-1,ae⟩;rw [S6 A] at F;exact .inr ⟨C,D,O,by rw [q7 G K L]; simp only [hl,E,W,F,bt,da,cW,dB],(by have h:=f; have h:=Wt 1 h; have h:=Ws.av h (b3:=[b]) aj; exact h)⟩
 intro ⟨aR,bg,P⟩ ⟨ai,bh⟩;have bi:=SK aP ai;refine ad O (I (Yx O O) (I (Yx O O) ?_));refine Al Y O p3 λdf=>?_;refine aQ 0 Y O O O dC O O O (ak O (aa (Cs (ag (ad O (I (e5 O) (aa ?_)))))));refine Cc O (λaE=>?_) (λaE=>?_)
 ·obtain ⟨n,Z,F⟩:=F;obtain ⟨n,rfl⟩:∃k,n=k+1:=⟨n-1,ae⟩
  cases aG:aR with
  | some x=>rw [aG] at aE; simp at aE
  | none=>
  rw [aG] at ai;have cd:P=v.q:=Dk ai;rw [S4 ai] at F;simp at F;refine Ce (Ex (vY O (Ex (cB (Et (Cs (Cb ?_)))))));refine dc (ι:=GM) (λe=>[(4,.bool e.bG)]) [(0,_),(2,_),(3,_)] (λe=>Ws w (List.flatMap aW.ids (aS j r l)) (aS j e.r e.q++[ao aK (.cells (mT au g.a g.us.length g.c v.a v.ds.length v.c e.a e.ps.length e.c none 0 0).toArray 50 (0,0)),bS 9 1 c' g.a g.c g.us,bS 214 4 cQ.cells v.a v.c v.ds,bS 151 5 PX.cells e.a e.c e.ps,ao aJ (.cells (mT [] none 0 0 none 0 0 none 0 0 none 0 0).toArray 50 (0,0))]) [e.J,b]) (λe=>(e.ps.length+e.q.length<=l.length/\dm e.q)/\Sl b7 3 b e.r.1 e.r.2 e.q/\(fj w e.J/\p6 e.J e.ps)/\∃n,e.q.length<n/\kR (P.length+1) v.bG P=(kR n e.bG e.q).map λp=>((e.ps.map (·.1)++p.1.1,p.1.2),p.2)) (λe=>e.q.length) ⟨[],none,0,v0,v.bG,bg,P⟩ ⟨⟨(by have h:=congrArg List.length cd; simp at h ⊢; omega),bi⟩,bh,⟨nh w,p6.nil _⟩,P.length+1,aj,aj⟩ (λ_ h=>by have h:=h.bu 6 O; have h:=h.bu 6 O; have h:=h.bu 6 O; have h:=h.bu 6 O; have h:=h.bu 6 O; have h:=h.bu 6 O; have h:=Wt 6 h; have h:=Ws.av h (b3:=[v0,b]) aj; exact h) ?_;intro e ⟨⟨dg,bj⟩,ce,⟨bl,bn⟩,H⟩;refine Cs (ag (ad O ?_));refine Lw [_] _ Y O aC O O _ _ _ [b] aj (λw f=>hq j b e.r e.q [112,114,111,99] w ce f) ?_;intro ⟨dh,aT,Q⟩ ⟨cf,cg,bo⟩;refine aa ?_;refine Cc O (λaU=>?_) (λaU=>?_)
  ·have al:=cf aU;have ay:=hZ bj al;obtain ⟨n,Z,H⟩:=H;obtain ⟨n,rfl⟩:∃k,n=k+1:=⟨n-1,ae⟩;refine bk (Cb (Cs ?_));refine CU (λ_=>true) [0,3] [7,8] (.q false 0 (.q true 1 (.q false 2 (.q false 3 (.e 4 (.e 5 (.e 6 .nil .stop) .stop) .stop))))) mixed ab (λ_ _ _ d _ _ h=>by cases d<;>exact h) ?_;refine U0 O (cH [0,3]) (Yf tt O) (U0 O (cH [0,3]) (Yd 0 O O O ab) (U0 O (cH [0,3]) (Ym O) (U0 O (cH [0,3]) (Ym O) ?_)));refine Ue O (cH [0,3]) ?_ WU.stop
   refine iR (ι:=(ed×eF)×(Option Addr×Nat)×Tk) (κ:=(Option Addr×Nat)×Tk) [_] _ Y O aC O O (λi=>.agg #[st (i.1.1).nm,.bool (i.1.1).bG,.slice (i.1.2).s1.1 (i.1.1).params.length (i.1.2).s1.2,.slice (i.1.2).s2.1 (i.1.1).aB.length (i.1.2).s2.2,.slice (i.1.2).s3.1 (i.1.1).body.length (i.1.2).s3.2]) (λi=>aS j i.2.1 i.2.2) (λaV i=>iF e.bG Q=some (i.1.1,i.2.2)/\tw aV i.1.1 i.1.2/\Sl b7 3 b i.2.1.1 i.2.1.2 i.2.2) (λ_=>cP) (λi=>aS j i.1 i.2) (λ_=>iF e.bG Q=none) ([b]) aj gO (λw f=>(S_ j b aT Q e.bG w ay bo f).mono λe w' h=>by
       rcases h with ⟨x,s,o,q,u,y,z,B,aY⟩ | ⟨o,q,u,y,z⟩
       · exact .inl ⟨((x,s),o,q),u,⟨y,z,B⟩,aY⟩
       · exact .inr ⟨(o,q),u,y,z⟩) ?_ ?_
   ·intro ⟨C,D⟩ A;refine Ep (Ep (WE.cm (Ep (WE.cm (Ep ?_)))));refine bU λw' f=>?_;rw [S9 al A] at H;exact .inr ⟨C,D,O,by rw [q7 G K L]; simp only [hl,E,W,F,H,bt,da,cW,dB],(by have h:=f; have h:=Wt 1 h; have h:=Ws.av h (b3:=[b]) aj; exact h)⟩
   intro di ⟨⟨aZ,a0⟩,ci,X⟩ cj ⟨az,cl,cn⟩;have co:dm X:=SM ay az;refine Ln (Eu ?_);refine Ue O (λ_ h=>(Wv 1 (Wo 3 (Wo 0 h)):)) ?_ WU.stop;refine Lb Y O D2 O O O O λdj=>?_;refine cF 0 (.cells (PX.cells (aZ,a0)).toArray 151 (0,0)) O O (Ln (Eu ?_));refine Ue O (λ_ h=>(Wv 1 (Wo 3 (Wo 0 (Wd 1 h))):)) ?_ WU.stop;refine LA ((aZ,a0):PX) 5 0 Y O D2 O O O O O O (by have:=S.len; omega) (by have:=S.len; omega) λcq cr=>?_;refine Ln (Eu ?_);refine WU.nil (λ_ h=>(Wv 1 (Wo 3 (Wo 0 (Wd 1 h))):)) ?_;refine WS.e O ?_;refine I (Yf tt O) (Ln (Es ?_));refine WS.e O ?_;refine aQ 2 Y O O O Ta O O O (Ln (Es ?_));refine WS.nil ?_;refine Et ?_;refine WC.h6 λbp cs ct cu=>?_;refine Cr (ad O (Lf 1 O ?_));refine Lw [_] _ Y O aC O O _ _ _ [b] aj (λw f=>hq j b ci X [112,117,98] w cn f) ?_;intro ⟨br,cv,am⟩ ⟨bs,bv,cw⟩;have cx:eG X=(br,am):=DY bs bv;obtain ⟨cy,dl⟩:dm am/\am.length<=List.length (X):=DZ co bs bv;refine ak O (Ln (Eb ?_))
   exact b8 (⟨e.ps++[(aZ,a0)],cq,cr,bp,br,cv,am⟩:GM) (by have:Q.length+1=e.q.length:=hY al; have:X.length<Q.length:=DX ay az; show am.length<e.q.length; omega) ⟨⟨by have:Q.length+1=e.q.length:=hY al; have:X.length<Q.length:=DX ay az; simp; omega,cy⟩,cw,⟨cu _ cj bl,p6.snoc bn ct cs cl⟩,n,(show am.length<n by have:Q.length+1=e.q.length:=hY al; have:X.length<Q.length:=DX ay az; omega),by rw [H,S8 al az cx]; simp [qm]⟩ (λ_ h=>by
       have h:=h.bu 6 rfl;have h:=h.bu 6 rfl;have h:=h.bu 6 rfl;have h:=h.bu 6 rfl;have h:=h.bu 6 rfl;have h:=h.bu 5 rfl;have h:=Wt 6 h;have h:=Ws.av h (b3:=[bp,b]) aj
       exact h)
  obtain ⟨cz,cA⟩:=cg aU;subst cA;obtain ⟨n,Z,H⟩:=H;obtain ⟨n,rfl⟩:∃k,n=k+1:=⟨n-1,ae⟩;rw [S7 cz] at H;simp at H;refine Ce (Ex (Ex (cB (Et (Cs (ag (ad O (aa ?_))))))));refine Cc O (λa1=>?_) (λa1=>?_)
  ·have ap:e.bG=true:=a1;refine Cr (I (Yb dH dF O O) (I (nO q5 O) ?_));refine WL.panic Y O ?_;refine Ep ?_;refine bU λw' f=>?_;exact .inr ⟨aT,e.q,O,by rw [q7 G K L]; simp only [hl,E,W,F,H,ap,if_true,bt,da,cW,dB],(by have h:=f; have h:=Wt 1 h; have h:=Ws.av h (b3:=[b]) aj; exact h)⟩
  have ap:e.bG=false:=a1;refine bk (ag (ad O ?_));refine Lb Y O dT O O O O λdp=>?_;refine bm (T:=9) (m:=1) 0 [[109,97,105,110]] O O (show 1<=1 by decide) aF λbw cC=>?_
  refine dk (ι:=(Option Addr×Nat)×Tk) (κ:=(Option Addr×Nat)×Tk) [_] _ Y O aC O O (λ_=>.tuple #[]) (λi=>aS j i.1 i.2) (λi=>dn [[109,97,105,110]] e.q=some i.2/\Sl b7 3 b i.1.1 i.1.2 i.2) (λ_=>cP) (λi=>aS j i.1 i.2) (λ_=>dn [[109,97,105,110]] e.q=none) ([b,bw]) aj (λw f=>(h1 j b aT e.q bw _ _ [[109,97,105,110]] w cC bo f).mono λe w' h=>by
      rcases h with ⟨o,q,u,y,z,B⟩ | ⟨o,q,u,y,z⟩
      · exact .inl ⟨(o,q),u,⟨y,z⟩,B⟩
      · exact .inr ⟨(o,q),u,y,z⟩) ?_ ?_
  ·intro ⟨C,D⟩ A;rw [eE] at A;refine Ep ?_;refine bU λw' f=>?_;exact .inr ⟨C,D,O,by rw [q7 G K L]; simp only [hl,E,W,F,H,ap,A,pc,if_false,bt,da,cW,dB],(by have h:=f; have h:=Wt 1 h; have h:=Ws.av h (b3:=[b]) aj; exact h)⟩
  intro ⟨cD,a2⟩ ⟨aA,cE⟩;have bx:=h0 bj aA;rw [eE] at aA;refine aa (ag (ad O ?_))
  refine iR (ι:=((List bq)×(Option Addr×Nat))×(Option Addr×Nat)×Tk) (κ:=(Option Addr×Nat)×Tk) [_] _ Y O aC O O (λi=>.slice i.1.2.1 i.1.1.length i.1.2.2) (λi=>aS j i.2.1 i.2.2) (λaV i=>a' 6 a2=some (i.1.1,i.2.2)/\Sl (g_ 7 6) 6 aV i.1.2.1 i.1.2.2 i.1.1/\Sl b7 3 b i.2.1.1 i.2.1.2 i.2.2) (λ_=>cP) (λi=>aS j i.1 i.2) (λ_=>a' 6 a2=none) ([b]) aj gO (λw f=>(Km b 6 j cD a2 (1) w ae bx cE f).mono λe w' h=>by
      rcases h with ⟨x,s,o,q,u,y,z,B,aY⟩ | ⟨o,q,u,y,z⟩
      · exact .inl ⟨((x,s),o,q),u,⟨y,z,B⟩,aY⟩
      · exact .inr ⟨(o,q),u,y,z⟩) ?_ ?_
  ·intro ⟨C,D⟩ A;refine Ep ?_;refine bU λw' f=>?_;exact .inr ⟨C,D,O,by rw [q7 G K L]; simp only [hl,E,W,F,H,ap,aA,A,pc,if_false,bt,da,cW,dB],(by have h:=f; have h:=Wt 1 h; have h:=Ws.av h (b3:=[b]) aj; exact h)⟩
  intro dq ⟨⟨bz,aH⟩,cG,aI⟩ cI ⟨a3,cJ,cK⟩;have cL:dm aI:=xi bx a3;refine I (Yf DP O) (aQ 1 Y O O O xk O O O (aa (ag (ad O ?_))));refine Lb Y O dT O O O O λdr=>?_;refine bm (T:=9) (m:=1) 0 [[125]] O O (show 1<=1 by decide) aF λbA cM=>?_
  refine dk (ι:=(Option Addr×Nat)×Tk) (κ:=(Option Addr×Nat)×Tk) [_] _ Y O aC O O (λ_=>.tuple #[]) (λi=>aS j i.1 i.2) (λi=>dn [[125]] aI=some i.2/\Sl b7 3 b i.1.1 i.1.2 i.2) (λ_=>cP) (λi=>aS j i.1 i.2) (λ_=>dn [[125]] aI=none) ([b,bA]) aj (λw f=>(h1 j b cG aI bA _ _ [[125]] w cM cK f).mono λe w' h=>by
      rcases h with ⟨o,q,u,y,z,B⟩ | ⟨o,q,u,y,z⟩
      · exact .inl ⟨(o,q),u,⟨y,z⟩,B⟩
      · exact .inr ⟨(o,q),u,y,z⟩) ?_ ?_
  ·intro ⟨C,D⟩ A;rw [eE] at A;refine Ep ?_;refine bU λw' f=>?_;exact .inr ⟨C,D,O,by rw [q7 G K L]; simp only [hl,E,W,F,H,ap,aA,a3,A,pc,if_false,bt,da,cW,dB],(by have h:=f; have h:=Wt 1 h; have h:=Ws.av h (b3:=[b]) aj; exact h)⟩
  intro ⟨cN,cO⟩ ⟨a4,cR⟩;have dt:=h0 cL a4;rw [eE] at a4;refine aa (Cs ?_);refine WC.nj (rd:=rdStr) 2 O (λk R=>by simp [aS,ao] at R; subst R; simp [eu,aS,ao,b6]) hO cp λdu cS cT=>?_;refine WC.nj (rd:=sV) 2 O (λk R=>by simp [aS,ao] at R; subst R; simp [eu,aS,ao,b6]) cQ.ck cp λdv cV cX=>?_;refine WC.nj (rd:=rY) 2 O (λk R=>by simp [aS,ao] at R; subst R; simp [eu,aS,ao,b6]) PX.ck cp λdw cY cZ=>?_;refine Cr (I (cc 1 O O iG O) (aQ 2 Y O O O mU O O O (aa (a7 ?_))));refine WE.eB (hy O (dX 2 O O iG O)) λw' f=>?_;exact .inl ⟨⟨au,g.us,v.ds,e.ps.map (·.1),bz⟩,⟨g.a,g.c,v.a,v.c,e.a,e.c,aH.1,aH.2⟩,cN,cO,by show Ending.returned (.agg #[st au,.slice g.a g.us.length g.c,.slice v.a v.ds.length v.c,.slice e.a e.ps.length e.c,.slice aH.1 bz.length aH.2])=_; simp [a6],by rw [q7 G K L]; simp only [hl,E,W,F,H,ap,aA,a3,a4,pc,if_false,bt,da,cW,dB],⟨o7 cT (cU f aj cS),D1 cX (cU f aj cV),Ko cZ (cU f aj cY) (cU f aj bl) bn,q6 cJ (cU f aj cI)⟩,cR,Wv 7 (Wt 1 f)⟩
 obtain ⟨n,Z,F⟩:=F;obtain ⟨n,rfl⟩:∃k,n=k+1:=⟨n-1,ae⟩
 obtain ⟨a5,aG⟩:∃x,aR=some x:=by
   cases aR with
   | none=>simp at aE
   | some x=>exact ⟨x,rfl⟩
 subst aG;have dx:P.length<v.q.length:=SL aP ai;refine bk (ag (I (Yf u_ O) (I (Yd 2 O O O ab) (I (cc 0 O O nA O) ?_))));refine Lb Y O D3 O O O O λdy=>?_;refine cF 0 (.cells (cQ.cells a5).toArray 214 (0,0)) O O ?_;refine LA (a5:cQ) 5 0 Y O D3 O O O O O O (by have:=S.len; omega) (by have:=S.len; omega) λc0 c1=>?_;refine I (Yf u_ O) (aQ 3 Y O O O Tb O O O (aa (Cr (ad O (Lf 2 O ?_)))));refine Lw [_] _ Y O aC O O _ _ _ [b] aj (λw f=>hq j b bg P [112,117,98] w bh f) ?_;intro ⟨bB,c2,aq⟩ ⟨bC,bD,c3⟩;have c4:eG P=(bB,aq):=DY bC bD;obtain ⟨c5,dz⟩:dm aq/\aq.length<=List.length (P):=DZ bi bC bD;refine ak O (Ln (Eb ?_))
 exact b8 (⟨v.ds++[a5],c0,c1,bB,c2,aq⟩:GD) (by show aq.length<v.q.length; omega) ⟨⟨by simp; omega,c5⟩,c3,n,(show aq.length<n by omega),by rw [F,S5 ai c4]; simp [qm]⟩ (λ_ h=>by
     have h:=h.bu 7 rfl;have h:=h.bu 7 rfl;have h:=h.bu 7 rfl;have h:=h.bu 7 rfl;have h:=h.bu 7 rfl;have h:=h.bu 5 rfl;have h:=Wt 6 h;have h:=Ws.av h (b3:=[v0,b]) aj
     exact h)
theorem Td {s:Tx} (h:¬(e' s).2=0):bN s=(pZ,(e' s).2):=by rw [bN,if_pos h]
theorem Te {s:Tx} (h:(e' s).2=0) (a:kS (e' s).1=none):bN s=(pZ,1):=by rw [bN,if_neg (by simp [h]),a]
theorem Tf {s:Tx} {m:aX} {q:Tk} (h:(e' s).2=0) (b:kS (e' s).1=some (m,q)) (a:0<q.length\/¬gz m=0):bN s=(pZ,1):=by
 rw [bN,if_neg (by simp [h]),b]
 cases q with
 | cons t r=>rfl
 | nil=>
   simp only;rw [if_neg]
   rcases a with a | a
   · simp at a
   · exact a
theorem Tg {s:Tx} {m:aX} {q:Tk} (h:(e' s).2=0) (a:kS (e' s).1=some (m,q)) (b:q.length=0) (c:gz m=0):bN s=(m,0):=by
 rw [bN,if_neg (by simp [h]),a];obtain rfl:q=[]:=ou b;simp only;rw [if_pos c]
theorem D4 {s:Tx} (h:(e' s).2=0):dm (e' s).1:=⟨Rb h,(Gu (Gv h)).2⟩
def zU:iQ:=⟨none,0,none,0,none,0,none,0⟩
theorem D5 (N:View):jk 7 6 N zU pZ:=⟨Sl.nil,Sl.nil,Sl.nil,Sl.nil⟩
theorem Th {c N:View} {ke ks:Nat} {s:iQ} {m:aX} (h:jk ke ks c s m) (hv:bF c N):jk ke ks N s m:=⟨o7 h.aq hv,D1 h.decls hv,h.procs.imp λb o x a=>zh hv (dp _) (dp _) b o x a,h.main.imp λb o x a=>sY hv (dp _) (dp _) b o x a⟩
theorem tx:prog.underlying 20=some (.interface (prog.methodsAt 20)):=ab
theorem eH:dI prog 23=some 1:=ab
theorem Kt:zeroOf prog 23=some (.int .i64 0):=ab
theorem Ti:gx prog 96=some [(0,1)]:=ab
theorem Tj:zeroOf prog 96=some (.agg #[.slice none 0 0]):=ab
theorem Pz (a b:Nat) (c:Array Value) (h:c.size=5) (d:Int) (w:World) (f:Ws w (List.flatMap aW.ids [ao a (.cells c 50 (0,0)),ao b (.cells #[.int .i64 d] 23 (0,0))]) [ao a (.cells c 50 (0,0)),ao b (.cells #[.int .i64 d] 23 (0,0))] [] w) :
   CallsD prog 48 #[.pointer (some ⟨a,0,none⟩),.pointer (some ⟨b,0,none⟩)] (.returning) w λe g w'=>g = .returning/\(e = .returned (.tuple #[])/\Ws w (List.flatMap aW.ids [ao a (.cells c 50 (0,0)),ao b (.cells #[.int .i64 d] 23 (0,0))]) [ao a (.cells c 50 (0,0)),ao b (.cells #[.int .i64 d] 23 (0,0))] [] w'):=by
 refine rH func48 O 5 O O O O O (λ_=>rfl) (.inl ⟨O,O,O⟩) ?_;refine LW (W':=Ws w (List.flatMap aW.ids [ao a (.cells c 50 (0,0)),ao b (.cells #[.int .i64 d] 23 (0,0))]) [ao a (.cells c 50 (0,0)),ao b (.cells #[.int .i64 d] 23 (0,0))] []) (λ_ e=>by subst e; exact f) (I (yA tx O) (aa ?_));refine WC.kg O ?_;refine Ck ?_;refine E0 O λw' f=>?_;exact ⟨O,f⟩
theorem Ku (a b:Nat) (c:List Value) (g:c.length=5) (d:Int) (w:World) (f:Ws w (List.flatMap aW.ids [ao a (.cells c.toArray 50 (0,0)),ao b (.cells #[.int .i64 d] 23 (0,0))]) [ao a (.cells c.toArray 50 (0,0)),ao b (.cells #[.int .i64 d] 23 (0,0))] [] w) :
   CallsD prog 48 #[.pointer (some ⟨a,0,none⟩),.pointer (some ⟨b,0,none⟩)] (.panicking cP) w λe h w'=>h = .panicking [⟨.iface 100 (.agg #[]),true,false⟩]/\(e = .returned (.tuple #[])/\Ws w (List.flatMap aW.ids [ao a (.cells c.toArray 50 (0,0)),ao b (.cells #[.int .i64 d] 23 (0,0))]) [ao a (.cells (mT [] none 0 0 none 0 0 none 0 0 none 0 0).toArray 50 (0,0)),ao b (.cells #[.int .i64 1] 23 (0,0))] [] w'):=by
 refine rH func48 O 5 O O O O O (λ_=>rfl) (.inr ⟨_,O,O,O⟩) ?_;refine LW (W':=Ws w (List.flatMap aW.ids [ao a (.cells c.toArray 50 (0,0)),ao b (.cells #[.int .i64 d] 23 (0,0))]) [ao a (.cells c.toArray 50 (0,0)),ao b (.cells #[.int .i64 d] 23 (0,0))] []) (λ_ e=>by subst e; exact f) (I (Bt tx O) (aa ?_));refine WC.ye O ?_;refine Cr (I (Yb ch zT O O) ?_);refine WL.FL 0 (.cells (mT [] none 0 0 none 0 0 none 0 0 none 0 0).toArray 50 (0,0)) Y O O O mU O O (by simp [qu,g]) (by simp [qt,e_,mT,g,yc]) ?_;refine aQ 1 Y O O O eH O O O (Ln ?_);refine E0 O λw' f=>?_;exact ⟨O,f⟩
theorem zV (k:View) (s:Tx) (w:World) (D:Le k w) (E:Laid k) :
   Calls prog 18 #[st s] w λe w'=>∃r:iQ,e = .returned (.tuple #[.agg (a6 (bN s).1 r).toArray,.int .i64 (bN s).2])/\Ext w w'/\jk 7 6 (nv w w') r (bN s).1:=by
 refine yx func18 O 35 O O ?_;refine CE (Vs:=[k]) (Ws.init (by simp [D])) (ag ?_);refine Al Y O ch λd=>?_;refine cF 0 (.cells (mT [] none 0 0 none 0 0 none 0 0 none 0 0).toArray 50 (0,0)) O O ?_;refine Al Y O Kt λf=>?_;refine cF 0 (.cells #[.int .i64 0] 23 (0,0)) O O (aa (ag (ad O ?_)));refine Ld Y O aC O (λr:Option Addr×Nat=>.tuple #[.slice r.1 (e' s).1.length r.2,.int .i64 (e' s).2]) (λn r=>Sl b7 3 n r.1 r.2 (e' s).1) (λw a=>RO k s w a.V E) ?_;intro o F Q G;refine ad O (I (Yx O O) (I (Yx O O) (ak O (aQ 0 Y O O O eH O O O (aa (Cs (ag (I (Yd 0 O O O ab) (I (fz O O) ?_)))))))));refine aa ?_;refine Cc O (λp=>?_) (λp=>?_)
 ·have c:¬(e' s).2=0:=by simpa using p
  refine Cs ?_;refine CU (nQ [.cell 2 50,.cell 3 23]) [1] [3] (.q false 0 (.q true 1 (.e 2 .nil .stop))) mixed ab (λ_ _ _ _ _ H h=>rI (fn:=f18) [.cell 2 50,.cell 3 23] O H h) ?_;refine U0 O (Wp 1) (Yb ch zT O O) (U0 O (Wp 1) (Yd 0 O O O ab) ?_);refine Ue O (Wp 1) ?_ WU.stop;refine aQ 1 Y O O O mU O O O (Ln (Eu ?_));refine WU.nil (Wp 1) ?_;refine WS.e O ?_;refine aQ 0 Y O O O eH O O O (Ln (Es ?_));refine WS.nil ?_;refine Et (a7 (Er ?_));refine WE.Bs (fu O (dX 1 O O iG O) (l2 0 O O O ab)) λw' a=>?_;rw [Td c];exact ⟨zU,O,a.fr,D5 _⟩
 have c:(e' s).2=0:=by simpa using p
 refine fm 0 (.cells #[.int .i64 0] 23 (0,0)) O (by show Obj.cells #[.int .i64 (e' s).2] _ _=_; rw [c]) (bk (ag (I (pn O) ?_)));refine WL.defer Y O ?_;refine aa (ag (ad O (I (Yb Tj Ti O O) ?_)));refine WL.box Y O O λt=>?_;refine ak O (aa (ag (ad O ?_)))
 refine iR (ι:=(aX×iQ)×(Option Addr×Nat)×Tk) (κ:=(Option Addr×Nat)×Tk) [_] _ Y O aC O O (λi=>.agg (a6 i.1.1 i.1.2).toArray) (λi=>aS t i.2.1 i.2.2) (λn i=>kS (e' s).1=some (i.1.1,i.2.2)/\jk 7 6 n i.1.2 i.1.1/\Sl b7 3 o i.2.1.1 i.2.1.2 i.2.2) (λ_=>cP) (λi=>aS t i.1 i.2) (λ_=>kS (e' s).1=none) ([o]) aj gO (λw a=>(Tc t o F (e' s).1 w (D4 c) G a).mono λe w' h=>by
     rcases h with ⟨x,s,u,q,l,v,y,J,K⟩ | ⟨u,q,l,v,y⟩
     · exact .inl ⟨((x,s),u,q),l,⟨v,y,J⟩,K⟩
     · exact .inr ⟨(u,q),l,v,y⟩) ?_ ?_
 ·intro ⟨R,S⟩ L;refine Ep ?_;refine WE.front 1 O ?_;refine WE.front 2 O ?_;refine WE.rG aC (nR [_,_] _ [ao d (.cells (mT [] none 0 0 none 0 0 none 0 0 none 0 0).toArray 50 (0,0)),ao f (.cells #[.int .i64 1] 23 (0,0))] O (λw a=>Ku d f (mT [] none 0 0 none 0 0 none 0 0 none 0 0) O 0 w a)) (fu O (dX 0 O O iG O) (l2 1 O O O ab)) λw' a=>?_;rw [Te c L];exact ⟨zU,O,a.fr,D5 _⟩
 intro M ⟨⟨b,j⟩,T,m⟩ N ⟨z,B,U⟩
 have W:wM b<=73728:=by
   have l:wM b+18*m.length<=18*(e' s).1.length:=JC z;have:=(D4 c).len;omega
 refine aQ 2 Y O O O mU O O O (aa (Cs (Cs (fm 2 (.cells (a6 b j).toArray 50 (0,0)) O O (Cr (ad O (I (cJ O) (I (Yf od O) (I (Yd 0 O O O ab) ?_)))))))));refine I (Yn p1 O) (I (dO O O) (ad O ?_));apply Lo 3 O O O O Y O O O O O
 ·intro X;refine Vg (cc 2 O O iG O) (Lp (.g O O O) O aC O (λw a=>DQ M 7 6 j b w a.V B ae) (Vg (fz O O) ?_));exact Gt 3 O O O
 refine aa ?_;refine Cc O (λA=>?_) (λA=>?_)
 ·have P:0<m.length\/¬gz b=0:=by simpa using A
  refine Cr (I (Yb dH dF O O) (I (nO q5 O) ?_));refine WL.panic Y O ?_;refine Ep ?_;refine WE.front 1 O ?_;refine WE.front 2 O ?_;refine WE.rG aC (nR [_,_] _ [ao d (.cells (mT [] none 0 0 none 0 0 none 0 0 none 0 0).toArray 50 (0,0)),ao f (.cells #[.int .i64 1] 23 (0,0))] O (λw a=>Ku d f (a6 b j) O 0 w a)) (fu O (dX 0 O O iG O) (l2 1 O O O ab)) λw' a=>?_;rw [Tf c z P];exact ⟨zU,O,a.fr,D5 _⟩
 have C:¬0<m.length/\gz b=0:=by simpa using A
 refine bk (ag (I (cc 2 O O iG O) (aQ 2 Y O O O mU O O O (aQ 1 Y O O O eH O O O (aa (a7 ?_))))));refine WE.front 1 O ?_;refine WE.front 2 O ?_;refine WE.yz aC (nR [_,_] _ [ao d (.cells (a6 b j).toArray 50 (0,0)),ao f (.cells #[.int .i64 0] 23 (0,0))] O (λw a=>Pz d f (a6 b j).toArray O 0 w a)) (fu O (dX 0 O O iG O) (l2 1 O O O ab)) λw' a=>?_;rw [Tg c z (by have:=C.1; show m.length=0; omega) C.2];exact ⟨j,O,a.fr,Th B (cU a aj N)⟩
theorem Kv (s:Tx):(c' s).all (·.oneCell')=true:=rfl
theorem Tl:cx prog 214 2=some 2:=ab
theorem Tm:cx prog 151 1=some 1:=ab
def asks (s:Tx) (l:Tk):Bool:=(l.head?.map λt=>(!(t.kind==2)&&(t.text==s))).getD false
structure GE where
 es:List XE
 a:Option Addr
 c:Nat
 J:View
 r:Option Addr×Nat
 q:Tk
 more:Bool
structure GO where
 j:Nat
 o:Int
 r:Option Addr×Nat
 q:Tk
structure xo (f:Nat) (N:View) (x:bq) (p:oe):Prop where
 args:Sl (a_ 8) 5 N p.s1.1 p.s1.2 x.args
 body:Sl (g_ 8 f) 6 N p.s2.1 p.s2.2 x.body
 other:Sl (g_ 8 f) 6 N p.s3.1 p.s3.2 x.other
theorem D6 {d N:View} {f c:Nat} {a:Option Addr} {l:List bq} (h:Sl (g_ 8 f) 6 d a c l) (hv:bF d N):Sl (g_ 8 f) 6 N a c l:=h.imp λb o y e=>sY hv (dp _) (dp _) b o y e
theorem xo.mv {f:Nat} {a N:View} {x:bq} {p:oe} (h:xo f a x p) (hv:bF a N):xo f N x p:=⟨xh h.args hv,D6 h.body hv,D6 h.other hv⟩
def xp (J:View) (f:Nat) (es:List SX):Prop:=∀e ∈ es,xo f J e.1 e.2
theorem xp.nil (J:View) (f:Nat):xp J f []:=by intro e h; simp at h
theorem xp.snoc {J c b:View} {f:Nat} {es:List SX} {e:SX} (h:xp J f es) (d:bF J b) (g:bF c b) (i:xo f c e.1 e.2):xp b f (es++[e]):=by
 intro x a
 rcases dA.1 a with a | a
 · exact (h x a).mv d
 · rw [az] at a
   subst a;exact i.mv g
variable {pb:Tk->List bq×Tk} {l r q1 q2 q3 q4:Tk} {x y:a8} {b o:List bq} {p:Tx×Tx} {xs:List a8}
variable {ps:Tk->bq×Tk} {s:bq} {n:Nat}
theorem xq:gx prog 242=some [(0,1),(1,1),(2,1),(3,1),(4,1),(5,1)]:=ab
structure xr (N:View) (x:ed) (p:eF):Prop where
 params:Sl rdStr 1 N p.s1.1 p.s1.2 x.params
 aB:Sl rdStr 1 N p.s2.1 p.s2.2 x.aB
 body:Sl (g_ 8 6) 6 N p.s3.1 p.s3.2 x.body
theorem xr.mv {a N:View} {x:ed} {p:eF} (h:xr a x p) (hv:bF a N):xr N x p:=⟨o7 h.params hv,o7 h.aB hv,D6 h.body hv⟩
def xt (J:View) (es:List PX):Prop:=∀e ∈ es,xr J e.1 e.2
theorem xt.nil (J:View):xt J []:=by intro e h; simp at h
theorem xt.snoc {J c b:View} {es:List PX} {e:PX} (h:xt J es) (d:bF J b) (f:bF c b) (g:xr c e.1 e.2):xt b (es++[e]):=by
 intro x a
 rcases dA.1 a with a | a
 · exact (h x a).mv d
 · rw [az] at a
   subst a;exact g.mv f
structure YJ where
 ds:List cQ
 a:Option Addr
 c:Nat
 go:Bool
 bG:Bool
 r:Option Addr×Nat
 q:Tk
structure GH where
 ps:List Tx
 a:Option Addr
 c:Nat
 more:Bool
 r:Option Addr×Nat
 q:Tk
theorem zW:dI prog 4=some 1:=ab
theorem Tn (a b:View) (a1 a2:Option Addr) (c1 c2:Nat) (l:List Tx) (w:World) (n:Le a w) (o:Le b w) (c:Sl rdStr 1 a a1 c1 l) (f:Sl rdStr 1 b a2 c2 l) :
   Calls prog 44 #[.slice a1 l.length c1,.slice a2 l.length c2] w λe w'=>e = .returned (.bool true)/\Ext w w':=by
 have y:=c.cap;have z:=c.max;have A:=f.cap;have B:=f.max;refine enter func44 O 26 O O ?_;refine CE (Vs:=[a,b]) (Ws.init (by simp [n,o])) (ag (ak O (aa (Cs (ag (ad O (I (Yn dy O) (ad O (I (Yn dy O) ?_)))))))));refine I (ki O O O) (aa ?_);refine WC.kg O ?_;refine bk (Cs (ag (ak O (aa (Cb ?_)))));refine bV (ι:=Nat) (λi=>[(5,.int .i64 (i:Int))]) [(0,_),(1,_)] (λi=>i<=l.length) (λi=>l.length-i) 0 (cq _) ?_;intro i hi;refine Cs (ag (ad O (ad O (I (Yn dy O) (I (ai O O) (aa ?_))))));refine Cc O (λk=>?_) (λk=>?_)
 ·have p:i<l.length:=by simpa using k
  obtain ⟨x,m⟩:=cg p;obtain ⟨pb,q,r,g⟩:=c.bT i x m;obtain ⟨s,t,u,j⟩:=f.bT i x m;have g:bR a pb (q+i*1) (c' x):=g;have j:bR b s (t+i*1) (c' x):=j;refine bk (Cs (Cb (Cs ?_)));refine WC.k3 [(0,true),(1,true),(2,true),(3,true),(4,true),(5,true),(6,true),(7,true),(8,true)] mixed ab (λ_ _ _ d _ h=>by cases d<;>exact h) ?_;refine D0 O an (Ym O) (D0 O an (Ym O) (D0 O an (Yo dy O O r ae) (D0 O an (cu 0 ab O O (g 0 _ O)) (D0 O an (Ym O) (D0 O an (Ym O) (D0 O an (Yo dy O O u ae) (D0 O an (cu 1 ab O O (j 0 _ O)) ?_)))))));refine D0 O an (BZ O O O) ?_;refine WD.nil an ?_;refine Et ?_;refine WC.kg O ?_;refine Ck (Eb (Et (Cr (ad O (I (Yi O O O ae) (ak O (Ln ?_)))))));exact b8 (i+1) ae ae an
 refine Ce (Ex (Ex (cB (Et (ag (ak O (aa (a7 ?_))))))));refine R1 O O λw' v=>?_;exact ⟨O,v.fr⟩
abbrev SP:=Option Addr×Nat
def tz:bx->List UInt8:=λx=>x.name
abbrev mj:=List UInt8×Int×Nat
def iv (M:List mj):List mA:=M.map λe=>(e.1,.int .i64 e.2.1,e.2.2)
def lM (k:List UInt8):List mj->Nat->Option (Nat×Int)
 | [],_=>none
 | e::r,i=>if (k==e.1)=true then some (i,e.2.1) else lM k r (i+1)
def D7 (k:List UInt8) (M:List mj):Int:=match lM k M 0 with | some (_,n)=>n | none=>0
def xu (k:List UInt8) (n:Int) (M:List mj) (c:Nat):List mj:=match lM k M 0 with
 | some (i,_)=>M.modify i λe=>(k,n,e.2.2)
 | none=>M++[(k,n,c)]
def D8 (k:List UInt8) (M:List mj) (c:Nat):Nat:=match lM k M 0 with | some _=>c | none=>c+1
theorem zX (k:List UInt8):∀(M:List mj) (i:Nat),ct k (iv M) i=(lM k M i).map λr=>(r.1,.int .i64 r.2)
 | [],_=>rfl
 | e::r,i=>by
   simp only [iv,jT,ct,lM];cases (k==e.1)
   · simp only [pc,if_false]
     exact zX k r (i+1)
   · simp
theorem To (k:List UInt8) (M:List mj):wh k (iv M) (.int .i64 0) = .int .i64 (D7 k M):=by
 unfold wh D7;rw [zX]
 cases lM k M 0<;>rfl
theorem Tp (k:List UInt8) (n:Int) (M:List mj) (c:Nat):uc k (.int .i64 n) (iv M) c=iv (xu k n M c):=by
 unfold uc xu;rw [zX]
 cases lM k M 0 with
 | none=>simp [iv]
 | some r=>
   simp only [da];apply rp;intro i;simp only [iv,rq,eZ]
   cases M[i]? with
   | none=>simp
   | some e=>by_cases h:r.1=i<;>simp [h]
theorem Tq (k:List UInt8) (M:List mj) (c:Nat):ud k (iv M) c=D8 k M c:=by
 unfold ud D8;rw [zX]
 cases lM k M 0<;>rfl
def keysOf (M:List mj):List (List UInt8):=M.map (·.1)
theorem D9 {k:List UInt8}:∀{M:List mj} {i:Nat},lM k M i=none↔k ∉ keysOf M
 | [],_=>by simp [lM,keysOf]
 | e::r,i=>by
   simp only [lM,keysOf,jT,dU,not_or]
   by_cases h:k=e.1
   · simp [h]
   · have:=D9 (k:=k) (M:=r) (i:=i+1)
     simp [h,keysOf] at this ⊢;exact this
theorem EZ {k:List UInt8}:∀{M:List mj} {i j:Nat} {n:Int},lM k M i=some (j,n)->i<=j/\(M[j-i]?).map (·.1)=some k
 | [],_,_,_,h=>by simp [lM] at h
 | e::r,i,j,n,h=>by
   simp only [lM] at h
   split at h
   · rename_i a
     injection h with h; injection h with b c
     subst b;simp at a;simp [a]
   · obtain ⟨b,c⟩:=EZ h
     refine ⟨ae,?_⟩
     have:j-i=(j-(i+1))+1:=ae
     rw [this]; simpa using c
theorem Kx (k:List UInt8) (n:Int) (M:List mj) (c:Nat):keysOf (xu k n M c)=if k ∈ keysOf M then keysOf M else keysOf M++[k]:=by
 unfold xu
 cases h:lM k M 0 with
 | none=>rw [if_neg (D9.1 h)]; simp [keysOf]
 | some r=>
   obtain ⟨j,v⟩:=r;have a:=(EZ h).2
   have f:k ∈ keysOf M:=by
     cases Classical.em (k ∈ keysOf M) with
     | inl b=>exact b
     | inr b=>rw [D9.2 b] at h; cases h
   rw [if_pos f];apply rp;intro i;simp only [keysOf,eZ,rq]
   cases g:M[i]? with
   | none=>simp
   | some e=>
     by_cases d:j=i
     · subst d; simp only [qj,g] at a; simp at a; simp [a]
     · simp [d]
def ml (l:List (List UInt8)):Nat->List mj×Nat
 | 0=>([],0)
 | i+1=>(xu (l[i]?.getD []) (IntKind.i64.wrap (D7 (l[i]?.getD []) (ml l i).1+1)) (ml l i).1 (ml l i).2,D8 (l[i]?.getD []) (ml l i).1 (ml l i).2)
theorem Ky (l:List (List UInt8)) (k:List UInt8):∀i,k ∈ keysOf (ml l i).1↔∃j,j<i/\l[j]?.getD []=k
 | 0=>by simp [ml,keysOf]
 | i+1=>by
   have b:=Ky l k i;simp only [ml,Kx]
   have step:(∃j,j<i+1/\l[j]?.getD []=k)↔(∃j,j<i/\l[j]?.getD []=k)\/l[i]?.getD []=k:=by
     constructor
     · rintro ⟨j,a,e⟩
       rcases mZ.1 a with h | rfl
       · exact .inl ⟨j,h,e⟩
       · exact .inr e
     · rintro (⟨j,a,e⟩ | e)
       · exact ⟨j,ae,e⟩
       · exact ⟨i,ae,e⟩
   rw [step,<-b]
   split
   · rename_i c
     constructor
     · exact .inl
     · rintro (h | h)
       · exact h
       · rw [<-h]; exact c
   · simp [eq_comm]
theorem Kz (l:List (List UInt8)):∀i,(keysOf (ml l i).1).length<=i/\((keysOf (ml l i).1).length<i↔∃c,c<i/\∃j,j<c/\l[j]?.getD []=l[c]?.getD [])
 | 0=>by simp [ml,keysOf]
 | i+1=>by
   obtain ⟨n,g⟩:=Kz l i;have k:=Ky l (l[i]?.getD []) i;simp only [ml,Kx]
   split
   · rename_i f
     obtain ⟨j,d,e⟩:=k.1 f;exact ⟨ae,⟨λ_=>⟨i,ae,j,d,e⟩,λ_=>by omega⟩⟩
   · rename_i f
     refine ⟨by simp; omega,?_⟩;rw [dG,gf]
     constructor
     · intro h
       obtain ⟨c,a,b⟩:=g.1 ae;exact ⟨c,ae,b⟩
     · rintro ⟨c,m,j,d,e⟩
       rcases mZ.1 m with h | rfl
       · have:=g.2 ⟨c,h,j,d,e⟩; omega
       · exact absurd (k.2 ⟨j,d,e⟩) f
theorem Tr (l:List (List UInt8)):decide (((ml l l.length).1.length:Int)<(l.length:Int))=e6 l:=by
 have h:=(Kz l l.length).2;simp only [keysOf,eo] at h;rw [jz];unfold e6;simp only [decide_eq_true_eq,rr,x4,beq_iff_eq]
 constructor
 · intro b
   obtain ⟨i,hi,j,a,e⟩:=h.1 ae;exact ⟨i,hi,j,a,e.symm⟩
 · rintro ⟨i,hi,j,a,e⟩
   have:=h.2 ⟨i,hi,j,a,e.symm⟩;omega
theorem ih:prog.underlying 123=some (.map 9 3):=ab
theorem b0:zeroOf prog 3=some (.int .i64 0):=ab
theorem ve:cx prog 131 0=some 0:=ab
theorem sd:cx prog 131 3=some 3:=ab
theorem mV:cx prog 131 1=some 1:=ab
theorem kz:cx prog 131 2=some 2:=ab
theorem q8:cx prog 65 1=some 1:=ab
theorem p8:fk prog 63=some 4:=ab
theorem kU:gP prog 131=some 4:=ab
theorem ij:zeroOf prog 131=some (.agg #[.int .i64 0,.int .i64 0,.int .i64 0,st []]):=ab
theorem kA:dI prog 131=some 4:=ab
theorem zY:cx prog 65 0=some 0:=ab
theorem D' (b:View) (a:Option Addr) (c:Nat) (l:List (List UInt8)) (w:World) (g:Le b w) (d:Sl rdStr 1 b a c l) :
   Calls prog 71 #[.slice a l.length c] w λe w'=>e = .returned (.bool (e6 l))/\Ext w w':=by
 have r:=d.cap;have s:=d.max;refine enter func71 O 23 O O ?_;refine CE (Vs:=[b]) (Ws.init (by simp [g])) (ag (ak O (aa (ag ?_))));refine WL.Nu Y O λh=>?_;refine ak O (aa (Cs (ag (ad O (I (Yn dy O) (ad O (aa (Cb ?_))))))));refine dc (ι:=Nat) (λi=>[(9,.int .i64 (i:Int))]) [(0,_),(2,_),(3,_),(7,_),(8,_)] (λi=>Ws w [] [ao h (nN (iv (ml l i).1) (ml l i).2)] [b]) (λi=>i<=l.length) (λi=>l.length-i) 0 (cq _) an ?_;intro i hi;refine ag (I (ai O O) (aa (Cs ?_)));refine Cc O (λf=>?_) (λf=>?_)
 ·have j:i<l.length:=by simpa using f
  obtain ⟨pb,k,m,n⟩:=d.bT i (l[i]?.getD []) (by rw [dL j]; rfl);have o:vc b pb (k+i*1)=some (st (l[i]?.getD [])):=n 0 _ rfl;refine bk (Cs (Cb (ag (I (Yo dy O O m ae) (I (cu 0 ab O O (o)) (ak O (aa (Cr (ad O (ad O (I (Nv 0 ih ab b0 O O O) ?_)))))))))));rw [To];refine I (yi O O) ?_;refine WL.Nw 0 Y ih ab O O O O ?_;rw [Tp,Tq];refine Ln (Eb (Et (Cr (I (Yi O O O ae) (ad O (Ln ?_))))));exact b8 (i+1) ae ae an
 have p:i=l.length:=by simp at f; omega
 subst p;refine Ce (Ex (Ex (cB (Et (ag (ad O (I (Bp 0 ih O O) (ad O (I (Yn dy O) (I (ai O O) (ak O ?_)))))))))));refine aa (a7 ?_);refine R1 O O λw' q=>?_;exact ⟨by rw [<-Tr]; simp [iv],q.fr⟩
theorem Ts (x:bx) (w:World) :
   Calls prog 137 #[.agg #[.int .i64 x.kind,.int .i64 x.n,.int .i64 x.pl,st x.name]] w λe w'=>e = .returned (.bool (jF x))/\Ext w w':=by
 refine enter func137 O 42 O O ?_;refine CE (Vs:=[]) (Ws.init aj) (ag ?_);refine WL.box Y O O λl=>?_;refine ak O (aa (ag (ak O (ak O (aa (ag (ak O (aa (Cs (ag (I (Yf ve O) ?_)))))))))));refine I (Yd 0 O O O ab) (aa (Cb (ag (I (bY O O) (ak O (aa ?_))))));refine Cc O (λc=>?_) (λc=>?_)
 ·refine Cr (ak O (Ln (Eb (Et (ag (I (Yf sd O) (I (Yd 0 O O O ab) (Lp Y O aC O (λw a=>o0 _ w) (ad O ?_)))))))));apply La 4 O O O O Y O O O O O
  ·intro h;refine Vg (Yf mV O) (Vg (Yd 0 O O O ab) (Vg (Ym O) (Vg (gw O O) ?_)));exact Gt 4 O O O
  refine ad O ?_;apply La 4 O O O O Y O O O O O
  ·intro i;refine Vg (Yf mV O) (Vg (Yd 0 O O O ab) (Vg (Ym O) (Vg (ir O O) ?_)));exact Gt 4 O O O
  refine ad O ?_;apply La 3 O O O O Y O O O O O
  ·intro j;refine Vg (Yf kz O) (Vg (Yd 0 O O O ab) (Vg (gw O O) ?_));exact Gt 3 O O O
  refine ad O ?_;apply La 4 O O O O Y O O O O O
  ·intro k;refine Vg (Yf kz O) (Vg (Yd 0 O O O ab) (Vg (Ym O) (Vg (ir O O) ?_)));exact Gt 4 O O O
  refine ak O (aa (a7 ?_));refine R1 O O λw' a=>?_
  have b:x.kind=1:=by simpa using c
  exact ⟨by rw [yZ (by simp [b])],a.fr⟩
 refine ag (I (bY O O) (ak O (aa ?_)));refine Cc O (λd=>?_) (λd=>?_)
 ·refine Cr (ak O (Ln (Eb (Et (ag (I (Yf sd O) (I (Yd 0 O O O ab) (Lp Y O aC O (λw a=>o0 _ w) (ad O ?_)))))))));apply La 4 O O O O Y O O O O O
  ·intro h;refine Vg (Yf mV O) (Vg (Yd 0 O O O ab) (Vg (Ym O) (Vg (gw O O) ?_)));exact Gt 4 O O O
  refine ad O ?_;apply La 4 O O O O Y O O O O O
  ·intro i;refine Vg (Yf mV O) (Vg (Yd 0 O O O ab) (Vg (Ym O) (Vg (ir O O) ?_)));exact Gt 4 O O O
  refine ad O ?_;apply La 3 O O O O Y O O O O O
  ·intro j;refine Vg (Yf kz O) (Vg (Yd 0 O O O ab) (Vg (gw O O) ?_));exact Gt 3 O O O
  refine ad O ?_;apply La 4 O O O O Y O O O O O
  ·intro k;refine Vg (Yf kz O) (Vg (Yd 0 O O O ab) (Vg (Ym O) (Vg (ir O O) ?_)));exact Gt 4 O O O
  refine ak O (aa (a7 ?_));refine R1 O O λw' a=>?_
  have b:x.kind=2:=by simpa using d
  exact ⟨by rw [yZ (by simp [b])],a.fr⟩
 refine ag (I (bY O O) (ak O (aa ?_)));refine Cc O (λf=>?_) (λf=>?_)
 ·refine Cr (ak O (ak O (Ln (Eb (Et (ag (I (Yf sd O) (I (Yd 0 O O O ab) (Lp Y O aC O (λw a=>o0 _ w) (ad O ?_))))))))));apply La 4 O O O O Y O O O O O
  ·intro h;refine Vg (Yf mV O) (Vg (Yd 0 O O O ab) (Vg (Ym O) (Vg (gw O O) ?_)));exact Gt 4 O O O
  refine ad O ?_;apply La 4 O O O O Y O O O O O
  ·intro i;refine Vg (Yf mV O) (Vg (Yd 0 O O O ab) (Vg (Ym O) (Vg (ir O O) ?_)));exact Gt 4 O O O
  refine ad O ?_;apply La 3 O O O O Y O O O O O
  ·intro j;refine Vg (Yf kz O) (Vg (Yd 0 O O O ab) (Vg (gw O O) ?_));exact Gt 3 O O O
  refine ad O ?_;apply La 4 O O O O Y O O O O O
  ·intro k;refine Vg (Yf kz O) (Vg (Yd 0 O O O ab) (Vg (Ym O) (Vg (ir O O) ?_)));exact Gt 4 O O O
  refine ak O (aa (a7 ?_));refine R1 O O λw' a=>?_
  have b:x.kind=3:=by simpa using f
  exact ⟨by rw [yZ (by simp [b])],a.fr⟩
 refine ag (I (bY O O) (ak O (aa ?_)));refine Cc O (λg=>?_) (λg=>?_)
 ·refine Cr (ak O (Ln (Eb (Et (ag (I (Yf sd O) (I (Yd 0 O O O ab) (Lp Y O aC O (λw a=>o0 _ w) (ad O ?_)))))))));apply La 4 O O O O Y O O O O O
  ·intro h;refine Vg (Yf mV O) (Vg (Yd 0 O O O ab) (Vg (Ym O) (Vg (gw O O) ?_)));exact Gt 4 O O O
  refine ad O ?_;apply La 4 O O O O Y O O O O O
  ·intro i;refine Vg (Yf mV O) (Vg (Yd 0 O O O ab) (Vg (Ym O) (Vg (ir O O) ?_)));exact Gt 4 O O O
  refine ad O ?_;apply La 3 O O O O Y O O O O O
  ·intro j;refine Vg (Yf kz O) (Vg (Yd 0 O O O ab) (Vg (gw O O) ?_));exact Gt 3 O O O
  refine ad O ?_;apply La 4 O O O O Y O O O O O
  ·intro k;refine Vg (Yf kz O) (Vg (Yd 0 O O O ab) (Vg (Ym O) (Vg (ir O O) ?_)));exact Gt 4 O O O
  refine ak O (aa (a7 ?_));refine R1 O O λw' a=>?_
  have b:x.kind=4:=by simpa using g
  exact ⟨by rw [yZ (by simp [b])],a.fr⟩
 refine ag (ak O (aa (a7 (cG (Er ?_)))));refine R1 O O λw' a=>?_;simp at c d f g;exact ⟨by rw [Oz c d f g],a.fr⟩
theorem D_ (i:View) (a:Option Addr) (c:Nat) (name:List UInt8) (b:List bx) (w:World) (t:Le i w) (m:Sl hQ 4 i a c b) :
   Calls prog 68 #[.agg #[st name,.slice a b.length c]] w λe w'=>e = .returned (.int .i64 (bp name b))/\Ext w w':=by
 have L:=m.cap;have M:=m.max;refine enter func68 O 34 O O ?_;refine CE (Vs:=[i]) (Ws.init (by simp [t])) (ag ?_);refine WL.box Y O O λu=>?_;refine ak O (aa (Cs (ag (I (Yf q8 O) (I (Yd 0 O O O ab) (I (Yn p8 O) (I (dO O O) (aa ?_))))))));refine Cc O (λn=>?_) (λn=>?_)
 ·have k:16<b.length:=by simp at n; omega
  refine ag (ak O (aa (a7 (Er ?_))));refine R1 O O λw' f=>?_;exact ⟨by rw [bp,if_pos k],f.fr⟩
 have k:¬16<b.length:=by simp at n; omega
 refine bk (ag (ak O (LW (λ_ h=>h.eM 9 1) (aa (Cs (ag (I (Yf q8 O) (I (Yd 1 O O O ab) (I (Yn p8 O) (ad O ?_))))))))));refine aa (Cb ?_);refine dc (ι:=Nat×Option Addr×Nat) (λg=>[(13,.int .i64 (g.1:Int)),(3,.slice g.2.1 ((b.take g.1).map (·.name)).length g.2.2)]) [(1,_),(11,_),(12,_)] (λg=>Ws w [] [bS 9 1 c' g.2.1 g.2.2 ((b.take g.1).map (·.name)),ao u (.cells (Value.agg #[st name,.slice a b.length c]).cells 65 (0,0))] [i]) (λg=>g.1<=b.length/\∀j x,j<g.1->b[j]? = some x->jF x=true) (λg=>b.length-g.1) (0,none,0) ⟨cq _,aj⟩ an ?_;intro g ⟨hi,o⟩;refine ag (I (ai O O) (aa (Cs ?_)));refine Cc O (λp=>?_) (λp=>?_)
 ·have v:g.1<b.length:=by simpa using p
  obtain ⟨x,l⟩:=cg v;obtain ⟨pb,z,A,q⟩:=m.bT g.1 x l;have q:bR i pb (z+g.1*4) x.cells:=q
  have B:(b.take (g.1+1)).map (·.name)=(b.take g.1).map (·.name)++[x.name]:=by rw [aZ,l]; simp
  have N:((b.take g.1).map (·.name)).length=g.1:=by simp; omega
  refine bk (Cs (Cb (ag (I (Yo p8 O O A ae) (I (dV 0 kU O O O (q)) ?_)))));refine Al Y O ij λP=>?_;refine aQ 0 Y O O O kA O O O (aa (Cs (ag (I (cc 0 O O kU O) (Lp Y O aC O (λw f=>Ts x w) (I (e5 O) (aa ?_)))))));refine Cc O (λr=>?_) (λr=>?_)
  ·have C:=OB l (by simpa using r);refine ag (ak O (aa (a7 (Er (cG (Er (Er (cG (Er ?_)))))))));refine R1 O O λw' f=>?_;exact ⟨by rw [bp,if_neg k,C]; rfl,f.fr⟩
  have D:jF x=true:=by simpa using r
  refine bk (Cr (ad O (I (Yf sd O) (I (Yd 0 O O O ab) ?_))));refine Lb Y O dT O O O O λQ=>?_;refine cF 0 (.cells (c' x.name).toArray 9 (0,0)) O (O) ?_;refine LA (x.name) 2 0 Y O dT O O O O O O ae ae λE F=>?_;refine ak O (Ln (Eb (Et (Cr (I (Yi O O O ae) (ad O (Ln ?_)))))));rw [<-B]
  exact b8 ((g.1+1,E,F):Nat×Option Addr×Nat) (by first | omega | (dsimp only; omega)) ⟨by first | omega | (dsimp only; omega),λj y G d=>by
      rcases mZ.1 G with h | h
      · exact o j y h d
      · subst h; rw [l] at d; injection d with d; subst d; exact D⟩ (λ_ h=>Wd 2 h)
 have H:g.1=b.length:=by simp at p; omega
 rw [H,ew];refine Ce (Ex (Ex (cB (Et (Cs (Cs ?_))))));refine WC.l9 (rd:=rdStr) 0 O hO cp λJ K=>?_;refine Cr (ad O ?_)
 refine Lp Y O aC O (λw f=>by
     have:=D' J g.2.1 g.2.2 (b.map (·.name)) w f.V K
     exact this) ?_
 refine ad O ?_;apply Lo 4 O O O O Y O O O O O
 ·intro R;refine Vg (Yf zY O) (Vg (Yd 0 O O O ab) (Lp (.g O O O) O aC O (λw f=>o0 _ w) (Vg (e5 O) ?_)));exact Gt 4 O O O
 refine aa ?_;refine Cc O (λs=>?_) (λs=>?_)
 ·refine ag (ak O (aa (a7 (Er ?_))));refine R1 O O λw' f=>?_;have d:=Cy λj y d=>o j y (by have:=(cf.1 d).1; omega) d;exact ⟨by rw [bp,if_neg k,d,s]; rfl,f.fr⟩
 refine bk (ag (ak O (aa (a7 ?_))));refine R1 O O λw' f=>?_;have d:=Cy λj y d=>o j y (by have:=(cf.1 d).1; omega) d;exact ⟨by rw [bp,if_neg k,d,s]; rfl,f.fr⟩
theorem so {m:aX} (h:gz m=0):kt m:=zD (Dv.1 h)
theorem Tt {d:cQ} (h:zC d):0<=iz d/\iz d<=32:=by
 unfold iz;have a:=h.n3
 split
 · omega
 · split
   · rename_i b; have:=a b; omega
   · omega
theorem KA:∀{l:List cQ},(∀d ∈ l,(bl d).bL=0)->0<=fo l/\fo l<=32*(l.length:Int)
 | [],_=>by simp [fo]
 | d::l,h=>by
   have b:=Tt (tj (h d aj));have c:=KA (l:=l) λx a=>h x (bE _ a);simp only [fo,du];omega
theorem FA {m:aX} (a:kt m) (i:Nat):0<=fo (m.decls.take i)/\fo (m.decls.take i)<=320:=by
 have h:=KA (l:=m.decls.take i) λd b=>a.decls d (x_ b);have c:=a.aH.2.1
 have e:((m.decls.take i).length:Int)<=10:=by rw [jh]; omega
 omega
theorem Tu {d:cQ} {a:Int} (h:d.kind=1):bx.cells (mG a d)=[.int .i64 d.kind,.int .i64 d.n,.int .i64 0,st d.nm]:=by rw [mG,if_pos h]; rfl
theorem KC {d:cQ} {a:Int} (h:¬d.kind=1):bx.cells (mG a d)=[.int .i64 d.kind,.int .i64 d.n,.int .i64 a,st d.nm]:=by rw [mG,if_neg h]; rfl
theorem Tv {d:cQ} (h:d.kind=1):iz d=0:=by rw [iz,if_neg ae,if_neg ae]
theorem Tw {d:cQ} (h:d.kind=2):iz d=1:=by rw [iz,if_pos h]
theorem PA {d:cQ} (h:d.kind=3):iz d=d.n:=by rw [iz,if_neg ae,if_pos h]
theorem se:gx prog 131=some [(0,1),(1,1),(2,1),(3,1)]:=ab
theorem nB:gg prog 63 131 (.agg #[.int .i64 0,.int .i64 0,.int .i64 0,st []]) 4 40:=iN ab
theorem KD (a:View) (ke ks:Nat) (r:iQ) (m:aX) (w:World) (J:Le a w) (b:jk ke ks a r m) (k:kt m) :
   Calls prog 69 #[.agg (a6 m r).toArray] w λe w'=>∃r:SP,e = .returned (.tuple #[.slice r.1 (eQ m).length r.2,.int .i64 (k5 m)])/\Ext w w'/\Sl hQ 4 (nv w w') r.1 r.2 (eQ m):=by
 have aH:=k.aH;have V:=b.decls.max;have W:=b.decls.cap;have X:=b.procs.max;have Z:=b.procs.cap;refine enter func69 O 67 O O ?_;refine CE (Vs:=[a]) (Ws.init (by simp [J])) (ag ?_);refine WL.box Y O O λy=>?_;refine ak O (ak O (aa (ag (ak O (LW (λ_ h=>h.eM 131 4) (aa (ag (ak O (aa (Cs (ag ?_)))))))))));refine I (Yf u_ O) (I (Yd 1 O O O ab) (I (Yn ft O) (ad O (aa (Cb ?_)))));refine dc (ι:=Nat×Option Addr×Nat) (λg=>[(14,.int .i64 (g.1:Int)),(4,.slice g.2.1 (iT (m.decls.take g.1) 0).length g.2.2),(5,.int .i64 (fo (m.decls.take g.1)))]) [(1,_),(2,_),(3,_),(12,_),(13,_)] (λg=>Ws w [] [bS 131 4 bx.cells g.2.1 g.2.2 (iT (m.decls.take g.1) 0),ao y (.cells (a6 m r).toArray 50 (0,0))] [a]) (λg=>g.1<=m.decls.length) (λg=>m.decls.length-g.1) (0,none,0) (cq _) an ?_;intro g hi;refine ag (I (ai O O) (aa (Cs ?_)));refine Cc O (λl=>?_) (λl=>?_)
 ·have o:g.1<m.decls.length:=by simpa using l
  obtain ⟨d,q⟩:=cg o;obtain ⟨K,L,M,s⟩:=b.decls.bT g.1 d q;have s:bR a K (L+g.1*4) d.cells:=s;have z:=tj (k.decls d (ax q));have A:m.decls.take (g.1+1)=m.decls.take g.1++[d]:=hg q
  have c:iT (m.decls.take (g.1+1)) 0=iT (m.decls.take g.1) 0++[mG (fo (m.decls.take g.1)) d]:=by rw [A,GV,Int.zero_add]
  have t:fo (m.decls.take (g.1+1))=fo (m.decls.take g.1)+iz d:=by rw [A,CF]
  have ac:=FA k g.1;have af:=FA k (g.1+1)
  have ah:(iT (m.decls.take g.1) 0).length=g.1:=by rw [y0,jh]; omega
  have aj:=z.n3;refine bk (Cs (Cb (ag (I (Yo ft O O M ae) (I (dV 0 nA O O O (s)) ?_)))));refine Al Y O p3 λal=>?_;refine aQ 0 Y O O O dC O O O (aa (ag (I (Yf u4 O) (I (Yd 0 O O O ab) (I (Yf qX O) (I (Yd 0 O O O ab) (I (Yf xc O) (I (Yd 0 O O O ab) ?_))))))));refine I (Yb ij se O O) ?_;refine Al Y O ij λam=>?_;refine aQ 0 Y O O O kA O O O (aa (Cs (ag (I (Yf u4 O) (I (Yd 1 O O O ab) (aa (Cb (ag (I (bY O O) (ak O (aa ?_)))))))))));refine Cc O (λu=>?_) (λu=>?_)
  ·have B:d.kind=2:=by simpa using u
   have f:=Tw B;refine ag (ad O (I (Yf kz O) (aQ 0 Y O O O dZ O O O (aa (Cr (ad O (I (yu (fo (m.decls.take (g.1+1))) O O (by rw [t,f]) ae) (ak O ?_))))))));refine Ln (Eb (Et (Cr (ad O (I (cc 0 O O kU O) ?_)))));refine Lb Y O nB O O O O λC=>?_;refine cF 0 (.cells (bx.cells (mG (fo (m.decls.take g.1)) d)).toArray 131 (0,0)) O (by rw [KC ae]; rfl) ?_;refine LA (mG (fo (m.decls.take g.1)) d) 3 0 Y O nB O O O O O O ae ae λi j=>?_;refine ak O (Ln (Eb (Et (Cr (I (Yi O O O ae) (ad O (Ln ?_)))))));rw [<-c];exact b8 ((g.1+1,i,j):Nat×Option Addr×Nat) (by first | omega | (dsimp only; omega)) (by first | omega | (dsimp only; omega)) (λ_ h=>Wd 3 h)
  have B:¬d.kind=2:=by simpa using u
  refine ag (I (bY O O) (ak O (aa ?_)));refine Cc O (λv=>?_) (λv=>?_)
  ·have D:d.kind=3:=by simpa using v
   have f:=PA D;refine ag (ad O (I (Yf kz O) (aQ 0 Y O O O dZ O O O (aa (Cr (ad O (I (Yf qX O) (I (Yd 1 O O O ab) ?_))))))));refine I (yu (fo (m.decls.take (g.1+1))) O O (by rw [t,f]) ae) (ak O (Ln (Eb (Et (Cr (ad O (I (cc 0 O O kU O) ?_)))))));refine Lb Y O nB O O O O λC=>?_;refine cF 0 (.cells (bx.cells (mG (fo (m.decls.take g.1)) d)).toArray 131 (0,0)) O (by rw [KC ae]; rfl) ?_;refine LA (mG (fo (m.decls.take g.1)) d) 3 0 Y O nB O O O O O O ae ae λi j=>?_;refine ak O (Ln (Eb (Et (Cr (I (Yi O O O ae) (ad O (Ln ?_)))))));rw [<-c];exact b8 ((g.1+1,i,j):Nat×Option Addr×Nat) (by first | omega | (dsimp only; omega)) (by first | omega | (dsimp only; omega)) (λ_ h=>Wd 3 h)
  have D:¬d.kind=3:=by simpa using v
  have E:d.kind=1:=by have:=z.kind; omega
  have f:=Tv E
  have N:fo (m.decls.take (g.1+1))=fo (m.decls.take g.1):=by rw [t,f]; omega
  refine Ck (Eb (Et (Cr (ad O (I (cc 0 O O kU O) ?_)))));refine Lb Y O nB O O O O λC=>?_;refine cF 0 (.cells (bx.cells (mG (fo (m.decls.take g.1)) d)).toArray 131 (0,0)) O (by rw [Tu E]; rfl) ?_;refine LA (mG (fo (m.decls.take g.1)) d) 3 0 Y O nB O O O O O O ae ae λi j=>?_;refine ak O (Ln (Eb (Et (Cr (I (Yi O O O ae) (ad O (Ln ?_)))))));rw [<-c];rw [<-N];exact b8 ((g.1+1,i,j):Nat×Option Addr×Nat) (by first | omega | (dsimp only; omega)) (by first | omega | (dsimp only; omega)) (λ_ h=>Wd 3 h)
 have n:g.1=m.decls.length:=by simp at l; omega
 rw [n,ew]
 clear n l hi
 refine Ce (Ex (Ex (cB (Et (Cs (ag (I (Yf tt O) (I (Yd 1 O O O ab) (I (Yn q0 O) (ad O (aa (Cb ?_))))))))))));rw [show iT m.decls 0=iT m.decls 0++bO (m.procs.take 0) 0 by simp [bO]];refine dc (ι:=Nat×Option Addr×Nat) (λg=>[(49,.int .i64 (g.1:Int)),(4,.slice g.2.1 (iT m.decls 0++bO (m.procs.take g.1) 0).length g.2.2)]) [(2,_),(3,_),(5,_),(47,_),(48,_)] (λg=>Ws w [] [bS 131 4 bx.cells g.2.1 g.2.2 (iT m.decls 0++bO (m.procs.take g.1) 0),ao y (.cells (a6 m r).toArray 50 (0,0))] [a]) (λg=>g.1<=m.procs.length) (λg=>m.procs.length-g.1) (0,g.2.1,g.2.2) (cq _) an ?_
 clear g
 intro g hi;refine ag (I (ai O O) (aa (Cs ?_)));refine Cc O (λx=>?_) (λx=>?_)
 ·have o:g.1<m.procs.length:=by simpa using x
  obtain ⟨p,F⟩:=cg o;obtain ⟨ap,aq,P,Q⟩:=b.procs.bT g.1 p F;obtain ⟨ar,au,av,aw,ay,az,R,G,aA,aB⟩:=Q;have aC:=G.max;have aD:=G.cap;have S:m.procs.take (g.1+1)=m.procs.take g.1++[p]:=hg F
  have c:iT m.decls 0++bO (m.procs.take (g.1+1)) 0=(iT m.decls 0++bO (m.procs.take g.1) 0)++[wC g.1 p]:=by
    rw [S,GW,et,cj,jh,hc ae]
  have aE:(iT m.decls 0++bO (m.procs.take g.1) 0).length<=16:=by rw [dG,y0,B4,jh]; omega
  refine bk (Cs (Cb (ag (ad O (I (Yo q0 O O P ae) (I (dV 0 va O O O (R)) ?_))))));refine Al Y O r_ λaF=>?_;refine ak O (aQ 0 Y O O O vb O O O (aa (Cr (ad O (I (Yf p4 O) (I (Yd 0 O O O ab) (I (Yn dy O) (ad O ?_))))))));refine I (Yf J6 O) (I (Yd 0 O O O ab) (I (Yb ij se O O) ?_));refine Lb Y O nB O O O O λaG=>?_;refine cF 0 (.cells (bx.cells (wC g.1 p)).toArray 131 (0,0)) O (O) ?_;refine LA (wC g.1 p) 2 0 Y O nB O O O O O O ae ae λT U=>?_;refine ak O (Ln (Eb (Et (Cr (I (Yi O O O ae) (ad O (Ln ?_)))))));rw [<-c];exact b8 ((g.1+1,T,U):Nat×Option Addr×Nat) (by first | omega | (dsimp only; omega)) (by first | omega | (dsimp only; omega)) (λ_ h=>Wd 2 h)
 have n:g.1=m.procs.length:=by simp at x; omega
 rw [n,ew];refine Ce (Ex (Ex (cB (Et (ag (ad O (ad O (ak O (ak O (aa (a7 ?_)))))))))));refine WE.gZ O O O λw' H=>?_;exact ⟨(g.2.1,g.2.2),O,H.fr,H.iP 0 O bx.ck cp⟩
theorem Ty {m:aX} {i:Nat} {p:ed} (h:m.procs[i]? = some p):m.decls.map (·.bG)++(m.procs.take (i+1)).map (·.bG)=(m.decls.map (·.bG)++(m.procs.take i).map (·.bG))++[p.bG]:=by rw [hg h]; simp
theorem Tz {m:aX} {i:Nat} {d:cQ} (h:m.decls[i]? = some d):(m.decls.take (i+1)).map (·.bG)=(m.decls.take i).map (·.bG)++[d.bG]:=by rw [hg h]; simp
theorem GR {m:aX} (h:¬gz m=0):cn m=(([],[]),gz m):=by rw [cn,if_pos h]
theorem KF {m:aX} (h:gz m=0) (a:(e6 ((eQ m).map (·.name))||e6 m.aq)=true):cn m=(([],[]),6):=by rw [cn,if_neg (by simp [h]),if_pos a]
theorem TA {m:aX} (h:gz m=0) (a:(e6 ((eQ m).map (·.name))||e6 m.aq)=false):cn m=((m.nm,iU (eQ m) (k6 m)),0):=by rw [cn,if_neg (by simp [h]),if_neg (by simp [a])]
def FQ (m:aX) (i:Nat):List bx:=iU ((eQ m).take i) ((k6 m).take i)
theorem TB (m:aX):FQ m (eQ m).length=iU (eQ m) (k6 m):=by
 unfold FQ;rw [ew,jZ,<-y1,ew]
theorem TC {m:aX} {i:Nat} {x:bx} {p:Bool} (a:(eQ m)[i]? = some x) (b:(k6 m)[i]? = some p):FQ m (i+1)=FQ m i++(if p=true then [x] else []):=OC (by rw [jZ,y1]) a b
theorem TD (m:aX) (i:Nat):(FQ m i).length<=i:=by
 have:=B5 ((eQ m).take i) ((k6 m).take i);simp at this
 show (iU _ _).length<=i
 omega
structure GF where
 i:Nat
 n:SP
 f:SP
theorem zZ:gg prog 136 4 (.bool false) 1 1:=iN ab
theorem jR:zeroOf prog 65=some (.agg #[st [],.slice none 0 0]):=ab
theorem fy:gx prog 65=some [(0,1),(1,1)]:=ab
theorem kV:dI prog 65=some 2:=ab
theorem jS:gP prog 65=some 2:=ab
theorem TE:fk prog 136=some 1:=ab
theorem KG:dI prog 63=some 1:=ab
theorem TF (a:View) (ke ks:Nat) (r:iQ) (m:aX) (w:World) (t:Le a w) (b:jk ke ks a r m) (u:kt m) :
   Calls prog 70 #[.agg (a6 m r).toArray] w λe w'=>∃r:SP,e = .returned (.slice r.1 (k6 m).length r.2)/\Ext w w'/\Sl rdBool 1 (nv w w') r.1 r.2 (k6 m):=by
 have aH:=u.aH;have H:=b.decls.max;have J:=b.decls.cap;have K:=b.procs.max;have L:=b.procs.cap;refine enter func70 O 35 O O ?_;refine CE (Vs:=[a]) (Ws.init (by simp [t])) (ag ?_);refine WL.box Y O O λn=>?_;refine ak O (aa (ag (ak O (LW (λ_ h=>h.eM 4 1) (aa (Cs (ag (I (Yf u_ O) (I (Yd 1 O O O ab) (I (Yn ft O) ?_))))))))));refine ad O (aa (Cb ?_));refine dc (ι:=Nat×Option Addr×Nat) (λg=>[(11,.int .i64 (g.1:Int)),(3,.slice g.2.1 ((m.decls.take g.1).map (·.bG)).length g.2.2)]) [(1,_),(2,_),(9,_),(10,_)] (λg=>Ws w [] [bS 4 1 sZ g.2.1 g.2.2 ((m.decls.take g.1).map (·.bG)),ao n (.cells (a6 m r).toArray 50 (0,0))] [a]) (λg=>g.1<=m.decls.length) (λg=>m.decls.length-g.1) (0,none,0) (cq _) an ?_;intro g hi;refine ag (I (ai O O) (aa (Cs ?_)));refine Cc O (λc=>?_) (λc=>?_)
 ·have i:g.1<m.decls.length:=by simpa using c
  obtain ⟨d,o⟩:=cg i;obtain ⟨v,x,y,j⟩:=b.decls.bT g.1 d o;have j:bR a v (x+g.1*4) d.cells:=j;have k:=Tz o
  have z:((m.decls.take g.1).map (·.bG)).length=g.1:=by simp; omega
  refine bk (Cs (Cb (ag (I (Yo ft O O y ae) (I (dV 0 nA O O O (j)) ?_)))));refine Al Y O p3 λM=>?_;refine aQ 0 Y O O O dC O O O (aa (Cr (ad O (I (Yf Tl O) (I (Yd 0 O O O ab) ?_)))));refine Lb Y O zZ O O O O λN=>?_;refine cF 0 (.cells (sZ d.bG).toArray 4 (0,0)) O (O) ?_;refine LA (d.bG) 2 0 Y O zZ O O O O O O ae ae λA B=>?_;refine ak O (Ln (Eb (Et (Cr (I (Yi O O O ae) (ad O (Ln ?_)))))));rw [<-k];exact b8 ((g.1+1,A,B):Nat×Option Addr×Nat) (by first | omega | (dsimp only; omega)) (by first | omega | (dsimp only; omega)) (λ_ h=>Wd 2 h)
 have f:g.1=m.decls.length:=by simp at c; omega
 rw [f,ew]
 clear f c hi
 refine Ce (Ex (Ex (cB (Et (Cs (ag (I (Yf tt O) (I (Yd 1 O O O ab) (I (Yn q0 O) (ad O (aa (Cb ?_))))))))))));rw [show m.decls.map (·.bG)=m.decls.map (·.bG)++(m.procs.take 0).map (·.bG) by simp];refine dc (ι:=Nat×Option Addr×Nat) (λg=>[(24,.int .i64 (g.1:Int)),(3,.slice g.2.1 (m.decls.map (·.bG)++(m.procs.take g.1).map (·.bG)).length g.2.2)]) [(2,_),(22,_),(23,_)] (λg=>Ws w [] [bS 4 1 sZ g.2.1 g.2.2 (m.decls.map (·.bG)++(m.procs.take g.1).map (·.bG)),ao n (.cells (a6 m r).toArray 50 (0,0))] [a]) (λg=>g.1<=m.procs.length) (λg=>m.procs.length-g.1) (0,g.2.1,g.2.2) (cq _) an ?_
 clear g
 intro g hi;refine ag (I (ai O O) (aa (Cs ?_)));refine Cc O (λl=>?_) (λl=>?_)
 ·have i:g.1<m.procs.length:=by simpa using l
  obtain ⟨p,q⟩:=cg i;obtain ⟨P,Q,C,D⟩:=b.procs.bT g.1 p q;obtain ⟨R,S,T,U,V,W,E,X,Z,ac⟩:=D;have k:=Ty q
  have z:(m.decls.map (·.bG)++(m.procs.take g.1).map (·.bG)).length<=16:=by simp; omega
  refine bk (Cs (Cb (ag (I (Yo q0 O O C ae) (I (dV 0 va O O O (E)) ?_)))));refine Al Y O r_ λaf=>?_;refine aQ 0 Y O O O vb O O O (aa (Cr (ad O (I (Yf Tm O) (I (Yd 0 O O O ab) ?_)))));refine Lb Y O zZ O O O O λah=>?_;refine cF 0 (.cells (sZ p.bG).toArray 4 (0,0)) O (O) ?_;refine LA (p.bG) 2 0 Y O zZ O O O O O O ae ae λF G=>?_;refine ak O (Ln (Eb (Et (Cr (I (Yi O O O ae) (ad O (Ln ?_)))))));rw [<-k];exact b8 ((g.1+1,F,G):Nat×Option Addr×Nat) (by first | omega | (dsimp only; omega)) (by first | omega | (dsimp only; omega)) (λ_ h=>Wd 2 h)
 have f:g.1=m.procs.length:=by simp at l; omega
 rw [f,ew];refine Ce (Ex (Ex (cB (Et (ag (ad O (ak O (aa (a7 ?_)))))))));refine R1 O O λw' s=>?_;exact ⟨(g.2.1,g.2.2),O,s.fr,s.iP 0 O Of cp⟩
theorem Ec (b:View) (ke ks:Nat) (r:iQ) (m:aX) (w:World) (J:Le b w) (c:jk ke ks b r m) (am:wM m<=109951162777) :
   Calls prog 24 #[.agg (a6 m r).toArray] w λe w'=>∃r:SP,e = .returned (.tuple #[.agg #[st (cn m).1.1,.slice r.1 (cn m).1.2.length r.2],.int .i64 (cn m).2])/\Ext w w'/\Sl hQ 4 (nv w w') r.1 r.2 (cn m).1.2:=by
 refine enter func24 O 60 O O ?_;refine CE (Vs:=[b]) (Ws.init (by simp [J])) (ag ?_);refine WL.box Y O O λK=>?_;refine Al Y O jR λL=>?_;refine ak O (aa (Cs (ag (I (cc 1 O O iG O) (Lp Y O aC O (λw a=>DQ b ke ks r m w a.V c ae) (ak O (aa (ag (ad O (I (fz O O) ?_))))))))));refine aa ?_;refine Cc O (λk=>?_) (λk=>?_)
 ·have d:¬gz m=0:=by simpa using k
  refine ag (I (Yb jR fy O O) (ad O (aQ 0 Y O O O kV O O O (ak O (aa (a7 (Er ?_)))))));refine WE.dQ 0 O O O O jS O λw' a=>?_;rw [GR d];exact ⟨(none,0),O,a.fr,Sl.nil⟩
 have d:gz m=0:=by simpa using k
 have l:=so d;have aH:=l.aH;have an:=c.decls.max;have ap:=c.decls.cap;have ar:=c.procs.max;have au:=c.procs.cap;have il:=jZ m;have pl:=y1 m;refine bk (ag (I (cc 1 O O iG O) ?_));refine Ld Y O aC O (λr:SP=>.tuple #[.slice r.1 (eQ m).length r.2,.int .i64 (k5 m)]) (λb r=>Sl hQ 4 b r.1 r.2 (eQ m)) (λw a=>KD b ke ks r m w a.V c l) ?_;intro A av aw o;refine ad O (I (Yx O O) (I (Yx O O) (ak O (ak O (aa (ag (I (Yf qZ O) (I (Yd 1 O O O ab) ?_))))))));refine I (Yb jR fy O O) (LW (λ_ h=>h.eM 131 4) ?_);refine Al Y O jR λM=>?_;refine aQ 0 Y O O O kV O O O (aa (ag (ak O (LW (λ_ h=>h.eM 9 1) (aa (ag (I (cc 4 O O iG O) ?_)))))));refine Ld Y O aC O (λr:SP=>.slice r.1 (k6 m).length r.2) (λb r=>Sl rdBool 1 b r.1 r.2 (k6 m)) (λw a=>TF b ke ks r m w a.V c l) ?_;intro B ax ay p;have az:=o.max;have aA:=o.cap;have aB:=p.max;have aD:=p.cap;refine ak O (aa (Cs (ag (ad O (I (Yn p8 O) (ad O (aa (Cb ?_))))))));refine dc (ι:=GF) (λg=>[(30,.int .i64 (g.i:Int)),(8,.slice g.n.1 (((eQ m).take g.i).map tz).length g.n.2)]) [(1,_),(2,_),(3,_),(7,_),(9,_),(28,_),(29,_)] (λg=>Ws w [] [ao M (.cells #[st m.nm,.slice g.f.1 (FQ m g.i).length g.f.2] 65 (0,0)),bS 9 1 c' g.n.1 g.n.2 (((eQ m).take g.i).map tz),bS 131 4 bx.cells g.f.1 g.f.2 (FQ m g.i),ao L (.cells #[st [],.slice none 0 0] 65 (0,0)),ao K (.cells (a6 m r).toArray 50 (0,0))] [B,A,b]) (λg=>g.i<=(eQ m).length) (λg=>(eQ m).length-g.i) ⟨0,(none,0),(none,0)⟩ (cq _) (λ_ h=>by exact (((((h.f 4 O).f 4 O).f 4 O).f 3 O).f 4 O:)) ?_;intro g hi;refine ag (I (ai O O) (aa (Cs ?_)));refine Cc O (λq=>?_) (λq=>?_)
 ·have C:g.i<(eQ m).length:=by simpa using q
  obtain ⟨x,s⟩:=cg C;obtain ⟨pb,N,P,t⟩:=o.bT g.i x s;have t:bR A pb (N+g.i*4) x.cells:=t;obtain ⟨j,D⟩:=cg (by rw [y1,<-jZ]; exact C);obtain ⟨Q,R,S,u⟩:=p.bT g.i j D;have u:bR B Q (R+g.i*1) (sZ j):=u
  have E:((eQ m).take (g.i+1)).map tz=((eQ m).take g.i).map tz++[x.name]:=by rw [aZ,s]; simp [tz]
  have aE:(((eQ m).take g.i).map tz).length=g.i:=by simp; omega
  have F:=TC s D;have aF:=TD m g.i;refine bk (Cs (Cb (ag (ad O (I (Yo p8 O O P ae) (I (dV 1 kU O O O (t)) ?_))))));refine Al Y O ij λaG=>?_;refine ak O (aQ 0 Y O O O kA O O O (aa (ag (ad O (I (Yf sd O) (I (Yd 0 O O O ab) ?_))))));refine Lb Y O dT O O O O λaI=>?_;refine cF 0 (.cells (c' x.name).toArray 9 (0,0)) O (O) ?_;refine LA ((x.name:List UInt8)) 3 0 Y O dT O O O O O O ae ae λG H=>?_;refine ak O (aa (ag (ad O (ad O (I (Yo TE O O S ae) (I (cu 0 ab O O (u 0 _ O)) (aa ?_)))))));refine Cc O (λv=>?_) (λv=>?_)
  ·have T:j=true:=by simpa using v
   have U:FQ m (g.i+1)=FQ m g.i++[x]:=by rw [F,if_pos T]
   refine Cr (I (Yf q8 O) (I (Yd 2 O O O ab) (I (cc 1 O O kU O) ?_)));refine Lb Y O nB O O O O λaJ=>?_;refine cF 0 (.cells (bx.cells x).toArray 131 (0,0)) O (O) ?_;refine LA (x) 5 0 Y O nB O O O O O O ae ae λW X=>?_;refine I (Yf q8 O) (aQ 3 Y O O O KG O O O (Ln (Eb (Et (Cr (I (Yi O O O ae) (ad O (Ln ?_))))))));rw [<-E];rw [<-U];exact b8 (⟨g.i+1,(G,H),(W,X)⟩:GF) (by first | omega | (dsimp only; omega)) (by first | omega | (dsimp only; omega)) (λ_ h=>Wd 3 h)
  have Z:¬j=true:=by simpa using v
  have ac:FQ m (g.i+1)=FQ m g.i:=by rw [F,if_neg Z,h3]
  refine Ck (Eb (Et (Cr (I (Yi O O O ae) (ad O (Ln ?_))))));rw [<-E];rw [<-ac];exact b8 (⟨g.i+1,(G,H),g.f⟩:GF) (by first | omega | (dsimp only; omega)) (by first | omega | (dsimp only; omega)) (λ_ h=>Wd 2 h)
 have af:g.i=(eQ m).length:=by simp at q; omega
 have ah:=TB m;refine Ce (Ex (Ex (cB (Et (Cs (Cs ?_))))));rw [af,ew];refine WC.l9 (rd:=rdStr) 1 O hO cp λaj al=>?_;refine Cr (ad O ?_)
 refine Lp Y O aC O (λw a=>by
     have:=D' aj g.n.1 g.n.2 ((eQ m).map tz) w a.V al
     exact this) ?_
 refine ad O ?_;apply Lo 3 O O O O Y O O O O O
 ·intro aK;refine Vg (Yf nz O) (Vg (Yd 3 O O O ab) (Lp (.g O O O) O aC O (λw a=>D' b r.a1 r.c1 m.aq w a.V c.aq) ?_));exact Gt 3 O O O
 refine aa ?_;refine Cc O (λy=>?_) (λy=>?_)
 ·have z:(e6 ((eQ m).map (·.name))||e6 m.aq)=true:=y;refine ag (I (Yb jR fy O O) (aQ 2 Y O O O kV O O O (ak O (aa (a7 (Er ?_))))));refine WE.dQ 2 O O O O jS O λw' a=>?_;rw [KF d z];exact ⟨(none,0),O,a.fr,Sl.nil⟩
 have z:(e6 ((eQ m).map (·.name))||e6 m.aq)=false:=y;refine bk (ag (I (cc 0 O O jS O) (aQ 2 Y O O O kV O O O (ak O (aa (a7 ?_))))));refine WE.dQ 2 O O O O jS O λw' a=>?_;rw [TA d z];rw [ah] at a ⊢;exact ⟨g.f,O,a.fr,a.iP 1 O bx.ck cp⟩
structure GI where
 i:Nat
 s:SP
 p:SP
def bw:List UInt8:=[99,110,116]
def p9:List bx:=[⟨1,3,0,[107]⟩,⟨2,0,0,[115,117,109]⟩,⟨3,4,1,[116]⟩,⟨4,1,0,[100,111,119,110]⟩]
theorem TG {l:List bx} {i:Nat} {x:bx} (h:(l.map (·.name)).Nodup) (b:l[i]? = some x):x.name ∉ (l.take i).map (·.name):=by
 intro d;have k:i<l.length:=(cf.1 b).1;obtain ⟨j,c⟩:=jA d;rw [eZ] at c;obtain ⟨y,a,e⟩:=dr.1 c
 have f:j<i:=by have:=(cf.1 a).1; simp at this; omega
 rw [jy,if_pos f] at a
 have g:(l.map (·.name))[j]? = (l.map (·.name))[i]?:=by rw [eZ,eZ,a,b]; simp [e]
 have:=(ru (by simpa using (cf.1 a).1) h).1 g;omega
theorem sK:prog.underlying 143=some (.map 9 131):=ab
theorem KH (w:World) :
   Calls prog 104 #[] w λe w'=>∃r:SP,e = .returned (.agg #[st bw,.slice r.1 p9.length r.2])/\Ext w w'/\Sl hQ 4 (nv w w') r.1 r.2 p9:=by
 refine enter func104 O 7 O O ?_;refine CE (Vs:=[]) (Ws.init aj) (ag ?_);refine Al Y O jR λf=>?_;refine aa (ag (I (Yb ij se O O) (I (Yb ij se O O) (I (Yb ij se O O) (I (Yb ij se O O) ?_)))));refine Lb Y O nB O O O O λa=>?_;refine I (Yb jR fy O O) (aQ 1 Y O O O kV O O O (aa (a7 ?_)));refine WE.eB (hy O (dX 1 O O jS O)) λw' b=>?_
 exact ⟨(some ⟨a,0,none⟩,4),O,b.fr,⟨show p9.length<=4 by decide,show 4<=9223372036854775807 by decide,aj,λj x d=>⟨a,0,O,λk v c=>b.Bk 0 O (by
     have:k<4:=(cf.1 c).1
     show (p9.flatMap bx.cells)[0+j*4+k]? = some v
     rw [cj,qv bx.ck d this]; exact c)⟩⟩⟩
theorem KI (d:View) (a:Option Addr) (c:Nat) (l:List bx) (w:World) (p:Le d w) (f:Sl hQ 4 d a c l) (q:(l.map (·.name)).Nodup) :
   Calls prog 73 #[.slice a l.length c] w λe w'=>∃b:Nat,e = .returned (.map (some b))/\Ext w w'/\(nv w w') b=some (ar st (h8 l 0) l.length):=by
 have y:=f.cap;have z:=f.max;refine enter func73 O 19 O O ?_;refine CE (Vs:=[d]) (Ws.init (by simp [p])) (ag (ak O (aa (ag ?_))));refine WL.nc st Y O λm=>?_;refine cF 0 (ar st (h8 (l.take 0) 0) (l.take 0).length) O O (ak O (aa (Cs (ag (ad O (I (Yn p8 O) (ad O (aa (Cb ?_)))))))));refine dc (ι:=Nat) (λi=>[(9,.int .i64 (i:Int))]) [(2,_),(3,_),(7,_),(8,_)] (λi=>Ws w [] [ao m (ar st (h8 (l.take i) 0) (l.take i).length)] [d]) (λi=>i<=l.length) (λi=>l.length-i) 0 (cq _) an ?_;intro i hi;refine ag (I (ai O O) (aa (Cs ?_)));refine Cc O (λg=>?_) (λg=>?_)
 ·have r:i<l.length:=by simpa using g
  obtain ⟨x,j⟩:=cg r;obtain ⟨s,t,u,k⟩:=f.bT i x j;have k:bR d s (t+i*4) x.cells:=k;have n:=OM (TG q j);refine bk (Cs (Cb (ag (I (Yo p8 O O u ae) (I (dV 0 kU O O O (k)) ?_)))));refine Al Y O ij λA=>?_;refine aQ 0 Y O O O kA O O O (aa (Cr (ad O (I (Yf sd O) (I (Yd 0 O O O ab) (I (cc 0 O O kU O) ?_))))));refine WL.oz 1 h4 Y sK ab O O O O ?_;refine Ln (Eb (Et (Cr (I (Yi O O O ae) (ad O (Ln ?_))))));refine WE.mE 1 (ar st (h8 (l.take (i+1)) 0) (l.take (i+1)).length) O (by rw [hg j,<-n.1,<-n.2]; rfl) ?_;exact b8 (i+1) ae ae (λ_ h=>Wd 1 h)
 have v:i=l.length:=by simp at g; omega
 rw [v,ew];refine Ce (Ex (Ex (cB (Et (ag (ad O (ak O (aa (a7 ?_)))))))));refine R1 O O λw' o=>?_;exact ⟨m,O,o.fr,o.B8 0 O⟩
def hI (e:Int):List PanicEntry:=[⟨.iface 139 (.agg #[.int .i64 e]),false,false⟩]
def Ee (a:View) (b o:Nat) (l:List bx):Prop:=∃c:Nat,vc a b o=some (.map (some c))/\a c=some (ar st (h8 l 0) l.length)
structure q9 (H:View) (sb:Nat) (σ:ei):Prop where
 at_:∃(ob ub:Nat) (fa:Option Addr) (fc lb:Nat),(vc H sb 0=some (.map (some ob))/\vc H sb 1=some (.map (some ub))/\vc H sb 2=some (.slice fa σ.s5.length fc)/\vc H sb 3=some (.map (some lb)))/\H ob=some (ar st (h8 σ.own 0) σ.own.length)/\H ub=some (ar st (hk σ.aq 0) σ.aq.length)/\Sl Ee 1 H fa fc σ.s5/\H lb=some (ar st (hk σ.aB 0) σ.aB.length)
 nd:σ.aq.Nodup
 len:σ.aq.length=σ.s5.length
 aH:σ.aq.length<=3/\σ.aB.length<=7
def TH:bx:=⟨0,0,0,[]⟩
def lN (nm:List UInt8) (l:List (List UInt8)):Int:=match idxOf nm l 0 with | some k=>((k+1:Nat):Int) | none=>0
theorem Ef (nm:List UInt8) (l:List (List UInt8)):aI nm (hk l 0) (.int .i64 0) = .int .i64 (lN nm l):=OL nm l
theorem Eg {nm:List UInt8} {l:List (List UInt8)} (h:0<lN nm l):∃k:Nat,idxOf nm l 0=some k/\lN nm l=((k+1:Nat):Int)/\k<l.length:=by
 unfold lN at h ⊢
 cases a:idxOf nm l 0 with
 | none=>rw [a] at h; exact absurd h aF
 | some k=>exact ⟨k,rfl,rfl,by have:=(s6 a).2; exact (cf.1 this).1⟩
theorem Eh {nm:List UInt8} {l:List (List UInt8)} (h:¬0<lN nm l):idxOf nm l 0=none:=by
 unfold lN at h
 cases a:idxOf nm l 0 with
 | none=>rfl
 | some k=>rw [a] at h; exact absurd (by simp only; omega) h
def vf (nm:List UInt8) (l:List bx):bx:=(gA nm l).getD TH
theorem KL (nm:List UInt8) (l:List bx):aI nm (h8 l 0) (.agg #[.int .i64 0,.int .i64 0,.int .i64 0,st []]) = .agg (vf nm l).cells.toArray:=by
 rw [(G5 nm l _).1];unfold vf
 cases gA nm l<;>rfl
theorem KM (nm:List UInt8) (l:List bx):cy nm (h8 l 0)=(gA nm l).isSome:=(G5 nm l (.bool false)).2
theorem KN {nm:List UInt8} {l:List bx} (h:(gA nm l).isSome=true):gA nm l=some (vf nm l):=by
 unfold vf
 cases a:gA nm l with
 | none=>rw [a] at h; cases h
 | some x=>rfl
theorem KO {nm:List UInt8} {l:List bx} (h:(gA nm l).isSome=false):gA nm l=none:=by
 cases a:gA nm l with
 | none=>rfl
 | some x=>rw [a] at h; cases h
theorem TI {a:ei} {nm:List UInt8} {k:Nat} (h:idxOf nm a.aB 0=some k):aP a [] nm=some (-1,B9 k):=by rw [aP,if_pos rfl,h]
theorem xw {a:ei} {nm:List UInt8} (h:idxOf nm a.aB 0=none):aP a [] nm=(gA nm a.own).map λx=>(0,x):=by rw [aP,if_pos rfl,h]
theorem KP {a:ei} {mod nm:List UInt8} (h:¬mod=[]) (b:a.aq.Nodup) (c:a.aq.length=a.s5.length) {k:Nat} {f:List bx} (d:idxOf mod a.aq 0=some k) (e:a.s5[k]? = some f):aP a mod nm=(gA nm f).map λx=>(((k+1:Nat):Int),x):=by
 rw [aP,if_neg h,G8 b c,d];simp [e]
theorem TJ {a:ei} {mod nm:List UInt8} (h:¬mod=[]) (b:idxOf mod a.aq 0=none):aP a mod nm=none:=by
 rw [aP,if_neg h,Cg (rQ.1 b)]
theorem Ei {mod nm:List UInt8}:∀{us:List (List UInt8)} {fs:List (List bx)} {s:Nat} {m:Int} {x:bx},j0 mod nm us fs s=some (m,x)->0<=m
 | [],_,_,_,_,h=>by simp [j0] at h
 | u::us,[],_,_,_,h=>by simp [j0] at h
 | u::us,f::fs,s,m,x,h=>by
   rw [j0] at h
   split at h
   · split at h
     · injection h with h; injection h with a b; omega
     · exact Ei h
   · exact Ei h
theorem p' {a:ei} {mod nm:List UInt8} {m:Int} {x:bx} (h:aP a mod nm=some (m,x)):m = -1\/0<=m:=by
 unfold aP at h
 split at h
 · split at h
   · injection h with h; injection h with b d; exact .inl b.symm
   · cases c:gA nm a.own with
     | none=>rw [c] at h; cases h
     | some y=>rw [c] at h; injection h with h; injection h with b d; right; omega
 · exact .inr (Ei h)
def jg (a:ei) (mod nm:List UInt8) (kind args:Int):Int:=match aP a mod nm with
 | none=>5
 | some (m,it)=>if ¬(0<=m/\it.kind=kind) then 7 else if kind=4/\¬it.n=args then 8 else 0
theorem xx {a:ei} {mod nm:List UInt8} {kind args:Int} (h:aP a mod nm=none):jg a mod nm kind args=5:=by unfold jg; rw [h]
theorem q' {a:ei} {mod nm:List UInt8} {kind args m:Int} {it:bx} (h:aP a mod nm=some (m,it)):jg a mod nm kind args=if ¬(0<=m/\it.kind=kind) then 7 else if kind=4/\¬it.n=args then 8 else 0:=by unfold jg; rw [h]
def Ej (f:View) (g:Nat) (b:ei) (k:Nat):Prop:=∀(d:View) (l:List a8) (a:Option Addr) (c:Nat) (w:World),Le f w->Le d w->Sl (a_ k) 5 d a c l->e1 l<=109951162777->
 Calls prog 176 #[.pointer (some ⟨g,0,none⟩),.slice a l.length c] w λe w'=>(∃r:SP,e = .returned (.slice r.1 (fZ b l).length r.2)/\Ext w w'/\hj b l=0/\Sl (jn (k+1)) 5 (nv w w') r.1 r.2 (fZ b l))\/(∃_:Unit,e = .panicked (hI (hj b l))/\Ext w w'/\hj b l≠0)
theorem TK:gx prog 139=some [(0,1)]:=ab
theorem z6:zeroOf prog 139=some (.agg #[.int .i64 0]):=ab
theorem TL:prog.concrete 139=true:=ab
theorem xy:cx prog 147 3=some 3:=ab
theorem TM:cx prog 147 0=some 0:=ab
theorem KQ:cx prog 147 1=some 1:=ab
theorem Ek:cx prog 147 2=some 2:=ab
theorem TN:fk prog 145=some 1:=ab
theorem q_ (b:Bool) (n:Int) (w:World) :
   Calls prog 74 #[.bool b,.int .i64 n] w λe w'=>(∃_:Unit,e = .returned (.tuple #[])/\Ext w w'/\b=true)\/(∃_:Unit,e = .panicked (hI n)/\Ext w w'/\b=false):=by
 refine enter func74 O 9 O O ?_;refine CE (Vs:=[]) (Ws.init aj) (ag (ad O (I (e5 O) (aa ?_))));refine Cc O (λa=>?_) (λa=>?_)
 ·refine Cr (ad O (I (Yb z6 TK O O) (I (nO TL O) ?_)));refine WL.panic Y O ?_;refine bU λw' c=>?_;exact .inr ⟨(),O,c.fr,by simpa using a⟩
 refine Ck ?_;refine E0 O λw' c=>?_;exact .inl ⟨(),O,c.fr,by simpa using a⟩
theorem El (m:View) (s:Nat) (b:ei) (w:World) (v:Le m w) (x:q9 m s b) (mod nm:List UInt8) :
   Calls prog 174 #[.pointer (some ⟨s,0,none⟩),st mod,st nm] w λe w'=>(∃i:Int×bx,e = .returned (.tuple #[.int .i64 i.1,.agg i.2.cells.toArray])/\Ext w w'/\aP b mod nm=some i)\/(∃_:Unit,e = .panicked (hI 5)/\Ext w w'/\aP b mod nm=none):=by
 obtain ⟨⟨N,P,fa,fc,lb,⟨y,z,A,B⟩,C,D,n,E⟩,t,u,aH⟩:=x;refine enter func174 O 65 O O ?_;refine CE (Vs:=[m]) (Ws.init (by simp [v])) (ag (ak O ?_));refine Al Y O ij λQ=>?_;refine aa (Cs (ag (ad O (I (qq O O) (aa ?_)))));refine Cc O (λo=>?_) (λo=>?_)
 ·obtain rfl:mod=[]:=by simpa using o
  refine Cs (ag (ad O (I (cJ O) (I (Yf xy O) (I (cu 0 ab O O (B)) (ad O (I (yS 0 O h4 ih ab b0 O O (E)) ?_)))))));rw [Ef];refine ak O (aa (ag (ad O (I (dO O O) (aa ?_)))));refine Cc O (λp=>?_) (λp=>?_)
  ·obtain ⟨k,c,j,F⟩:=Eg (nm:=nm) (l:=b.aB) (by simpa using p);refine ag (ad O (I (po (k:Int) O O (by rw [j]; omega) (by omega)) (I (Yb ij se O O) (ak O (aQ 0 Y O O O kA O O O (aa (a7 (Er (Er ?_)))))))));refine WE.eB (fu O (gG O) (dX 0 O O kU O)) λw' a=>?_;exact .inl ⟨(-1,B9 k),O,a.fr,TI c⟩
  have c:=Eh (nm:=nm) (l:=b.aB) (by simpa using p);refine bk (ag (ad O (I (cJ O) (I (Yf TM O) (I (cu 0 ab O O (y)) (ad O (I (B7 0 O h4 sK ab ij O O (C)) ?_)))))));rw [KL,KM];refine ad O (I (Yx O O) (I (Yx O O) ?_));refine Al Y O ij λR=>?_;refine aQ 0 Y O O O kA O O O (ak O (aa (ag (ad O ?_))));refine WL.lz (ι:=Unit) (κ:=Unit) Y O aC O (λ_=>.tuple #[]) (λ_=>(gA nm b.own).isSome=true) (λ_=>hI 5) (λ_=>(gA nm b.own).isSome=false) (λw a=>q_ _ _ w) ?_ ?_
  ·intro _ g;refine Ep (Ep ?_);refine bU λw' a=>?_;exact .inr ⟨(),O,a.fr,by rw [xw c,KO g]; rfl⟩
  intro _ G;refine aa (Cs ?_);refine WC.lu 1 [(0,true),(1,true),(2,false)] mixed (by kernel_rfl) (λ_ _ _ d _ h=>by cases d<;>exact h) ?_;refine D0 O (Wp 1) (cc 0 O O kU O) (D0 O (Wp 1) (Ya O) ?_);refine De O (Wp 1) ?_;refine aQ 1 Y O O O kA O O O (Ln (Ed ?_));refine WD.nil (Wp 1) ?_;refine Et (a7 (Er ?_));refine WE.eB (fu O (gG O) (dX 1 O O kU O)) λw' a=>?_;exact .inl ⟨(0,vf nm b.own),O,a.fr,by rw [xw c,KN G]; rfl⟩
 have q:¬mod=[]:=by simpa using o
 refine bk (ag (ad O (I (cJ O) (I (Yf KQ O) (I (cu 0 ab O O (z)) (ad O (I (yS 0 O h4 ih ab b0 O O (D)) ?_)))))));rw [Ef];refine ak O (aa (ag (ad O (I (dO O O) ?_))));refine WL.lz (ι:=Unit) (κ:=Unit) Y O aC O (λ_=>.tuple #[]) (λ_=>decide (0<lN mod b.aq)=true) (λ_=>hI 5) (λ_=>decide (0<lN mod b.aq)=false) (λw a=>q_ _ _ w) ?_ ?_
 ·intro _ g;refine Ep ?_;refine bU λw' a=>?_;exact .inr ⟨(),O,a.fr,TJ q (Eh (by simpa using g))⟩
 intro _ H;obtain ⟨k,c,j,F⟩:=Eg (nm:=mod) (l:=b.aq) (by simpa using H);obtain ⟨f,r⟩:∃f,b.s5[k]? = some f:=⟨_,dL (by omega)⟩;obtain ⟨pb,S,J,T,K,L⟩:=n.bT k f r;have U:=n.cap;have V:=n.max;refine aa (ag (ad O (I (cJ O) (I (Yf Ek O) (I (cu 0 ab O O (A)) (ad O (I (po (k:Int) O O (by rw [j]; omega) (by omega)) (I (Yo TN O O J (by omega)) ?_))))))));refine I (cu 0 ab O O (K)) (ad O (I (B7 0 O h4 sK ab ij O O (L)) ?_));rw [KL,KM];refine ad O (I (Yx O O) (I (Yx O O) ?_));refine Al Y O ij λW=>?_;refine aQ 0 Y O O O kA O O O (ak O (aa (ag (ad O ?_))));refine WL.lz (ι:=Unit) (κ:=Unit) Y O aC O (λ_=>.tuple #[]) (λ_=>(gA nm f).isSome=true) (λ_=>hI 5) (λ_=>(gA nm f).isSome=false) (λw a=>q_ _ _ w) ?_ ?_
 ·intro _ g;refine Ep ?_;refine bU λw' a=>?_;exact .inr ⟨(),O,a.fr,by rw [KP q t u c r,KO g]; rfl⟩
 intro _ M;refine aa (Cs ?_);refine WC.lu 1 [(0,true),(1,true),(2,true),(3,false)] mixed (by kernel_rfl) (λ_ _ _ d _ h=>by cases d<;>exact h) ?_;refine D0 O (Wp 1) (Ym O) (D0 O (Wp 1) (cc 0 O O kU O) (D0 O (Wp 1) (Ya O) ?_));refine De O (Wp 1) ?_;refine aQ 1 Y O O O kA O O O (Ln (Ed ?_));refine WD.nil (Wp 1) ?_;refine Et (a7 ?_);refine WE.eB (fu O (gG O) (dX 1 O O kU O)) λw' a=>?_;rw [j] at *;exact .inl ⟨(((k+1:Nat):Int),vf nm f),O,a.fr,by rw [KP q t u c r,KN M]; rfl⟩
theorem TO {a:ei} {n m:Int} {it:bx} {mod nm:List UInt8} {len:Nat} (h:aP a mod nm=some (m,it)):cV a 3 n mod nm len=if m = -1 then ⟨16,n,0,it.pl,0⟩ else if it.kind=1 then ⟨1,it.n,0,0,0⟩ else if it.kind=2 then ⟨3,n,m,it.pl,0⟩ else ⟨3,n,0,0,7⟩:=by
 unfold cV;rw [if_pos aF,h];simp
theorem sN {a:ei} {op n:Int} {mod nm:List UInt8} {len:Nat} (b:op=3\/op=4\/op=5) (h:aP a mod nm=none):cV a op n mod nm len=⟨op,n,0,0,5⟩:=by
 unfold cV;rw [if_pos (by unfold dS; simp; omega),h]
theorem TP {a:ei} {op n:Int} {mod nm:List UInt8} {len:Nat} (b:¬op=3) (c:¬op=4) (d:¬op=5):cV a op n mod nm len=⟨op,n,0,0,0⟩:=by
 unfold cV;rw [if_neg (by unfold dS; simp; omega)]
theorem TQ {b:ei} {n:Int} {mod nm:List UInt8} {len:Nat} (h:jg b mod nm 3 0≠0):(cV b 4 n mod nm len).e=jg b mod nm 3 0:=by
 cases a:aP b mod nm with
 | none=>rw [sN aj a,xx a]
 | some i=>
   obtain ⟨m,it⟩:=i;have f:=p' a;rw [q' a] at h ⊢;unfold cV;rw [if_pos aF,a]
   by_cases c:m = -1
   · simp [c]
   · by_cases d:it.kind=3
     · exact absurd (by rw [if_neg ae,if_neg ae]) h
     · simp [c,d]
theorem TR {a:ei} {n m:Int} {it:bx} {mod nm:List UInt8} {len:Nat} (b:aP a mod nm=some (m,it)) (h:jg a mod nm 3 0=0):cV a 4 n mod nm len=⟨4,it.n,m,it.pl,0⟩:=by
 rw [q' b] at h;have e:=p' b
 have d:0<=m/\it.kind=3:=by
   by_cases c:0<=m/\it.kind=3
   · exact c
   · rw [if_pos c] at h; cases h
 unfold cV;rw [if_pos aF,b];simp [d.2,show ¬m = -1 by omega]
theorem TS {b:ei} {n:Int} {mod nm:List UInt8} {len:Nat} (h:jg b mod nm 4 (len:Int)≠0):(cV b 5 n mod nm len).e=jg b mod nm 4 (len:Int):=by
 cases a:aP b mod nm with
 | none=>rw [sN aj a,xx a]
 | some i=>
   obtain ⟨m,it⟩:=i;have g:=p' a;rw [q' a] at h ⊢;unfold cV;rw [if_pos aF,a]
   by_cases c:m = -1
   · simp [c]
   · by_cases d:it.kind=4
     · by_cases f:it.n=(len:Int)
       · exact absurd (by rw [if_neg ae,if_neg ae]) h
       · simp [c,d,f,show 0<=m by omega]
     · simp [c,d]
theorem TT {b:ei} {n m:Int} {it:bx} {mod nm:List UInt8} {len:Nat} (c:aP b mod nm=some (m,it)) (h:jg b mod nm 4 (len:Int)=0):cV b 5 n mod nm len=⟨5,n,m,it.pl,0⟩:=by
 rw [q' c] at h;have f:=p' c
 have d:0<=m/\it.kind=4:=by
   by_cases a:0<=m/\it.kind=4
   · exact a
   · rw [if_pos a] at h; cases h
 have e:it.n=(len:Int):=by
   rw [if_neg (λa=>a d)] at h
   by_cases a:it.n=(len:Int)
   · exact a
   · rw [if_pos ⟨rfl,a⟩] at h; cases h
 unfold cV;rw [if_pos aF,c];simp [d.2,e,show ¬m = -1 by omega]
theorem En {a:ei} {op:Int} {mod nm:List UInt8} {len:Nat} (b:op=1\/op=2\/op=3) (h:aP a mod nm=none):de a op mod nm len=⟨op,0,0,0,5⟩:=by
 unfold de;rw [if_pos (by unfold dS; simp; omega),h]
theorem TU {a:ei} {op:Int} {mod nm:List UInt8} {len:Nat} (b:¬op=1) (c:¬op=2) (d:¬op=3):de a op mod nm len=⟨op,0,0,0,0⟩:=by
 unfold de;rw [if_neg (by unfold dS; simp; omega)]
theorem TV {b:ei} {m:Int} {it:bx} {mod nm:List UInt8} {len:Nat} (h:aP b mod nm=some (m,it)):de b 1 mod nm len=if m = -1\/it.kind=2 then ⟨1,0,m,it.pl,0⟩ else ⟨1,0,0,0,7⟩:=by
 unfold de;rw [if_pos aF,h]
 by_cases a:m = -1\/it.kind=2
 · simp [a]
 · simp [a,show ¬m = -1 from λe=>a (.inl e)]
theorem Qj {b:ei} {mod nm:List UInt8} {len:Nat} (h:jg b mod nm 3 0≠0):(de b 2 mod nm len).e=jg b mod nm 3 0:=by
 cases a:aP b mod nm with
 | none=>rw [En aj a,xx a]
 | some i=>
   obtain ⟨m,it⟩:=i;have f:=p' a;rw [q' a] at h ⊢;unfold de;rw [if_pos aF,a]
   by_cases c:m = -1
   · simp [c]
   · by_cases d:it.kind=3
     · exact absurd (by rw [if_neg ae,if_neg ae]) h
     · simp [c,d]
theorem TX {a:ei} {m:Int} {it:bx} {mod nm:List UInt8} {len:Nat} (b:aP a mod nm=some (m,it)) (h:jg a mod nm 3 0=0):de a 2 mod nm len=⟨2,it.n,m,it.pl,0⟩:=by
 rw [q' b] at h;have e:=p' b
 have d:0<=m/\it.kind=3:=by
   by_cases c:0<=m/\it.kind=3
   · exact c
   · rw [if_pos c] at h; cases h
 unfold de;rw [if_pos aF,b];simp [d.2,show ¬m = -1 by omega]
theorem TY {b:ei} {mod nm:List UInt8} {len:Nat} (h:jg b mod nm 4 (len:Int)≠0):(de b 3 mod nm len).e=jg b mod nm 4 (len:Int):=by
 cases a:aP b mod nm with
 | none=>rw [En aj a,xx a]
 | some i=>
   obtain ⟨m,it⟩:=i;have g:=p' a;rw [q' a] at h ⊢;unfold de;rw [if_pos aF,a]
   by_cases c:m = -1
   · simp [c]
   · by_cases d:it.kind=4
     · by_cases f:it.n=(len:Int)
       · exact absurd (by rw [if_neg ae,if_neg ae]) h
       · simp [c,d,f,show 0<=m by omega]
     · simp [c,d]
theorem TZ {b:ei} {m:Int} {it:bx} {mod nm:List UInt8} {len:Nat} (c:aP b mod nm=some (m,it)) (h:jg b mod nm 4 (len:Int)=0):de b 3 mod nm len=⟨3,0,m,it.pl,0⟩:=by
 rw [q' c] at h;have f:=p' c
 have d:0<=m/\it.kind=4:=by
   by_cases a:0<=m/\it.kind=4
   · exact a
   · rw [if_pos a] at h; cases h
 have e:it.n=(len:Int):=by
   rw [if_neg (λa=>a d)] at h
   by_cases a:it.n=(len:Int)
   · exact a
   · rw [if_pos ⟨rfl,a⟩] at h; cases h
 unfold de;rw [if_pos aF,c];simp [d.2,e,show ¬m = -1 by omega]
structure GX (X:Type) where
 i:Nat
 es:List X
 a:Option Addr
 c:Nat
 J:View
theorem xz:zeroOf prog 269=some (.agg #[.int .i64 0,.int .i64 0,.int .i64 0,.int .i64 0,.slice none 0 0]):=ab
theorem T0:gx prog 269=some [(0,1),(1,1),(2,1),(3,1),(4,1)]:=ab
theorem z7:dI prog 269=some 5:=ab
theorem og:cx prog 269 0=some 0:=ab
theorem kW:cx prog 269 3=some 3:=ab
theorem lO:cx prog 269 1=some 1:=ab
theorem lP:cx prog 269 2=some 2:=ab
theorem oh:cx prog 269 4=some 4:=ab
theorem KR:dI prog 203=some 1:=ab
theorem kB:gP prog 269=some 5:=ab
theorem z8 (j:View) (k:Nat) (c:ei) (w:World) (s:Le j w) (t:q9 j k c) (mod nm:List UInt8) (kind args:Int) :
   Calls prog 175 #[.pointer (some ⟨k,0,none⟩),st mod,st nm,.int .i64 kind,.int .i64 args] w λe w'=>(∃i:Int×bx,e = .returned (.tuple #[.int .i64 i.1,.agg i.2.cells.toArray])/\Ext w w'/\aP c mod nm=some i/\jg c mod nm kind args=0)\/(∃_:Unit,e = .panicked (hI (jg c mod nm kind args))/\Ext w w'/\jg c mod nm kind args≠0):=by
 refine enter func175 O 41 O O ?_;refine CE (Vs:=[j]) (Ws.init (by simp [s])) (ag (ak O ?_));refine Al Y O ij λy=>?_;refine aa (ag (ad O (ad O (ad O ?_))));refine WL.lz Y O aC O _ _ _ _ (λw a=>El j k c w a.V t mod nm) ?_ ?_
 ·intro _ f;refine Ep ?_;refine bU λw' a=>?_;rw [xx f];exact .inr ⟨(),O,a.fr,aF⟩
 intro ⟨l,g⟩ r;have b:=q' (kind:=kind) (args:=args) r;refine ad O (I (Yx O O) (I (Yx O O) ?_));refine Al Y O ij λz=>?_;refine ak O (aQ 0 Y O O O kA O O O (aa (ag (ad O (I (gw O O) (ad O ?_))))));apply La 4 O O O O Y O O O O O
 ·intro A;refine Vg (Yf ve O) (Vg (Yd 0 O O O ab) (Vg (Ym O) (Vg (bY O O) ?_)));exact Gt 4 O O O
 refine WL.lz (ι:=Unit) (κ:=Unit) Y O aC O (λ_=>.tuple #[]) (λ_=>_=true) (λ_=>hI _) (λ_=>_=false) (λw a=>q_ _ _ w) ?_ ?_
 ·intro _ f;refine Ep ?_;refine bU λw' a=>?_
  have m:¬(0<=l/\g.kind=kind):=by rintro ⟨o,p⟩; simp [o,p] at f
  rw [if_pos m] at b;rw [b];exact .inr ⟨(),O,a.fr,aF⟩
 intro _ u
 have m:0<=l/\g.kind=kind:=by simpa using u
 rw [if_neg (λv=>v m)] at b;refine aa (ag (ad O (I (fz O O) (ad O ?_))));apply Lo 4 O O O O Y O O O O O
 ·intro B;refine Vg (Yf mV O) (Vg (Yd 0 O O O ab) (Vg (Ym O) (Vg (bY O O) ?_)));exact Gt 4 O O O
 refine WL.lz (ι:=Unit) (κ:=Unit) Y O aC O (λ_=>.tuple #[]) (λ_=>_=true) (λ_=>hI _) (λ_=>_=false) (λw a=>q_ _ _ w) ?_ ?_
 ·intro _ f;refine Ep ?_;refine bU λw' a=>?_
  have q:kind=4/\¬g.n=args:=by simpa using f
  rw [if_pos q] at b;rw [b];exact .inr ⟨(),O,a.fr,aF⟩
 intro _ x;refine aa (Cs ?_);refine WC.lu 1 [(0,true),(1,true),(2,true),(3,false)] mixed ab (λ_ _ _ d _ h=>by cases d<;>exact h) ?_;refine D0 O (Wp 1) (Ym O) (D0 O (Wp 1) (cc 0 O O kU O) (D0 O (Wp 1) (Ya O) ?_));refine De O (Wp 1) ?_;refine aQ 1 Y O O O kA O O O (Ln (Ed ?_));refine WD.nil (Wp 1) ?_;refine Et (a7 ?_);refine WE.eB (fu O (gG O) (dX 1 O O kU O)) λw' a=>?_
 have q:¬(kind=4/\¬g.n=args):=by rintro ⟨o,p⟩; simp [o,p] at x
 rw [if_neg q] at b;exact .inl ⟨(l,g),O,a.fr,r,b⟩
theorem T1 (l t:View) (q:Nat) (b:ei) (k:Nat) (x:a8) (a:Option Addr) (c:Nat) (w:World) (P:Le l w) (Q:Le t w) (u:q9 l q b) (R:Ej l q b k) (v:Sl (a_ k) 5 t a c x.args) (av:wE x<=109951162777) :
   Calls prog 222 #[.pointer (some ⟨q,0,none⟩),.agg (sW x a c).toArray] w λe w'=>(∃r:SP,e = .returned (.agg (oE (lA b x) r.1 r.2).toArray)/\Ext w w'/\jo b x=0/\px (k+1) (nv w w') (lA b x,r))\/(∃_:Unit,e = .panicked (hI (jo b x))/\Ext w w'/\jo b x≠0):=by
 have aw:=GB x;have ax:=v.cap;have ay:=v.max;refine enter func222 O 98 O O ?_;refine CE (Vs:=[t,l]) (Ws.init (by simp [Q,P])) (ag ?_);refine WL.box Y O O λH=>?_;refine Al Y O xz λJ=>?_;refine aa (ag (I (Yf tr O) (I (Yd 1 O O O ab) (I (Yf zP O) (I (Yd 1 O O O ab) (I (Yb xz T0 O O) ?_))))));refine Al Y O xz λK=>?_;refine aQ 0 Y O O O z7 O O O (aa ?_);refine WC.yF (ι:=Unit) (λ_u=>[(0,.pointer (some ⟨q,0,none⟩)),(3,.pointer (some ⟨H,0,none⟩)),(4,.pointer (some ⟨J,0,none⟩)),(5,.pointer (some ⟨K,0,none⟩))]) (λ_u=>Ws w [] [ao K (.cells #[.int .i64 (cV b x.op x.n x.mod x.nm x.args.length).op,.int .i64 (cV b x.op x.n x.mod x.nm x.args.length).n,.int .i64 (cV b x.op x.n x.mod x.nm x.args.length).m,.int .i64 (cV b x.op x.n x.mod x.nm x.args.length).pl,.slice none 0 0] 269 (0,0)),ao J (.cells #[.int .i64 0,.int .i64 0,.int .i64 0,.int .i64 0,.slice none 0 0] 269 (0,0)),ao H (.cells (sW x a c).toArray 263 (0,0))] [t,l]) (λ_u=>(cV b x.op x.n x.mod x.nm x.args.length).e=0) ?_ ?_
 ·refine ag (I (Yf tr O) (I (Yd 2 O O O ab) (aa (Cb (ag (I (bY O O) (ak O (aa ?_))))))));refine Cc O (λy=>?_) (λy=>?_)
  ·have o:x.op=3:=by simpa using y
   refine ag (ad O (I (Yf zN O) (I (Yd 2 O O O ab) (I (Yf zO O) (I (Yd 2 O O O ab) ?_)))));refine WL.lz Y O aC O _ _ _ _ (λw f=>El l q b w f.V u x.mod x.nm) ?_ ?_
   ·intro _ i;refine Ep (WE.cm (Ep ?_));refine bU λw' f=>?_
    have j:jo b x=5:=by rw [eh,sN ae i]; rfl
    rw [j];exact .inr ⟨(),O,f.fr,aF⟩
   intro ⟨z,s⟩ L;have p:=TO (n:=x.n) (len:=x.args.length) L;have az:=p' L;rw [<-o] at p;refine ad O (I (Yx O O) (I (Yx O O) ?_));refine Al Y O ij λaA=>?_;refine ak O (aQ 0 Y O O O kA O O O (aa (Cb (ag (ad O (I (ai O O) (ak O (aa ?_))))))));refine Cc O (λA=>?_) (λA=>?_)
   ·have B:z = -1:=by simp at A; omega
    have g:(cV b x.op x.n x.mod x.nm x.args.length)=⟨16,x.n,0,s.pl,0⟩:=by rw [p,if_pos B]
    refine WC.lu 1 [(0,true),(1,true),(2,true),(3,false),(4,false),(5,false)] mixed ab (λ_ _ _ d _ h=>by cases d<;>exact h) ?_;refine D0 O (Wp 1) (Yf kz O) (D0 O (Wp 1) (Yd 0 O O O ab) (D0 O (Wp 1) (Yf og O) ?_));refine De O (Wp 1) ?_;refine aQ 1 Y O O O dZ O O O (Ln (Ed ?_));refine De O (Wp 1) ?_;refine I (Yf kW O) (Ln (Ed ?_));refine De O (Wp 1) ?_;refine aQ 1 Y O O O dZ O O O (Ln (Ed ?_));refine WD.nil (Wp 1) ?_;refine Eb (Eb ?_);refine WE.mE 1 (.cells #[.int .i64 (cV b x.op x.n x.mod x.nm x.args.length).op,.int .i64 (cV b x.op x.n x.mod x.nm x.args.length).n,.int .i64 (cV b x.op x.n x.mod x.nm x.args.length).m,.int .i64 (cV b x.op x.n x.mod x.nm x.args.length).pl,.slice none 0 0] 269 (0,0)) O (by rw [g]; rfl) ?_
    exact jC () (by rw [g]) (λ_ h=>by
      have h:=h.bu 3 rfl;have h:=h.bu 3 rfl;have h:=h.bu 3 rfl;have h:=Wt 3 h
      exact h)
   have B:¬z = -1:=by simp at A; omega
   rw [if_neg B] at p;refine ag (I (Yf ve O) (I (Yd 0 O O O ab) (I (bY O O) (ak O (aa ?_)))));refine Cc O (λC=>?_) (λC=>?_)
   ·have D:s.kind=1:=by simpa using C
    have g:(cV b x.op x.n x.mod x.nm x.args.length)=⟨1,s.n,0,0,0⟩:=by rw [p,if_pos D]
    refine WC.lu 1 [(0,true),(1,true),(2,true),(3,false),(4,false),(5,false)] mixed ab (λ_ _ _ d _ h=>by cases d<;>exact h) ?_;refine D0 O (Wp 1) (Yf mV O) (D0 O (Wp 1) (Yd 0 O O O ab) (D0 O (Wp 1) (Yf og O) ?_));refine De O (Wp 1) ?_;refine aQ 1 Y O O O dZ O O O (Ln (Ed ?_));refine De O (Wp 1) ?_;refine I (Yf lO O) (Ln (Ed ?_));refine De O (Wp 1) ?_;refine aQ 1 Y O O O dZ O O O (Ln (Ed ?_));refine WD.nil (Wp 1) ?_;refine Eb (Eb ?_);refine WE.mE 1 (.cells #[.int .i64 (cV b x.op x.n x.mod x.nm x.args.length).op,.int .i64 (cV b x.op x.n x.mod x.nm x.args.length).n,.int .i64 (cV b x.op x.n x.mod x.nm x.args.length).m,.int .i64 (cV b x.op x.n x.mod x.nm x.args.length).pl,.slice none 0 0] 269 (0,0)) O (by rw [g]; rfl) ?_
    exact jC () (by rw [g]) (λ_ h=>by
      have h:=h.bu 3 rfl;have h:=h.bu 3 rfl;have h:=h.bu 3 rfl;have h:=Wt 3 h
      exact h)
   have D:¬s.kind=1:=by simpa using C
   rw [if_neg D] at p;refine ag (I (Yf ve O) (I (Yd 0 O O O ab) (I (bY O O) ?_)));refine WL.lz (ι:=Unit) (κ:=Unit) Y O aC O (λ_=>.tuple #[]) (λ_=>_=true) (λ_=>hI _) (λ_=>_=false) (λw f=>q_ _ _ w) ?_ ?_
   ·intro _ i;refine Ep (WE.cm (WE.cm (Ep ?_)));refine bU λw' f=>?_
    have E:¬s.kind=2:=by simpa using i
    rw [if_neg E] at p
    have j:jo b x=7:=by rw [eh,p]; rfl
    rw [j];exact .inr ⟨(),O,f.fr,aF⟩
   intro _ S
   have E:s.kind=2:=by simpa using S
   have g:(cV b x.op x.n x.mod x.nm x.args.length)=⟨x.op,x.n,z,s.pl,0⟩:=by rw [p,if_pos E,o]
   refine aa ?_;refine WC.lu 1 [(0,true),(1,true),(2,true),(3,true),(4,false),(5,false),(6,false)] mixed ab (λ_ _ _ d _ h=>by cases d<;>exact h) ?_;refine D0 O (Wp 1) (Ym O) (D0 O (Wp 1) (Yf kz O) (D0 O (Wp 1) (Yd 0 O O O ab) (D0 O (Wp 1) (Yf lP O) ?_)));refine De O (Wp 1) ?_;refine aQ 1 Y O O O dZ O O O (Ln (Ed ?_));refine De O (Wp 1) ?_;refine I (Yf kW O) (Ln (Ed ?_));refine De O (Wp 1) ?_;refine aQ 1 Y O O O dZ O O O (Ln (Ed ?_));refine WD.nil (Wp 1) ?_;refine Eb (Eb ?_);refine WE.mE 1 (.cells #[.int .i64 (cV b x.op x.n x.mod x.nm x.args.length).op,.int .i64 (cV b x.op x.n x.mod x.nm x.args.length).n,.int .i64 (cV b x.op x.n x.mod x.nm x.args.length).m,.int .i64 (cV b x.op x.n x.mod x.nm x.args.length).pl,.slice none 0 0] 269 (0,0)) O (by rw [g]; rfl) ?_
   exact jC () (by rw [g]) (λ_ h=>by
     have h:=h.bu 3 rfl;have h:=h.bu 3 rfl;have h:=h.bu 3 rfl;have h:=Wt 3 h
     exact h)
  have T:¬x.op=3:=by simpa using y
  refine ag (I (bY O O) (ak O (aa ?_)));refine Cc O (λF=>?_) (λF=>?_)
  ·have o:x.op=4:=by simpa using F
   refine ag (ad O (I (Yf zN O) (I (Yd 2 O O O ab) (I (Yf zO O) (I (Yd 2 O O O ab) ?_)))));refine WL.lz Y O aC O _ _ _ _ (λw f=>z8 l q b w f.V u x.mod x.nm 3 0) ?_ ?_
   ·intro _ i;refine Ep (WE.cm (Ep ?_));refine bU λw' f=>?_
    have j:jo b x=jg b x.mod x.nm 3 0:=by rw [eh,o,TQ i,py i]
    rw [j];exact .inr ⟨(),O,f.fr,i⟩
   intro ⟨U,M⟩ ⟨W,X⟩
   have g:(cV b x.op x.n x.mod x.nm x.args.length)=⟨x.op,M.n,U,M.pl,0⟩:=by rw [o]; exact TR W X
   refine ad O (I (Yx O O) (I (Yx O O) ?_));refine Al Y O ij λaB=>?_;refine ak O (aQ 0 Y O O O kA O O O (aa ?_));refine WC.lu 1 [(0,true),(1,true),(2,true),(3,true),(4,true),(5,true),(6,false),(7,false),(8,false),(9,false),(10,false)] mixed ab (λ_ _ _ d _ h=>by cases d<;>exact h) ?_;refine D0 O (Wp 1) (Ym O) (D0 O (Wp 1) (Yf kz O) (D0 O (Wp 1) (Yd 0 O O O ab) (D0 O (Wp 1) (Yf mV O) (D0 O (Wp 1) (Yd 0 O O O ab) (D0 O (Wp 1) (Yf lP O) ?_)))));refine De O (Wp 1) ?_;refine aQ 1 Y O O O dZ O O O (Ln (Ed ?_));refine De O (Wp 1) ?_;refine I (Yf kW O) (Ln (Ed ?_));refine De O (Wp 1) ?_;refine aQ 1 Y O O O dZ O O O (Ln (Ed ?_));refine De O (Wp 1) ?_;refine I (Yf lO O) (Ln (Ed ?_));refine De O (Wp 1) ?_;refine aQ 1 Y O O O dZ O O O (Ln (Ed ?_));refine WD.nil (Wp 1) ?_;refine Eb ?_;refine WE.mE 1 (.cells #[.int .i64 (cV b x.op x.n x.mod x.nm x.args.length).op,.int .i64 (cV b x.op x.n x.mod x.nm x.args.length).n,.int .i64 (cV b x.op x.n x.mod x.nm x.args.length).m,.int .i64 (cV b x.op x.n x.mod x.nm x.args.length).pl,.slice none 0 0] 269 (0,0)) O (by rw [g]; rfl) ?_
   exact jC () (by rw [g]) (λ_ h=>by
     have h:=h.bu 3 rfl;have h:=h.bu 3 rfl;have h:=h.bu 3 rfl;have h:=Wt 3 h
     exact h)
  have Z:¬x.op=4:=by simpa using F
  refine ag (I (bY O O) (ak O (aa ?_)));refine Cc O (λG=>?_) (λG=>?_)
  ·have o:x.op=5:=by simpa using G
   refine ag (ad O (I (Yf zN O) (I (Yd 2 O O O ab) (I (Yf zO O) (I (Yd 2 O O O ab) (I (Yf u6 O) (I (Yd 2 O O O ab) ?_)))))));refine I (Yn p2 O) ?_;refine WL.lz Y O aC O _ _ _ _ (λw f=>z8 l q b w f.V u x.mod x.nm 4 (x.args.length:Int)) ?_ ?_
   ·intro _ i;refine Ep (WE.cm (Ep ?_));refine bU λw' f=>?_
    have j:jo b x=jg b x.mod x.nm 4 (x.args.length:Int):=by rw [eh,o,TS i,py i]
    rw [j];exact .inr ⟨(),O,f.fr,i⟩
   intro ⟨ac,af⟩ ⟨ah,al⟩
   have g:(cV b x.op x.n x.mod x.nm x.args.length)=⟨x.op,x.n,ac,af.pl,0⟩:=by rw [o]; exact TT ah al
   refine ad O (I (Yx O O) (I (Yx O O) ?_));refine Al Y O ij λaD=>?_;refine ak O (aQ 0 Y O O O kA O O O (aa ?_));refine WC.lu 1 [(0,true),(1,true),(2,true),(3,true),(4,false),(5,false),(6,false)] mixed ab (λ_ _ _ d _ h=>by cases d<;>exact h) ?_;refine D0 O (Wp 1) (Ym O) (D0 O (Wp 1) (Yf kz O) (D0 O (Wp 1) (Yd 0 O O O ab) (D0 O (Wp 1) (Yf lP O) ?_)));refine De O (Wp 1) ?_;refine aQ 1 Y O O O dZ O O O (Ln (Ed ?_));refine De O (Wp 1) ?_;refine I (Yf kW O) (Ln (Ed ?_));refine De O (Wp 1) ?_;refine aQ 1 Y O O O dZ O O O (Ln (Ed ?_));refine WD.nil (Wp 1) ?_;refine Eb ?_;refine WE.mE 1 (.cells #[.int .i64 (cV b x.op x.n x.mod x.nm x.args.length).op,.int .i64 (cV b x.op x.n x.mod x.nm x.args.length).n,.int .i64 (cV b x.op x.n x.mod x.nm x.args.length).m,.int .i64 (cV b x.op x.n x.mod x.nm x.args.length).pl,.slice none 0 0] 269 (0,0)) O (by rw [g]; rfl) ?_
   exact jC () (by rw [g]) (λ_ h=>by
     have h:=h.bu 3 rfl;have h:=h.bu 3 rfl;have h:=h.bu 3 rfl;have h:=Wt 3 h
     exact h)
  have am:¬x.op=5:=by simpa using G
  have g:(cV b x.op x.n x.mod x.nm x.args.length)=⟨x.op,x.n,0,0,0⟩:=TP T Z am;refine Ck (Eb ?_);refine WE.mE 0 (.cells #[.int .i64 (cV b x.op x.n x.mod x.nm x.args.length).op,.int .i64 (cV b x.op x.n x.mod x.nm x.args.length).n,.int .i64 (cV b x.op x.n x.mod x.nm x.args.length).m,.int .i64 (cV b x.op x.n x.mod x.nm x.args.length).pl,.slice none 0 0] 269 (0,0)) O (by rw [g]; rfl) ?_
  exact jC () (by rw [g]) (λ_ h=>by
    have h:=h.bu 2 rfl;have h:=h.bu 2 rfl;have h:=h.bu 2 rfl
    exact h)
 intro _ N;refine ag (ad O (I (Yf u6 O) (I (Yd 2 O O O ab) ?_)));refine WL.rL (ι:=SP) (κ:=Unit) Y O aC O (λr=>.slice r.1 (fZ b x.args).length r.2) (λan r=>hj b x.args=0/\Sl (jn (k+1)) 5 an r.1 r.2 (fZ b x.args)) (λ_=>hI (hj b x.args)) (λ_=>hj b x.args≠0) (λw f=>R t x.args a c w f.V f.V v ae) ?_ ?_
 ·intro _ i;refine Ep ?_;refine bU λw' f=>?_
  have j:jo b x=hj b x.args:=by rw [eh,N,k8]
  rw [j];exact .inr ⟨(),O,f.fr,i⟩
 intro aE ap aq ⟨ar,au⟩;refine I (Yf oh O) (aQ 0 Y O O O KR O O O (aa (ag (I (cc 0 O O kB O) (aQ 1 Y O O O z7 O O O (aa (a7 ?_)))))));refine WE.eB (hy O (dX 1 O O kB O)) λw' f=>?_;rw [B'];exact .inl ⟨ap,O,f.fr,by rw [eh,N,k8,ar],y3 au (cU f aj aq)⟩
def T2 (f:View) (g:Nat) (b:ei) (ke k:Nat):Prop:=∀(d:View) (l:List bq) (a:Option Addr) (c:Nat) (w:World),Le f w->Le d w->Sl (g_ ke k) 6 d a c l->ef l<=109951162777->
 Calls prog 77 #[.pointer (some ⟨g,0,none⟩),.slice a l.length c] w λe w'=>(∃r:SP,e = .returned (.slice r.1 (eC b l).length r.2)/\Ext w w'/\e2 b l=0/\Sl (hS (ke+1) (k+1)) 7 (nv w w') r.1 r.2 (eC b l))\/(∃_:Unit,e = .panicked (hI (e2 b l))/\Ext w w'/\e2 b l≠0)
theorem z' {X T S:Type} {f:X->T} {g:S->T} {es:List X} {l:List S} {i:Nat} {x:S} {e:X} (h:es.map f=(l.take i).map g) (a:l[i]? = some x) (b:f e=g x):(es++[e]).map f=(l.take (i+1)).map g:=by
 rw [hg a]; simp [h,b]
theorem z_ {X T S:Type} {f:X->T} {g:S->T} {es:List X} {l:List S} {i:Nat} (h:es.map f=(l.take i).map g) (hi:i<=l.length):es.length=i:=by
 have:=congrArg List.length h
 simpa [hc hi] using this
theorem Aa {X T S:Type} {f:X->T} {g:S->T} {es:List X} {l:List S} {i:Nat} (h:es.map f=(l.take i).map g) (hi:i=l.length):es.map f=l.map g:=by subst hi; simpa using h
theorem KS:gg prog 203 269 (.agg #[.int .i64 0,.int .i64 0,.int .i64 0,.int .i64 0,.slice none 0 0]) 5 56:=iN ab
theorem xA:zeroOf prog 205=some (.agg #[.int .i64 0,.int .i64 0,.int .i64 0,.int .i64 0,.slice none 0 0,.slice none 0 0,.slice none 0 0]):=ab
theorem T3:gx prog 205=some [(0,1),(1,1),(2,1),(3,1),(4,1),(5,1),(6,1)]:=ab
theorem Ab:dI prog 205=some 7:=ab
theorem mm:cx prog 205 2=some 2:=ab
theorem mW:cx prog 205 3=some 3:=ab
theorem ra:cx prog 205 1=some 1:=ab
theorem nC:cx prog 205 4=some 4:=ab
theorem fW:cx prog 205 5=some 5:=ab
theorem Eo:dI prog 38=some 1:=ab
theorem rb:cx prog 205 6=some 6:=ab
theorem vh:gP prog 205=some 7:=ab
theorem KT:gg prog 38 205 (.agg #[.int .i64 0,.int .i64 0,.int .i64 0,.int .i64 0,.slice none 0 0,.slice none 0 0,.slice none 0 0]) 7 104:=iN ab
theorem T4 (m d:View) (o:Nat) (b:ei) (D:q9 m o b) (k:Nat) (l:List a8) (a:Option Addr) (c:Nat) (w:World) (E:Le m w) (F:Le d w) (p:Sl (a_ k) 5 d a c l) (aw:e1 l<=109951162777) :
   Calls prog 176 #[.pointer (some ⟨o,0,none⟩),.slice a l.length c] w λe w'=>(∃r:SP,e = .returned (.slice r.1 (fZ b l).length r.2)/\Ext w w'/\hj b l=0/\Sl (jn (k+1)) 5 (nv w w') r.1 r.2 (fZ b l))\/(∃_:Unit,e = .panicked (hI (hj b l))/\Ext w w'/\hj b l≠0):=by
 induction k using Nat.strongRecOn generalizing d l a c w
 rename_i k G;have ax:=p.cap;have ay:=p.max;have az:=GG l;refine enter func176 O 22 O O ?_;refine CE (Vs:=[d,m]) (Ws.init (by simp [F,E])) (ag (ak O (aa (ag (ak O (LW (λ_ h=>h.eM 269 5) ?_))))));refine WL.v0 ?_;refine aa (Cs (ag (ad O (I (Yn p2 O) (ad O (aa (Cb ?_)))))));refine dc (ι:=GX XN) (λg=>[(10,.int .i64 (g.i:Int)),(5,.slice g.a g.es.length g.c)]) [(0,_),(4,_),(8,_),(9,_)] (λg=>Ws w [] [bS 269 5 XN.cells g.a g.c g.es] [g.J,d,m]) (λg=>g.i<=l.length/\g.es.map (·.1)=(l.take g.i).map (lA b)/\gk (jo b) (l.take g.i)=0/\(fj w g.J/\Xs (px k) g.J g.es)) (λg=>l.length-g.i) ⟨0,[],none,0,v0⟩ ⟨cq _,O,O,⟨nh w,Xs.nil _⟩⟩ (λ_ h=>by have h:=Ws.av h (b3:=[v0,d,m]) aj; exact h) ?_;intro g ⟨hi,q,s,⟨v,x⟩⟩;refine ag (I (ai O O) (aa (Cs ?_)));refine Cc O (λt=>?_) (λt=>?_)
 ·have H:g.i<l.length:=by simpa using t
  obtain ⟨y,n⟩:=cg H;obtain ⟨aA,aB,K,z⟩:=p.bT g.i y n
  obtain ⟨j,rfl⟩:∃j,k=j+1:=by
    cases k with
    | zero=>exact z.elim
    | succ j=>exact ⟨j,rfl⟩
  obtain ⟨L,M,N,P⟩:=z;have aD:=z_ q hi;refine bk (Cs (Cb (ag (I (Yo p2 O O K ae) (I (dV 1 kb O O O (N)) ?_)))));refine Al Y O je λaE=>?_;refine aQ 0 Y O O O mh O O O (aa (Cr (ad O (ad O (I (cc 0 O O kb O) ?_)))));refine WL.rL (ι:=SP) (κ:=Unit) Y O aC O (λr=>.agg (oE (lA b y) r.1 r.2).toArray) (λQ r=>jo b y=0/\px (j+1) Q (lA b y,r)) (λ_=>hI (jo b y)) (λ_=>jo b y≠0) (λw f=>T1 m d o b j y L M w f.V f.V D (λd l a c w S T U W=>G j ae d l a c w S T U W) P (by have:=z1 n; omega)) ?_ ?_
  ·intro _ A;refine WE.cm (Ep (Ep (WE.cm (Ep ?_))));refine bU λw' f=>?_
   have X:hj b l=jo b y:=by rw [oj,uC (jo b) n s A]
   rw [X];exact .inr ⟨(),O,f.fr,A⟩
  intro aF u Z ⟨ab,ac⟩;refine WL.h6 λaf ah al am=>?_;refine Lb Y O KS O O O O λaG=>?_;refine cF 0 (.cells (XN.cells (lA b y,u)).toArray 269 (0,0)) O (O) ?_;refine LA (((lA b y,u):XN)) 2 0 Y O KS O O O O O O ae ae λan ao=>?_;refine ak O (Ln (Eb (Et (Cr (I (Yi O O O ae) (ad O (Ln ?_)))))));exact b8 (⟨g.i+1,g.es++[(lA b y,u)],an,ao,af⟩:GX XN) (by show _-(g.i+1)<_; omega) ⟨(by show g.i+1<=_; omega),z' q n O,by show gk (jo b) (l.take (g.i+1))=0; rw [n8 (jo b) n,s,k8,ab],⟨am _ Z v,Xs.snoc (R:=px _) (λhv h=>px.mv hv h) x al ah ac⟩⟩ (λ_ h=>Wd 2 h)
 have B:g.i=l.length:=by simp at t; omega
 refine Ce (Ex (Ex (cB (Et (Cs ?_)))));refine WC.nj (rd:=GY) 0 O (λ_ ap=>by cases ap) XN.ck cp λaH aq ar=>?_;refine Cr (ad O (ak O (aa (a7 ?_))));refine R1 O O λw' f=>?_
 have au:hj b l=0:=by rw [oj,<-s,B,ew]
 have C:=Aa q B;rw [<-h5] at C;rw [<-C];exact .inl ⟨(g.a,g.c),by rw [eo],f.fr,au,OF ar (cU f aj aq) (cU f aj v) x⟩
theorem T5 (b:View) (d:Nat) (e:ei) (f:q9 b d e) (k:Nat):Ej b d e k:=by
 intro g l a c w h i j m;exact T4 b g d e f k l a c w h i j m
theorem T6 (l o:View) (p:Nat) (b:ei) (ke k:Nat) (x:bq) (a:Option Addr) (c:Nat) (a2:Option Addr) (c2:Nat) (a3:Option Addr) (c3:Nat) (w:World) (P:Le l w) (Q:Le o w) (u:q9 l p b) (R:Ej l p b ke) (G:T2 l p b ke k) (v:Sl (a_ ke) 5 o a c x.args) (S:Sl (g_ ke k) 6 o a2 c2 x.body) (T:Sl (g_ ke k) 6 o a3 c3 x.other) (aD:wS x<=109951162777) :
   Calls prog 139 #[.pointer (some ⟨p,0,none⟩),.agg (sX x a c a2 c2 a3 c3).toArray] w λe w'=>(∃r:eU,e = .returned (.agg (qB (lB b x) r).toArray)/\Ext w w'/\iA b x=0/\nU (ke+1) (k+1) (nv w w') (lB b x,r))\/(∃_:Unit,e = .panicked (hI (iA b x))/\Ext w w'/\iA b x≠0):=by
 have aE:=GC x;have aG:=v.cap;have aH:=v.max;refine enter func139 O 88 O O ?_;refine CE (Vs:=[o,l]) (Ws.init (by simp [Q,P])) (ag ?_);refine WL.box Y O O λH=>?_;refine Al Y O xA λJ=>?_;refine aa (ag (I (Yf ny O) (I (Yd 1 O O O ab) (I (Yb xA T3 O O) ?_))));refine Al Y O xA λK=>?_;refine aQ 0 Y O O O Ab O O O (aa (ag ?_));refine Al Y O ij λaI=>?_;refine aa ?_;refine WC.yF (ι:=Unit) (λ_u=>[(0,.pointer (some ⟨p,0,none⟩)),(3,.pointer (some ⟨H,0,none⟩)),(4,.pointer (some ⟨J,0,none⟩)),(5,.pointer (some ⟨K,0,none⟩))]) (λ_u=>Ws w [] [ao K (.cells #[.int .i64 (de b x.op x.mod x.nm x.args.length).op,.int .i64 (de b x.op x.mod x.nm x.args.length).n,.int .i64 (de b x.op x.mod x.nm x.args.length).m,.int .i64 (de b x.op x.mod x.nm x.args.length).pl,.slice none 0 0,.slice none 0 0,.slice none 0 0] 205 (0,0)),ao J (.cells #[.int .i64 0,.int .i64 0,.int .i64 0,.int .i64 0,.slice none 0 0,.slice none 0 0,.slice none 0 0] 205 (0,0)),ao H (.cells (sX x a c a2 c2 a3 c3).toArray 242 (0,0))] [o,l]) (λ_u=>(de b x.op x.mod x.nm x.args.length).e=0) ?_ ?_
 ·refine ag (I (Yf ny O) (I (Yd 3 O O O ab) (aa (Cb (ag (I (bY O O) (ak O (aa ?_))))))));refine Cc O (λy=>?_) (λy=>?_)
  ·have q:x.op=1:=by simpa using y
   refine ag (ad O (I (Yf xe O) (I (Yd 3 O O O ab) (I (Yf xf O) (I (Yd 3 O O O ab) ?_)))));refine WL.lz Y O aC O _ _ _ _ (λw f=>El l p b w f.V u x.mod x.nm) ?_ ?_
   ·intro _ g;refine Ep (WE.cm (Ep ?_));refine bU λw' f=>?_
    have i:iA b x=5:=by rw [pz,En ae g]; rfl
    rw [i];exact .inr ⟨(),O,f.fr,aF⟩
   intro ⟨z,A⟩ L;have B:=TV (len:=x.args.length) L;have aJ:=p' L;refine ad O (I (Yx O O) (I (Yx O O) (I (Yf mm O) (aQ 1 Y O O O dZ O O O (aQ 0 Y O O O kA O O O (aa (ag (I (Yf mm O) ?_))))))));refine I (Yd 1 O O O ab) (I (ai O O) (ad O ?_));apply Lo 3 O O O O Y O O O O O
   ·intro aK;refine Vg (Yf ve O) (Vg (Yd 0 O O O ab) (Vg (bY O O) ?_));exact Gt 3 O O O
   refine WL.lz (ι:=Unit) (κ:=Unit) Y O aC O (λ_=>.tuple #[]) (λ_=>_=true) (λ_=>hI _) (λ_=>_=false) (λw f=>q_ _ _ w) ?_ ?_
   ·intro _ g;refine Ep (WE.cm (Ep ?_));refine bU λw' f=>?_
    have C:¬(z = -1\/A.kind=2):=by simp at g; omega
    rw [if_neg C] at B
    have i:iA b x=7:=by rw [pz,q,B]; rfl
    rw [i];exact .inr ⟨(),O,f.fr,aF⟩
   intro _ U
   have C:z = -1\/A.kind=2:=by
     simp at U;omega
   have j:(de b x.op x.mod x.nm x.args.length)=⟨x.op,0,z,A.pl,0⟩:=by rw [q]; rw [B,if_pos C]
   refine aa (Cr (I (Yf kz O) (I (Yd 0 O O O ab) (I (Yf mW O) (aQ 1 Y O O O dZ O O O (Ln (Eb ?_)))))));refine WE.mE 1 (.cells #[.int .i64 (de b x.op x.mod x.nm x.args.length).op,.int .i64 (de b x.op x.mod x.nm x.args.length).n,.int .i64 (de b x.op x.mod x.nm x.args.length).m,.int .i64 (de b x.op x.mod x.nm x.args.length).pl,.slice none 0 0,.slice none 0 0,.slice none 0 0] 205 (0,0)) O (by rw [j]; rfl) ?_
   exact jC () (by rw [j]) (λ_ h=>by
     have h:=h.bu 3 rfl;have h:=h.bu 3 rfl;have h:=h.bu 3 rfl;have h:=Wt 3 h
     exact h)
  have W:¬x.op=1:=by simpa using y
  refine ag (I (bY O O) (ak O (aa ?_)));refine Cc O (λD=>?_) (λD=>?_)
  ·have q:x.op=2:=by simpa using D
   refine ag (ad O (I (Yf xe O) (I (Yd 3 O O O ab) (I (Yf xf O) (I (Yd 3 O O O ab) ?_)))));refine WL.lz Y O aC O _ _ _ _ (λw f=>z8 l p b w f.V u x.mod x.nm 3 0) ?_ ?_
   ·intro _ g;refine Ep (WE.cm (Ep ?_));refine bU λw' f=>?_
    have i:iA b x=jg b x.mod x.nm 3 0:=by rw [pz,q,Qj g,py g]
    rw [i];exact .inr ⟨(),O,f.fr,g⟩
   intro ⟨X,M⟩ ⟨Z,ac⟩
   have j:(de b x.op x.mod x.nm x.args.length)=⟨x.op,M.n,X,M.pl,0⟩:=by rw [q]; exact TX Z ac
   refine ad O (I (Yx O O) (I (Yx O O) (I (Yf mm O) (aQ 1 Y O O O dZ O O O (aQ 0 Y O O O kA O O O (aa ?_))))));refine WC.lu 1 [(0,true),(1,true),(2,true),(3,true),(4,true),(5,false),(6,false),(7,false)] mixed ab (λ_ _ _ d _ h=>by cases d<;>exact h) ?_;refine D0 O (Wp 1) (Yf kz O) (D0 O (Wp 1) (Yd 0 O O O ab) (D0 O (Wp 1) (Yf mV O) (D0 O (Wp 1) (Yd 0 O O O ab) (D0 O (Wp 1) (Yf mW O) ?_))));refine De O (Wp 1) ?_;refine aQ 1 Y O O O dZ O O O (Ln (Ed ?_));refine De O (Wp 1) ?_;refine I (Yf ra O) (Ln (Ed ?_));refine De O (Wp 1) ?_;refine aQ 1 Y O O O dZ O O O (Ln (Ed ?_));refine WD.nil (Wp 1) ?_;refine Eb ?_;refine WE.mE 1 (.cells #[.int .i64 (de b x.op x.mod x.nm x.args.length).op,.int .i64 (de b x.op x.mod x.nm x.args.length).n,.int .i64 (de b x.op x.mod x.nm x.args.length).m,.int .i64 (de b x.op x.mod x.nm x.args.length).pl,.slice none 0 0,.slice none 0 0,.slice none 0 0] 205 (0,0)) O (by rw [j]; rfl) ?_
   exact jC () (by rw [j]) (λ_ h=>by
     have h:=h.bu 3 rfl;have h:=h.bu 3 rfl;have h:=h.bu 3 rfl;have h:=Wt 3 h
     exact h)
  have af:¬x.op=2:=by simpa using D
  refine ag (I (bY O O) (ak O (aa ?_)));refine Cc O (λE=>?_) (λE=>?_)
  ·have q:x.op=3:=by simpa using E
   refine ag (ad O (I (Yf xe O) (I (Yd 3 O O O ab) (I (Yf xf O) (I (Yd 3 O O O ab) (I (Yf c8 O) (I (Yd 3 O O O ab) ?_)))))));refine I (Yn p2 O) ?_;refine WL.lz Y O aC O _ _ _ _ (λw f=>z8 l p b w f.V u x.mod x.nm 4 (x.args.length:Int)) ?_ ?_
   ·intro _ g;refine Ep (WE.cm (Ep ?_));refine bU λw' f=>?_
    have i:iA b x=jg b x.mod x.nm 4 (x.args.length:Int):=by rw [pz,q,TY g,py g]
    rw [i];exact .inr ⟨(),O,f.fr,g⟩
   intro ⟨ah,al⟩ ⟨am,an⟩
   have j:(de b x.op x.mod x.nm x.args.length)=⟨x.op,0,ah,al.pl,0⟩:=by rw [q]; exact TZ am an
   refine ad O (I (Yx O O) (I (Yx O O) (I (Yf mm O) (aQ 1 Y O O O dZ O O O (aQ 0 Y O O O kA O O O (aa (Cr (I (Yf kz O) ?_))))))));refine I (Yd 0 O O O ab) (I (Yf mW O) (aQ 1 Y O O O dZ O O O (Ln (Eb ?_))));refine WE.mE 1 (.cells #[.int .i64 (de b x.op x.mod x.nm x.args.length).op,.int .i64 (de b x.op x.mod x.nm x.args.length).n,.int .i64 (de b x.op x.mod x.nm x.args.length).m,.int .i64 (de b x.op x.mod x.nm x.args.length).pl,.slice none 0 0,.slice none 0 0,.slice none 0 0] 205 (0,0)) O (by rw [j]; rfl) ?_
   exact jC () (by rw [j]) (λ_ h=>by
     have h:=h.bu 3 rfl;have h:=h.bu 3 rfl;have h:=h.bu 3 rfl;have h:=Wt 3 h
     exact h)
  have ap:¬x.op=3:=by simpa using E
  have j:(de b x.op x.mod x.nm x.args.length)=⟨x.op,0,0,0,0⟩:=TU W af ap;refine Ck (Eb ?_);refine WE.mE 1 (.cells #[.int .i64 (de b x.op x.mod x.nm x.args.length).op,.int .i64 (de b x.op x.mod x.nm x.args.length).n,.int .i64 (de b x.op x.mod x.nm x.args.length).m,.int .i64 (de b x.op x.mod x.nm x.args.length).pl,.slice none 0 0,.slice none 0 0,.slice none 0 0] 205 (0,0)) O (by rw [j]; rfl) ?_
  exact jC () (by rw [j]) (λ_ h=>by
    have h:=h.bu 3 rfl;have h:=h.bu 3 rfl;have h:=h.bu 3 rfl;have h:=Wt 3 h
    exact h)
 intro _ t;refine ag (ad O (I (Yf c8 O) (I (Yd 2 O O O ab) ?_)));refine WL.rL (ι:=SP) (κ:=Unit) Y O aC O (λr=>.slice r.1 (fZ b x.args).length r.2) (λs r=>hj b x.args=0/\Sl (jn (ke+1)) 5 s r.1 r.2 (fZ b x.args)) (λ_=>hI (hj b x.args)) (λ_=>hj b x.args≠0) (λw f=>R o x.args a c w f.V f.V v ae) ?_ ?_
 ·intro _ g;refine Ep ?_;refine bU λw' f=>?_
  have i:iA b x=hj b x.args:=by rw [pz,t,k8,py g]
  rw [i];exact .inr ⟨(),O,f.fr,g⟩
 intro aL aq ar ⟨F,au⟩;refine I (Yf nC O) (aQ 0 Y O O O KR O O O (aa (Cs ?_)));refine WC.lu 0 [(0,true),(1,true),(2,true),(4,true),(5,true),(6,true),(3,false),(8,true),(7,false),(9,false),(10,false),(11,false)] mixed ab (λ_ _ _ d _ h=>by cases d<;>exact h) ?_;refine D0 O (Wp 0) (Ym O) (D0 O (Wp 0) (Yf u9 O) (D0 O (Wp 0) (Yd 1 O O O ab) (D0 O (Wp 0) (Ym O) (D0 O (Wp 0) (Yf r' O) (D0 O (Wp 0) (Yd 1 O O O ab) ?_)))));refine De O (Wp 0) ?_;refine WL.rL (ι:=SP) (κ:=Unit) Y O aC O (λr=>.slice r.1 (eC b x.body).length r.2) (λs r=>e2 b x.body=0/\Sl (hS (ke+1) (k+1)) 7 s r.1 r.2 (eC b x.body)) (λ_=>hI (e2 b x.body)) (λ_=>e2 b x.body≠0) (λw f=>G o x.body a2 c2 w f.V f.V S ae) ?_ ?_
 ·intro _ g;refine Ep (Ep ?_);refine bU λw' f=>?_
  have i:iA b x=e2 b x.body:=by rw [pz,t,k8,F,k8,py g]
  rw [i];exact .inr ⟨(),O,f.fr,g⟩
 intro aM av aw ⟨N,ax⟩;refine Ln (Ed (D0 O (λ_ h=>(Wv 1 (Wo 0 h):)) (Yf fW O) ?_));refine De O (λ_ h=>(Wv 1 (Wo 0 h):)) ?_;refine WL.rL (ι:=SP) (κ:=Unit) Y O aC O (λr=>.slice r.1 (eC b x.other).length r.2) (λs r=>e2 b x.other=0/\Sl (hS (ke+1) (k+1)) 7 s r.1 r.2 (eC b x.other)) (λ_=>hI (e2 b x.other)) (λ_=>e2 b x.other≠0) (λw f=>G o x.other a3 c3 w f.V f.V T ae) ?_ ?_
 ·intro _ g;refine Ep (Ep ?_);refine bU λw' f=>?_
  have i:iA b x=e2 b x.other:=by rw [pz,t,k8,F,k8,N,k8]
  rw [i];exact .inr ⟨(),O,f.fr,g⟩
 intro aN ay az ⟨aA,aB⟩;refine Ln (Ed ?_);refine De O (λ_ h=>(Wv 2 (Wo 0 h):)) ?_;refine aQ 0 Y O O O Eo O O O (Ln (Ed ?_));refine De O (λ_ h=>(Wv 2 (Wo 0 h):)) ?_;refine I (Yf rb O) (Ln (Ed ?_));refine De O (λ_ h=>(Wv 2 (Wo 0 h):)) ?_;refine aQ 0 Y O O O Eo O O O (Ln (Ed ?_));refine WD.nil (λ_ h=>(Wv 2 (Wo 0 h):)) ?_;refine Et (ag (I (cc 0 O O vh O) (aQ 1 Y O O O Ab O O O (aa (a7 ?_)))));refine WE.eB (hy O (dX 1 O O vh O)) λw' f=>?_;rw [B_];exact .inl ⟨⟨aq,av,ay⟩,O,f.fr,by rw [pz,t,F,N,aA]; rfl,y3 au (cU f aj ar),eV ax (cU f aj aw),eV aB (cU f aj az)⟩
theorem KU (j d:View) (o:Nat) (b:ei) (ke:Nat) (v:q9 j o b) (k:Nat) (l:List bq) (a:Option Addr) (c:Nat) (w:World) (E:Le j w) (F:Le d w) (p:Sl (g_ ke k) 6 d a c l) (aD:ef l<=109951162777) :
   Calls prog 77 #[.pointer (some ⟨o,0,none⟩),.slice a l.length c] w λe w'=>(∃r:SP,e = .returned (.slice r.1 (eC b l).length r.2)/\Ext w w'/\e2 b l=0/\Sl (hS (ke+1) (k+1)) 7 (nv w w') r.1 r.2 (eC b l))\/(∃_:Unit,e = .panicked (hI (e2 b l))/\Ext w w'/\e2 b l≠0):=by
 induction k using Nat.strongRecOn generalizing d l a c w
 rename_i k G;have aE:=p.cap;have aF:=p.max;have aG:=BB l;refine enter func77 O 22 O O ?_;refine CE (Vs:=[d,j]) (Ws.init (by simp [F,E])) (ag (ak O (aa (ag (ak O (LW (λ_ h=>h.eM 205 7) ?_))))));refine WL.v0 ?_;refine aa (Cs (ag (ad O (I (Yn o1 O) (ad O (aa (Cb ?_)))))));refine dc (ι:=GX XA) (λg=>[(10,.int .i64 (g.i:Int)),(5,.slice g.a g.es.length g.c)]) [(0,_),(4,_),(8,_),(9,_)] (λg=>Ws w [] [bS 205 7 XA.cells g.a g.c g.es] [g.J,d,j]) (λg=>g.i<=l.length/\g.es.map (·.1)=(l.take g.i).map (lB b)/\gk (iA b) (l.take g.i)=0/\(fj w g.J/\Xs (nU (ke+1) k) g.J g.es)) (λg=>l.length-g.i) ⟨0,[],none,0,v0⟩ ⟨cq _,O,O,⟨nh w,Xs.nil _⟩⟩ (λ_ h=>by have h:=Ws.av h (b3:=[v0,d,j]) aj; exact h) ?_;intro g ⟨hi,q,s,⟨x,z⟩⟩;refine ag (I (ai O O) (aa (Cs ?_)));refine Cc O (λt=>?_) (λt=>?_)
 ·have H:g.i<l.length:=by simpa using t
  obtain ⟨y,n⟩:=cg H;obtain ⟨aH,aI,K,A⟩:=p.bT g.i y n
  obtain ⟨m,rfl⟩:∃m,k=m+1:=by
    cases k with
    | zero=>exact A.elim
    | succ m=>exact ⟨m,rfl⟩
  obtain ⟨L,M,N,P,Q,S,T,U,W,X⟩:=A;have aJ:=z_ q hi;refine bk (Cs (Cb (ag (I (Yo o1 O O K ae) (I (dV 1 jQ O O O (T)) ?_)))));refine Al Y O qY λaK=>?_;refine aQ 0 Y O O O o2 O O O (aa (Cr (ad O (ad O (I (cc 0 O O jQ O) ?_)))));refine WL.rL (ι:=eU) (κ:=Unit) Y O aC O (λr=>.agg (qB (lB b y) r).toArray) (λZ r=>iA b y=0/\nU (ke+1) (m+1) Z (lB b y,r)) (λ_=>hI (iA b y)) (λ_=>iA b y≠0) (λw f=>T6 j d o b ke m y L M N P Q S w f.V f.V v (T5 j o b v ke) (λd l a c w ab ac af ah=>G m ae d l a c w ab ac af ah) U W X (by have:=Af n; omega)) ?_ ?_
  ·intro _ B;refine WE.cm (Ep (Ep (WE.cm (Ep ?_))));refine bU λw' f=>?_
   have al:e2 b l=iA b y:=by rw [Cd,uC (iA b) n s B]
   rw [al];exact .inr ⟨(),O,f.fr,B⟩
  intro aL u am ⟨an,ao⟩;refine WL.h6 λap aq ar au=>?_;refine Lb Y O KT O O O O λaM=>?_;refine cF 0 (.cells (XA.cells (lB b y,u)).toArray 205 (0,0)) O (O) ?_;refine LA (((lB b y,u):XA)) 2 0 Y O KT O O O O O O ae ae λaw ax=>?_;refine ak O (Ln (Eb (Et (Cr (I (Yi O O O ae) (ad O (Ln ?_)))))));exact b8 (⟨g.i+1,g.es++[(lB b y,u)],aw,ax,ap⟩:GX XA) (by show _-(g.i+1)<_; omega) ⟨(by show g.i+1<=_; omega),z' q n O,by show gk (iA b) (l.take (g.i+1))=0; rw [n8 (iA b) n,s,k8,an],⟨au _ am x,Xs.snoc (R:=nU _ _) (λhv h=>nU.mv hv h) z ar aq ao⟩⟩ (λ_ h=>Wd 2 h)
 have C:g.i=l.length:=by simp at t; omega
 refine Ce (Ex (Ex (cB (Et (Cs ?_)))));refine WC.nj (rd:=GZ) 0 O (λ_ ay=>by cases ay) XA.ck cp λaN az aA=>?_;refine Cr (ad O (ak O (aa (a7 ?_))));refine R1 O O λw' f=>?_
 have aB:e2 b l=0:=by rw [Cd,<-s,C,ew]
 have D:=Aa q C;rw [<-pA] at D;rw [<-D];exact .inl ⟨(g.a,g.c),by rw [eo],f.fr,aB,OG aA (cU f aj az) (cU f aj x) z⟩
def KV (a:View) (b o:Nat) (e:SP×List Tx):Prop:=vc a b o=some (.slice e.1.1 e.2.length e.1.2)/\Sl rdStr 1 a e.1.1 e.1.2 e.2
def lQ (a:List ((Option Addr×Nat)×List Tx)):Nat:=(a.map (·.2.length)).sum
theorem G2 {a:List ((Option Addr×Nat)×List Tx)} {i:Nat} {x:(Option Addr×Nat)×List Tx} (h:a[i]? = some x):lQ (a.take (i+1))=lQ (a.take i)+x.2.length:=by
 simp [lQ,aZ,h]
theorem KX (a:List ((Option Addr×Nat)×List Tx)) (i:Nat):lQ (a.take i)<=lQ a:=by
 have e:lQ a=lQ (a.take i)+lQ (a.drop i):=by
   unfold lQ;rw [<-List.sum_append,<-nI,ot]
 omega
theorem KY (a:List ((Option Addr×Nat)×List Tx)):(a.flatMap (·.2)).length=lQ a:=by simp [lQ,List.length_flatMap]
theorem Ac:fk prog 238=some 1:=ab
theorem KZ:dI prog 139=some 1:=ab
theorem Ad:gx prog 40=some [(0,1),(1,1),(2,1),(3,1),(4,1)]:=ab
theorem nD:zeroOf prog 40=some (.agg #[st [],.slice none 0 0,.int .i64 0,.slice none 0 0,.slice none 0 0]):=ab
theorem T7:cx prog 139 0=some 0:=ab
theorem nE:dI prog 40=some 5:=ab
theorem K0 (f:View) (a:Option Addr) (c:Nat) (l:List Tx) (w:World) (j:Le f w) (g:Sl rdStr 1 f a c l) (p:l.length<=1048576) :
   Calls prog 75 #[.slice a l.length c] w λe w'=>∃r:SP,e = .returned (.slice r.1 l.length r.2)/\Ext w w'/\Sl rdStr 1 (nv w w') r.1 r.2 l:=by
 have q:=g.cap;have s:=g.max;refine enter func75 O 8 O O ?_;refine CE (Vs:=[f]) (Ws.init (by simp [j])) (ag (ak O (aa (Cs (ag (ad O (I (M8 dy O) (aa ?_))))))));refine Cc O (λi=>?_) (λi=>?_)
 ·have k:l=[]:=by
    cases l with
    | nil=>rfl
    | cons x r=>obtain ⟨b,o,h,_⟩:=g.bT 0 x rfl; rw [h] at i; cases i
  refine ag (ak O (aa (a7 (Er ?_))));refine R1 O O λw' d=>?_;subst k;exact ⟨(none,0),O,d.fr,Sl.nil⟩
 refine bk (ag ?_);refine WL.FO Y O dT O O O λt=>?_;refine WL.yV (size:=1) 0 O (dp 0) (cq _) O ?_;refine WL.yt 0 ([]:List Tx).length (([]:List Tx).flatMap c') O O O ?_;refine ad O ?_;refine WL.wj (ys:=l) (xs:=[]) 0 (λ_=>f) Y O dT O O O (λw d=>⟨d.vs f aj,g⟩) cp hO Kv (by simp; omega) (by simp; omega) λm n=>?_;refine ak O (aa (a7 ?_));refine R1 O O λw' d=>?_;exact ⟨(m,n),O,d.fr,d.iP 0 O hO cp⟩
theorem T8 (m:Nat) (w:World) (j:m<=1048576) :
   Calls prog 138 #[.slice none 0 0,.int .i64 (m:Int)] w λe w'=>∃r:SP,e = .returned (.slice r.1 ([]:List Tx).length r.2)/\Ws w [] [bS 9 1 c' r.1 r.2 ([]:List Tx)] [] w':=by
 refine enter func138 O 27 O O ?_;refine CE (Vs:=[]) (Ws.init aj) (ag (ak O (aa (Cs (ag (ad O (I (ai O O) (aa ?_))))))));refine Cc O (λb=>?_) (λb=>?_)
 ·exfalso
  simp at b;omega
 refine bk (Cs (ag (ad O (ad O (I (Ge dy O) (ad O (I (Yn dy O) (I (po 0 O O aj ae) (I (po (m:Int) O O aj ae) ?_)))))))));refine ak O (aa (ag (ad O (I (dO O O) (aa ?_)))));refine Cc O (λc=>?_) (λc=>?_)
 ·have f:0<m:=by simp at c; omega
  refine Cr (ad O (ad O (I (Ge dy O) (I (F6 0 dy O aj O O (cq _)) (ad O ?_)))));refine WL.NK m Y O dT hW O O f (by unfold maxLen; omega) ae λg d k l h i=>?_;refine WL.yV (m:=0) (cap:=d) (size:=1) 0 O (cq _) h (by rw [i,Nat.mul_one]) ?_;refine WL.yt 0 ([]:List Tx).length (([]:List Tx).flatMap c') O O aj ?_;refine ad O (I (Yn dy O) (I (F6 ([]:List Tx).length dy O aj O O (cq _)) (ak O (aa (ag (ad O (ak O (aa (a7 ?_)))))))));refine R1 O O λw' a=>?_;exact ⟨(some ⟨g,0,none⟩,d),O,a⟩
 refine bk (ag (ad O (ak O (aa (a7 ?_)))));refine R1 O O λw' a=>?_;exact ⟨(none,0),O,a.eM 9 1⟩
theorem T9 (f:View) (a:Option Addr) (c:Nat) (d:List (SP×List Tx)) (w:World) (y:Le f w) (k:Sl KV 1 f a c d) (z:lQ d<=1048576) (G:d.length<=1048576) :
   Calls prog 76 #[.slice a d.length c] w λe w'=>∃r:SP,e = .returned (.slice r.1 (d.flatMap (·.2)).length r.2)/\Ext w w'/\Sl rdStr 1 (nv w w') r.1 r.2 (d.flatMap (·.2)):=by
 have H:=k.cap;have J:=k.max;refine enter func76 O 36 O O ?_;refine CE (Vs:=[f]) (Ws.init (by simp [y])) (ag (ak O (aa (ag (ak O (aa (Cs (ag (ad O (I (Yn Ac O) ?_))))))))));refine ad O (aa (Cb ?_));refine bV (ι:=Nat) (λi=>[(11,.int .i64 (i:Int)),(3,.int .i64 (lQ (d.take i):Int))]) [(0,_),(2,_),(9,_),(10,_)] (λi=>i<=d.length) (λi=>d.length-i) 0 (cq _) ?_;intro i hi;refine ag (I (ai O O) (aa (Cs ?_)));refine Cc O (λm=>?_) (λm=>?_)
 ·have n:i<d.length:=by simpa using m
  obtain ⟨x,h⟩:=cg n;obtain ⟨pb,A,o,p,s⟩:=k.bT i x h;have t:=G2 h;have B:=KX d (i+1);refine bk (Cs (Cb (ag (I (Yo Ac O O o ae) (I (cu 0 ab O O (p)) (ak O (aa (ag (ad O (ad O (I (Yn dy O) ?_)))))))))));refine I (lq (a:=lQ (d.take i)) (b:=x.2.length) O O O O ae) (ak O (aa (ag (ad O (I (ai O O) (aa ?_))))));refine Cc O (λu=>?_) (λu=>?_)
  ·exfalso
   simp at u;omega
  refine Ck (Eb (Et (Cr (I (Yi O O O ae) (ad O (Ln ?_))))));rw [<-t];exact b8 (i+1) ae ae an
 have l:i=d.length:=by simp at m; omega
 subst l;rw [ew];refine Ce (Ex (Ex (cB (Et (ag (ad O ?_))))));refine Lw (ι:=SP) [] _ Y O aC O O (λr=>.slice r.1 ([]:List Tx).length r.2) (λr=>[bS 9 1 c' r.1 r.2 ([]:List Tx)]) (λ_=>True) [] aj (λw j=>(T8 (lQ d) w z).mono λe w' ⟨r,C,D⟩=>⟨r,C,trivial,D⟩) ?_;intro v _;refine ak O (aa (Cs (ag (ad O (I (Yn Ac O) (ad O (aa (Cb ?_))))))));refine dc (ι:=Nat×Option Addr×Nat) (λg=>[(27,.int .i64 (g.1:Int)),(6,.slice g.2.1 ((d.take g.1).flatMap (·.2)).length g.2.2)]) [(2,_),(25,_),(26,_)] (λg=>Ws w [] [bS 9 1 c' g.2.1 g.2.2 ((d.take g.1).flatMap (·.2))] [f]) (λg=>g.1<=d.length) (λg=>d.length-g.1) (0,v.1,v.2) (cq _) an ?_;intro g hi;refine ag (I (ai O O) (aa (Cs ?_)));refine Cc O (λq=>?_) (λq=>?_)
 ·have n:g.1<d.length:=by simpa using q
  obtain ⟨x,h⟩:=cg n;obtain ⟨pb,A,o,p,s⟩:=k.bT g.1 x h;have t:=G2 h;have B:=KX d (g.1+1);refine bk (Cs (Cb (ag (I (Yo Ac O O o ae) (I (cu 0 ab O O (p)) (ak O (aa (Cr (ad O (ad O ?_))))))))));refine WL.wj (xs:=(d.take g.1).flatMap (·.2)) (ys:=x.2) 0 (λ_=>f) Y O dT O O O (λw j=>⟨j.vs f aj,s⟩) cp hO Kv (by rw [KY]; omega) (by rw [KY]; omega) λE F=>?_;rw [show ((d.take g.1).flatMap (·.2))++x.2=(d.take (g.1+1)).flatMap (·.2) by rw [aZ,h]; simp];refine ak O (Ln (Eb (Et (Cr (I (Yi O O O ae) (ad O (Ln ?_)))))));exact b8 ((g.1+1,E,F):Nat×Option Addr×Nat) (by first | omega | (dsimp only; omega)) (by first | omega | (dsimp only; omega)) an
 have l:g.1=d.length:=by simp at q; omega
 refine Ce (Ex (Ex (cB (Et (ag (ad O (ak O (aa (a7 ?_)))))))));refine R1 O O λw' j=>?_;rw [l,ew] at j;rw [l,ew];exact ⟨(g.2.1,g.2.2),O,j.fr,j.iP 0 O hO cp⟩
theorem T' (a b:Nat) (c:List Value) (h:c.length=5) (d i:Int) (w:World) (f:Ws w (List.flatMap aW.ids [ao a (.cells c.toArray 40 (0,0)),ao b (.cells #[.int .i64 d] 23 (0,0))]) [ao a (.cells c.toArray 40 (0,0)),ao b (.cells #[.int .i64 d] 23 (0,0))] [] w) :
   CallsD prog 72 #[.pointer (some ⟨a,0,none⟩),.pointer (some ⟨b,0,none⟩)] (.returning) w λe g w'=>g = .returning/\(e = .returned (.tuple #[])/\Ws w (List.flatMap aW.ids [ao a (.cells c.toArray 40 (0,0)),ao b (.cells #[.int .i64 d] 23 (0,0))]) [ao a (.cells c.toArray 40 (0,0)),ao b (.cells #[.int .i64 d] 23 (0,0))] [] w'):=by
 refine rH func72 O 18 O O O O O (λ_=>rfl) (.inl ⟨O,O,O⟩) ?_;refine LW (W':=Ws w (List.flatMap aW.ids [ao a (.cells c.toArray 40 (0,0)),ao b (.cells #[.int .i64 d] 23 (0,0))]) [ao a (.cells c.toArray 40 (0,0)),ao b (.cells #[.int .i64 d] 23 (0,0))] []) (λ_ e=>by subst e; exact f) (ak O (aa (ag (ad O (I (Oe underlying139 z6 O) (ad O (I (Yx O O) (I (Yx O O) ?_))))))));refine Al Y O z6 λj=>?_;refine aQ 0 Y O O O KZ O O O (ak O (aa (ag (ad O (aa ?_)))));refine WC.kg O ?_;refine ag (ad O (I (yA tx O) (aa ?_)));refine WC.kg O ?_;refine Ck ?_;refine E0 O λw' f=>?_;exact ⟨O,Wd 1 f⟩
theorem Ae (a b:Nat) (c:List Value) (j:c.length=5) (f g:Int) (w:World) (i:Ws w (List.flatMap aW.ids [ao a (.cells c.toArray 40 (0,0)),ao b (.cells #[.int .i64 f] 23 (0,0))]) [ao a (.cells c.toArray 40 (0,0)),ao b (.cells #[.int .i64 f] 23 (0,0))] [] w) :
   CallsD prog 72 #[.pointer (some ⟨a,0,none⟩),.pointer (some ⟨b,0,none⟩)] (.panicking (hI g)) w λe k w'=>k = .panicking [⟨.iface 139 (.agg #[.int .i64 g]),true,false⟩]/\(e = .returned (.tuple #[])/\Ws w (List.flatMap aW.ids [ao a (.cells c.toArray 40 (0,0)),ao b (.cells #[.int .i64 f] 23 (0,0))]) [ao a (.cells (fH jm k7).toArray 40 (0,0)),ao b (.cells #[.int .i64 g] 23 (0,0))] [] w'):=by
 refine rH func72 O 18 O O O O O (λ_=>rfl) (.inr ⟨_,O,O,O⟩) ?_;refine LW (W':=Ws w (List.flatMap aW.ids [ao a (.cells c.toArray 40 (0,0)),ao b (.cells #[.int .i64 f] 23 (0,0))]) [ao a (.cells c.toArray 40 (0,0)),ao b (.cells #[.int .i64 f] 23 (0,0))] []) (λ_ e=>by subst e; exact i) (ak O (aa (ag (ad O (I (Od underlying139 O) (ad O (I (Yx O O) (I (Yx O O) ?_))))))));refine Al Y O z6 λl=>?_;refine aQ 0 Y O O O KZ O O O (ak O (aa (ag (ad O (aa ?_)))));refine WC.ye O ?_;refine WC.uh (λ_=>true) [1,1] [(0,true),(1,true),(2,true),(3,false),(4,false)] mixed ab ab (λ_ _ _ d _ _ h=>by cases d<;>exact h) ?_;refine D0 O (cH [1,1]) (Yb nD Ad O O) (D0 O (cH [1,1]) (Yf T7 O) (D0 O (cH [1,1]) (Yd 0 O O O ab) ?_));refine De O (cH [1,1]) ?_;refine WL.FL 1 (.cells (fH jm k7).toArray 40 (0,0)) Y O O O nE O O (by simp [qu,j]) (by simp [qt,e_,fH,jm,k7,j,yc]) ?_;refine Ln (Ed ?_);refine De O (cH [1,1]) ?_;refine aQ 2 Y O O O eH O O O (Ln (Ed ?_));refine WD.nil (cH [1,1]) ?_;refine E0 O λw' i=>?_;exact ⟨O,Wd 1 i⟩
def p_ (f:List UInt8×List bx) (r:SP):List Value:=[st f.1,.slice r.1 f.2.length r.2]
def re (a:View) (b o:Nat) (f:List UInt8×List bx):Prop:=∃r:SP,bR a b o (p_ f r)/\Sl hQ 4 a r.1 r.2 f.2
abbrev XM:=List bx×Nat
def XM.cells (e:XM):List Value:=[.map (some e.2)]
theorem XM.ck (e:XM):(XM.cells e).length=1:=rfl
def T_ (a:View) (b o:Nat) (e:XM):Prop:=bR a b o (XM.cells e)
def vi (J:View) (e:XM):Prop:=J e.2=some (ar st (h8 e.1 0) e.1.length)
theorem vi.mv {A B:View} {e:XM} (hv:bF A B) (h:vi A e):vi B e:=hv _ _ h
def sf (u:List UInt8) (f:List UInt8×List bx):Bool:=(bp f.1 f.2==0)&&(f.1==u)
theorem s0:∀{us:List (List UInt8)} {fs:List (List UInt8×List bx)},mH us fs=true↔∀(k:Nat) u f,us[k]? = some u->fs[k]? = some f->sf u f=true
 | [],fs=>by simp [mH]
 | u::us,[]=>by simp [mH]
 | u::us,f::fs=>by
   have e:=s0 (us:=us) (fs:=fs);simp only [mH,cO]
   constructor
   · rintro ⟨g,i⟩ k c d a b
     cases k with
     | zero=>simp at a b; subst a; subst b; simp only [sf,cO]; exact g
     | succ k=>exact e.1 i k c d (by simpa using a) (by simpa using b)
   · intro h
     refine ⟨by have:=h 0 u f O O; simp only [sf,cO] at this; exact this,e.2 λk c d a b=>h (k+1) c d (by simpa using a) (by simpa using b)⟩
theorem Ua {n:List UInt8} {l:List bx} (h:bp n l=0):(l.map (·.name)).Nodup/\l.length<=16:=by
 unfold bp at h
 split at h
 · cases h
 · split at h
   · rename_i b a
     simp only [cO,sG,hM] at a;exact ⟨jl.2 a.2.1,ae⟩
   · cases h
theorem Ub {m:aX} {fs:List (List UInt8×List bx)} (h:¬(cn m).2=0):cL m fs=(jm,(cn m).2):=by rw [cL,if_pos h]
theorem Uc {m:aX} {fs:List (List UInt8×List bx)} (h:(cn m).2=0) (a:¬fs.length=m.aq.length):cL m fs=(jm,8):=by rw [cL,if_neg (by simp [h]),if_pos a]
theorem Ud {m:aX} {fs:List (List UInt8×List bx)} (h:(cn m).2=0) (a:fs.length=m.aq.length) (b:mH m.aq fs=false):cL m fs=(jm,1):=by rw [cL,if_neg (by simp [h]),if_neg (by simp [a]),if_pos b]
theorem s' {m:aX} {fs:List (List UInt8×List bx)} (h:(cn m).2=0) (a:fs.length=m.aq.length) (b:mH m.aq fs=true) (c:k9 m fs≠0):cL m fs=(jm,k9 m fs):=by rw [cL,if_neg (by simp [h]),if_neg (by simp [a]),if_neg (by simp [b]),if_pos c]
theorem QV {m:aX} {fs:List (List UInt8×List bx)} (h:(cn m).2=0) (a:fs.length=m.aq.length) (b:mH m.aq fs=true) (c:k9 m fs=0):cL m fs=(dE m fs,0):=by rw [cL,if_neg (by simp [h]),if_neg (by simp [a]),if_neg (by simp [b]),if_neg (by simp [c])]
theorem Uf {m:aX} (h:(cn m).2=0):gz m=0/\e6 ((eQ m).map (·.name))=false/\e6 m.aq=false:=by
 by_cases a:gz m=0
 · by_cases b:(e6 ((eQ m).map (·.name))||e6 m.aq)=true
   · rw [KF a b] at h; cases h
   · rw [vV,hM] at b
     exact ⟨a,b⟩
 · rw [GR a] at h; exact absurd h a
theorem K1 {l:List (List UInt8)} {k:Nat} {x:List UInt8} (a:l[k]? = some x) (c:x ∉ l.take k):ar st (eJ x (.int .i64 ((k+1:Nat):Int)) (hk (l.take k) 0) k) (hz x (hk (l.take k) 0) k)=ar st (hk (l.take (k+1)) 0) (k+1):=by
 have d:=(cf.1 a).1
 have b:(l.take k).length=k:=by simp; omega
 have h:=G7 c;rw [b] at h;rw [h.1,h.2,hg a];simp [b]
theorem Ug {l:List (List UInt8)} (h:l.Nodup) {k:Nat} {x:List UInt8} (b:l[k]? = some x):x ∉ l.take k:=by
 intro c;obtain ⟨j,a⟩:=jA c
 have d:j<k:=by have:=(cf.1 a).1; simp at this; omega
 rw [jy,if_pos d] at a;have e:=(cf.1 a).1;have:=(ru e h).1 (a.trans b.symm);omega
theorem Uh {nm:List UInt8} {l:List (List UInt8)} (h:(lN nm l==0)=true):nm ∉ l:=by
 have:¬0<lN nm l:=by simp at h; omega
 exact rQ.1 (Eh this)
theorem Ui {l:List (List UInt8)} {k:Nat} {x:List UInt8} (b:l[k]? = some x) (h:(lN x (l.take k)==0)=false):e6 l=true:=by
 have a:¬lN x (l.take k)=0:=by simpa using h
 have e:0<lN x (l.take k):=by
   unfold lN at a ⊢
   cases hi:idxOf x (l.take k) 0 with
   | none=>rw [hi] at a; exact absurd rfl a
   | some j=>simp only; omega
 obtain ⟨j,f,_,g⟩:=Eg e;have c:=(s6 f).2
 have d:j<k:=by simp at g; omega
 rw [qj,jy,if_pos d] at c;exact B3.2 ⟨k,j,(cf.1 b).1,d,by rw [b,c]⟩
theorem Uj {l:List (List UInt8)} {k:Nat} {x:List UInt8} (d:l[k]? = some x) (f:x ∉ l.take k) (h:(l.take k).Nodup):(l.take (k+1)).Nodup:=by
 rw [hg d,jx];exact ⟨h,aj,λa g b c=>by rw [az] at c; subst c; intro e; subst e; exact f g⟩
theorem K2 {m:aX} {fs:List (List UInt8×List bx)} {p:ed} (h:e6 (p.params++p.aB)=true):nV m fs p=6:=by rw [nV,if_pos h]; rfl
theorem td {m:aX} {fs:List (List UInt8×List bx)} {p:ed} (h:e6 (p.params++p.aB)=false):nV m fs p=e2 (bZ m fs (p.params++p.aB)) p.body:=by rw [nV,if_neg (by simp [h])]; rfl
structure GP where
 i:Nat
 es:List XP
 a:Option Addr
 c:Nat
 J:View
 lb:Value
def jj (m:aX) (c:SP) (n:Nat) (p:SP):List Value:=[st m.nm,.slice c.1 m.aq.length c.2,.int .i64 (k5 m),.slice p.1 n p.2,.slice none 0 0]
theorem ik:gP prog 40=some 5:=ab
theorem ue:fk prog 62=some 2:=ab
theorem Uk:gx prog 147=some [(0,1),(1,1),(2,1),(3,1)]:=ab
theorem Ul:zeroOf prog 147=some (.agg #[.map none,.map none,.slice none 0 0,.map none]):=ab
theorem K4:gg prog 145 143 (.map none) 1 8:=iN ab
theorem Um:dI prog 145=some 1:=ab
theorem K5:dI prog 123=some 1:=ab
theorem Un:gg prog 238 22 (.slice none 0 0) 1 24:=iN ab
theorem mo:cx prog 40 3=some 3:=ab
theorem K6:gx prog 89=some [(0,1),(1,1),(2,1)]:=ab
theorem xB:zeroOf prog 89=some (.agg #[.int .i64 0,.int .i64 0,.slice none 0 0]):=ab
theorem K7:gg prog 37 89 (.agg #[.int .i64 0,.int .i64 0,.slice none 0 0]) 3 40:=iN ab
theorem Uo:dI prog 37=some 1:=ab
theorem xC:cx prog 40 4=some 4:=ab
theorem tC (n y:View) (ke ks:Nat) (r:iQ) (m:aX) (fa:Option Addr) (fc:Nat) (fs:List (List UInt8×List bx)) (w:World) (bt:Le n w) (bv:Le y w) (z:jk ke ks n r m) (au:Sl re 2 y fa fc fs) (bw:wM m<=109951162777) :
   Calls prog 25 #[.agg (a6 m r).toArray,.slice fa fs.length fc] w λe w'=>∃r:jG,e = .returned (.tuple #[.agg (fH (cL m fs).1 r).toArray,.int .i64 (cL m fs).2])/\Ext w w'/\iV (ke+1) (ks+1) (nv w w') r (cL m fs).1:=by
 have cN:=au.cap;have cP:=au.max;refine yx func25 O 159 O O ?_;refine CE (Vs:=[y,n]) (Ws.init (by simp [bv,bt])) (ag ?_);refine WL.box Y O O λaw=>?_;refine Al Y O nD λt=>?_;refine cF 0 (.cells (fH jm k7).toArray 40 (0,0)) O O ?_;refine Al Y O Kt λv=>?_;refine cF 0 (.cells #[.int .i64 0] 23 (0,0)) O O (aa (Cs (ag (I (cc 2 O O iG O) ?_))));refine Ld Y O aC O (λr:SP=>.tuple #[.agg #[st (cn m).1.1,.slice r.1 (cn m).1.2.length r.2],.int .i64 (cn m).2]) (λn r=>Sl hQ 4 n r.1 r.2 (cn m).1.2) (λw d=>Ec n ke ks r m w (d.vs _ (by simp)) z bw) ?_;intro cQ cR cS cT;refine ad O (I (Yx O O) (I (Yx O O) ?_));refine Al Y O jR λcV=>?_;refine aQ 0 Y O O O kV O O O (ak O (aa (ag (ad O (I (fz O O) (aa ?_))))));refine Cc O (λay=>?_) (λay=>?_)
 ·have B:¬(cn m).2=0:=by simpa using ay
  refine ag (I (Yb nD Ad O O) (ad O (aQ 2 Y O O O nE O O O (aQ 1 Y O O O eH O O O (aa (a7 (Er ?_)))))));refine WE.Bs (fu O (dX 2 O O ik O) (l2 1 O O O ab)) λw' d=>?_;rw [Ub B];exact ⟨k7,O,d.fr,uz _⟩
 have B:(cn m).2=0:=by simpa using ay
 obtain ⟨bz,az,P⟩:=Uf B;have Q:=so bz;have az:=jl.2 az;have P:=jl.2 P;have aH:=Q.aH;have cW:=z.aq.max;have cX:=z.aq.cap;have cY:=z.procs.max;have cZ:=z.procs.cap;have c0:wM m=1+m.nm.length+wN m.aq+wD m.decls+wP m.procs+ef m.main:=rfl;refine bk (Cs (ag (ad O (I (Yn ue O) (I (Yf nz O) (I (Yd 3 O O O ab) (I (Yn dy O) (I (fz O O) (aa ?_)))))))));refine Cc O (λaA=>?_) (λaA=>?_)
 ·have bA:¬fs.length=m.aq.length:=by simp at aA; omega
  refine ag (I (Yb nD Ad O O) (aQ 2 Y O O O nE O O O (aQ 1 Y O O O eH O O O (aa (a7 (Er ?_))))));refine WE.Bs (fu O (dX 2 O O ik O) (l2 1 O O O ab)) λw' d=>?_;rw [Uc B bA];exact ⟨k7,O,d.fr,uz _⟩
 have C:fs.length=m.aq.length:=by simp at aA; omega
 refine bk (ag (I (pn O) ?_));refine WL.defer Y O ?_;refine aa (ag (I (cc 3 O O iG O) ?_));refine Ld Y O aC O (λr:SP=>.tuple #[.slice r.1 (eQ m).length r.2,.int .i64 (k5 m)]) (λn r=>Sl hQ 4 n r.1 r.2 (eQ m)) (λw d=>KD n ke ks r m w (d.vs _ (by simp)) z Q) ?_;intro bB a_ c2 bC;refine ad O (I (Yx O O) (I (Yx O O) (ak O (ak O (aa (ag (ad O ?_)))))));refine Ld Y O aC O (λb:Nat=>.map (some b)) (λn b=>n b=some (ar st (h8 (eQ m) 0) (eQ m).length)) (λw d=>KI bB a_.1 a_.2 (eQ m) w (d.vs _ (by simp)) bC az) ?_;intro L S c3 ba;refine WL.nc st Y O λG=>?_;refine cF 0 (ar st (hk (m.aq.take 0) 0) 0) O O (I (Yb Ul Uk O O) ?_);refine WL.box Y O O λD=>?_;refine LW (λ_ h=>h.eM 143 1) ?_;refine WL.v0 ?_;refine ak O (aa (Cs (ag (ad O (I (Yn ue O) (ad O (aa (Cb ?_))))))));refine dc (ι:=GX XM) (λg=>[(46,.int .i64 (g.i:Int))]) [(2,_),(4,_),(5,_),(9,_),(10,_),(44,_),(45,_)] (λg=>Ws w [] [ao D (.cells #[.map (some S),.map (some G),.slice g.a g.es.length g.c,.map none] 147 (0,0)),ao G (ar st (hk (m.aq.take g.i) 0) g.i),bS 143 1 XM.cells g.a g.c g.es,ao v (.cells #[.int .i64 0] 23 (0,0)),ao t (.cells (fH jm k7).toArray 40 (0,0)),ao aw (.cells (a6 m r).toArray 50 (0,0))] [g.J,L,y,n]) (λg=>g.i<=fs.length/\g.es.map (·.1)=(fs.take g.i).map (·.2)/\(∀(k:Nat) u f,k<g.i->m.aq[k]? = some u->fs[k]? = some f->sf u f=true)/\(fj w g.J/\Xs vi g.J g.es)) (λg=>fs.length-g.i) ⟨0,[],none,0,v0⟩ ⟨cq _,O,λk u f T=>absurd T (Bb k),⟨nh w,Xs.nil _⟩⟩ (λ_ h=>by have h:=h.bu 6 O; have h:=h.bu 6 O; have h:=h.bu 6 O; have h:=h.bu 3 O; have h:=h.bu 5 O; have h:=h.bu 5 O; have h:=Wt 6 h; have h:=Ws.av h (b3:=[v0,L,y,n]) (by simp); exact h) ?_;intro g ⟨hi,aD,bb,⟨bD,aE⟩⟩;refine ag (I (ai O O) (aa (Cs ?_)));refine Cc O (λaF=>?_) (λaF=>?_)
 ·have U:g.i<fs.length:=by simpa using aF
  obtain ⟨f,ac⟩:∃f,fs[g.i]? = some f:=⟨_,dL U⟩;obtain ⟨c5,c6,bE,ae,bG,bc⟩:=au.bT g.i f ac;obtain ⟨u,V⟩:∃u,m.aq[g.i]? = some u:=⟨_,dL (by omega)⟩;obtain ⟨bH,bI,bJ,aG⟩:=z.aq.bT g.i u V;have aG:bR n bH (bI+g.i*1) (c' u):=aG;have c7:=z_ aD hi;refine bk (Cs (Cb (ag (ad O (I (Yo ue O O bE (by omega)) (I (dV 2 jS O O O (bG)) ?_))))));refine Al Y O jR λc8=>?_;refine ak O (aQ 0 Y O O O kV O O O (aa (Cs ?_)));refine WC.uh (nQ [.cell 4 40,.cell 5 23]) [] [(0,true),(1,false),(2,true),(3,true),(4,true),(5,true),(6,true),(7,true),(8,true),(9,true),(10,true),(11,true),(12,true),(13,false)] mixed (by kernel_rfl) (by kernel_rfl) (λ_ _ _ _ _ E h=>rI (fn:=f25) [.cell 4 40,.cell 5 23] O E h) ?_;refine D0 O (λ_ h=>h) (cc 0 O O jS O) ?_;refine De O (λ_ h=>h) ?_;refine Lp Y O aC O (λw d=>D_ y ae.1 ae.2 f.1 f.2 w (d.vs _ (by simp)) bc) (Ln (Ed (D0 O (λ_ h=>h) (bY O O) (D0 O (λ_ h=>h) (Ym O) ?_))));apply WD.and 8 O O O O O Y O (λ_ h=>h) O O O O
  ·intro c9;refine Dq O (.g O O O) O (λ_ h=>h) (Yf zY O) (Dq O (.g O O O) O (λ_ h=>h) (Yd 0 O O O ab) (Dq O (.g O O O) O (λ_ h=>h) (Yf nz O) (Dq O (.g O O O) O (λ_ h=>h) (Yd 6 O O O ab) (Dq O (.g O O O) O (λ_ h=>h) (Ym O) (Dq O (.g O O O) O (λ_ h=>h) (Yo dy O O bJ (by omega)) (Dq O (.g O O O) O (λ_ h=>h) (cu 3 ab O O (aG 0 _ O)) (Dq O (.g O O O) O (λ_ h=>h) (qq O O) ?_)))))));exact Gi 8 (λ_ h=>h) O O O
  refine De O (λ_ h=>h) ?_;refine WL.lz (ι:=Unit) (κ:=Unit) Y O aC O (λ_=>.tuple #[]) (λ_=>sf u f=true) (λ_=>hI 1) (λ_=>sf u f=false) (λw d=>q_ _ _ w) ?_ ?_
  ·intro _ F;refine Ep (Ep (WE.cm (Ep (Ep (WE.cm (Ep ?_))))));refine WE.front 4 O ?_;refine WE.front 5 O ?_;refine WE.rG aC (nR [_,_] _ [ao t (.cells (fH jm k7).toArray 40 (0,0)),ao v (.cells #[.int .i64 1] 23 (0,0))] O (λw d=>Ae t v (fH jm k7) O 0 1 w d)) (fu O (dX 0 O O ik O) (l2 1 O O O ab)) λw' d=>?_
   have bK:mH m.aq fs=false:=by
     rw [qn];intro h;have:=s0.1 h g.i u f V ac;rw [F] at this; cases this
   rw [Ud B C bK];exact ⟨k7,O,d.fr,uz _⟩
  intro _ bL;refine Ln (Ed ?_);refine WD.nil (λ_ h=>h) ?_;refine Et (Cs ?_);have bd:sf u f=true:=bL;have be:=bd;simp only [sf,cO,beq_iff_eq] at be;obtain ⟨bM,aI⟩:=be;obtain ⟨bN,c_⟩:=Ua bM
  have af:f.1 ∉ m.aq.take g.i:=by rw [aI]; exact Ug P V
  refine WC.uh (nQ [.cell 4 40,.cell 5 23]) [2] [(0,true),(1,true),(2,true),(3,true),(4,true),(5,true),(6,true),(7,true),(8,false)] mixed (by kernel_rfl) (by kernel_rfl) (λ_ _ _ _ _ E h=>rI (fn:=f25) [.cell 4 40,.cell 5 23] O E h) ?_;refine D0 O (Wp 2) (Ym O) (D0 O (Wp 2) (cJ O) (D0 O (Wp 2) (Yf KQ O) (D0 O (Wp 2) (Yd 1 O O O ab) (D0 O (Wp 2) (Yf zY O) (D0 O (Wp 2) (Yd 0 O O O ab) (D0 O (Wp 2) (Ym O) (D0 O (Wp 2) (Yi O O O (by omega)) ?_)))))));refine De O (Wp 2) ?_;refine WL.oz 2 h4 Y ih ab O O O O ?_;refine cF 2 (ar st (hk (m.aq.take (g.i+1)) 0) (g.i+1)) O (by rw [aI]; exact K1 V (aI▸af)) (Ln (Ed ?_));refine WD.nil (Wp 2) ?_;refine Et ?_;refine CU (nQ [.cell 4 40,.cell 5 23]) [3] [10,11,12] (.q false 0 (.q false 1 (.q false 2 (.q false 3 (.q true 4 (.q false 5 (.q true 6 (.e 7 (.e 8 (.e 9 .nil .stop) .stop) .stop)))))))) mixed (by kernel_rfl) (λ_ _ _ _ _ E h=>rI (fn:=f25) [.cell 4 40,.cell 5 23] O E h) ?_;refine U0 O (Wp 3) (Ym O) (U0 O (Wp 3) (Ym O) (U0 O (Wp 3) (cJ O) (U0 O (Wp 3) (Yf Ek O) (U0 O (Wp 3) (Yd 1 O O O ab) (U0 O (Wp 3) (Yf q8 O) (U0 O (Wp 3) (Yd 0 O O O ab) ?_))))));refine Ue O (Wp 3) ?_ WU.stop;refine Ld Y O aC O (λb:Nat=>.map (some b)) (λn b=>n b=some (ar st (h8 f.2 0) f.2.length)) (λw d=>KI y ae.1 ae.2 f.2 w (d.vs _ (by simp)) bc bN) ?_;intro da aJ bO bP;refine Ln (Eu ?_);refine Ue O (λ_ h=>(Wv 1 (Wo 3 h):)) ?_ WU.stop;refine Lb Y O K4 O O O O λdb=>?_;refine cF 0 (.cells (XM.cells (f.2,aJ)).toArray 143 (0,0)) O (O) (Ln (Eu ?_));refine Ue O (λ_ h=>(Wv 1 (Wo 3 (Wd 1 h)):)) ?_ WU.stop;refine LA ((f.2,aJ):XM) 4 0 Y O K4 O O O O O O (by omega) (by omega) λbQ bU=>?_;refine Ln (Eu ?_);refine WU.nil (λ_ h=>(Wv 1 (Wo 3 (Wd 1 h)):)) ?_;refine WS.e O ?_;refine I (cJ O) (Ln (Es ?_));refine WS.e O ?_;refine I (Yf Ek O) (Ln (Es ?_));refine WS.e O ?_;refine aQ 2 Y O O O Um O O O (Ln (Es ?_));refine WS.nil ?_;refine Eb (Et ?_);refine WC.h6 λbV bW bX b1=>?_;refine Cr (I (Yi O O O (by omega)) (ad O (Ln ?_)))
  exact b8 (⟨g.i+1,g.es++[(f.2,aJ)],bQ,bU,bV⟩:GX XM) (by show _-(g.i+1)<_; omega) ⟨(by show g.i+1<=_; omega),z' aD ac O,λk b2 b4 T W X=>by
      rcases mZ.1 T with h | rfl
      · exact bb k b2 b4 h W X
      · rw [V] at W; rw [ac] at X; injection W with W; injection X with X; subst W; subst X; exact bd,⟨b1 _ bO bD,Xs.snoc (R:=vi) (λhv h=>vi.mv hv h) aE bX bW bP⟩⟩ (λ_ h=>Wd 2 h)
 have aK:g.i=fs.length:=by simp at aF; omega
 have ah:mH m.aq fs=true:=s0.2 λk u f b5 bf=>bb k u f (by have:=(cf.1 bf).1; omega) b5 bf;have aj:=Aa aD aK
 have b6:m.aq.take g.i=m.aq:=by rw [aK,C,ew]
 have b7:g.i=m.aq.length:=by rw [aK,C]
 rw [b6,b7];refine Ce (Ex (Ex (cB (Et (Cs ?_)))));refine WC.l9 (rd:=T_) 2 O XM.ck (λ_ _ _ _ h=>h) λZ bg=>?_;refine WC.uh (nQ [.cell 4 40,.cell 5 23]) [3] [(0,true),(1,true),(2,true),(3,true),(5,true),(4,false),(6,true),(7,false)] mixed (by kernel_rfl) (by kernel_rfl) (λ_ _ _ _ _ E h=>rI (fn:=f25) [.cell 4 40,.cell 5 23] O E h) ?_;refine D0 O (Wp 3) (Yf qZ O) (D0 O (Wp 3) (Yd 3 O O O ab) (D0 O (Wp 3) (Yf nz O) (D0 O (Wp 3) (Yd 3 O O O ab) (D0 O (Wp 3) (Ym O) ?_))));refine De O (Wp 3) ?_;refine Ld Y O aC O (λr:SP=>.slice r.1 m.aq.length r.2) (λM r=>Sl rdStr 1 M r.1 r.2 m.aq) (λw d=>K0 n r.a1 r.c1 m.aq w (d.vs _ (by simp)) z.aq (by omega)) ?_;intro aL A b9 b';refine Ln (Ed (D0 O (λ_ h=>(Wv 1 (Wo 3 h):)) (Yb nD Ad O O) ?_));refine De O (λ_ h=>(Wv 1 (Wo 3 h):)) ?_;refine aQ 3 Y O O O nE O O O (Ln (Ed ?_));refine WD.nil (λ_ h=>(Wv 1 (Wo 3 h):)) ?_;refine Et (Cs (Cs (fm 3 (.cells (jj m A ([]:List XP).length (none,0)).toArray 40 (0,0)) O O ?_)));refine dJ (λ_ h=>h.eM 89 3) ?_;refine dJ (λ_ h=>h.v0) ?_;refine Cr (I (Yf tt O) (I (Yd 5 O O O ab) (I (Yn q0 O) (ad O (aa (Cb ?_))))));refine dc (ι:=GP) (λl=>[(96,.int .i64 (l.i:Int))]) [(2,_),(4,_),(5,_),(10,_),(94,_),(95,_)] (λl=>Ws w [] [ao D (.cells #[.map (some S),.map (some G),.slice g.a g.es.length g.c,l.lb] 147 (0,0)),ao G (ar st (hk m.aq 0) m.aq.length),bS 89 3 XP.cells l.a l.c l.es,ao v (.cells #[.int .i64 0] 23 (0,0)),ao t (.cells (jj m A l.es.length (l.a,l.c)).toArray 40 (0,0)),ao aw (.cells (a6 m r).toArray 50 (0,0))] [l.J,aL,Z,g.J,L,y,n]) (λl=>l.i<=m.procs.length/\l.es.map (·.1)=(m.procs.take l.i).map (nk m fs)/\gk (nV m fs) (m.procs.take l.i)=0/\(fj w l.J/\Xs (rO (ke+1) (ks+1)) l.J l.es)) (λl=>m.procs.length-l.i) ⟨0,[],none,0,v0,.map none⟩ ⟨cq _,O,O,⟨nh w,Xs.nil _⟩⟩ (λ_ h=>by have h:=h.bu 5 O; have h:=h.bu 5 O; have h:=h.bu 5 O; have h:=h.bu 3 O; have h:=h.bu 5 O; have h:=h.bu 5 O; have h:=Ws.av h (b3:=[v0,aL,Z,g.J,L,y,n]) (by simp); exact h) ?_;intro l ⟨b_,aM,al,⟨bh,bi⟩⟩;refine ag (I (ai O O) (aa (Cs ?_)));refine Cc O (λaN=>?_) (λaN=>?_)
 ·have U:l.i<m.procs.length:=by simpa using aN
  obtain ⟨p,N⟩:∃q,m.procs[l.i]? = some q:=⟨_,dL U⟩;obtain ⟨dd,de,ca,cb⟩:=z.procs.bT l.i p N;obtain ⟨aO,aP,aR,aS,bj,bl,cd,aT,aU,ce⟩:=cb;have op:=e7 (Q.procs p (ax N));have df:=op.aH;have dg:=J3 N;have dh:=aT.max;have di:=aT.cap;have dj:=aU.max;have dk:=aU.cap;have dl:=z_ aM b_;refine bk (Cs (Cb (ag (I (Yo q0 O O ca (by omega)) (I (dV 6 va O O O (cd)) ?_)))));refine Al Y O r_ λcg=>?_;refine aQ 0 Y O O O vb O O O (aa (ag (ad O ?_)));refine WL.nc st Y O λam=>?_;refine cF 0 (ar st (hk ((p.params++p.aB).take 0) 0) 0) O O (I (cJ O) (I (Yf xy O) (aQ 2 Y O O O K5 O O O (aa (Cs (ag (I (Yf p4 O) (I (Yd 1 O O O ab) (I (Yf jf O) ?_)))))))));refine I (Yd 1 O O O ab) ?_;refine Lb Y O Un O O O O λaV=>?_
  refine Ld Y O aC O (λr:SP=>.slice r.1 (p.params++p.aB).length r.2) (λM r=>Sl rdStr 1 M r.1 r.2 (p.params++p.aB)) (λw d=>by
      have ch:Sl KV 1 (hv w) (some ⟨aV,0,none⟩) 2 [((aO,aP),p.params),((aR,aS),p.aB)]:=⟨by simp,by decide,by simp,λj x H=>⟨aV,0,rfl,by
        match j,H with
        | 0,H=>simp only [kf,e0] at H; subst H; exact ⟨d.lr 0 rfl rfl,aT.imp λb o x aW=>um (nM (d.vs n (by simp))) b o x aW⟩
        | 1,H=>simp only [lY,kf,e0] at H; subst H; exact ⟨d.lr 0 rfl rfl,aU.imp λb o x aW=>um (nM (d.vs n (by simp))) b o x aW⟩⟩⟩
      have bm:=T9 (hv w) (some ⟨aV,0,none⟩) 2 _ w (jU w) ch (by simp [lQ]; omega) (by simp);rw [show [((aO,aP),p.params),((aR,aS),p.aB)].flatMap (·.2)=p.params++p.aB by simp] at bm
      exact bm) ?_
  intro bn dm ci aY;refine I (Yn dy O) (ad O (aa (Cb ?_)));refine dc (ι:=Nat) (λj=>[(111,.int .i64 (j:Int))]) [(2,_),(4,_),(5,_),(10,_),(14,_),(94,_),(95,_),(96,_),(109,_),(110,_)] (λj=>Ws w [] [ao D (.cells #[.map (some S),.map (some G),.slice g.a g.es.length g.c,.map (some am)] 147 (0,0)),ao am (ar st (hk ((p.params++p.aB).take j) 0) j),ao cg (.cells (BR p aO aP aR aS bj bl).toArray 151 (0,0)),ao G (ar st (hk m.aq 0) m.aq.length),bS 89 3 XP.cells l.a l.c l.es,ao v (.cells #[.int .i64 0] 23 (0,0)),ao t (.cells (jj m A l.es.length (l.a,l.c)).toArray 40 (0,0)),ao aw (.cells (a6 m r).toArray 50 (0,0))] [bn,l.J,aL,Z,g.J,L,y,n]) (λj=>j<=(p.params++p.aB).length/\((p.params++p.aB).take j).Nodup) (λj=>(p.params++p.aB).length-j) 0 ⟨cq _,List.nodup_nil⟩ (λ_ h=>by exact (Wt 8 ((((((((h.f 8 O).f 8 O).f 8 O).f 8 O).f 8 O).f 7 O).f 7 O).f 8 O):)) ?_;intro j ⟨H,aZ⟩;refine ag (I (ai O O) (aa (Cs ?_)));refine Cc O (λa0=>?_) (λa0=>?_)
  ·have U:j<(p.params++p.aB).length:=by simp only [decide_eq_true_eq] at a0; omega
   obtain ⟨s,an⟩:∃q,(p.params++p.aB)[j]? = some q:=⟨_,dL U⟩;obtain ⟨cj,pos,cl,a2⟩:=aY.bT j s an;have a2:bR bn cj (pos+j*1) (c' s):=a2;have dn:=aY.cap;have dp:=aY.max;refine bk (Cs (Cb (ag (ad O (I (Yo dy O O cl (by omega)) (I (cu 0 ab O O (a2 0 _ O)) (ak O (ak O (aa (ag (ad O ?_)))))))))));refine I (cJ O) (I (Yf xy O) (I (Yd 0 O O O ab) (ad O (I (qx 1 h4 ih ab b0 O O O) ?_))));rw [Ef];refine I (bY O O) ?_;refine WL.lz (ι:=Unit) (κ:=Unit) Y O aC O (λ_=>.tuple #[]) (λ_=>(lN s ((p.params++p.aB).take j)==0)=true) (λ_=>hI 6) (λ_=>(lN s ((p.params++p.aB).take j)==0)=false) (λw d=>q_ _ _ w) ?_ ?_
   ·intro _ F;refine Ep (WE.cm (Ep (Ep (WE.cm (Ep (WE.cm (Ep ?_)))))));refine Ep (WE.cm (Ep ?_));refine WE.front 5 O ?_;refine WE.front 6 O ?_;refine WE.rG aC (nR [_,_] _ [ao t (.cells (fH jm k7).toArray 40 (0,0)),ao v (.cells #[.int .i64 6] 23 (0,0))] O (λw d=>Ae t v (jj m A l.es.length (l.a,l.c)) O 0 6 w d)) (fu O (dX 0 O O ik O) (l2 1 O O O ab)) λw' d=>?_;have bo:=Ui an F
    have K:k9 m fs=6:=by rw [k9,uC (nV m fs) N al (by rw [K2 bo]; decide),K2 bo]; rfl
    rw [s' B C ah (by rw [K]; decide),K];exact ⟨k7,O,d.fr,uz _⟩
   intro _ co;have af:=Uh co;refine aa (Cr (ad O (I (cJ O) (I (Yf xy O) (I (Yd 0 O O O ab) (ad O (ad O (I (Yi O O O (by omega)) ?_))))))));refine WL.oz 1 h4 Y ih ab O O O O ?_;refine cF 1 (ar st (hk ((p.params++p.aB).take (j+1)) 0) (j+1)) O (K1 an af) (Ln (Eb (Et (Cr (I (Yi O O O (by omega)) (ad O (Ln ?_)))))));exact b8 (j+1) (by omega) ⟨by omega,Uj an af aZ⟩ (λ_ h=>h)
  have bp:j=(p.params++p.aB).length:=by simp only [decide_eq_false_iff_not] at a0; omega
  have a3:e6 (p.params++p.aB)=false:=jl.1 (by rw [bp,ew] at aZ; exact aZ);rw [bp,ew];refine Ce (Ex (Ex (cB (Et ?_))));refine CU (nQ [.cell 4 40,.cell 5 23]) [4] [15,16] (.q false 0 (.q true 1 (.q false 2 (.q true 3 (.q false 4 (.q false 5 (.q true 6 (.q false 7 (.q false 8 (.q false 9 (.q true 10 (.e 11 (.q false 12 (.e 13 (.e 14 .nil .stop) .stop)) .stop)))))))))))) mixed (by kernel_rfl) (λ_ _ _ _ _ E h=>rI (fn:=f25) [.cell 4 40,.cell 5 23] O E h) ?_;refine U0 O (Wp 4) (Yf mo O) (U0 O (Wp 4) (Yd 5 O O O ab) (U0 O (Wp 4) (Yf p4 O) (U0 O (Wp 4) (Yd 2 O O O ab) (U0 O (Wp 4) (Yn dy O) (U0 O (Wp 4) (Yf jf O) (U0 O (Wp 4) (Yd 2 O O O ab) (U0 O (Wp 4) (Yn dy O) ?_)))))));refine U0 O (Wp 4) (Ym O) (U0 O (Wp 4) (Yf DO O) (U0 O (Wp 4) (Yd 2 O O O ab) ?_));refine Ue O (Wp 4) ?_ WU.stop
  refine WL.rL (ι:=SP) (κ:=Unit) Y O aC O (λr=>.slice r.1 (eC (bZ m fs (p.params++p.aB)) p.body).length r.2) (λM r=>e2 (bZ m fs (p.params++p.aB)) p.body=0/\Sl (hS (ke+1) (ks+1)) 7 M r.1 r.2 (eC (bZ m fs (p.params++p.aB)) p.body)) (λ_=>hI (e2 (bZ m fs (p.params++p.aB)) p.body)) (λ_=>e2 (bZ m fs (p.params++p.aB)) p.body≠0) (λw d=>by
      have a5:q9 (hv w) D (bZ m fs (p.params++p.aB)):=⟨⟨S,G,g.a,g.c,am,⟨d.lr 0 rfl rfl,d.lr 0 rfl rfl,by show vc (hv w) D 2=some (.slice g.a (fs.map (·.2)).length g.c); rw [<-aj,eo]; exact yq (d.mF 0 rfl) rfl,d.lr 0 rfl rfl⟩,d.vs L (by simp) _ _ ba,d.mF 3 rfl,by show Sl Ee 1 (hv w) g.a g.c (fs.map (·.2)); rw [<-aj]; exact hT bg aE λb o e a8 a9=>⟨e.2,(nM (d.vs Z (by simp))).cell (a8 0 _ rfl),d.vs g.J (by simp) _ _ a9⟩,d.mF 1 rfl⟩,P,by show m.aq.length=(fs.map (·.2)).length; rw [eo,C],⟨Q.aH.1,by show (p.params++p.aB).length<=7; rw [dG]; omega⟩⟩
      exact KU (hv w) n D (bZ m fs (p.params++p.aB)) ke a5 ks p.body bj bl w (jU w) (d.vs n (by simp)) ce (by omega)) ?_ ?_
  ·intro _ F;refine Ep (WE.cm (Ep (Ep (WE.cm (Ep ?_)))));refine WE.front 5 O ?_;refine WE.front 6 O ?_;refine WE.rG aC (nR [_,_] _ [ao t (.cells (fH jm k7).toArray 40 (0,0)),ao v (.cells #[.int .i64 (e2 (bZ m fs (p.params++p.aB)) p.body)] 23 (0,0))] O (λw d=>Ae t v (jj m A l.es.length (l.a,l.c)) O 0 (e2 (bZ m fs (p.params++p.aB)) p.body) w d)) (fu O (dX 0 O O ik O) (l2 1 O O O ab)) λw' d=>?_
   have K:k9 m fs=e2 (bZ m fs (p.params++p.aB)) p.body:=by rw [k9,uC (nV m fs) N al (by rw [td a3]; exact F),td a3,py F]
   rw [s' B C ah (by rw [K]; exact F),K];exact ⟨k7,O,d.fr,uz _⟩
  intro dq a' cp ⟨cr,cs⟩;refine Ln (Eu (U0 O (λ_ h=>(Wv 1 (Wo 4 h):)) (Yb xB K6 O O) ?_));refine Ue O (λ_ h=>(Wv 1 (Wo 4 h):)) ?_ WU.stop;refine Lb Y O K7 O O O O λdr=>?_;refine cF 0 (.cells (XP.cells (nk m fs p,a')).toArray 89 (0,0)) O (O) (Ln (Eu ?_));refine Ue O (λ_ h=>(Wv 1 (Wo 4 (Wd 1 h)):)) ?_ WU.stop;refine LA (((nk m fs p,a'):XP)) 5 0 Y O K7 O O O O O O (by omega) (by omega) λct cv=>?_;refine Ln (Eu ?_);refine WU.nil (λ_ h=>(Wv 1 (Wo 4 (Wd 1 h)):)) ?_;refine WS.e O ?_;refine I (Yf mo O) (Ln (Es ?_));refine WS.e O ?_;refine aQ 7 Y O O O Uo O O O (Ln (Es ?_));refine WS.nil ?_;refine Eb (Et ?_);refine WC.h6 λds cw dt cx=>?_;refine WC.h6 λcy cz cA cC=>?_;refine Cr (I (Yi O O O (by omega)) (ad O (Ln ?_)));exact b8 (⟨l.i+1,l.es++[(nk m fs p,a')],ct,cv,cy,.map (some am)⟩:GP) (by show _-(l.i+1)<_; omega) ⟨(by show l.i+1<=_; omega),z' aM N O,(by show gk (nV m fs) (m.procs.take (l.i+1))=0; rw [n8 _ N,al,k8,td a3,cr]),⟨cC _ (cx _ cp ci) bh,Xs.snoc (R:=rO _ _) (λhv h=>rO.mv hv h) bi cA (bF.trans cw cz) cs⟩⟩ (λ_ h=>by exact (Wt 6 ((((((h.f 8 O).f 8 O).f 8 O).f 8 O).f 8 O).f 6 O):))
 have bq:l.i=m.procs.length:=by simp at aN; omega
 have cD:=Aa aM bq
 have br:gk (nV m fs) m.procs=0:=by rw [<-al,bq,ew]
 have bs:dE m fs=⟨m.nm,m.aq,k5 m,l.es.map (·.1),eC (bZ m fs []) m.main⟩:=by rw [cD]; rfl
 refine Ce (Ex (Ex (cB (Et (ag (ad O ?_))))));refine WL.nc st Y O λcE=>?_;refine I (cJ O) (I (Yf xy O) (aQ 1 Y O O O K5 O O O (aa (ag (ad O (I (Yf DP O) (I (Yd 6 O O O ab) ?_)))))))
 refine WL.rL (ι:=SP) (κ:=Unit) Y O aC O (λr=>.slice r.1 (eC (bZ m fs []) m.main).length r.2) (λM r=>e2 (bZ m fs []) m.main=0/\Sl (hS (ke+1) (ks+1)) 7 M r.1 r.2 (eC (bZ m fs []) m.main)) (λ_=>hI (e2 (bZ m fs []) m.main)) (λ_=>e2 (bZ m fs []) m.main≠0) (λw d=>by
     have a5:q9 (hv w) D (bZ m fs []):=⟨⟨S,G,g.a,g.c,cE,⟨d.lr 1 rfl rfl,d.lr 1 rfl rfl,by show vc (hv w) D 2=some (.slice g.a (fs.map (·.2)).length g.c); rw [<-aj,eo]; exact yq (d.mF 1 rfl) rfl,d.lr 1 rfl rfl⟩,d.vs L (by simp) _ _ ba,d.mF 2 rfl,by show Sl Ee 1 (hv w) g.a g.c (fs.map (·.2)); rw [<-aj]; exact hT bg aE λb o e a8 a9=>⟨e.2,(nM (d.vs Z (by simp))).cell (a8 0 _ rfl),d.vs g.J (by simp) _ _ a9⟩,d.mF 0 rfl⟩,P,by show m.aq.length=(fs.map (·.2)).length; rw [eo,C],⟨Q.aH.1,by show (0:Nat)<=7; omega⟩⟩
     exact KU (hv w) n D (bZ m fs []) ke a5 ks m.main r.a4 r.c4 w (jU w) (d.vs n (by simp)) z.main (by omega)) ?_ ?_
 ·intro _ F;refine Ep ?_;refine WE.front 4 O ?_;refine WE.front 5 O ?_;refine WE.rG aC (nR [_,_] _ [ao t (.cells (fH jm k7).toArray 40 (0,0)),ao v (.cells #[.int .i64 (e2 (bZ m fs []) m.main)] 23 (0,0))] O (λw d=>Ae t v (jj m A l.es.length (l.a,l.c)) O 0 (e2 (bZ m fs []) m.main) w d)) (fu O (dX 0 O O ik O) (l2 1 O O O ab)) λw' d=>?_
  have K:k9 m fs=e2 (bZ m fs []) m.main:=by rw [k9,br,k8]
  rw [s' B C ah (by rw [K]; exact F),K];exact ⟨k7,O,d.fr,uz _⟩
 intro du ap cG ⟨cH,cI⟩;refine I (Yf xC O) (aQ 5 Y O O O Eo O O O (aa (Cs ?_)));refine WC.nj (rd:=G0) 3 O (λ_ T=>by cases T) XP.ck (λ_ _ _ _ h=>h) λdv cK cM=>?_;refine fm 4 (.cells (fH (dE m fs) ⟨A,(l.a,l.c),ap⟩).toArray 40 (0,0)) O (by rw [bs]; show Obj.cells _ _ _=Obj.cells (fH _ _).toArray _ _; simp only [fH,eo]; rfl) (Cr (I (cc 4 O O ik O) (aQ 4 Y O O O nE O O O (aQ 3 Y O O O eH O O O (aa (a7 ?_))))));refine WE.front 3 O ?_;refine WE.front 4 O ?_;refine WE.yz aC (nR [_,_] _ [ao t (.cells (fH (dE m fs) ⟨A,(l.a,l.c),ap⟩).toArray 40 (0,0)),ao v (.cells #[.int .i64 0] 23 (0,0))] O (λw d=>T' t v (fH (dE m fs) ⟨A,(l.a,l.c),ap⟩) O 0 0 w d)) (fu O (dX 0 O O ik O) (l2 1 O O O ab)) λw' d=>?_;rw [QV B C ah (by rw [k9,br,k8,cH])];exact ⟨⟨A,(l.a,l.c),ap⟩,O,d.fr,⟨o7 b' (cU d (by simp) b9),by rw [bs]; exact OH cM (cU d (by simp) cK) (cU d (by simp) bh) bi,eV cI (cU d (by simp) cG)⟩⟩
structure Up where
 ma:iQ
 fa:SP
 oa:SP
 na:SP
structure YM (HS:View) (m:aX) (fs:List (List UInt8×List bx)) (ns:List (List UInt8)) (q:Up):Prop where
 aq:Sl rdStr 1 HS q.ma.a1 q.ma.c1 m.aq
 s5:Sl re 2 HS q.fa.1 q.fa.2 fs
 own:Sl hQ 4 HS q.oa.1 q.oa.2 (eQ m)
 names:Sl rdStr 1 HS q.na.1 q.na.2 ns
 len:m.aq.length=fs.length
structure GQ where
 i:Nat
 es:List XP
 a:Option Addr
 c:Nat
 J:View
 ns:List (List UInt8)
 na:SP
theorem qa {d N:View} (hv:bF d N) {a:Option Addr} {c:Nat} {l:List bx} (h:Sl hQ 4 d a c l):Sl hQ 4 N a c l:=h.imp λb o x e=>Oy hv b o x e
end Go.Proofs.YtccenighnmfhgaaGreatDoor
end
