/- BuildRight: what Units tells is a right program, or needs too many numbers; what Build tells is a right image. -/
import Derived.Lib.AppendZeros
import Derived.Test.YtccenighnmfhgaaGreatDoorR3
set_option linter.unusedVariables false
set_option linter.unusedSimpArgs false
section
namespace Go.Proofs.YtccenighnmfhgaaGreatDoor
open Go.Bw
structure mQ where
 s1:Option Addr×Nat
 s2:Option Addr×Nat
 s3:Option Addr×Nat
abbrev SX:=bl×mQ
def SX.cells (e:SX):List Value:=rh e.1 e.2.s1.1 e.2.s1.2 e.2.s2.1 e.2.s2.2 e.2.s3.1 e.2.s3.2
theorem SX.aj (e:SX):(SX.cells e).length=6:=rfl
def xw (a:View) (b o:Nat) (e:SX):Prop:=bI a b o (SX.cells e)
structure rQ (f:Nat) (N:View) (x:bl) (p:mQ):Prop where
 args:Sl (ff 7) 5 N p.s1.1 p.s1.2 x.args
 body:Sl (a6 7 f) 6 N p.s2.1 p.s2.2 x.body
 other:Sl (a6 7 f) 6 N p.s3.1 p.s3.2 x.other
theorem pF {d e:View} {f c:Nat} {a:Option Addr} {l:List bl} (h:Sl (a6 7 f) 6 d a c l) (hv:bw d e):Sl (a6 7 f) 6 e a c l:=h.imp λb o y g=>ri hv (Nat.le_refl _) (Nat.le_refl _) b o y g
theorem rQ.mv {f:Nat} {a b:View} {x:bl} {p:mQ} (h:rQ f a x p) (hv:bw a b):rQ f b x p:=⟨gO h.args hv,pF h.body hv,pF h.other hv⟩
def nL (J:View) (f:Nat) (es:List SX):Prop:=∀e ∈ es,rQ f J e.1 e.2
theorem nL.nil (J:View) (f:Nat):nL J f []:=by intro e h; simp at h
theorem nL.snoc {J c b:View} {f:Nat} {es:List SX} {e:SX} (h:nL J f es) (d:bw J b) (g:bw c b) (i:rQ f c e.1 e.2):nL b f (es++[e]):=by
 intro x a
 rcases List.mem_append.1 a with a | a
 · exact (h x a).mv d
 · rw [List.mem_singleton] at a
   subst a;exact i.mv g
theorem Bk {j J d:View} {f c:Nat} {a:Option Addr} {es:List SX} (h:Sl xw 6 j a c es) (hv:bw j d) (m:bw J d) (n:nL J f es):Sl (a6 7 (f+1)) 6 d a c (es.map (·.1)):=by
 refine ⟨by simpa using h.cap,h.max,h.spot,λi x k=>?_⟩;rw [List.getElem?_map] at k;obtain ⟨e,l,rfl⟩:=Option.map_eq_some_iff.1 k;obtain ⟨b,o,p,q⟩:=h.bJ i e l;have g:=(n e (List.mem_of_getElem? l)).mv m;exact ⟨b,o,p,e.2.s1.1,e.2.s1.2,e.2.s2.1,e.2.s2.2,e.2.s3.1,e.2.s3.2,bI.mono hv q,g.args,g.body,g.other⟩
structure GS where
 es:List SX
 a:Option Addr
 c:Nat
 J:View
 r:Option Addr×Nat
 q:Tk
def Hk (b:View) (f:Nat):Prop:=∀(a:Nat) (r:Option Addr×Nat) (l:Tk) (d:Nat) (w:World),f+d=7->cW l->Sl ag 3 b r.1 r.2 l->Ws w (List.flatMap aS.ids (aL a r l)) (aL a r l) [b] w->
 Calls Tryz.prog 123 #[.pointer (some ⟨a,0,none⟩),.int .i64 (d:Int)] w λe w'=>(∃(x:List bl) (s:Option Addr×Nat) (c:Option Addr×Nat) (q:Tk),e = .returned (.slice s.1 x.length s.2)/\fb f l=some (x,q)/\Sl (a6 7 f) 6 (nv w w') s.1 s.2 x/\Sl ag 3 b c.1 c.2 q/\Ws w (List.flatMap aS.ids (aL a r l)) (aL a c q) [b] w')\/(∃(c:Option Addr×Nat) (q:Tk),e = .panicked cA/\fb f l=none/\Ws w (List.flatMap aS.ids (aL a r l)) (aL a c q) [b] w')
theorem uV {l r:Tk} {f:Nat} {x:List bl} (h:cW l) (e:fb f l=some (x,r)):cW r:=pB h (uH f l x r h.all e)
theorem P7 {l r:Tk} {f:Nat} {x:bl} (h:cW l) (e:eh (fb f) l=some (x,r)):cW r:=pB h (AI (uH f) h.all e)
theorem P8 {l r:Tk} {xs:List aV} (h:cW l) (e:iI (cC 6) l=some (xs,r)):cW r:=by
 unfold iI at e
 cases a:aU [41] l with
 | some q=>
   rw [a] at e;simp only [Option.some.injEq,Prod.mk.injEq] at e;obtain ⟨_,rfl⟩:=e;exact hb h a
 | none=>
   rw [a] at e;exact pB h (AG (sZ 6) _ _ _ _ h.all e)
theorem uW {v w:Tx} {l q:Tk} (h:cZ [v,w] l=some q):∃a,aU v l=some a/\aU w a=some q:=by rw [G4] at h; exact Option.bind_eq_some_iff.1 h
theorem P9 {v w:Tx} {l:Tk} (h:cZ [v,w] l=none):aU v l=none\/∃a,aU v l=some a/\aU w a=none:=by
 rw [G4] at h
 cases hv:aU v l with
 | none=>exact .inl rfl
 | some a=>rw [hv] at h; exact .inr ⟨a,rfl,h⟩
theorem P' {ps:Tk->Option (bl×Tk)} {n:Nat} {l q:Tk} (h:aU [125] l=some q):ky ps (n+1) l=some ([],q):=by rw [ky,h]
theorem P_ {ps:Tk->Option (bl×Tk)} {n:Nat} {l q:Tk} {x:bl} (h:aU [125] l=none) (a:ps l=some (x,q)):ky ps (n+1) l=(ky ps n q).map λp=>(x::p.1,p.2):=by rw [ky,h]; simp only; rw [a]; rfl
theorem Qa {ps:Tk->Option (bl×Tk)} {n:Nat} {l:Tk} (h:aU [125] l=none) (a:ps l=none):ky ps (n+1) l=none:=by rw [ky,h]; simp only; rw [a]; rfl
theorem hj:Enters Tryz.prog 123:=enters_of Tryz.func123 (by kernel_rfl) rfl
theorem uY:dk Tryz.prog 48=some 1:=by kernel_rfl
theorem tg:dk Tryz.prog 9=some 1:=by kernel_rfl
theorem Qb:Enters Tryz.prog 169:=enters_of Tryz.func169 (by kernel_rfl) rfl
theorem xx:aE Tryz.prog 48 242 (.agg #[.int .i64 0,st [],st [],.slice none 0 0,.slice none 0 0,.slice none 0 0]) 6 112:=hV (by kernel_rfl)
theorem Qc (o:Nat) (j:View) (r:Option Addr×Nat) (l:Tk) (f d:Nat) (w:World) (a2:Hk j f) (d':f+(d+1)=7) (af:cW l) (cs:Sl ag 3 j r.1 r.2 l) (a:Ws w (List.flatMap aS.ids (aL o r l)) (aL o r l) [j] w) :
   Calls Tryz.prog 169 #[.pointer (some ⟨o,0,none⟩),.int .i64 (d:Int)] w λe w'=>(∃(x:bl) (p:mQ) (u:Option Addr×Nat) (q:Tk),e = .returned (.agg #[.int .i64 (x).op,st (x).mod,st (x).nm,.slice (p).s1.1 (x).args.length (p).s1.2,.slice (p).s2.1 (x).body.length (p).s2.2,.slice (p).s3.1 (x).other.length (p).s3.2])/\eh (fb f) l=some (x,q)/\rQ f (nv w w') x p/\Sl ag 3 j u.1 u.2 q/\Ws w (List.flatMap aS.ids (aL o r l)) (aL o u q) [j] w')\/(∃(u:Option Addr×Nat) (q:Tk),e = .panicked cA/\eh (fb f) l=none/\Ws w (List.flatMap aS.ids (aL o r l)) (aL o u q) [j] w'):=by
 refine enter Tryz.func169 O 104 O O ?_;refine CE a (aa ?_);refine Al Y O py λd_=>?_;refine cD 0 (.cells (rh (bl.mk 0 [] [] [] [] []) none 0 none 0 none 0).toArray 242 (0,0)) O O (ae (aa ?_));refine Al Y O py λea=>?_;refine cD 0 (.cells (rh (bl.mk 0 [] [] [] [] []) none 0 none 0 none 0).toArray 242 (0,0)) O O (ae (Cs (Cb (aa (ad O (Lf 2 O ?_))))));refine Lw [_] _ Y O gF O O _ _ _ [j] (by simp) (λw a=>gG o j r l [105,102] w cs a) ?_;intro ⟨eb,bA,aB⟩ ⟨ct,cu,bB⟩;refine ai O (ae ?_);refine Cc O (λa3=>?_) (λa3=>?_)
 ·have ab:=ct a3;have a4:=hb af ab;refine aa (ad O ?_)
  refine hW (ι:=(aV×(Option Addr×Nat))×(Option Addr×Nat)×Tk) (κ:=(Option Addr×Nat)×Tk) [_] _ Y O mP O O (λi=>.agg #[.int .i64 (i.1.1).op,.int .i64 (i.1.1).n,st (i.1.1).mod,st (i.1.1).nm,.slice i.1.2.1 (i.1.1).args.length i.1.2.2]) (λi=>aL o i.2.1 i.2.2) (λE i=>cC 6 aB=some (i.1.1,i.2.2)/\Sl (ff 6) 5 E i.1.2.1 i.1.2.2 i.1.1.args/\Sl ag 3 j i.2.1.1 i.2.1.2 i.2.2) (λ_=>cA) (λi=>aL o i.1 i.2) (λ_=>cC 6 aB=none) ([j]) (by simp) (λ_ _ h=>h) (λw a=>((λo r l d w b c g v=>qz j 6 o r l d w b c g v) o bA aB 1 w O a4 bB a).mono λe w' h=>by
      rcases h with ⟨x,s,u,q,b,c,g,v,F⟩ | ⟨u,q,b,c,g⟩
      · exact .inl ⟨((x,s),u,q),b,⟨c,g,v⟩,F⟩
      · exact .inr ⟨(u,q),b,c,g⟩) ?_ ?_
  ·intro ⟨z,A⟩ y;refine Ep (WE.ck (Ep ?_));refine b6 λw' a=>?_;exact .inr ⟨z,A,O,by simp only [eh,eM,eR,eJ,eS,eK,eL,ab,y,Option.bind_some,Option.map_some,Option.bind_none,Option.map_none],(by have h:=a; have h:=Wt 1 h; exact h)⟩
  intro bC ⟨⟨a5,bD⟩,cw,am⟩ bE ⟨ac,bF,cx⟩;have bG:cW am:=mM a4 ac;have ec:am.length+1<=List.length (aB):=mN a4 ac;refine Lb Y O jB O O O O λbH=>?_;refine LN (rd:=jz) (f:=XE.cells) (m:=1) 0 [(a5,bD.1,bD.2)] O O (λk G=>by simp [aL,aq] at G; subst G; simp [dM,aL,aq,bY]) XE.aj (λ_ _ _ _ h=>h) (show 1<=1 by decide) (by decide) λed bI bJ=>?_;refine I (Yf mc O) (aO 1 Y O O O dP O O O (I (Yf mL O) (aO 1 Y O O O oH O O O (ae (aa (ad O (ad O (I (Yi O O O (by omega)) ?_))))))))
  refine hW (ι:=((List bl)×(Option Addr×Nat))×(Option Addr×Nat)×Tk) (κ:=(Option Addr×Nat)×Tk) [_] _ Y O hj O O (λi=>.slice i.1.2.1 i.1.1.length i.1.2.2) (λi=>aL o i.2.1 i.2.2) (λE i=>fb f am=some (i.1.1,i.2.2)/\Sl (a6 7 f) 6 E i.1.2.1 i.1.2.2 i.1.1/\Sl ag 3 j i.2.1.1 i.2.1.2 i.2.2) (λ_=>cA) (λi=>aL o i.1 i.2) (λ_=>fb f am=none) ([j]) (by simp) (λ_ _ h=>h) (λw a=>(a2 o cw am (d+1) w (by omega) bG cx a).mono λe w' h=>by
      rcases h with ⟨x,s,u,q,b,c,g,v,F⟩ | ⟨u,q,b,c,g⟩
      · exact .inl ⟨((x,s),u,q),b,⟨c,g,v⟩,F⟩
      · exact .inr ⟨(u,q),b,c,g⟩) ?_ ?_
  ·intro ⟨z,A⟩ y;refine Ep (WE.ck (Ep ?_));refine b6 λw' a=>?_;exact .inr ⟨z,A,O,by simp only [eh,eM,eR,eJ,eS,eK,eL,ab,ac,y,Option.bind_some,Option.map_some,Option.bind_none,Option.map_none],(by have h:=a; have h:=Wt 1 h; have h:=Ws.cv h (ah:=[j]) (by simp); exact h)⟩
  intro ef ⟨⟨bK,bM⟩,cy,a8⟩ bN ⟨an,bO,cz⟩;have cB:cW a8:=uV bG an;refine I (Yf s_ O) (aO 1 Y O O O uY O O O (ae (Cs (aa (ad O ?_)))));refine Lw [_] _ Y O gF O O _ _ _ [j] (by simp) (λw a=>gG o j cy a8 [101,108,115,101] w cz a) ?_;intro ⟨eg,bQ,a9⟩ ⟨cE,cG,bR⟩;refine ae ?_;refine Cc O (λa'=>?_) (λa'=>?_)
  ·have aC:=cE a';have bS:=hb cB aC;refine aa (ad O (ad O (I (Yi O O O (by omega)) ?_)))
   refine hW (ι:=((List bl)×(Option Addr×Nat))×(Option Addr×Nat)×Tk) (κ:=(Option Addr×Nat)×Tk) [_] _ Y O hj O O (λi=>.slice i.1.2.1 i.1.1.length i.1.2.2) (λi=>aL o i.2.1 i.2.2) (λE i=>fb f a9=some (i.1.1,i.2.2)/\Sl (a6 7 f) 6 E i.1.2.1 i.1.2.2 i.1.1/\Sl ag 3 j i.2.1.1 i.2.1.2 i.2.2) (λ_=>cA) (λi=>aL o i.1 i.2) (λ_=>fb f a9=none) ([j]) (by simp) (λ_ _ h=>h) (λw a=>(a2 o bQ a9 (d+1) w (by omega) bS bR a).mono λe w' h=>by
       rcases h with ⟨x,s,u,q,b,c,g,v,F⟩ | ⟨u,q,b,c,g⟩
       · exact .inl ⟨((x,s),u,q),b,⟨c,g,v⟩,F⟩
       · exact .inr ⟨(u,q),b,c,g⟩) ?_ ?_
   ·intro ⟨z,A⟩ y;refine Ep (Ep (WE.ck (Ep ?_)));refine b6 λw' a=>?_;exact .inr ⟨z,A,O,by simp only [eh,eM,eR,eJ,eS,eK,eL,ab,ac,an,aC,y,Option.bind_some,Option.map_some,Option.bind_none,Option.map_none],(by have h:=a; have h:=Wt 1 h; have h:=Ws.cv h (ah:=[j]) (by simp); exact h)⟩
   intro ei ⟨⟨a_,cH⟩,bT,ba⟩ cI ⟨bb,cJ,cL⟩;have ej:cW ba:=uV bS bb;refine I (Yf qx O) (aO 1 Y O O O uY O O O (ae (aa (I (Yf qx O) (I (Yd 1 O O O k3) (I (Yn nE O) (I (bP O O) (ae ?_))))))));refine Cc O (λbc=>?_) (λbc=>?_)
   ·have bd:a_.length=0:=by simpa using bc
    refine Cr (I (Yb pD pC O O) (I (bL pE O) ?_));refine WL.panic Y O ?_;refine Ep (WE.ck (Ep ?_));refine b6 λw' a=>?_;exact .inr ⟨bT,ba,O,by simp only [eh,eM,eR,eJ,eS,eK,eL,ab,ac,an,aC,bb,Option.bind_some,Option.map_some,Option.bind_none,Option.map_none,if_pos bd],(by have h:=a; have h:=Wt 1 h; have h:=Ws.cv h (ah:=[j]) (by simp); exact h)⟩
   have bd:¬a_.length=0:=by simpa using bc
   refine bf (aa (I (b8 1 O O iK O) (aO 2 Y O O O nF O O O (ae (aX (cj (Er ?_)))))));refine WE.ee (gL O (dI 2 O O iK O)) λw' a=>?_;exact .inl ⟨bl.mk 4 [] [] [a5] bK a_,⟨(some ⟨bH,0,none⟩,1),bM,cH⟩,bT,ba,O,by simp only [eh,eM,eR,eJ,eS,eK,eL,ab,ac,an,aC,bb,Option.bind_some,Option.map_some,Option.bind_none,Option.map_none,if_neg bd],⟨(jA bJ (cF a (by simp) bI) (cF a (by simp) bE) ((gH.nil bC 6).snoc (bw.refl _) (bw.refl _) bF)),(pF bO (cF a (by simp) bN)),(pF cJ (cF a (by simp) cI))⟩,cL,Wv 4 (Wt 1 a)⟩
  obtain ⟨cM,cN⟩:=cG a';subst cN;refine bf (aa (I (b8 1 O O iK O) (aO 2 Y O O O nF O O O (ae (aX (cj (Er ?_)))))));refine WE.ee (gL O (dI 2 O O iK O)) λw' a=>?_;exact .inl ⟨bl.mk 4 [] [] [a5] bK [],⟨(some ⟨bH,0,none⟩,1),bM,((none,0):Option Addr×Nat)⟩,bQ,a8,O,by simp only [eh,eM,eR,eJ,eS,eK,eL,ab,ac,an,cM,Option.bind_some,Option.map_some,Option.bind_none,Option.map_none],⟨(jA bJ (cF a (by simp) bI) (cF a (by simp) bE) ((gH.nil bC 6).snoc (bw.refl _) (bw.refl _) bF)),(pF bO (cF a (by simp) bN)),Sl.nil⟩,bR,Wv 3 (Wt 1 a)⟩
 obtain ⟨B,cO⟩:=cu a3;subst cO;refine aa (ad O ?_);refine Lw [_] _ Y O gF O O _ _ _ [j] (by simp) (λw a=>gG o j bA l [119,104,105,108,101] w bB a) ?_;intro ⟨ek,bU,aD⟩ ⟨cP,cQ,bV⟩;refine ai O (ae ?_);refine Cc O (λbe=>?_) (λbe=>?_)
 ·have aE:=cP be;have bg:=hb af aE;refine aa (ad O ?_)
  refine hW (ι:=(aV×(Option Addr×Nat))×(Option Addr×Nat)×Tk) (κ:=(Option Addr×Nat)×Tk) [_] _ Y O mP O O (λi=>.agg #[.int .i64 (i.1.1).op,.int .i64 (i.1.1).n,st (i.1.1).mod,st (i.1.1).nm,.slice i.1.2.1 (i.1.1).args.length i.1.2.2]) (λi=>aL o i.2.1 i.2.2) (λE i=>cC 6 aD=some (i.1.1,i.2.2)/\Sl (ff 6) 5 E i.1.2.1 i.1.2.2 i.1.1.args/\Sl ag 3 j i.2.1.1 i.2.1.2 i.2.2) (λ_=>cA) (λi=>aL o i.1 i.2) (λ_=>cC 6 aD=none) ([j]) (by simp) (λ_ _ h=>h) (λw a=>((λo r l d w b c g v=>qz j 6 o r l d w b c g v) o bU aD 1 w O bg bV a).mono λe w' h=>by
      rcases h with ⟨x,s,u,q,b,c,g,v,F⟩ | ⟨u,q,b,c,g⟩
      · exact .inl ⟨((x,s),u,q),b,⟨c,g,v⟩,F⟩
      · exact .inr ⟨(u,q),b,c,g⟩) ?_ ?_
  ·intro ⟨z,A⟩ y;refine Ep (WE.ck (Ep ?_));refine b6 λw' a=>?_;exact .inr ⟨z,A,O,by simp only [eh,eM,eR,eJ,eS,eK,eL,B,aE,y,Option.bind_some,Option.map_some,Option.bind_none,Option.map_none],(by have h:=a; have h:=Wt 1 h; exact h)⟩
  intro cR ⟨⟨bW,bX⟩,cS,ao⟩ cT ⟨aF,cU,cV⟩;have bZ:cW ao:=mM bg aF;have el:ao.length+1<=List.length (aD):=mN bg aF;refine Lb Y O jB O O O O λcX=>?_;refine LN (rd:=jz) (f:=XE.cells) (m:=1) 0 [(bW,bX.1,bX.2)] O O (λk G=>by simp [aL,aq] at G; subst G; simp [dM,aL,aq,bY]) XE.aj (λ_ _ _ _ h=>h) (show 1<=1 by decide) (by decide) λem cY c0=>?_;refine I (Yf mc O) (aO 1 Y O O O dP O O O (I (Yf mL O) (aO 1 Y O O O oH O O O (ae (aa (ad O (ad O (I (Yi O O O (by omega)) ?_))))))))
  refine hW (ι:=((List bl)×(Option Addr×Nat))×(Option Addr×Nat)×Tk) (κ:=(Option Addr×Nat)×Tk) [_] _ Y O hj O O (λi=>.slice i.1.2.1 i.1.1.length i.1.2.2) (λi=>aL o i.2.1 i.2.2) (λE i=>fb f ao=some (i.1.1,i.2.2)/\Sl (a6 7 f) 6 E i.1.2.1 i.1.2.2 i.1.1/\Sl ag 3 j i.2.1.1 i.2.1.2 i.2.2) (λ_=>cA) (λi=>aL o i.1 i.2) (λ_=>fb f ao=none) ([j]) (by simp) (λ_ _ h=>h) (λw a=>(a2 o cS ao (d+1) w (by omega) bZ cV a).mono λe w' h=>by
      rcases h with ⟨x,s,u,q,b,c,g,v,F⟩ | ⟨u,q,b,c,g⟩
      · exact .inl ⟨((x,s),u,q),b,⟨c,g,v⟩,F⟩
      · exact .inr ⟨(u,q),b,c,g⟩) ?_ ?_
  ·intro ⟨z,A⟩ y;refine Ep (WE.ck (Ep ?_));refine b6 λw' a=>?_;exact .inr ⟨z,A,O,by simp only [eh,eM,eR,eJ,eS,eK,eL,B,aE,aF,y,Option.bind_some,Option.map_some,Option.bind_none,Option.map_none],(by have h:=a; have h:=Wt 1 h; have h:=Ws.cv h (ah:=[j]) (by simp); exact h)⟩
  intro en ⟨⟨c1,c2⟩,c3,b0⟩ c4 ⟨b1,c5,c6⟩;have eo:cW b0:=uV bZ b1;refine I (Yf s_ O) (aO 1 Y O O O uY O O O (ae (aa (I (b8 1 O O iK O) (aO 2 Y O O O nF O O O (ae (aX (cj (Er ?_)))))))));refine WE.ee (gL O (dI 2 O O iK O)) λw' a=>?_;exact .inl ⟨bl.mk 5 [] [] [bW] c1 [],⟨(some ⟨cX,0,none⟩,1),c2,((none,0):Option Addr×Nat)⟩,c3,b0,O,by simp only [eh,eM,eR,eJ,eS,eK,eL,B,aE,aF,b1,Option.bind_some,Option.map_some,Option.bind_none,Option.map_none],⟨(jA c0 (cF a (by simp) cY) (cF a (by simp) cT) ((gH.nil cR 6).snoc (bw.refl _) (bw.refl _) cU)),(pF c5 (cF a (by simp) c4)),Sl.nil⟩,c6,Wv 3 (Wt 1 a)⟩
 obtain ⟨D,c7⟩:=cQ be;subst c7;refine aa (ad O ?_);refine Lw [_] _ Y O gF O O _ _ _ [j] (by simp) (λw a=>gG o j bU l [114,101,116,117,114,110] w bV a) ?_;intro ⟨ep,b2,aG⟩ ⟨c8,c9,b3⟩;refine ai O (ae ?_);refine Cc O (λbh=>?_) (λbh=>?_)
 ·have aH:=c8 bh;have bi:=hb af aH;refine Cr (ad O ?_)
  refine hW (ι:=(aV×(Option Addr×Nat))×(Option Addr×Nat)×Tk) (κ:=(Option Addr×Nat)×Tk) [_] _ Y O mP O O (λi=>.agg #[.int .i64 (i.1.1).op,.int .i64 (i.1.1).n,st (i.1.1).mod,st (i.1.1).nm,.slice i.1.2.1 (i.1.1).args.length i.1.2.2]) (λi=>aL o i.2.1 i.2.2) (λE i=>cC 6 aG=some (i.1.1,i.2.2)/\Sl (ff 6) 5 E i.1.2.1 i.1.2.2 i.1.1.args/\Sl ag 3 j i.2.1.1 i.2.1.2 i.2.2) (λ_=>cA) (λi=>aL o i.1 i.2) (λ_=>cC 6 aG=none) ([j]) (by simp) (λ_ _ h=>h) (λw a=>((λo r l d w b c g v=>qz j 6 o r l d w b c g v) o b2 aG 1 w O bi b3 a).mono λe w' h=>by
      rcases h with ⟨x,s,u,q,b,c,g,v,F⟩ | ⟨u,q,b,c,g⟩
      · exact .inl ⟨((x,s),u,q),b,⟨c,g,v⟩,F⟩
      · exact .inr ⟨(u,q),b,c,g⟩) ?_ ?_
  ·intro ⟨z,A⟩ y;refine WE.ck (Ep ?_);refine b6 λw' a=>?_;exact .inr ⟨z,A,O,by simp only [eh,eM,eR,eJ,eS,eK,eL,B,D,aH,y,Option.bind_some,Option.map_some,Option.bind_none,Option.map_none],(by have h:=a; have h:=Wt 1 h; exact h)⟩
  intro c' ⟨⟨b4,b5⟩,c_,ap⟩ da ⟨aI,db,dc⟩;have dd:cW ap:=mM bi aI;have eq:ap.length+1<=List.length (aG):=mN bi aI;refine Lb Y O jB O O O O λde=>?_;refine LN (rd:=jz) (f:=XE.cells) (m:=1) 0 [(b4,b5.1,b5.2)] O O (λk G=>by simp [aL,aq] at G; subst G; simp [dM,aL,aq,bY]) XE.aj (λ_ _ _ _ h=>h) (show 1<=1 by decide) (by decide) λer df dg=>?_;refine I (Yf mc O) (aO 1 Y O O O dP O O O (I (Yf mL O) (aO 1 Y O O O oH O O O (Ln (Eb (Et (aa (ad O ?_))))))));refine Lb Y O dT O O O O λar=>?_;refine a7 (T:=9) (m:=1) 0 [[59]] O O (show 1<=1 by decide) (by decide) λJ N=>?_
  refine dF (ι:=(Option Addr×Nat)×Tk) (κ:=(Option Addr×Nat)×Tk) [_] _ Y O hf O O (λ_=>.tuple #[]) (λi=>aL o i.1 i.2) (λi=>cZ [[59]] ap=some i.2/\Sl ag 3 j i.1.1 i.1.2 i.2) (λ_=>cA) (λi=>aL o i.1 i.2) (λ_=>cZ [[59]] ap=none) ([j,J]) (by simp) (λw a=>(hd o j c_ ap J _ _ [[59]] w N dc a).mono λe w' h=>by
      rcases h with ⟨u,q,b,c,g,v⟩ | ⟨u,q,b,c,g⟩
      · exact .inl ⟨(u,q),b,⟨c,g⟩,v⟩
      · exact .inr ⟨(u,q),b,c,g⟩) ?_ ?_
  ·intro ⟨z,A⟩ y;rw [dX] at y;refine Ep ?_;refine b6 λw' a=>?_;exact .inr ⟨z,A,O,by simp only [eh,eM,eR,eJ,eS,eK,eL,B,D,aH,aI,y,Option.bind_some,Option.map_some,Option.bind_none,Option.map_none],(by have h:=a; have h:=Wt 1 h; have h:=Ws.cv h (ah:=[j]) (by simp); exact h)⟩
  intro ⟨P,Q⟩ ⟨C,R⟩;have au:=hc dd C;rw [dX] at C;refine ae (aa (I (b8 1 O O iK O) (aO 2 Y O O O nF O O O (ae (aX ?_)))));refine WE.ee (gL O (dI 2 O O iK O)) λw' a=>?_;exact .inl ⟨bl.mk 6 [] [] [b4] [] [],⟨(some ⟨de,0,none⟩,1),((none,0):Option Addr×Nat),((none,0):Option Addr×Nat)⟩,P,Q,O,by simp only [eh,eM,eR,eJ,eS,eK,eL,B,D,aH,aI,C,Option.bind_some,Option.map_some,Option.bind_none,Option.map_none],⟨(jA dg (cF a (by simp) df) (cF a (by simp) da) ((gH.nil c' 6).snoc (bw.refl _) (bw.refl _) db)),Sl.nil,Sl.nil⟩,R,Wv 3 (Wt 1 a)⟩
 obtain ⟨H,dh⟩:=c9 bh;subst dh;refine aa (ad O ?_);refine Lw [_] _ Y O gF O O _ _ _ [j] (by simp) (λw a=>gG o j b2 l [111,117,116] w b3 a) ?_;intro ⟨es,b7,aJ⟩ ⟨di,dj,b9⟩;refine ai O (ae ?_);refine Cc O (λbj=>?_) (λbj=>?_)
 ·have aK:=di bj;have bk:=hb af aK;refine Cr (ad O ?_)
  refine hW (ι:=(aV×(Option Addr×Nat))×(Option Addr×Nat)×Tk) (κ:=(Option Addr×Nat)×Tk) [_] _ Y O mP O O (λi=>.agg #[.int .i64 (i.1.1).op,.int .i64 (i.1.1).n,st (i.1.1).mod,st (i.1.1).nm,.slice i.1.2.1 (i.1.1).args.length i.1.2.2]) (λi=>aL o i.2.1 i.2.2) (λE i=>cC 6 aJ=some (i.1.1,i.2.2)/\Sl (ff 6) 5 E i.1.2.1 i.1.2.2 i.1.1.args/\Sl ag 3 j i.2.1.1 i.2.1.2 i.2.2) (λ_=>cA) (λi=>aL o i.1 i.2) (λ_=>cC 6 aJ=none) ([j]) (by simp) (λ_ _ h=>h) (λw a=>((λo r l d w b c g v=>qz j 6 o r l d w b c g v) o b7 aJ 1 w O bk b9 a).mono λe w' h=>by
      rcases h with ⟨x,s,u,q,b,c,g,v,F⟩ | ⟨u,q,b,c,g⟩
      · exact .inl ⟨((x,s),u,q),b,⟨c,g,v⟩,F⟩
      · exact .inr ⟨(u,q),b,c,g⟩) ?_ ?_
  ·intro ⟨z,A⟩ y;refine WE.ck (Ep ?_);refine b6 λw' a=>?_;exact .inr ⟨z,A,O,by simp only [eh,eM,eR,eJ,eS,eK,eL,B,D,H,aK,y,Option.bind_some,Option.map_some,Option.bind_none,Option.map_none],(by have h:=a; have h:=Wt 1 h; exact h)⟩
  intro dk ⟨⟨b',b_⟩,dl,av⟩ dm ⟨aM,dn,dp⟩;have dq:cW av:=mM bk aM;have et:av.length+1<=List.length (aJ):=mN bk aM;refine Lb Y O jB O O O O λdr=>?_;refine LN (rd:=jz) (f:=XE.cells) (m:=1) 0 [(b',b_.1,b_.2)] O O (λk G=>by simp [aL,aq] at G; subst G; simp [dM,aL,aq,bY]) XE.aj (λ_ _ _ _ h=>h) (show 1<=1 by decide) (by decide) λeu ds dt=>?_;refine I (Yf mc O) (aO 1 Y O O O dP O O O (I (Yf mL O) (aO 1 Y O O O oH O O O (Ln (Eb (Et (aa (ad O ?_))))))));refine Lb Y O dT O O O O λar=>?_;refine a7 (T:=9) (m:=1) 0 [[59]] O O (show 1<=1 by decide) (by decide) λJ N=>?_
  refine dF (ι:=(Option Addr×Nat)×Tk) (κ:=(Option Addr×Nat)×Tk) [_] _ Y O hf O O (λ_=>.tuple #[]) (λi=>aL o i.1 i.2) (λi=>cZ [[59]] av=some i.2/\Sl ag 3 j i.1.1 i.1.2 i.2) (λ_=>cA) (λi=>aL o i.1 i.2) (λ_=>cZ [[59]] av=none) ([j,J]) (by simp) (λw a=>(hd o j dl av J _ _ [[59]] w N dp a).mono λe w' h=>by
      rcases h with ⟨u,q,b,c,g,v⟩ | ⟨u,q,b,c,g⟩
      · exact .inl ⟨(u,q),b,⟨c,g⟩,v⟩
      · exact .inr ⟨(u,q),b,c,g⟩) ?_ ?_
  ·intro ⟨z,A⟩ y;rw [dX] at y;refine Ep ?_;refine b6 λw' a=>?_;exact .inr ⟨z,A,O,by simp only [eh,eM,eR,eJ,eS,eK,eL,B,D,H,aK,aM,y,Option.bind_some,Option.map_some,Option.bind_none,Option.map_none],(by have h:=a; have h:=Wt 1 h; have h:=Ws.cv h (ah:=[j]) (by simp); exact h)⟩
  intro ⟨P,Q⟩ ⟨C,R⟩;have au:=hc dq C;rw [dX] at C;refine ae (aa (I (b8 1 O O iK O) (aO 2 Y O O O nF O O O (ae (aX ?_)))));refine WE.ee (gL O (dI 2 O O iK O)) λw' a=>?_;exact .inl ⟨bl.mk 7 [] [] [b'] [] [],⟨(some ⟨dr,0,none⟩,1),((none,0):Option Addr×Nat),((none,0):Option Addr×Nat)⟩,P,Q,O,by simp only [eh,eM,eR,eJ,eS,eK,eL,B,D,H,aK,aM,C,Option.bind_some,Option.map_some,Option.bind_none,Option.map_none],⟨(jA dt (cF a (by simp) ds) (cF a (by simp) dm) ((gH.nil dk 6).snoc (bw.refl _) (bw.refl _) dn)),Sl.nil,Sl.nil⟩,R,Wv 3 (Wt 1 a)⟩
 obtain ⟨K,du⟩:=dj bj;subst du;refine aa (ad O ?_)
 refine dF (ι:=(Tx×Tx)×(Option Addr×Nat)×Tk) (κ:=(Option Addr×Nat)×Tk) [_] _ Y O Hh O O (λi=>.tuple #[st i.1.1,st i.1.2]) (λi=>aL o i.2.1 i.2.2) (λi=>h6 l=some (i.1,i.2.2)/\Sl ag 3 j i.2.1.1 i.2.1.2 i.2.2) (λ_=>cA) (λi=>aL o i.1 i.2) (λ_=>h6 l=none) ([j]) (by simp) (λw a=>(G' o j b7 l w af b9 a).mono λe w' h=>by
     rcases h with ⟨t,u,q,b,c,g,v⟩ | ⟨u,q,b,c,g⟩
     · exact .inl ⟨(t,u,q),b,⟨c,g⟩,v⟩
     · exact .inr ⟨(u,q),b,c,g⟩) ?_ ?_
 ·intro ⟨z,A⟩ y;refine Ep (WE.ck (Ep ?_));refine b6 λw' a=>?_;exact .inr ⟨z,A,O,by simp only [eh,eM,eR,eJ,eS,eK,eL,B,D,H,K,y,Option.bind_some,Option.map_some,Option.bind_none,Option.map_none],(by have h:=a; have h:=Wt 1 h; exact h)⟩
 intro ⟨X,dv,aw⟩ ⟨L,dw⟩;have bm:=G6 af L;refine ad O (I (Yx O O) (I (Yx O O) (I (Yf gn O) (aO 1 Y O O O tg O O O (I (Yf uQ O) (aO 1 Y O O O tg O O O (ae (Cb (aa ?_)))))))));refine ad O ?_;refine Lw [_] _ Y O gF O O _ _ _ [j] (by simp) (λw a=>gG o j dv aw [40] w dw a) ?_;intro ⟨ev,ca,bn⟩ ⟨dx,dy,cb⟩;refine ai O (ae ?_);refine Cc O (λbo=>?_) (λbo=>?_)
 ·have aN:=dx bo;have cc:=hb bm aN;refine Cr (ad O ?_)
  refine hW (ι:=((List aV)×(Option Addr×Nat))×(Option Addr×Nat)×Tk) (κ:=(Option Addr×Nat)×Tk) [_] _ Y O Hi O O (λi=>.slice i.1.2.1 i.1.1.length i.1.2.2) (λi=>aL o i.2.1 i.2.2) (λE i=>iI (cC 6) bn=some (i.1.1,i.2.2)/\Sl (ff (6+1)) 5 E i.1.2.1 i.1.2.2 i.1.1/\Sl ag 3 j i.2.1.1 i.2.1.2 i.2.2) (λ_=>cA) (λi=>aL o i.1 i.2) (λ_=>iI (cC 6) bn=none) ([j]) (by simp) (λ_ _ h=>h) (λw a=>(Hc o j ca bn 6 (1) w (λo r l d w b c g v=>qz j 6 o r l d w b c g v) (by omega) cc cb a).mono λe w' h=>by
      rcases h with ⟨x,s,u,q,b,c,g,v,F⟩ | ⟨u,q,b,c,g⟩
      · exact .inl ⟨((x,s),u,q),b,⟨c,g,v⟩,F⟩
      · exact .inr ⟨(u,q),b,c,g⟩) ?_ ?_
  ·intro ⟨z,A⟩ y;refine WE.ck (WE.ck (Ep ?_));refine b6 λw' a=>?_;exact .inr ⟨z,A,O,by simp only [eh,eM,eR,eJ,eS,eK,eL,B,D,H,K,L,aN,y,Option.bind_some,Option.map_some,Option.bind_none,Option.map_none],(by have h:=a; have h:=Wt 1 h; exact h)⟩
  intro ew ⟨⟨dz,dA⟩,dB,aP⟩ dC ⟨bp,dD,dE⟩;have dG:cW aP:=P8 cc bp;refine I (Yf mc O) (aO 1 Y O O O dP O O O (I (Yf mL O) (aO 1 Y O O O oH O O O (Ln (Eb (Eb (Et (aa (ad O ?_)))))))));refine Lb Y O dT O O O O λar=>?_;refine a7 (T:=9) (m:=1) 0 [[59]] O O (show 1<=1 by decide) (by decide) λJ N=>?_
  refine dF (ι:=(Option Addr×Nat)×Tk) (κ:=(Option Addr×Nat)×Tk) [_] _ Y O hf O O (λ_=>.tuple #[]) (λi=>aL o i.1 i.2) (λi=>cZ [[59]] aP=some i.2/\Sl ag 3 j i.1.1 i.1.2 i.2) (λ_=>cA) (λi=>aL o i.1 i.2) (λ_=>cZ [[59]] aP=none) ([j,J]) (by simp) (λw a=>(hd o j dB aP J _ _ [[59]] w N dE a).mono λe w' h=>by
      rcases h with ⟨u,q,b,c,g,v⟩ | ⟨u,q,b,c,g⟩
      · exact .inl ⟨(u,q),b,⟨c,g⟩,v⟩
      · exact .inr ⟨(u,q),b,c,g⟩) ?_ ?_
  ·intro ⟨z,A⟩ y;rw [dX] at y;refine Ep ?_;refine b6 λw' a=>?_;exact .inr ⟨z,A,O,by simp only [eh,eM,eR,eJ,eS,eK,eL,B,D,H,K,L,aN,bp,y,Option.bind_some,Option.map_some,Option.bind_none,Option.map_none],(by have h:=a; have h:=Wt 1 h; have h:=Ws.cv h (ah:=[j]) (by simp); exact h)⟩
  intro ⟨P,Q⟩ ⟨C,R⟩;have au:=hc dG C;rw [dX] at C;refine ae (aa (I (b8 1 O O iK O) (aO 2 Y O O O nF O O O (ae (aX ?_)))));refine WE.ee (gL O (dI 2 O O iK O)) λw' a=>?_;exact .inl ⟨bl.mk 3 X.1 X.2 dz [] [],⟨dA,((none,0):Option Addr×Nat),((none,0):Option Addr×Nat)⟩,P,Q,O,by simp only [eh,eM,eR,eJ,eS,eK,eL,B,D,H,K,L,aN,bp,C,Option.bind_some,Option.map_some,Option.bind_none,Option.map_none],⟨(gO dD (cF a (by simp) dC)),Sl.nil,Sl.nil⟩,R,Wv 2 (Wt 1 a)⟩
 obtain ⟨M,dH⟩:=dy bo;subst dH;refine aa (ad O ?_);refine Lw [_] _ Y O gF O O _ _ _ [j] (by simp) (λw a=>gG o j ca aw [91] w cb a) ?_;intro ⟨ex,cd,aQ⟩ ⟨dJ,dK,ce⟩;refine ai O (ae ?_);refine Cc O (λbq=>?_) (λbq=>?_)
 ·have S:=dJ bq;have br:=hb bm S;refine aa (ad O ?_)
  refine hW (ι:=(aV×(Option Addr×Nat))×(Option Addr×Nat)×Tk) (κ:=(Option Addr×Nat)×Tk) [_] _ Y O mP O O (λi=>.agg #[.int .i64 (i.1.1).op,.int .i64 (i.1.1).n,st (i.1.1).mod,st (i.1.1).nm,.slice i.1.2.1 (i.1.1).args.length i.1.2.2]) (λi=>aL o i.2.1 i.2.2) (λE i=>cC 6 aQ=some (i.1.1,i.2.2)/\Sl (ff 6) 5 E i.1.2.1 i.1.2.2 i.1.1.args/\Sl ag 3 j i.2.1.1 i.2.1.2 i.2.2) (λ_=>cA) (λi=>aL o i.1 i.2) (λ_=>cC 6 aQ=none) ([j]) (by simp) (λ_ _ h=>h) (λw a=>((λo r l d w b c g v=>qz j 6 o r l d w b c g v) o cd aQ 1 w O br ce a).mono λe w' h=>by
      rcases h with ⟨x,s,u,q,b,c,g,v,F⟩ | ⟨u,q,b,c,g⟩
      · exact .inl ⟨((x,s),u,q),b,⟨c,g,v⟩,F⟩
      · exact .inr ⟨(u,q),b,c,g⟩) ?_ ?_
  ·intro ⟨z,A⟩ y;refine Ep (WE.ck (WE.ck (Ep ?_)));refine b6 λw' a=>?_;exact .inr ⟨z,A,O,by simp only [eh,eM,eR,eJ,eS,eK,eL,B,D,H,K,L,M,S,y,Option.bind_some,Option.map_some,Option.bind_none,Option.map_none],(by have h:=a; have h:=Wt 1 h; exact h)⟩
  intro ey ⟨⟨aR,aT⟩,dL,ax⟩ cf ⟨U,cg,dN⟩;have dO:cW ax:=mM br U;have ez:ax.length+1<=List.length (aQ):=mN br U;refine Al Y O h7 λeA=>?_;refine aO 0 Y O O O bz O O O (ae (aa (ad O ?_)));refine Lb Y O dT O O O O λeB=>?_;refine a7 (T:=9) (m:=2) 0 [[93],[61]] O O (show 2<=2 by decide) (by decide) λch dQ=>?_;refine Lf 1 O ?_
  refine dF (ι:=(Option Addr×Nat)×Tk) (κ:=(Option Addr×Nat)×Tk) [_] _ Y O hf O O (λ_=>.tuple #[]) (λi=>aL o i.1 i.2) (λi=>cZ [[93],[61]] ax=some i.2/\Sl ag 3 j i.1.1 i.1.2 i.2) (λ_=>cA) (λi=>aL o i.1 i.2) (λ_=>cZ [[93],[61]] ax=none) ([j,ch]) (by simp) (λw a=>(hd o j dL ax ch _ _ [[93],[61]] w dQ dN a).mono λe w' h=>by
      rcases h with ⟨u,q,b,c,g,v⟩ | ⟨u,q,b,c,g⟩
      · exact .inl ⟨(u,q),b,⟨c,g⟩,v⟩
      · exact .inr ⟨(u,q),b,c,g⟩) ?_ ?_
  ·intro ⟨z,A⟩ y;refine Ep (WE.ck (WE.ck (Ep ?_)));refine b6 λw' a=>?_
   rcases P9 y with y | ⟨ay,dR,y⟩
   · exact .inr ⟨z,A,O,by simp only [eh,eM,eR,eJ,eS,eK,eL,B,D,H,K,L,M,S,U,y,Option.bind_some,Option.map_some,Option.bind_none,Option.map_none],(by have h:=a; have h:=Wt 1 h; have h:=Ws.cv h (ah:=[j]) (by simp); exact h)⟩
   · exact .inr ⟨z,A,O,by simp only [eh,eM,eR,eJ,eS,eK,eL,B,D,H,K,L,M,S,U,dR,y,Option.bind_some,Option.map_some,Option.bind_none,Option.map_none],(by have h:=a; have h:=Wt 1 h; have h:=Ws.cv h (ah:=[j]) (by simp); exact h)⟩
  intro ⟨dS,aU⟩ ⟨ak,dU⟩;have bs:=hc dO ak;refine ae ?_;refine CU (λ_=>true) [2,0] [7] (.q true 0 (.q false 1 (.q false 4 (.e 2 (.e 3 (.e 5 (.q false 6 .nil) .stop) (.e 5 (.e 3 (.q false 6 .nil) .stop) .stop)) .stop)))) mixed (by kernel_rfl) (λ_ _ _ d _ _ h=>by cases d<;>exact h) ?_;refine U0 O (cK [2,0]) (b8 0 O O jd O) (U0 O (cK [2,0]) (Ym O) (U0 O (cK [2,0]) (Yf mc O) ?_));refine Ue O (cK [2,0]) ?_ WU.stop
  refine hW (ι:=(aV×(Option Addr×Nat))×(Option Addr×Nat)×Tk) (κ:=(Option Addr×Nat)×Tk) [_] _ Y O mP O O (λi=>.agg #[.int .i64 (i.1.1).op,.int .i64 (i.1.1).n,st (i.1.1).mod,st (i.1.1).nm,.slice i.1.2.1 (i.1.1).args.length i.1.2.2]) (λi=>aL o i.2.1 i.2.2) (λE i=>cC 6 aU=some (i.1.1,i.2.2)/\Sl (ff 6) 5 E i.1.2.1 i.1.2.2 i.1.1.args/\Sl ag 3 j i.2.1.1 i.2.1.2 i.2.2) (λ_=>cA) (λi=>aL o i.1 i.2) (λ_=>cC 6 aU=none) ([j]) (by simp) (λ_ _ h=>h) (λw a=>((λo r l d w b c g v=>qz j 6 o r l d w b c g v) o dS aU 1 w O bs dU a).mono λe w' h=>by
      rcases h with ⟨x,s,u,q,b,c,g,v,F⟩ | ⟨u,q,b,c,g⟩
      · exact .inl ⟨((x,s),u,q),b,⟨c,g,v⟩,F⟩
      · exact .inr ⟨(u,q),b,c,g⟩) ?_ ?_
  ·intro ⟨z,A⟩ y;refine Ep (WE.ck (WE.ck (Ep ?_)));refine b6 λw' a=>?_;obtain ⟨ay,V,W⟩:=uW ak;exact .inr ⟨z,A,O,by simp only [eh,eM,eR,eJ,eS,eK,eL,B,D,H,K,L,M,S,U,V,W,y,Option.bind_some,Option.map_some,Option.bind_none,Option.map_none],(by have h:=a; have h:=Wt 1 h; have h:=Ws.cv h (ah:=[j]) (by simp); exact h)⟩
  intro eC ⟨⟨aW,aY⟩,ci,Z⟩ cl ⟨al,cm,cn⟩;have co:cW Z:=mM bs al;have eD:Z.length+1<=List.length (aU):=mN bs al;refine Ln (Eu ?_);refine Ue O (λ_ h=>(Wv 1 (Wo 0 (Wo 2 h)):)) ?_ ?_
  ·refine Lb Y O jB O O O O λbt=>?_;refine LN (rd:=jz) (f:=XE.cells) (m:=2) 0 [(aR,aT.1,aT.2),(aW,aY.1,aY.2)] O O (λk G=>by simp [aL,aq] at G; subst G; simp [dM,aL,aq,bY]) XE.aj (λ_ _ _ _ h=>h) (show 2<=2 by decide) (by decide) λdV bu bv=>?_;refine Ln (Eu ?_);refine Ue O (λ_ h=>(Wv 2 (Wo 0 (Wo 2 h)):)) ?_ WU.stop;refine aO 2 Y O O O dP O O O (Ln (Eu (U0 O (λ_ h=>(Wv 2 (Wo 0 (Wo 2 h)):)) (Yf mL O) ?_)));refine WU.nil (λ_ h=>(Wv 2 (Wo 0 (Wo 2 h)):)) ?_;refine WS.e O ?_;refine aO 2 Y O O O oH O O O (Ln (Es ?_));refine WS.nil ?_;refine Eb (Eb (Et (aa (ad O ?_))));refine Lb Y O dT O O O O λar=>?_;refine a7 (T:=9) (m:=1) 0 [[59]] O O (show 1<=1 by decide) (by decide) λJ N=>?_
   refine dF (ι:=(Option Addr×Nat)×Tk) (κ:=(Option Addr×Nat)×Tk) [_] _ Y O hf O O (λ_=>.tuple #[]) (λi=>aL o i.1 i.2) (λi=>cZ [[59]] Z=some i.2/\Sl ag 3 j i.1.1 i.1.2 i.2) (λ_=>cA) (λi=>aL o i.1 i.2) (λ_=>cZ [[59]] Z=none) ([j,J]) (by simp) (λw a=>(hd o j ci Z J _ _ [[59]] w N cn a).mono λe w' h=>by
       rcases h with ⟨u,q,b,c,g,v⟩ | ⟨u,q,b,c,g⟩
       · exact .inl ⟨(u,q),b,⟨c,g⟩,v⟩
       · exact .inr ⟨(u,q),b,c,g⟩) ?_ ?_
   ·intro ⟨z,A⟩ y;rw [dX] at y;refine Ep ?_;refine b6 λw' a=>?_;obtain ⟨ay,V,W⟩:=uW ak;exact .inr ⟨z,A,O,by simp only [eh,eM,eR,eJ,eS,eK,eL,B,D,H,K,L,M,S,U,V,W,al,y,Option.bind_some,Option.map_some,Option.bind_none,Option.map_none],(by have h:=a; have h:=Wt 1 h; have h:=Ws.cv h (ah:=[j]) (by simp); exact h)⟩
   intro ⟨P,Q⟩ ⟨C,R⟩;have au:=hc co C;rw [dX] at C;refine ae (aa (I (b8 2 O O iK O) (aO 3 Y O O O nF O O O (ae (aX ?_)))));refine WE.ee (gL O (dI 3 O O iK O)) λw' a=>?_;obtain ⟨ay,V,W⟩:=uW ak;exact .inl ⟨bl.mk 2 X.1 X.2 [aR,aW] [] [],⟨(some ⟨bt,0,none⟩,2),((none,0):Option Addr×Nat),((none,0):Option Addr×Nat)⟩,P,Q,O,by simp only [eh,eM,eR,eJ,eS,eK,eL,B,D,H,K,L,M,S,U,V,W,al,C,Option.bind_some,Option.map_some,Option.bind_none,Option.map_none],⟨(jA bv (cF a (by simp) bu) (bw.refl _) (((gH.nil (nv w w') 6).snoc (bw.refl _) (cF a (by simp) cf) cg).snoc (bw.refl _) (cF a (by simp) cl) cm)),Sl.nil,Sl.nil⟩,R,Wv 5 (Wt 1 a)⟩
  refine Ue O (λ_ h=>(Wv 1 (Wo 0 (Wo 2 h)):)) ?_ WU.stop;refine aO 2 Y O O O dP O O O (Ln (Eu ?_));refine Ue O (λ_ h=>(Wv 1 (Wo 0 (Wo 2 h)):)) ?_ WU.stop;refine Lb Y O jB O O O O λbt=>?_;refine LN (rd:=jz) (f:=XE.cells) (m:=2) 0 [(aR,aT.1,aT.2),(aW,aY.1,aY.2)] O O (λk G=>by simp [aL,aq] at G; subst G; simp [dM,aL,aq,bY]) XE.aj (λ_ _ _ _ h=>h) (show 2<=2 by decide) (by decide) λdV bu bv=>?_;refine Ln (Eu (U0 O (λ_ h=>(Wv 2 (Wo 0 (Wo 2 h)):)) (Yf mL O) ?_));refine WU.nil (λ_ h=>(Wv 2 (Wo 0 (Wo 2 h)):)) ?_;refine WS.e O ?_;refine aO 2 Y O O O oH O O O (Ln (Es ?_));refine WS.nil ?_;refine Eb (Eb (Et (aa (ad O ?_))));refine Lb Y O dT O O O O λar=>?_;refine a7 (T:=9) (m:=1) 0 [[59]] O O (show 1<=1 by decide) (by decide) λJ N=>?_
  refine dF (ι:=(Option Addr×Nat)×Tk) (κ:=(Option Addr×Nat)×Tk) [_] _ Y O hf O O (λ_=>.tuple #[]) (λi=>aL o i.1 i.2) (λi=>cZ [[59]] Z=some i.2/\Sl ag 3 j i.1.1 i.1.2 i.2) (λ_=>cA) (λi=>aL o i.1 i.2) (λ_=>cZ [[59]] Z=none) ([j,J]) (by simp) (λw a=>(hd o j ci Z J _ _ [[59]] w N cn a).mono λe w' h=>by
      rcases h with ⟨u,q,b,c,g,v⟩ | ⟨u,q,b,c,g⟩
      · exact .inl ⟨(u,q),b,⟨c,g⟩,v⟩
      · exact .inr ⟨(u,q),b,c,g⟩) ?_ ?_
  ·intro ⟨z,A⟩ y;rw [dX] at y;refine Ep ?_;refine b6 λw' a=>?_;obtain ⟨ay,V,W⟩:=uW ak;exact .inr ⟨z,A,O,by simp only [eh,eM,eR,eJ,eS,eK,eL,B,D,H,K,L,M,S,U,V,W,al,y,Option.bind_some,Option.map_some,Option.bind_none,Option.map_none],(by have h:=a; have h:=Wt 1 h; have h:=Ws.cv h (ah:=[j]) (by simp); exact h)⟩
  intro ⟨P,Q⟩ ⟨C,R⟩;have au:=hc co C;rw [dX] at C;refine ae (aa (I (b8 2 O O iK O) (aO 3 Y O O O nF O O O (ae (aX ?_)))));refine WE.ee (gL O (dI 3 O O iK O)) λw' a=>?_;obtain ⟨ay,V,W⟩:=uW ak;exact .inl ⟨bl.mk 2 X.1 X.2 [aR,aW] [] [],⟨(some ⟨bt,0,none⟩,2),((none,0):Option Addr×Nat),((none,0):Option Addr×Nat)⟩,P,Q,O,by simp only [eh,eM,eR,eJ,eS,eK,eL,B,D,H,K,L,M,S,U,V,W,al,C,Option.bind_some,Option.map_some,Option.bind_none,Option.map_none],⟨(jA bv (cF a (by simp) bu) (bw.refl _) (((gH.nil (nv w w') 6).snoc (bw.refl _) (cF a (by simp) cf) cg).snoc (bw.refl _) (cF a (by simp) cl) cm)),Sl.nil,Sl.nil⟩,R,Wv 5 (Wt 1 a)⟩
 obtain ⟨aZ,dW⟩:=dK bq;subst dW;refine aa (ad O ?_);refine Lb Y O dT O O O O λeE=>?_;refine a7 (T:=9) (m:=1) 0 [[61]] O O (show 1<=1 by decide) (by decide) λcp dY=>?_
 refine dF (ι:=(Option Addr×Nat)×Tk) (κ:=(Option Addr×Nat)×Tk) [_] _ Y O hf O O (λ_=>.tuple #[]) (λi=>aL o i.1 i.2) (λi=>cZ [[61]] aw=some i.2/\Sl ag 3 j i.1.1 i.1.2 i.2) (λ_=>cA) (λi=>aL o i.1 i.2) (λ_=>cZ [[61]] aw=none) ([j,cp]) (by simp) (λw a=>(hd o j cd aw cp _ _ [[61]] w dY ce a).mono λe w' h=>by
     rcases h with ⟨u,q,b,c,g,v⟩ | ⟨u,q,b,c,g⟩
     · exact .inl ⟨(u,q),b,⟨c,g⟩,v⟩
     · exact .inr ⟨(u,q),b,c,g⟩) ?_ ?_
 ·intro ⟨z,A⟩ y;rw [dX] at y;refine Ep (WE.ck (WE.ck (Ep ?_)));refine b6 λw' a=>?_;exact .inr ⟨z,A,O,by simp only [eh,eM,eR,eJ,eS,eK,eL,B,D,H,K,L,M,aZ,y,Option.bind_some,Option.map_some,Option.bind_none,Option.map_none],(by have h:=a; have h:=Wt 1 h; have h:=Ws.cv h (ah:=[j]) (by simp); exact h)⟩
 intro ⟨dZ,a0⟩ ⟨az,d0⟩;have bx:=hc bm az;rw [dX] at az;refine ae (Cr (ad O ?_))
 refine hW (ι:=(aV×(Option Addr×Nat))×(Option Addr×Nat)×Tk) (κ:=(Option Addr×Nat)×Tk) [_] _ Y O mP O O (λi=>.agg #[.int .i64 (i.1.1).op,.int .i64 (i.1.1).n,st (i.1.1).mod,st (i.1.1).nm,.slice i.1.2.1 (i.1.1).args.length i.1.2.2]) (λi=>aL o i.2.1 i.2.2) (λE i=>cC 6 a0=some (i.1.1,i.2.2)/\Sl (ff 6) 5 E i.1.2.1 i.1.2.2 i.1.1.args/\Sl ag 3 j i.2.1.1 i.2.1.2 i.2.2) (λ_=>cA) (λi=>aL o i.1 i.2) (λ_=>cC 6 a0=none) ([j]) (by simp) (λ_ _ h=>h) (λw a=>((λo r l d w b c g v=>qz j 6 o r l d w b c g v) o dZ a0 1 w O bx d0 a).mono λe w' h=>by
     rcases h with ⟨x,s,u,q,b,c,g,v,F⟩ | ⟨u,q,b,c,g⟩
     · exact .inl ⟨((x,s),u,q),b,⟨c,g,v⟩,F⟩
     · exact .inr ⟨(u,q),b,c,g⟩) ?_ ?_
 ·intro ⟨z,A⟩ y;refine WE.ck (WE.ck (Ep ?_));refine b6 λw' a=>?_;exact .inr ⟨z,A,O,by simp only [eh,eM,eR,eJ,eS,eK,eL,B,D,H,K,L,M,aZ,az,y,Option.bind_some,Option.map_some,Option.bind_none,Option.map_none],(by have h:=a; have h:=Wt 1 h; have h:=Ws.cv h (ah:=[j]) (by simp); exact h)⟩
 intro d1 ⟨⟨cq,cr⟩,d2,aA⟩ d3 ⟨a1,d4,d5⟩;have d6:cW aA:=mM bx a1;have eF:aA.length+1<=List.length (a0):=mN bx a1;refine Lb Y O jB O O O O λd7=>?_;refine LN (rd:=jz) (f:=XE.cells) (m:=1) 0 [(cq,cr.1,cr.2)] O O (λk G=>by simp [aL,aq] at G; subst G; simp [dM,aL,aq,bY]) XE.aj (λ_ _ _ _ h=>h) (show 1<=1 by decide) (by decide) λeG d8 d9=>?_;refine I (Yf mc O) (aO 1 Y O O O dP O O O (I (Yf mL O) (aO 1 Y O O O oH O O O (Ln (Eb (Eb (Et (aa (ad O ?_)))))))));refine Lb Y O dT O O O O λar=>?_;refine a7 (T:=9) (m:=1) 0 [[59]] O O (show 1<=1 by decide) (by decide) λJ N=>?_
 refine dF (ι:=(Option Addr×Nat)×Tk) (κ:=(Option Addr×Nat)×Tk) [_] _ Y O hf O O (λ_=>.tuple #[]) (λi=>aL o i.1 i.2) (λi=>cZ [[59]] aA=some i.2/\Sl ag 3 j i.1.1 i.1.2 i.2) (λ_=>cA) (λi=>aL o i.1 i.2) (λ_=>cZ [[59]] aA=none) ([j,J]) (by simp) (λw a=>(hd o j d2 aA J _ _ [[59]] w N d5 a).mono λe w' h=>by
     rcases h with ⟨u,q,b,c,g,v⟩ | ⟨u,q,b,c,g⟩
     · exact .inl ⟨(u,q),b,⟨c,g⟩,v⟩
     · exact .inr ⟨(u,q),b,c,g⟩) ?_ ?_
 ·intro ⟨z,A⟩ y;rw [dX] at y;refine Ep ?_;refine b6 λw' a=>?_;exact .inr ⟨z,A,O,by simp only [eh,eM,eR,eJ,eS,eK,eL,B,D,H,K,L,M,aZ,az,a1,y,Option.bind_some,Option.map_some,Option.bind_none,Option.map_none],(by have h:=a; have h:=Wt 1 h; have h:=Ws.cv h (ah:=[j]) (by simp); exact h)⟩
 intro ⟨P,Q⟩ ⟨C,R⟩;have au:=hc d6 C;rw [dX] at C;refine ae (aa (I (b8 1 O O iK O) (aO 2 Y O O O nF O O O (ae (aX ?_)))));refine WE.ee (gL O (dI 2 O O iK O)) λw' a=>?_;exact .inl ⟨bl.mk 1 X.1 X.2 [cq] [] [],⟨(some ⟨d7,0,none⟩,1),((none,0):Option Addr×Nat),((none,0):Option Addr×Nat)⟩,P,Q,O,by simp only [eh,eM,eR,eJ,eS,eK,eL,B,D,H,K,L,M,aZ,az,a1,C,Option.bind_some,Option.map_some,Option.bind_none,Option.map_none],⟨(jA d9 (cF a (by simp) d8) (cF a (by simp) d3) ((gH.nil d1 6).snoc (bw.refl _) (bw.refl _) d4)),Sl.nil,Sl.nil⟩,R,Wv 4 (Wt 1 a)⟩
theorem Hl (b:View) (f:Nat) (j:Nat) (r:Option Addr×Nat) (l:Tk) (d:Nat) (w:World) (aR:f+d=7) (F:cW l) (af:Sl ag 3 b r.1 r.2 l) (o:Ws w (List.flatMap aS.ids (aL j r l)) (aL j r l) [b] w) :
   Calls Tryz.prog 123 #[.pointer (some ⟨j,0,none⟩),.int .i64 (d:Int)] w λe w'=>(∃(x:List bl) (s:Option Addr×Nat) (t:Option Addr×Nat) (q:Tk),e = .returned (.slice s.1 x.length s.2)/\fb f l=some (x,q)/\Sl (a6 7 f) 6 (nv w w') s.1 s.2 x/\Sl ag 3 b t.1 t.2 q/\Ws w (List.flatMap aS.ids (aL j r l)) (aL j t q) [b] w')\/(∃(t:Option Addr×Nat) (q:Tk),e = .panicked cA/\fb f l=none/\Ws w (List.flatMap aS.ids (aL j r l)) (aL j t q) [b] w'):=by
 induction f using Nat.strongRecOn generalizing j r l d w
 rename_i f ak;refine enter Tryz.func123 O 23 O O ?_;refine CE o (aa (ai O (ae (Cs (aa (ad O (I (dc O O) (ae ?_))))))));refine Cc O (λG=>?_) (λG=>?_)
 ·have al:fb f l=none:=by
    obtain rfl:f=0:=by simp at G; omega
    rfl
  refine Cr (I (Yb pD pC O O) (I (bL pE O) ?_));refine WL.panic Y O ?_;refine Ep ?_;refine b6 λw' o=>?_;exact .inr ⟨r,l,O,al,(by have h:=o; exact h)⟩
 have aT:¬6<d:=by simp at G; omega
 obtain ⟨f,rfl⟩:∃k,f=k+1:=⟨f-1,by omega⟩;have am:Hk b f:=λj r l d w u v y A=>ak f (by omega) j r l d w u v y A;refine bf (aa (ad O ?_));refine Lb Y O dT O O O O λaU=>?_;refine a7 (T:=9) (m:=1) 0 [[123]] O O (show 1<=1 by decide) (by decide) λR an=>?_
 refine dF (ι:=(Option Addr×Nat)×Tk) (κ:=(Option Addr×Nat)×Tk) [_] _ Y O hf O O (λ_=>.tuple #[]) (λi=>aL j i.1 i.2) (λi=>cZ [[123]] l=some i.2/\Sl ag 3 b i.1.1 i.1.2 i.2) (λ_=>cA) (λi=>aL j i.1 i.2) (λ_=>cZ [[123]] l=none) ([b,R]) (by simp) (λw o=>(hd j b r l R _ _ [[123]] w an af o).mono λe w' h=>by
     rcases h with ⟨t,q,u,v,y,A⟩ | ⟨t,q,u,v,y⟩
     · exact .inl ⟨(t,q),u,⟨v,y⟩,A⟩
     · exact .inr ⟨(t,q),u,v,y⟩) ?_ ?_
 ·intro ⟨H,K⟩ C;rw [dX] at C;refine Ep ?_;refine b6 λw' o=>?_;exact .inr ⟨H,K,O,by rw [fb,C]; rfl,(by have h:=o; have h:=Ws.cv h (ah:=[b]) (by simp); exact h)⟩
 intro ⟨ao,L⟩ ⟨D,ap⟩;have ar:=hc F D;rw [dX] at D;refine ae (aa (ai O (LW (λ_ h=>h.e4 242 6) ?_)));refine WL.v0 ?_;refine ae (Cs (Cb ?_));refine av (ι:=GS) (λg=>[(5,.slice g.a g.es.length g.c)]) [(0,_),(1,_),(4,_)] (λg=>Ws w (List.flatMap aS.ids (aL j r l)) (aL j g.r g.q++[cf 242 6 SX.cells g.a g.c g.es]) [g.J,b]) (λg=>(g.es.length+g.q.length<=l.length/\cW g.q)/\Sl ag 3 b g.r.1 g.r.2 g.q/\(eW w g.J/\nL g.J f g.es)/\∃n,g.q.length<n/\fb (f+1) l=(ky (eh (fb f)) n g.q).map λp=>(g.es.map (·.1)++p.1,p.2)) (λg=>g.q.length) ⟨[],none,0,v0,ao,L⟩ ⟨⟨by have:L.length+1=l.length:=ha D; simp; omega,ar⟩,ap,⟨lW w,nL.nil _ _⟩,L.length+1,by simp,by rw [fb,D]; simp⟩ (sc O (sc O (sc O (sc O sn)))) (λ_ h=>by have h:=h.bR 1 O; have h:=Ws.cv h (ah:=[v0,b]) (by simp); exact h) ?_;intro g ⟨⟨aV,E⟩,au,⟨S,U⟩,z⟩;refine Cs (aa (ad O ?_));refine Lw [_] _ Y O gF O O _ _ _ [b] (by simp) (λw o=>gG j b g.r g.q [125] w au o) ?_;intro ⟨aW,V,aw⟩ ⟨ax,ay,W⟩;refine I (az O) (ae ?_);refine Cc O (λM=>?_) (λM=>?_)
 ·obtain ⟨X,aA⟩:=ay (by simpa using M);subst aA;obtain ⟨n,aB,z⟩:=z;obtain ⟨n,rfl⟩:∃k,n=k+1:=⟨n-1,by omega⟩;refine bf (Cb (Cr (ad O (ad O (ad O ?_)))))
  refine hW (ι:=(bl×mQ)×(Option Addr×Nat)×Tk) (κ:=(Option Addr×Nat)×Tk) [_] _ Y O Qb O O (λi=>.agg #[.int .i64 (i.1.1).op,st (i.1.1).mod,st (i.1.1).nm,.slice (i.1.2).s1.1 (i.1.1).args.length (i.1.2).s1.2,.slice (i.1.2).s2.1 (i.1.1).body.length (i.1.2).s2.2,.slice (i.1.2).s3.1 (i.1.1).other.length (i.1.2).s3.2]) (λi=>aL j i.2.1 i.2.2) (λaC i=>eh (fb f) g.q=some (i.1.1,i.2.2)/\rQ f aC i.1.1 i.1.2/\Sl ag 3 b i.2.1.1 i.2.1.2 i.2.2) (λ_=>cA) (λi=>aL j i.1 i.2) (λ_=>eh (fb f) g.q=none) ([b]) (by simp) (λ_ _ h=>h) (λw o=>(Qc j b V g.q f d w am (by omega) E W o).mono λe w' h=>by
      rcases h with ⟨x,s,t,q,u,v,y,A,aD⟩ | ⟨t,q,u,v,y⟩
      · exact .inl ⟨((x,s),t,q),u,⟨v,y,A⟩,aD⟩
      · exact .inr ⟨(t,q),u,v,y⟩) ?_ ?_
  ·intro ⟨H,K⟩ C;refine WE.ck (Ep (WE.ck (Ep ?_)));refine b6 λw' o=>?_;exact .inr ⟨H,K,O,by rw [z,Qa X C]; rfl,(by have h:=o; have h:=Wt 1 h; have h:=Ws.cv h (ah:=[b]) (by simp); exact h)⟩
  intro aY ⟨⟨N,P⟩,aE,B⟩ aF ⟨Q,aG,aH⟩;have aI:cW B:=P7 E Q;have aZ:B.length<List.length (g.q):=Ot (uH f) (E).all Q;refine WL.hE λZ aJ aK aM=>?_;refine Lb Y O xx O O O O λa0=>?_;refine cD 0 (.cells (SX.cells (N,P)).toArray 242 (0,0)) O O ?_;refine LA ((N,P):SX) 2 0 Y O xx O O O O O O (by have:=F.len; omega) (by have:=F.len; omega) λaN aO=>?_;refine ai O (Ln (Eb ?_))
  exact Ea (⟨g.es++[(N,P)],aN,aO,Z,aE,B⟩:GS) (by show B.length<g.q.length; omega) ⟨⟨by simp; omega,aI⟩,aH,⟨aM _ aF S,nL.snoc U aK aJ aG⟩,n,(show B.length<n by omega),by rw [z,P_ X Q]; simp [Function.comp_def]⟩ (sc O (sc O (sc O (sc O sn)))) (λ_ h=>by
      have h:=h.bR 2 rfl;have h:=h.bR 2 rfl;have h:=Wt 2 h;have h:=Ws.cv h (ah:=[Z,b]) (by simp)
      exact h)
 have ab:=ax (by simpa using M);have a1:=hb E ab;obtain ⟨n,aB,z⟩:=z;obtain ⟨n,rfl⟩:∃k,n=k+1:=⟨n-1,by omega⟩;refine Ce (Ex (Ex (cp (Et (Cs ?_)))));refine WC.ll (rd:=xw) 1 O (λk ac=>by simp [aL,aq] at ac; subst ac; simp [dM,aL,aq,bY]) SX.aj (λ_ _ _ _ h=>h) λa2 aP aQ=>?_;refine Cr (ad O (ai O (ae (aX ?_))));refine R1 O O λw' o=>?_;exact .inl ⟨g.es.map (·.1),(g.a,g.c),V,aw,by rw [List.length_map],by rw [z,P' ab]; simp,Bk aQ (cF o (by simp) aP) (cF o (by simp) S) U,W,(Wv 2 o)⟩
theorem Qd {l r:Tk} {bx:Bool} {o:Option cB} (h:cW l) (e:eT bx l=some (o,r)):cW r:=by
 cases o with
 | none=>obtain rfl:=AJ e; exact h
 | some d=>exact pB h (FI h.all e).1
theorem Qe {l r:Tk} {bx:Bool} {d:cB} (h:cW l) (e:eT bx l=some (some d,r)):r.length<l.length:=by
 have a:=(FI h.all e).1.2;rw [a];simp [nB];omega
theorem Qf {l r:Tk} {bx:Bool} {p:dA} (h:cW l) (e:hP bx l=some (p,r)):cW r:=pB h (FL h.all e).1
theorem Bl {l r:Tk} {bx:Bool} {p:dA} (h:cW l) (e:hP bx l=some (p,r)):r.length<l.length:=by
 have a:=(FL h.all e).1.2;rw [a];simp [cg];omega
theorem lH {l r:Tk} {a:Tx} (h:cW l) (e:dz l=some (a,r)):r.length<l.length:=by
 have b:=(ow h.all e).1.2;rw [b];simp
theorem Bm {l q:Tk} {b:Bool} (a:b=true->aU [112,117,98] l=some q) (c:b=false->aU [112,117,98] l=none/\l=q):ea l=(b,q):=by
 unfold ea;rw [show cH=[112,117,98] from rfl]
 cases b with
 | true=>rw [a rfl]; rfl
 | false=>obtain ⟨d,e⟩:=c rfl; rw [d,e]; rfl
theorem Bn {l q:Tk} {b:Bool} (h:cW l) (a:b=true->aU [112,117,98] l=some q) (c:b=false->aU [112,117,98] l=none/\l=q):cW q/\q.length<=l.length:=by
 cases b with
 | true=>exact ⟨hb h (a rfl),by have:=ha (a rfl); omega⟩
 | false=>obtain ⟨_,d⟩:=c rfl; subst d; exact ⟨h,Nat.le_refl _⟩
theorem Qg {n:Nat} {first:Bool} {l q:Tk} (h:aU [41] l=some q):hr (n+1) first l=some ([],q):=by rw [hr,h]
theorem Qh {n:Nat} {l q:Tk} {a:Tx} (h:aU [41] l=none) (b:dz l=some (a,q)):hr (n+1) true l=(hr n false q).map λp=>(a::p.1,p.2):=by rw [hr,h]; simp [b]
theorem Qi {n:Nat} {l:Tk} (h:aU [41] l=none) (a:dz l=none):hr (n+1) true l=none:=by rw [hr,h]; simp [a]
theorem Qj {n:Nat} {l b q:Tk} {a:Tx} (h:aU [41] l=none) (c:aU [44] l=some b) (d:dz b=some (a,q)):hr (n+1) false l=(hr n false q).map λp=>(a::p.1,p.2):=by rw [hr,h]; simp [d,c]
theorem Qk {n:Nat} {l:Tk} (h:aU [41] l=none) (a:aU [44] l=none):hr (n+1) false l=none:=by rw [hr,h]; simp [a]
theorem Ql {n:Nat} {l a:Tk} (h:aU [41] l=none) (b:aU [44] l=some a) (c:dz a=none):hr (n+1) false l=none:=by rw [hr,h]; simp [c,b]
def isNil (l:List Tx):Bool:=match l with | []=>true | _=>false
theorem Hm (l:List Tx) (x:Tx):isNil (l++[x])=false:=by cases l<;>rfl
theorem Qm {l:List Tx} (h:¬0<l.length):isNil l=true:=by cases l with | nil=>rfl | cons _ _=>exact absurd (by simp) h
theorem Qn {l:List Tx} (h:0<l.length):isNil l=false:=by cases l with | nil=>simp at h | cons _ _=>rfl
structure qA where
 s1:Option Addr×Nat
 s2:Option Addr×Nat
 s3:Option Addr×Nat
abbrev PX:=dA×qA
def PX.cells (e:PX):List Value:=y_ e.1 e.2.s1.1 e.2.s1.2 e.2.s2.1 e.2.s2.2 e.2.s3.1 e.2.s3.2
theorem PX.aj (e:PX):(PX.cells e).length=5:=rfl
def Bo (a:View) (b o:Nat) (e:PX):Prop:=bI a b o (PX.cells e)
structure rR (N:View) (x:dA) (p:qA):Prop where
 params:Sl rdStr 1 N p.s1.1 p.s1.2 x.params
 ay:Sl rdStr 1 N p.s2.1 p.s2.2 x.ay
 body:Sl (a6 7 6) 6 N p.s3.1 p.s3.2 x.body
theorem nM {d e:View} {c:Nat} {a:Option Addr} {l:List Tx} (h:Sl rdStr 1 d a c l) (hv:bw d e):Sl rdStr 1 e a c l:=h.imp λb o y f=>dm hv b o y f
theorem Bp {d e:View} {c:Nat} {a:Option Addr} {l:List cB} (h:Sl re 4 d a c l) (hv:bw d e):Sl re 4 e a c l:=h.imp λb o y f=>DY hv b o y f
theorem rR.mv {a b:View} {x:dA} {p:qA} (h:rR a x p) (hv:bw a b):rR b x p:=⟨nM h.params hv,nM h.ay hv,pF h.body hv⟩
def oI (J:View) (es:List PX):Prop:=∀e ∈ es,rR J e.1 e.2
theorem oI.nil (J:View):oI J []:=by intro e h; simp at h
theorem oI.snoc {J c b:View} {es:List PX} {e:PX} (h:oI J es) (d:bw J b) (f:bw c b) (g:rR c e.1 e.2):oI b (es++[e]):=by
 intro x a
 rcases List.mem_append.1 a with a | a
 · exact (h x a).mv d
 · rw [List.mem_singleton] at a
   subst a;exact g.mv f
theorem Hn {g J d:View} {c:Nat} {a:Option Addr} {es:List PX} (h:Sl Bo 5 g a c es) (hv:bw g d) (l:bw J d) (m:oI J es):Sl (wv 7 6) 5 d a c (es.map (·.1)):=by
 refine ⟨by simpa using h.cap,h.max,h.spot,λi x j=>?_⟩;rw [List.getElem?_map] at j;obtain ⟨e,k,rfl⟩:=Option.map_eq_some_iff.1 j;obtain ⟨b,o,n,p⟩:=h.bJ i e k;have f:=(m e (List.mem_of_getElem? k)).mv l;exact ⟨b,o,n,e.2.s1.1,e.2.s1.2,e.2.s2.1,e.2.s2.2,e.2.s3.1,e.2.s3.2,bI.mono hv p,f.params,f.ay,f.body⟩
structure GN where
 ps:List Tx
 a:Option Addr
 c:Nat
 r:Option Addr×Nat
 q:Tk
structure GD where
 ds:List cB
 a:Option Addr
 c:Nat
 bx:Bool
 r:Option Addr×Nat
 q:Tk
structure GM where
 ps:List PX
 a:Option Addr
 c:Nat
 J:View
 bx:Bool
 r:Option Addr×Nat
 q:Tk
theorem Qo {n:Nat} {l:Tk} (h:aU [108,111,99,97,108] l=none):im (n+1) l=some ([],l):=by rw [im,show ny=[108,111,99,97,108] from rfl,h]
theorem Qp {n:Nat} {l b q c:Tk} {a:Tx} (h:aU [108,111,99,97,108] l=some b) (d:dz b=some (a,q)) (e:aU [59] q=some c):im (n+1) l=(im n c).map λp=>(a::p.1,p.2):=by rw [im,show ny=[108,111,99,97,108] from rfl,h]; simp [d,e]
theorem Qq {n:Nat} {l a:Tk} (h:aU [108,111,99,97,108] l=some a) (b:dz a=none):im (n+1) l=none:=by rw [im,show ny=[108,111,99,97,108] from rfl,h]; simp [b]
theorem Qr {n:Nat} {l b q:Tk} {a:Tx} (h:aU [108,111,99,97,108] l=some b) (c:dz b=some (a,q)) (d:aU [59] q=none):im (n+1) l=none:=by rw [im,show ny=[108,111,99,97,108] from rfl,h]; simp [c,d]
theorem Qs {n:Nat} {l:Tk} (h:aU [117,115,101] l=none):iJ (n+1) l=some ([],l):=by rw [iJ,show mE=[117,115,101] from rfl,h]
theorem Qt {n:Nat} {l b q c:Tk} {a:Tx} (h:aU [117,115,101] l=some b) (d:dz b=some (a,q)) (e:aU [59] q=some c):iJ (n+1) l=(iJ n c).map λp=>(a::p.1,p.2):=by rw [iJ,show mE=[117,115,101] from rfl,h]; simp [d,e]
theorem Qu {n:Nat} {l a:Tk} (h:aU [117,115,101] l=some a) (b:dz a=none):iJ (n+1) l=none:=by rw [iJ,show mE=[117,115,101] from rfl,h]; simp [b]
theorem Qv {n:Nat} {l b q:Tk} {a:Tx} (h:aU [117,115,101] l=some b) (c:dz b=some (a,q)) (d:aU [59] q=none):iJ (n+1) l=none:=by rw [iJ,show mE=[117,115,101] from rfl,h]; simp [c,d]
theorem Qw {n:Nat} {bx:Bool} {l q:Tk} (h:eT bx l=some (none,q)):jS (n+1) bx l=some (([],bx),q):=by rw [jS,h]; rfl
theorem Qx {n:Nat} {bx b:Bool} {l q a:Tk} {d:cB} (h:eT bx l=some (some d,q)) (c:ea q=(b,a)):jS (n+1) bx l=(jS n b a).map λp=>((d::p.1.1,p.1.2),p.2):=by rw [jS,h]; simp only [Option.bind_some]; rw [c]
theorem Qy {n:Nat} {bx:Bool} {l:Tk} (h:eT bx l=none):jS (n+1) bx l=none:=by rw [jS,h]; rfl
theorem Qz {n:Nat} {bx:Bool} {l:Tk} (h:aU [112,114,111,99] l=none):jT (n+1) bx l=some (([],bx),l):=by rw [jT,show mF=[112,114,111,99] from rfl,h]
theorem QA {n:Nat} {bx b:Bool} {l a q c:Tk} {d:dA} (e:aU [112,114,111,99] l=some a) (h:hP bx a=some (d,q)) (f:ea q=(b,c)):jT (n+1) bx l=(jT n b c).map λp=>((d::p.1.1,p.1.2),p.2):=by rw [jT,show mF=[112,114,111,99] from rfl,e]; simp only; rw [h]; simp only [Option.bind_some]; rw [f]
theorem QB {n:Nat} {bx:Bool} {l a:Tk} (b:aU [112,114,111,99] l=some a) (h:hP bx a=none):jT (n+1) bx l=none:=by rw [jT,show mF=[112,114,111,99] from rfl,b]; simp only; rw [h]; rfl
theorem xy:aK Tryz.prog 214=some [(0,1),(1,1),(2,1),(3,1)]:=by kernel_rfl
theorem QC (d:Nat) (b:View) (r:Option Addr×Nat) (l:Tk) (bx:Bool) (w:World) (P:cW l) (aB:Sl ag 3 b r.1 r.2 l) (a:Ws w (List.flatMap aS.ids (aL d r l)) (aL d r l) [b] w) :
   Calls Tryz.prog 121 #[.pointer (some ⟨d,0,none⟩),.bool bx] w λe w'=>(∃(o:Option cB) (c:Option Addr×Nat) (q:Tk),e = .returned (.tuple #[.agg #[.int .i64 ((o).getD (⟨0,[],bx,0⟩:cB)).kind,st ((o).getD (⟨0,[],bx,0⟩:cB)).nm,.bool ((o).getD (⟨0,[],bx,0⟩:cB)).bx,.int .i64 ((o).getD (⟨0,[],bx,0⟩:cB)).n],.bool (o).isSome])/\eT bx l=some (o,q)/\Sl ag 3 b c.1 c.2 q/\Ws w (List.flatMap aS.ids (aL d r l)) (aL d c q) [b] w')\/(∃(c:Option Addr×Nat) (q:Tk),e = .panicked cA/\eT bx l=none/\Ws w (List.flatMap aS.ids (aL d r l)) (aL d c q) [b] w'):=by
 refine enter Tryz.func121 O 50 O O ?_;refine CE a (aa ?_);refine Al Y O oE λbo=>?_;refine ai O (ae (aa (ad O (I (Yb oE xy O O) ?_))));refine Al Y O oE λbp=>?_;refine aO 0 Y O O O pA O O O (ae (Cs (Cb (aa (ad O (Lf 2 O ?_))))));refine Lw [_] _ Y O gF O O _ _ _ [b] (by simp) (λw a=>gG d b r l [99,111,110,115,116] w aB a) ?_;intro ⟨bq,ao,Q⟩ ⟨aC,aD,ap⟩;refine ai O (ae ?_);refine Cc O (λR=>?_) (λR=>?_)
 ·have B:=aC R;have aE:=hb P B;refine aa (ad O ?_)
  refine dF (ι:=(Tx)×(Option Addr×Nat)×Tk) (κ:=(Option Addr×Nat)×Tk) [_] _ Y O nJ O O (λi=>st i.1) (λi=>aL d i.2.1 i.2.2) (λi=>dz Q=some (i.1,i.2.2)/\Sl ag 3 b i.2.1.1 i.2.1.2 i.2.2) (λ_=>cA) (λi=>aL d i.1 i.2) (λ_=>dz Q=none) ([b]) (by simp) (λw a=>(nK d b ao Q w ap a).mono λe w' h=>by
      rcases h with ⟨t,c,q,f,g,j,p⟩ | ⟨c,q,f,g,j⟩
      · exact .inl ⟨(t,c,q),f,⟨g,j⟩,p⟩
      · exact .inr ⟨(c,q),f,g,j⟩) ?_ ?_
  ·intro ⟨s,u⟩ k;refine Ep (WE.ck (Ep ?_));refine b6 λw' a=>?_;exact .inr ⟨s,u,O,by simp only [eT,h3,h4,h5,B,k,Option.bind_some,Option.map_some,Option.bind_none,Option.map_none],(by have h:=a; have h:=Wt 1 h; exact h)⟩
  intro ⟨aF,aG,S⟩ ⟨E,aH⟩;have aI:=nI aE E;refine I (Yf s7 O) (aO 1 Y O O O dP O O O (I (Yf gm O) (aO 1 Y O O O tg O O O (ae (aa (ad O ?_))))));refine Lb Y O dT O O O O λbr=>?_;refine a7 (T:=9) (m:=1) 0 [[61]] O O (show 1<=1 by decide) (by decide) λaq aJ=>?_
  refine dF (ι:=(Option Addr×Nat)×Tk) (κ:=(Option Addr×Nat)×Tk) [_] _ Y O hf O O (λ_=>.tuple #[]) (λi=>aL d i.1 i.2) (λi=>cZ [[61]] S=some i.2/\Sl ag 3 b i.1.1 i.1.2 i.2) (λ_=>cA) (λi=>aL d i.1 i.2) (λ_=>cZ [[61]] S=none) ([b,aq]) (by simp) (λw a=>(hd d b aG S aq _ _ [[61]] w aJ aH a).mono λe w' h=>by
      rcases h with ⟨c,q,f,g,j,p⟩ | ⟨c,q,f,g,j⟩
      · exact .inl ⟨(c,q),f,⟨g,j⟩,p⟩
      · exact .inr ⟨(c,q),f,g,j⟩) ?_ ?_
  ·intro ⟨s,u⟩ k;rw [dX] at k;refine Ep (WE.ck (Ep ?_));refine b6 λw' a=>?_;exact .inr ⟨s,u,O,by simp only [eT,h3,h4,h5,B,E,k,Option.bind_some,Option.map_some,Option.bind_none,Option.map_none],(by have h:=a; have h:=Wt 1 h; have h:=Ws.cv h (ah:=[b]) (by simp); exact h)⟩
  intro ⟨aK,U⟩ ⟨F,aM⟩;have aN:=hc aI F;rw [dX] at F;refine ae (Cr (ad O ?_))
  refine dF (ι:=(Int)×(Option Addr×Nat)×Tk) (κ:=(Option Addr×Nat)×Tk) [_] _ Y O Bj O O (λi=>.int .i64 i.1) (λi=>aL d i.2.1 i.2.2) (λi=>iH U=some (i.1,i.2.2)/\Sl ag 3 b i.2.1.1 i.2.1.2 i.2.2) (λ_=>cA) (λi=>aL d i.1 i.2) (λ_=>iH U=none) ([b]) (by simp) (λw a=>(Bg d b aK U w aM a).mono λe w' h=>by
      rcases h with ⟨t,c,q,f,g,j,p⟩ | ⟨c,q,f,g,j⟩
      · exact .inl ⟨(t,c,q),f,⟨g,j⟩,p⟩
      · exact .inr ⟨(c,q),f,g,j⟩) ?_ ?_
  ·intro ⟨s,u⟩ k;refine WE.ck (Ep ?_);refine b6 λw' a=>?_;exact .inr ⟨s,u,O,by simp only [eT,h3,h4,h5,B,E,F,k,Option.bind_some,Option.map_some,Option.bind_none,Option.map_none],(by have h:=a; have h:=Wt 1 h; have h:=Ws.cv h (ah:=[b]) (by simp); exact h)⟩
  intro ⟨aP,aQ,V⟩ ⟨W,aR⟩;have aT:=Bf aN W;refine I (Yf pw O) (aO 1 Y O O O dP O O O (Ln (Eb (Et (aa (ad O ?_))))));refine Lb Y O dT O O O O λar=>?_;refine a7 (T:=9) (m:=1) 0 [[59]] O O (show 1<=1 by decide) (by decide) λy G=>?_
  refine dF (ι:=(Option Addr×Nat)×Tk) (κ:=(Option Addr×Nat)×Tk) [_] _ Y O hf O O (λ_=>.tuple #[]) (λi=>aL d i.1 i.2) (λi=>cZ [[59]] V=some i.2/\Sl ag 3 b i.1.1 i.1.2 i.2) (λ_=>cA) (λi=>aL d i.1 i.2) (λ_=>cZ [[59]] V=none) ([b,y]) (by simp) (λw a=>(hd d b aQ V y _ _ [[59]] w G aR a).mono λe w' h=>by
      rcases h with ⟨c,q,f,g,j,p⟩ | ⟨c,q,f,g,j⟩
      · exact .inl ⟨(c,q),f,⟨g,j⟩,p⟩
      · exact .inr ⟨(c,q),f,g,j⟩) ?_ ?_
  ·intro ⟨s,u⟩ k;rw [dX] at k;refine Ep ?_;refine b6 λw' a=>?_;exact .inr ⟨s,u,O,by simp only [eT,h3,h4,h5,B,E,F,W,k,Option.bind_some,Option.map_some,Option.bind_none,Option.map_none],(by have h:=a; have h:=Wt 1 h; have h:=Ws.cv h (ah:=[b]) (by simp); exact h)⟩
  intro ⟨H,J⟩ ⟨v,K⟩;have au:=hc aT v;rw [dX] at v;refine ae (aa (I (b8 1 O O me O) (aO 2 Y O O O pA O O O (ai O (ae (aX ?_))))));refine WE.ee (fj O (dI 2 O O me O) (gz O)) λw' a=>?_;exact .inl ⟨some ⟨1,aF,bx,aP⟩,H,J,O,by simp only [eT,h3,h4,h5,B,E,F,W,v,Option.bind_some,Option.map_some,Option.bind_none,Option.map_none],K,Wv 2 (Wt 1 a)⟩
 obtain ⟨x,aU⟩:=aD R;subst aU;refine aa (ad O ?_);refine Lw [_] _ Y O gF O O _ _ _ [b] (by simp) (λw a=>gG d b ao l [118,97,114] w ap a) ?_;intro ⟨bs,av,X⟩ ⟨aV,aW,aw⟩;refine ai O (ae ?_);refine Cc O (λZ=>?_) (λZ=>?_)
 ·have L:=aV Z;have aY:=hb P L;refine Cr (ad O ?_)
  refine dF (ι:=(Tx)×(Option Addr×Nat)×Tk) (κ:=(Option Addr×Nat)×Tk) [_] _ Y O nJ O O (λi=>st i.1) (λi=>aL d i.2.1 i.2.2) (λi=>dz X=some (i.1,i.2.2)/\Sl ag 3 b i.2.1.1 i.2.1.2 i.2.2) (λ_=>cA) (λi=>aL d i.1 i.2) (λ_=>dz X=none) ([b]) (by simp) (λw a=>(nK d b av X w aw a).mono λe w' h=>by
      rcases h with ⟨t,c,q,f,g,j,p⟩ | ⟨c,q,f,g,j⟩
      · exact .inl ⟨(t,c,q),f,⟨g,j⟩,p⟩
      · exact .inr ⟨(c,q),f,g,j⟩) ?_ ?_
  ·intro ⟨s,u⟩ k;refine WE.ck (Ep ?_);refine b6 λw' a=>?_;exact .inr ⟨s,u,O,by simp only [eT,h3,h4,h5,x,L,k,Option.bind_some,Option.map_some,Option.bind_none,Option.map_none],(by have h:=a; have h:=Wt 1 h; exact h)⟩
  intro ⟨aZ,a0,ab⟩ ⟨ac,a1⟩;have a2:=nI aY ac;refine I (Yf s7 O) (aO 1 Y O O O dP O O O (I (Yf gm O) (aO 1 Y O O O tg O O O (Ln (Eb (Et (aa (ad O ?_))))))));refine Lb Y O dT O O O O λar=>?_;refine a7 (T:=9) (m:=1) 0 [[59]] O O (show 1<=1 by decide) (by decide) λy G=>?_
  refine dF (ι:=(Option Addr×Nat)×Tk) (κ:=(Option Addr×Nat)×Tk) [_] _ Y O hf O O (λ_=>.tuple #[]) (λi=>aL d i.1 i.2) (λi=>cZ [[59]] ab=some i.2/\Sl ag 3 b i.1.1 i.1.2 i.2) (λ_=>cA) (λi=>aL d i.1 i.2) (λ_=>cZ [[59]] ab=none) ([b,y]) (by simp) (λw a=>(hd d b a0 ab y _ _ [[59]] w G a1 a).mono λe w' h=>by
      rcases h with ⟨c,q,f,g,j,p⟩ | ⟨c,q,f,g,j⟩
      · exact .inl ⟨(c,q),f,⟨g,j⟩,p⟩
      · exact .inr ⟨(c,q),f,g,j⟩) ?_ ?_
  ·intro ⟨s,u⟩ k;rw [dX] at k;refine Ep ?_;refine b6 λw' a=>?_;exact .inr ⟨s,u,O,by simp only [eT,h3,h4,h5,x,L,ac,k,Option.bind_some,Option.map_some,Option.bind_none,Option.map_none],(by have h:=a; have h:=Wt 1 h; have h:=Ws.cv h (ah:=[b]) (by simp); exact h)⟩
  intro ⟨H,J⟩ ⟨v,K⟩;have au:=hc a2 v;rw [dX] at v;refine ae (aa (I (b8 1 O O me O) (aO 2 Y O O O pA O O O (ai O (ae (aX ?_))))));refine WE.ee (fj O (dI 2 O O me O) (gz O)) λw' a=>?_;exact .inl ⟨some ⟨2,aZ,bx,0⟩,H,J,O,by simp only [eT,h3,h4,h5,x,L,ac,v,Option.bind_some,Option.map_some,Option.bind_none,Option.map_none],K,Wv 1 (Wt 1 a)⟩
 obtain ⟨z,a3⟩:=aW Z;subst a3;refine aa (ad O ?_);refine Lw [_] _ Y O gF O O _ _ _ [b] (by simp) (λw a=>gG d b av l [97,114,114,97,121] w aw a) ?_;intro ⟨bt,ax,af⟩ ⟨a4,a5,ay⟩;refine ai O (ae ?_);refine Cc O (λaj=>?_) (λaj=>?_)
 ·have A:=a4 aj;have a6:=hb P A;refine aa (ad O ?_)
  refine dF (ι:=(Tx)×(Option Addr×Nat)×Tk) (κ:=(Option Addr×Nat)×Tk) [_] _ Y O nJ O O (λi=>st i.1) (λi=>aL d i.2.1 i.2.2) (λi=>dz af=some (i.1,i.2.2)/\Sl ag 3 b i.2.1.1 i.2.1.2 i.2.2) (λ_=>cA) (λi=>aL d i.1 i.2) (λ_=>dz af=none) ([b]) (by simp) (λw a=>(nK d b ax af w ay a).mono λe w' h=>by
      rcases h with ⟨t,c,q,f,g,j,p⟩ | ⟨c,q,f,g,j⟩
      · exact .inl ⟨(t,c,q),f,⟨g,j⟩,p⟩
      · exact .inr ⟨(c,q),f,g,j⟩) ?_ ?_
  ·intro ⟨s,u⟩ k;refine Ep (WE.ck (Ep ?_));refine b6 λw' a=>?_;exact .inr ⟨s,u,O,by simp only [eT,h3,h4,h5,x,z,A,k,Option.bind_some,Option.map_some,Option.bind_none,Option.map_none],(by have h:=a; have h:=Wt 1 h; exact h)⟩
  intro ⟨a8,a9,ak⟩ ⟨C,a'⟩;have a_:=nI a6 C;refine I (Yf s7 O) (aO 1 Y O O O dP O O O (I (Yf gm O) (aO 1 Y O O O tg O O O (ae (aa (ad O ?_))))));refine Lb Y O dT O O O O λbu=>?_;refine a7 (T:=9) (m:=1) 0 [[91]] O O (show 1<=1 by decide) (by decide) λaz ba=>?_
  refine dF (ι:=(Option Addr×Nat)×Tk) (κ:=(Option Addr×Nat)×Tk) [_] _ Y O hf O O (λ_=>.tuple #[]) (λi=>aL d i.1 i.2) (λi=>cZ [[91]] ak=some i.2/\Sl ag 3 b i.1.1 i.1.2 i.2) (λ_=>cA) (λi=>aL d i.1 i.2) (λ_=>cZ [[91]] ak=none) ([b,az]) (by simp) (λw a=>(hd d b a9 ak az _ _ [[91]] w ba a' a).mono λe w' h=>by
      rcases h with ⟨c,q,f,g,j,p⟩ | ⟨c,q,f,g,j⟩
      · exact .inl ⟨(c,q),f,⟨g,j⟩,p⟩
      · exact .inr ⟨(c,q),f,g,j⟩) ?_ ?_
  ·intro ⟨s,u⟩ k;rw [dX] at k;refine Ep (WE.ck (Ep ?_));refine b6 λw' a=>?_;exact .inr ⟨s,u,O,by simp only [eT,h3,h4,h5,x,z,A,C,k,Option.bind_some,Option.map_some,Option.bind_none,Option.map_none],(by have h:=a; have h:=Wt 1 h; have h:=Ws.cv h (ah:=[b]) (by simp); exact h)⟩
  intro ⟨bb,al⟩ ⟨D,bc⟩;have bd:=hc a_ D;rw [dX] at D;refine ae (aa (ad O ?_))
  refine dF (ι:=(Int)×(Option Addr×Nat)×Tk) (κ:=(Option Addr×Nat)×Tk) [_] _ Y O Bj O O (λi=>.int .i64 i.1) (λi=>aL d i.2.1 i.2.2) (λi=>iH al=some (i.1,i.2.2)/\Sl ag 3 b i.2.1.1 i.2.1.2 i.2.2) (λ_=>cA) (λi=>aL d i.1 i.2) (λ_=>iH al=none) ([b]) (by simp) (λw a=>(Bg d b bb al w bc a).mono λe w' h=>by
      rcases h with ⟨t,c,q,f,g,j,p⟩ | ⟨c,q,f,g,j⟩
      · exact .inl ⟨(t,c,q),f,⟨g,j⟩,p⟩
      · exact .inr ⟨(c,q),f,g,j⟩) ?_ ?_
  ·intro ⟨s,u⟩ k;refine Ep (WE.ck (Ep ?_));refine b6 λw' a=>?_;exact .inr ⟨s,u,O,by simp only [eT,h3,h4,h5,x,z,A,C,D,k,Option.bind_some,Option.map_some,Option.bind_none,Option.map_none],(by have h:=a; have h:=Wt 1 h; have h:=Ws.cv h (ah:=[b]) (by simp); exact h)⟩
  intro ⟨be,bf,am⟩ ⟨M,bg⟩;have bh:=Bf bd M;refine I (Yf pw O) (aO 1 Y O O O dP O O O (ae (Cr (ad O ?_))));refine Lb Y O dT O O O O λbv=>?_;refine a7 (T:=9) (m:=1) 0 [[93]] O O (show 1<=1 by decide) (by decide) λaA bi=>?_
  refine dF (ι:=(Option Addr×Nat)×Tk) (κ:=(Option Addr×Nat)×Tk) [_] _ Y O hf O O (λ_=>.tuple #[]) (λi=>aL d i.1 i.2) (λi=>cZ [[93]] am=some i.2/\Sl ag 3 b i.1.1 i.1.2 i.2) (λ_=>cA) (λi=>aL d i.1 i.2) (λ_=>cZ [[93]] am=none) ([b,aA]) (by simp) (λw a=>(hd d b bf am aA _ _ [[93]] w bi bg a).mono λe w' h=>by
      rcases h with ⟨c,q,f,g,j,p⟩ | ⟨c,q,f,g,j⟩
      · exact .inl ⟨(c,q),f,⟨g,j⟩,p⟩
      · exact .inr ⟨(c,q),f,g,j⟩) ?_ ?_
  ·intro ⟨s,u⟩ k;rw [dX] at k;refine WE.ck (Ep ?_);refine b6 λw' a=>?_;exact .inr ⟨s,u,O,by simp only [eT,h3,h4,h5,x,z,A,C,D,M,k,Option.bind_some,Option.map_some,Option.bind_none,Option.map_none],(by have h:=a; have h:=Wt 1 h; have h:=Ws.cv h (ah:=[b]) (by simp); exact h)⟩
  intro ⟨bj,an⟩ ⟨N,bk⟩;have bl:=hc bh N;rw [dX] at N;refine Ln (Eb (Et (aa (ad O ?_))));refine Lb Y O dT O O O O λar=>?_;refine a7 (T:=9) (m:=1) 0 [[59]] O O (show 1<=1 by decide) (by decide) λy G=>?_
  refine dF (ι:=(Option Addr×Nat)×Tk) (κ:=(Option Addr×Nat)×Tk) [_] _ Y O hf O O (λ_=>.tuple #[]) (λi=>aL d i.1 i.2) (λi=>cZ [[59]] an=some i.2/\Sl ag 3 b i.1.1 i.1.2 i.2) (λ_=>cA) (λi=>aL d i.1 i.2) (λ_=>cZ [[59]] an=none) ([b,y]) (by simp) (λw a=>(hd d b bj an y _ _ [[59]] w G bk a).mono λe w' h=>by
      rcases h with ⟨c,q,f,g,j,p⟩ | ⟨c,q,f,g,j⟩
      · exact .inl ⟨(c,q),f,⟨g,j⟩,p⟩
      · exact .inr ⟨(c,q),f,g,j⟩) ?_ ?_
  ·intro ⟨s,u⟩ k;rw [dX] at k;refine Ep ?_;refine b6 λw' a=>?_;exact .inr ⟨s,u,O,by simp only [eT,h3,h4,h5,x,z,A,C,D,M,N,k,Option.bind_some,Option.map_some,Option.bind_none,Option.map_none],(by have h:=a; have h:=Wt 1 h; have h:=Ws.cv h (ah:=[b]) (by simp); exact h)⟩
  intro ⟨H,J⟩ ⟨v,K⟩;have au:=hc bl v;rw [dX] at v;refine ae (aa (I (b8 1 O O me O) (aO 2 Y O O O pA O O O (ai O (ae (aX ?_))))));refine WE.ee (fj O (dI 2 O O me O) (gz O)) λw' a=>?_;exact .inl ⟨some ⟨3,a8,bx,be⟩,H,J,O,by simp only [eT,h3,h4,h5,x,z,A,C,D,M,N,v,Option.bind_some,Option.map_some,Option.bind_none,Option.map_none],K,Wv 3 (Wt 1 a)⟩
 obtain ⟨bm,bn⟩:=a5 aj;subst bn;refine aa (I (b8 1 O O me O) (aO 2 Y O O O pA O O O (ai O (ae (aX (cj (Er ?_)))))));refine WE.ee (fj O (dI 2 O O me O) (gz O)) λw' a=>?_;exact .inl ⟨none,ax,l,O,by simp only [eT,h3,h4,h5,x,z,bm,Option.bind_some,Option.map_some,Option.bind_none,Option.map_none],ay,Wt 1 a⟩
def u0 (nm:Tx) (bx:Bool) (a1:Option Addr) (n1 c1:Nat) (a2:Option Addr) (n2 c2:Nat) (a3:Option Addr) (n3 c3:Nat):List Value:=[st nm,.bool bx,.slice a1 n1 c1,.slice a2 n2 c2,.slice a3 n3 c3]
theorem Hq:aK Tryz.prog 151=some [(0,1),(1,1),(2,1),(3,1),(4,1)]:=by kernel_rfl
theorem xz:dk Tryz.prog 22=some 1:=by kernel_rfl
theorem QD (j:Nat) (b:View) (r:Option Addr×Nat) (l:Tk) (bx:Bool) (w:World) (P:cW l) (aT:Sl ag 3 b r.1 r.2 l) (f:Ws w (List.flatMap aS.ids (aL j r l)) (aL j r l) [b] w) :
   Calls Tryz.prog 122 #[.pointer (some ⟨j,0,none⟩),.bool bx] w λe w'=>(∃(p:dA) (s:qA) (o:Option Addr×Nat) (q:Tk),e = .returned (.agg #[st (p).nm,.bool (p).bx,.slice (s).s1.1 (p).params.length (s).s1.2,.slice (s).s2.1 (p).ay.length (s).s2.2,.slice (s).s3.1 (p).body.length (s).s3.2])/\hP bx l=some (p,q)/\rR (nv w w') p s/\Sl ag 3 b o.1 o.2 q/\Ws w (List.flatMap aS.ids (aL j r l)) (aL j o q) [b] w')\/(∃(o:Option Addr×Nat) (q:Tk),e = .panicked cA/\hP bx l=none/\Ws w (List.flatMap aS.ids (aL j r l)) (aL j o q) [b] w'):=by
 refine enter Tryz.func122 O 46 O O ?_;refine CE f (aa ?_);refine Al Y O qy λaH=>?_;refine cD 0 (.cells (u0 [] false none 0 0 none 0 0 none 0 0).toArray 151 (0,0)) O O (ae (aa (ad O (ad O (Lf 1 O ?_)))))
 refine dF (ι:=(Tx)×(Option Addr×Nat)×Tk) (κ:=(Option Addr×Nat)×Tk) [_] _ Y O nJ O O (λi=>st i.1) (λi=>aL j i.2.1 i.2.2) (λi=>dz l=some (i.1,i.2.2)/\Sl ag 3 b i.2.1.1 i.2.1.2 i.2.2) (λ_=>cA) (λi=>aL j i.1 i.2) (λ_=>dz l=none) ([b]) (by simp) (λw f=>(nK j b r l w aT f).mono λe w' h=>by
     rcases h with ⟨t,o,q,u,y,z,C⟩ | ⟨o,q,u,y,z⟩
     · exact .inl ⟨(t,o,q),u,⟨y,z⟩,C⟩
     · exact .inr ⟨(o,q),u,y,z⟩) ?_ ?_
 ·intro ⟨D,E⟩ B;refine Ep ?_;refine b6 λw' f=>?_;exact .inr ⟨D,E,O,by simp only [hP,B,Option.bind_none],(by have h:=f; have h:=Wt 1 h; exact h)⟩
 intro ⟨al,aU,Z⟩ ⟨J,aV⟩;have aW:=nI P J;refine I (Yb qy Hq O O) ?_;refine Al Y O qy λaI=>?_;refine aO 0 Y O O O dt O O O (LW (λ_ h=>h.e4 9 1) (LW (λ_ h=>h.e4 9 1) (ae (aa (ad O ?_)))));refine Lb Y O dT O O O O λbF=>?_;refine a7 (T:=9) (m:=1) 0 [[40]] O O (show 1<=1 by decide) (by decide) λaJ aY=>?_;refine Lf 3 O ?_
 refine dF (ι:=(Option Addr×Nat)×Tk) (κ:=(Option Addr×Nat)×Tk) [_] _ Y O hf O O (λ_=>.tuple #[]) (λi=>aL j i.1 i.2) (λi=>cZ [[40]] Z=some i.2/\Sl ag 3 b i.1.1 i.1.2 i.2) (λ_=>cA) (λi=>aL j i.1 i.2) (λ_=>cZ [[40]] Z=none) ([b,aJ]) (by simp) (λw f=>(hd j b aU Z aJ _ _ [[40]] w aY aV f).mono λe w' h=>by
     rcases h with ⟨o,q,u,y,z,C⟩ | ⟨o,q,u,y,z⟩
     · exact .inl ⟨(o,q),u,⟨y,z⟩,C⟩
     · exact .inr ⟨(o,q),u,y,z⟩) ?_ ?_
 ·intro ⟨D,E⟩ B;rw [dX] at B;refine Ep ?_;refine b6 λw' f=>?_;exact .inr ⟨D,E,O,by simp only [hP,J,B,Option.bind_some,Option.bind_none],(by have h:=f; have h:=Wt 1 h; have h:=Ws.cv h (ah:=[b]) (by simp); exact h)⟩
 intro ⟨aZ,ab⟩ ⟨K,a0⟩;have a1:=hc aW K;rw [dX] at K;refine ae (Cs (Cb ?_));refine av (ι:=GN) (λg=>[]) [(0,_),(4,_),(5,_)] (λg=>Ws w (List.flatMap aS.ids (aL j r l)) (aL j g.r g.q++[aq aI (.cells (u0 al bx g.a g.ps.length g.c none 0 0 none 0 0).toArray 151 (0,0)),cf 9 1 dD g.a g.c g.ps,(cf 9 1 dD none 0 ([]:List Tx)),aq aH (.cells (u0 [] false none 0 0 none 0 0 none 0 0).toArray 151 (0,0))]) [b]) (λg=>(g.ps.length+g.q.length<=l.length/\cW g.q)/\Sl ag 3 b g.r.1 g.r.2 g.q/\∃n,g.q.length<n/\hr (ab.length+1) true ab=(hr n (isNil g.ps) g.q).map λp=>(g.ps++p.1,p.2)) (λg=>g.q.length) ⟨[],none,0,aZ,ab⟩ ⟨⟨by have:Z.length<l.length:=lH P J; have:ab.length+1=Z.length:=ha K; simp; omega,a1⟩,a0,ab.length+1,by simp,by simp [isNil]⟩ (sc O (sc O (sc O sn))) (λ_ h=>by have h:=h.bR 4 O; have h:=h.bR 3 O; have h:=h.bR 3 O; have h:=h.bR 4 O; have h:=h.bR 4 O; have h:=Ws.cv h (ah:=[b]) (by simp); exact h) ?_;intro g ⟨⟨bG,U⟩,a2,A⟩;refine Cs (aa (ad O ?_));refine Lw [_] _ Y O gF O O _ _ _ [b] (by simp) (λw f=>gG j b g.r g.q [41] w a2 f) ?_;intro ⟨bH,am,ac⟩ ⟨a3,a4,an⟩;refine I (az O) (ae ?_);refine Cc O (λao=>?_) (λao=>?_)
 ·obtain ⟨af,a5⟩:=a4 (by simpa using ao);subst a5;obtain ⟨n,ap,A⟩:=A;obtain ⟨n,rfl⟩:∃k,n=k+1:=⟨n-1,by omega⟩;refine bf (Cb (Cs (aa (I (Yf oF O) (I (Yd 1 O O O eU) (I (Yn di O) (I (dc O O) (ae ?_))))))));refine Cc O (λar=>?_) (λar=>?_)
  ·have au:0<g.ps.length:=by simpa using ar
   rw [Qn au] at A;refine Cr (ad O ?_);refine Lb Y O dT O O O O λbI=>?_;refine a7 (T:=9) (m:=1) 0 [[44]] O O (show 1<=1 by decide) (by decide) λaK a8=>?_
   refine dF (ι:=(Option Addr×Nat)×Tk) (κ:=(Option Addr×Nat)×Tk) [_] _ Y O hf O O (λ_=>.tuple #[]) (λi=>aL j i.1 i.2) (λi=>cZ [[44]] g.q=some i.2/\Sl ag 3 b i.1.1 i.1.2 i.2) (λ_=>cA) (λi=>aL j i.1 i.2) (λ_=>cZ [[44]] g.q=none) ([b,aK]) (by simp) (λw f=>(hd j b am g.q aK _ _ [[44]] w a8 an f).mono λe w' h=>by
       rcases h with ⟨o,q,u,y,z,C⟩ | ⟨o,q,u,y,z⟩
       · exact .inl ⟨(o,q),u,⟨y,z⟩,C⟩
       · exact .inr ⟨(o,q),u,y,z⟩) ?_ ?_
   ·intro ⟨D,E⟩ B;rw [dX] at B;refine Ep (WE.ck (Ep (WE.ck (Ep ?_))));refine b6 λw' f=>?_;rw [Qk af B] at A;exact .inr ⟨D,E,O,by simp only [hP,J,K,A,Option.bind_some,Option.bind_none,Option.map_none],(by have h:=f; have h:=Wt 1 h; have h:=Ws.cv h (ah:=[b]) (by simp); exact h)⟩
   intro ⟨a9,L⟩ ⟨Q,a'⟩;have aj:=hc U Q;rw [dX] at Q;refine ae ?_;refine CU (λ_=>true) [0,1] [6,7] (.q false 0 (.q true 1 (.q false 2 (.e 3 (.e 4 (.e 5 .nil .stop) .stop) .stop)))) mixed (by kernel_rfl) (λ_ _ _ d _ _ h=>by cases d<;>exact h) ?_;refine U0 O (cK [0,1]) (Yf oF O) (U0 O (cK [0,1]) (Yd 0 O O O eU) (U0 O (cK [0,1]) (Ym O) ?_));refine Ue O (cK [0,1]) ?_ WU.stop
   refine dF (ι:=(Tx)×(Option Addr×Nat)×Tk) (κ:=(Option Addr×Nat)×Tk) [_] _ Y O nJ O O (λi=>st i.1) (λi=>aL j i.2.1 i.2.2) (λi=>dz L=some (i.1,i.2.2)/\Sl ag 3 b i.2.1.1 i.2.1.2 i.2.2) (λ_=>cA) (λi=>aL j i.1 i.2) (λ_=>dz L=none) ([b]) (by simp) (λw f=>(nK j b a9 L w a' f).mono λe w' h=>by
       rcases h with ⟨t,o,q,u,y,z,C⟩ | ⟨o,q,u,y,z⟩
       · exact .inl ⟨(t,o,q),u,⟨y,z⟩,C⟩
       · exact .inr ⟨(o,q),u,y,z⟩) ?_ ?_
   ·intro ⟨D,E⟩ B;refine Ep (WE.ck (Ep (WE.ck (Ep ?_))));refine b6 λw' f=>?_;rw [Ql af Q B] at A;exact .inr ⟨D,E,O,by simp only [hP,J,K,A,Option.bind_some,Option.bind_none,Option.map_none],(by have h:=f; have h:=Wt 1 h; have h:=Ws.cv h (ah:=[b]) (by simp); exact h)⟩
   intro ⟨R,aw,F⟩ ⟨H,ax⟩;have aA:=nI aj H;refine Ln (Eu ?_);refine Ue O (cK [0,1]) ?_ WU.stop;refine Lb Y O dT O O O O λa_=>?_;refine cD 0 (.cells (dD R).toArray 9 (0,0)) O O (Ln (Eu ?_));refine Ue O (λ_ h=>(Wo 1 (Wo 0 (Wd 1 h)):)) ?_ WU.stop;refine LA (R:Tx) 3 0 Y O dT O O O O O O (by have:=P.len; omega) (by have:=P.len; omega) λaB aC=>?_;refine Ln (Eu ?_);refine WU.nil (λ_ h=>(Wo 1 (Wo 0 (Wd 1 h)):)) ?_;refine WS.e O ?_;refine I (Yf oF O) (Ln (Es ?_));refine WS.e O ?_;refine aO 2 Y O O O xz O O O (Ln (Es ?_));refine WS.nil ?_;refine Eb ?_
   exact Ea (⟨g.ps++[R],aB,aC,aw,F⟩:GN) (by have:F.length<L.length:=lH aj H; have:L.length+1=g.q.length:=ha Q; show F.length<g.q.length; omega) ⟨⟨by have:F.length<L.length:=lH aj H; have:L.length+1=g.q.length:=ha Q; simp; omega,aA⟩,ax,n,(show F.length<n by have:F.length<L.length:=lH aj H; have:L.length+1=g.q.length:=ha Q; omega),by rw [A,Qj af Q H,Hm]; simp [Function.comp_def]⟩ (sc O (sc O (sc O sn))) (λ_ h=>by
       have h:=h.bR 5 rfl;have h:=h.bR 5 rfl;have h:=h.bR 5 rfl;have h:=h.bR 5 rfl;have h:=h.bR 5 rfl;have h:=Wt 5 h;have h:=Ws.cv h (ah:=[b]) (by simp)
       exact h)
  have au:¬0<g.ps.length:=by simpa using ar
  rw [Qm au] at A;refine bf ?_;refine CU (λ_=>true) [0,1] [6,7] (.q false 0 (.q true 1 (.q false 2 (.e 3 (.e 4 (.e 5 .nil .stop) .stop) .stop)))) mixed (by kernel_rfl) (λ_ _ _ d _ _ h=>by cases d<;>exact h) ?_;refine U0 O (cK [0,1]) (Yf oF O) (U0 O (cK [0,1]) (Yd 0 O O O eU) (U0 O (cK [0,1]) (Ym O) ?_));refine Ue O (cK [0,1]) ?_ WU.stop
  refine dF (ι:=(Tx)×(Option Addr×Nat)×Tk) (κ:=(Option Addr×Nat)×Tk) [_] _ Y O nJ O O (λi=>st i.1) (λi=>aL j i.2.1 i.2.2) (λi=>dz g.q=some (i.1,i.2.2)/\Sl ag 3 b i.2.1.1 i.2.1.2 i.2.2) (λ_=>cA) (λi=>aL j i.1 i.2) (λ_=>dz g.q=none) ([b]) (by simp) (λw f=>(nK j b am g.q w an f).mono λe w' h=>by
      rcases h with ⟨t,o,q,u,y,z,C⟩ | ⟨o,q,u,y,z⟩
      · exact .inl ⟨(t,o,q),u,⟨y,z⟩,C⟩
      · exact .inr ⟨(o,q),u,y,z⟩) ?_ ?_
  ·intro ⟨D,E⟩ B;refine Ep (WE.ck (Ep (WE.ck (Ep ?_))));refine b6 λw' f=>?_;rw [Qi af B] at A;exact .inr ⟨D,E,O,by simp only [hP,J,K,A,Option.bind_some,Option.bind_none,Option.map_none],(by have h:=f; have h:=Wt 1 h; exact h)⟩
  intro ⟨R,aw,F⟩ ⟨H,ax⟩;have aA:=nI U H;refine Ln (Eu ?_);refine Ue O (cK [0,1]) ?_ WU.stop;refine Lb Y O dT O O O O λa_=>?_;refine cD 0 (.cells (dD R).toArray 9 (0,0)) O O (Ln (Eu ?_));refine Ue O (λ_ h=>(Wo 1 (Wo 0 (Wd 1 h)):)) ?_ WU.stop;refine LA (R:Tx) 3 0 Y O dT O O O O O O (by have:=P.len; omega) (by have:=P.len; omega) λaB aC=>?_;refine Ln (Eu ?_);refine WU.nil (λ_ h=>(Wo 1 (Wo 0 (Wd 1 h)):)) ?_;refine WS.e O ?_;refine I (Yf oF O) (Ln (Es ?_));refine WS.e O ?_;refine aO 2 Y O O O xz O O O (Ln (Es ?_));refine WS.nil ?_;refine Eb ?_
  exact Ea (⟨g.ps++[R],aB,aC,aw,F⟩:GN) (by have:F.length<g.q.length:=lH U H; show F.length<g.q.length; omega) ⟨⟨by have:F.length<g.q.length:=lH U H; simp; omega,aA⟩,ax,n,(show F.length<n by have:F.length<g.q.length:=lH U H; omega),by rw [A,Qh af H,Hm]; simp [Function.comp_def]⟩ (sc O (sc O (sc O sn))) (λ_ h=>by
      have h:=h.bR 5 rfl;have h:=h.bR 5 rfl;have h:=h.bR 5 rfl;have h:=h.bR 5 rfl;have h:=h.bR 5 rfl;have h:=Wt 5 h;have h:=Ws.cv h (ah:=[b]) (by simp)
      exact h)
 have aD:=a3 (by simpa using ao);have ba:=hb U aD;obtain ⟨n,ap,A⟩:=A;obtain ⟨n,rfl⟩:∃k,n=k+1:=⟨n-1,by omega⟩;rw [Qg aD] at A;simp at A;refine Ce (Ex (Ex (cp (Et (Cs (Cb ?_))))));refine av (ι:=GN) (λv=>[]) [(0,_),(4,_),(5,_)] (λv=>Ws w (List.flatMap aS.ids (aL j r l)) (aL j v.r v.q++[aq aI (.cells (u0 al bx g.a g.ps.length g.c v.a v.ps.length v.c none 0 0).toArray 151 (0,0)),cf 9 1 dD g.a g.c g.ps,cf 9 1 dD v.a v.c v.ps,aq aH (.cells (u0 [] false none 0 0 none 0 0 none 0 0).toArray 151 (0,0))]) [b]) (λv=>(v.ps.length+v.q.length<=l.length/\cW v.q)/\Sl ag 3 b v.r.1 v.r.2 v.q/\∃n,v.q.length<n/\im (ac.length+1) ac=(im n v.q).map λp=>(v.ps++p.1,p.2)) (λv=>v.q.length) ⟨[],none,0,am,ac⟩ ⟨⟨by have:ac.length+1=g.q.length:=ha aD; simp; omega,ba⟩,an,ac.length+1,by simp,by simp⟩ (sc O (sc O (sc O sn))) (λ_ h=>h) ?_;intro v ⟨⟨bJ,aE⟩,bb,G⟩;refine Cs (aa (ad O ?_));refine Lw [_] _ Y O gF O O _ _ _ [b] (by simp) (λw f=>gG j b v.r v.q [108,111,99,97,108] w bb f) ?_;intro ⟨bK,aM,M⟩ ⟨bc,bd,aN⟩;refine ae ?_;refine Cc O (λaF=>?_) (λaF=>?_)
 ·have S:=bc aF;have ak:=hb aE S;obtain ⟨n,ap,G⟩:=G;obtain ⟨n,rfl⟩:∃k,n=k+1:=⟨n-1,by omega⟩;refine bf (Cb (Cs ?_));refine CU (λ_=>true) [0,2] [6,7] (.q false 0 (.q true 1 (.q false 2 (.e 3 (.e 4 (.e 5 .nil .stop) .stop) .stop)))) mixed (by kernel_rfl) (λ_ _ _ d _ _ h=>by cases d<;>exact h) ?_;refine U0 O (cK [0,2]) (Yf tf O) (U0 O (cK [0,2]) (Yd 0 O O O eU) (U0 O (cK [0,2]) (Ym O) ?_));refine Ue O (cK [0,2]) ?_ WU.stop
  refine dF (ι:=(Tx)×(Option Addr×Nat)×Tk) (κ:=(Option Addr×Nat)×Tk) [_] _ Y O nJ O O (λi=>st i.1) (λi=>aL j i.2.1 i.2.2) (λi=>dz M=some (i.1,i.2.2)/\Sl ag 3 b i.2.1.1 i.2.1.2 i.2.2) (λ_=>cA) (λi=>aL j i.1 i.2) (λ_=>dz M=none) ([b]) (by simp) (λw f=>(nK j b aM M w aN f).mono λe w' h=>by
      rcases h with ⟨t,o,q,u,y,z,C⟩ | ⟨o,q,u,y,z⟩
      · exact .inl ⟨(t,o,q),u,⟨y,z⟩,C⟩
      · exact .inr ⟨(o,q),u,y,z⟩) ?_ ?_
  ·intro ⟨D,E⟩ B;refine Ep (Ep (WE.ck (Ep (WE.ck (Ep ?_)))));refine b6 λw' f=>?_;rw [Qq S B] at G;exact .inr ⟨D,E,O,by simp only [hP,J,K,A,G,Option.bind_some,Option.bind_none,Option.map_none],(by have h:=f; have h:=Wt 1 h; exact h)⟩
  intro ⟨aG,be,N⟩ ⟨V,bg⟩;have bh:=nI ak V;refine Ln (Eu ?_);refine Ue O (cK [0,2]) ?_ WU.stop;refine Lb Y O dT O O O O λbL=>?_;refine cD 0 (.cells (dD aG).toArray 9 (0,0)) O O (Ln (Eu ?_));refine Ue O (λ_ h=>(Wo 2 (Wo 0 (Wd 1 h)):)) ?_ WU.stop;refine LA (aG:Tx) 4 0 Y O dT O O O O O O (by have:=P.len; omega) (by have:=P.len; omega) λbi bj=>?_;refine Ln (Eu ?_);refine WU.nil (λ_ h=>(Wo 2 (Wo 0 (Wd 1 h)):)) ?_;refine WS.e O ?_;refine I (Yf tf O) (Ln (Es ?_));refine WS.e O ?_;refine aO 2 Y O O O xz O O O (Ln (Es ?_));refine WS.nil ?_;refine Et (Cr (ad O ?_));refine Lb Y O dT O O O O λbM=>?_;refine a7 (T:=9) (m:=1) 0 [[59]] O O (show 1<=1 by decide) (by decide) λaP bk=>?_;refine Lf 1 O ?_
  refine dF (ι:=(Option Addr×Nat)×Tk) (κ:=(Option Addr×Nat)×Tk) [_] _ Y O hf O O (λ_=>.tuple #[]) (λi=>aL j i.1 i.2) (λi=>cZ [[59]] N=some i.2/\Sl ag 3 b i.1.1 i.1.2 i.2) (λ_=>cA) (λi=>aL j i.1 i.2) (λ_=>cZ [[59]] N=none) ([b,aP]) (by simp) (λw f=>(hd j b be N aP _ _ [[59]] w bk bg f).mono λe w' h=>by
      rcases h with ⟨o,q,u,y,z,C⟩ | ⟨o,q,u,y,z⟩
      · exact .inl ⟨(o,q),u,⟨y,z⟩,C⟩
      · exact .inr ⟨(o,q),u,y,z⟩) ?_ ?_
  ·intro ⟨D,E⟩ B;rw [dX] at B;refine WE.ck (Ep (WE.ck (Ep ?_)));refine b6 λw' f=>?_;rw [Qr S V B] at G;exact .inr ⟨D,E,O,by simp only [hP,J,K,A,G,Option.bind_some,Option.bind_none,Option.map_none],(by have h:=f; have h:=Wt 1 h; have h:=Ws.cv h (ah:=[b]) (by simp); exact h)⟩
  intro ⟨bm,W⟩ ⟨X,bn⟩;have bo:=hc bh X;rw [dX] at X;refine Ln (Eb ?_)
  exact Ea (⟨v.ps++[aG],bi,bj,bm,W⟩:GN) (by have:M.length+1=v.q.length:=ha S; have:N.length<M.length:=lH ak V; have:W.length+1=N.length:=ha X; show W.length<v.q.length; omega) ⟨⟨by have:M.length+1=v.q.length:=ha S; have:N.length<M.length:=lH ak V; have:W.length+1=N.length:=ha X; simp; omega,bo⟩,bn,n,(show W.length<n by have:M.length+1=v.q.length:=ha S; have:N.length<M.length:=lH ak V; have:W.length+1=N.length:=ha X; omega),by rw [G,Qp S V X]; simp [Function.comp_def]⟩ (sc O (sc O (sc O sn))) (λ_ h=>by
      have h:=h.bR 5 rfl;have h:=h.bR 5 rfl;have h:=h.bR 5 rfl;have h:=h.bR 5 rfl;have h:=h.bR 4 rfl;have h:=Wt 5 h;have h:=Ws.cv h (ah:=[b]) (by simp)
      exact h)
 obtain ⟨bp,bq⟩:=bd aF;subst bq;obtain ⟨n,ap,G⟩:=G;obtain ⟨n,rfl⟩:∃k,n=k+1:=⟨n-1,by omega⟩;rw [Qo bp] at G;simp at G;refine Ce (Ex (Ex (cp (Et (aa (ad O ?_))))))
 refine hW (ι:=((List bl)×(Option Addr×Nat))×(Option Addr×Nat)×Tk) (κ:=(Option Addr×Nat)×Tk) [_] _ Y O hj O O (λi=>.slice i.1.2.1 i.1.1.length i.1.2.2) (λi=>aL j i.2.1 i.2.2) (λbr i=>fb 6 v.q=some (i.1.1,i.2.2)/\Sl (a6 7 6) 6 br i.1.2.1 i.1.2.2 i.1.1/\Sl ag 3 b i.2.1.1 i.2.1.2 i.2.2) (λ_=>cA) (λi=>aL j i.1 i.2) (λ_=>fb 6 v.q=none) ([b]) (by simp) (λ_ _ h=>h) (λw f=>(Hl b 6 j aM v.q (1) w (by omega) aE aN f).mono λe w' h=>by
     rcases h with ⟨x,s,o,q,u,y,z,C,bs⟩ | ⟨o,q,u,y,z⟩
     · exact .inl ⟨((x,s),o,q),u,⟨y,z,C⟩,bs⟩
     · exact .inr ⟨(o,q),u,y,z⟩) ?_ ?_
 ·intro ⟨D,E⟩ B;refine Ep ?_;refine b6 λw' f=>?_;exact .inr ⟨D,E,O,by simp only [hP,J,K,A,G,B,Option.bind_some,Option.bind_none,Option.map_none],(by have h:=f; have h:=Wt 1 h; exact h)⟩
 intro bN ⟨⟨bt,bu⟩,bv,aQ⟩ bw ⟨aR,bz,bA⟩;have bO:cW aQ:=uV aE aR;refine I (Yf Bb O) (aO 1 Y O O O uY O O O (ae (Cs ?_)));refine WC.ll (rd:=rdStr) 2 O (λk ai=>by simp [aL,aq] at ai; subst ai; simp [dM,aL,aq,bY]) iA (λ_ _ _ _ h=>h) λbP bB bC=>?_;refine WC.ll (rd:=rdStr) 2 O (λk ai=>by simp [aL,aq] at ai; subst ai; simp [dM,aL,aq,bY]) iA (λ_ _ _ _ h=>h) λbQ bD bE=>?_;refine Cr (I (b8 1 O O td O) (aO 2 Y O O O dt O O O (ae (aX ?_))));refine WE.ee (gL O (dI 2 O O td O)) λw' f=>?_;exact .inl ⟨⟨al,bx,g.ps,v.ps,bt⟩,⟨(g.a,g.c),(v.a,v.c),bu⟩,bv,aQ,O,by simp only [hP,J,K,A,G,aR,Option.bind_some,Option.map_some],⟨nM bC (cF f (by simp) bB),nM bE (cF f (by simp) bD),pF bz (cF f (by simp) bw)⟩,bA,Wv 3 (Wt 1 f)⟩
structure GU where
 us:List Tx
 a:Option Addr
 c:Nat
 r:Option Addr×Nat
 q:Tk
def lI (nm:Tx) (a1:Option Addr) (n1 c1:Nat) (a2:Option Addr) (n2 c2:Nat) (a3:Option Addr) (n3 c3:Nat) (a4:Option Addr) (a c4:Nat):List Value:=[st nm,.slice a1 n1 c1,.slice a2 n2 c2,.slice a3 n3 c3,.slice a4 a c4]
theorem pG {l c e a:Tk} {nm:Tx} (f:aU [109,111,100,117,108,101] l=some c) (g:dz c=some (nm,e)) (h:aU [123] e=some a):jU l=(iJ (a.length+1) a).bind λu=>
   (jS ((ea u.2).2.length+1) (ea u.2).1 (ea u.2).2).bind λd=>(jT (d.2.length+1) d.1.2 d.2).bind λp=>if p.1.2=true then none else
   (aU gD p.2).bind λr=>(fb 6 r).bind λb=>(aU [125] b.2).map λr=>(⟨nm,u.1,d.1.1,p.1.1,b.1⟩,r):=by
 rw [jU,show pr=[109,111,100,117,108,101] from rfl,f]; simp only [Option.bind_some]; rw [g]; simp only [Option.bind_some]; rw [h]; rfl
theorem lJ:zeroOf Tryz.prog 50=some (.agg #[st [],.slice none 0 0,.slice none 0 0,.slice none 0 0,.slice none 0 0]):=by kernel_rfl
theorem xA:aK Tryz.prog 50=some [(0,1),(1,1),(2,1),(3,1),(4,1)]:=by kernel_rfl
theorem mf:dk Tryz.prog 50=some 5:=by kernel_rfl
theorem QE:Enters Tryz.prog 121:=enters_of Tryz.func121 (by kernel_rfl) rfl
theorem QF:Enters Tryz.prog 122:=enters_of Tryz.func122 (by kernel_rfl) rfl
theorem Bq:aE Tryz.prog 47 151 (.agg #[st [],.bool false,.slice none 0 0,.slice none 0 0,.slice none 0 0]) 5 96:=hV (by kernel_rfl)
theorem QG:dk Tryz.prog 47=some 1:=by kernel_rfl
theorem hQ:f' Tryz.prog 50=some 5:=by kernel_rfl
theorem Br:aE Tryz.prog 46 214 (.agg #[.int .i64 0,st [],.bool false,.int .i64 0]) 4 40:=hV (by kernel_rfl)
theorem QH:dk Tryz.prog 46=some 1:=by kernel_rfl
theorem QI (j:Nat) (b:View) (r:Option Addr×Nat) (l:Tk) (w:World) (S:cW l) (bz:Sl ag 3 b r.1 r.2 l) (f:Ws w (List.flatMap aS.ids (aL j r l)) (aL j r l) [b] w) :
   Calls Tryz.prog 49 #[.pointer (some ⟨j,0,none⟩)] w λe w'=>(∃(m:aZ) (s:ic) (o:Option Addr×Nat) (q:Tk),e = .returned (.agg (fu m s).toArray)/\jU l=some (m,q)/\iB 7 6 (nv w w') s m/\Sl ag 3 b o.1 o.2 q/\Ws w (List.flatMap aS.ids (aL j r l)) (aL j o q) [b] w')\/(∃(o:Option Addr×Nat) (q:Tk),e = .panicked cA/\jU l=none/\Ws w (List.flatMap aS.ids (aL j r l)) (aL j o q) [b] w'):=by
 refine enter Tryz.func49 O 71 O O ?_;refine CE f (aa ?_);refine Al Y O lJ λaH=>?_;refine cD 0 (.cells (lI [] none 0 0 none 0 0 none 0 0 none 0 0).toArray 50 (0,0)) O O (ae (aa (ad O ?_)));refine Lb Y O dT O O O O λcX=>?_;refine a7 (T:=9) (m:=1) 0 [[109,111,100,117,108,101]] O O (show 1<=1 by decide) (by decide) λa4 bA=>?_;refine Lf 1 O ?_
 refine dF (ι:=(Option Addr×Nat)×Tk) (κ:=(Option Addr×Nat)×Tk) [_] _ Y O hf O O (λ_=>.tuple #[]) (λi=>aL j i.1 i.2) (λi=>cZ [[109,111,100,117,108,101]] l=some i.2/\Sl ag 3 b i.1.1 i.1.2 i.2) (λ_=>cA) (λi=>aL j i.1 i.2) (λ_=>cZ [[109,111,100,117,108,101]] l=none) ([b,a4]) (by simp) (λw f=>(hd j b r l a4 _ _ [[109,111,100,117,108,101]] w bA bz f).mono λe w' h=>by
     rcases h with ⟨o,q,u,y,z,B⟩ | ⟨o,q,u,y,z⟩
     · exact .inl ⟨(o,q),u,⟨y,z⟩,B⟩
     · exact .inr ⟨(o,q),u,y,z⟩) ?_ ?_
 ·intro ⟨C,D⟩ A;rw [dX] at A;refine Ep ?_;refine b6 λw' f=>?_;exact .inr ⟨C,D,O,by simp only [jU,pr,A,Option.bind_none],(by have h:=f; have h:=Wt 1 h; have h:=Ws.cv h (ah:=[b]) (by simp); exact h)⟩
 intro ⟨bB,ap⟩ ⟨G,bC⟩;have a5:=hc S G;rw [dX] at G;refine ae (aa (ad O ?_))
 refine dF (ι:=(Tx)×(Option Addr×Nat)×Tk) (κ:=(Option Addr×Nat)×Tk) [_] _ Y O nJ O O (λi=>st i.1) (λi=>aL j i.2.1 i.2.2) (λi=>dz ap=some (i.1,i.2.2)/\Sl ag 3 b i.2.1.1 i.2.1.2 i.2.2) (λ_=>cA) (λi=>aL j i.1 i.2) (λ_=>dz ap=none) ([b]) (by simp) (λw f=>(nK j b bB ap w bC f).mono λe w' h=>by
     rcases h with ⟨t,o,q,u,y,z,B⟩ | ⟨o,q,u,y,z⟩
     · exact .inl ⟨(t,o,q),u,⟨y,z⟩,B⟩
     · exact .inr ⟨(o,q),u,y,z⟩) ?_ ?_
 ·intro ⟨C,D⟩ A;refine Ep ?_;refine b6 λw' f=>?_;exact .inr ⟨C,D,O,by simp only [jU,pr,G,A,Option.bind_some,Option.bind_none],(by have h:=f; have h:=Wt 1 h; have h:=Ws.cv h (ah:=[b]) (by simp); exact h)⟩
 intro ⟨ar,bD,au⟩ ⟨K,bE⟩;have bF:=nI a5 K;refine I (Yb lJ xA O O) ?_;refine Al Y O lJ λaI=>?_;refine aO 0 Y O O O mf O O O (LW (λ_ h=>h.e4 9 1) (LW (λ_ h=>h.e4 214 4) (LW (λ_ h=>h.e4 151 5) ?_)));refine WL.v0 ?_;refine ae (aa (ad O ?_));refine Lb Y O dT O O O O λcY=>?_;refine a7 (T:=9) (m:=1) 0 [[123]] O O (show 1<=1 by decide) (by decide) λa8 bG=>?_;refine Lf 4 O ?_
 refine dF (ι:=(Option Addr×Nat)×Tk) (κ:=(Option Addr×Nat)×Tk) [_] _ Y O hf O O (λ_=>.tuple #[]) (λi=>aL j i.1 i.2) (λi=>cZ [[123]] au=some i.2/\Sl ag 3 b i.1.1 i.1.2 i.2) (λ_=>cA) (λi=>aL j i.1 i.2) (λ_=>cZ [[123]] au=none) ([b,a8]) (by simp) (λw f=>(hd j b bD au a8 _ _ [[123]] w bG bE f).mono λe w' h=>by
     rcases h with ⟨o,q,u,y,z,B⟩ | ⟨o,q,u,y,z⟩
     · exact .inl ⟨(o,q),u,⟨y,z⟩,B⟩
     · exact .inr ⟨(o,q),u,y,z⟩) ?_ ?_
 ·intro ⟨C,D⟩ A;rw [dX] at A;refine Ep ?_;refine b6 λw' f=>?_;exact .inr ⟨C,D,O,by simp only [jU,pr,G,K,A,Option.bind_some,Option.bind_none],(by have h:=f; have h:=Wt 1 h; have h:=Ws.cv h (ah:=[b]) (by simp); exact h)⟩
 intro ⟨bH,aw⟩ ⟨L,bI⟩;have bJ:=hc bF L;rw [dX] at L;refine ae (Cs (Cb ?_));refine av (ι:=GU) (λg=>[]) [(0,_),(2,_),(3,_)] (λg=>Ws w (List.flatMap aS.ids (aL j r l)) (aL j g.r g.q++[aq aI (.cells (lI ar g.a g.us.length g.c none 0 0 none 0 0 none 0 0).toArray 50 (0,0)),cf 9 1 dD g.a g.c g.us,cf 214 4 cB.cells none 0 ([]:List cB),cf 151 5 PX.cells none 0 ([]:List PX),aq aH (.cells (lI [] none 0 0 none 0 0 none 0 0 none 0 0).toArray 50 (0,0))]) [v0,b]) (λg=>(g.us.length+g.q.length<=l.length/\cW g.q)/\Sl ag 3 b g.r.1 g.r.2 g.q/\∃n,g.q.length<n/\iJ (aw.length+1) aw=(iJ n g.q).map λp=>(g.us++p.1,p.2)) (λg=>g.q.length) ⟨[],none,0,bH,aw⟩ ⟨⟨by have:ap.length+1=l.length:=ha G; have:au.length<ap.length:=lH a5 K; have:aw.length+1=au.length:=ha L; simp; omega,bJ⟩,bI,aw.length+1,by simp,by simp⟩ (sc O (sc O (sc O sn))) (λ_ h=>by have h:=h.bR 5 O; have h:=h.bR 2 O; have h:=h.bR 3 O; have h:=h.bR 4 O; have h:=h.bR 5 O; have h:=h.bR 5 O; have h:=Ws.cv h (ah:=[v0,b]) (by simp); exact h) ?_;intro g ⟨⟨c0,a9⟩,bK,E⟩;refine Cs (aa (ad O ?_));refine Lw [_] _ Y O gF O O _ _ _ [b] (by simp) (λw f=>gG j b g.r g.q [117,115,101] w bK f) ?_;intro ⟨c1,a',M⟩ ⟨bM,bN,a_⟩;refine ae ?_;refine Cc O (λaJ=>?_) (λaJ=>?_)
 ·have U:=bM aJ;have aC:=hb a9 U;obtain ⟨n,Z,E⟩:=E;obtain ⟨n,rfl⟩:∃k,n=k+1:=⟨n-1,by omega⟩;refine bf (Cb (Cs ?_));refine CU (λ_=>true) [0,1] [6,7] (.q false 0 (.q true 1 (.q false 2 (.e 3 (.e 4 (.e 5 .nil .stop) .stop) .stop)))) mixed (by kernel_rfl) (λ_ _ _ d _ _ h=>by cases d<;>exact h) ?_;refine U0 O (cK [0,1]) (Yf nH O) (U0 O (cK [0,1]) (Yd 0 O O O eU) (U0 O (cK [0,1]) (Ym O) ?_));refine Ue O (cK [0,1]) ?_ WU.stop
  refine dF (ι:=(Tx)×(Option Addr×Nat)×Tk) (κ:=(Option Addr×Nat)×Tk) [_] _ Y O nJ O O (λi=>st i.1) (λi=>aL j i.2.1 i.2.2) (λi=>dz M=some (i.1,i.2.2)/\Sl ag 3 b i.2.1.1 i.2.1.2 i.2.2) (λ_=>cA) (λi=>aL j i.1 i.2) (λ_=>dz M=none) ([b]) (by simp) (λw f=>(nK j b a' M w a_ f).mono λe w' h=>by
      rcases h with ⟨t,o,q,u,y,z,B⟩ | ⟨o,q,u,y,z⟩
      · exact .inl ⟨(t,o,q),u,⟨y,z⟩,B⟩
      · exact .inr ⟨(o,q),u,y,z⟩) ?_ ?_
  ·intro ⟨C,D⟩ A;refine Ep (Ep (WE.ck (Ep (WE.ck (Ep ?_)))));refine b6 λw' f=>?_;rw [Qu U A] at E;exact .inr ⟨C,D,O,by rw [pG G K L]; simp only [gD,E,Option.bind_some,Option.map_some,Option.bind_none,Option.map_none],(by have h:=f; have h:=Wt 1 h; have h:=Ws.cv h (ah:=[b]) (by simp); exact h)⟩
  intro ⟨aK,bO,N⟩ ⟨ab,bP⟩;have bQ:=nI aC ab;refine Ln (Eu ?_);refine Ue O (cK [0,1]) ?_ WU.stop;refine Lb Y O dT O O O O λc2=>?_;refine cD 0 (.cells (dD aK).toArray 9 (0,0)) O O (Ln (Eu ?_));refine Ue O (λ_ h=>(Wo 1 (Wo 0 (Wd 1 h)):)) ?_ WU.stop;refine LA (aK:Tx) 3 0 Y O dT O O O O O O (by have:=S.len; omega) (by have:=S.len; omega) λbS bT=>?_;refine Ln (Eu ?_);refine WU.nil (λ_ h=>(Wo 1 (Wo 0 (Wd 1 h)):)) ?_;refine WS.e O ?_;refine I (Yf nH O) (Ln (Es ?_));refine WS.e O ?_;refine aO 2 Y O O O xz O O O (Ln (Es ?_));refine WS.nil ?_;refine Et (Cr (ad O ?_));refine Lb Y O dT O O O O λc3=>?_;refine a7 (T:=9) (m:=1) 0 [[59]] O O (show 1<=1 by decide) (by decide) λba bU=>?_;refine Lf 1 O ?_
  refine dF (ι:=(Option Addr×Nat)×Tk) (κ:=(Option Addr×Nat)×Tk) [_] _ Y O hf O O (λ_=>.tuple #[]) (λi=>aL j i.1 i.2) (λi=>cZ [[59]] N=some i.2/\Sl ag 3 b i.1.1 i.1.2 i.2) (λ_=>cA) (λi=>aL j i.1 i.2) (λ_=>cZ [[59]] N=none) ([b,ba]) (by simp) (λw f=>(hd j b bO N ba _ _ [[59]] w bU bP f).mono λe w' h=>by
      rcases h with ⟨o,q,u,y,z,B⟩ | ⟨o,q,u,y,z⟩
      · exact .inl ⟨(o,q),u,⟨y,z⟩,B⟩
      · exact .inr ⟨(o,q),u,y,z⟩) ?_ ?_
  ·intro ⟨C,D⟩ A;rw [dX] at A;refine WE.ck (Ep (WE.ck (Ep ?_)));refine b6 λw' f=>?_;rw [Qv U ab A] at E;exact .inr ⟨C,D,O,by rw [pG G K L]; simp only [gD,E,Option.bind_some,Option.map_some,Option.bind_none,Option.map_none],(by have h:=f; have h:=Wt 1 h; have h:=Ws.cv h (ah:=[b]) (by simp); exact h)⟩
  intro ⟨bV,ac⟩ ⟨af,bW⟩;have bX:=hc bQ af;rw [dX] at af;refine Ln (Eb ?_)
  exact Ea (⟨g.us++[aK],bS,bT,bV,ac⟩:GU) (by have:M.length+1=g.q.length:=ha U; have:N.length<M.length:=lH aC ab; have:ac.length+1=N.length:=ha af; show ac.length<g.q.length; omega) ⟨⟨by have:M.length+1=g.q.length:=ha U; have:N.length<M.length:=lH aC ab; have:ac.length+1=N.length:=ha af; simp; omega,bX⟩,bW,n,(show ac.length<n by have:M.length+1=g.q.length:=ha U; have:N.length<M.length:=lH aC ab; have:ac.length+1=N.length:=ha af; omega),by rw [E,Qt U ab af]; simp [Function.comp_def]⟩ (sc O (sc O (sc O sn))) (λ_ h=>by
      have h:=h.bR 6 rfl;have h:=h.bR 6 rfl;have h:=h.bR 6 rfl;have h:=h.bR 6 rfl;have h:=h.bR 6 rfl;have h:=h.bR 5 rfl;have h:=Wt 6 h;have h:=Ws.cv h (ah:=[v0,b]) (by simp)
      exact h)
 obtain ⟨bZ,b0⟩:=bN aJ;subst b0;obtain ⟨n,Z,E⟩:=E;obtain ⟨n,rfl⟩:∃k,n=k+1:=⟨n-1,by omega⟩;rw [Qs bZ] at E;simp at E;refine Ce (Ex (Ex (cp (Et (aa (ad O ?_))))));refine Lw [_] _ Y O gF O O _ _ _ [b] (by simp) (λw f=>gG j b a' g.q [112,117,98] w a_ f) ?_;intro ⟨aM,b1,V⟩ ⟨bb,bc,b2⟩;have W:ea g.q=(aM,V):=Bm bb bc;obtain ⟨b3,c4⟩:cW V/\V.length<=List.length (g.q):=Bn a9 bb bc;refine ai O (ae (Cs (Cb ?_)));refine av (ι:=GD) (λv=>[(4,.bool v.bx)]) [(0,_),(2,_),(3,_)] (λv=>Ws w (List.flatMap aS.ids (aL j r l)) (aL j v.r v.q++[aq aI (.cells (lI ar g.a g.us.length g.c v.a v.ds.length v.c none 0 0 none 0 0).toArray 50 (0,0)),cf 9 1 dD g.a g.c g.us,cf 214 4 cB.cells v.a v.c v.ds,cf 151 5 PX.cells none 0 ([]:List PX),aq aH (.cells (lI [] none 0 0 none 0 0 none 0 0 none 0 0).toArray 50 (0,0))]) [v0,b]) (λv=>(v.ds.length+v.q.length<=l.length/\cW v.q)/\Sl ag 3 b v.r.1 v.r.2 v.q/\∃n,v.q.length<n/\jS (V.length+1) aM V=(jS n v.bx v.q).map λp=>((v.ds++p.1.1,p.1.2),p.2)) (λv=>v.q.length) ⟨[],none,0,aM,b1,V⟩ ⟨⟨by simp; omega,b3⟩,b2,V.length+1,by simp,by simp⟩ (sc O (sc O (sc O (sc O sn)))) (λ_ h=>h) ?_;intro v ⟨⟨c5,aN⟩,b4,F⟩;refine Cb (aa (ad O (ad O ?_)))
 refine dF (ι:=(Option cB)×(Option Addr×Nat)×Tk) (κ:=(Option Addr×Nat)×Tk) [_] _ Y O QE O O (λi=>.tuple #[.agg #[.int .i64 ((i.1).getD (⟨0,[],v.bx,0⟩:cB)).kind,st ((i.1).getD (⟨0,[],v.bx,0⟩:cB)).nm,.bool ((i.1).getD (⟨0,[],v.bx,0⟩:cB)).bx,.int .i64 ((i.1).getD (⟨0,[],v.bx,0⟩:cB)).n],.bool (i.1).isSome]) (λi=>aL j i.2.1 i.2.2) (λi=>eT v.bx v.q=some (i.1,i.2.2)/\Sl ag 3 b i.2.1.1 i.2.1.2 i.2.2) (λ_=>cA) (λi=>aL j i.1 i.2) (λ_=>eT v.bx v.q=none) ([b]) (by simp) (λw f=>(QC j b v.r v.q v.bx w aN b4 f).mono λe w' h=>by
     rcases h with ⟨t,o,q,u,y,z,B⟩ | ⟨o,q,u,y,z⟩
     · exact .inl ⟨(t,o,q),u,⟨y,z⟩,B⟩
     · exact .inr ⟨(o,q),u,y,z⟩) ?_ ?_
 ·intro ⟨C,D⟩ A;refine Ep (WE.ck (Ep (WE.ck (Ep ?_))));refine b6 λw' f=>?_;obtain ⟨n,Z,F⟩:=F;obtain ⟨n,rfl⟩:∃k,n=k+1:=⟨n-1,by omega⟩;rw [Qy A] at F;exact .inr ⟨C,D,O,by rw [pG G K L]; simp only [gD,E,W,F,Option.bind_some,Option.map_some,Option.bind_none,Option.map_none],(by have h:=f; have h:=Wt 1 h; have h:=Ws.cv h (ah:=[b]) (by simp); exact h)⟩
 intro ⟨aP,bd,P⟩ ⟨ak,be⟩;have bg:=Qd aN ak;refine ad O (I (Yx O O) (I (Yx O O) ?_));refine Al Y O oE λc6=>?_;refine aO 0 Y O O O pA O O O (ai O (ae (Cs (aa (ad O (I (az O) (ae ?_)))))));refine Cc O (λaD=>?_) (λaD=>?_)
 ·obtain ⟨n,Z,F⟩:=F;obtain ⟨n,rfl⟩:∃k,n=k+1:=⟨n-1,by omega⟩
  cases aE:aP with
  | some x=>rw [aE] at aD; simp at aD
  | none=>
  rw [aE] at ak;have b5:P=v.q:=AJ ak;rw [Qw ak] at F;simp at F;refine Ce (Ex (tH O (Ex (cp (Et (Cs (Cb ?_)))))));refine av (ι:=GM) (λe=>[(4,.bool e.bx)]) [(0,_),(2,_),(3,_)] (λe=>Ws w (List.flatMap aS.ids (aL j r l)) (aL j e.r e.q++[aq aI (.cells (lI ar g.a g.us.length g.c v.a v.ds.length v.c e.a e.ps.length e.c none 0 0).toArray 50 (0,0)),cf 9 1 dD g.a g.c g.us,cf 214 4 cB.cells v.a v.c v.ds,cf 151 5 PX.cells e.a e.c e.ps,aq aH (.cells (lI [] none 0 0 none 0 0 none 0 0 none 0 0).toArray 50 (0,0))]) [e.J,b]) (λe=>(e.ps.length+e.q.length<=l.length/\cW e.q)/\Sl ag 3 b e.r.1 e.r.2 e.q/\(eW w e.J/\oI e.J e.ps)/\∃n,e.q.length<n/\jT (P.length+1) v.bx P=(jT n e.bx e.q).map λp=>((e.ps.map (·.1)++p.1.1,p.1.2),p.2)) (λe=>e.q.length) ⟨[],none,0,v0,v.bx,bd,P⟩ ⟨⟨(by have h:=congrArg List.length b5; simp at h ⊢; omega),bg⟩,be,⟨lW w,oI.nil _⟩,P.length+1,by simp,by simp⟩ (sc O (sc O (sc O (sc O sn)))) (λ_ h=>by have h:=h.bR 6 O; have h:=h.bR 6 O; have h:=h.bR 6 O; have h:=h.bR 6 O; have h:=h.bR 6 O; have h:=h.bR 6 O; have h:=Wt 6 h; have h:=Ws.cv h (ah:=[v0,b]) (by simp); exact h) ?_;intro e ⟨⟨c7,bh⟩,b7,⟨bi,bj⟩,H⟩;refine Cs (aa (ad O ?_));refine Lw [_] _ Y O gF O O _ _ _ [b] (by simp) (λw f=>gG j b e.r e.q [112,114,111,99] w b7 f) ?_;intro ⟨c8,aQ,Q⟩ ⟨b9,b',bk⟩;refine ae ?_;refine Cc O (λaR=>?_) (λaR=>?_)
  ·have al:=b9 aR;have ax:=hb bh al;obtain ⟨n,Z,H⟩:=H;obtain ⟨n,rfl⟩:∃k,n=k+1:=⟨n-1,by omega⟩;refine bf (Cb (Cs ?_));refine CU (λ_=>true) [0,3] [7,8] (.q false 0 (.q true 1 (.q false 2 (.q false 3 (.e 4 (.e 5 (.e 6 .nil .stop) .stop) .stop))))) mixed (by kernel_rfl) (λ_ _ _ d _ _ h=>by cases d<;>exact h) ?_;refine U0 O (cK [0,3]) (Yf rO O) (U0 O (cK [0,3]) (Yd 0 O O O tc) (U0 O (cK [0,3]) (Ym O) (U0 O (cK [0,3]) (Ym O) ?_)));refine Ue O (cK [0,3]) ?_ WU.stop
   refine hW (ι:=(dA×qA)×(Option Addr×Nat)×Tk) (κ:=(Option Addr×Nat)×Tk) [_] _ Y O QF O O (λi=>.agg #[st (i.1.1).nm,.bool (i.1.1).bx,.slice (i.1.2).s1.1 (i.1.1).params.length (i.1.2).s1.2,.slice (i.1.2).s2.1 (i.1.1).ay.length (i.1.2).s2.2,.slice (i.1.2).s3.1 (i.1.1).body.length (i.1.2).s3.2]) (λi=>aL j i.2.1 i.2.2) (λaT i=>hP e.bx Q=some (i.1.1,i.2.2)/\rR aT i.1.1 i.1.2/\Sl ag 3 b i.2.1.1 i.2.1.2 i.2.2) (λ_=>cA) (λi=>aL j i.1 i.2) (λ_=>hP e.bx Q=none) ([b]) (by simp) (λ_ _ h=>h) (λw f=>(QD j b aQ Q e.bx w ax bk f).mono λe w' h=>by
       rcases h with ⟨x,s,o,q,u,y,z,B,aU⟩ | ⟨o,q,u,y,z⟩
       · exact .inl ⟨((x,s),o,q),u,⟨y,z,B⟩,aU⟩
       · exact .inr ⟨(o,q),u,y,z⟩) ?_ ?_
   ·intro ⟨C,D⟩ A;refine Ep (Ep (WE.ck (Ep (WE.ck (Ep ?_)))));refine b6 λw' f=>?_;rw [QB al A] at H;exact .inr ⟨C,D,O,by rw [pG G K L]; simp only [gD,E,W,F,H,Option.bind_some,Option.map_some,Option.bind_none,Option.map_none],(by have h:=f; have h:=Wt 1 h; have h:=Ws.cv h (ah:=[b]) (by simp); exact h)⟩
   intro c9 ⟨⟨aV,aW⟩,b_,X⟩ ca ⟨aA,cb,cc⟩;have cd:cW X:=Qf ax aA;refine Ln (Eu ?_);refine Ue O (λ_ h=>(Wv 1 (Wo 3 (Wo 0 h)):)) ?_ WU.stop;refine Lb Y O Bq O O O O λc'=>?_;refine cD 0 (.cells (PX.cells (aV,aW)).toArray 151 (0,0)) O O (Ln (Eu ?_));refine Ue O (λ_ h=>(Wv 1 (Wo 3 (Wo 0 (Wd 1 h))):)) ?_ WU.stop;refine LA ((aV,aW):PX) 5 0 Y O Bq O O O O O O (by have:=S.len; omega) (by have:=S.len; omega) λce cg=>?_;refine Ln (Eu ?_);refine WU.nil (λ_ h=>(Wv 1 (Wo 3 (Wo 0 (Wd 1 h))):)) ?_;refine WS.e O ?_;refine I (Yf rO O) (Ln (Es ?_));refine WS.e O ?_;refine aO 2 Y O O O QG O O O (Ln (Es ?_));refine WS.nil ?_;refine Et ?_;refine WC.hE λbm ch ci cj=>?_;refine Cr (ad O (Lf 1 O ?_));refine Lw [_] _ Y O gF O O _ _ _ [b] (by simp) (λw f=>gG j b b_ X [112,117,98] w cc f) ?_;intro ⟨bn,cl,am⟩ ⟨bo,bp,cm⟩;have cn:ea X=(bn,am):=Bm bo bp;obtain ⟨co,c_⟩:cW am/\am.length<=List.length (X):=Bn cd bo bp;refine ai O (Ln (Eb ?_))
   exact Ea (⟨e.ps++[(aV,aW)],ce,cg,bm,bn,cl,am⟩:GM) (by have:Q.length+1=e.q.length:=ha al; have:X.length<Q.length:=Bl ax aA; show am.length<e.q.length; omega) ⟨⟨by have:Q.length+1=e.q.length:=ha al; have:X.length<Q.length:=Bl ax aA; simp; omega,co⟩,cm,⟨cj _ ca bi,oI.snoc bj ci ch cb⟩,n,(show am.length<n by have:Q.length+1=e.q.length:=ha al; have:X.length<Q.length:=Bl ax aA; omega),by rw [H,QA al aA cn]; simp [Function.comp_def]⟩ (sc O (sc O (sc O (sc O sn)))) (λ_ h=>by
       have h:=h.bR 6 rfl;have h:=h.bR 6 rfl;have h:=h.bR 6 rfl;have h:=h.bR 6 rfl;have h:=h.bR 6 rfl;have h:=h.bR 5 rfl;have h:=Wt 6 h;have h:=Ws.cv h (ah:=[bm,b]) (by simp)
       exact h)
  obtain ⟨cq,cr⟩:=b' aR;subst cr;obtain ⟨n,Z,H⟩:=H;obtain ⟨n,rfl⟩:∃k,n=k+1:=⟨n-1,by omega⟩;rw [Qz cq] at H;simp at H;refine Ce (Ex (Ex (cp (Et (Cs (aa (ad O (ae ?_))))))));refine Cc O (λaY=>?_) (λaY=>?_)
  ·have an:e.bx=true:=aY;refine Cr (I (Yb pD pC O O) (I (bL pE O) ?_));refine WL.panic Y O ?_;refine Ep ?_;refine b6 λw' f=>?_;exact .inr ⟨aQ,e.q,O,by rw [pG G K L]; simp only [gD,E,W,F,H,an,if_true,Option.bind_some,Option.map_some,Option.bind_none,Option.map_none],(by have h:=f; have h:=Wt 1 h; have h:=Ws.cv h (ah:=[b]) (by simp); exact h)⟩
  have an:e.bx=false:=aY;refine bf (aa (ad O ?_));refine Lb Y O dT O O O O λda=>?_;refine a7 (T:=9) (m:=1) 0 [[109,97,105,110]] O O (show 1<=1 by decide) (by decide) λbq cs=>?_
  refine dF (ι:=(Option Addr×Nat)×Tk) (κ:=(Option Addr×Nat)×Tk) [_] _ Y O hf O O (λ_=>.tuple #[]) (λi=>aL j i.1 i.2) (λi=>cZ [[109,97,105,110]] e.q=some i.2/\Sl ag 3 b i.1.1 i.1.2 i.2) (λ_=>cA) (λi=>aL j i.1 i.2) (λ_=>cZ [[109,97,105,110]] e.q=none) ([b,bq]) (by simp) (λw f=>(hd j b aQ e.q bq _ _ [[109,97,105,110]] w cs bk f).mono λe w' h=>by
      rcases h with ⟨o,q,u,y,z,B⟩ | ⟨o,q,u,y,z⟩
      · exact .inl ⟨(o,q),u,⟨y,z⟩,B⟩
      · exact .inr ⟨(o,q),u,y,z⟩) ?_ ?_
  ·intro ⟨C,D⟩ A;rw [dX] at A;refine Ep ?_;refine b6 λw' f=>?_;exact .inr ⟨C,D,O,by rw [pG G K L]; simp only [gD,E,W,F,H,an,A,Bool.false_eq_true,if_false,Option.bind_some,Option.map_some,Option.bind_none,Option.map_none],(by have h:=f; have h:=Wt 1 h; have h:=Ws.cv h (ah:=[b]) (by simp); exact h)⟩
  intro ⟨ct,a0⟩ ⟨aB,cu⟩;have br:=hc bh aB;rw [dX] at aB;refine ae (aa (ad O ?_))
  refine hW (ι:=((List bl)×(Option Addr×Nat))×(Option Addr×Nat)×Tk) (κ:=(Option Addr×Nat)×Tk) [_] _ Y O hj O O (λi=>.slice i.1.2.1 i.1.1.length i.1.2.2) (λi=>aL j i.2.1 i.2.2) (λaT i=>fb 6 a0=some (i.1.1,i.2.2)/\Sl (a6 7 6) 6 aT i.1.2.1 i.1.2.2 i.1.1/\Sl ag 3 b i.2.1.1 i.2.1.2 i.2.2) (λ_=>cA) (λi=>aL j i.1 i.2) (λ_=>fb 6 a0=none) ([b]) (by simp) (λ_ _ h=>h) (λw f=>(Hl b 6 j ct a0 (1) w (by omega) br cu f).mono λe w' h=>by
      rcases h with ⟨x,s,o,q,u,y,z,B,aU⟩ | ⟨o,q,u,y,z⟩
      · exact .inl ⟨((x,s),o,q),u,⟨y,z,B⟩,aU⟩
      · exact .inr ⟨(o,q),u,y,z⟩) ?_ ?_
  ·intro ⟨C,D⟩ A;refine Ep ?_;refine b6 λw' f=>?_;exact .inr ⟨C,D,O,by rw [pG G K L]; simp only [gD,E,W,F,H,an,aB,A,Bool.false_eq_true,if_false,Option.bind_some,Option.map_some,Option.bind_none,Option.map_none],(by have h:=f; have h:=Wt 1 h; have h:=Ws.cv h (ah:=[b]) (by simp); exact h)⟩
  intro db ⟨⟨bs,aF⟩,cw,aG⟩ cx ⟨a1,cy,cz⟩;have cC:cW aG:=uV br a1;refine I (Yf Bc O) (aO 1 Y O O O uY O O O (ae (aa (ad O ?_))));refine Lb Y O dT O O O O λdc=>?_;refine a7 (T:=9) (m:=1) 0 [[125]] O O (show 1<=1 by decide) (by decide) λbt cE=>?_
  refine dF (ι:=(Option Addr×Nat)×Tk) (κ:=(Option Addr×Nat)×Tk) [_] _ Y O hf O O (λ_=>.tuple #[]) (λi=>aL j i.1 i.2) (λi=>cZ [[125]] aG=some i.2/\Sl ag 3 b i.1.1 i.1.2 i.2) (λ_=>cA) (λi=>aL j i.1 i.2) (λ_=>cZ [[125]] aG=none) ([b,bt]) (by simp) (λw f=>(hd j b cw aG bt _ _ [[125]] w cE cz f).mono λe w' h=>by
      rcases h with ⟨o,q,u,y,z,B⟩ | ⟨o,q,u,y,z⟩
      · exact .inl ⟨(o,q),u,⟨y,z⟩,B⟩
      · exact .inr ⟨(o,q),u,y,z⟩) ?_ ?_
  ·intro ⟨C,D⟩ A;rw [dX] at A;refine Ep ?_;refine b6 λw' f=>?_;exact .inr ⟨C,D,O,by rw [pG G K L]; simp only [gD,E,W,F,H,an,aB,a1,A,Bool.false_eq_true,if_false,Option.bind_some,Option.map_some,Option.bind_none,Option.map_none],(by have h:=f; have h:=Wt 1 h; have h:=Ws.cv h (ah:=[b]) (by simp); exact h)⟩
  intro ⟨cG,cH⟩ ⟨a2,cI⟩;have dd:=hc cC a2;rw [dX] at a2;refine ae (Cs ?_);refine WC.ll (rd:=rdStr) 2 O (λk R=>by simp [aL,aq] at R; subst R; simp [dM,aL,aq,bY]) iA (λ_ _ _ _ h=>h) λde cJ cL=>?_;refine WC.ll (rd:=re) 2 O (λk R=>by simp [aL,aq] at R; subst R; simp [dM,aL,aq,bY]) cB.aj (λ_ _ _ _ h=>h) λdf cM cN=>?_;refine WC.ll (rd:=Bo) 2 O (λk R=>by simp [aL,aq] at R; subst R; simp [dM,aL,aq,bY]) PX.aj (λ_ _ _ _ h=>h) λdg cO cP=>?_;refine Cr (I (b8 1 O O hQ O) (aO 2 Y O O O mf O O O (ae (aX ?_))));refine WE.ee (gL O (dI 2 O O hQ O)) λw' f=>?_;exact .inl ⟨⟨ar,g.us,v.ds,e.ps.map (·.1),bs⟩,⟨g.a,g.c,v.a,v.c,e.a,e.c,aF.1,aF.2⟩,cG,cH,by show Ending.returned (.agg #[st ar,.slice g.a g.us.length g.c,.slice v.a v.ds.length v.c,.slice e.a e.ps.length e.c,.slice aF.1 bs.length aF.2])=_; simp [fu],by rw [pG G K L]; simp only [gD,E,W,F,H,an,aB,a1,a2,Bool.false_eq_true,if_false,Option.bind_some,Option.map_some,Option.bind_none,Option.map_none],⟨nM cL (cF f (by simp) cJ),Bp cN (cF f (by simp) cM),Hn cP (cF f (by simp) cO) (cF f (by simp) bi) bj,pF cy (cF f (by simp) cx)⟩,cI,Wv 7 (Wt 1 f)⟩
 obtain ⟨n,Z,F⟩:=F;obtain ⟨n,rfl⟩:∃k,n=k+1:=⟨n-1,by omega⟩
 obtain ⟨a3,aE⟩:∃x,aP=some x:=by
   cases aP with
   | none=>simp at aD
   | some x=>exact ⟨x,rfl⟩
 subst aE;have dh:P.length<v.q.length:=Qe aN ak;refine bf (aa (I (Yf tb O) (I (Yd 2 O O O gu) (I (b8 0 O O me O) ?_))));refine Lb Y O Br O O O O λdi=>?_;refine cD 0 (.cells (cB.cells a3).toArray 214 (0,0)) O O ?_;refine LA (a3:cB) 5 0 Y O Br O O O O O O (by have:=S.len; omega) (by have:=S.len; omega) λcQ cR=>?_;refine I (Yf tb O) (aO 3 Y O O O QH O O O (ae (Cr (ad O (Lf 2 O ?_)))));refine Lw [_] _ Y O gF O O _ _ _ [b] (by simp) (λw f=>gG j b bd P [112,117,98] w be f) ?_;intro ⟨bu,cS,ao⟩ ⟨bv,bw,cT⟩;have cU:ea P=(bu,ao):=Bm bv bw;obtain ⟨cV,dj⟩:cW ao/\ao.length<=List.length (P):=Bn bg bv bw;refine ai O (Ln (Eb ?_))
 exact Ea (⟨v.ds++[a3],cQ,cR,bu,cS,ao⟩:GD) (by show ao.length<v.q.length; omega) ⟨⟨by simp; omega,cV⟩,cT,n,(show ao.length<n by omega),by rw [F,Qx ak cU]; simp [Function.comp_def]⟩ (sc O (sc O (sc O (sc O sn)))) (λ_ h=>by
     have h:=h.bR 7 rfl;have h:=h.bR 7 rfl;have h:=h.bR 7 rfl;have h:=h.bR 7 rfl;have h:=h.bR 7 rfl;have h:=h.bR 5 rfl;have h:=Wt 6 h;have h:=Ws.cv h (ah:=[v0,b]) (by simp)
     exact h)
theorem QJ {s:Tx} (h:¬(ey s).2=0):cc s=(oz,(ey s).2):=by rw [cc,if_pos h]
theorem QK {s:Tx} (h:(ey s).2=0) (a:jU (ey s).1=none):cc s=(oz,1):=by rw [cc,if_neg (by simp [h]),a]
theorem QL {s:Tx} {m:aZ} {q:Tk} (h:(ey s).2=0) (b:jU (ey s).1=some (m,q)) (a:0<q.length\/¬fH m=0):cc s=(oz,1):=by
 rw [cc,if_neg (by simp [h]),b]
 cases q with
 | cons t r=>rfl
 | nil=>
   simp only;rw [if_neg]
   rcases a with a | a
   · simp at a
   · exact a
theorem QM {s:Tx} {m:aZ} {q:Tk} (h:(ey s).2=0) (a:jU (ey s).1=some (m,q)) (b:q.length=0) (c:fH m=0):cc s=(m,0):=by
 rw [cc,if_neg (by simp [h]),a];obtain rfl:q=[]:=List.eq_nil_of_length_eq_zero b;simp only;rw [if_pos c]
theorem Bs {s:Tx} (h:(ey s).2=0):cW (ey s).1:=⟨Ou h,(Ds (Dt h)).2⟩
def xB:ic:=⟨none,0,none,0,none,0,none,0⟩
theorem Bt (a:View):iB 7 6 a xB oz:=⟨Sl.nil,Sl.nil,Sl.nil,Sl.nil⟩
theorem QN {c d:View} {ke ks:Nat} {s:ic} {m:aZ} (h:iB ke ks c s m) (hv:bw c d):iB ke ks d s m:=⟨nM h.ak hv,Bp h.decls hv,h.procs.imp λb o x a=>Dy hv (Nat.le_refl _) (Nat.le_refl _) b o x a,h.main.imp λb o x a=>ri hv (Nat.le_refl _) (Nat.le_refl _) b o x a⟩
theorem u1:Tryz.prog.underlying 20=some (.interface (Tryz.prog.methodsAt 20)):=by kernel_rfl
theorem qB:dk Tryz.prog 23=some 1:=by kernel_rfl
theorem Hs:zeroOf Tryz.prog 23=some (.int .i64 0):=by kernel_rfl
theorem QO:Enters Tryz.prog 47:=enters_of Tryz.func47 (by kernel_rfl) rfl
theorem lK:eG Tryz.prog 23=true:=by kernel_rfl
theorem QP:aK Tryz.prog 96=some [(0,1)]:=by kernel_rfl
theorem QQ:zeroOf Tryz.prog 96=some (.agg #[.slice none 0 0]):=by kernel_rfl
theorem QR:Enters Tryz.prog 49:=enters_of Tryz.func49 (by kernel_rfl) rfl
theorem Bu:Enters Tryz.prog 48:=enters_of Tryz.func48 (by kernel_rfl) rfl
theorem Bv:Enters Tryz.prog 50:=enters_of Tryz.func50 (by kernel_rfl) rfl
theorem QS (a b:Nat) (c:Array Value) (h:c.size=5) (d:Int) (w:World) (f:Ws w (List.flatMap aS.ids [aq a (.cells c 50 (0,0)),aq b (.cells #[.int .i64 d] 23 (0,0))]) [aq a (.cells c 50 (0,0)),aq b (.cells #[.int .i64 d] 23 (0,0))] [] w) :
   CallsD Tryz.prog 48 #[.pointer (some ⟨a,0,none⟩),.pointer (some ⟨b,0,none⟩)] (.returning) w λe g w'=>g = .returning/\(e = .returned (.tuple #[])/\Ws w (List.flatMap aS.ids [aq a (.cells c 50 (0,0)),aq b (.cells #[.int .i64 d] 23 (0,0))]) [aq a (.cells c 50 (0,0)),aq b (.cells #[.int .i64 d] 23 (0,0))] [] w'):=by
 refine sh Tryz.func48 O 5 O O O O O (λ_=>rfl) (.inl ⟨O,O,O⟩) ?_;refine LW (W':=Ws w (List.flatMap aS.ids [aq a (.cells c 50 (0,0)),aq b (.cells #[.int .i64 d] 23 (0,0))]) [aq a (.cells c 50 (0,0)),aq b (.cells #[.int .i64 d] 23 (0,0))] []) (λ_ e=>by subst e; exact f) (I (yQ u1 O) (ae ?_));refine WC.kc O ?_;refine Ck ?_;refine E0 O λw' f=>?_;exact ⟨O,f⟩
theorem Ht (a b:Nat) (c:List Value) (g:c.length=5) (d:Int) (w:World) (f:Ws w (List.flatMap aS.ids [aq a (.cells c.toArray 50 (0,0)),aq b (.cells #[.int .i64 d] 23 (0,0))]) [aq a (.cells c.toArray 50 (0,0)),aq b (.cells #[.int .i64 d] 23 (0,0))] [] w) :
   CallsD Tryz.prog 48 #[.pointer (some ⟨a,0,none⟩),.pointer (some ⟨b,0,none⟩)] (.panicking cA) w λe h w'=>h = .panicking [⟨.iface 100 (.agg #[]),true,false⟩]/\(e = .returned (.tuple #[])/\Ws w (List.flatMap aS.ids [aq a (.cells c.toArray 50 (0,0)),aq b (.cells #[.int .i64 d] 23 (0,0))]) [aq a (.cells (lI [] none 0 0 none 0 0 none 0 0 none 0 0).toArray 50 (0,0)),aq b (.cells #[.int .i64 1] 23 (0,0))] [] w'):=by
 refine sh Tryz.func48 O 5 O O O O O (λ_=>rfl) (.inr ⟨_,O,O,O⟩) ?_;refine LW (W':=Ws w (List.flatMap aS.ids [aq a (.cells c.toArray 50 (0,0)),aq b (.cells #[.int .i64 d] 23 (0,0))]) [aq a (.cells c.toArray 50 (0,0)),aq b (.cells #[.int .i64 d] 23 (0,0))] []) (λ_ e=>by subst e; exact f) (I (C0 u1 O) (ae ?_));refine WC.yv O ?_;refine Cr (I (Yb lJ xA O O) ?_);refine WL.mH 0 (.cells (lI [] none 0 0 none 0 0 none 0 0 none 0 0).toArray 50 (0,0)) Y O O O mf O O (by simp [o0,g]) (by simp [oZ,eB,lI,g,List.drop_eq_nil_of_le]) ?_;refine aO 1 Y O O O qB O O O (Ln ?_);refine E0 O λw' f=>?_;exact ⟨O,f⟩
theorem Bx (k:View) (s:Tx) (w:World) (D:Le k w) (E:Laid k) :
   Calls Tryz.prog 18 #[st s] w λe w'=>∃r:ic,e = .returned (.tuple #[.agg (fu (cc s).1 r).toArray,.int .i64 (cc s).2])/\Ext w w'/\iB 7 6 (nv w w') r (cc s).1:=by
 refine yN Tryz.func18 O 35 O O ?_;refine CE (Vs:=[k]) (Ws.init (by simp [D])) (aa ?_);refine Al Y O lJ λd=>?_;refine cD 0 (.cells (lI [] none 0 0 none 0 0 none 0 0 none 0 0).toArray 50 (0,0)) O O ?_;refine Al Y O Hs λf=>?_;refine cD 0 (.cells #[.int .i64 0] 23 (0,0)) O O (ae (aa (ad O ?_)));refine Ld Y O QO O (λr:Option Addr×Nat=>.tuple #[.slice r.1 (ey s).1.length r.2,.int .i64 (ey s).2]) (λn r=>Sl ag 3 n r.1 r.2 (ey s).1) (λw a=>O8 k s w (a.vs _ (by simp)) E) ?_;intro o F Q G;refine ad O (I (Yx O O) (I (Yx O O) (ai O (aO 0 Y O O O qB O O O (ae (Cs (aa (I (Yd 0 O O O lK) (I (e8 O O) ?_)))))))));refine ae ?_;refine Cc O (λp=>?_) (λp=>?_)
 ·have c:¬(ey s).2=0:=by simpa using p
  refine Cs ?_;refine CU (m_ [.cell 2 50,.cell 3 23]) [1] [3] (.q false 0 (.q true 1 (.e 2 .nil .stop))) mixed (by kernel_rfl) (λ_ _ _ _ _ H h=>q5 (fn:=Tryz.f18) [.cell 2 50,.cell 3 23] O H h) ?_;refine U0 O (Wp 1) (Yb lJ xA O O) (U0 O (Wp 1) (Yd 0 O O O lK) ?_);refine Ue O (Wp 1) ?_ WU.stop;refine aO 1 Y O O O mf O O O (Ln (Eu ?_));refine WU.nil (Wp 1) ?_;refine WS.e O ?_;refine aO 0 Y O O O qB O O O (Ln (Es ?_));refine WS.nil ?_;refine Et (aX (Er ?_));refine WE.yP (fj O (dI 1 O O hQ O) (lQ 0 O O O lK)) λw' a=>?_;rw [QJ c];exact ⟨xB,O,a.fr,Bt _⟩
 have c:(ey s).2=0:=by simpa using p
 refine e9 0 (.cells #[.int .i64 0] 23 (0,0)) O (by show Obj.cells #[.int .i64 (ey s).2] _ _=_; rw [c]) (bf (aa (I (cn O) ?_)));refine WL.defer Y O ?_;refine ae (aa (ad O (I (Yb QQ QP O O) ?_)));refine WL.box Y O O λt=>?_;refine ai O (ae (aa (ad O ?_)))
 refine hW (ι:=(aZ×ic)×(Option Addr×Nat)×Tk) (κ:=(Option Addr×Nat)×Tk) [_] _ Y O QR O O (λi=>.agg (fu i.1.1 i.1.2).toArray) (λi=>aL t i.2.1 i.2.2) (λn i=>jU (ey s).1=some (i.1.1,i.2.2)/\iB 7 6 n i.1.2 i.1.1/\Sl ag 3 o i.2.1.1 i.2.1.2 i.2.2) (λ_=>cA) (λi=>aL t i.1 i.2) (λ_=>jU (ey s).1=none) ([o]) (by simp) (λ_ _ h=>h) (λw a=>(QI t o F (ey s).1 w (Bs c) G a).mono λe w' h=>by
     rcases h with ⟨x,s,u,q,l,v,y,J,K⟩ | ⟨u,q,l,v,y⟩
     · exact .inl ⟨((x,s),u,q),l,⟨v,y,J⟩,K⟩
     · exact .inr ⟨(u,q),l,v,y⟩) ?_ ?_
 ·intro ⟨R,S⟩ L;refine Ep ?_;refine WE.front 1 O ?_;refine WE.front 2 O ?_;refine WE.cr Bu (nW [_,_] _ [aq d (.cells (lI [] none 0 0 none 0 0 none 0 0 none 0 0).toArray 50 (0,0)),aq f (.cells #[.int .i64 1] 23 (0,0))] O (λw a=>Ht d f (lI [] none 0 0 none 0 0 none 0 0 none 0 0) O 0 w a)) (fj O (dI 0 O O hQ O) (lQ 1 O O O lK)) λw' a=>?_;rw [QK c L];exact ⟨xB,O,a.fr,Bt _⟩
 intro M ⟨⟨b,j⟩,T,m⟩ N ⟨z,B,U⟩
 have V:wM b<=73728:=by
   have l:wM b+18*m.length<=18*(ey s).1.length:=uZ z;have:=(Bs c).len;omega
 refine aO 2 Y O O O mf O O O (ae (Cs (Cs (e9 2 (.cells (fu b j).toArray 50 (0,0)) O O (Cr (ad O (I (cy O) (I (Yf mO O) (I (Yd 0 O O O oG) ?_)))))))));refine I (Yn oC O) (I (dc O O) (ad O ?_));apply Lo 3 O O O O Y O O O O O
 ·intro W;refine Vg (b8 2 O O hQ O) (Lp (.g O O O) O Bv O (λw a=>Bd M 7 6 j b w (a.vs _ (by simp)) B (by omega)) (Vg (e8 O O) ?_));exact Gt 3 O O O
 refine ae ?_;refine Cc O (λA=>?_) (λA=>?_)
 ·have P:0<m.length\/¬fH b=0:=by simpa using A
  refine Cr (I (Yb pD pC O O) (I (bL pE O) ?_));refine WL.panic Y O ?_;refine Ep ?_;refine WE.front 1 O ?_;refine WE.front 2 O ?_;refine WE.cr Bu (nW [_,_] _ [aq d (.cells (lI [] none 0 0 none 0 0 none 0 0 none 0 0).toArray 50 (0,0)),aq f (.cells #[.int .i64 1] 23 (0,0))] O (λw a=>Ht d f (fu b j) O 0 w a)) (fj O (dI 0 O O hQ O) (lQ 1 O O O lK)) λw' a=>?_;rw [QL c z P];exact ⟨xB,O,a.fr,Bt _⟩
 have C:¬0<m.length/\fH b=0:=by simpa using A
 refine bf (aa (I (b8 2 O O hQ O) (aO 2 Y O O O mf O O O (aO 1 Y O O O qB O O O (ae (aX ?_))))));refine WE.front 1 O ?_;refine WE.front 2 O ?_;refine WE.yO Bu (nW [_,_] _ [aq d (.cells (fu b j).toArray 50 (0,0)),aq f (.cells #[.int .i64 0] 23 (0,0))] O (λw a=>QS d f (fu b j).toArray O 0 w a)) (fj O (dI 0 O O hQ O) (lQ 1 O O O lK)) λw' a=>?_;rw [QM c z (by have:=C.1; show m.length=0; omega) C.2];exact ⟨j,O,a.fr,QN B (cF a (by simp) N)⟩
theorem Hu (s:Tx):(dD s).all (·.oneCell')=true:=rfl
theorem QT:an Tryz.prog 214 2=some 2:=by kernel_rfl
theorem QU:an Tryz.prog 151 1=some 1:=by kernel_rfl
def asks (s:Tx) (l:Tk):Bool:=(l.head?.map λt=>(!(t.kind==2)&&(t.text==s))).getD false
structure GE where
 es:List XE
 a:Option Addr
 c:Nat
 J:View
 r:Option Addr×Nat
 q:Tk
 more:Bool
structure GO where
 j:Nat
 o:Int
 r:Option Addr×Nat
 q:Tk
structure u2 (f:Nat) (N:View) (x:bl) (p:mQ):Prop where
 args:Sl (ff 8) 5 N p.s1.1 p.s1.2 x.args
 body:Sl (a6 8 f) 6 N p.s2.1 p.s2.2 x.body
 other:Sl (a6 8 f) 6 N p.s3.1 p.s3.2 x.other
theorem By {d e:View} {f c:Nat} {a:Option Addr} {l:List bl} (h:Sl (a6 8 f) 6 d a c l) (hv:bw d e):Sl (a6 8 f) 6 e a c l:=h.imp λb o y g=>ri hv (Nat.le_refl _) (Nat.le_refl _) b o y g
theorem u2.mv {f:Nat} {a b:View} {x:bl} {p:mQ} (h:u2 f a x p) (hv:bw a b):u2 f b x p:=⟨gO h.args hv,By h.body hv,By h.other hv⟩
def u3 (J:View) (f:Nat) (es:List SX):Prop:=∀e ∈ es,u2 f J e.1 e.2
theorem u3.nil (J:View) (f:Nat):u3 J f []:=by intro e h; simp at h
theorem u3.snoc {J c b:View} {f:Nat} {es:List SX} {e:SX} (h:u3 J f es) (d:bw J b) (g:bw c b) (i:u2 f c e.1 e.2):u3 b f (es++[e]):=by
 intro x a
 rcases List.mem_append.1 a with a | a
 · exact (h x a).mv d
 · rw [List.mem_singleton] at a
   subst a;exact i.mv g
variable {pb:Tk->List bl×Tk} {l r q1 q2 q3 q4:Tk} {x y:aV} {b o:List bl} {p:Tx×Tx} {xs:List aV}
variable {ps:Tk->bl×Tk} {s:bl} {n:Nat}
theorem u4:aK Tryz.prog 242=some [(0,1),(1,1),(2,1),(3,1),(4,1),(5,1)]:=by kernel_rfl
structure u5 (N:View) (x:dA) (p:qA):Prop where
 params:Sl rdStr 1 N p.s1.1 p.s1.2 x.params
 ay:Sl rdStr 1 N p.s2.1 p.s2.2 x.ay
 body:Sl (a6 8 6) 6 N p.s3.1 p.s3.2 x.body
theorem u5.mv {a b:View} {x:dA} {p:qA} (h:u5 a x p) (hv:bw a b):u5 b x p:=⟨nM h.params hv,nM h.ay hv,By h.body hv⟩
def u6 (J:View) (es:List PX):Prop:=∀e ∈ es,u5 J e.1 e.2
theorem u6.nil (J:View):u6 J []:=by intro e h; simp at h
theorem u6.snoc {J c b:View} {es:List PX} {e:PX} (h:u6 J es) (d:bw J b) (f:bw c b) (g:u5 c e.1 e.2):u6 b (es++[e]):=by
 intro x a
 rcases List.mem_append.1 a with a | a
 · exact (h x a).mv d
 · rw [List.mem_singleton] at a
   subst a;exact g.mv f
structure VB where
 ds:List cB
 a:Option Addr
 c:Nat
 go:Bool
 bx:Bool
 r:Option Addr×Nat
 q:Tk
structure GH where
 ps:List Tx
 a:Option Addr
 c:Nat
 more:Bool
 r:Option Addr×Nat
 q:Tk
theorem Hv:dk Tryz.prog 4=some 1:=by kernel_rfl
theorem QV (a b:View) (a1 a2:Option Addr) (c1 c2:Nat) (l:List Tx) (w:World) (n:Le a w) (o:Le b w) (c:Sl rdStr 1 a a1 c1 l) (f:Sl rdStr 1 b a2 c2 l) :
   Calls Tryz.prog 44 #[.slice a1 l.length c1,.slice a2 l.length c2] w λe w'=>e = .returned (.bool true)/\Ext w w':=by
 have y:=c.cap;have z:=c.max;have A:=f.cap;have B:=f.max;refine enter Tryz.func44 O 26 O O ?_;refine CE (Vs:=[a,b]) (Ws.init (by simp [n,o])) (aa (ai O (ae (Cs (aa (ad O (I (Yn di O) (ad O (I (Yn di O) ?_)))))))));refine I (kl O O O) (ae ?_);refine WC.kc O ?_;refine bf (Cs (aa (ai O (ae (Cb ?_)))));refine CW (ι:=Nat) (λi=>[(5,.int .i64 (i:Int))]) [(0,_),(1,_)] (λi=>i<=l.length) (λi=>l.length-i) 0 (Nat.zero_le _) (sc O (sc O (sc O sn))) ?_;intro i hi;refine Cs (aa (ad O (ad O (I (Yn di O) (I (b0 O O) (ae ?_))))));refine Cc O (λk=>?_) (λk=>?_)
 ·have p:i<l.length:=by simpa using k
  obtain ⟨x,m⟩:∃x,l[i]? = some x:=⟨_,List.getElem?_eq_getElem p⟩;obtain ⟨pb,q,r,g⟩:=c.bJ i x m;obtain ⟨s,t,u,j⟩:=f.bJ i x m;have g:bI a pb (q+i*1) (dD x):=g;have j:bI b s (t+i*1) (dD x):=j;refine bf (Cs (Cb (Cs ?_)));refine WC.ld [(0,true),(1,true),(2,true),(3,true),(4,true),(5,true),(6,true),(7,true),(8,true)] mixed (by kernel_rfl) (λ_ _ _ d _ h=>by cases d<;>exact h) ?_;refine D0 O (λ_ h=>h) (Ym O) (D0 O (λ_ h=>h) (Ym O) (D0 O (λ_ h=>h) (Yo di O O r (by omega)) (D0 O (λ_ h=>h) (b9 0 cN O O (g 0 _ O)) (D0 O (λ_ h=>h) (Ym O) (D0 O (λ_ h=>h) (Ym O) (D0 O (λ_ h=>h) (Yo di O O u (by omega)) (D0 O (λ_ h=>h) (b9 1 cN O O (j 0 _ O)) ?_)))))));refine D0 O (λ_ h=>h) (zg O O O) ?_;refine WD.nil (λ_ h=>h) ?_;refine Et ?_;refine WC.kc O ?_;refine Ck (Eb (Et (Cr (ad O (I (Yi O O O (by omega)) (ai O (Ln ?_)))))));exact Ea (i+1) (by omega) (by omega) (sc O (sc O (sc O sn))) (λ_ h=>h)
 refine Ce (Ex (Ex (cp (Et (aa (ai O (ae (aX ?_))))))));refine R1 O O λw' v=>?_;exact ⟨O,v.fr⟩
abbrev SP:=Option Addr×Nat
def c6:bs->List UInt8:=λx=>x.name
abbrev k4:=List UInt8×Int×Nat
def iv (M:List k4):List lf:=M.map λe=>(e.1,.int .i64 e.2.1,e.2.2)
def kA (k:List UInt8):List k4->Nat->Option (Nat×Int)
 | [],_=>none
 | e::r,i=>if (k==e.1)=true then some (i,e.2.1) else kA k r (i+1)
def Bz (k:List UInt8) (M:List k4):Int:=match kA k M 0 with | some (_,n)=>n | none=>0
def u7 (k:List UInt8) (n:Int) (M:List k4) (c:Nat):List k4:=match kA k M 0 with
 | some (i,_)=>M.modify i λe=>(k,n,e.2.2)
 | none=>M++[(k,n,c)]
def jj (k:List UInt8) (M:List k4) (c:Nat):Nat:=match kA k M 0 with | some _=>c | none=>c+1
theorem xC (k:List UInt8):∀(M:List k4) (i:Nat),lP k (iv M) i=(kA k M i).map λr=>(r.1,.int .i64 r.2)
 | [],_=>rfl
 | e::r,i=>by
   simp only [iv,List.map_cons,lP,kA];cases (k==e.1)
   · simp only [Bool.false_eq_true,if_false]
     exact xC k r (i+1)
   · simp
theorem QW (k:List UInt8) (M:List k4):ec k (iv M) (.int .i64 0) = .int .i64 (Bz k M):=by
 unfold ec Bz;rw [xC]
 cases kA k M 0<;>rfl
theorem QX (k:List UInt8) (n:Int) (M:List k4) (c:Nat):sd k (.int .i64 n) (iv M) c=iv (u7 k n M c):=by
 unfold sd u7;rw [xC]
 cases kA k M 0 with
 | none=>simp [iv]
 | some r=>
   simp only [Option.map_some];apply List.ext_getElem?;intro i;simp only [iv,List.getElem?_modify,List.getElem?_map]
   cases M[i]? with
   | none=>simp
   | some e=>by_cases h:r.1=i<;>simp [h]
theorem QY (k:List UInt8) (M:List k4) (c:Nat):se k (iv M) c=jj k M c:=by
 unfold se jj;rw [xC]
 cases kA k M 0<;>rfl
def keysOf (M:List k4):List (List UInt8):=M.map (·.1)
theorem BB {k:List UInt8}:∀{M:List k4} {i:Nat},kA k M i=none↔k ∉ keysOf M
 | [],_=>by simp [kA,keysOf]
 | e::r,i=>by
   simp only [kA,keysOf,List.map_cons,List.mem_cons,not_or]
   by_cases h:k=e.1
   · simp [h]
   · have:=BB (k:=k) (M:=r) (i:=i+1)
     simp [h,keysOf] at this ⊢;exact this
theorem Hw {k:List UInt8}:∀{M:List k4} {i j:Nat} {n:Int},kA k M i=some (j,n)->i<=j/\(M[j-i]?).map (·.1)=some k
 | [],_,_,_,h=>by simp [kA] at h
 | e::r,i,j,n,h=>by
   simp only [kA] at h
   split at h
   · rename_i a
     injection h with h; injection h with b c
     subst b;simp at a;simp [a]
   · obtain ⟨b,c⟩:=Hw h
     refine ⟨by omega,?_⟩
     have:j-i=(j-(i+1))+1:=by omega
     rw [this]; simpa using c
theorem Hx (k:List UInt8) (n:Int) (M:List k4) (c:Nat):keysOf (u7 k n M c)=if k ∈ keysOf M then keysOf M else keysOf M++[k]:=by
 unfold u7
 cases h:kA k M 0 with
 | none=>rw [if_neg (BB.1 h)]; simp [keysOf]
 | some r=>
   obtain ⟨j,v⟩:=r;have a:=(Hw h).2
   have f:k ∈ keysOf M:=by
     cases Classical.em (k ∈ keysOf M) with
     | inl b=>exact b
     | inr b=>rw [BB.2 b] at h; cases h
   rw [if_pos f];apply List.ext_getElem?;intro i;simp only [keysOf,List.getElem?_map,List.getElem?_modify]
   cases g:M[i]? with
   | none=>simp
   | some e=>
     by_cases d:j=i
     · subst d; simp only [Nat.sub_zero,g] at a; simp at a; simp [a]
     · simp [d]
def k5 (l:List (List UInt8)):Nat->List k4×Nat
 | 0=>([],0)
 | i+1=>(u7 (l[i]?.getD []) (IntKind.i64.wrap (Bz (l[i]?.getD []) (k5 l i).1+1)) (k5 l i).1 (k5 l i).2,jj (l[i]?.getD []) (k5 l i).1 (k5 l i).2)
theorem Hy (l:List (List UInt8)) (k:List UInt8):∀i,k ∈ keysOf (k5 l i).1↔∃j,j<i/\l[j]?.getD []=k
 | 0=>by simp [k5,keysOf]
 | i+1=>by
   have b:=Hy l k i;simp only [k5,Hx]
   have step:(∃j,j<i+1/\l[j]?.getD []=k)↔(∃j,j<i/\l[j]?.getD []=k)\/l[i]?.getD []=k:=by
     constructor
     · rintro ⟨j,a,e⟩
       rcases Nat.lt_succ_iff_lt_or_eq.1 a with h | rfl
       · exact .inl ⟨j,h,e⟩
       · exact .inr e
     · rintro (⟨j,a,e⟩ | e)
       · exact ⟨j,by omega,e⟩
       · exact ⟨i,by omega,e⟩
   rw [step,<-b]
   split
   · rename_i c
     constructor
     · exact .inl
     · rintro (h | h)
       · exact h
       · rw [<-h]; exact c
   · simp [eq_comm]
theorem Hz (l:List (List UInt8)):∀i,(keysOf (k5 l i).1).length<=i/\((keysOf (k5 l i).1).length<i↔∃c,c<i/\∃j,j<c/\l[j]?.getD []=l[c]?.getD [])
 | 0=>by simp [k5,keysOf]
 | i+1=>by
   obtain ⟨n,g⟩:=Hz l i;have k:=Hy l (l[i]?.getD []) i;simp only [k5,Hx]
   split
   · rename_i f
     obtain ⟨j,d,e⟩:=k.1 f;exact ⟨by omega,⟨λ_=>⟨i,by omega,j,d,e⟩,λ_=>by omega⟩⟩
   · rename_i f
     refine ⟨by simp; omega,?_⟩;rw [List.length_append,List.length_singleton]
     constructor
     · intro h
       obtain ⟨c,a,b⟩:=g.1 (by omega);exact ⟨c,by omega,b⟩
     · rintro ⟨c,m,j,d,e⟩
       rcases Nat.lt_succ_iff_lt_or_eq.1 m with h | rfl
       · have:=g.2 ⟨c,h,j,d,e⟩; omega
       · exact absurd (k.2 ⟨j,d,e⟩) f
theorem QZ (l:List (List UInt8)):decide (((k5 l l.length).1.length:Int)<(l.length:Int))=et l:=by
 have h:=(Hz l l.length).2;simp only [keysOf,List.length_map] at h;rw [Bool.eq_iff_iff];unfold et;simp only [decide_eq_true_eq,List.any_eq_true,List.mem_range,beq_iff_eq]
 constructor
 · intro b
   obtain ⟨i,hi,j,a,e⟩:=h.1 (by omega);exact ⟨i,hi,j,a,e.symm⟩
 · rintro ⟨i,hi,j,a,e⟩
   have:=h.2 ⟨i,hi,j,a,e.symm⟩;omega
theorem gg:Tryz.prog.underlying 123=some (.map 9 3):=by kernel_rfl
theorem je:zeroOf Tryz.prog 3=some (.int .i64 0):=by kernel_rfl
theorem th:an Tryz.prog 131 0=some 0:=by kernel_rfl
theorem qC:an Tryz.prog 131 3=some 3:=by kernel_rfl
theorem lL:an Tryz.prog 131 1=some 1:=by kernel_rfl
theorem jC:an Tryz.prog 131 2=some 2:=by kernel_rfl
theorem pH:an Tryz.prog 65 1=some 1:=by kernel_rfl
theorem rT:eG Tryz.prog 63=true:=by kernel_rfl
theorem oK:eO Tryz.prog 63=some 4:=by kernel_rfl
theorem jW:f' Tryz.prog 131=some 4:=by kernel_rfl
theorem a_:zeroOf Tryz.prog 131=some (.agg #[.int .i64 0,.int .i64 0,.int .i64 0,st []]):=by kernel_rfl
theorem jD:dk Tryz.prog 131=some 4:=by kernel_rfl
theorem Q0:Enters Tryz.prog 137:=enters_of Tryz.func137 (by kernel_rfl) rfl
theorem BC:Enters Tryz.prog 71:=enters_of Tryz.func71 (by kernel_rfl) rfl
theorem xD:an Tryz.prog 65 0=some 0:=by kernel_rfl
theorem BD (b:View) (a:Option Addr) (c:Nat) (l:List (List UInt8)) (w:World) (g:Le b w) (d:Sl rdStr 1 b a c l) :
   Calls Tryz.prog 71 #[.slice a l.length c] w λe w'=>e = .returned (.bool (et l))/\Ext w w':=by
 have s:=d.cap;have t:=d.max;refine enter Tryz.func71 O 23 O O ?_;refine CE (Vs:=[b]) (Ws.init (by simp [g])) (aa (ai O (ae (aa ?_))));refine WL.KP Y O λj=>?_;refine ai O (ae (Cs (aa (ad O (I (Yn di O) (ad O (ae (Cb ?_))))))));refine av (ι:=Nat) (λi=>[(9,.int .i64 (i:Int))]) [(0,_),(2,_),(3,_),(7,_),(8,_)] (λi=>Ws w [] [aq j (mn (iv (k5 l i).1) (k5 l i).2)] [b]) (λi=>i<=l.length) (λi=>l.length-i) 0 (Nat.zero_le _) (sc O (sc O (sc O (sc O (sc O (sc O sn)))))) (λ_ h=>h) ?_;intro i hi;refine aa (I (b0 O O) (ae (Cs ?_)));refine Cc O (λf=>?_) (λf=>?_)
 ·have k:i<l.length:=by simpa using f
  obtain ⟨pb,m,n,o⟩:=d.bJ i (l[i]?.getD []) (by rw [List.getElem?_eq_getElem k]; rfl);have p:vc b pb (m+i*1)=some (st (l[i]?.getD [])):=o 0 _ rfl;refine bf (Cs (Cb (aa (I (Yo di O O n (by omega)) (I (b9 0 cN O O (p)) (ai O (ae (Cr (ad O (ad O (I (KQ 0 gg dO je O O O) ?_)))))))))));rw [QW];refine I (vM O O) ?_;refine WL.KR 0 Y gg dO O O O O ?_;rw [QX,QY];refine Ln (Eb (Et (Cr (I (Yi O O O (by omega)) (ad O (Ln ?_))))));exact Ea (i+1) (by omega) (by omega) (sc O (sc O (sc O (sc O (sc O (sc O sn)))))) (λ_ h=>h)
 have q:i=l.length:=by simp at f; omega
 subst q;refine Ce (Ex (Ex (cp (Et (aa (ad O (I (v_ 0 gg O O) (ad O (I (Yn di O) (I (b0 O O) (ai O ?_)))))))))));refine ae (aX ?_);refine R1 O O λw' r=>?_;exact ⟨by rw [<-QZ]; simp [iv],r.fr⟩
theorem Q1 (x:bs) (w:World) :
   Calls Tryz.prog 137 #[.agg #[.int .i64 x.kind,.int .i64 x.n,.int .i64 x.pl,st x.name]] w λe w'=>e = .returned (.bool (km x))/\Ext w w':=by
 refine enter Tryz.func137 O 42 O O ?_;refine CE (Vs:=[]) (Ws.init (by simp)) (aa ?_);refine WL.box Y O O λl=>?_;refine ai O (ae (aa (ai O (ai O (ae (aa (ai O (ae (Cs (aa (I (Yf th O) ?_)))))))))));refine I (Yd 0 O O O aT) (ae (Cb (aa (I (bP O O) (ai O (ae ?_))))));refine Cc O (λc=>?_) (λc=>?_)
 ·refine Cr (ai O (Ln (Eb (Et (aa (I (Yf qC O) (I (Yd 0 O O O cN) (Lp Y O nD O (λw a=>nC _ w) (ad O ?_)))))))));apply La 4 O O O O Y O O O O O
  ·intro h;refine Vg (Yf lL O) (Vg (Yd 0 O O O aT) (Vg (Ym O) (Vg (aJ O O) ?_)));exact Gt 4 O O O
  refine ad O ?_;apply La 4 O O O O Y O O O O O
  ·intro i;refine Vg (Yf lL O) (Vg (Yd 0 O O O aT) (Vg (Ym O) (Vg (hg O O) ?_)));exact Gt 4 O O O
  refine ad O ?_;apply La 3 O O O O Y O O O O O
  ·intro j;refine Vg (Yf jC O) (Vg (Yd 0 O O O aT) (Vg (aJ O O) ?_));exact Gt 3 O O O
  refine ad O ?_;apply La 4 O O O O Y O O O O O
  ·intro k;refine Vg (Yf jC O) (Vg (Yd 0 O O O aT) (Vg (Ym O) (Vg (hg O O) ?_)));exact Gt 4 O O O
  refine ai O (ae (aX ?_));refine R1 O O λw' a=>?_
  have b:x.kind=1:=by simpa using c
  exact ⟨by rw [wI (by simp [b])],a.fr⟩
 refine aa (I (bP O O) (ai O (ae ?_)));refine Cc O (λd=>?_) (λd=>?_)
 ·refine Cr (ai O (Ln (Eb (Et (aa (I (Yf qC O) (I (Yd 0 O O O cN) (Lp Y O nD O (λw a=>nC _ w) (ad O ?_)))))))));apply La 4 O O O O Y O O O O O
  ·intro h;refine Vg (Yf lL O) (Vg (Yd 0 O O O aT) (Vg (Ym O) (Vg (aJ O O) ?_)));exact Gt 4 O O O
  refine ad O ?_;apply La 4 O O O O Y O O O O O
  ·intro i;refine Vg (Yf lL O) (Vg (Yd 0 O O O aT) (Vg (Ym O) (Vg (hg O O) ?_)));exact Gt 4 O O O
  refine ad O ?_;apply La 3 O O O O Y O O O O O
  ·intro j;refine Vg (Yf jC O) (Vg (Yd 0 O O O aT) (Vg (aJ O O) ?_));exact Gt 3 O O O
  refine ad O ?_;apply La 4 O O O O Y O O O O O
  ·intro k;refine Vg (Yf jC O) (Vg (Yd 0 O O O aT) (Vg (Ym O) (Vg (hg O O) ?_)));exact Gt 4 O O O
  refine ai O (ae (aX ?_));refine R1 O O λw' a=>?_
  have b:x.kind=2:=by simpa using d
  exact ⟨by rw [wI (by simp [b])],a.fr⟩
 refine aa (I (bP O O) (ai O (ae ?_)));refine Cc O (λf=>?_) (λf=>?_)
 ·refine Cr (ai O (ai O (Ln (Eb (Et (aa (I (Yf qC O) (I (Yd 0 O O O cN) (Lp Y O nD O (λw a=>nC _ w) (ad O ?_))))))))));apply La 4 O O O O Y O O O O O
  ·intro h;refine Vg (Yf lL O) (Vg (Yd 0 O O O aT) (Vg (Ym O) (Vg (aJ O O) ?_)));exact Gt 4 O O O
  refine ad O ?_;apply La 4 O O O O Y O O O O O
  ·intro i;refine Vg (Yf lL O) (Vg (Yd 0 O O O aT) (Vg (Ym O) (Vg (hg O O) ?_)));exact Gt 4 O O O
  refine ad O ?_;apply La 3 O O O O Y O O O O O
  ·intro j;refine Vg (Yf jC O) (Vg (Yd 0 O O O aT) (Vg (aJ O O) ?_));exact Gt 3 O O O
  refine ad O ?_;apply La 4 O O O O Y O O O O O
  ·intro k;refine Vg (Yf jC O) (Vg (Yd 0 O O O aT) (Vg (Ym O) (Vg (hg O O) ?_)));exact Gt 4 O O O
  refine ai O (ae (aX ?_));refine R1 O O λw' a=>?_
  have b:x.kind=3:=by simpa using f
  exact ⟨by rw [wI (by simp [b])],a.fr⟩
 refine aa (I (bP O O) (ai O (ae ?_)));refine Cc O (λg=>?_) (λg=>?_)
 ·refine Cr (ai O (Ln (Eb (Et (aa (I (Yf qC O) (I (Yd 0 O O O cN) (Lp Y O nD O (λw a=>nC _ w) (ad O ?_)))))))));apply La 4 O O O O Y O O O O O
  ·intro h;refine Vg (Yf lL O) (Vg (Yd 0 O O O aT) (Vg (Ym O) (Vg (aJ O O) ?_)));exact Gt 4 O O O
  refine ad O ?_;apply La 4 O O O O Y O O O O O
  ·intro i;refine Vg (Yf lL O) (Vg (Yd 0 O O O aT) (Vg (Ym O) (Vg (hg O O) ?_)));exact Gt 4 O O O
  refine ad O ?_;apply La 3 O O O O Y O O O O O
  ·intro j;refine Vg (Yf jC O) (Vg (Yd 0 O O O aT) (Vg (aJ O O) ?_));exact Gt 3 O O O
  refine ad O ?_;apply La 4 O O O O Y O O O O O
  ·intro k;refine Vg (Yf jC O) (Vg (Yd 0 O O O aT) (Vg (Ym O) (Vg (hg O O) ?_)));exact Gt 4 O O O
  refine ai O (ae (aX ?_));refine R1 O O λw' a=>?_
  have b:x.kind=4:=by simpa using g
  exact ⟨by rw [wI (by simp [b])],a.fr⟩
 refine aa (ai O (ae (aX (cj (Er ?_)))));refine R1 O O λw' a=>?_;simp at c d f g;exact ⟨by rw [LQ c d f g],a.fr⟩
theorem BE (i:View) (a:Option Addr) (c:Nat) (name:List UInt8) (b:List bs) (w:World) (t:Le i w) (m:Sl gV 4 i a c b) :
   Calls Tryz.prog 68 #[.agg #[st name,.slice a b.length c]] w λe w'=>e = .returned (.int .i64 (hG name b))/\Ext w w':=by
 have L:=m.cap;have M:=m.max;refine enter Tryz.func68 O 34 O O ?_;refine CE (Vs:=[i]) (Ws.init (by simp [t])) (aa ?_);refine WL.box Y O O λu=>?_;refine ai O (ae (Cs (aa (I (Yf pH O) (I (Yd 0 O O O rT) (I (Yn oK O) (I (dc O O) (ae ?_))))))));refine Cc O (λn=>?_) (λn=>?_)
 ·have k:16<b.length:=by simp at n; omega
  refine aa (ai O (ae (aX (Er ?_))));refine R1 O O λw' f=>?_;exact ⟨by rw [hG,if_pos k],f.fr⟩
 have k:¬16<b.length:=by simp at n; omega
 refine bf (aa (ai O (LW (λ_ h=>h.e4 9 1) (ae (Cs (aa (I (Yf pH O) (I (Yd 1 O O O rT) (I (Yn oK O) (ad O ?_))))))))));refine ae (Cb ?_);refine av (ι:=Nat×Option Addr×Nat) (λg=>[(13,.int .i64 (g.1:Int)),(3,.slice g.2.1 ((b.take g.1).map (·.name)).length g.2.2)]) [(1,_),(11,_),(12,_)] (λg=>Ws w [] [cf 9 1 dD g.2.1 g.2.2 ((b.take g.1).map (·.name)),aq u (.cells (Value.agg #[st name,.slice a b.length c]).cells 65 (0,0))] [i]) (λg=>g.1<=b.length/\∀j x,j<g.1->b[j]? = some x->km x=true) (λg=>b.length-g.1) (0,none,0) ⟨Nat.zero_le _,by simp⟩ (sc O (sc O (sc O (sc O (sc O sn))))) (λ_ h=>h) ?_;intro g ⟨hi,o⟩;refine aa (I (b0 O O) (ae (Cs ?_)));refine Cc O (λp=>?_) (λp=>?_)
 ·have v:g.1<b.length:=by simpa using p
  obtain ⟨x,l⟩:∃x,b[g.1]? = some x:=⟨_,List.getElem?_eq_getElem v⟩;obtain ⟨pb,z,A,q⟩:=m.bJ g.1 x l;have q:bI i pb (z+g.1*4) x.cells:=q
  have B:(b.take (g.1+1)).map (·.name)=(b.take g.1).map (·.name)++[x.name]:=by rw [List.take_add_one,l]; simp
  have N:((b.take g.1).map (·.name)).length=g.1:=by simp; omega
  refine bf (Cs (Cb (aa (I (Yo oK O O A (by omega)) (I (dj 0 jW O O O (q)) ?_)))));refine Al Y O a_ λP=>?_;refine aO 0 Y O O O jD O O O (ae (Cs (aa (I (b8 0 O O jW O) (Lp Y O Q0 O (λw f=>Q1 x w) (I (az O) (ae ?_)))))));refine Cc O (λr=>?_) (λr=>?_)
  ·have C:=LS l (by simpa using r);refine aa (ai O (ae (aX (Er (cj (Er (Er (cj (Er ?_)))))))));refine R1 O O λw' f=>?_;exact ⟨by rw [hG,if_neg k,C]; rfl,f.fr⟩
  have D:km x=true:=by simpa using r
  refine bf (Cr (ad O (I (Yf qC O) (I (Yd 0 O O O cN) ?_))));refine Lb Y O dT O O O O λQ=>?_;refine cD 0 (.cells (dD x.name).toArray 9 (0,0)) O (O) ?_;refine LA (x.name) 2 0 Y O dT O O O O O O (by omega) (by omega) λE F=>?_;refine ai O (Ln (Eb (Et (Cr (I (Yi O O O (by omega)) (ad O (Ln ?_)))))));rw [<-B]
  exact Ea ((g.1+1,E,F):Nat×Option Addr×Nat) (by first | omega | (dsimp only; omega)) ⟨by first | omega | (dsimp only; omega),λj y G d=>by
      rcases Nat.lt_succ_iff_lt_or_eq.1 G with h | h
      · exact o j y h d
      · subst h; rw [l] at d; injection d with d; subst d; exact D⟩ (sc rfl (sc rfl (sc rfl (sc rfl (sc rfl sn))))) (λ_ h=>Wd 2 h)
 have H:g.1=b.length:=by simp at p; omega
 rw [H,List.take_length];refine Ce (Ex (Ex (cp (Et (Cs (Cs ?_))))));refine WC.lV (rd:=rdStr) 0 O iA (λ_ _ _ _ h=>h) λJ K=>?_;refine Cr (ad O ?_)
 refine Lp Y O BC O (λw f=>by
     have:=BD J g.2.1 g.2.2 (b.map (·.name)) w (f.vs _ (by simp)) K
     exact this) ?_
 refine ad O ?_;apply Lo 4 O O O O Y O O O O O
 ·intro R;refine Vg (Yf xD O) (Vg (Yd 0 O O O cN) (Lp (.g O O O) O nD O (λw f=>nC _ w) (Vg (az O) ?_)));exact Gt 4 O O O
 refine ae ?_;refine Cc O (λs=>?_) (λs=>?_)
 ·refine aa (ai O (ae (aX (Er ?_))));refine R1 O O λw' f=>?_;have d:=DP λj y d=>o j y (by have:=(List.getElem?_eq_some_iff.1 d).1; omega) d;exact ⟨by rw [hG,if_neg k,d,s]; rfl,f.fr⟩
 refine bf (aa (ai O (ae (aX ?_))));refine R1 O O λw' f=>?_;have d:=DP λj y d=>o j y (by have:=(List.getElem?_eq_some_iff.1 d).1; omega) d;exact ⟨by rw [hG,if_neg k,d,s]; rfl,f.fr⟩
theorem BF {m:aZ} (h:fH m=0):jw m:=xj (AT.1 h)
theorem Q2 {d:cB} (h:xi d):0<=hH d/\hH d<=32:=by
 unfold hH;have a:=h.n3
 split
 · omega
 · split
   · rename_i b; have:=a b; omega
   · omega
theorem HA:∀{l:List cB},(∀d ∈ l,(gk d).bE=0)->0<=eQ l/\eQ l<=32*(l.length:Int)
 | [],_=>by simp [eQ]
 | d::l,h=>by
   have b:=Q2 (cM (h d (by simp)));have c:=HA (l:=l) λx a=>h x (List.mem_cons_of_mem _ a);simp only [eQ,List.length_cons];omega
theorem HB {m:aZ} (a:jw m) (i:Nat):0<=eQ (m.decls.take i)/\eQ (m.decls.take i)<=320:=by
 have h:=HA (l:=m.decls.take i) λd b=>a.decls d (List.mem_of_mem_take b);have c:=a.d'.2.1
 have e:((m.decls.take i).length:Int)<=10:=by rw [List.length_take]; omega
 omega
theorem Q3 {d:cB} {a:Int} (h:d.kind=1):bs.cells (lp a d)=[.int .i64 d.kind,.int .i64 d.n,.int .i64 0,st d.nm]:=by rw [lp,if_pos h]; rfl
theorem HC {d:cB} {a:Int} (h:¬d.kind=1):bs.cells (lp a d)=[.int .i64 d.kind,.int .i64 d.n,.int .i64 a,st d.nm]:=by rw [lp,if_neg h]; rfl
theorem Q4 {d:cB} (h:d.kind=1):hH d=0:=by rw [hH,if_neg (by omega),if_neg (by omega)]
theorem Q5 {d:cB} (h:d.kind=2):hH d=1:=by rw [hH,if_pos h]
theorem Q6 {d:cB} (h:d.kind=3):hH d=d.n:=by rw [hH,if_neg (by omega),if_pos h]
theorem qD:aK Tryz.prog 131=some [(0,1),(1,1),(2,1),(3,1)]:=by kernel_rfl
theorem mg:aE Tryz.prog 63 131 (.agg #[.int .i64 0,.int .i64 0,.int .i64 0,st []]) 4 40:=hV (by kernel_rfl)
theorem HD (a:View) (ke ks:Nat) (r:ic) (m:aZ) (w:World) (K:Le a w) (b:iB ke ks a r m) (k:jw m) :
   Calls Tryz.prog 69 #[.agg (fu m r).toArray] w λe w'=>∃r:SP,e = .returned (.tuple #[.slice r.1 (ef m).length r.2,.int .i64 (j3 m)])/\Ext w w'/\Sl gV 4 (nv w w') r.1 r.2 (ef m):=by
 have d':=k.d';have W:=b.decls.max;have X:=b.decls.cap;have Z:=b.procs.max;have ab:=b.procs.cap;refine enter Tryz.func69 O 67 O O ?_;refine CE (Vs:=[a]) (Ws.init (by simp [K])) (aa ?_);refine WL.box Y O O λz=>?_;refine ai O (ai O (ae (aa (ai O (LW (λ_ h=>h.e4 131 4) (ae (aa (ai O (ae (Cs (aa ?_)))))))))));refine I (Yf tb O) (I (Yd 1 O O O gu) (I (Yn cU O) (ad O (ae (Cb ?_)))));refine av (ι:=Nat×Option Addr×Nat) (λg=>[(14,.int .i64 (g.1:Int)),(4,.slice g.2.1 (hY (m.decls.take g.1) 0).length g.2.2),(5,.int .i64 (eQ (m.decls.take g.1)))]) [(1,_),(2,_),(3,_),(12,_),(13,_)] (λg=>Ws w [] [cf 131 4 bs.cells g.2.1 g.2.2 (hY (m.decls.take g.1) 0),aq z (.cells (fu m r).toArray 50 (0,0))] [a]) (λg=>g.1<=m.decls.length) (λg=>m.decls.length-g.1) (0,none,0) (Nat.zero_le _) (sc O (sc O (sc O (sc O (sc O (sc O (sc O (sc O sn)))))))) (λ_ h=>h) ?_;intro g hi;refine aa (I (b0 O O) (ae (Cs ?_)));refine Cc O (λl=>?_) (λl=>?_)
 ·have o:g.1<m.decls.length:=by simpa using l
  obtain ⟨d,s⟩:∃q,m.decls[g.1]? = some q:=⟨_,List.getElem?_eq_getElem o⟩;obtain ⟨L,M,N,t⟩:=b.decls.bJ g.1 d s;have t:bI a L (M+g.1*4) d.cells:=t;have A:=cM (k.decls d (List.mem_of_getElem? s));have B:m.decls.take (g.1+1)=m.decls.take g.1++[d]:=a' s
  have c:hY (m.decls.take (g.1+1)) 0=hY (m.decls.take g.1) 0++[lp (eQ (m.decls.take g.1)) d]:=by rw [B,DR,Int.zero_add]
  have u:eQ (m.decls.take (g.1+1))=eQ (m.decls.take g.1)+hH d:=by rw [B,DQ]
  have ac:=HB k g.1;have af:=HB k (g.1+1)
  have ag:(hY (m.decls.take g.1) 0).length=g.1:=by rw [wJ,List.length_take]; omega
  have ah:=A.n3;refine bf (Cs (Cb (aa (I (Yo cU O O N (by omega)) (I (dj 0 me O O O (t)) ?_)))));refine Al Y O oE λak=>?_;refine aO 0 Y O O O pA O O O (ae (aa (I (Yf s7 O) (I (Yd 0 O O O aT) (I (Yf pw O) (I (Yd 0 O O O aT) (I (Yf gm O) (I (Yd 0 O O O cN) ?_))))))));refine I (Yb a_ qD O O) ?_;refine Al Y O a_ λal=>?_;refine aO 0 Y O O O jD O O O (ae (Cs (aa (I (Yf s7 O) (I (Yd 1 O O O aT) (ae (Cb (aa (I (bP O O) (ai O (ae ?_)))))))))));refine Cc O (λv=>?_) (λv=>?_)
  ·have C:d.kind=2:=by simpa using v
   have f:=Q5 C;refine aa (ad O (I (Yf jC O) (aO 0 Y O O O dP O O O (ae (Cr (ad O (I (v7 (eQ (m.decls.take (g.1+1))) O O (by rw [u,f]) (by omega)) (ai O ?_))))))));refine Ln (Eb (Et (Cr (ad O (I (b8 0 O O jW O) ?_)))));refine Lb Y O mg O O O O λD=>?_;refine cD 0 (.cells (bs.cells (lp (eQ (m.decls.take g.1)) d)).toArray 131 (0,0)) O (by rw [HC (by omega)]; rfl) ?_;refine LA (lp (eQ (m.decls.take g.1)) d) 3 0 Y O mg O O O O O O (by omega) (by omega) λi j=>?_;refine ai O (Ln (Eb (Et (Cr (I (Yi O O O (by omega)) (ad O (Ln ?_)))))));rw [<-c];exact Ea ((g.1+1,i,j):Nat×Option Addr×Nat) (by first | omega | (dsimp only; omega)) (by first | omega | (dsimp only; omega)) (sc O (sc O (sc O (sc O (sc O (sc O (sc O (sc O sn)))))))) (λ_ h=>Wd 3 h)
  have C:¬d.kind=2:=by simpa using v
  refine aa (I (bP O O) (ai O (ae ?_)));refine Cc O (λx=>?_) (λx=>?_)
  ·have E:d.kind=3:=by simpa using x
   have f:=Q6 E;refine aa (ad O (I (Yf jC O) (aO 0 Y O O O dP O O O (ae (Cr (ad O (I (Yf pw O) (I (Yd 1 O O O aT) ?_))))))));refine I (v7 (eQ (m.decls.take (g.1+1))) O O (by rw [u,f]) (by omega)) (ai O (Ln (Eb (Et (Cr (ad O (I (b8 0 O O jW O) ?_)))))));refine Lb Y O mg O O O O λD=>?_;refine cD 0 (.cells (bs.cells (lp (eQ (m.decls.take g.1)) d)).toArray 131 (0,0)) O (by rw [HC (by omega)]; rfl) ?_;refine LA (lp (eQ (m.decls.take g.1)) d) 3 0 Y O mg O O O O O O (by omega) (by omega) λi j=>?_;refine ai O (Ln (Eb (Et (Cr (I (Yi O O O (by omega)) (ad O (Ln ?_)))))));rw [<-c];exact Ea ((g.1+1,i,j):Nat×Option Addr×Nat) (by first | omega | (dsimp only; omega)) (by first | omega | (dsimp only; omega)) (sc O (sc O (sc O (sc O (sc O (sc O (sc O (sc O sn)))))))) (λ_ h=>Wd 3 h)
  have E:¬d.kind=3:=by simpa using x
  have F:d.kind=1:=by have:=A.kind; omega
  have f:=Q4 F
  have P:eQ (m.decls.take (g.1+1))=eQ (m.decls.take g.1):=by rw [u,f]; omega
  refine Ck (Eb (Et (Cr (ad O (I (b8 0 O O jW O) ?_)))));refine Lb Y O mg O O O O λD=>?_;refine cD 0 (.cells (bs.cells (lp (eQ (m.decls.take g.1)) d)).toArray 131 (0,0)) O (by rw [Q3 F]; rfl) ?_;refine LA (lp (eQ (m.decls.take g.1)) d) 3 0 Y O mg O O O O O O (by omega) (by omega) λi j=>?_;refine ai O (Ln (Eb (Et (Cr (I (Yi O O O (by omega)) (ad O (Ln ?_)))))));rw [<-c];rw [<-P];exact Ea ((g.1+1,i,j):Nat×Option Addr×Nat) (by first | omega | (dsimp only; omega)) (by first | omega | (dsimp only; omega)) (sc O (sc O (sc O (sc O (sc O (sc O (sc O (sc O sn)))))))) (λ_ h=>Wd 3 h)
 have n:g.1=m.decls.length:=by simp at l; omega
 rw [n,List.take_length]
 clear n l hi
 refine Ce (Ex (Ex (cp (Et (Cs (aa (I (Yf rO O) (I (Yd 1 O O O tc) (I (Yn pz O) (ad O (ae (Cb ?_))))))))))));rw [show hY m.decls 0=hY m.decls 0++jI (m.procs.take 0) 0 by simp [jI]];refine av (ι:=Nat×Option Addr×Nat) (λg=>[(49,.int .i64 (g.1:Int)),(4,.slice g.2.1 (hY m.decls 0++jI (m.procs.take g.1) 0).length g.2.2)]) [(2,_),(3,_),(5,_),(47,_),(48,_)] (λg=>Ws w [] [cf 131 4 bs.cells g.2.1 g.2.2 (hY m.decls 0++jI (m.procs.take g.1) 0),aq z (.cells (fu m r).toArray 50 (0,0))] [a]) (λg=>g.1<=m.procs.length) (λg=>m.procs.length-g.1) (0,g.2.1,g.2.2) (Nat.zero_le _) (sc O (sc O (sc O (sc O (sc O (sc O (sc O sn))))))) (λ_ h=>h) ?_
 clear g
 intro g hi;refine aa (I (b0 O O) (ae (Cs ?_)));refine Cc O (λy=>?_) (λy=>?_)
 ·have o:g.1<m.procs.length:=by simpa using y
  obtain ⟨p,G⟩:∃q,m.procs[g.1]? = some q:=⟨_,List.getElem?_eq_getElem o⟩;obtain ⟨am,an,Q,R⟩:=b.procs.bJ g.1 p G;obtain ⟨ao,ap,ar,au,aw,ax,S,H,ay,az⟩:=R;have aA:=H.max;have aB:=H.cap;have T:m.procs.take (g.1+1)=m.procs.take g.1++[p]:=a' G
  have c:hY m.decls 0++jI (m.procs.take (g.1+1)) 0=(hY m.decls 0++jI (m.procs.take g.1) 0)++[e2 g.1 p]:=by
    rw [T,DS,List.append_assoc,Nat.zero_add,List.length_take,Nat.min_eq_left (by omega)]
  have aC:(hY m.decls 0++jI (m.procs.take g.1) 0).length<=16:=by rw [List.length_append,wJ,zl,List.length_take]; omega
  refine bf (Cs (Cb (aa (ad O (I (Yo pz O O Q (by omega)) (I (dj 0 td O O O (S)) ?_))))));refine Al Y O qy λaD=>?_;refine ai O (aO 0 Y O O O dt O O O (ae (Cr (ad O (I (Yf oF O) (I (Yd 0 O O O eU) (I (Yn di O) (ad O ?_))))))));refine I (Yf G2 O) (I (Yd 0 O O O cN) (I (Yb a_ qD O O) ?_));refine Lb Y O mg O O O O λaE=>?_;refine cD 0 (.cells (bs.cells (e2 g.1 p)).toArray 131 (0,0)) O (O) ?_;refine LA (e2 g.1 p) 2 0 Y O mg O O O O O O (by omega) (by omega) λU V=>?_;refine ai O (Ln (Eb (Et (Cr (I (Yi O O O (by omega)) (ad O (Ln ?_)))))));rw [<-c];exact Ea ((g.1+1,U,V):Nat×Option Addr×Nat) (by first | omega | (dsimp only; omega)) (by first | omega | (dsimp only; omega)) (sc O (sc O (sc O (sc O (sc O (sc O (sc O sn))))))) (λ_ h=>Wd 2 h)
 have n:g.1=m.procs.length:=by simp at y; omega
 rw [n,List.take_length];refine Ce (Ex (Ex (cp (Et (aa (ad O (ad O (ai O (ai O (ae (aX ?_)))))))))));refine WE.gi O O O λw' J=>?_;exact ⟨(g.2.1,g.2.2),O,J.fr,J.jg 0 O bs.aj (λ_ _ _ _ h=>h)⟩
theorem Q7 {m:aZ} {i:Nat} {p:dA} (h:m.procs[i]? = some p):m.decls.map (·.bx)++(m.procs.take (i+1)).map (·.bx)=(m.decls.map (·.bx)++(m.procs.take i).map (·.bx))++[p.bx]:=by rw [a' h]; simp
theorem Q8 {m:aZ} {i:Nat} {d:cB} (h:m.decls[i]? = some d):(m.decls.take (i+1)).map (·.bx)=(m.decls.take i).map (·.bx)++[d.bx]:=by rw [a' h]; simp
theorem HE {m:aZ} (h:¬fH m=0):ao m=(([],[]),fH m):=by rw [ao,if_pos h]
theorem HF {m:aZ} (h:fH m=0) (a:(et ((ef m).map (·.name))||et m.ak)=true):ao m=(([],[]),6):=by rw [ao,if_neg (by simp [h]),if_pos a]
theorem Q9 {m:aZ} (h:fH m=0) (a:(et ((ef m).map (·.name))||et m.ak)=false):ao m=((m.nm,hZ (ef m) (jJ m)),0):=by rw [ao,if_neg (by simp [h]),if_neg (by simp [a])]
def FQ (m:aZ) (i:Nat):List bs:=hZ ((ef m).take i) ((jJ m).take i)
theorem Q' (m:aZ):FQ m (ef m).length=hZ (ef m) (jJ m):=by
 unfold FQ;rw [List.take_length,uc,<-wK,List.take_length]
theorem Q_ {m:aZ} {i:Nat} {x:bs} {p:Bool} (a:(ef m)[i]? = some x) (b:(jJ m)[i]? = some p):FQ m (i+1)=FQ m i++(if p=true then [x] else []):=LU (by rw [uc,wK]) a b
theorem Ra (m:aZ) (i:Nat):(FQ m i).length<=i:=by
 have:=zm ((ef m).take i) ((jJ m).take i);simp at this
 show (hZ _ _).length<=i
 omega
structure GF where
 i:Nat
 n:SP
 f:SP
theorem xE:aE Tryz.prog 136 4 (.bool false) 1 1:=hV (by kernel_rfl)
theorem iL:zeroOf Tryz.prog 65=some (.agg #[st [],.slice none 0 0]):=by kernel_rfl
theorem da:aK Tryz.prog 65=some [(0,1),(1,1)]:=by kernel_rfl
theorem jX:dk Tryz.prog 65=some 2:=by kernel_rfl
theorem iM:f' Tryz.prog 65=some 2:=by kernel_rfl
theorem HG:Enters Tryz.prog 69:=enters_of Tryz.func69 (by kernel_rfl) rfl
theorem Rb:Enters Tryz.prog 70:=enters_of Tryz.func70 (by kernel_rfl) rfl
theorem Rc:eO Tryz.prog 136=some 1:=by kernel_rfl
theorem HH:dk Tryz.prog 63=some 1:=by kernel_rfl
theorem Rd (a:View) (ke ks:Nat) (r:ic) (m:aZ) (w:World) (u:Le a w) (b:iB ke ks a r m) (v:jw m) :
   Calls Tryz.prog 70 #[.agg (fu m r).toArray] w λe w'=>∃r:SP,e = .returned (.slice r.1 (jJ m).length r.2)/\Ext w w'/\Sl rdBool 1 (nv w w') r.1 r.2 (jJ m):=by
 have d':=v.d';have J:=b.decls.max;have K:=b.decls.cap;have L:=b.procs.max;have M:=b.procs.cap;refine enter Tryz.func70 O 35 O O ?_;refine CE (Vs:=[a]) (Ws.init (by simp [u])) (aa ?_);refine WL.box Y O O λn=>?_;refine ai O (ae (aa (ai O (LW (λ_ h=>h.e4 4 1) (ae (Cs (aa (I (Yf tb O) (I (Yd 1 O O O gu) (I (Yn cU O) ?_))))))))));refine ad O (ae (Cb ?_));refine av (ι:=Nat×Option Addr×Nat) (λg=>[(11,.int .i64 (g.1:Int)),(3,.slice g.2.1 ((m.decls.take g.1).map (·.bx)).length g.2.2)]) [(1,_),(2,_),(9,_),(10,_)] (λg=>Ws w [] [cf 4 1 rj g.2.1 g.2.2 ((m.decls.take g.1).map (·.bx)),aq n (.cells (fu m r).toArray 50 (0,0))] [a]) (λg=>g.1<=m.decls.length) (λg=>m.decls.length-g.1) (0,none,0) (Nat.zero_le _) (sc O (sc O (sc O (sc O (sc O (sc O sn)))))) (λ_ h=>h) ?_;intro g hi;refine aa (I (b0 O O) (ae (Cs ?_)));refine Cc O (λc=>?_) (λc=>?_)
 ·have i:g.1<m.decls.length:=by simpa using c
  obtain ⟨d,o⟩:∃q,m.decls[g.1]? = some q:=⟨_,List.getElem?_eq_getElem i⟩;obtain ⟨x,y,z,j⟩:=b.decls.bJ g.1 d o;have j:bI a x (y+g.1*4) d.cells:=j;have k:=Q8 o
  have A:((m.decls.take g.1).map (·.bx)).length=g.1:=by simp; omega
  refine bf (Cs (Cb (aa (I (Yo cU O O z (by omega)) (I (dj 0 me O O O (j)) ?_)))));refine Al Y O oE λN=>?_;refine aO 0 Y O O O pA O O O (ae (Cr (ad O (I (Yf QT O) (I (Yd 0 O O O px) ?_)))));refine Lb Y O xE O O O O λP=>?_;refine cD 0 (.cells (rj d.bx).toArray 4 (0,0)) O (O) ?_;refine LA (d.bx) 2 0 Y O xE O O O O O O (by omega) (by omega) λB C=>?_;refine ai O (Ln (Eb (Et (Cr (I (Yi O O O (by omega)) (ad O (Ln ?_)))))));rw [<-k];exact Ea ((g.1+1,B,C):Nat×Option Addr×Nat) (by first | omega | (dsimp only; omega)) (by first | omega | (dsimp only; omega)) (sc O (sc O (sc O (sc O (sc O (sc O sn)))))) (λ_ h=>Wd 2 h)
 have f:g.1=m.decls.length:=by simp at c; omega
 rw [f,List.take_length]
 clear f c hi
 refine Ce (Ex (Ex (cp (Et (Cs (aa (I (Yf rO O) (I (Yd 1 O O O tc) (I (Yn pz O) (ad O (ae (Cb ?_))))))))))));rw [show m.decls.map (·.bx)=m.decls.map (·.bx)++(m.procs.take 0).map (·.bx) by simp];refine av (ι:=Nat×Option Addr×Nat) (λg=>[(24,.int .i64 (g.1:Int)),(3,.slice g.2.1 (m.decls.map (·.bx)++(m.procs.take g.1).map (·.bx)).length g.2.2)]) [(2,_),(22,_),(23,_)] (λg=>Ws w [] [cf 4 1 rj g.2.1 g.2.2 (m.decls.map (·.bx)++(m.procs.take g.1).map (·.bx)),aq n (.cells (fu m r).toArray 50 (0,0))] [a]) (λg=>g.1<=m.procs.length) (λg=>m.procs.length-g.1) (0,g.2.1,g.2.2) (Nat.zero_le _) (sc O (sc O (sc O (sc O (sc O sn))))) (λ_ h=>h) ?_
 clear g
 intro g hi;refine aa (I (b0 O O) (ae (Cs ?_)));refine Cc O (λl=>?_) (λl=>?_)
 ·have i:g.1<m.procs.length:=by simpa using l
  obtain ⟨p,s⟩:∃q,m.procs[g.1]? = some q:=⟨_,List.getElem?_eq_getElem i⟩;obtain ⟨Q,R,D,E⟩:=b.procs.bJ g.1 p s;obtain ⟨S,T,U,V,W,X,F,Z,ab,ac⟩:=E;have k:=Q7 s
  have A:(m.decls.map (·.bx)++(m.procs.take g.1).map (·.bx)).length<=16:=by simp; omega
  refine bf (Cs (Cb (aa (I (Yo pz O O D (by omega)) (I (dj 0 td O O O (F)) ?_)))));refine Al Y O qy λaf=>?_;refine aO 0 Y O O O dt O O O (ae (Cr (ad O (I (Yf QU O) (I (Yd 0 O O O px) ?_)))));refine Lb Y O xE O O O O λag=>?_;refine cD 0 (.cells (rj p.bx).toArray 4 (0,0)) O (O) ?_;refine LA (p.bx) 2 0 Y O xE O O O O O O (by omega) (by omega) λG H=>?_;refine ai O (Ln (Eb (Et (Cr (I (Yi O O O (by omega)) (ad O (Ln ?_)))))));rw [<-k];exact Ea ((g.1+1,G,H):Nat×Option Addr×Nat) (by first | omega | (dsimp only; omega)) (by first | omega | (dsimp only; omega)) (sc O (sc O (sc O (sc O (sc O sn))))) (λ_ h=>Wd 2 h)
 have f:g.1=m.procs.length:=by simp at l; omega
 rw [f,List.take_length];refine Ce (Ex (Ex (cp (Et (aa (ad O (ai O (ae (aX ?_)))))))));refine R1 O O λw' t=>?_;exact ⟨(g.2.1,g.2.2),O,t.fr,t.jg 0 O EG (λ_ _ _ _ h=>h)⟩
theorem BH (b:View) (ke ks:Nat) (r:ic) (m:aZ) (w:World) (K:Le b w) (c:iB ke ks b r m) (al:wM m<=109951162777) :
   Calls Tryz.prog 24 #[.agg (fu m r).toArray] w λe w'=>∃r:SP,e = .returned (.tuple #[.agg #[st (ao m).1.1,.slice r.1 (ao m).1.2.length r.2],.int .i64 (ao m).2])/\Ext w w'/\Sl gV 4 (nv w w') r.1 r.2 (ao m).1.2:=by
 refine enter Tryz.func24 O 60 O O ?_;refine CE (Vs:=[b]) (Ws.init (by simp [K])) (aa ?_);refine WL.box Y O O λL=>?_;refine Al Y O iL λM=>?_;refine ai O (ae (Cs (aa (I (b8 1 O O hQ O) (Lp Y O Bv O (λw a=>Bd b ke ks r m w (a.vs _ (by simp)) c (by omega)) (ai O (ae (aa (ad O (I (e8 O O) ?_))))))))));refine ae ?_;refine Cc O (λk=>?_) (λk=>?_)
 ·have d:¬fH m=0:=by simpa using k
  refine aa (I (Yb iL da O O) (ad O (aO 0 Y O O O jX O O O (ai O (ae (aX (Er ?_)))))));refine WE.p2 0 O O O O iM O λw' a=>?_;rw [HE d];exact ⟨(none,0),O,a.fr,Sl.nil⟩
 have d:fH m=0:=by simpa using k
 have l:=BF d;have d':=l.d';have am:=c.decls.max;have an:=c.decls.cap;have ap:=c.procs.max;have ar:=c.procs.cap;have il:=uc m;have pl:=wK m;refine bf (aa (I (b8 1 O O hQ O) ?_));refine Ld Y O HG O (λr:SP=>.tuple #[.slice r.1 (ef m).length r.2,.int .i64 (j3 m)]) (λb r=>Sl gV 4 b r.1 r.2 (ef m)) (λw a=>HD b ke ks r m w (a.vs _ (by simp)) c l) ?_;intro B au aw o;refine ad O (I (Yx O O) (I (Yx O O) (ai O (ai O (ae (aa (I (Yf cR O) (I (Yd 1 O O O cN) ?_))))))));refine I (Yb iL da O O) (LW (λ_ h=>h.e4 131 4) ?_);refine Al Y O iL λN=>?_;refine aO 0 Y O O O jX O O O (ae (aa (ai O (LW (λ_ h=>h.e4 9 1) (ae (aa (I (b8 4 O O hQ O) ?_)))))));refine Ld Y O Rb O (λr:SP=>.slice r.1 (jJ m).length r.2) (λb r=>Sl rdBool 1 b r.1 r.2 (jJ m)) (λw a=>Rd b ke ks r m w (a.vs _ (by simp)) c l) ?_;intro C ax ay q;have az:=o.max;have aA:=o.cap;have aB:=q.max;have aC:=q.cap;refine ai O (ae (Cs (aa (ad O (I (Yn oK O) (ad O (ae (Cb ?_))))))));refine av (ι:=GF) (λg=>[(30,.int .i64 (g.i:Int)),(8,.slice g.n.1 (((ef m).take g.i).map c6).length g.n.2)]) [(1,_),(2,_),(3,_),(7,_),(9,_),(28,_),(29,_)] (λg=>Ws w [] [aq N (.cells #[st m.nm,.slice g.f.1 (FQ m g.i).length g.f.2] 65 (0,0)),cf 9 1 dD g.n.1 g.n.2 (((ef m).take g.i).map c6),cf 131 4 bs.cells g.f.1 g.f.2 (FQ m g.i),aq M (.cells #[st [],.slice none 0 0] 65 (0,0)),aq L (.cells (fu m r).toArray 50 (0,0))] [C,B,b]) (λg=>g.i<=(ef m).length) (λg=>(ef m).length-g.i) ⟨0,(none,0),(none,0)⟩ (Nat.zero_le _) (sc O (sc O (sc O (sc O (sc O (sc O (sc O (sc O (sc O sn))))))))) (λ_ h=>by exact (((((h.f 4 O).f 4 O).f 4 O).f 3 O).f 4 O:)) ?_;intro g hi;refine aa (I (b0 O O) (ae (Cs ?_)));refine Cc O (λs=>?_) (λs=>?_)
 ·have D:g.i<(ef m).length:=by simpa using s
  obtain ⟨x,t⟩:∃x,(ef m)[g.i]? = some x:=⟨_,List.getElem?_eq_getElem D⟩;obtain ⟨pb,P,Q,u⟩:=o.bJ g.i x t;have u:bI B pb (P+g.i*4) x.cells:=u;obtain ⟨j,E⟩:∃p,(jJ m)[g.i]? = some p:=⟨_,List.getElem?_eq_getElem (by rw [wK,<-uc]; exact D)⟩;obtain ⟨R,S,T,v⟩:=q.bJ g.i j E;have v:bI C R (S+g.i*1) (rj j):=v
  have F:((ef m).take (g.i+1)).map c6=((ef m).take g.i).map c6++[x.name]:=by rw [List.take_add_one,t]; simp [c6]
  have aD:(((ef m).take g.i).map c6).length=g.i:=by simp; omega
  have G:=Q_ t E;have aE:=Ra m g.i;refine bf (Cs (Cb (aa (ad O (I (Yo oK O O Q (by omega)) (I (dj 1 jW O O O (u)) ?_))))));refine Al Y O a_ λaF=>?_;refine ai O (aO 0 Y O O O jD O O O (ae (aa (ad O (I (Yf qC O) (I (Yd 0 O O O cN) ?_))))));refine Lb Y O dT O O O O λaG=>?_;refine cD 0 (.cells (dD x.name).toArray 9 (0,0)) O (O) ?_;refine LA ((x.name:List UInt8)) 3 0 Y O dT O O O O O O (by omega) (by omega) λH J=>?_;refine ai O (ae (aa (ad O (ad O (I (Yo Rc O O T (by omega)) (I (b9 0 px O O (v 0 _ O)) (ae ?_)))))));refine Cc O (λy=>?_) (λy=>?_)
  ·have U:j=true:=by simpa using y
   have V:FQ m (g.i+1)=FQ m g.i++[x]:=by rw [G,if_pos U]
   refine Cr (I (Yf pH O) (I (Yd 2 O O O rT) (I (b8 1 O O jW O) ?_)));refine Lb Y O mg O O O O λaH=>?_;refine cD 0 (.cells (bs.cells x).toArray 131 (0,0)) O (O) ?_;refine LA (x) 5 0 Y O mg O O O O O O (by omega) (by omega) λW X=>?_;refine I (Yf pH O) (aO 3 Y O O O HH O O O (Ln (Eb (Et (Cr (I (Yi O O O (by omega)) (ad O (Ln ?_))))))));rw [<-F];rw [<-V];exact Ea (⟨g.i+1,(H,J),(W,X)⟩:GF) (by first | omega | (dsimp only; omega)) (by first | omega | (dsimp only; omega)) (sc O (sc O (sc O (sc O (sc O (sc O (sc O (sc O (sc O sn))))))))) (λ_ h=>Wd 3 h)
  have Z:¬j=true:=by simpa using y
  have ab:FQ m (g.i+1)=FQ m g.i:=by rw [G,if_neg Z,List.append_nil]
  refine Ck (Eb (Et (Cr (I (Yi O O O (by omega)) (ad O (Ln ?_))))));rw [<-F];rw [<-ab];exact Ea (⟨g.i+1,(H,J),g.f⟩:GF) (by first | omega | (dsimp only; omega)) (by first | omega | (dsimp only; omega)) (sc O (sc O (sc O (sc O (sc O (sc O (sc O (sc O (sc O sn))))))))) (λ_ h=>Wd 2 h)
 have ac:g.i=(ef m).length:=by simp at s; omega
 have af:=Q' m;refine Ce (Ex (Ex (cp (Et (Cs (Cs ?_))))));rw [ac,List.take_length];refine WC.lV (rd:=rdStr) 1 O iA (λ_ _ _ _ h=>h) λag ah=>?_;refine Cr (ad O ?_)
 refine Lp Y O BC O (λw a=>by
     have:=BD ag g.n.1 g.n.2 ((ef m).map c6) w (a.vs _ (by simp)) ah
     exact this) ?_
 refine ad O ?_;apply Lo 3 O O O O Y O O O O O
 ·intro aI;refine Vg (Yf nH O) (Vg (Yd 3 O O O eU) (Lp (.g O O O) O BC O (λw a=>BD b r.a1 r.c1 m.ak w (a.vs _ (by simp)) c.ak) ?_));exact Gt 3 O O O
 refine ae ?_;refine Cc O (λz=>?_) (λz=>?_)
 ·have A:(et ((ef m).map (·.name))||et m.ak)=true:=z;refine aa (I (Yb iL da O O) (aO 2 Y O O O jX O O O (ai O (ae (aX (Er ?_))))));refine WE.p2 2 O O O O iM O λw' a=>?_;rw [HF d A];exact ⟨(none,0),O,a.fr,Sl.nil⟩
 have A:(et ((ef m).map (·.name))||et m.ak)=false:=z;refine bf (aa (I (b8 0 O O iM O) (aO 2 Y O O O jX O O O (ai O (ae (aX ?_))))));refine WE.p2 2 O O O O iM O λw' a=>?_;rw [Q9 d A];rw [af] at a ⊢;exact ⟨g.f,O,a.fr,a.jg 1 O bs.aj (λ_ _ _ _ h=>h)⟩
structure GI where
 i:Nat
 s:SP
 p:SP
def bp:List UInt8:=[99,110,116]
def oL:List bs:=[⟨1,3,0,[107]⟩,⟨2,0,0,[115,117,109]⟩,⟨3,4,1,[116]⟩,⟨4,1,0,[100,111,119,110]⟩]
theorem Re {l:List bs} {i:Nat} {x:bs} (h:(l.map (·.name)).Nodup) (b:l[i]? = some x):x.name ∉ (l.take i).map (·.name):=by
 intro d;have k:i<l.length:=(List.getElem?_eq_some_iff.1 b).1;obtain ⟨j,c⟩:=List.getElem?_of_mem d;rw [List.getElem?_map] at c;obtain ⟨y,a,e⟩:=Option.map_eq_some_iff.1 c
 have f:j<i:=by have:=(List.getElem?_eq_some_iff.1 a).1; simp at this; omega
 rw [List.getElem?_take,if_pos f] at a
 have g:(l.map (·.name))[j]? = (l.map (·.name))[i]?:=by rw [List.getElem?_map,List.getElem?_map,a,b]; simp [e]
 have:=(List.getElem?_inj (by simpa using (List.getElem?_eq_some_iff.1 a).1) h).1 g;omega
theorem BI:Tryz.prog.underlying 143=some (.map 9 131):=by kernel_rfl
theorem HI (w:World) :
   Calls Tryz.prog 104 #[] w λe w'=>∃r:SP,e = .returned (.agg #[st bp,.slice r.1 oL.length r.2])/\Ext w w'/\Sl gV 4 (nv w w') r.1 r.2 oL:=by
 refine enter Tryz.func104 O 7 O O ?_;refine CE (Vs:=[]) (Ws.init (by simp)) (aa ?_);refine Al Y O iL λf=>?_;refine ae (aa (I (Yb a_ qD O O) (I (Yb a_ qD O O) (I (Yb a_ qD O O) (I (Yb a_ qD O O) ?_)))));refine Lb Y O mg O O O O λa=>?_;refine I (Yb iL da O O) (aO 1 Y O O O jX O O O (ae (aX ?_)));refine WE.ee (gL O (dI 1 O O iM O)) λw' b=>?_
 exact ⟨(some ⟨a,0,none⟩,4),O,b.fr,⟨show oL.length<=4 by decide,show 4<=9223372036854775807 by decide,by simp,λj x d=>⟨a,0,O,λk v c=>b.yH 0 O (by
     have:k<4:=(List.getElem?_eq_some_iff.1 c).1
     show (oL.flatMap bs.cells)[0+j*4+k]? = some v
     rw [Nat.zero_add,o2 bs.aj d this]; exact c)⟩⟩⟩
theorem HJ (d:View) (a:Option Addr) (c:Nat) (l:List bs) (w:World) (p:Le d w) (f:Sl gV 4 d a c l) (q:(l.map (·.name)).Nodup) :
   Calls Tryz.prog 73 #[.slice a l.length c] w λe w'=>∃b:Nat,e = .returned (.map (some b))/\Ext w w'/\(nv w w') b=some (b4 st (hl l 0) l.length):=by
 have y:=f.cap;have z:=f.max;refine enter Tryz.func73 O 19 O O ?_;refine CE (Vs:=[d]) (Ws.init (by simp [p])) (aa (ai O (ae (aa ?_))));refine WL.lh st Y O λm=>?_;refine cD 0 (b4 st (hl (l.take 0) 0) (l.take 0).length) O O (ai O (ae (Cs (aa (ad O (I (Yn oK O) (ad O (ae (Cb ?_)))))))));refine av (ι:=Nat) (λi=>[(9,.int .i64 (i:Int))]) [(2,_),(3,_),(7,_),(8,_)] (λi=>Ws w [] [aq m (b4 st (hl (l.take i) 0) (l.take i).length)] [d]) (λi=>i<=l.length) (λi=>l.length-i) 0 (Nat.zero_le _) (sc O (sc O (sc O (sc O (sc O sn))))) (λ_ h=>h) ?_;intro i hi;refine aa (I (b0 O O) (ae (Cs ?_)));refine Cc O (λg=>?_) (λg=>?_)
 ·have r:i<l.length:=by simpa using g
  obtain ⟨x,j⟩:∃x,l[i]? = some x:=⟨_,List.getElem?_eq_getElem r⟩;obtain ⟨s,t,u,k⟩:=f.bJ i x j;have k:bI d s (t+i*4) x.cells:=k;have n:=L3 (Re q j);refine bf (Cs (Cb (aa (I (Yo oK O O u (by omega)) (I (dj 0 jW O O O (k)) ?_)))));refine Al Y O a_ λA=>?_;refine aO 0 Y O O O jD O O O (ae (Cr (ad O (I (Yf qC O) (I (Yd 0 O O O cN) (I (b8 0 O O jW O) ?_))))));refine WL.mu 1 gj Y BI dO O O O O ?_;refine Ln (Eb (Et (Cr (I (Yi O O O (by omega)) (ad O (Ln ?_))))));refine WE.ln 1 (b4 st (hl (l.take (i+1)) 0) (l.take (i+1)).length) O (by rw [a' j,<-n.1,<-n.2]; rfl) ?_;exact Ea (i+1) (by omega) (by omega) (sc O (sc O (sc O (sc O (sc O sn))))) (λ_ h=>Wd 1 h)
 have v:i=l.length:=by simp at g; omega
 rw [v,List.take_length];refine Ce (Ex (Ex (cp (Et (aa (ad O (ai O (ae (aX ?_)))))))));refine R1 O O λw' o=>?_;exact ⟨m,O,o.fr,o.DN 0 O⟩
def gR (e:Int):List PanicEntry:=[⟨.iface 139 (.agg #[.int .i64 e]),false,false⟩]
def BJ (a:View) (b o:Nat) (l:List bs):Prop:=∃c:Nat,vc a b o=some (.map (some c))/\a c=some (b4 st (hl l 0) l.length)
structure pI (H:View) (sb:Nat) (σ:dE):Prop where
 at_:∃(ob ub:Nat) (fa:Option Addr) (fc lb:Nat),(vc H sb 0=some (.map (some ob))/\vc H sb 1=some (.map (some ub))/\vc H sb 2=some (.slice fa σ.qa.length fc)/\vc H sb 3=some (.map (some lb)))/\H ob=some (b4 st (hl σ.own 0) σ.own.length)/\H ub=some (b4 st (fQ σ.ak 0) σ.ak.length)/\Sl BJ 1 H fa fc σ.qa/\H lb=some (b4 st (fQ σ.ay 0) σ.ay.length)
 nd:σ.ak.Nodup
 len:σ.ak.length=σ.qa.length
 d':σ.ak.length<=3/\σ.ay.length<=7
def Rf:bs:=⟨0,0,0,[]⟩
def kB (nm:List UInt8) (l:List (List UInt8)):Int:=match idxOf nm l 0 with | some k=>((k+1:Nat):Int) | none=>0
theorem BK (nm:List UInt8) (l:List (List UInt8)):eD nm (fQ l 0) (.int .i64 0) = .int .i64 (kB nm l):=D2 nm l
theorem BL {nm:List UInt8} {l:List (List UInt8)} (h:0<kB nm l):∃k:Nat,idxOf nm l 0=some k/\kB nm l=((k+1:Nat):Int)/\k<l.length:=by
 unfold kB at h ⊢
 cases a:idxOf nm l 0 with
 | none=>rw [a] at h; exact absurd h (by decide)
 | some k=>exact ⟨k,rfl,rfl,by have:=(qc a).2; exact (List.getElem?_eq_some_iff.1 this).1⟩
theorem BM {nm:List UInt8} {l:List (List UInt8)} (h:¬0<kB nm l):idxOf nm l 0=none:=by
 unfold kB at h
 cases a:idxOf nm l 0 with
 | none=>rfl
 | some k=>rw [a] at h; exact absurd (by simp only; omega) h
def ti (nm:List UInt8) (l:List bs):bs:=(fJ nm l).getD Rf
theorem HN (nm:List UInt8) (l:List bs):eD nm (hl l 0) (.agg #[.int .i64 0,.int .i64 0,.int .i64 0,st []]) = .agg (ti nm l).cells.toArray:=by
 rw [(D1 nm l _).1];unfold ti
 cases fJ nm l<;>rfl
theorem HO (nm:List UInt8) (l:List bs):lS nm (hl l 0)=(fJ nm l).isSome:=(D1 nm l (.bool false)).2
theorem HP {nm:List UInt8} {l:List bs} (h:(fJ nm l).isSome=true):fJ nm l=some (ti nm l):=by
 unfold ti
 cases a:fJ nm l with
 | none=>rw [a] at h; cases h
 | some x=>rfl
theorem HQ {nm:List UInt8} {l:List bs} (h:(fJ nm l).isSome=false):fJ nm l=none:=by
 cases a:fJ nm l with
 | none=>rfl
 | some x=>rw [a] at h; cases h
theorem Rg {a:dE} {nm:List UInt8} {k:Nat} (h:idxOf nm a.ay 0=some k):eZ a [] nm=some (-1,zq k):=by rw [eZ,if_pos rfl,h]
theorem u' {a:dE} {nm:List UInt8} (h:idxOf nm a.ay 0=none):eZ a [] nm=(fJ nm a.own).map λx=>(0,x):=by rw [eZ,if_pos rfl,h]
theorem HR {a:dE} {mod nm:List UInt8} (h:¬mod=[]) (b:a.ak.Nodup) (c:a.ak.length=a.qa.length) {k:Nat} {f:List bs} (d:idxOf mod a.ak 0=some k) (e:a.qa[k]? = some f):eZ a mod nm=(fJ nm f).map λx=>(((k+1:Nat):Int),x):=by
 rw [eZ,if_neg h,D5 b c,d];simp [e]
theorem Rh {a:dE} {mod nm:List UInt8} (h:¬mod=[]) (b:idxOf mod a.ak 0=none):eZ a mod nm=none:=by
 rw [eZ,if_neg h,zA (n4.1 b)]
theorem BN {mod nm:List UInt8}:∀{us:List (List UInt8)} {fs:List (List bs)} {s:Nat} {m:Int} {x:bs},iX mod nm us fs s=some (m,x)->0<=m
 | [],_,_,_,_,h=>by simp [iX] at h
 | u::us,[],_,_,_,h=>by simp [iX] at h
 | u::us,f::fs,s,m,x,h=>by
   rw [iX] at h
   split at h
   · split at h
     · injection h with h; injection h with a b; omega
     · exact BN h
   · exact BN h
theorem oM {a:dE} {mod nm:List UInt8} {m:Int} {x:bs} (h:eZ a mod nm=some (m,x)):m = -1\/0<=m:=by
 unfold eZ at h
 split at h
 · split at h
   · injection h with h; injection h with b d; exact .inl b.symm
   · cases c:fJ nm a.own with
     | none=>rw [c] at h; cases h
     | some y=>rw [c] at h; injection h with h; injection h with b d; right; omega
 · exact .inr (BN h)
def h9 (a:dE) (mod nm:List UInt8) (kind args:Int):Int:=match eZ a mod nm with
 | none=>5
 | some (m,it)=>if ¬(0<=m/\it.kind=kind) then 7 else if kind=4/\¬it.n=args then 8 else 0
theorem u_ {a:dE} {mod nm:List UInt8} {kind args:Int} (h:eZ a mod nm=none):h9 a mod nm kind args=5:=by unfold h9; rw [h]
theorem pJ {a:dE} {mod nm:List UInt8} {kind args m:Int} {it:bs} (h:eZ a mod nm=some (m,it)):h9 a mod nm kind args=if ¬(0<=m/\it.kind=kind) then 7 else if kind=4/\¬it.n=args then 8 else 0:=by unfold h9; rw [h]
def BO (f:View) (g:Nat) (b:dE) (k:Nat):Prop:=∀(d:View) (l:List aV) (a:Option Addr) (c:Nat) (w:World),Le f w->Le d w->Sl (ff k) 5 d a c l->ax l<=109951162777->
 Calls Tryz.prog 176 #[.pointer (some ⟨g,0,none⟩),.slice a l.length c] w λe w'=>(∃r:SP,e = .returned (.slice r.1 (fk b l).length r.2)/\Ext w w'/\gC b l=0/\Sl (ig (k+1)) 5 (nv w w') r.1 r.2 (fk b l))\/(∃_:Unit,e = .panicked (gR (gC b l))/\Ext w w'/\gC b l≠0)
theorem Ri:aK Tryz.prog 139=some [(0,1)]:=by kernel_rfl
theorem xG:zeroOf Tryz.prog 139=some (.agg #[.int .i64 0]):=by kernel_rfl
theorem Rj:Tryz.prog.concrete 139=true:=by kernel_rfl
theorem va:an Tryz.prog 147 3=some 3:=by kernel_rfl
theorem pK:eG Tryz.prog 123=true:=by kernel_rfl
theorem Rk:an Tryz.prog 147 0=some 0:=by kernel_rfl
theorem zo:eG Tryz.prog 143=true:=by kernel_rfl
theorem pL:Enters Tryz.prog 74:=enters_of Tryz.func74 (by kernel_rfl) rfl
theorem HT:an Tryz.prog 147 1=some 1:=by kernel_rfl
theorem BP:an Tryz.prog 147 2=some 2:=by kernel_rfl
theorem HU:eG Tryz.prog 145=true:=by kernel_rfl
theorem Rl:eO Tryz.prog 145=some 1:=by kernel_rfl
theorem pM (b:Bool) (n:Int) (w:World) :
   Calls Tryz.prog 74 #[.bool b,.int .i64 n] w λe w'=>(∃_:Unit,e = .returned (.tuple #[])/\Ext w w'/\b=true)\/(∃_:Unit,e = .panicked (gR n)/\Ext w w'/\b=false):=by
 refine enter Tryz.func74 O 9 O O ?_;refine CE (Vs:=[]) (Ws.init (by simp)) (aa (ad O (I (az O) (ae ?_))));refine Cc O (λa=>?_) (λa=>?_)
 ·refine Cr (ad O (I (Yb xG Ri O O) (I (bL Rj O) ?_)));refine WL.panic Y O ?_;refine b6 λw' c=>?_;exact .inr ⟨(),O,c.fr,by simpa using a⟩
 refine Ck ?_;refine E0 O λw' c=>?_;exact .inl ⟨(),O,c.fr,by simpa using a⟩
theorem BQ (m:View) (s:Nat) (b:dE) (w:World) (v:Le m w) (x:pI m s b) (mod nm:List UInt8) :
   Calls Tryz.prog 174 #[.pointer (some ⟨s,0,none⟩),st mod,st nm] w λe w'=>(∃i:Int×bs,e = .returned (.tuple #[.int .i64 i.1,.agg i.2.cells.toArray])/\Ext w w'/\eZ b mod nm=some i)\/(∃_:Unit,e = .panicked (gR 5)/\Ext w w'/\eZ b mod nm=none):=by
 obtain ⟨⟨N,P,fa,Q,lb,⟨y,z,A,B⟩,C,D,n,E⟩,t,u,d'⟩:=x;refine enter Tryz.func174 O 65 O O ?_;refine CE (Vs:=[m]) (Ws.init (by simp [v])) (aa (ai O ?_));refine Al Y O a_ λR=>?_;refine ae (Cs (aa (ad O (I (qY O O) (ae ?_)))));refine Cc O (λo=>?_) (λo=>?_)
 ·obtain rfl:mod=[]:=by simpa using o
  refine Cs (aa (ad O (I (cy O) (I (Yf va O) (I (b9 0 pK O O (B)) (ad O (I (wB 0 O gj gg dO je O O (E)) ?_)))))));rw [BK];refine ai O (ae (aa (ad O (I (dc O O) (ae ?_)))));refine Cc O (λp=>?_) (λp=>?_)
  ·obtain ⟨k,c,j,F⟩:=BL (nm:=nm) (l:=b.ay) (by simpa using p);refine aa (ad O (I (nU (k:Int) O O (by rw [j]; omega) (by omega)) (I (Yb a_ qD O O) (ai O (aO 0 Y O O O jD O O O (ae (aX (Er (Er ?_)))))))));refine WE.ee (fj O (gz O) (dI 0 O O jW O)) λw' a=>?_;exact .inl ⟨(-1,zq k),O,a.fr,Rg c⟩
  have c:=BM (nm:=nm) (l:=b.ay) (by simpa using p);refine bf (aa (ad O (I (cy O) (I (Yf Rk O) (I (b9 0 zo O O (y)) (ad O (I (DM 0 O gj BI dO a_ O O (C)) ?_)))))));rw [HN,HO];refine ad O (I (Yx O O) (I (Yx O O) ?_));refine Al Y O a_ λS=>?_;refine aO 0 Y O O O jD O O O (ai O (ae (aa (ad O ?_))));refine WL.kk (ι:=Unit) (κ:=Unit) Y O pL O (λ_=>.tuple #[]) (λ_=>(fJ nm b.own).isSome=true) (λ_=>gR 5) (λ_=>(fJ nm b.own).isSome=false) (λw a=>pM _ _ w) ?_ ?_
  ·intro _ g;refine Ep (Ep ?_);refine b6 λw' a=>?_;exact .inr ⟨(),O,a.fr,by rw [u' c,HQ g]; rfl⟩
  intro _ G;refine ae (Cs ?_);refine WC.kg 1 [(0,true),(1,true),(2,false)] mixed (by kernel_rfl) (λ_ _ _ d _ h=>by cases d<;>exact h) ?_;refine D0 O (Wp 1) (b8 0 O O jW O) (D0 O (Wp 1) (Ya O) ?_);refine De O (Wp 1) ?_;refine aO 1 Y O O O jD O O O (Ln (Ed ?_));refine WD.nil (Wp 1) ?_;refine Et (aX (Er ?_));refine WE.ee (fj O (gz O) (dI 1 O O jW O)) λw' a=>?_;exact .inl ⟨(0,ti nm b.own),O,a.fr,by rw [u' c,HP G]; rfl⟩
 have q:¬mod=[]:=by simpa using o
 refine bf (aa (ad O (I (cy O) (I (Yf HT O) (I (b9 0 pK O O (z)) (ad O (I (wB 0 O gj gg dO je O O (D)) ?_)))))));rw [BK];refine ai O (ae (aa (ad O (I (dc O O) ?_))));refine WL.kk (ι:=Unit) (κ:=Unit) Y O pL O (λ_=>.tuple #[]) (λ_=>decide (0<kB mod b.ak)=true) (λ_=>gR 5) (λ_=>decide (0<kB mod b.ak)=false) (λw a=>pM _ _ w) ?_ ?_
 ·intro _ g;refine Ep ?_;refine b6 λw' a=>?_;exact .inr ⟨(),O,a.fr,Rh q (BM (by simpa using g))⟩
 intro _ H;obtain ⟨k,c,j,F⟩:=BL (nm:=mod) (l:=b.ak) (by simpa using H);obtain ⟨f,r⟩:∃f,b.qa[k]? = some f:=⟨_,List.getElem?_eq_getElem (by omega)⟩;obtain ⟨pb,T,J,U,K,L⟩:=n.bJ k f r;have V:=n.cap;have W:=n.max;refine ae (aa (ad O (I (cy O) (I (Yf BP O) (I (b9 0 HU O O (A)) (ad O (I (nU (k:Int) O O (by rw [j]; omega) (by omega)) (I (Yo Rl O O J (by omega)) ?_))))))));refine I (b9 0 zo O O (K)) (ad O (I (DM 0 O gj BI dO a_ O O (L)) ?_));rw [HN,HO];refine ad O (I (Yx O O) (I (Yx O O) ?_));refine Al Y O a_ λX=>?_;refine aO 0 Y O O O jD O O O (ai O (ae (aa (ad O ?_))));refine WL.kk (ι:=Unit) (κ:=Unit) Y O pL O (λ_=>.tuple #[]) (λ_=>(fJ nm f).isSome=true) (λ_=>gR 5) (λ_=>(fJ nm f).isSome=false) (λw a=>pM _ _ w) ?_ ?_
 ·intro _ g;refine Ep ?_;refine b6 λw' a=>?_;exact .inr ⟨(),O,a.fr,by rw [HR q t u c r,HQ g]; rfl⟩
 intro _ M;refine ae (Cs ?_);refine WC.kg 1 [(0,true),(1,true),(2,true),(3,false)] mixed (by kernel_rfl) (λ_ _ _ d _ h=>by cases d<;>exact h) ?_;refine D0 O (Wp 1) (Ym O) (D0 O (Wp 1) (b8 0 O O jW O) (D0 O (Wp 1) (Ya O) ?_));refine De O (Wp 1) ?_;refine aO 1 Y O O O jD O O O (Ln (Ed ?_));refine WD.nil (Wp 1) ?_;refine Et (aX ?_);refine WE.ee (fj O (gz O) (dI 1 O O jW O)) λw' a=>?_;rw [j] at *;exact .inl ⟨(((k+1:Nat):Int),ti nm f),O,a.fr,by rw [HR q t u c r,HP M]; rfl⟩
theorem Rm {a:dE} {n m:Int} {it:bs} {mod nm:List UInt8} {len:Nat} (h:eZ a mod nm=some (m,it)):cG a 3 n mod nm len=if m = -1 then ⟨16,n,0,it.pl,0⟩ else if it.kind=1 then ⟨1,it.n,0,0,0⟩ else if it.kind=2 then ⟨3,n,m,it.pl,0⟩ else ⟨3,n,0,0,7⟩:=by
 unfold cG;rw [if_pos (by decide),h];simp
theorem BR {a:dE} {op n:Int} {mod nm:List UInt8} {len:Nat} (b:op=3\/op=4\/op=5) (h:eZ a mod nm=none):cG a op n mod nm len=⟨op,n,0,0,5⟩:=by
 unfold cG;rw [if_pos (by unfold dv; simp; omega),h]
theorem Rn {a:dE} {op n:Int} {mod nm:List UInt8} {len:Nat} (b:¬op=3) (c:¬op=4) (d:¬op=5):cG a op n mod nm len=⟨op,n,0,0,0⟩:=by
 unfold cG;rw [if_neg (by unfold dv; simp; omega)]
theorem Ro {b:dE} {n:Int} {mod nm:List UInt8} {len:Nat} (h:h9 b mod nm 3 0≠0):(cG b 4 n mod nm len).e=h9 b mod nm 3 0:=by
 cases a:eZ b mod nm with
 | none=>rw [BR (by simp) a,u_ a]
 | some i=>
   obtain ⟨m,it⟩:=i;have f:=oM a;rw [pJ a] at h ⊢;unfold cG;rw [if_pos (by decide),a]
   by_cases c:m = -1
   · simp [c]
   · by_cases d:it.kind=3
     · exact absurd (by rw [if_neg (by omega),if_neg (by omega)]) h
     · simp [c,d]
theorem Rp {a:dE} {n m:Int} {it:bs} {mod nm:List UInt8} {len:Nat} (b:eZ a mod nm=some (m,it)) (h:h9 a mod nm 3 0=0):cG a 4 n mod nm len=⟨4,it.n,m,it.pl,0⟩:=by
 rw [pJ b] at h;have e:=oM b
 have d:0<=m/\it.kind=3:=by
   by_cases c:0<=m/\it.kind=3
   · exact c
   · rw [if_pos c] at h; cases h
 unfold cG;rw [if_pos (by decide),b];simp [d.2,show ¬m = -1 by omega]
theorem Rq {b:dE} {n:Int} {mod nm:List UInt8} {len:Nat} (h:h9 b mod nm 4 (len:Int)≠0):(cG b 5 n mod nm len).e=h9 b mod nm 4 (len:Int):=by
 cases a:eZ b mod nm with
 | none=>rw [BR (by simp) a,u_ a]
 | some i=>
   obtain ⟨m,it⟩:=i;have g:=oM a;rw [pJ a] at h ⊢;unfold cG;rw [if_pos (by decide),a]
   by_cases c:m = -1
   · simp [c]
   · by_cases d:it.kind=4
     · by_cases f:it.n=(len:Int)
       · exact absurd (by rw [if_neg (by omega),if_neg (by omega)]) h
       · simp [c,d,f,show 0<=m by omega]
     · simp [c,d]
theorem Rr {b:dE} {n m:Int} {it:bs} {mod nm:List UInt8} {len:Nat} (c:eZ b mod nm=some (m,it)) (h:h9 b mod nm 4 (len:Int)=0):cG b 5 n mod nm len=⟨5,n,m,it.pl,0⟩:=by
 rw [pJ c] at h;have f:=oM c
 have d:0<=m/\it.kind=4:=by
   by_cases a:0<=m/\it.kind=4
   · exact a
   · rw [if_pos a] at h; cases h
 have e:it.n=(len:Int):=by
   rw [if_neg (λa=>a d)] at h
   by_cases a:it.n=(len:Int)
   · exact a
   · rw [if_pos ⟨rfl,a⟩] at h; cases h
 unfold cG;rw [if_pos (by decide),c];simp [d.2,e,show ¬m = -1 by omega]
theorem BS {a:dE} {op:Int} {mod nm:List UInt8} {len:Nat} (b:op=1\/op=2\/op=3) (h:eZ a mod nm=none):cQ a op mod nm len=⟨op,0,0,0,5⟩:=by
 unfold cQ;rw [if_pos (by unfold dv; simp; omega),h]
theorem Ig {a:dE} {op:Int} {mod nm:List UInt8} {len:Nat} (b:¬op=1) (c:¬op=2) (d:¬op=3):cQ a op mod nm len=⟨op,0,0,0,0⟩:=by
 unfold cQ;rw [if_neg (by unfold dv; simp; omega)]
theorem Rt {b:dE} {m:Int} {it:bs} {mod nm:List UInt8} {len:Nat} (h:eZ b mod nm=some (m,it)):cQ b 1 mod nm len=if m = -1\/it.kind=2 then ⟨1,0,m,it.pl,0⟩ else ⟨1,0,0,0,7⟩:=by
 unfold cQ;rw [if_pos (by decide),h]
 by_cases a:m = -1\/it.kind=2
 · simp [a]
 · simp [a,show ¬m = -1 from λe=>a (.inl e)]
theorem Ru {b:dE} {mod nm:List UInt8} {len:Nat} (h:h9 b mod nm 3 0≠0):(cQ b 2 mod nm len).e=h9 b mod nm 3 0:=by
 cases a:eZ b mod nm with
 | none=>rw [BS (by simp) a,u_ a]
 | some i=>
   obtain ⟨m,it⟩:=i;have f:=oM a;rw [pJ a] at h ⊢;unfold cQ;rw [if_pos (by decide),a]
   by_cases c:m = -1
   · simp [c]
   · by_cases d:it.kind=3
     · exact absurd (by rw [if_neg (by omega),if_neg (by omega)]) h
     · simp [c,d]
theorem Rv {a:dE} {m:Int} {it:bs} {mod nm:List UInt8} {len:Nat} (b:eZ a mod nm=some (m,it)) (h:h9 a mod nm 3 0=0):cQ a 2 mod nm len=⟨2,it.n,m,it.pl,0⟩:=by
 rw [pJ b] at h;have e:=oM b
 have d:0<=m/\it.kind=3:=by
   by_cases c:0<=m/\it.kind=3
   · exact c
   · rw [if_pos c] at h; cases h
 unfold cQ;rw [if_pos (by decide),b];simp [d.2,show ¬m = -1 by omega]
theorem Rw {b:dE} {mod nm:List UInt8} {len:Nat} (h:h9 b mod nm 4 (len:Int)≠0):(cQ b 3 mod nm len).e=h9 b mod nm 4 (len:Int):=by
 cases a:eZ b mod nm with
 | none=>rw [BS (by simp) a,u_ a]
 | some i=>
   obtain ⟨m,it⟩:=i;have g:=oM a;rw [pJ a] at h ⊢;unfold cQ;rw [if_pos (by decide),a]
   by_cases c:m = -1
   · simp [c]
   · by_cases d:it.kind=4
     · by_cases f:it.n=(len:Int)
       · exact absurd (by rw [if_neg (by omega),if_neg (by omega)]) h
       · simp [c,d,f,show 0<=m by omega]
     · simp [c,d]
theorem Rx {b:dE} {m:Int} {it:bs} {mod nm:List UInt8} {len:Nat} (c:eZ b mod nm=some (m,it)) (h:h9 b mod nm 4 (len:Int)=0):cQ b 3 mod nm len=⟨3,0,m,it.pl,0⟩:=by
 rw [pJ c] at h;have f:=oM c
 have d:0<=m/\it.kind=4:=by
   by_cases a:0<=m/\it.kind=4
   · exact a
   · rw [if_pos a] at h; cases h
 have e:it.n=(len:Int):=by
   rw [if_neg (λa=>a d)] at h
   by_cases a:it.n=(len:Int)
   · exact a
   · rw [if_pos ⟨rfl,a⟩] at h; cases h
 unfold cQ;rw [if_pos (by decide),c];simp [d.2,e,show ¬m = -1 by omega]
structure GX (X:Type) where
 i:Nat
 es:List X
 a:Option Addr
 c:Nat
 J:View
theorem BU:Enters Tryz.prog 174:=enters_of Tryz.func174 (by kernel_rfl) rfl
theorem vb:zeroOf Tryz.prog 269=some (.agg #[.int .i64 0,.int .i64 0,.int .i64 0,.int .i64 0,.slice none 0 0]):=by kernel_rfl
theorem Ry:aK Tryz.prog 269=some [(0,1),(1,1),(2,1),(3,1),(4,1)]:=by kernel_rfl
theorem xH:dk Tryz.prog 269=some 5:=by kernel_rfl
theorem mR:an Tryz.prog 269 0=some 0:=by kernel_rfl
theorem jY:an Tryz.prog 269 3=some 3:=by kernel_rfl
theorem kC:an Tryz.prog 269 1=some 1:=by kernel_rfl
theorem kD:an Tryz.prog 269 2=some 2:=by kernel_rfl
theorem xI:Enters Tryz.prog 175:=enters_of Tryz.func175 (by kernel_rfl) rfl
theorem HV:Enters Tryz.prog 176:=enters_of Tryz.func176 (by kernel_rfl) rfl
theorem mS:an Tryz.prog 269 4=some 4:=by kernel_rfl
theorem HW:dk Tryz.prog 203=some 1:=by kernel_rfl
theorem jE:f' Tryz.prog 269=some 5:=by kernel_rfl
theorem xJ (j:View) (k:Nat) (c:dE) (w:World) (s:Le j w) (t:pI j k c) (mod nm:List UInt8) (kind args:Int) :
   Calls Tryz.prog 175 #[.pointer (some ⟨k,0,none⟩),st mod,st nm,.int .i64 kind,.int .i64 args] w λe w'=>(∃i:Int×bs,e = .returned (.tuple #[.int .i64 i.1,.agg i.2.cells.toArray])/\Ext w w'/\eZ c mod nm=some i/\h9 c mod nm kind args=0)\/(∃_:Unit,e = .panicked (gR (h9 c mod nm kind args))/\Ext w w'/\h9 c mod nm kind args≠0):=by
 refine enter Tryz.func175 O 41 O O ?_;refine CE (Vs:=[j]) (Ws.init (by simp [s])) (aa (ai O ?_));refine Al Y O a_ λy=>?_;refine ae (aa (ad O (ad O (ad O ?_))));refine WL.kk Y O BU O _ _ _ _ (λw a=>BQ j k c w (a.vs _ (by simp)) t mod nm) ?_ ?_
 ·intro _ f;refine Ep ?_;refine b6 λw' a=>?_;rw [u_ f];exact .inr ⟨(),O,a.fr,by decide⟩
 intro ⟨l,g⟩ r;have b:=pJ (kind:=kind) (args:=args) r;refine ad O (I (Yx O O) (I (Yx O O) ?_));refine Al Y O a_ λz=>?_;refine ai O (aO 0 Y O O O jD O O O (ae (aa (ad O (I (aJ O O) (ad O ?_))))));apply La 4 O O O O Y O O O O O
 ·intro A;refine Vg (Yf th O) (Vg (Yd 0 O O O aT) (Vg (Ym O) (Vg (bP O O) ?_)));exact Gt 4 O O O
 refine WL.kk (ι:=Unit) (κ:=Unit) Y O pL O (λ_=>.tuple #[]) (λ_=>_=true) (λ_=>gR _) (λ_=>_=false) (λw a=>pM _ _ w) ?_ ?_
 ·intro _ f;refine Ep ?_;refine b6 λw' a=>?_
  have m:¬(0<=l/\g.kind=kind):=by rintro ⟨o,p⟩; simp [o,p] at f
  rw [if_pos m] at b;rw [b];exact .inr ⟨(),O,a.fr,by decide⟩
 intro _ u
 have m:0<=l/\g.kind=kind:=by simpa using u
 rw [if_neg (λv=>v m)] at b;refine ae (aa (ad O (I (e8 O O) (ad O ?_))));apply Lo 4 O O O O Y O O O O O
 ·intro B;refine Vg (Yf lL O) (Vg (Yd 0 O O O aT) (Vg (Ym O) (Vg (bP O O) ?_)));exact Gt 4 O O O
 refine WL.kk (ι:=Unit) (κ:=Unit) Y O pL O (λ_=>.tuple #[]) (λ_=>_=true) (λ_=>gR _) (λ_=>_=false) (λw a=>pM _ _ w) ?_ ?_
 ·intro _ f;refine Ep ?_;refine b6 λw' a=>?_
  have q:kind=4/\¬g.n=args:=by simpa using f
  rw [if_pos q] at b;rw [b];exact .inr ⟨(),O,a.fr,by decide⟩
 intro _ x;refine ae (Cs ?_);refine WC.kg 1 [(0,true),(1,true),(2,true),(3,false)] mixed (by kernel_rfl) (λ_ _ _ d _ h=>by cases d<;>exact h) ?_;refine D0 O (Wp 1) (Ym O) (D0 O (Wp 1) (b8 0 O O jW O) (D0 O (Wp 1) (Ya O) ?_));refine De O (Wp 1) ?_;refine aO 1 Y O O O jD O O O (Ln (Ed ?_));refine WD.nil (Wp 1) ?_;refine Et (aX ?_);refine WE.ee (fj O (gz O) (dI 1 O O jW O)) λw' a=>?_
 have q:¬(kind=4/\¬g.n=args):=by rintro ⟨o,p⟩; simp [o,p] at x
 rw [if_neg q] at b;exact .inl ⟨(l,g),O,a.fr,r,b⟩
theorem IL (l t:View) (q:Nat) (b:dE) (k:Nat) (x:aV) (a:Option Addr) (c:Nat) (w:World) (P:Le l w) (Q:Le t w) (u:pI l q b) (R:BO l q b k) (v:Sl (ff k) 5 t a c x.args) (an:wE x<=109951162777) :
   Calls Tryz.prog 222 #[.pointer (some ⟨q,0,none⟩),.agg (rf x a c).toArray] w λe w'=>(∃r:SP,e = .returned (.agg (nh (bg b x) r.1 r.2).toArray)/\Ext w w'/\ij b x=0/\n0 (k+1) (nv w w') (bg b x,r))\/(∃_:Unit,e = .panicked (gR (ij b x))/\Ext w w'/\ij b x≠0):=by
 have ao:=Dz x;have ap:=v.cap;have ar:=v.max;refine enter Tryz.func222 O 98 O O ?_;refine CE (Vs:=[t,l]) (Ws.init (by simp [Q,P])) (aa ?_);refine WL.box Y O O λH=>?_;refine Al Y O vb λJ=>?_;refine ae (aa (I (Yf rL O) (I (Yd 1 O O O aT) (I (Yf xv O) (I (Yd 1 O O O aT) (I (Yb vb Ry O O) ?_))))));refine Al Y O vb λK=>?_;refine aO 0 Y O O O xH O O O (ae ?_);refine WC.wh (ι:=Unit) (λ_u=>[(0,.pointer (some ⟨q,0,none⟩)),(3,.pointer (some ⟨H,0,none⟩)),(4,.pointer (some ⟨J,0,none⟩)),(5,.pointer (some ⟨K,0,none⟩))]) (λ_u=>Ws w [] [aq K (.cells #[.int .i64 (cG b x.op x.n x.mod x.nm x.args.length).op,.int .i64 (cG b x.op x.n x.mod x.nm x.args.length).n,.int .i64 (cG b x.op x.n x.mod x.nm x.args.length).m,.int .i64 (cG b x.op x.n x.mod x.nm x.args.length).pl,.slice none 0 0] 269 (0,0)),aq J (.cells #[.int .i64 0,.int .i64 0,.int .i64 0,.int .i64 0,.slice none 0 0] 269 (0,0)),aq H (.cells (rf x a c).toArray 263 (0,0))] [t,l]) (λ_u=>(cG b x.op x.n x.mod x.nm x.args.length).e=0) ?_ ?_
 ·refine aa (I (Yf rL O) (I (Yd 2 O O O aT) (ae (Cb (aa (I (bP O O) (ai O (ae ?_))))))));refine Cc O (λy=>?_) (λy=>?_)
  ·have o:x.op=3:=by simpa using y
   refine aa (ad O (I (Yf xt O) (I (Yd 2 O O O cN) (I (Yf xu O) (I (Yd 2 O O O cN) ?_)))));refine WL.kk Y O BU O _ _ _ _ (λw f=>BQ l q b w (f.vs _ (by simp)) u x.mod x.nm) ?_ ?_
   ·intro _ i;refine Ep (WE.ck (Ep ?_));refine b6 λw' f=>?_
    have j:ij b x=5:=by rw [qb,BR (by omega) i]; rfl
    rw [j];exact .inr ⟨(),O,f.fr,by decide⟩
   intro ⟨z,s⟩ L;have p:=Rm (n:=x.n) (len:=x.args.length) L;have au:=oM L;rw [<-o] at p;refine ad O (I (Yx O O) (I (Yx O O) ?_));refine Al Y O a_ λav=>?_;refine ai O (aO 0 Y O O O jD O O O (ae (Cb (aa (ad O (I (b0 O O) (ai O (ae ?_))))))));refine Cc O (λA=>?_) (λA=>?_)
   ·have B:z = -1:=by simp at A; omega
    have g:(cG b x.op x.n x.mod x.nm x.args.length)=⟨16,x.n,0,s.pl,0⟩:=by rw [p,if_pos B]
    refine WC.kg 1 [(0,true),(1,true),(2,true),(3,false),(4,false),(5,false)] mixed (by kernel_rfl) (λ_ _ _ d _ h=>by cases d<;>exact h) ?_;refine D0 O (Wp 1) (Yf jC O) (D0 O (Wp 1) (Yd 0 O O O aT) (D0 O (Wp 1) (Yf mR O) ?_));refine De O (Wp 1) ?_;refine aO 1 Y O O O dP O O O (Ln (Ed ?_));refine De O (Wp 1) ?_;refine I (Yf jY O) (Ln (Ed ?_));refine De O (Wp 1) ?_;refine aO 1 Y O O O dP O O O (Ln (Ed ?_));refine WD.nil (Wp 1) ?_;refine Eb (Eb ?_);refine WE.ln 1 (.cells #[.int .i64 (cG b x.op x.n x.mod x.nm x.args.length).op,.int .i64 (cG b x.op x.n x.mod x.nm x.args.length).n,.int .i64 (cG b x.op x.n x.mod x.nm x.args.length).m,.int .i64 (cG b x.op x.n x.mod x.nm x.args.length).pl,.slice none 0 0] 269 (0,0)) O (by rw [g]; rfl) ?_
    exact Em () (by rw [g]) (sc O (sc O (sc O (sc O sn)))) (λ_ h=>by
      have h:=h.bR 3 rfl;have h:=h.bR 3 rfl;have h:=h.bR 3 rfl;have h:=Wt 3 h
      exact h)
   have B:¬z = -1:=by simp at A; omega
   rw [if_neg B] at p;refine aa (I (Yf th O) (I (Yd 0 O O O aT) (I (bP O O) (ai O (ae ?_)))));refine Cc O (λC=>?_) (λC=>?_)
   ·have D:s.kind=1:=by simpa using C
    have g:(cG b x.op x.n x.mod x.nm x.args.length)=⟨1,s.n,0,0,0⟩:=by rw [p,if_pos D]
    refine WC.kg 1 [(0,true),(1,true),(2,true),(3,false),(4,false),(5,false)] mixed (by kernel_rfl) (λ_ _ _ d _ h=>by cases d<;>exact h) ?_;refine D0 O (Wp 1) (Yf lL O) (D0 O (Wp 1) (Yd 0 O O O aT) (D0 O (Wp 1) (Yf mR O) ?_));refine De O (Wp 1) ?_;refine aO 1 Y O O O dP O O O (Ln (Ed ?_));refine De O (Wp 1) ?_;refine I (Yf kC O) (Ln (Ed ?_));refine De O (Wp 1) ?_;refine aO 1 Y O O O dP O O O (Ln (Ed ?_));refine WD.nil (Wp 1) ?_;refine Eb (Eb ?_);refine WE.ln 1 (.cells #[.int .i64 (cG b x.op x.n x.mod x.nm x.args.length).op,.int .i64 (cG b x.op x.n x.mod x.nm x.args.length).n,.int .i64 (cG b x.op x.n x.mod x.nm x.args.length).m,.int .i64 (cG b x.op x.n x.mod x.nm x.args.length).pl,.slice none 0 0] 269 (0,0)) O (by rw [g]; rfl) ?_
    exact Em () (by rw [g]) (sc O (sc O (sc O (sc O sn)))) (λ_ h=>by
      have h:=h.bR 3 rfl;have h:=h.bR 3 rfl;have h:=h.bR 3 rfl;have h:=Wt 3 h
      exact h)
   have D:¬s.kind=1:=by simpa using C
   rw [if_neg D] at p;refine aa (I (Yf th O) (I (Yd 0 O O O aT) (I (bP O O) ?_)));refine WL.kk (ι:=Unit) (κ:=Unit) Y O pL O (λ_=>.tuple #[]) (λ_=>_=true) (λ_=>gR _) (λ_=>_=false) (λw f=>pM _ _ w) ?_ ?_
   ·intro _ i;refine Ep (WE.ck (WE.ck (Ep ?_)));refine b6 λw' f=>?_
    have E:¬s.kind=2:=by simpa using i
    rw [if_neg E] at p
    have j:ij b x=7:=by rw [qb,p]; rfl
    rw [j];exact .inr ⟨(),O,f.fr,by decide⟩
   intro _ S
   have E:s.kind=2:=by simpa using S
   have g:(cG b x.op x.n x.mod x.nm x.args.length)=⟨x.op,x.n,z,s.pl,0⟩:=by rw [p,if_pos E,o]
   refine ae ?_;refine WC.kg 1 [(0,true),(1,true),(2,true),(3,true),(4,false),(5,false),(6,false)] mixed (by kernel_rfl) (λ_ _ _ d _ h=>by cases d<;>exact h) ?_;refine D0 O (Wp 1) (Ym O) (D0 O (Wp 1) (Yf jC O) (D0 O (Wp 1) (Yd 0 O O O aT) (D0 O (Wp 1) (Yf kD O) ?_)));refine De O (Wp 1) ?_;refine aO 1 Y O O O dP O O O (Ln (Ed ?_));refine De O (Wp 1) ?_;refine I (Yf jY O) (Ln (Ed ?_));refine De O (Wp 1) ?_;refine aO 1 Y O O O dP O O O (Ln (Ed ?_));refine WD.nil (Wp 1) ?_;refine Eb (Eb ?_);refine WE.ln 1 (.cells #[.int .i64 (cG b x.op x.n x.mod x.nm x.args.length).op,.int .i64 (cG b x.op x.n x.mod x.nm x.args.length).n,.int .i64 (cG b x.op x.n x.mod x.nm x.args.length).m,.int .i64 (cG b x.op x.n x.mod x.nm x.args.length).pl,.slice none 0 0] 269 (0,0)) O (by rw [g]; rfl) ?_
   exact Em () (by rw [g]) (sc O (sc O (sc O (sc O sn)))) (λ_ h=>by
     have h:=h.bR 3 rfl;have h:=h.bR 3 rfl;have h:=h.bR 3 rfl;have h:=Wt 3 h
     exact h)
  have T:¬x.op=3:=by simpa using y
  refine aa (I (bP O O) (ai O (ae ?_)));refine Cc O (λF=>?_) (λF=>?_)
  ·have o:x.op=4:=by simpa using F
   refine aa (ad O (I (Yf xt O) (I (Yd 2 O O O cN) (I (Yf xu O) (I (Yd 2 O O O cN) ?_)))));refine WL.kk Y O xI O _ _ _ _ (λw f=>xJ l q b w (f.vs _ (by simp)) u x.mod x.nm 3 0) ?_ ?_
   ·intro _ i;refine Ep (WE.ck (Ep ?_));refine b6 λw' f=>?_
    have j:ij b x=h9 b x.mod x.nm 3 0:=by rw [qb,o,Ro i,bV i]
    rw [j];exact .inr ⟨(),O,f.fr,i⟩
   intro ⟨U,M⟩ ⟨V,W⟩
   have g:(cG b x.op x.n x.mod x.nm x.args.length)=⟨x.op,M.n,U,M.pl,0⟩:=by rw [o]; exact Rp V W
   refine ad O (I (Yx O O) (I (Yx O O) ?_));refine Al Y O a_ λaw=>?_;refine ai O (aO 0 Y O O O jD O O O (ae ?_));refine WC.kg 1 [(0,true),(1,true),(2,true),(3,true),(4,true),(5,true),(6,false),(7,false),(8,false),(9,false),(10,false)] mixed (by kernel_rfl) (λ_ _ _ d _ h=>by cases d<;>exact h) ?_;refine D0 O (Wp 1) (Ym O) (D0 O (Wp 1) (Yf jC O) (D0 O (Wp 1) (Yd 0 O O O aT) (D0 O (Wp 1) (Yf lL O) (D0 O (Wp 1) (Yd 0 O O O aT) (D0 O (Wp 1) (Yf kD O) ?_)))));refine De O (Wp 1) ?_;refine aO 1 Y O O O dP O O O (Ln (Ed ?_));refine De O (Wp 1) ?_;refine I (Yf jY O) (Ln (Ed ?_));refine De O (Wp 1) ?_;refine aO 1 Y O O O dP O O O (Ln (Ed ?_));refine De O (Wp 1) ?_;refine I (Yf kC O) (Ln (Ed ?_));refine De O (Wp 1) ?_;refine aO 1 Y O O O dP O O O (Ln (Ed ?_));refine WD.nil (Wp 1) ?_;refine Eb ?_;refine WE.ln 1 (.cells #[.int .i64 (cG b x.op x.n x.mod x.nm x.args.length).op,.int .i64 (cG b x.op x.n x.mod x.nm x.args.length).n,.int .i64 (cG b x.op x.n x.mod x.nm x.args.length).m,.int .i64 (cG b x.op x.n x.mod x.nm x.args.length).pl,.slice none 0 0] 269 (0,0)) O (by rw [g]; rfl) ?_
   exact Em () (by rw [g]) (sc O (sc O (sc O (sc O sn)))) (λ_ h=>by
     have h:=h.bR 3 rfl;have h:=h.bR 3 rfl;have h:=h.bR 3 rfl;have h:=Wt 3 h
     exact h)
  have X:¬x.op=4:=by simpa using F
  refine aa (I (bP O O) (ai O (ae ?_)));refine Cc O (λG=>?_) (λG=>?_)
  ·have o:x.op=5:=by simpa using G
   refine aa (ad O (I (Yf xt O) (I (Yd 2 O O O cN) (I (Yf xu O) (I (Yd 2 O O O cN) (I (Yf s9 O) (I (Yd 2 O O O qw) ?_)))))));refine I (Yn oD O) ?_;refine WL.kk Y O xI O _ _ _ _ (λw f=>xJ l q b w (f.vs _ (by simp)) u x.mod x.nm 4 (x.args.length:Int)) ?_ ?_
   ·intro _ i;refine Ep (WE.ck (Ep ?_));refine b6 λw' f=>?_
    have j:ij b x=h9 b x.mod x.nm 4 (x.args.length:Int):=by rw [qb,o,Rq i,bV i]
    rw [j];exact .inr ⟨(),O,f.fr,i⟩
   intro ⟨Z,ab⟩ ⟨ac,af⟩
   have g:(cG b x.op x.n x.mod x.nm x.args.length)=⟨x.op,x.n,Z,ab.pl,0⟩:=by rw [o]; exact Rr ac af
   refine ad O (I (Yx O O) (I (Yx O O) ?_));refine Al Y O a_ λax=>?_;refine ai O (aO 0 Y O O O jD O O O (ae ?_));refine WC.kg 1 [(0,true),(1,true),(2,true),(3,true),(4,false),(5,false),(6,false)] mixed (by kernel_rfl) (λ_ _ _ d _ h=>by cases d<;>exact h) ?_;refine D0 O (Wp 1) (Ym O) (D0 O (Wp 1) (Yf jC O) (D0 O (Wp 1) (Yd 0 O O O aT) (D0 O (Wp 1) (Yf kD O) ?_)));refine De O (Wp 1) ?_;refine aO 1 Y O O O dP O O O (Ln (Ed ?_));refine De O (Wp 1) ?_;refine I (Yf jY O) (Ln (Ed ?_));refine De O (Wp 1) ?_;refine aO 1 Y O O O dP O O O (Ln (Ed ?_));refine WD.nil (Wp 1) ?_;refine Eb ?_;refine WE.ln 1 (.cells #[.int .i64 (cG b x.op x.n x.mod x.nm x.args.length).op,.int .i64 (cG b x.op x.n x.mod x.nm x.args.length).n,.int .i64 (cG b x.op x.n x.mod x.nm x.args.length).m,.int .i64 (cG b x.op x.n x.mod x.nm x.args.length).pl,.slice none 0 0] 269 (0,0)) O (by rw [g]; rfl) ?_
   exact Em () (by rw [g]) (sc O (sc O (sc O (sc O sn)))) (λ_ h=>by
     have h:=h.bR 3 rfl;have h:=h.bR 3 rfl;have h:=h.bR 3 rfl;have h:=Wt 3 h
     exact h)
  have ag:¬x.op=5:=by simpa using G
  have g:(cG b x.op x.n x.mod x.nm x.args.length)=⟨x.op,x.n,0,0,0⟩:=Rn T X ag;refine Ck (Eb ?_);refine WE.ln 0 (.cells #[.int .i64 (cG b x.op x.n x.mod x.nm x.args.length).op,.int .i64 (cG b x.op x.n x.mod x.nm x.args.length).n,.int .i64 (cG b x.op x.n x.mod x.nm x.args.length).m,.int .i64 (cG b x.op x.n x.mod x.nm x.args.length).pl,.slice none 0 0] 269 (0,0)) O (by rw [g]; rfl) ?_
  exact Em () (by rw [g]) (sc O (sc O (sc O (sc O sn)))) (λ_ h=>by
    have h:=h.bR 2 rfl;have h:=h.bR 2 rfl;have h:=h.bR 2 rfl
    exact h)
 intro _ N;refine aa (ad O (I (Yf s9 O) (I (Yd 2 O O O qw) ?_)));refine WL.p8 (ι:=SP) (κ:=Unit) Y O HV O (λr=>.slice r.1 (fk b x.args).length r.2) (λah r=>gC b x.args=0/\Sl (ig (k+1)) 5 ah r.1 r.2 (fk b x.args)) (λ_=>gR (gC b x.args)) (λ_=>gC b x.args≠0) (λw f=>R t x.args a c w (f.vs _ (by simp)) (f.vs _ (by simp)) v (by omega)) ?_ ?_
 ·intro _ i;refine Ep ?_;refine b6 λw' f=>?_
  have j:ij b x=gC b x.args:=by rw [qb,N,jK]
  rw [j];exact .inr ⟨(),O,f.fr,i⟩
 intro ay aj ak ⟨al,am⟩;refine I (Yf mS O) (aO 0 Y O O O HW O O O (ae (aa (I (b8 0 O O jE O) (aO 1 Y O O O xH O O O (ae (aX ?_)))))));refine WE.ee (gL O (dI 1 O O jE O)) λw' f=>?_;rw [zr];exact .inl ⟨aj,O,f.fr,by rw [qb,N,jK,al],hX am (cF f (by simp) ak)⟩
def RA (f:View) (g:Nat) (b:dE) (ke k:Nat):Prop:=∀(d:View) (l:List bl) (a:Option Addr) (c:Nat) (w:World),Le f w->Le d w->Sl (a6 ke k) 6 d a c l->dC l<=109951162777->
 Calls Tryz.prog 77 #[.pointer (some ⟨g,0,none⟩),.slice a l.length c] w λe w'=>(∃r:SP,e = .returned (.slice r.1 (dV b l).length r.2)/\Ext w w'/\eu b l=0/\Sl (gW (ke+1) (k+1)) 7 (nv w w') r.1 r.2 (dV b l))\/(∃_:Unit,e = .panicked (gR (eu b l))/\Ext w w'/\eu b l≠0)
theorem hq {X T S:Type} {f:X->T} {g:S->T} {es:List X} {l:List S} {i:Nat} {x:S} {e:X} (h:es.map f=(l.take i).map g) (a:l[i]? = some x) (b:f e=g x):(es++[e]).map f=(l.take (i+1)).map g:=by
 rw [a' a]; simp [h,b]
theorem vd {X T S:Type} {f:X->T} {g:S->T} {es:List X} {l:List S} {i:Nat} (h:es.map f=(l.take i).map g) (hi:i<=l.length):es.length=i:=by
 have:=congrArg List.length h
 simpa [Nat.min_eq_left hi] using this
theorem ve {X T S:Type} {f:X->T} {g:S->T} {es:List X} {l:List S} {i:Nat} (h:es.map f=(l.take i).map g) (hi:i=l.length):es.map f=l.map g:=by subst hi; simpa using h
theorem RB:Enters Tryz.prog 222:=enters_of Tryz.func222 (by kernel_rfl) rfl
theorem HX:aE Tryz.prog 203 269 (.agg #[.int .i64 0,.int .i64 0,.int .i64 0,.int .i64 0,.slice none 0 0]) 5 56:=hV (by kernel_rfl)
theorem vf:zeroOf Tryz.prog 205=some (.agg #[.int .i64 0,.int .i64 0,.int .i64 0,.int .i64 0,.slice none 0 0,.slice none 0 0,.slice none 0 0]):=by kernel_rfl
theorem RC:aK Tryz.prog 205=some [(0,1),(1,1),(2,1),(3,1),(4,1),(5,1),(6,1)]:=by kernel_rfl
theorem xK:dk Tryz.prog 205=some 7:=by kernel_rfl
theorem k6:an Tryz.prog 205 2=some 2:=by kernel_rfl
theorem lM:an Tryz.prog 205 3=some 3:=by kernel_rfl
theorem pN:an Tryz.prog 205 1=some 1:=by kernel_rfl
theorem mh:an Tryz.prog 205 4=some 4:=by kernel_rfl
theorem xL:Enters Tryz.prog 77:=enters_of Tryz.func77 (by kernel_rfl) rfl
theorem rV:an Tryz.prog 205 5=some 5:=by kernel_rfl
theorem BV:dk Tryz.prog 38=some 1:=by kernel_rfl
theorem pO:an Tryz.prog 205 6=some 6:=by kernel_rfl
theorem tj:f' Tryz.prog 205=some 7:=by kernel_rfl
theorem RD:Enters Tryz.prog 139:=enters_of Tryz.func139 (by kernel_rfl) rfl
theorem HY:aE Tryz.prog 38 205 (.agg #[.int .i64 0,.int .i64 0,.int .i64 0,.int .i64 0,.slice none 0 0,.slice none 0 0,.slice none 0 0]) 7 104:=hV (by kernel_rfl)
theorem RE (m d:View) (o:Nat) (b:dE) (E:pI m o b) (k:Nat) (l:List aV) (a:Option Addr) (c:Nat) (w:World) (F:Le m w) (G:Le d w) (p:Sl (ff k) 5 d a c l) (au:ax l<=109951162777) :
   Calls Tryz.prog 176 #[.pointer (some ⟨o,0,none⟩),.slice a l.length c] w λe w'=>(∃r:SP,e = .returned (.slice r.1 (fk b l).length r.2)/\Ext w w'/\gC b l=0/\Sl (ig (k+1)) 5 (nv w w') r.1 r.2 (fk b l))\/(∃_:Unit,e = .panicked (gR (gC b l))/\Ext w w'/\gC b l≠0):=by
 induction k using Nat.strongRecOn generalizing d l a c w
 rename_i k H;have aw:=p.cap;have ay:=p.max;have az:=DD l;refine enter Tryz.func176 O 22 O O ?_;refine CE (Vs:=[d,m]) (Ws.init (by simp [G,F])) (aa (ai O (ae (aa (ai O (LW (λ_ h=>h.e4 269 5) ?_))))));refine WL.v0 ?_;refine ae (Cs (aa (ad O (I (Yn oD O) (ad O (ae (Cb ?_)))))));refine av (ι:=GX XN) (λg=>[(10,.int .i64 (g.i:Int)),(5,.slice g.a g.es.length g.c)]) [(0,_),(4,_),(8,_),(9,_)] (λg=>Ws w [] [cf 269 5 XN.cells g.a g.c g.es] [g.J,d,m]) (λg=>g.i<=l.length/\g.es.map (·.1)=(l.take g.i).map (bg b)/\aD (ij b) (l.take g.i)=0/\(eW w g.J/\Xs (n0 k) g.J g.es)) (λg=>l.length-g.i) ⟨0,[],none,0,v0⟩ ⟨Nat.zero_le _,O,O,⟨lW w,Xs.nil _⟩⟩ (sc O (sc O (sc O (sc O (sc O (sc O sn)))))) (λ_ h=>by have h:=Ws.cv h (ah:=[v0,d,m]) (by simp); exact h) ?_;intro g ⟨hi,s,t,⟨x,z⟩⟩;refine aa (I (b0 O O) (ae (Cs ?_)));refine Cc O (λu=>?_) (λu=>?_)
 ·have K:g.i<l.length:=by simpa using u
  obtain ⟨y,n⟩:∃q,l[g.i]? = some q:=⟨_,List.getElem?_eq_getElem K⟩;obtain ⟨aA,aB,L,A⟩:=p.bJ g.i y n
  obtain ⟨j,rfl⟩:∃j,k=j+1:=by
    cases k with
    | zero=>exact A.elim
    | succ j=>exact ⟨j,rfl⟩
  obtain ⟨M,N,P,Q⟩:=A;have aC:=vd s hi;refine bf (Cs (Cb (aa (I (Yo oD O O L (by omega)) (I (dj 1 jd O O O (P)) ?_)))));refine Al Y O h7 λaE=>?_;refine aO 0 Y O O O bz O O O (ae (Cr (ad O (ad O (I (b8 0 O O jd O) ?_)))));refine WL.p8 (ι:=SP) (κ:=Unit) Y O RB O (λr=>.agg (nh (bg b y) r.1 r.2).toArray) (λS r=>ij b y=0/\n0 (j+1) S (bg b y,r)) (λ_=>gR (ij b y)) (λ_=>ij b y≠0) (λw f=>IL m d o b j y M N w (f.vs _ (by simp)) (f.vs _ (by simp)) E (λd l a c w T U V W=>H j (by omega) d l a c w T U V W) Q (by have:=DB n; omega)) ?_ ?_
  ·intro _ B;refine WE.ck (Ep (Ep (WE.ck (Ep ?_))));refine b6 λw' f=>?_
   have X:gC b l=ij b y:=by rw [zv,sB (ij b) n t B]
   rw [X];exact .inr ⟨(),O,f.fr,B⟩
  intro aF v Z ⟨ab,ac⟩;refine WL.hE λaf ag ak al=>?_;refine Lb Y O HX O O O O λaG=>?_;refine cD 0 (.cells (XN.cells (bg b y,v)).toArray 269 (0,0)) O (O) ?_;refine LA (((bg b y,v):XN)) 2 0 Y O HX O O O O O O (by omega) (by omega) λam an=>?_;refine ai O (Ln (Eb (Et (Cr (I (Yi O O O (by omega)) (ad O (Ln ?_)))))));exact Ea (⟨g.i+1,g.es++[(bg b y,v)],am,an,af⟩:GX XN) (by show _-(g.i+1)<_; omega) ⟨(by show g.i+1<=_; omega),hq s n O,by show aD (ij b) (l.take (g.i+1))=0; rw [zu (ij b) n,t,jK,ab],⟨al _ Z x,Xs.snoc (R:=n0 _) (λhv h=>n0.mv hv h) z ak ag ac⟩⟩ (sc O (sc O (sc O (sc O (sc O (sc O sn)))))) (λ_ h=>Wd 2 h)
 have C:g.i=l.length:=by simp at u; omega
 refine Ce (Ex (Ex (cp (Et (Cs ?_)))));refine WC.ll (rd:=DU) 0 O (λ_ ao=>by cases ao) XN.aj (λ_ _ _ _ h=>h) λaH ap aq=>?_;refine Cr (ad O (ai O (ae (aX ?_))));refine R1 O O λw' f=>?_
 have ar:gC b l=0:=by rw [zv,<-t,C,List.take_length]
 have D:=ve s C;rw [<-sA] at D;rw [<-D];exact .inl ⟨(g.a,g.c),by rw [List.length_map],f.fr,ar,LX aq (cF f (by simp) ap) (cF f (by simp) x) z⟩
theorem RF (b:View) (d:Nat) (e:dE) (f:pI b d e) (k:Nat):BO b d e k:=by
 intro g l a c w h i j m;exact RE b g d e f k l a c w h i j m
theorem RG (l o:View) (p:Nat) (b:dE) (ke k:Nat) (x:bl) (a:Option Addr) (c:Nat) (a2:Option Addr) (c2:Nat) (a3:Option Addr) (c3:Nat) (w:World) (P:Le l w) (Q:Le o w) (u:pI l p b) (R:BO l p b ke) (G:RA l p b ke k) (v:Sl (ff ke) 5 o a c x.args) (S:Sl (a6 ke k) 6 o a2 c2 x.body) (T:Sl (a6 ke k) 6 o a3 c3 x.other) (ax:wS x<=109951162777) :
   Calls Tryz.prog 139 #[.pointer (some ⟨p,0,none⟩),.agg (rh x a c a2 c2 a3 c3).toArray] w λe w'=>(∃r:rl,e = .returned (.agg (o7 (ko b x) r).toArray)/\Ext w w'/\hJ b x=0/\mx (ke+1) (k+1) (nv w w') (ko b x,r))\/(∃_:Unit,e = .panicked (gR (hJ b x))/\Ext w w'/\hJ b x≠0):=by
 have ay:=DA x;have az:=v.cap;have aA:=v.max;refine enter Tryz.func139 O 88 O O ?_;refine CE (Vs:=[o,l]) (Ws.init (by simp [Q,P])) (aa ?_);refine WL.box Y O O λH=>?_;refine Al Y O vf λJ=>?_;refine ae (aa (I (Yf mc O) (I (Yd 1 O O O aT) (I (Yb vf RC O O) ?_))));refine Al Y O vf λK=>?_;refine aO 0 Y O O O xK O O O (ae (aa ?_));refine Al Y O a_ λaB=>?_;refine ae ?_;refine WC.wh (ι:=Unit) (λ_u=>[(0,.pointer (some ⟨p,0,none⟩)),(3,.pointer (some ⟨H,0,none⟩)),(4,.pointer (some ⟨J,0,none⟩)),(5,.pointer (some ⟨K,0,none⟩))]) (λ_u=>Ws w [] [aq K (.cells #[.int .i64 (cQ b x.op x.mod x.nm x.args.length).op,.int .i64 (cQ b x.op x.mod x.nm x.args.length).n,.int .i64 (cQ b x.op x.mod x.nm x.args.length).m,.int .i64 (cQ b x.op x.mod x.nm x.args.length).pl,.slice none 0 0,.slice none 0 0,.slice none 0 0] 205 (0,0)),aq J (.cells #[.int .i64 0,.int .i64 0,.int .i64 0,.int .i64 0,.slice none 0 0,.slice none 0 0,.slice none 0 0] 205 (0,0)),aq H (.cells (rh x a c a2 c2 a3 c3).toArray 242 (0,0))] [o,l]) (λ_u=>(cQ b x.op x.mod x.nm x.args.length).e=0) ?_ ?_
 ·refine aa (I (Yf mc O) (I (Yd 3 O O O aT) (ae (Cb (aa (I (bP O O) (ai O (ae ?_))))))));refine Cc O (λy=>?_) (λy=>?_)
  ·have q:x.op=1:=by simpa using y
   refine aa (ad O (I (Yf gn O) (I (Yd 3 O O O cN) (I (Yf uQ O) (I (Yd 3 O O O cN) ?_)))));refine WL.kk Y O BU O _ _ _ _ (λw f=>BQ l p b w (f.vs _ (by simp)) u x.mod x.nm) ?_ ?_
   ·intro _ g;refine Ep (WE.ck (Ep ?_));refine b6 λw' f=>?_
    have i:hJ b x=5:=by rw [bW,BS (by omega) g]; rfl
    rw [i];exact .inr ⟨(),O,f.fr,by decide⟩
   intro ⟨z,A⟩ L;have B:=Rt (len:=x.args.length) L;have aC:=oM L;refine ad O (I (Yx O O) (I (Yx O O) (I (Yf k6 O) (aO 1 Y O O O dP O O O (aO 0 Y O O O jD O O O (ae (aa (I (Yf k6 O) ?_))))))));refine I (Yd 1 O O O aT) (I (b0 O O) (ad O ?_));apply Lo 3 O O O O Y O O O O O
   ·intro aD;refine Vg (Yf th O) (Vg (Yd 0 O O O aT) (Vg (bP O O) ?_));exact Gt 3 O O O
   refine WL.kk (ι:=Unit) (κ:=Unit) Y O pL O (λ_=>.tuple #[]) (λ_=>_=true) (λ_=>gR _) (λ_=>_=false) (λw f=>pM _ _ w) ?_ ?_
   ·intro _ g;refine Ep (WE.ck (Ep ?_));refine b6 λw' f=>?_
    have C:¬(z = -1\/A.kind=2):=by simp at g; omega
    rw [if_neg C] at B
    have i:hJ b x=7:=by rw [bW,q,B]; rfl
    rw [i];exact .inr ⟨(),O,f.fr,by decide⟩
   intro _ U
   have C:z = -1\/A.kind=2:=by
     simp at U;omega
   have j:(cQ b x.op x.mod x.nm x.args.length)=⟨x.op,0,z,A.pl,0⟩:=by rw [q]; rw [B,if_pos C]
   refine ae (Cr (I (Yf jC O) (I (Yd 0 O O O aT) (I (Yf lM O) (aO 1 Y O O O dP O O O (Ln (Eb ?_)))))));refine WE.ln 1 (.cells #[.int .i64 (cQ b x.op x.mod x.nm x.args.length).op,.int .i64 (cQ b x.op x.mod x.nm x.args.length).n,.int .i64 (cQ b x.op x.mod x.nm x.args.length).m,.int .i64 (cQ b x.op x.mod x.nm x.args.length).pl,.slice none 0 0,.slice none 0 0,.slice none 0 0] 205 (0,0)) O (by rw [j]; rfl) ?_
   exact Em () (by rw [j]) (sc O (sc O (sc O (sc O sn)))) (λ_ h=>by
     have h:=h.bR 3 rfl;have h:=h.bR 3 rfl;have h:=h.bR 3 rfl;have h:=Wt 3 h
     exact h)
  have V:¬x.op=1:=by simpa using y
  refine aa (I (bP O O) (ai O (ae ?_)));refine Cc O (λD=>?_) (λD=>?_)
  ·have q:x.op=2:=by simpa using D
   refine aa (ad O (I (Yf gn O) (I (Yd 3 O O O cN) (I (Yf uQ O) (I (Yd 3 O O O cN) ?_)))));refine WL.kk Y O xI O _ _ _ _ (λw f=>xJ l p b w (f.vs _ (by simp)) u x.mod x.nm 3 0) ?_ ?_
   ·intro _ g;refine Ep (WE.ck (Ep ?_));refine b6 λw' f=>?_
    have i:hJ b x=h9 b x.mod x.nm 3 0:=by rw [bW,q,Ru g,bV g]
    rw [i];exact .inr ⟨(),O,f.fr,g⟩
   intro ⟨W,M⟩ ⟨X,Z⟩
   have j:(cQ b x.op x.mod x.nm x.args.length)=⟨x.op,M.n,W,M.pl,0⟩:=by rw [q]; exact Rv X Z
   refine ad O (I (Yx O O) (I (Yx O O) (I (Yf k6 O) (aO 1 Y O O O dP O O O (aO 0 Y O O O jD O O O (ae ?_))))));refine WC.kg 1 [(0,true),(1,true),(2,true),(3,true),(4,true),(5,false),(6,false),(7,false)] mixed (by kernel_rfl) (λ_ _ _ d _ h=>by cases d<;>exact h) ?_;refine D0 O (Wp 1) (Yf jC O) (D0 O (Wp 1) (Yd 0 O O O aT) (D0 O (Wp 1) (Yf lL O) (D0 O (Wp 1) (Yd 0 O O O aT) (D0 O (Wp 1) (Yf lM O) ?_))));refine De O (Wp 1) ?_;refine aO 1 Y O O O dP O O O (Ln (Ed ?_));refine De O (Wp 1) ?_;refine I (Yf pN O) (Ln (Ed ?_));refine De O (Wp 1) ?_;refine aO 1 Y O O O dP O O O (Ln (Ed ?_));refine WD.nil (Wp 1) ?_;refine Eb ?_;refine WE.ln 1 (.cells #[.int .i64 (cQ b x.op x.mod x.nm x.args.length).op,.int .i64 (cQ b x.op x.mod x.nm x.args.length).n,.int .i64 (cQ b x.op x.mod x.nm x.args.length).m,.int .i64 (cQ b x.op x.mod x.nm x.args.length).pl,.slice none 0 0,.slice none 0 0,.slice none 0 0] 205 (0,0)) O (by rw [j]; rfl) ?_
   exact Em () (by rw [j]) (sc O (sc O (sc O (sc O sn)))) (λ_ h=>by
     have h:=h.bR 3 rfl;have h:=h.bR 3 rfl;have h:=h.bR 3 rfl;have h:=Wt 3 h
     exact h)
  have ab:¬x.op=2:=by simpa using D
  refine aa (I (bP O O) (ai O (ae ?_)));refine Cc O (λE=>?_) (λE=>?_)
  ·have q:x.op=3:=by simpa using E
   refine aa (ad O (I (Yf gn O) (I (Yd 3 O O O cN) (I (Yf uQ O) (I (Yd 3 O O O cN) (I (Yf mL O) (I (Yd 3 O O O qw) ?_)))))));refine I (Yn oD O) ?_;refine WL.kk Y O xI O _ _ _ _ (λw f=>xJ l p b w (f.vs _ (by simp)) u x.mod x.nm 4 (x.args.length:Int)) ?_ ?_
   ·intro _ g;refine Ep (WE.ck (Ep ?_));refine b6 λw' f=>?_
    have i:hJ b x=h9 b x.mod x.nm 4 (x.args.length:Int):=by rw [bW,q,Rw g,bV g]
    rw [i];exact .inr ⟨(),O,f.fr,g⟩
   intro ⟨ac,af⟩ ⟨ag,ah⟩
   have j:(cQ b x.op x.mod x.nm x.args.length)=⟨x.op,0,ac,af.pl,0⟩:=by rw [q]; exact Rx ag ah
   refine ad O (I (Yx O O) (I (Yx O O) (I (Yf k6 O) (aO 1 Y O O O dP O O O (aO 0 Y O O O jD O O O (ae (Cr (I (Yf jC O) ?_))))))));refine I (Yd 0 O O O aT) (I (Yf lM O) (aO 1 Y O O O dP O O O (Ln (Eb ?_))));refine WE.ln 1 (.cells #[.int .i64 (cQ b x.op x.mod x.nm x.args.length).op,.int .i64 (cQ b x.op x.mod x.nm x.args.length).n,.int .i64 (cQ b x.op x.mod x.nm x.args.length).m,.int .i64 (cQ b x.op x.mod x.nm x.args.length).pl,.slice none 0 0,.slice none 0 0,.slice none 0 0] 205 (0,0)) O (by rw [j]; rfl) ?_
   exact Em () (by rw [j]) (sc O (sc O (sc O (sc O sn)))) (λ_ h=>by
     have h:=h.bR 3 rfl;have h:=h.bR 3 rfl;have h:=h.bR 3 rfl;have h:=Wt 3 h
     exact h)
  have aj:¬x.op=3:=by simpa using E
  have j:(cQ b x.op x.mod x.nm x.args.length)=⟨x.op,0,0,0,0⟩:=Ig V ab aj;refine Ck (Eb ?_);refine WE.ln 1 (.cells #[.int .i64 (cQ b x.op x.mod x.nm x.args.length).op,.int .i64 (cQ b x.op x.mod x.nm x.args.length).n,.int .i64 (cQ b x.op x.mod x.nm x.args.length).m,.int .i64 (cQ b x.op x.mod x.nm x.args.length).pl,.slice none 0 0,.slice none 0 0,.slice none 0 0] 205 (0,0)) O (by rw [j]; rfl) ?_
  exact Em () (by rw [j]) (sc O (sc O (sc O (sc O sn)))) (λ_ h=>by
    have h:=h.bR 3 rfl;have h:=h.bR 3 rfl;have h:=h.bR 3 rfl;have h:=Wt 3 h
    exact h)
 intro _ t;refine aa (ad O (I (Yf mL O) (I (Yd 2 O O O qw) ?_)));refine WL.p8 (ι:=SP) (κ:=Unit) Y O HV O (λr=>.slice r.1 (fk b x.args).length r.2) (λs r=>gC b x.args=0/\Sl (ig (ke+1)) 5 s r.1 r.2 (fk b x.args)) (λ_=>gR (gC b x.args)) (λ_=>gC b x.args≠0) (λw f=>R o x.args a c w (f.vs _ (by simp)) (f.vs _ (by simp)) v (by omega)) ?_ ?_
 ·intro _ g;refine Ep ?_;refine b6 λw' f=>?_
  have i:hJ b x=gC b x.args:=by rw [bW,t,jK,bV g]
  rw [i];exact .inr ⟨(),O,f.fr,g⟩
 intro aE ak al ⟨F,am⟩;refine I (Yf mh O) (aO 0 Y O O O HW O O O (ae (Cs ?_)));refine WC.kg 0 [(0,true),(1,true),(2,true),(4,true),(5,true),(6,true),(3,false),(8,true),(7,false),(9,false),(10,false),(11,false)] mixed (by kernel_rfl) (λ_ _ _ d _ h=>by cases d<;>exact h) ?_;refine D0 O (Wp 0) (Ym O) (D0 O (Wp 0) (Yf s_ O) (D0 O (Wp 0) (Yd 1 O O O k3) (D0 O (Wp 0) (Ym O) (D0 O (Wp 0) (Yf qx O) (D0 O (Wp 0) (Yd 1 O O O k3) ?_)))));refine De O (Wp 0) ?_;refine WL.p8 (ι:=SP) (κ:=Unit) Y O xL O (λr=>.slice r.1 (dV b x.body).length r.2) (λs r=>eu b x.body=0/\Sl (gW (ke+1) (k+1)) 7 s r.1 r.2 (dV b x.body)) (λ_=>gR (eu b x.body)) (λ_=>eu b x.body≠0) (λw f=>G o x.body a2 c2 w (f.vs _ (by simp)) (f.vs _ (by simp)) S (by omega)) ?_ ?_
 ·intro _ g;refine Ep (Ep ?_);refine b6 λw' f=>?_
  have i:hJ b x=eu b x.body:=by rw [bW,t,jK,F,jK,bV g]
  rw [i];exact .inr ⟨(),O,f.fr,g⟩
 intro aF an ao ⟨N,ap⟩;refine Ln (Ed (D0 O (λ_ h=>(Wv 1 (Wo 0 h):)) (Yf rV O) ?_));refine De O (λ_ h=>(Wv 1 (Wo 0 h):)) ?_;refine WL.p8 (ι:=SP) (κ:=Unit) Y O xL O (λr=>.slice r.1 (dV b x.other).length r.2) (λs r=>eu b x.other=0/\Sl (gW (ke+1) (k+1)) 7 s r.1 r.2 (dV b x.other)) (λ_=>gR (eu b x.other)) (λ_=>eu b x.other≠0) (λw f=>G o x.other a3 c3 w (f.vs _ (by simp)) (f.vs _ (by simp)) T (by omega)) ?_ ?_
 ·intro _ g;refine Ep (Ep ?_);refine b6 λw' f=>?_
  have i:hJ b x=eu b x.other:=by rw [bW,t,jK,F,jK,N,jK]
  rw [i];exact .inr ⟨(),O,f.fr,g⟩
 intro aG ar au ⟨av,aw⟩;refine Ln (Ed ?_);refine De O (λ_ h=>(Wv 2 (Wo 0 h):)) ?_;refine aO 0 Y O O O BV O O O (Ln (Ed ?_));refine De O (λ_ h=>(Wv 2 (Wo 0 h):)) ?_;refine I (Yf pO O) (Ln (Ed ?_));refine De O (λ_ h=>(Wv 2 (Wo 0 h):)) ?_;refine aO 0 Y O O O BV O O O (Ln (Ed ?_));refine WD.nil (λ_ h=>(Wv 2 (Wo 0 h):)) ?_;refine Et (aa (I (b8 0 O O tj O) (aO 1 Y O O O xK O O O (ae (aX ?_)))));refine WE.ee (gL O (dI 1 O O tj O)) λw' f=>?_;rw [iF];exact .inl ⟨⟨ak,an,ar⟩,O,f.fr,by rw [bW,t,F,N,av]; rfl,hX am (cF f (by simp) al),rm ap (cF f (by simp) ao),rm aw (cF f (by simp) au)⟩
theorem HZ (j d:View) (o:Nat) (b:dE) (ke:Nat) (x:pI j o b) (k:Nat) (l:List bl) (a:Option Addr) (c:Nat) (w:World) (F:Le j w) (G:Le d w) (p:Sl (a6 ke k) 6 d a c l) (aB:dC l<=109951162777) :
   Calls Tryz.prog 77 #[.pointer (some ⟨o,0,none⟩),.slice a l.length c] w λe w'=>(∃r:SP,e = .returned (.slice r.1 (dV b l).length r.2)/\Ext w w'/\eu b l=0/\Sl (gW (ke+1) (k+1)) 7 (nv w w') r.1 r.2 (dV b l))\/(∃_:Unit,e = .panicked (gR (eu b l))/\Ext w w'/\eu b l≠0):=by
 induction k using Nat.strongRecOn generalizing d l a c w
 rename_i k H;have aC:=p.cap;have aE:=p.max;have aF:=DE l;refine enter Tryz.func77 O 22 O O ?_;refine CE (Vs:=[d,j]) (Ws.init (by simp [G,F])) (aa (ai O (ae (aa (ai O (LW (λ_ h=>h.e4 205 7) ?_))))));refine WL.v0 ?_;refine ae (Cs (aa (ad O (I (Yn nE O) (ad O (ae (Cb ?_)))))));refine av (ι:=GX XA) (λg=>[(10,.int .i64 (g.i:Int)),(5,.slice g.a g.es.length g.c)]) [(0,_),(4,_),(8,_),(9,_)] (λg=>Ws w [] [cf 205 7 XA.cells g.a g.c g.es] [g.J,d,j]) (λg=>g.i<=l.length/\g.es.map (·.1)=(l.take g.i).map (ko b)/\aD (hJ b) (l.take g.i)=0/\(eW w g.J/\Xs (mx (ke+1) k) g.J g.es)) (λg=>l.length-g.i) ⟨0,[],none,0,v0⟩ ⟨Nat.zero_le _,O,O,⟨lW w,Xs.nil _⟩⟩ (sc O (sc O (sc O (sc O (sc O (sc O sn)))))) (λ_ h=>by have h:=Ws.cv h (ah:=[v0,d,j]) (by simp); exact h) ?_;intro g ⟨hi,s,t,⟨z,A⟩⟩;refine aa (I (b0 O O) (ae (Cs ?_)));refine Cc O (λu=>?_) (λu=>?_)
 ·have K:g.i<l.length:=by simpa using u
  obtain ⟨y,n⟩:∃q,l[g.i]? = some q:=⟨_,List.getElem?_eq_getElem K⟩;obtain ⟨aG,aH,L,B⟩:=p.bJ g.i y n
  obtain ⟨m,rfl⟩:∃m,k=m+1:=by
    cases k with
    | zero=>exact B.elim
    | succ m=>exact ⟨m,rfl⟩
  obtain ⟨M,N,P,Q,S,T,U,V,W,X⟩:=B;have aI:=vd s hi;refine bf (Cs (Cb (aa (I (Yo nE O O L (by omega)) (I (dj 1 iK O O O (U)) ?_)))));refine Al Y O py λaJ=>?_;refine aO 0 Y O O O nF O O O (ae (Cr (ad O (ad O (I (b8 0 O O iK O) ?_)))));refine WL.p8 (ι:=rl) (κ:=Unit) Y O RD O (λr=>.agg (o7 (ko b y) r).toArray) (λZ r=>hJ b y=0/\mx (ke+1) (m+1) Z (ko b y,r)) (λ_=>gR (hJ b y)) (λ_=>hJ b y≠0) (λw f=>RG j d o b ke m y M N P Q S T w (f.vs _ (by simp)) (f.vs _ (by simp)) x (RF j o b x ke) (λd l a c w ab ac af ag=>H m (by omega) d l a c w ab ac af ag) V W X (by have:=DC n; omega)) ?_ ?_
  ·intro _ C;refine WE.ck (Ep (Ep (WE.ck (Ep ?_))));refine b6 λw' f=>?_
   have ak:eu b l=hJ b y:=by rw [zw,sB (hJ b) n t C]
   rw [ak];exact .inr ⟨(),O,f.fr,C⟩
  intro aK v al ⟨am,an⟩;refine WL.hE λao ap aq ar=>?_;refine Lb Y O HY O O O O λaL=>?_;refine cD 0 (.cells (XA.cells (ko b y,v)).toArray 205 (0,0)) O (O) ?_;refine LA (((ko b y,v):XA)) 2 0 Y O HY O O O O O O (by omega) (by omega) λau aw=>?_;refine ai O (Ln (Eb (Et (Cr (I (Yi O O O (by omega)) (ad O (Ln ?_)))))));exact Ea (⟨g.i+1,g.es++[(ko b y,v)],au,aw,ao⟩:GX XA) (by show _-(g.i+1)<_; omega) ⟨(by show g.i+1<=_; omega),hq s n O,by show aD (hJ b) (l.take (g.i+1))=0; rw [zu (hJ b) n,t,jK,am],⟨ar _ al z,Xs.snoc (R:=mx _ _) (λhv h=>mx.mv hv h) A aq ap an⟩⟩ (sc O (sc O (sc O (sc O (sc O (sc O sn)))))) (λ_ h=>Wd 2 h)
 have D:g.i=l.length:=by simp at u; omega
 refine Ce (Ex (Ex (cp (Et (Cs ?_)))));refine WC.ll (rd:=DV) 0 O (λ_ ax=>by cases ax) XA.aj (λ_ _ _ _ h=>h) λaM ay az=>?_;refine Cr (ad O (ai O (ae (aX ?_))));refine R1 O O λw' f=>?_
 have aA:eu b l=0:=by rw [zw,<-t,D,List.take_length]
 have E:=ve s D;rw [<-bX] at E;rw [<-E];exact .inl ⟨(g.a,g.c),by rw [List.length_map],f.fr,aA,LY az (cF f (by simp) ay) (cF f (by simp) z) A⟩
def H0 (a:View) (b o:Nat) (e:SP×List Tx):Prop:=vc a b o=some (.slice e.1.1 e.2.length e.1.2)/\Sl rdStr 1 a e.1.1 e.1.2 e.2
def kE (a:List ((Option Addr×Nat)×List Tx)):Nat:=(a.map (·.2.length)).sum
theorem H2 {a:List ((Option Addr×Nat)×List Tx)} {i:Nat} {x:(Option Addr×Nat)×List Tx} (h:a[i]? = some x):kE (a.take (i+1))=kE (a.take i)+x.2.length:=by
 simp [kE,List.take_add_one,h]
theorem H3 (a:List ((Option Addr×Nat)×List Tx)) (i:Nat):kE (a.take i)<=kE a:=by
 have e:kE a=kE (a.take i)+kE (a.drop i):=by
   unfold kE;rw [<-List.sum_append,<-List.map_append,List.take_append_drop]
 omega
theorem H4 (a:List ((Option Addr×Nat)×List Tx)):(a.flatMap (·.2)).length=kE a:=by simp [kE,List.length_flatMap]
theorem xM:eO Tryz.prog 238=some 1:=by kernel_rfl
theorem RH:Enters Tryz.prog 138:=enters_of Tryz.func138 (by kernel_rfl) rfl
theorem H5:dk Tryz.prog 139=some 1:=by kernel_rfl
theorem xN:aK Tryz.prog 40=some [(0,1),(1,1),(2,1),(3,1),(4,1)]:=by kernel_rfl
theorem kF:zeroOf Tryz.prog 40=some (.agg #[st [],.slice none 0 0,.int .i64 0,.slice none 0 0,.slice none 0 0]):=by kernel_rfl
theorem RI:an Tryz.prog 139 0=some 0:=by kernel_rfl
theorem kG:dk Tryz.prog 40=some 5:=by kernel_rfl
theorem H6 (f:View) (a:Option Addr) (c:Nat) (l:List Tx) (w:World) (j:Le f w) (g:Sl rdStr 1 f a c l) (p:l.length<=1048576) :
   Calls Tryz.prog 75 #[.slice a l.length c] w λe w'=>∃r:SP,e = .returned (.slice r.1 l.length r.2)/\Ext w w'/\Sl rdStr 1 (nv w w') r.1 r.2 l:=by
 have q:=g.cap;have s:=g.max;refine enter Tryz.func75 O 8 O O ?_;refine CE (Vs:=[f]) (Ws.init (by simp [j])) (aa (ai O (ae (Cs (aa (ad O (I (Kv di O) (ae ?_))))))));refine Cc O (λi=>?_) (λi=>?_)
 ·have k:l=[]:=by
    cases l with
    | nil=>rfl
    | cons x r=>obtain ⟨b,o,h,_⟩:=g.bJ 0 x rfl; rw [h] at i; cases i
  refine aa (ai O (ae (aX (Er ?_))));refine R1 O O λw' d=>?_;subst k;exact ⟨(none,0),O,d.fr,Sl.nil⟩
 refine bf (aa ?_);refine WL.CN Y O dT O O O λt=>?_;refine WL.CP (size:=1) 0 O (Nat.le_refl 0) (Nat.zero_le _) O ?_;refine WL.vZ 0 ([]:List Tx).length (([]:List Tx).flatMap dD) O O O ?_;refine ad O ?_;refine WL.tQ (ys:=l) (xs:=[]) 0 (λ_=>f) Y O dT O O O (λw d=>⟨d.vs f (by simp),g⟩) (λ_ _ _ _ h=>h) iA Hu (by simp; omega) (by simp; omega) λm n=>?_;refine ai O (ae (aX ?_));refine R1 O O λw' d=>?_;exact ⟨(m,n),O,d.fr,d.jg 0 O iA (λ_ _ _ _ h=>h)⟩
theorem RJ (m:Nat) (w:World) (j:m<=1048576) :
   Calls Tryz.prog 138 #[.slice none 0 0,.int .i64 (m:Int)] w λe w'=>∃r:SP,e = .returned (.slice r.1 ([]:List Tx).length r.2)/\Ws w [] [cf 9 1 dD r.1 r.2 ([]:List Tx)] [] w':=by
 refine enter Tryz.func138 O 27 O O ?_;refine CE (Vs:=[]) (Ws.init (by simp)) (aa (ai O (ae (Cs (aa (ad O (I (b0 O O) (ae ?_))))))));refine Cc O (λb=>?_) (λb=>?_)
 ·exfalso
  simp at b;omega
 refine bf (Cs (aa (ad O (ad O (I (Dc di O) (ad O (I (Yn di O) (I (nU 0 O O (by simp) (by omega)) (I (nU (m:Int) O O (by simp) (by omega)) ?_)))))))));refine ai O (ae (aa (ad O (I (dc O O) (ae ?_)))));refine Cc O (λc=>?_) (λc=>?_)
 ·have f:0<m:=by simp at c; omega
  refine Cr (ad O (ad O (I (Dc di O) (I (C4 0 di O (by simp) O O (Nat.zero_le _)) (ad O ?_)))));refine WL.K6 m Y O dT gZ O O f (by unfold maxLen; omega) (by omega) λg d k l h i=>?_;refine WL.CP (m:=0) (cap:=d) (size:=1) 0 O (Nat.zero_le _) h (by rw [i,Nat.mul_one]) ?_;refine WL.vZ 0 ([]:List Tx).length (([]:List Tx).flatMap dD) O O (by simp) ?_;refine ad O (I (Yn di O) (I (C4 ([]:List Tx).length di O (by simp) O O (Nat.zero_le _)) (ai O (ae (aa (ad O (ai O (ae (aX ?_)))))))));refine R1 O O λw' a=>?_;exact ⟨(some ⟨g,0,none⟩,d),O,a⟩
 refine bf (aa (ad O (ai O (ae (aX ?_)))));refine R1 O O λw' a=>?_;exact ⟨(none,0),O,a.e4 9 1⟩
theorem RL (f:View) (a:Option Addr) (c:Nat) (d:List (SP×List Tx)) (w:World) (z:Le f w) (l:Sl H0 1 f a c d) (A:kE d<=1048576) (H:d.length<=1048576) :
   Calls Tryz.prog 76 #[.slice a d.length c] w λe w'=>∃r:SP,e = .returned (.slice r.1 (d.flatMap (·.2)).length r.2)/\Ext w w'/\Sl rdStr 1 (nv w w') r.1 r.2 (d.flatMap (·.2)):=by
 have J:=l.cap;have K:=l.max;refine enter Tryz.func76 O 36 O O ?_;refine CE (Vs:=[f]) (Ws.init (by simp [z])) (aa (ai O (ae (aa (ai O (ae (Cs (aa (ad O (I (Yn xM O) ?_))))))))));refine ad O (ae (Cb ?_));refine CW (ι:=Nat) (λi=>[(11,.int .i64 (i:Int)),(3,.int .i64 (kE (d.take i):Int))]) [(0,_),(2,_),(9,_),(10,_)] (λi=>i<=d.length) (λi=>d.length-i) 0 (Nat.zero_le _) (sc O (sc O (sc O (sc O (sc O (sc O sn)))))) ?_;intro i hi;refine aa (I (b0 O O) (ae (Cs ?_)));refine Cc O (λn=>?_) (λn=>?_)
 ·have o:i<d.length:=by simpa using n
  obtain ⟨x,j⟩:∃x,d[i]? = some x:=⟨_,List.getElem?_eq_getElem o⟩;obtain ⟨pb,B,p,q,t⟩:=l.bJ i x j;have u:=H2 j;have C:=H3 d (i+1);refine bf (Cs (Cb (aa (I (Yo xM O O p (by omega)) (I (b9 0 eU O O (q)) (ai O (ae (aa (ad O (ad O (I (Yn di O) ?_)))))))))));refine I (vY (a:=kE (d.take i)) (b:=x.2.length) O O O O (by omega)) (ai O (ae (aa (ad O (I (b0 O O) (ae ?_))))));refine Cc O (λv=>?_) (λv=>?_)
  ·exfalso
   simp at v;omega
  refine Ck (Eb (Et (Cr (I (Yi O O O (by omega)) (ad O (Ln ?_))))));rw [<-u];exact Ea (i+1) (by omega) (by omega) (sc O (sc O (sc O (sc O (sc O (sc O sn)))))) (λ_ h=>h)
 have m:i=d.length:=by simp at n; omega
 subst m;rw [List.take_length];refine Ce (Ex (Ex (cp (Et (aa (ad O ?_))))));refine Lw (ι:=SP) [] _ Y O RH O O (λr=>.slice r.1 ([]:List Tx).length r.2) (λr=>[cf 9 1 dD r.1 r.2 ([]:List Tx)]) (λ_=>True) [] (by simp) (λw k=>(RJ (kE d) w A).mono λe w' ⟨r,D,E⟩=>⟨r,D,trivial,E⟩) ?_;intro y _;refine ai O (ae (Cs (aa (ad O (I (Yn xM O) (ad O (ae (Cb ?_))))))));refine av (ι:=Nat×Option Addr×Nat) (λg=>[(27,.int .i64 (g.1:Int)),(6,.slice g.2.1 ((d.take g.1).flatMap (·.2)).length g.2.2)]) [(2,_),(25,_),(26,_)] (λg=>Ws w [] [cf 9 1 dD g.2.1 g.2.2 ((d.take g.1).flatMap (·.2))] [f]) (λg=>g.1<=d.length) (λg=>d.length-g.1) (0,y.1,y.2) (Nat.zero_le _) (sc O (sc O (sc O (sc O (sc O sn))))) (λ_ h=>h) ?_;intro g hi;refine aa (I (b0 O O) (ae (Cs ?_)));refine Cc O (λs=>?_) (λs=>?_)
 ·have o:g.1<d.length:=by simpa using s
  obtain ⟨x,j⟩:∃x,d[g.1]? = some x:=⟨_,List.getElem?_eq_getElem o⟩;obtain ⟨pb,B,p,q,t⟩:=l.bJ g.1 x j;have u:=H2 j;have C:=H3 d (g.1+1);refine bf (Cs (Cb (aa (I (Yo xM O O p (by omega)) (I (b9 0 eU O O (q)) (ai O (ae (Cr (ad O (ad O ?_))))))))));refine WL.tQ (xs:=(d.take g.1).flatMap (·.2)) (ys:=x.2) 0 (λ_=>f) Y O dT O O O (λw k=>⟨k.vs f (by simp),t⟩) (λ_ _ _ _ h=>h) iA Hu (by rw [H4]; omega) (by rw [H4]; omega) λF G=>?_;rw [show ((d.take g.1).flatMap (·.2))++x.2=(d.take (g.1+1)).flatMap (·.2) by rw [List.take_add_one,j]; simp];refine ai O (Ln (Eb (Et (Cr (I (Yi O O O (by omega)) (ad O (Ln ?_)))))));exact Ea ((g.1+1,F,G):Nat×Option Addr×Nat) (by first | omega | (dsimp only; omega)) (by first | omega | (dsimp only; omega)) (sc O (sc O (sc O (sc O (sc O sn))))) (λ_ h=>h)
 have m:g.1=d.length:=by simp at s; omega
 refine Ce (Ex (Ex (cp (Et (aa (ad O (ai O (ae (aX ?_)))))))));refine R1 O O λw' k=>?_;rw [m,List.take_length] at k;rw [m,List.take_length];exact ⟨(g.2.1,g.2.2),O,k.fr,k.jg 0 O iA (λ_ _ _ _ h=>h)⟩
theorem RM (a b:Nat) (c:List Value) (h:c.length=5) (d i:Int) (w:World) (f:Ws w (List.flatMap aS.ids [aq a (.cells c.toArray 40 (0,0)),aq b (.cells #[.int .i64 d] 23 (0,0))]) [aq a (.cells c.toArray 40 (0,0)),aq b (.cells #[.int .i64 d] 23 (0,0))] [] w) :
   CallsD Tryz.prog 72 #[.pointer (some ⟨a,0,none⟩),.pointer (some ⟨b,0,none⟩)] (.returning) w λe g w'=>g = .returning/\(e = .returned (.tuple #[])/\Ws w (List.flatMap aS.ids [aq a (.cells c.toArray 40 (0,0)),aq b (.cells #[.int .i64 d] 23 (0,0))]) [aq a (.cells c.toArray 40 (0,0)),aq b (.cells #[.int .i64 d] 23 (0,0))] [] w'):=by
 refine sh Tryz.func72 O 18 O O O O O (λ_=>rfl) (.inl ⟨O,O,O⟩) ?_;refine LW (W':=Ws w (List.flatMap aS.ids [aq a (.cells c.toArray 40 (0,0)),aq b (.cells #[.int .i64 d] 23 (0,0))]) [aq a (.cells c.toArray 40 (0,0)),aq b (.cells #[.int .i64 d] 23 (0,0))] []) (λ_ e=>by subst e; exact f) (ai O (ae (aa (ad O (I (Lz Tryz.underlying139 xG O) (ad O (I (Yx O O) (I (Yx O O) ?_))))))));refine Al Y O xG λj=>?_;refine aO 0 Y O O O H5 O O O (ai O (ae (aa (ad O (ae ?_)))));refine WC.kc O ?_;refine aa (ad O (I (yQ u1 O) (ae ?_)));refine WC.kc O ?_;refine Ck ?_;refine E0 O λw' f=>?_;exact ⟨O,Wd 1 f⟩
theorem xO (a b:Nat) (c:List Value) (j:c.length=5) (f g:Int) (w:World) (i:Ws w (List.flatMap aS.ids [aq a (.cells c.toArray 40 (0,0)),aq b (.cells #[.int .i64 f] 23 (0,0))]) [aq a (.cells c.toArray 40 (0,0)),aq b (.cells #[.int .i64 f] 23 (0,0))] [] w) :
   CallsD Tryz.prog 72 #[.pointer (some ⟨a,0,none⟩),.pointer (some ⟨b,0,none⟩)] (.panicking (gR g)) w λe k w'=>k = .panicking [⟨.iface 139 (.agg #[.int .i64 g]),true,false⟩]/\(e = .returned (.tuple #[])/\Ws w (List.flatMap aS.ids [aq a (.cells c.toArray 40 (0,0)),aq b (.cells #[.int .i64 f] 23 (0,0))]) [aq a (.cells (eE ie j4).toArray 40 (0,0)),aq b (.cells #[.int .i64 g] 23 (0,0))] [] w'):=by
 refine sh Tryz.func72 O 18 O O O O O (λ_=>rfl) (.inr ⟨_,O,O,O⟩) ?_;refine LW (W':=Ws w (List.flatMap aS.ids [aq a (.cells c.toArray 40 (0,0)),aq b (.cells #[.int .i64 f] 23 (0,0))]) [aq a (.cells c.toArray 40 (0,0)),aq b (.cells #[.int .i64 f] 23 (0,0))] []) (λ_ e=>by subst e; exact i) (ai O (ae (aa (ad O (I (Ly Tryz.underlying139 O) (ad O (I (Yx O O) (I (Yx O O) ?_))))))));refine Al Y O xG λl=>?_;refine aO 0 Y O O O H5 O O O (ai O (ae (aa (ad O (ae ?_)))));refine WC.yv O ?_;refine WC.tO (λ_=>true) [1,1] [(0,true),(1,true),(2,true),(3,false),(4,false)] mixed (by kernel_rfl) (by kernel_rfl) (λ_ _ _ d _ _ h=>by cases d<;>exact h) ?_;refine D0 O (cK [1,1]) (Yb kF xN O O) (D0 O (cK [1,1]) (Yf RI O) (D0 O (cK [1,1]) (Yd 0 O O O lK) ?_));refine De O (cK [1,1]) ?_;refine WL.mH 1 (.cells (eE ie j4).toArray 40 (0,0)) Y O O O kG O O (by simp [o0,j]) (by simp [oZ,eB,eE,ie,j4,j,List.drop_eq_nil_of_le]) ?_;refine Ln (Ed ?_);refine De O (cK [1,1]) ?_;refine aO 2 Y O O O qB O O O (Ln (Ed ?_));refine WD.nil (cK [1,1]) ?_;refine E0 O λw' i=>?_;exact ⟨O,Wd 1 i⟩
def oN (f:List UInt8×List bs) (r:SP):List Value:=[st f.1,.slice r.1 f.2.length r.2]
def pP (a:View) (b o:Nat) (f:List UInt8×List bs):Prop:=∃r:SP,bI a b o (oN f r)/\Sl gV 4 a r.1 r.2 f.2
abbrev XM:=List bs×Nat
def XM.cells (e:XM):List Value:=[.map (some e.2)]
theorem XM.aj (e:XM):(XM.cells e).length=1:=rfl
def JG (a:View) (b o:Nat) (e:XM):Prop:=bI a b o (XM.cells e)
def dy (J:View) (e:XM):Prop:=J e.2=some (b4 st (hl e.1 0) e.1.length)
theorem dy.mv {a B:View} {e:XM} (hv:bw a B) (h:dy a e):dy B e:=hv _ _ h
def qF (u:List UInt8) (f:List UInt8×List bs):Bool:=(hG f.1 f.2==0)&&(f.1==u)
theorem BW:∀{us:List (List UInt8)} {fs:List (List UInt8×List bs)},lq us fs=true↔∀(k:Nat) u f,us[k]? = some u->fs[k]? = some f->qF u f=true
 | [],fs=>by simp [lq]
 | u::us,[]=>by simp [lq]
 | u::us,f::fs=>by
   have e:=BW (us:=us) (fs:=fs);simp only [lq,Bool.and_eq_true]
   constructor
   · rintro ⟨g,i⟩ k c d a b
     cases k with
     | zero=>simp at a b; subst a; subst b; simp only [qF,Bool.and_eq_true]; exact g
     | succ k=>exact e.1 i k c d (by simpa using a) (by simpa using b)
   · intro h
     refine ⟨by have:=h 0 u f O O; simp only [qF,Bool.and_eq_true] at this; exact this,e.2 λk c d a b=>h (k+1) c d (by simpa using a) (by simpa using b)⟩
theorem RO {n:List UInt8} {l:List bs} (h:hG n l=0):(l.map (·.name)).Nodup/\l.length<=16:=by
 unfold hG at h
 split at h
 · cases h
 · split at h
   · rename_i b a
     simp only [Bool.and_eq_true,Bool.not_eq_true',Bool.or_eq_false_iff] at a;exact ⟨hF.2 a.2.1,by omega⟩
   · cases h
theorem RP {m:aZ} {fs:List (List UInt8×List bs)} (h:¬(ao m).2=0):cx m fs=(ie,(ao m).2):=by rw [cx,if_pos h]
theorem RQ {m:aZ} {fs:List (List UInt8×List bs)} (h:(ao m).2=0) (a:¬fs.length=m.ak.length):cx m fs=(ie,8):=by rw [cx,if_neg (by simp [h]),if_pos a]
theorem RR {m:aZ} {fs:List (List UInt8×List bs)} (h:(ao m).2=0) (a:fs.length=m.ak.length) (b:lq m.ak fs=false):cx m fs=(ie,1):=by rw [cx,if_neg (by simp [h]),if_neg (by simp [a]),if_pos b]
theorem BX {m:aZ} {fs:List (List UInt8×List bs)} (h:(ao m).2=0) (a:fs.length=m.ak.length) (b:lq m.ak fs=true) (c:j5 m fs≠0):cx m fs=(ie,j5 m fs):=by rw [cx,if_neg (by simp [h]),if_neg (by simp [a]),if_neg (by simp [b]),if_pos c]
theorem RS {m:aZ} {fs:List (List UInt8×List bs)} (h:(ao m).2=0) (a:fs.length=m.ak.length) (b:lq m.ak fs=true) (c:j5 m fs=0):cx m fs=(c' m fs,0):=by rw [cx,if_neg (by simp [h]),if_neg (by simp [a]),if_neg (by simp [b]),if_neg (by simp [c])]
theorem RT {m:aZ} (h:(ao m).2=0):fH m=0/\et ((ef m).map (·.name))=false/\et m.ak=false:=by
 by_cases a:fH m=0
 · by_cases b:(et ((ef m).map (·.name))||et m.ak)=true
   · rw [HF a b] at h; cases h
   · rw [Bool.not_eq_true,Bool.or_eq_false_iff] at b
     exact ⟨a,b⟩
 · rw [HE a] at h; exact absurd h a
theorem H7 {l:List (List UInt8)} {k:Nat} {x:List UInt8} (a:l[k]? = some x) (c:x ∉ l.take k):b4 st (dZ x (.int .i64 ((k+1:Nat):Int)) (fQ (l.take k) 0) k) (gA x (fQ (l.take k) 0) k)=b4 st (fQ (l.take (k+1)) 0) (k+1):=by
 have d:=(List.getElem?_eq_some_iff.1 a).1
 have b:(l.take k).length=k:=by simp; omega
 have h:=D4 c;rw [b] at h;rw [h.1,h.2,a' a];simp [b]
theorem RU {l:List (List UInt8)} (h:l.Nodup) {k:Nat} {x:List UInt8} (b:l[k]? = some x):x ∉ l.take k:=by
 intro c;obtain ⟨j,a⟩:=List.getElem?_of_mem c
 have d:j<k:=by have:=(List.getElem?_eq_some_iff.1 a).1; simp at this; omega
 rw [List.getElem?_take,if_pos d] at a;have e:=(List.getElem?_eq_some_iff.1 a).1;have:=(List.getElem?_inj e h).1 (a.trans b.symm);omega
theorem RV {nm:List UInt8} {l:List (List UInt8)} (h:(kB nm l==0)=true):nm ∉ l:=by
 have:¬0<kB nm l:=by simp at h; omega
 exact n4.1 (BM this)
theorem RW {l:List (List UInt8)} {k:Nat} {x:List UInt8} (b:l[k]? = some x) (h:(kB x (l.take k)==0)=false):et l=true:=by
 have a:¬kB x (l.take k)=0:=by simpa using h
 have e:0<kB x (l.take k):=by
   unfold kB at a ⊢
   cases hi:idxOf x (l.take k) 0 with
   | none=>rw [hi] at a; exact absurd rfl a
   | some j=>simp only; omega
 obtain ⟨j,f,_,g⟩:=BL e;have c:=(qc f).2
 have d:j<k:=by simp at g; omega
 rw [Nat.sub_zero,List.getElem?_take,if_pos d] at c;exact zk.2 ⟨k,j,(List.getElem?_eq_some_iff.1 b).1,d,by rw [b,c]⟩
theorem RX {l:List (List UInt8)} {k:Nat} {x:List UInt8} (d:l[k]? = some x) (f:x ∉ l.take k) (h:(l.take k).Nodup):(l.take (k+1)).Nodup:=by
 rw [a' d,List.nodup_append];exact ⟨h,by simp,λa g b c=>by rw [List.mem_singleton] at c; subst c; intro e; subst e; exact f g⟩
theorem H8 {m:aZ} {fs:List (List UInt8×List bs)} {p:dA} (h:et (p.params++p.ay)=true):my m fs p=6:=by rw [my,if_pos h]; rfl
theorem BY {m:aZ} {fs:List (List UInt8×List bs)} {p:dA} (h:et (p.params++p.ay)=false):my m fs p=eu (bT m fs (p.params++p.ay)) p.body:=by rw [my,if_neg (by simp [h])]; rfl
structure GP where
 i:Nat
 es:List XP
 a:Option Addr
 c:Nat
 J:View
 lb:Value
def dH (m:aZ) (c:SP) (n:Nat) (p:SP):List Value:=[st m.nm,.slice c.1 m.ak.length c.2,.int .i64 (j3 m),.slice p.1 n p.2,.slice none 0 0]
theorem BZ:Enters Tryz.prog 24:=enters_of Tryz.func24 (by kernel_rfl) rfl
theorem gh:f' Tryz.prog 40=some 5:=by kernel_rfl
theorem B0:eO Tryz.prog 62=some 2:=by kernel_rfl
theorem H':Enters Tryz.prog 73:=enters_of Tryz.func73 (by kernel_rfl) rfl
theorem RY:aK Tryz.prog 147=some [(0,1),(1,1),(2,1),(3,1)]:=by kernel_rfl
theorem RZ:zeroOf Tryz.prog 147=some (.agg #[.map none,.map none,.slice none 0 0,.map none]):=by kernel_rfl
theorem B1:Enters Tryz.prog 68:=enters_of Tryz.func68 (by kernel_rfl) rfl
theorem vg:Enters Tryz.prog 72:=enters_of Tryz.func72 (by kernel_rfl) rfl
theorem H_:aE Tryz.prog 145 143 (.map none) 1 8:=hV (by kernel_rfl)
theorem R0:dk Tryz.prog 145=some 1:=by kernel_rfl
theorem Ia:Enters Tryz.prog 75:=enters_of Tryz.func75 (by kernel_rfl) rfl
theorem Ib:dk Tryz.prog 123=some 1:=by kernel_rfl
theorem Kj:aE Tryz.prog 238 22 (.slice none 0 0) 1 24:=hV (by kernel_rfl)
theorem R2:Enters Tryz.prog 76:=enters_of Tryz.func76 (by kernel_rfl) rfl
theorem k8:an Tryz.prog 40 3=some 3:=by kernel_rfl
theorem lN:eG Tryz.prog 37=true:=by kernel_rfl
theorem Ic:aK Tryz.prog 89=some [(0,1),(1,1),(2,1)]:=by kernel_rfl
theorem vh:zeroOf Tryz.prog 89=some (.agg #[.int .i64 0,.int .i64 0,.slice none 0 0]):=by kernel_rfl
theorem Ie:aE Tryz.prog 37 89 (.agg #[.int .i64 0,.int .i64 0,.slice none 0 0]) 3 40:=hV (by kernel_rfl)
theorem R3:dk Tryz.prog 37=some 1:=by kernel_rfl
theorem vi:an Tryz.prog 40 4=some 4:=by kernel_rfl
theorem rW (n y:View) (ke ks:Nat) (r:ic) (m:aZ) (fa:Option Addr) (a8:Nat) (fs:List (List UInt8×List bs)) (w:World) (br:Le n w) (bt:Le y w) (z:iB ke ks n r m) (au:Sl pP 2 y fa a8 fs) (bu:wM m<=109951162777) :
   Calls Tryz.prog 25 #[.agg (fu m r).toArray,.slice fa fs.length a8] w λe w'=>∃r:ih,e = .returned (.tuple #[.agg (eE (cx m fs).1 r).toArray,.int .i64 (cx m fs).2])/\Ext w w'/\hI (ke+1) (ks+1) (nv w w') r (cx m fs).1:=by
 have cP:=au.cap;have cQ:=au.max;refine yN Tryz.func25 O 159 O O ?_;refine CE (Vs:=[y,n]) (Ws.init (by simp [bt,br])) (aa ?_);refine WL.box Y O O λaw=>?_;refine Al Y O kF λt=>?_;refine cD 0 (.cells (eE ie j4).toArray 40 (0,0)) O O ?_;refine Al Y O Hs λv=>?_;refine cD 0 (.cells #[.int .i64 0] 23 (0,0)) O O (ae (Cs (aa (I (b8 2 O O hQ O) ?_))));refine Ld Y O BZ O (λr:SP=>.tuple #[.agg #[st (ao m).1.1,.slice r.1 (ao m).1.2.length r.2],.int .i64 (ao m).2]) (λn r=>Sl gV 4 n r.1 r.2 (ao m).1.2) (λw d=>BH n ke ks r m w (d.vs _ (by simp)) z bu) ?_;intro cS cT cU cV;refine ad O (I (Yx O O) (I (Yx O O) ?_));refine Al Y O iL λcW=>?_;refine aO 0 Y O O O jX O O O (ai O (ae (aa (ad O (I (e8 O O) (ae ?_))))));refine Cc O (λax=>?_) (λax=>?_)
 ·have B:¬(ao m).2=0:=by simpa using ax
  refine aa (I (Yb kF xN O O) (ad O (aO 2 Y O O O kG O O O (aO 1 Y O O O qB O O O (ae (aX (Er ?_)))))));refine WE.yP (fj O (dI 2 O O gh O) (lQ 1 O O O lK)) λw' d=>?_;rw [RP B];exact ⟨j4,O,d.fr,sy _⟩
 have B:(ao m).2=0:=by simpa using ax
 obtain ⟨bv,az,P⟩:=RT B;have Q:=BF bv;have az:=hF.2 az;have P:=hF.2 P;have d':=Q.d';have cX:=z.ak.max;have cY:=z.ak.cap;have cZ:=z.procs.max;have c0:=z.procs.cap;have c2:wM m=1+m.nm.length+wN m.ak+wD m.decls+wP m.procs+dC m.main:=rfl;refine bf (Cs (aa (ad O (I (Yn B0 O) (I (Yf nH O) (I (Yd 3 O O O eU) (I (Yn di O) (I (e8 O O) (ae ?_)))))))));refine Cc O (λaA=>?_) (λaA=>?_)
 ·have bx:¬fs.length=m.ak.length:=by simp at aA; omega
  refine aa (I (Yb kF xN O O) (aO 2 Y O O O kG O O O (aO 1 Y O O O qB O O O (ae (aX (Er ?_))))));refine WE.yP (fj O (dI 2 O O gh O) (lQ 1 O O O lK)) λw' d=>?_;rw [RQ B bx];exact ⟨j4,O,d.fr,sy _⟩
 have C:fs.length=m.ak.length:=by simp at aA; omega
 refine bf (aa (I (cn O) ?_));refine WL.defer Y O ?_;refine ae (aa (I (b8 3 O O hQ O) ?_));refine Ld Y O HG O (λr:SP=>.tuple #[.slice r.1 (ef m).length r.2,.int .i64 (j3 m)]) (λn r=>Sl gV 4 n r.1 r.2 (ef m)) (λw d=>HD n ke ks r m w (d.vs _ (by simp)) z Q) ?_;intro bz a9 c3 bA;refine ad O (I (Yx O O) (I (Yx O O) (ai O (ai O (ae (aa (ad O ?_)))))));refine Ld Y O H' O (λb:Nat=>.map (some b)) (λn b=>n b=some (b4 st (hl (ef m) 0) (ef m).length)) (λw d=>HJ bz a9.1 a9.2 (ef m) w (d.vs _ (by simp)) bA az) ?_;intro L S c5 a';refine WL.lh st Y O λG=>?_;refine cD 0 (b4 st (fQ (m.ak.take 0) 0) 0) O O (I (Yb RZ RY O O) ?_);refine WL.box Y O O λD=>?_;refine LW (λ_ h=>h.e4 143 1) ?_;refine WL.v0 ?_;refine ai O (ae (Cs (aa (ad O (I (Yn B0 O) (ad O (ae (Cb ?_))))))));refine av (ι:=GX XM) (λg=>[(46,.int .i64 (g.i:Int))]) [(2,_),(4,_),(5,_),(9,_),(10,_),(44,_),(45,_)] (λg=>Ws w [] [aq D (.cells #[.map (some S),.map (some G),.slice g.a g.es.length g.c,.map none] 147 (0,0)),aq G (b4 st (fQ (m.ak.take g.i) 0) g.i),cf 143 1 XM.cells g.a g.c g.es,aq v (.cells #[.int .i64 0] 23 (0,0)),aq t (.cells (eE ie j4).toArray 40 (0,0)),aq aw (.cells (fu m r).toArray 50 (0,0))] [g.J,L,y,n]) (λg=>g.i<=fs.length/\g.es.map (·.1)=(fs.take g.i).map (·.2)/\(∀(k:Nat) u f,k<g.i->m.ak[k]? = some u->fs[k]? = some f->qF u f=true)/\(eW w g.J/\Xs dy g.J g.es)) (λg=>fs.length-g.i) ⟨0,[],none,0,v0⟩ ⟨Nat.zero_le _,O,λk u f T=>absurd T (Nat.not_lt_zero k),⟨lW w,Xs.nil _⟩⟩ (sc O (sc O (sc O (sc O (sc O (sc O (sc O (sc O sn)))))))) (λ_ h=>by have h:=h.bR 6 O; have h:=h.bR 6 O; have h:=h.bR 6 O; have h:=h.bR 3 O; have h:=h.bR 5 O; have h:=h.bR 5 O; have h:=Wt 6 h; have h:=Ws.cv h (ah:=[v0,L,y,n]) (by simp); exact h) ?_;intro g ⟨hi,aB,a_,⟨bD,aC⟩⟩;refine aa (I (b0 O O) (ae (Cs ?_)));refine Cc O (λaE=>?_) (λaE=>?_)
 ·have U:g.i<fs.length:=by simpa using aE
  obtain ⟨f,ab⟩:∃f,fs[g.i]? = some f:=⟨_,List.getElem?_eq_getElem U⟩;obtain ⟨c6,c7,bE,ac,bF,ba⟩:=au.bJ g.i f ab;obtain ⟨u,V⟩:∃u,m.ak[g.i]? = some u:=⟨_,List.getElem?_eq_getElem (by omega)⟩;obtain ⟨bG,bH,bK,aF⟩:=z.ak.bJ g.i u V;have aF:bI n bG (bH+g.i*1) (dD u):=aF;have c8:=vd aB hi;refine bf (Cs (Cb (aa (ad O (I (Yo B0 O O bE (by omega)) (I (dj 2 iM O O O (bF)) ?_))))));refine Al Y O iL λc9=>?_;refine ai O (aO 0 Y O O O jX O O O (ae (Cs ?_)));refine WC.tO (m_ [.cell 4 40,.cell 5 23]) [] [(0,true),(1,false),(2,true),(3,true),(4,true),(5,true),(6,true),(7,true),(8,true),(9,true),(10,true),(11,true),(12,true),(13,false)] mixed (by kernel_rfl) (by kernel_rfl) (λ_ _ _ _ _ E h=>q5 (fn:=Tryz.f25) [.cell 4 40,.cell 5 23] O E h) ?_;refine D0 O (λ_ h=>h) (b8 0 O O iM O) ?_;refine De O (λ_ h=>h) ?_;refine Lp Y O B1 O (λw d=>BE y ac.1 ac.2 f.1 f.2 w (d.vs _ (by simp)) ba) (Ln (Ed (D0 O (λ_ h=>h) (bP O O) (D0 O (λ_ h=>h) (Ym O) ?_))));apply WD.and 8 O O O O O Y O (λ_ h=>h) O O O O
  ·intro c_;refine Dq O (.g O O O) O (λ_ h=>h) (Yf xD O) (Dq O (.g O O O) O (λ_ h=>h) (Yd 0 O O O cN) (Dq O (.g O O O) O (λ_ h=>h) (Yf nH O) (Dq O (.g O O O) O (λ_ h=>h) (Yd 6 O O O eU) (Dq O (.g O O O) O (λ_ h=>h) (Ym O) (Dq O (.g O O O) O (λ_ h=>h) (Yo di O O bK (by omega)) (Dq O (.g O O O) O (λ_ h=>h) (b9 3 cN O O (aF 0 _ O)) (Dq O (.g O O O) O (λ_ h=>h) (qY O O) ?_)))))));exact Gi 8 (λ_ h=>h) O O O
  refine De O (λ_ h=>h) ?_;refine WL.kk (ι:=Unit) (κ:=Unit) Y O pL O (λ_=>.tuple #[]) (λ_=>qF u f=true) (λ_=>gR 1) (λ_=>qF u f=false) (λw d=>pM _ _ w) ?_ ?_
  ·intro _ F;refine Ep (Ep (WE.ck (Ep (Ep (WE.ck (Ep ?_))))));refine WE.front 4 O ?_;refine WE.front 5 O ?_;refine WE.cr vg (nW [_,_] _ [aq t (.cells (eE ie j4).toArray 40 (0,0)),aq v (.cells #[.int .i64 1] 23 (0,0))] O (λw d=>xO t v (eE ie j4) O 0 1 w d)) (fj O (dI 0 O O gh O) (lQ 1 O O O lK)) λw' d=>?_
   have bL:lq m.ak fs=false:=by
     rw [Bool.eq_false_iff];intro h;have:=BW.1 h g.i u f V ab;rw [F] at this; cases this
   rw [RR B C bL];exact ⟨j4,O,d.fr,sy _⟩
  intro _ bM;refine Ln (Ed ?_);refine WD.nil (λ_ h=>h) ?_;refine Et (Cs ?_);have bb:qF u f=true:=bM;have bc:=bb;simp only [qF,Bool.and_eq_true,beq_iff_eq] at bc;obtain ⟨bN,aG⟩:=bc;obtain ⟨bO,da⟩:=RO bN
  have af:f.1 ∉ m.ak.take g.i:=by rw [aG]; exact RU P V
  refine WC.tO (m_ [.cell 4 40,.cell 5 23]) [2] [(0,true),(1,true),(2,true),(3,true),(4,true),(5,true),(6,true),(7,true),(8,false)] mixed (by kernel_rfl) (by kernel_rfl) (λ_ _ _ _ _ E h=>q5 (fn:=Tryz.f25) [.cell 4 40,.cell 5 23] O E h) ?_;refine D0 O (Wp 2) (Ym O) (D0 O (Wp 2) (cy O) (D0 O (Wp 2) (Yf HT O) (D0 O (Wp 2) (Yd 1 O O O pK) (D0 O (Wp 2) (Yf xD O) (D0 O (Wp 2) (Yd 0 O O O cN) (D0 O (Wp 2) (Ym O) (D0 O (Wp 2) (Yi O O O (by omega)) ?_)))))));refine De O (Wp 2) ?_;refine WL.mu 2 gj Y gg dO O O O O ?_;refine cD 2 (b4 st (fQ (m.ak.take (g.i+1)) 0) (g.i+1)) O (by rw [aG]; exact H7 V (aG▸af)) (Ln (Ed ?_));refine WD.nil (Wp 2) ?_;refine Et ?_;refine CU (m_ [.cell 4 40,.cell 5 23]) [3] [10,11,12] (.q false 0 (.q false 1 (.q false 2 (.q false 3 (.q true 4 (.q false 5 (.q true 6 (.e 7 (.e 8 (.e 9 .nil .stop) .stop) .stop)))))))) mixed (by kernel_rfl) (λ_ _ _ _ _ E h=>q5 (fn:=Tryz.f25) [.cell 4 40,.cell 5 23] O E h) ?_;refine U0 O (Wp 3) (Ym O) (U0 O (Wp 3) (Ym O) (U0 O (Wp 3) (cy O) (U0 O (Wp 3) (Yf BP O) (U0 O (Wp 3) (Yd 1 O O O HU) (U0 O (Wp 3) (Yf pH O) (U0 O (Wp 3) (Yd 0 O O O rT) ?_))))));refine Ue O (Wp 3) ?_ WU.stop;refine Ld Y O H' O (λb:Nat=>.map (some b)) (λn b=>n b=some (b4 st (hl f.2 0) f.2.length)) (λw d=>HJ y ac.1 ac.2 f.2 w (d.vs _ (by simp)) ba bO) ?_;intro db aH bQ bS;refine Ln (Eu ?_);refine Ue O (λ_ h=>(Wv 1 (Wo 3 h):)) ?_ WU.stop;refine Lb Y O H_ O O O O λdc=>?_;refine cD 0 (.cells (XM.cells (f.2,aH)).toArray 143 (0,0)) O (O) (Ln (Eu ?_));refine Ue O (λ_ h=>(Wv 1 (Wo 3 (Wd 1 h)):)) ?_ WU.stop;refine LA ((f.2,aH):XM) 4 0 Y O H_ O O O O O O (by omega) (by omega) λbU bW=>?_;refine Ln (Eu ?_);refine WU.nil (λ_ h=>(Wv 1 (Wo 3 (Wd 1 h)):)) ?_;refine WS.e O ?_;refine I (cy O) (Ln (Es ?_));refine WS.e O ?_;refine I (Yf BP O) (Ln (Es ?_));refine WS.e O ?_;refine aO 2 Y O O O R0 O O O (Ln (Es ?_));refine WS.nil ?_;refine Eb (Et ?_);refine WC.hE λbX bY bZ b1=>?_;refine Cr (I (Yi O O O (by omega)) (ad O (Ln ?_)))
  exact Ea (⟨g.i+1,g.es++[(f.2,aH)],bU,bW,bX⟩:GX XM) (by show _-(g.i+1)<_; omega) ⟨(by show g.i+1<=_; omega),hq aB ab O,λk b2 b3 T W X=>by
      rcases Nat.lt_succ_iff_lt_or_eq.1 T with h | rfl
      · exact a_ k b2 b3 h W X
      · rw [V] at W; rw [ab] at X; injection W with W; injection X with X; subst W; subst X; exact bb,⟨b1 _ bQ bD,Xs.snoc (R:=dy) (λhv h=>dy.mv hv h) aC bZ bY bS⟩⟩ (sc rfl (sc rfl (sc rfl (sc rfl (sc rfl (sc rfl (sc rfl (sc rfl sn)))))))) (λ_ h=>Wd 2 h)
 have aI:g.i=fs.length:=by simp at aE; omega
 have ag:lq m.ak fs=true:=BW.2 λk u f b5 bd=>a_ k u f (by have:=(List.getElem?_eq_some_iff.1 bd).1; omega) b5 bd;have al:=ve aB aI
 have b6:m.ak.take g.i=m.ak:=by rw [aI,C,List.take_length]
 have b7:g.i=m.ak.length:=by rw [aI,C]
 rw [b6,b7];refine Ce (Ex (Ex (cp (Et (Cs ?_)))));refine WC.lV (rd:=JG) 2 O XM.aj (λ_ _ _ _ h=>h) λZ be=>?_;refine WC.tO (m_ [.cell 4 40,.cell 5 23]) [3] [(0,true),(1,true),(2,true),(3,true),(5,true),(4,false),(6,true),(7,false)] mixed (by kernel_rfl) (by kernel_rfl) (λ_ _ _ _ _ E h=>q5 (fn:=Tryz.f25) [.cell 4 40,.cell 5 23] O E h) ?_;refine D0 O (Wp 3) (Yf cR O) (D0 O (Wp 3) (Yd 3 O O O cN) (D0 O (Wp 3) (Yf nH O) (D0 O (Wp 3) (Yd 3 O O O eU) (D0 O (Wp 3) (Ym O) ?_))));refine De O (Wp 3) ?_;refine Ld Y O Ia O (λr:SP=>.slice r.1 m.ak.length r.2) (λM r=>Sl rdStr 1 M r.1 r.2 m.ak) (λw d=>H6 n r.a1 r.c1 m.ak w (d.vs _ (by simp)) z.ak (by omega)) ?_;intro aJ A b' b_;refine Ln (Ed (D0 O (λ_ h=>(Wv 1 (Wo 3 h):)) (Yb kF xN O O) ?_));refine De O (λ_ h=>(Wv 1 (Wo 3 h):)) ?_;refine aO 3 Y O O O kG O O O (Ln (Ed ?_));refine WD.nil (λ_ h=>(Wv 1 (Wo 3 h):)) ?_;refine Et (Cs (Cs (e9 3 (.cells (dH m A ([]:List XP).length (none,0)).toArray 40 (0,0)) O O ?_)));refine pW (λ_ h=>h.e4 89 3) ?_;refine pW (λ_ h=>h.v0) ?_;refine Cr (I (Yf rO O) (I (Yd 5 O O O tc) (I (Yn pz O) (ad O (ae (Cb ?_))))));refine av (ι:=GP) (λl=>[(96,.int .i64 (l.i:Int))]) [(2,_),(4,_),(5,_),(10,_),(94,_),(95,_)] (λl=>Ws w [] [aq D (.cells #[.map (some S),.map (some G),.slice g.a g.es.length g.c,l.lb] 147 (0,0)),aq G (b4 st (fQ m.ak 0) m.ak.length),cf 89 3 XP.cells l.a l.c l.es,aq v (.cells #[.int .i64 0] 23 (0,0)),aq t (.cells (dH m A l.es.length (l.a,l.c)).toArray 40 (0,0)),aq aw (.cells (fu m r).toArray 50 (0,0))] [l.J,aJ,Z,g.J,L,y,n]) (λl=>l.i<=m.procs.length/\l.es.map (·.1)=(m.procs.take l.i).map (lY m fs)/\aD (my m fs) (m.procs.take l.i)=0/\(eW w l.J/\Xs (p_ (ke+1) (ks+1)) l.J l.es)) (λl=>m.procs.length-l.i) ⟨0,[],none,0,v0,.map none⟩ ⟨Nat.zero_le _,O,O,⟨lW w,Xs.nil _⟩⟩ (sc O (sc O (sc O (sc O (sc O (sc O (sc O sn))))))) (λ_ h=>by have h:=h.bR 5 O; have h:=h.bR 5 O; have h:=h.bR 5 O; have h:=h.bR 3 O; have h:=h.bR 5 O; have h:=h.bR 5 O; have h:=Ws.cv h (ah:=[v0,aJ,Z,g.J,L,y,n]) (by simp); exact h) ?_;intro l ⟨ca,aK,am,⟨bg,bh⟩⟩;refine aa (I (b0 O O) (ae (Cs ?_)));refine Cc O (λaL=>?_) (λaL=>?_)
 ·have U:l.i<m.procs.length:=by simpa using aL
  obtain ⟨p,N⟩:∃q,m.procs[l.i]? = some q:=⟨_,List.getElem?_eq_getElem U⟩;obtain ⟨dd,de,cb,cc⟩:=z.procs.bJ l.i p N;obtain ⟨aM,aN,aP,aQ,bi,bj,cd,aR,aS,ce⟩:=cc;have op:=cO (Q.procs p (List.mem_of_getElem? N));have df:=op.d';have dg:=GZ N;have dh:=aR.max;have dk:=aR.cap;have dl:=aS.max;have dn:=aS.cap;have dp:=vd aK ca;refine bf (Cs (Cb (aa (I (Yo pz O O cb (by omega)) (I (dj 6 td O O O (cd)) ?_)))));refine Al Y O qy λcg=>?_;refine aO 0 Y O O O dt O O O (ae (aa (ad O ?_)));refine WL.lh st Y O λan=>?_;refine cD 0 (b4 st (fQ ((p.params++p.ay).take 0) 0) 0) O O (I (cy O) (I (Yf va O) (aO 2 Y O O O Ib O O O (ae (Cs (aa (I (Yf oF O) (I (Yd 1 O O O eU) (I (Yf tf O) ?_)))))))));refine I (Yd 1 O O O eU) ?_;refine Lb Y O Kj O O O O λaT=>?_
  refine Ld Y O R2 O (λr:SP=>.slice r.1 (p.params++p.ay).length r.2) (λM r=>Sl rdStr 1 M r.1 r.2 (p.params++p.ay)) (λw d=>by
      have ch:Sl H0 1 (hv w) (some ⟨aT,0,none⟩) 2 [((aM,aN),p.params),((aP,aQ),p.ay)]:=⟨by simp,by decide,by simp,λj x H=>⟨aT,0,rfl,by
        match j,H with
        | 0,H=>simp only [List.getElem?_cons_zero,Option.some.injEq] at H; subst H; exact ⟨d.kf 0 rfl rfl,aR.imp λb o x aU=>dm (bB (d.vs n (by simp))) b o x aU⟩
        | 1,H=>simp only [List.getElem?_cons_succ,List.getElem?_cons_zero,Option.some.injEq] at H; subst H; exact ⟨d.kf 0 rfl rfl,aS.imp λb o x aU=>dm (bB (d.vs n (by simp))) b o x aU⟩⟩⟩
      have bk:=RL (hv w) (some ⟨aT,0,none⟩) 2 _ w (iR w) ch (by simp [kE]; omega) (by simp);rw [show [((aM,aN),p.params),((aP,aQ),p.ay)].flatMap (·.2)=p.params++p.ay by simp] at bk
      exact bk) ?_
  intro bl dq ci aV;refine I (Yn di O) (ad O (ae (Cb ?_)));refine av (ι:=Nat) (λj=>[(111,.int .i64 (j:Int))]) [(2,_),(4,_),(5,_),(10,_),(14,_),(94,_),(95,_),(96,_),(109,_),(110,_)] (λj=>Ws w [] [aq D (.cells #[.map (some S),.map (some G),.slice g.a g.es.length g.c,.map (some an)] 147 (0,0)),aq an (b4 st (fQ ((p.params++p.ay).take j) 0) j),aq cg (.cells (y_ p aM aN aP aQ bi bj).toArray 151 (0,0)),aq G (b4 st (fQ m.ak 0) m.ak.length),cf 89 3 XP.cells l.a l.c l.es,aq v (.cells #[.int .i64 0] 23 (0,0)),aq t (.cells (dH m A l.es.length (l.a,l.c)).toArray 40 (0,0)),aq aw (.cells (fu m r).toArray 50 (0,0))] [bl,l.J,aJ,Z,g.J,L,y,n]) (λj=>j<=(p.params++p.ay).length/\((p.params++p.ay).take j).Nodup) (λj=>(p.params++p.ay).length-j) 0 ⟨Nat.zero_le _,List.nodup_nil⟩ (sc O (sc O (sc O (sc O (sc O (sc O (sc O (sc O (sc O (sc O (sc O sn))))))))))) (λ_ h=>by exact (Wt 8 ((((((((h.f 8 O).f 8 O).f 8 O).f 8 O).f 8 O).f 7 O).f 7 O).f 8 O):)) ?_;intro j ⟨H,aW⟩;refine aa (I (b0 O O) (ae (Cs ?_)));refine Cc O (λaY=>?_) (λaY=>?_)
  ·have U:j<(p.params++p.ay).length:=by simp only [decide_eq_true_eq] at aY; omega
   obtain ⟨s,ap⟩:∃q,(p.params++p.ay)[j]? = some q:=⟨_,List.getElem?_eq_getElem U⟩;obtain ⟨cj,pos,cl,a0⟩:=aV.bJ j s ap;have a0:bI bl cj (pos+j*1) (dD s):=a0;have dr:=aV.cap;have ds:=aV.max;refine bf (Cs (Cb (aa (ad O (I (Yo di O O cl (by omega)) (I (b9 0 cN O O (a0 0 _ O)) (ai O (ai O (ae (aa (ad O ?_)))))))))));refine I (cy O) (I (Yf va O) (I (Yd 0 O O O pK) (ad O (I (mr 1 gj gg dO je O O O) ?_))));rw [BK];refine I (bP O O) ?_;refine WL.kk (ι:=Unit) (κ:=Unit) Y O pL O (λ_=>.tuple #[]) (λ_=>(kB s ((p.params++p.ay).take j)==0)=true) (λ_=>gR 6) (λ_=>(kB s ((p.params++p.ay).take j)==0)=false) (λw d=>pM _ _ w) ?_ ?_
   ·intro _ F;refine Ep (WE.ck (Ep (Ep (WE.ck (Ep (WE.ck (Ep ?_)))))));refine Ep (WE.ck (Ep ?_));refine WE.front 5 O ?_;refine WE.front 6 O ?_;refine WE.cr vg (nW [_,_] _ [aq t (.cells (eE ie j4).toArray 40 (0,0)),aq v (.cells #[.int .i64 6] 23 (0,0))] O (λw d=>xO t v (dH m A l.es.length (l.a,l.c)) O 0 6 w d)) (fj O (dI 0 O O gh O) (lQ 1 O O O lK)) λw' d=>?_;have bm:=RW ap F
    have K:j5 m fs=6:=by rw [j5,sB (my m fs) N am (by rw [H8 bm]; decide),H8 bm]; rfl
    rw [BX B C ag (by rw [K]; decide),K];exact ⟨j4,O,d.fr,sy _⟩
   intro _ cm;have af:=RV cm;refine ae (Cr (ad O (I (cy O) (I (Yf va O) (I (Yd 0 O O O pK) (ad O (ad O (I (Yi O O O (by omega)) ?_))))))));refine WL.mu 1 gj Y gg dO O O O O ?_;refine cD 1 (b4 st (fQ ((p.params++p.ay).take (j+1)) 0) (j+1)) O (H7 ap af) (Ln (Eb (Et (Cr (I (Yi O O O (by omega)) (ad O (Ln ?_)))))));exact Ea (j+1) (by omega) ⟨by omega,RX ap af aW⟩ (sc O (sc O (sc O (sc O (sc O (sc O (sc O (sc O (sc O (sc O (sc O sn))))))))))) (λ_ h=>h)
  have bn:j=(p.params++p.ay).length:=by simp only [decide_eq_false_iff_not] at aY; omega
  have a2:et (p.params++p.ay)=false:=hF.1 (by rw [bn,List.take_length] at aW; exact aW);rw [bn,List.take_length];refine Ce (Ex (Ex (cp (Et ?_))));refine CU (m_ [.cell 4 40,.cell 5 23]) [4] [15,16] (.q false 0 (.q true 1 (.q false 2 (.q true 3 (.q false 4 (.q false 5 (.q true 6 (.q false 7 (.q false 8 (.q false 9 (.q true 10 (.e 11 (.q false 12 (.e 13 (.e 14 .nil .stop) .stop)) .stop)))))))))))) mixed (by kernel_rfl) (λ_ _ _ _ _ E h=>q5 (fn:=Tryz.f25) [.cell 4 40,.cell 5 23] O E h) ?_;refine U0 O (Wp 4) (Yf k8 O) (U0 O (Wp 4) (Yd 5 O O O lN) (U0 O (Wp 4) (Yf oF O) (U0 O (Wp 4) (Yd 2 O O O eU) (U0 O (Wp 4) (Yn di O) (U0 O (Wp 4) (Yf tf O) (U0 O (Wp 4) (Yd 2 O O O eU) (U0 O (Wp 4) (Yn di O) ?_)))))));refine U0 O (Wp 4) (Ym O) (U0 O (Wp 4) (Yf Bb O) (U0 O (Wp 4) (Yd 2 O O O k3) ?_));refine Ue O (Wp 4) ?_ WU.stop
  refine WL.p8 (ι:=SP) (κ:=Unit) Y O xL O (λr=>.slice r.1 (dV (bT m fs (p.params++p.ay)) p.body).length r.2) (λM r=>eu (bT m fs (p.params++p.ay)) p.body=0/\Sl (gW (ke+1) (ks+1)) 7 M r.1 r.2 (dV (bT m fs (p.params++p.ay)) p.body)) (λ_=>gR (eu (bT m fs (p.params++p.ay)) p.body)) (λ_=>eu (bT m fs (p.params++p.ay)) p.body≠0) (λw d=>by
      have a3:pI (hv w) D (bT m fs (p.params++p.ay)):=⟨⟨S,G,g.a,g.c,an,⟨d.kf 0 rfl rfl,d.kf 0 rfl rfl,by show vc (hv w) D 2=some (.slice g.a (fs.map (·.2)).length g.c); rw [<-al,List.length_map]; exact vW (d.bC 0 rfl) rfl,d.kf 0 rfl rfl⟩,d.vs L (by simp) _ _ a',d.bC 3 rfl,by show Sl BJ 1 (hv w) g.a g.c (fs.map (·.2)); rw [<-al]; exact sz be aC λb o e a5 a6=>⟨e.2,(bB (d.vs Z (by simp))).cell (a5 0 _ rfl),d.vs g.J (by simp) _ _ a6⟩,d.bC 1 rfl⟩,P,by show m.ak.length=(fs.map (·.2)).length; rw [List.length_map,C],⟨Q.d'.1,by show (p.params++p.ay).length<=7; rw [List.length_append]; omega⟩⟩
      exact HZ (hv w) n D (bT m fs (p.params++p.ay)) ke a3 ks p.body bi bj w (iR w) (d.vs n (by simp)) ce (by omega)) ?_ ?_
  ·intro _ F;refine Ep (WE.ck (Ep (Ep (WE.ck (Ep ?_)))));refine WE.front 5 O ?_;refine WE.front 6 O ?_;refine WE.cr vg (nW [_,_] _ [aq t (.cells (eE ie j4).toArray 40 (0,0)),aq v (.cells #[.int .i64 (eu (bT m fs (p.params++p.ay)) p.body)] 23 (0,0))] O (λw d=>xO t v (dH m A l.es.length (l.a,l.c)) O 0 (eu (bT m fs (p.params++p.ay)) p.body) w d)) (fj O (dI 0 O O gh O) (lQ 1 O O O lK)) λw' d=>?_
   have K:j5 m fs=eu (bT m fs (p.params++p.ay)) p.body:=by rw [j5,sB (my m fs) N am (by rw [BY a2]; exact F),BY a2,bV F]
   rw [BX B C ag (by rw [K]; exact F),K];exact ⟨j4,O,d.fr,sy _⟩
  intro du a7 co ⟨cq,cs⟩;refine Ln (Eu (U0 O (λ_ h=>(Wv 1 (Wo 4 h):)) (Yb vh Ic O O) ?_));refine Ue O (λ_ h=>(Wv 1 (Wo 4 h):)) ?_ WU.stop;refine Lb Y O Ie O O O O λdv=>?_;refine cD 0 (.cells (XP.cells (lY m fs p,a7)).toArray 89 (0,0)) O (O) (Ln (Eu ?_));refine Ue O (λ_ h=>(Wv 1 (Wo 4 (Wd 1 h)):)) ?_ WU.stop;refine LA (((lY m fs p,a7):XP)) 5 0 Y O Ie O O O O O O (by omega) (by omega) λct cu=>?_;refine Ln (Eu ?_);refine WU.nil (λ_ h=>(Wv 1 (Wo 4 (Wd 1 h)):)) ?_;refine WS.e O ?_;refine I (Yf k8 O) (Ln (Es ?_));refine WS.e O ?_;refine aO 7 Y O O O R3 O O O (Ln (Es ?_));refine WS.nil ?_;refine Eb (Et ?_);refine WC.hE λdw cw dx cz=>?_;refine WC.hE λcA cB cC cE=>?_;refine Cr (I (Yi O O O (by omega)) (ad O (Ln ?_)));exact Ea (⟨l.i+1,l.es++[(lY m fs p,a7)],ct,cu,cA,.map (some an)⟩:GP) (by show _-(l.i+1)<_; omega) ⟨(by show l.i+1<=_; omega),hq aK N O,(by show aD (my m fs) (m.procs.take (l.i+1))=0; rw [zu _ N,am,jK,BY a2,cq]),⟨cE _ (cz _ co ci) bg,Xs.snoc (R:=p_ _ _) (λhv h=>p_.mv hv h) bh cC (bw.trans cw cB) cs⟩⟩ (sc O (sc O (sc O (sc O (sc O (sc O (sc O sn))))))) (λ_ h=>by exact (Wt 6 ((((((h.f 8 O).f 8 O).f 8 O).f 8 O).f 8 O).f 6 O):))
 have bo:l.i=m.procs.length:=by simp at aL; omega
 have cG:=ve aK bo
 have bp:aD (my m fs) m.procs=0:=by rw [<-am,bo,List.take_length]
 have bq:c' m fs=⟨m.nm,m.ak,j3 m,l.es.map (·.1),dV (bT m fs []) m.main⟩:=by rw [cG]; rfl
 refine Ce (Ex (Ex (cp (Et (aa (ad O ?_))))));refine WL.lh st Y O λcH=>?_;refine I (cy O) (I (Yf va O) (aO 1 Y O O O Ib O O O (ae (aa (ad O (I (Yf Bc O) (I (Yd 6 O O O k3) ?_)))))))
 refine WL.p8 (ι:=SP) (κ:=Unit) Y O xL O (λr=>.slice r.1 (dV (bT m fs []) m.main).length r.2) (λM r=>eu (bT m fs []) m.main=0/\Sl (gW (ke+1) (ks+1)) 7 M r.1 r.2 (dV (bT m fs []) m.main)) (λ_=>gR (eu (bT m fs []) m.main)) (λ_=>eu (bT m fs []) m.main≠0) (λw d=>by
     have a3:pI (hv w) D (bT m fs []):=⟨⟨S,G,g.a,g.c,cH,⟨d.kf 1 rfl rfl,d.kf 1 rfl rfl,by show vc (hv w) D 2=some (.slice g.a (fs.map (·.2)).length g.c); rw [<-al,List.length_map]; exact vW (d.bC 1 rfl) rfl,d.kf 1 rfl rfl⟩,d.vs L (by simp) _ _ a',d.bC 2 rfl,by show Sl BJ 1 (hv w) g.a g.c (fs.map (·.2)); rw [<-al]; exact sz be aC λb o e a5 a6=>⟨e.2,(bB (d.vs Z (by simp))).cell (a5 0 _ rfl),d.vs g.J (by simp) _ _ a6⟩,d.bC 0 rfl⟩,P,by show m.ak.length=(fs.map (·.2)).length; rw [List.length_map,C],⟨Q.d'.1,by show (0:Nat)<=7; omega⟩⟩
     exact HZ (hv w) n D (bT m fs []) ke a3 ks m.main r.a4 r.c4 w (iR w) (d.vs n (by simp)) z.main (by omega)) ?_ ?_
 ·intro _ F;refine Ep ?_;refine WE.front 4 O ?_;refine WE.front 5 O ?_;refine WE.cr vg (nW [_,_] _ [aq t (.cells (eE ie j4).toArray 40 (0,0)),aq v (.cells #[.int .i64 (eu (bT m fs []) m.main)] 23 (0,0))] O (λw d=>xO t v (dH m A l.es.length (l.a,l.c)) O 0 (eu (bT m fs []) m.main) w d)) (fj O (dI 0 O O gh O) (lQ 1 O O O lK)) λw' d=>?_
  have K:j5 m fs=eu (bT m fs []) m.main:=by rw [j5,bp,jK]
  rw [BX B C ag (by rw [K]; exact F),K];exact ⟨j4,O,d.fr,sy _⟩
 intro dz ar cI ⟨cJ,cK⟩;refine I (Yf vi O) (aO 5 Y O O O BV O O O (ae (Cs ?_)));refine WC.ll (rd:=DW) 3 O (λ_ T=>by cases T) XP.aj (λ_ _ _ _ h=>h) λdA cL cM=>?_;refine e9 4 (.cells (eE (c' m fs) ⟨A,(l.a,l.c),ar⟩).toArray 40 (0,0)) O (by rw [bq]; show Obj.cells _ _ _=Obj.cells (eE _ _).toArray _ _; simp only [eE,List.length_map]; rfl) (Cr (I (b8 4 O O gh O) (aO 4 Y O O O kG O O O (aO 3 Y O O O qB O O O (ae (aX ?_))))));refine WE.front 3 O ?_;refine WE.front 4 O ?_;refine WE.yO vg (nW [_,_] _ [aq t (.cells (eE (c' m fs) ⟨A,(l.a,l.c),ar⟩).toArray 40 (0,0)),aq v (.cells #[.int .i64 0] 23 (0,0))] O (λw d=>RM t v (eE (c' m fs) ⟨A,(l.a,l.c),ar⟩) O 0 0 w d)) (fj O (dI 0 O O gh O) (lQ 1 O O O lK)) λw' d=>?_;rw [RS B C ag (by rw [j5,bp,jK,cJ])];exact ⟨⟨A,(l.a,l.c),ar⟩,O,d.fr,⟨nM b_ (cF d (by simp) b'),by rw [bq]; exact LZ cM (cF d (by simp) cL) (cF d (by simp) bg) bh,rm cK (cF d (by simp) cI)⟩⟩
structure R4 where
 ma:ic
 fa:SP
 oa:SP
 na:SP
structure Wy (HS:View) (m:aZ) (fs:List (List UInt8×List bs)) (ns:List (List UInt8)) (q:R4):Prop where
 ak:Sl rdStr 1 HS q.ma.a1 q.ma.c1 m.ak
 qa:Sl pP 2 HS q.fa.1 q.fa.2 fs
 own:Sl gV 4 HS q.oa.1 q.oa.2 (ef m)
 names:Sl rdStr 1 HS q.na.1 q.na.2 ns
 len:m.ak.length=fs.length
structure GQ where
 i:Nat
 es:List XP
 a:Option Addr
 c:Nat
 J:View
 ns:List (List UInt8)
 na:SP
theorem oO {d e:View} (hv:bw d e) {a:Option Addr} {c:Nat} {l:List bs} (h:Sl gV 4 d a c l):Sl gV 4 e a c l:=h.imp λb o x f=>LP hv b o x f
end Go.Proofs.YtccenighnmfhgaaGreatDoor
end
