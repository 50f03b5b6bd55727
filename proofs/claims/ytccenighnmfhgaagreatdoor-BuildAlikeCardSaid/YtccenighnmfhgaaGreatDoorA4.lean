/- BuildAlike: Build tells the same image, in whatever order the texts are. -/
import Derived.Lib.AppendZeros
import Derived.Test.YtccenighnmfhgaaGreatDoorA3
set_option linter.unusedVariables false
set_option linter.unusedSimpArgs false
section
namespace Go.Proofs.YtccenighnmfhgaaGreatDoor
open Go.Bw
structure qD where
 s1:Option Addr×Nat
 s2:Option Addr×Nat
 s3:Option Addr×Nat
abbrev SX:=aH×qD
def SX.cells (e:SX):List Value:=zu e.1 e.2.s1.1 e.2.s1.2 e.2.s2.1 e.2.s2.2 e.2.s3.1 e.2.s3.2
theorem SX.bq (e:SX):(SX.cells e).length=6:=rfl
def KJ (H:View) (b o:Nat) (e:SX):Prop:=aR H b o (SX.cells e)
structure Ak (f:Nat) (N:View) (x:aH) (p:qD):Prop where
 args:Sl (eU 7) 5 N p.s1.1 p.s1.2 x.args
 body:Sl (gn 7 f) 6 N p.s2.1 p.s2.2 x.body
 other:Sl (gn 7 f) 6 N p.s3.1 p.s3.2 x.other
theorem wh {H N:View} {f c:Nat} {a:Option Addr} {l:List aH} (h:Sl (gn 7 f) 6 H a c l) (hv:aK H N):Sl (gn 7 f) 6 N a c l:=h.imp λb o y hy=>zv hv (Nat.le_refl _) (Nat.le_refl _) b o y hy
theorem Ak.mv {f:Nat} {H N:View} {x:aH} {p:qD} (h:Ak f H x p) (hv:aK H N):Ak f N x p:=⟨F4 h.args hv,wh h.body hv,wh h.other hv⟩
def sA (J:View) (f:Nat) (es:List SX):Prop:=∀e ∈ es,Ak f J e.1 e.2
theorem sA.nil (J:View) (f:Nat):sA J f []:=by intro e h; simp at h
theorem sA.snoc {J J1 J2:View} {f:Nat} {es:List SX} {e:SX} (h:sA J f es) (h1:aK J J2) (h2:aK J1 J2) (he:Ak f J1 e.1 e.2):sA J2 f (es++[e]):=by
 intro x hx
 rcases List.mem_append.1 hx with hx | hx
 · exact (h x hx).mv h1
 · rw [List.mem_singleton] at hx
   subst hx;exact he.mv h2
theorem Q1 {H J N:View} {f c:Nat} {a:Option Addr} {es:List SX} (h:Sl KJ 6 H a c es) (hv:aK H N) (hJ:aK J N) (fV:sA J f es):Sl (gn 7 (f+1)) 6 N a c (es.map (·.1)):=by
 refine ⟨by simpa using h.cap,h.max,h.spot,λi x hx=>?_⟩;rw [List.getElem?_map] at hx;obtain ⟨e,he,rfl⟩:=Option.map_eq_some_iff.1 hx;obtain ⟨b,o,h1,h2⟩:=h.aS i e he;have h3:=(fV e (List.mem_of_getElem? he)).mv hJ;exact ⟨b,o,h1,e.2.s1.1,e.2.s1.2,e.2.s2.1,e.2.s2.2,e.2.s3.1,e.2.s3.2,aR.mono hv h2,h3.args,h3.body,h3.other⟩
structure GS where
 es:List SX
 a:Option Addr
 c:Nat
 J:View
 r:Option Addr×Nat
 q:Tk
def aas (HT:View) (f:Nat):Prop:=∀(gb:Nat) (r:Option Addr×Nat) (l:Tk) (d:Nat) (w:World),f+d=7->bX l->Sl aZ 3 HT r.1 r.2 l->Ws w (List.flatMap ao.ids (ak gb r l)) (ak gb r l) [HT] w->
 Calls Tryz.prog 123 #[.pointer (some ⟨gb,0,none⟩),.int .i64 (d:Int)] w λe w'=>(∃(x:List aH) (s:Option Addr×Nat) (r2:Option Addr×Nat) (q:Tk),e = .returned (.slice s.1 x.length s.2)/\eP f l=some (x,q)/\Sl (gn 7 f) 6 (nv w w') s.1 s.2 x/\Sl aZ 3 HT r2.1 r2.2 q/\Ws w (List.flatMap ao.ids (ak gb r l)) (ak gb r2 q) [HT] w')\/(∃(r2:Option Addr×Nat) (q:Tk),e = .panicked bH/\eP f l=none/\Ws w (List.flatMap ao.ids (ak gb r l)) (ak gb r2 q) [HT] w')
theorem Gf {l r:Tk} {f:Nat} {x:List aH} (h:bX l) (e:eP f l=some (x,r)):bX r:=vX h (Fx f l x r h.all e)
theorem amK {l r:Tk} {f:Nat} {x:aH} (h:bX l) (e:dC (eP f) l=some (x,r)):bX r:=vX h (PQ (Fx f) h.all e)
theorem amL {l r:Tk} {xs:List az} (h:bX l) (e:j0 (bI 6) l=some (xs,r)):bX r:=by
 unfold j0 at e
 cases hd:au [41] l with
 | some q=>
   rw [hd] at e;simp only [Option.some.injEq,Prod.mk.injEq] at e;obtain ⟨_,rfl⟩:=e;exact ik h hd
 | none=>
   rw [hd] at e;exact vX h (PN (Cy 6) _ _ _ _ h.all e)
theorem Gg {v w:Tx} {l q:Tk} (h:bZ [v,w] l=some q):∃q1,au v l=some q1/\au w q1=some q:=by rw [ZL] at h; exact Option.bind_eq_some_iff.1 h
theorem amM {v w:Tx} {l:Tk} (h:bZ [v,w] l=none):au v l=none\/∃q1,au v l=some q1/\au w q1=none:=by
 rw [ZL] at h
 cases hv:au v l with
 | none=>exact .inl rfl
 | some q1=>rw [hv] at h; exact .inr ⟨q1,rfl,h⟩
theorem amN {ps:Tk->Option (aH×Tk)} {n:Nat} {l q:Tk} (h:au [125] l=some q):mI ps (n+1) l=some ([],q):=by rw [mI,h]
theorem amO {ps:Tk->Option (aH×Tk)} {n:Nat} {l q:Tk} {x:aH} (h:au [125] l=none) (h1:ps l=some (x,q)):mI ps (n+1) l=(mI ps n q).map λp=>(x::p.1,p.2):=by rw [mI,h]; simp only; rw [h1]; rfl
theorem amP {ps:Tk->Option (aH×Tk)} {n:Nat} {l:Tk} (h:au [125] l=none) (h1:ps l=none):mI ps (n+1) l=none:=by rw [mI,h]; simp only; rw [h1]; rfl
theorem Gh:Enters Tryz.prog 123:=enters_of Tryz.func123 (by kernel_rfl) rfl
theorem Gj:cC Tryz.prog 48=some 1:=by kernel_rfl
theorem yj:cC Tryz.prog 9=some 1:=by kernel_rfl
theorem amQ:Enters Tryz.prog 169:=enters_of Tryz.func169 (by kernel_rfl) rfl
theorem KK:e9 Tryz.prog 48 242 (.agg #[.int .i64 0,st [],st [],.slice none 0 0,.slice none 0 0,.slice none 0 0]) 6 112:=ja (by kernel_rfl)
theorem amR (gb:Nat) (HT:View) (r:Option Addr×Nat) (l:Tk) (f d:Nat) (w:World) (hB:aas HT f) (x9:f+(d+1)=7) (aJ:bX l) (hm:Sl aZ 3 HT r.1 r.2 l) (hw:Ws w (List.flatMap ao.ids (ak gb r l)) (ak gb r l) [HT] w) :
   Calls Tryz.prog 169 #[.pointer (some ⟨gb,0,none⟩),.int .i64 (d:Int)] w λe w'=>(∃(x:aH) (p:qD) (r2:Option Addr×Nat) (q:Tk),e = .returned (.agg #[.int .i64 (x).op,st (x).mod,st (x).nm,.slice (p).s1.1 (x).args.length (p).s1.2,.slice (p).s2.1 (x).body.length (p).s2.2,.slice (p).s3.1 (x).other.length (p).s3.2])/\dC (eP f) l=some (x,q)/\Ak f (nv w w') x p/\Sl aZ 3 HT r2.1 r2.2 q/\Ws w (List.flatMap ao.ids (ak gb r l)) (ak gb r2 q) [HT] w')\/(∃(r2:Option Addr×Nat) (q:Tk),e = .panicked bH/\dC (eP f) l=none/\Ws w (List.flatMap ao.ids (ak gb r l)) (ak gb r2 q) [HT] w'):=by
 refine enter Tryz.func169 O 104 O O ?_;refine CE hw (ad ?_);refine Al Y O vQ λb4=>?_;refine bL 0 (.cells (zu (aH.mk 0 [] [] [] [] []) none 0 none 0 none 0).toArray 242 (0,0)) O O (ab (ad ?_));refine Al Y O vQ λb5=>?_;refine bL 0 (.cells (zu (aH.mk 0 [] [] [] [] []) none 0 none 0 none 0).toArray 242 (0,0)) O O (ab (Cs (Cb (ad (aa O (Lf 2 O ?_))))));refine Lw [_] _ Y O gL O O _ _ _ [HT] (by simp) (λw hw=>gM gb HT r l [105,102] w hm hw) ?_;intro ⟨Q2,wi,nJ⟩ ⟨KM,KN,C9⟩;refine ae O (ab ?_);refine Cc O (λai=>?_) (λai=>?_)
 ·have qE:=KM ai;have Am:=ik aJ qE;refine ad (aa O ?_)
  refine jc (ι:=(az×(Option Addr×Nat))×(Option Addr×Nat)×Tk) (κ:=(Option Addr×Nat)×Tk) [_] _ Y O qA O O (λi=>.agg #[.int .i64 (i.1.1).op,.int .i64 (i.1.1).n,st (i.1.1).mod,st (i.1.1).nm,.slice i.1.2.1 (i.1.1).args.length i.1.2.2]) (λi=>ak gb i.2.1 i.2.2) (λF i=>bI 6 nJ=some (i.1.1,i.2.2)/\Sl (eU 6) 5 F i.1.2.1 i.1.2.2 i.1.1.args/\Sl aZ 3 HT i.2.1.1 i.2.1.2 i.2.2) (λ_=>bH) (λi=>ak gb i.1 i.2) (λ_=>bI 6 nJ=none) ([HT]) (by simp) (λ_ _ h=>h) (λw hw=>((λgb r l d w h1 h2 h3 h4=>yg HT 6 gb r l d w h1 h2 h3 h4) gb wi nJ 1 w O Am C9 hw).mono λe w' h=>by
      rcases h with ⟨x,s,r2,q,h1,h2,h3,h4,h5⟩ | ⟨r2,q,h1,h2,h3⟩
      · exact .inl ⟨((x,s),r2,q),h1,⟨h2,h3,h4⟩,h5⟩
      · exact .inr ⟨(r2,q),h1,h2,h3⟩) ?_ ?_
  ·intro ⟨rp,qp⟩ hp;refine Ep (WE.bx (Ep ?_));refine bc λw' hw=>?_;exact .inr ⟨rp,qp,O,by simp only [dC,dV,ed,dS,ee,dT,dU,qE,hp,Option.bind_some,Option.map_some,Option.bind_none,Option.map_none],(by have h:=hw; have h:=Wt 1 h; exact h)⟩
  intro F47 ⟨⟨Q3,s47⟩,sz,iV⟩ aav ⟨lH,aaw,we⟩;have uj:bX iV:=qv Am lH;have azF:iV.length+1<=List.length (nJ):=qw Am lH;refine Lb Y O kZ O O O O λb48=>?_;refine LN (rd:=kX) (f:=XE.cells) (m:=1) 0 [(Q3,s47.1,s47.2)] O O (λk hk=>by simp [ak,ah] at hk; subst hk; simp [df,ak,ah,aY]) XE.bq (λ_ _ _ _ h=>h) (show 1<=1 by decide) (by decide) λH48 aay aaz=>?_;refine V0 (Yf pn O) (an 1 Y O O O di O O O (V0 (Yf qt O) (an 1 Y O O O ui O O O (ab (ad (aa O (aa O (V0 (Yi O O O (by omega)) ?_))))))))
  refine jc (ι:=((List aH)×(Option Addr×Nat))×(Option Addr×Nat)×Tk) (κ:=(Option Addr×Nat)×Tk) [_] _ Y O Gh O O (λi=>.slice i.1.2.1 i.1.1.length i.1.2.2) (λi=>ak gb i.2.1 i.2.2) (λF i=>eP f iV=some (i.1.1,i.2.2)/\Sl (gn 7 f) 6 F i.1.2.1 i.1.2.2 i.1.1/\Sl aZ 3 HT i.2.1.1 i.2.1.2 i.2.2) (λ_=>bH) (λi=>ak gb i.1 i.2) (λ_=>eP f iV=none) ([HT]) (by simp) (λ_ _ h=>h) (λw hw=>(hB gb sz iV (d+1) w (by omega) uj we hw).mono λe w' h=>by
      rcases h with ⟨x,s,r2,q,h1,h2,h3,h4,h5⟩ | ⟨r2,q,h1,h2,h3⟩
      · exact .inl ⟨((x,s),r2,q),h1,⟨h2,h3,h4⟩,h5⟩
      · exact .inr ⟨(r2,q),h1,h2,h3⟩) ?_ ?_
  ·intro ⟨rp,qp⟩ hp;refine Ep (WE.bx (Ep ?_));refine bc λw' hw=>?_;exact .inr ⟨rp,qp,O,by simp only [dC,dV,ed,dS,ee,dT,dU,qE,lH,hp,Option.bind_some,Option.map_some,Option.bind_none,Option.map_none],(by have h:=hw; have h:=Wt 1 h; have h:=Ws.bF h (a_:=[HT]) (by simp); exact h)⟩
  intro F54 ⟨⟨aaB,KO⟩,Gd,yi⟩ Q4 ⟨pw,aaC,QW⟩;have Kv:bX yi:=Gf uj pw;refine V0 (Yf CO O) (an 1 Y O O O Gj O O O (ab (Cs (ad (aa O ?_)))));refine Lw [_] _ Y O gL O O _ _ _ [HT] (by simp) (λw hw=>gM gb HT Gd yi [101,108,115,101] w QW hw) ?_;intro ⟨C_,Da,qF⟩ ⟨KQ,KR,KS⟩;refine ab ?_;refine Cc O (λaw=>?_) (λaw=>?_)
  ·have KT:=KQ aw;have KV:=ik Kv KT;refine ad (aa O (aa O (V0 (Yi O O O (by omega)) ?_)))
   refine jc (ι:=((List aH)×(Option Addr×Nat))×(Option Addr×Nat)×Tk) (κ:=(Option Addr×Nat)×Tk) [_] _ Y O Gh O O (λi=>.slice i.1.2.1 i.1.1.length i.1.2.2) (λi=>ak gb i.2.1 i.2.2) (λF i=>eP f qF=some (i.1.1,i.2.2)/\Sl (gn 7 f) 6 F i.1.2.1 i.1.2.2 i.1.1/\Sl aZ 3 HT i.2.1.1 i.2.1.2 i.2.2) (λ_=>bH) (λi=>ak gb i.1 i.2) (λ_=>eP f qF=none) ([HT]) (by simp) (λ_ _ h=>h) (λw hw=>(hB gb Da qF (d+1) w (by omega) KV KS hw).mono λe w' h=>by
       rcases h with ⟨x,s,r2,q,h1,h2,h3,h4,h5⟩ | ⟨r2,q,h1,h2,h3⟩
       · exact .inl ⟨((x,s),r2,q),h1,⟨h2,h3,h4⟩,h5⟩
       · exact .inr ⟨(r2,q),h1,h2,h3⟩) ?_ ?_
   ·intro ⟨rp,qp⟩ hp;refine Ep (Ep (WE.bx (Ep ?_)));refine bc λw' hw=>?_;exact .inr ⟨rp,qp,O,by simp only [dC,dV,ed,dS,ee,dT,dU,qE,lH,pw,KT,hp,Option.bind_some,Option.map_some,Option.bind_none,Option.map_none],(by have h:=hw; have h:=Wt 1 h; have h:=Ws.bF h (a_:=[HT]) (by simp); exact h)⟩
   intro F61 ⟨⟨Q5,s61⟩,r61,Q6⟩ amT ⟨Q7,amU,amV⟩;have azI:bX Q6:=Gf KV Q7;refine V0 (Yf x5 O) (an 1 Y O O O Gj O O O (ab (ad (V0 (Yf x5 O) (V0 (Yd 1 O O O nG) (V0 (Yn so O) (V0 (aW O O) (ab ?_))))))));refine Cc O (λaO=>?_) (λaO=>?_)
   ·have hz:Q5.length=0:=by simpa using aO
    refine Cr (V0 (Yb vZ vY O O) (V0 (rh v8 O) ?_));refine WL.panic Y O ?_;refine Ep (WE.bx (Ep ?_));refine bc λw' hw=>?_;exact .inr ⟨r61,Q6,O,by simp only [dC,dV,ed,dS,ee,dT,dU,qE,lH,pw,KT,Q7,Option.bind_some,Option.map_some,Option.bind_none,Option.map_none,if_pos hz],(by have h:=hw; have h:=Wt 1 h; have h:=Ws.bF h (a_:=[HT]) (by simp); exact h)⟩
   have hz:¬Q5.length=0:=by simpa using aO
   refine aE (ad (V0 (bk 1 O O j3 O) (an 2 Y O O O sq O O O (ab (aA (bE (Er ?_)))))));refine WE.dA (gR O (cZ 2 O O j3 O)) λw' hw=>?_;exact .inl ⟨aH.mk 4 [] [] [Q3] aaB Q5,⟨(some ⟨b48,0,none⟩,1),KO,s61⟩,r61,Q6,O,by simp only [dC,dV,ed,dS,ee,dT,dU,qE,lH,pw,KT,Q7,Option.bind_some,Option.map_some,Option.bind_none,Option.map_none,if_neg hz],⟨(kY aaz (bN hw (by simp) aay) (bN hw (by simp) aav) ((gN.nil F47 6).snoc (aK.refl _) (aK.refl _) aaw)),(wh aaC (bN hw (by simp) Q4)),(wh amU (bN hw (by simp) amT))⟩,amV,Wv 4 (Wt 1 hw)⟩
  obtain ⟨amW,amX⟩:=KR aw;subst amX;refine aE (ad (V0 (bk 1 O O j3 O) (an 2 Y O O O sq O O O (ab (aA (bE (Er ?_)))))));refine WE.dA (gR O (cZ 2 O O j3 O)) λw' hw=>?_;exact .inl ⟨aH.mk 4 [] [] [Q3] aaB [],⟨(some ⟨b48,0,none⟩,1),KO,((none,0):Option Addr×Nat)⟩,Da,yi,O,by simp only [dC,dV,ed,dS,ee,dT,dU,qE,lH,pw,amW,Option.bind_some,Option.map_some,Option.bind_none,Option.map_none],⟨(kY aaz (bN hw (by simp) aay) (bN hw (by simp) aav) ((gN.nil F47 6).snoc (aK.refl _) (aK.refl _) aaw)),(wh aaC (bN hw (by simp) Q4)),Sl.nil⟩,KS,Wv 3 (Wt 1 hw)⟩
 obtain ⟨iF,amY⟩:=KN ai;subst amY;refine ad (aa O ?_);refine Lw [_] _ Y O gL O O _ _ _ [HT] (by simp) (λw hw=>gM gb HT wi l [119,104,105,108,101] w C9 hw) ?_;intro ⟨b72,Ai,C8⟩ ⟨amZ,am0,KC⟩;refine ae O (ab ?_);refine Cc O (λbd=>?_) (λbd=>?_)
 ·have Aj:=amZ bd;have KG:=ik aJ Aj;refine ad (aa O ?_)
  refine jc (ι:=(az×(Option Addr×Nat))×(Option Addr×Nat)×Tk) (κ:=(Option Addr×Nat)×Tk) [_] _ Y O qA O O (λi=>.agg #[.int .i64 (i.1.1).op,.int .i64 (i.1.1).n,st (i.1.1).mod,st (i.1.1).nm,.slice i.1.2.1 (i.1.1).args.length i.1.2.2]) (λi=>ak gb i.2.1 i.2.2) (λF i=>bI 6 C8=some (i.1.1,i.2.2)/\Sl (eU 6) 5 F i.1.2.1 i.1.2.2 i.1.1.args/\Sl aZ 3 HT i.2.1.1 i.2.1.2 i.2.2) (λ_=>bH) (λi=>ak gb i.1 i.2) (λ_=>bI 6 C8=none) ([HT]) (by simp) (λ_ _ h=>h) (λw hw=>((λgb r l d w h1 h2 h3 h4=>yg HT 6 gb r l d w h1 h2 h3 h4) gb Ai C8 1 w O KG KC hw).mono λe w' h=>by
      rcases h with ⟨x,s,r2,q,h1,h2,h3,h4,h5⟩ | ⟨r2,q,h1,h2,h3⟩
      · exact .inl ⟨((x,s),r2,q),h1,⟨h2,h3,h4⟩,h5⟩
      · exact .inr ⟨(r2,q),h1,h2,h3⟩) ?_ ?_
  ·intro ⟨rp,qp⟩ hp;refine Ep (WE.bx (Ep ?_));refine bc λw' hw=>?_;exact .inr ⟨rp,qp,O,by simp only [dC,dV,ed,dS,ee,dT,dU,iF,Aj,hp,Option.bind_some,Option.map_some,Option.bind_none,Option.map_none],(by have h:=hw; have h:=Wt 1 h; exact h)⟩
  intro F74 ⟨⟨x74,s74⟩,r74,An⟩ am3 ⟨KX,am4,am5⟩;have aaG:bX An:=qv KG KX;have azK:An.length+1<=List.length (C8):=qw KG KX;refine Lb Y O kZ O O O O λb75=>?_;refine LN (rd:=kX) (f:=XE.cells) (m:=1) 0 [(x74,s74.1,s74.2)] O O (λk hk=>by simp [ak,ah] at hk; subst hk; simp [df,ak,ah,aY]) XE.bq (λ_ _ _ _ h=>h) (show 1<=1 by decide) (by decide) λH75 am6 am7=>?_;refine V0 (Yf pn O) (an 1 Y O O O di O O O (V0 (Yf qt O) (an 1 Y O O O ui O O O (ab (ad (aa O (aa O (V0 (Yi O O O (by omega)) ?_))))))))
  refine jc (ι:=((List aH)×(Option Addr×Nat))×(Option Addr×Nat)×Tk) (κ:=(Option Addr×Nat)×Tk) [_] _ Y O Gh O O (λi=>.slice i.1.2.1 i.1.1.length i.1.2.2) (λi=>ak gb i.2.1 i.2.2) (λF i=>eP f An=some (i.1.1,i.2.2)/\Sl (gn 7 f) 6 F i.1.2.1 i.1.2.2 i.1.1/\Sl aZ 3 HT i.2.1.1 i.2.1.2 i.2.2) (λ_=>bH) (λi=>ak gb i.1 i.2) (λ_=>eP f An=none) ([HT]) (by simp) (λ_ _ h=>h) (λw hw=>(hB gb r74 An (d+1) w (by omega) aaG am5 hw).mono λe w' h=>by
      rcases h with ⟨x,s,r2,q,h1,h2,h3,h4,h5⟩ | ⟨r2,q,h1,h2,h3⟩
      · exact .inl ⟨((x,s),r2,q),h1,⟨h2,h3,h4⟩,h5⟩
      · exact .inr ⟨(r2,q),h1,h2,h3⟩) ?_ ?_
  ·intro ⟨rp,qp⟩ hp;refine Ep (WE.bx (Ep ?_));refine bc λw' hw=>?_;exact .inr ⟨rp,qp,O,by simp only [dC,dV,ed,dS,ee,dT,dU,iF,Aj,KX,hp,Option.bind_some,Option.map_some,Option.bind_none,Option.map_none],(by have h:=hw; have h:=Wt 1 h; have h:=Ws.bF h (a_:=[HT]) (by simp); exact h)⟩
  intro F81 ⟨⟨am8,s81⟩,r81,px⟩ am_ ⟨aaH,ana,anb⟩;have azN:bX px:=Gf aaG aaH;refine V0 (Yf CO O) (an 1 Y O O O Gj O O O (ab (ad (V0 (bk 1 O O j3 O) (an 2 Y O O O sq O O O (ab (aA (bE (Er ?_)))))))));refine WE.dA (gR O (cZ 2 O O j3 O)) λw' hw=>?_;exact .inl ⟨aH.mk 5 [] [] [x74] am8 [],⟨(some ⟨b75,0,none⟩,1),s81,((none,0):Option Addr×Nat)⟩,r81,px,O,by simp only [dC,dV,ed,dS,ee,dT,dU,iF,Aj,KX,aaH,Option.bind_some,Option.map_some,Option.bind_none,Option.map_none],⟨(kY am7 (bN hw (by simp) am6) (bN hw (by simp) am3) ((gN.nil F74 6).snoc (aK.refl _) (aK.refl _) am4)),(wh ana (bN hw (by simp) am_)),Sl.nil⟩,anb,Wv 3 (Wt 1 hw)⟩
 obtain ⟨jN,anc⟩:=am0 bd;subst anc;refine ad (aa O ?_);refine Lw [_] _ Y O gL O O _ _ _ [HT] (by simp) (λw hw=>gM gb HT Ai l [114,101,116,117,114,110] w KC hw) ?_;intro ⟨b86,r86,KY⟩ ⟨ane,anf,aaJ⟩;refine ae O (ab ?_);refine Cc O (λbC=>?_) (λbC=>?_)
 ·have KZ:=ane bC;have Q8:=ik aJ KZ;refine Cr (aa O ?_)
  refine jc (ι:=(az×(Option Addr×Nat))×(Option Addr×Nat)×Tk) (κ:=(Option Addr×Nat)×Tk) [_] _ Y O qA O O (λi=>.agg #[.int .i64 (i.1.1).op,.int .i64 (i.1.1).n,st (i.1.1).mod,st (i.1.1).nm,.slice i.1.2.1 (i.1.1).args.length i.1.2.2]) (λi=>ak gb i.2.1 i.2.2) (λF i=>bI 6 KY=some (i.1.1,i.2.2)/\Sl (eU 6) 5 F i.1.2.1 i.1.2.2 i.1.1.args/\Sl aZ 3 HT i.2.1.1 i.2.1.2 i.2.2) (λ_=>bH) (λi=>ak gb i.1 i.2) (λ_=>bI 6 KY=none) ([HT]) (by simp) (λ_ _ h=>h) (λw hw=>((λgb r l d w h1 h2 h3 h4=>yg HT 6 gb r l d w h1 h2 h3 h4) gb r86 KY 1 w O Q8 aaJ hw).mono λe w' h=>by
      rcases h with ⟨x,s,r2,q,h1,h2,h3,h4,h5⟩ | ⟨r2,q,h1,h2,h3⟩
      · exact .inl ⟨((x,s),r2,q),h1,⟨h2,h3,h4⟩,h5⟩
      · exact .inr ⟨(r2,q),h1,h2,h3⟩) ?_ ?_
  ·intro ⟨rp,qp⟩ hp;refine WE.bx (Ep ?_);refine bc λw' hw=>?_;exact .inr ⟨rp,qp,O,by simp only [dC,dV,ed,dS,ee,dT,dU,iF,jN,KZ,hp,Option.bind_some,Option.map_some,Option.bind_none,Option.map_none],(by have h:=hw; have h:=Wt 1 h; exact h)⟩
  intro F88 ⟨⟨x88,s88⟩,r88,Gl⟩ ani ⟨K0,anj,ank⟩;have anl:bX Gl:=qv Q8 K0;have azP:Gl.length+1<=List.length (KY):=qw Q8 K0;refine Lb Y O kZ O O O O λb89=>?_;refine LN (rd:=kX) (f:=XE.cells) (m:=1) 0 [(x88,s88.1,s88.2)] O O (λk hk=>by simp [ak,ah] at hk; subst hk; simp [df,ak,ah,aY]) XE.bq (λ_ _ _ _ h=>h) (show 1<=1 by decide) (by decide) λH89 ann ano=>?_;refine V0 (Yf pn O) (an 1 Y O O O di O O O (V0 (Yf qt O) (an 1 Y O O O ui O O O (Ln (Eb (Et (ad (aa O ?_))))))));refine Lb Y O dc O O O O λqG=>?_;refine gq (T:=9) (m:=1) 0 [[59]] O O (show 1<=1 by decide) (by decide) λkH py=>?_
  refine cW (ι:=(Option Addr×Nat)×Tk) (κ:=(Option Addr×Nat)×Tk) [_] _ Y O ir O O (λ_=>.tuple #[]) (λi=>ak gb i.1 i.2) (λi=>bZ [[59]] Gl=some i.2/\Sl aZ 3 HT i.1.1 i.1.2 i.2) (λ_=>bH) (λi=>ak gb i.1 i.2) (λ_=>bZ [[59]] Gl=none) ([HT,kH]) (by simp) (λw hw=>(iq gb HT r88 Gl kH _ _ [[59]] w py ank hw).mono λe w' h=>by
      rcases h with ⟨r2,q,h1,h2,h3,h4⟩ | ⟨r2,q,h1,h2,h3⟩
      · exact .inl ⟨(r2,q),h1,⟨h2,h3⟩,h4⟩
      · exact .inr ⟨(r2,q),h1,h2,h3⟩) ?_ ?_
  ·intro ⟨rp,qp⟩ hp;rw [dq] at hp;refine Ep ?_;refine bc λw' hw=>?_;exact .inr ⟨rp,qp,O,by simp only [dC,dV,ed,dS,ee,dT,dU,iF,jN,KZ,K0,hp,Option.bind_some,Option.map_some,Option.bind_none,Option.map_none],(by have h:=hw; have h:=Wt 1 h; have h:=Ws.bF h (a_:=[HT]) (by simp); exact h)⟩
  intro ⟨sB,pz⟩ ⟨jt,sC⟩;have Gm:=im anl jt;rw [dq] at jt;refine ab (ad (V0 (bk 1 O O j3 O) (an 2 Y O O O sq O O O (ab (aA ?_)))));refine WE.dA (gR O (cZ 2 O O j3 O)) λw' hw=>?_;exact .inl ⟨aH.mk 6 [] [] [x88] [] [],⟨(some ⟨b89,0,none⟩,1),((none,0):Option Addr×Nat),((none,0):Option Addr×Nat)⟩,sB,pz,O,by simp only [dC,dV,ed,dS,ee,dT,dU,iF,jN,KZ,K0,jt,Option.bind_some,Option.map_some,Option.bind_none,Option.map_none],⟨(kY ano (bN hw (by simp) ann) (bN hw (by simp) ani) ((gN.nil F88 6).snoc (aK.refl _) (aK.refl _) anj)),Sl.nil,Sl.nil⟩,sC,Wv 3 (Wt 1 hw)⟩
 obtain ⟨k6,anp⟩:=anf bC;subst anp;refine ad (aa O ?_);refine Lw [_] _ Y O gL O O _ _ _ [HT] (by simp) (λw hw=>gM gb HT r86 l [111,117,116] w aaJ hw) ?_;intro ⟨b94,r94,K1⟩ ⟨anq,anr,aaN⟩;refine ae O (ab ?_);refine Cc O (λcU=>?_) (λcU=>?_)
 ·have K2:=anq cU;have Q9:=ik aJ K2;refine Cr (aa O ?_)
  refine jc (ι:=(az×(Option Addr×Nat))×(Option Addr×Nat)×Tk) (κ:=(Option Addr×Nat)×Tk) [_] _ Y O qA O O (λi=>.agg #[.int .i64 (i.1.1).op,.int .i64 (i.1.1).n,st (i.1.1).mod,st (i.1.1).nm,.slice i.1.2.1 (i.1.1).args.length i.1.2.2]) (λi=>ak gb i.2.1 i.2.2) (λF i=>bI 6 K1=some (i.1.1,i.2.2)/\Sl (eU 6) 5 F i.1.2.1 i.1.2.2 i.1.1.args/\Sl aZ 3 HT i.2.1.1 i.2.1.2 i.2.2) (λ_=>bH) (λi=>ak gb i.1 i.2) (λ_=>bI 6 K1=none) ([HT]) (by simp) (λ_ _ h=>h) (λw hw=>((λgb r l d w h1 h2 h3 h4=>yg HT 6 gb r l d w h1 h2 h3 h4) gb r94 K1 1 w O Q9 aaN hw).mono λe w' h=>by
      rcases h with ⟨x,s,r2,q,h1,h2,h3,h4,h5⟩ | ⟨r2,q,h1,h2,h3⟩
      · exact .inl ⟨((x,s),r2,q),h1,⟨h2,h3,h4⟩,h5⟩
      · exact .inr ⟨(r2,q),h1,h2,h3⟩) ?_ ?_
  ·intro ⟨rp,qp⟩ hp;refine WE.bx (Ep ?_);refine bc λw' hw=>?_;exact .inr ⟨rp,qp,O,by simp only [dC,dV,ed,dS,ee,dT,dU,iF,jN,k6,K2,hp,Option.bind_some,Option.map_some,Option.bind_none,Option.map_none],(by have h:=hw; have h:=Wt 1 h; exact h)⟩
  intro F96 ⟨⟨x96,s96⟩,r96,Gn⟩ anu ⟨K3,anv,anw⟩;have anx:bX Gn:=qv Q9 K3;have azS:Gn.length+1<=List.length (K1):=qw Q9 K3;refine Lb Y O kZ O O O O λb97=>?_;refine LN (rd:=kX) (f:=XE.cells) (m:=1) 0 [(x96,s96.1,s96.2)] O O (λk hk=>by simp [ak,ah] at hk; subst hk; simp [df,ak,ah,aY]) XE.bq (λ_ _ _ _ h=>h) (show 1<=1 by decide) (by decide) λH97 anA anB=>?_;refine V0 (Yf pn O) (an 1 Y O O O di O O O (V0 (Yf qt O) (an 1 Y O O O ui O O O (Ln (Eb (Et (ad (aa O ?_))))))));refine Lb Y O dc O O O O λqG=>?_;refine gq (T:=9) (m:=1) 0 [[59]] O O (show 1<=1 by decide) (by decide) λkH py=>?_
  refine cW (ι:=(Option Addr×Nat)×Tk) (κ:=(Option Addr×Nat)×Tk) [_] _ Y O ir O O (λ_=>.tuple #[]) (λi=>ak gb i.1 i.2) (λi=>bZ [[59]] Gn=some i.2/\Sl aZ 3 HT i.1.1 i.1.2 i.2) (λ_=>bH) (λi=>ak gb i.1 i.2) (λ_=>bZ [[59]] Gn=none) ([HT,kH]) (by simp) (λw hw=>(iq gb HT r96 Gn kH _ _ [[59]] w py anw hw).mono λe w' h=>by
      rcases h with ⟨r2,q,h1,h2,h3,h4⟩ | ⟨r2,q,h1,h2,h3⟩
      · exact .inl ⟨(r2,q),h1,⟨h2,h3⟩,h4⟩
      · exact .inr ⟨(r2,q),h1,h2,h3⟩) ?_ ?_
  ·intro ⟨rp,qp⟩ hp;rw [dq] at hp;refine Ep ?_;refine bc λw' hw=>?_;exact .inr ⟨rp,qp,O,by simp only [dC,dV,ed,dS,ee,dT,dU,iF,jN,k6,K2,K3,hp,Option.bind_some,Option.map_some,Option.bind_none,Option.map_none],(by have h:=hw; have h:=Wt 1 h; have h:=Ws.bF h (a_:=[HT]) (by simp); exact h)⟩
  intro ⟨sB,pz⟩ ⟨jt,sC⟩;have Gm:=im anx jt;rw [dq] at jt;refine ab (ad (V0 (bk 1 O O j3 O) (an 2 Y O O O sq O O O (ab (aA ?_)))));refine WE.dA (gR O (cZ 2 O O j3 O)) λw' hw=>?_;exact .inl ⟨aH.mk 7 [] [] [x96] [] [],⟨(some ⟨b97,0,none⟩,1),((none,0):Option Addr×Nat),((none,0):Option Addr×Nat)⟩,sB,pz,O,by simp only [dC,dV,ed,dS,ee,dT,dU,iF,jN,k6,K2,K3,jt,Option.bind_some,Option.map_some,Option.bind_none,Option.map_none],⟨(kY anB (bN hw (by simp) anA) (bN hw (by simp) anu) ((gN.nil F96 6).snoc (aK.refl _) (aK.refl _) anv)),Sl.nil,Sl.nil⟩,sC,Wv 3 (Wt 1 hw)⟩
 obtain ⟨mM,anC⟩:=anr cU;subst anC;refine ad (aa O ?_)
 refine cW (ι:=(Tx×Tx)×(Option Addr×Nat)×Tk) (κ:=(Option Addr×Nat)×Tk) [_] _ Y O Z' O O (λi=>.tuple #[st i.1.1,st i.1.2]) (λi=>ak gb i.2.1 i.2.2) (λi=>jo l=some (i.1,i.2.2)/\Sl aZ 3 HT i.2.1.1 i.2.1.2 i.2.2) (λ_=>bH) (λi=>ak gb i.1 i.2) (λ_=>jo l=none) ([HT]) (by simp) (λw hw=>(ZS gb HT r94 l w aJ aaN hw).mono λe w' h=>by
     rcases h with ⟨t,r2,q,h1,h2,h3,h4⟩ | ⟨r2,q,h1,h2,h3⟩
     · exact .inl ⟨(t,r2,q),h1,⟨h2,h3⟩,h4⟩
     · exact .inr ⟨(r2,q),h1,h2,h3⟩) ?_ ?_
 ·intro ⟨rp,qp⟩ hp;refine Ep (WE.bx (Ep ?_));refine bc λw' hw=>?_;exact .inr ⟨rp,qp,O,by simp only [dC,dV,ed,dS,ee,dT,dU,iF,jN,k6,mM,hp,Option.bind_some,Option.map_some,Option.bind_none,Option.map_none],(by have h:=hw; have h:=Wt 1 h; exact h)⟩
 intro ⟨p9,r9,q9⟩ ⟨fQ,Q_⟩;have Db:=ZN aJ fQ;refine aa O (V0 (Yx O O) (V0 (Yx O O) (V0 (Yf FN O) (an 1 Y O O O yj O O O (V0 (Yf FO O) (an 1 Y O O O yj O O O (ab (Cb (ad ?_)))))))));refine aa O ?_;refine Lw [_] _ Y O gL O O _ _ _ [HT] (by simp) (λw hw=>gM gb HT r9 q9 [40] w Q_ hw) ?_;intro ⟨F',Gp,Ra⟩ ⟨anD,anE,aaQ⟩;refine ae O (ab ?_);refine Cc O (λdb=>?_) (λdb=>?_)
 ·have K4:=anD db;have aaR:=ik Db K4;refine Cr (aa O ?_)
  refine jc (ι:=((List az)×(Option Addr×Nat))×(Option Addr×Nat)×Tk) (κ:=(Option Addr×Nat)×Tk) [_] _ Y O Z_ O O (λi=>.slice i.1.2.1 i.1.1.length i.1.2.2) (λi=>ak gb i.2.1 i.2.2) (λF i=>j0 (bI 6) Ra=some (i.1.1,i.2.2)/\Sl (eU (6+1)) 5 F i.1.2.1 i.1.2.2 i.1.1/\Sl aZ 3 HT i.2.1.1 i.2.1.2 i.2.2) (λ_=>bH) (λi=>ak gb i.1 i.2) (λ_=>j0 (bI 6) Ra=none) ([HT]) (by simp) (λ_ _ h=>h) (λw hw=>(ZW gb HT Gp Ra 6 (1) w (λgb r l d w h1 h2 h3 h4=>yg HT 6 gb r l d w h1 h2 h3 h4) (by omega) aaR aaQ hw).mono λe w' h=>by
      rcases h with ⟨x,s,r2,q,h1,h2,h3,h4,h5⟩ | ⟨r2,q,h1,h2,h3⟩
      · exact .inl ⟨((x,s),r2,q),h1,⟨h2,h3,h4⟩,h5⟩
      · exact .inr ⟨(r2,q),h1,h2,h3⟩) ?_ ?_
  ·intro ⟨rp,qp⟩ hp;refine WE.bx (WE.bx (Ep ?_));refine bc λw' hw=>?_;exact .inr ⟨rp,qp,O,by simp only [dC,dV,ed,dS,ee,dT,dU,iF,jN,k6,mM,fQ,K4,hp,Option.bind_some,Option.map_some,Option.bind_none,Option.map_none],(by have h:=hw; have h:=Wt 1 h; exact h)⟩
  intro F26 ⟨⟨anF,wj⟩,Gq,kJ⟩ anG ⟨nK,anH,Gr⟩;have Gu:bX kJ:=amL aaR nK;refine V0 (Yf pn O) (an 1 Y O O O di O O O (V0 (Yf qt O) (an 1 Y O O O ui O O O (Ln (Eb (Eb (Et (ad (aa O ?_)))))))));refine Lb Y O dc O O O O λqG=>?_;refine gq (T:=9) (m:=1) 0 [[59]] O O (show 1<=1 by decide) (by decide) λkH py=>?_
  refine cW (ι:=(Option Addr×Nat)×Tk) (κ:=(Option Addr×Nat)×Tk) [_] _ Y O ir O O (λ_=>.tuple #[]) (λi=>ak gb i.1 i.2) (λi=>bZ [[59]] kJ=some i.2/\Sl aZ 3 HT i.1.1 i.1.2 i.2) (λ_=>bH) (λi=>ak gb i.1 i.2) (λ_=>bZ [[59]] kJ=none) ([HT,kH]) (by simp) (λw hw=>(iq gb HT Gq kJ kH _ _ [[59]] w py Gr hw).mono λe w' h=>by
      rcases h with ⟨r2,q,h1,h2,h3,h4⟩ | ⟨r2,q,h1,h2,h3⟩
      · exact .inl ⟨(r2,q),h1,⟨h2,h3⟩,h4⟩
      · exact .inr ⟨(r2,q),h1,h2,h3⟩) ?_ ?_
  ·intro ⟨rp,qp⟩ hp;rw [dq] at hp;refine Ep ?_;refine bc λw' hw=>?_;exact .inr ⟨rp,qp,O,by simp only [dC,dV,ed,dS,ee,dT,dU,iF,jN,k6,mM,fQ,K4,nK,hp,Option.bind_some,Option.map_some,Option.bind_none,Option.map_none],(by have h:=hw; have h:=Wt 1 h; have h:=Ws.bF h (a_:=[HT]) (by simp); exact h)⟩
  intro ⟨sB,pz⟩ ⟨jt,sC⟩;have Gm:=im Gu jt;rw [dq] at jt;refine ab (ad (V0 (bk 1 O O j3 O) (an 2 Y O O O sq O O O (ab (aA ?_)))));refine WE.dA (gR O (cZ 2 O O j3 O)) λw' hw=>?_;exact .inl ⟨aH.mk 3 p9.1 p9.2 anF [] [],⟨wj,((none,0):Option Addr×Nat),((none,0):Option Addr×Nat)⟩,sB,pz,O,by simp only [dC,dV,ed,dS,ee,dT,dU,iF,jN,k6,mM,fQ,K4,nK,jt,Option.bind_some,Option.map_some,Option.bind_none,Option.map_none],⟨(F4 anH (bN hw (by simp) anG)),Sl.nil,Sl.nil⟩,sC,Wv 2 (Wt 1 hw)⟩
 obtain ⟨qH,anI⟩:=anE db;subst anI;refine ad (aa O ?_);refine Lw [_] _ Y O gL O O _ _ _ [HT] (by simp) (λw hw=>gM gb HT Gp q9 [91] w aaQ hw) ?_;intro ⟨K5,Dc,oG⟩ ⟨Rb,Rc,Gv⟩;refine ae O (ab ?_);refine Cc O (λej=>?_) (λej=>?_)
 ·have mc:=Rb ej;have yk:=ik Db mc;refine ad (aa O ?_)
  refine jc (ι:=(az×(Option Addr×Nat))×(Option Addr×Nat)×Tk) (κ:=(Option Addr×Nat)×Tk) [_] _ Y O qA O O (λi=>.agg #[.int .i64 (i.1.1).op,.int .i64 (i.1.1).n,st (i.1.1).mod,st (i.1.1).nm,.slice i.1.2.1 (i.1.1).args.length i.1.2.2]) (λi=>ak gb i.2.1 i.2.2) (λF i=>bI 6 oG=some (i.1.1,i.2.2)/\Sl (eU 6) 5 F i.1.2.1 i.1.2.2 i.1.1.args/\Sl aZ 3 HT i.2.1.1 i.2.1.2 i.2.2) (λ_=>bH) (λi=>ak gb i.1 i.2) (λ_=>bI 6 oG=none) ([HT]) (by simp) (λ_ _ h=>h) (λw hw=>((λgb r l d w h1 h2 h3 h4=>yg HT 6 gb r l d w h1 h2 h3 h4) gb Dc oG 1 w O yk Gv hw).mono λe w' h=>by
      rcases h with ⟨x,s,r2,q,h1,h2,h3,h4,h5⟩ | ⟨r2,q,h1,h2,h3⟩
      · exact .inl ⟨((x,s),r2,q),h1,⟨h2,h3,h4⟩,h5⟩
      · exact .inr ⟨(r2,q),h1,h2,h3⟩) ?_ ?_
  ·intro ⟨rp,qp⟩ hp;refine Ep (WE.bx (WE.bx (Ep ?_)));refine bc λw' hw=>?_;exact .inr ⟨rp,qp,O,by simp only [dC,dV,ed,dS,ee,dT,dU,iF,jN,k6,mM,fQ,qH,mc,hp,Option.bind_some,Option.map_some,Option.bind_none,Option.map_none],(by have h:=hw; have h:=Wt 1 h; exact h)⟩
  intro F33 ⟨⟨yl,K8⟩,K9,kK⟩ aaS ⟨mN,aaT,Dd⟩;have K_:bX kK:=qv yk mN;have azW:kK.length+1<=List.length (oG):=qw yk mN;refine Al Y O js λb6=>?_;refine an 0 Y O O O nF O O O (ab (ad (aa O ?_)));refine Lb Y O dc O O O O λb35=>?_;refine gq (T:=9) (m:=2) 0 [[93],[61]] O O (show 2<=2 by decide) (by decide) λH35 anK=>?_;refine Lf 1 O ?_
  refine cW (ι:=(Option Addr×Nat)×Tk) (κ:=(Option Addr×Nat)×Tk) [_] _ Y O ir O O (λ_=>.tuple #[]) (λi=>ak gb i.1 i.2) (λi=>bZ [[93],[61]] kK=some i.2/\Sl aZ 3 HT i.1.1 i.1.2 i.2) (λ_=>bH) (λi=>ak gb i.1 i.2) (λ_=>bZ [[93],[61]] kK=none) ([HT,H35]) (by simp) (λw hw=>(iq gb HT K9 kK H35 _ _ [[93],[61]] w anK Dd hw).mono λe w' h=>by
      rcases h with ⟨r2,q,h1,h2,h3,h4⟩ | ⟨r2,q,h1,h2,h3⟩
      · exact .inl ⟨(r2,q),h1,⟨h2,h3⟩,h4⟩
      · exact .inr ⟨(r2,q),h1,h2,h3⟩) ?_ ?_
  ·intro ⟨rp,qp⟩ hp;refine Ep (WE.bx (WE.bx (Ep ?_)));refine bc λw' hw=>?_
   rcases amM hp with hp | ⟨Gw,Lc,hp⟩
   · exact .inr ⟨rp,qp,O,by simp only [dC,dV,ed,dS,ee,dT,dU,iF,jN,k6,mM,fQ,qH,mc,mN,hp,Option.bind_some,Option.map_some,Option.bind_none,Option.map_none],(by have h:=hw; have h:=Wt 1 h; have h:=Ws.bF h (a_:=[HT]) (by simp); exact h)⟩
   · exact .inr ⟨rp,qp,O,by simp only [dC,dV,ed,dS,ee,dT,dU,iF,jN,k6,mM,fQ,qH,mc,mN,Lc,hp,Option.bind_some,Option.map_some,Option.bind_none,Option.map_none],(by have h:=hw; have h:=Wt 1 h; have h:=Ws.bF h (a_:=[HT]) (by simp); exact h)⟩
  intro ⟨Lg,nL⟩ ⟨Df,anL⟩;have Rd:=im K_ Df;refine ab ?_;refine CU (λ_=>true) [2,0] [7] (.q true 0 (.q false 1 (.q false 4 (.e 2 (.e 3 (.e 5 (.q false 6 .nil) .stop) (.e 5 (.e 3 (.q false 6 .nil) .stop) .stop)) .stop)))) mixed (by kernel_rfl) (λ_ _ _ d _ _ h=>by cases d<;>exact h) ?_;refine U0 O (bR [2,0]) (bk 0 O O kE O) (U0 O (bR [2,0]) (Ym O) (U0 O (bR [2,0]) (Yf pn O) ?_));refine Ue O (bR [2,0]) ?_ WU.stop
  refine jc (ι:=(az×(Option Addr×Nat))×(Option Addr×Nat)×Tk) (κ:=(Option Addr×Nat)×Tk) [_] _ Y O qA O O (λi=>.agg #[.int .i64 (i.1.1).op,.int .i64 (i.1.1).n,st (i.1.1).mod,st (i.1.1).nm,.slice i.1.2.1 (i.1.1).args.length i.1.2.2]) (λi=>ak gb i.2.1 i.2.2) (λF i=>bI 6 nL=some (i.1.1,i.2.2)/\Sl (eU 6) 5 F i.1.2.1 i.1.2.2 i.1.1.args/\Sl aZ 3 HT i.2.1.1 i.2.1.2 i.2.2) (λ_=>bH) (λi=>ak gb i.1 i.2) (λ_=>bI 6 nL=none) ([HT]) (by simp) (λ_ _ h=>h) (λw hw=>((λgb r l d w h1 h2 h3 h4=>yg HT 6 gb r l d w h1 h2 h3 h4) gb Lg nL 1 w O Rd anL hw).mono λe w' h=>by
      rcases h with ⟨x,s,r2,q,h1,h2,h3,h4,h5⟩ | ⟨r2,q,h1,h2,h3⟩
      · exact .inl ⟨((x,s),r2,q),h1,⟨h2,h3,h4⟩,h5⟩
      · exact .inr ⟨(r2,q),h1,h2,h3⟩) ?_ ?_
  ·intro ⟨rp,qp⟩ hp;refine Ep (WE.bx (WE.bx (Ep ?_)));refine bc λw' hw=>?_;obtain ⟨Gw,wm,wo⟩:=Gg Df;exact .inr ⟨rp,qp,O,by simp only [dC,dV,ed,dS,ee,dT,dU,iF,jN,k6,mM,fQ,qH,mc,mN,wm,wo,hp,Option.bind_some,Option.map_some,Option.bind_none,Option.map_none],(by have h:=hw; have h:=Wt 1 h; have h:=Ws.bF h (a_:=[HT]) (by simp); exact h)⟩
  intro F39 ⟨⟨Lh,Li⟩,Lj,oH⟩ aaV ⟨pA,aaW,Lk⟩;have Ll:bX oH:=qv Rd pA;have azY:oH.length+1<=List.length (nL):=qw Rd pA;refine Ln (Eu ?_);refine Ue O (λ_ h=>(Wv 1 (Wo 0 (Wo 2 h)):)) ?_ ?_
  ·refine Lb Y O kZ O O O O λuk=>?_;refine LN (rd:=kX) (f:=XE.cells) (m:=2) 0 [(yl,K8.1,K8.2),(Lh,Li.1,Li.2)] O O (λk hk=>by simp [ak,ah] at hk; subst hk; simp [df,ak,ah,aY]) XE.bq (λ_ _ _ _ h=>h) (show 2<=2 by decide) (by decide) λLm Re Gx=>?_;refine Ln (Eu ?_);refine Ue O (λ_ h=>(Wv 2 (Wo 0 (Wo 2 h)):)) ?_ WU.stop;refine an 2 Y O O O di O O O (Ln (Eu (U0 O (λ_ h=>(Wv 2 (Wo 0 (Wo 2 h)):)) (Yf qt O) ?_)));refine WU.nil (λ_ h=>(Wv 2 (Wo 0 (Wo 2 h)):)) ?_;refine WS.e O ?_;refine an 2 Y O O O ui O O O (Ln (Es ?_));refine WS.nil ?_;refine Eb (Eb (Et (ad (aa O ?_))));refine Lb Y O dc O O O O λqG=>?_;refine gq (T:=9) (m:=1) 0 [[59]] O O (show 1<=1 by decide) (by decide) λkH py=>?_
   refine cW (ι:=(Option Addr×Nat)×Tk) (κ:=(Option Addr×Nat)×Tk) [_] _ Y O ir O O (λ_=>.tuple #[]) (λi=>ak gb i.1 i.2) (λi=>bZ [[59]] oH=some i.2/\Sl aZ 3 HT i.1.1 i.1.2 i.2) (λ_=>bH) (λi=>ak gb i.1 i.2) (λ_=>bZ [[59]] oH=none) ([HT,kH]) (by simp) (λw hw=>(iq gb HT Lj oH kH _ _ [[59]] w py Lk hw).mono λe w' h=>by
       rcases h with ⟨r2,q,h1,h2,h3,h4⟩ | ⟨r2,q,h1,h2,h3⟩
       · exact .inl ⟨(r2,q),h1,⟨h2,h3⟩,h4⟩
       · exact .inr ⟨(r2,q),h1,h2,h3⟩) ?_ ?_
   ·intro ⟨rp,qp⟩ hp;rw [dq] at hp;refine Ep ?_;refine bc λw' hw=>?_;obtain ⟨Gw,wm,wo⟩:=Gg Df;exact .inr ⟨rp,qp,O,by simp only [dC,dV,ed,dS,ee,dT,dU,iF,jN,k6,mM,fQ,qH,mc,mN,wm,wo,pA,hp,Option.bind_some,Option.map_some,Option.bind_none,Option.map_none],(by have h:=hw; have h:=Wt 1 h; have h:=Ws.bF h (a_:=[HT]) (by simp); exact h)⟩
   intro ⟨sB,pz⟩ ⟨jt,sC⟩;have Gm:=im Ll jt;rw [dq] at jt;refine ab (ad (V0 (bk 2 O O j3 O) (an 3 Y O O O sq O O O (ab (aA ?_)))));refine WE.dA (gR O (cZ 3 O O j3 O)) λw' hw=>?_;obtain ⟨Gw,wm,wo⟩:=Gg Df;exact .inl ⟨aH.mk 2 p9.1 p9.2 [yl,Lh] [] [],⟨(some ⟨uk,0,none⟩,2),((none,0):Option Addr×Nat),((none,0):Option Addr×Nat)⟩,sB,pz,O,by simp only [dC,dV,ed,dS,ee,dT,dU,iF,jN,k6,mM,fQ,qH,mc,mN,wm,wo,pA,jt,Option.bind_some,Option.map_some,Option.bind_none,Option.map_none],⟨(kY Gx (bN hw (by simp) Re) (aK.refl _) (((gN.nil (nv w w') 6).snoc (aK.refl _) (bN hw (by simp) aaS) aaT).snoc (aK.refl _) (bN hw (by simp) aaV) aaW)),Sl.nil,Sl.nil⟩,sC,Wv 5 (Wt 1 hw)⟩
  refine Ue O (λ_ h=>(Wv 1 (Wo 0 (Wo 2 h)):)) ?_ WU.stop;refine an 2 Y O O O di O O O (Ln (Eu ?_));refine Ue O (λ_ h=>(Wv 1 (Wo 0 (Wo 2 h)):)) ?_ WU.stop;refine Lb Y O kZ O O O O λuk=>?_;refine LN (rd:=kX) (f:=XE.cells) (m:=2) 0 [(yl,K8.1,K8.2),(Lh,Li.1,Li.2)] O O (λk hk=>by simp [ak,ah] at hk; subst hk; simp [df,ak,ah,aY]) XE.bq (λ_ _ _ _ h=>h) (show 2<=2 by decide) (by decide) λLm Re Gx=>?_;refine Ln (Eu (U0 O (λ_ h=>(Wv 2 (Wo 0 (Wo 2 h)):)) (Yf qt O) ?_));refine WU.nil (λ_ h=>(Wv 2 (Wo 0 (Wo 2 h)):)) ?_;refine WS.e O ?_;refine an 2 Y O O O ui O O O (Ln (Es ?_));refine WS.nil ?_;refine Eb (Eb (Et (ad (aa O ?_))));refine Lb Y O dc O O O O λqG=>?_;refine gq (T:=9) (m:=1) 0 [[59]] O O (show 1<=1 by decide) (by decide) λkH py=>?_
  refine cW (ι:=(Option Addr×Nat)×Tk) (κ:=(Option Addr×Nat)×Tk) [_] _ Y O ir O O (λ_=>.tuple #[]) (λi=>ak gb i.1 i.2) (λi=>bZ [[59]] oH=some i.2/\Sl aZ 3 HT i.1.1 i.1.2 i.2) (λ_=>bH) (λi=>ak gb i.1 i.2) (λ_=>bZ [[59]] oH=none) ([HT,kH]) (by simp) (λw hw=>(iq gb HT Lj oH kH _ _ [[59]] w py Lk hw).mono λe w' h=>by
      rcases h with ⟨r2,q,h1,h2,h3,h4⟩ | ⟨r2,q,h1,h2,h3⟩
      · exact .inl ⟨(r2,q),h1,⟨h2,h3⟩,h4⟩
      · exact .inr ⟨(r2,q),h1,h2,h3⟩) ?_ ?_
  ·intro ⟨rp,qp⟩ hp;rw [dq] at hp;refine Ep ?_;refine bc λw' hw=>?_;obtain ⟨Gw,wm,wo⟩:=Gg Df;exact .inr ⟨rp,qp,O,by simp only [dC,dV,ed,dS,ee,dT,dU,iF,jN,k6,mM,fQ,qH,mc,mN,wm,wo,pA,hp,Option.bind_some,Option.map_some,Option.bind_none,Option.map_none],(by have h:=hw; have h:=Wt 1 h; have h:=Ws.bF h (a_:=[HT]) (by simp); exact h)⟩
  intro ⟨sB,pz⟩ ⟨jt,sC⟩;have Gm:=im Ll jt;rw [dq] at jt;refine ab (ad (V0 (bk 2 O O j3 O) (an 3 Y O O O sq O O O (ab (aA ?_)))));refine WE.dA (gR O (cZ 3 O O j3 O)) λw' hw=>?_;obtain ⟨Gw,wm,wo⟩:=Gg Df;exact .inl ⟨aH.mk 2 p9.1 p9.2 [yl,Lh] [] [],⟨(some ⟨uk,0,none⟩,2),((none,0):Option Addr×Nat),((none,0):Option Addr×Nat)⟩,sB,pz,O,by simp only [dC,dV,ed,dS,ee,dT,dU,iF,jN,k6,mM,fQ,qH,mc,mN,wm,wo,pA,jt,Option.bind_some,Option.map_some,Option.bind_none,Option.map_none],⟨(kY Gx (bN hw (by simp) Re) (aK.refl _) (((gN.nil (nv w w') 6).snoc (aK.refl _) (bN hw (by simp) aaS) aaT).snoc (aK.refl _) (bN hw (by simp) aaV) aaW)),Sl.nil,Sl.nil⟩,sC,Wv 5 (Wt 1 hw)⟩
 obtain ⟨Dg,Rf⟩:=Rc ej;subst Rf;refine ad (aa O ?_);refine Lb Y O dc O O O O λLq=>?_;refine gq (T:=9) (m:=1) 0 [[61]] O O (show 1<=1 by decide) (by decide) λH15 anM=>?_
 refine cW (ι:=(Option Addr×Nat)×Tk) (κ:=(Option Addr×Nat)×Tk) [_] _ Y O ir O O (λ_=>.tuple #[]) (λi=>ak gb i.1 i.2) (λi=>bZ [[61]] q9=some i.2/\Sl aZ 3 HT i.1.1 i.1.2 i.2) (λ_=>bH) (λi=>ak gb i.1 i.2) (λ_=>bZ [[61]] q9=none) ([HT,H15]) (by simp) (λw hw=>(iq gb HT Dc q9 H15 _ _ [[61]] w anM Gv hw).mono λe w' h=>by
     rcases h with ⟨r2,q,h1,h2,h3,h4⟩ | ⟨r2,q,h1,h2,h3⟩
     · exact .inl ⟨(r2,q),h1,⟨h2,h3⟩,h4⟩
     · exact .inr ⟨(r2,q),h1,h2,h3⟩) ?_ ?_
 ·intro ⟨rp,qp⟩ hp;rw [dq] at hp;refine Ep (WE.bx (WE.bx (Ep ?_)));refine bc λw' hw=>?_;exact .inr ⟨rp,qp,O,by simp only [dC,dV,ed,dS,ee,dT,dU,iF,jN,k6,mM,fQ,qH,Dg,hp,Option.bind_some,Option.map_some,Option.bind_none,Option.map_none],(by have h:=hw; have h:=Wt 1 h; have h:=Ws.bF h (a_:=[HT]) (by simp); exact h)⟩
 intro ⟨C1,uh⟩ ⟨ye,Km⟩;have Kn:=im Db ye;rw [dq] at ye;refine ab (Cr (aa O ?_))
 refine jc (ι:=(az×(Option Addr×Nat))×(Option Addr×Nat)×Tk) (κ:=(Option Addr×Nat)×Tk) [_] _ Y O qA O O (λi=>.agg #[.int .i64 (i.1.1).op,.int .i64 (i.1.1).n,st (i.1.1).mod,st (i.1.1).nm,.slice i.1.2.1 (i.1.1).args.length i.1.2.2]) (λi=>ak gb i.2.1 i.2.2) (λF i=>bI 6 uh=some (i.1.1,i.2.2)/\Sl (eU 6) 5 F i.1.2.1 i.1.2.2 i.1.1.args/\Sl aZ 3 HT i.2.1.1 i.2.1.2 i.2.2) (λ_=>bH) (λi=>ak gb i.1 i.2) (λ_=>bI 6 uh=none) ([HT]) (by simp) (λ_ _ h=>h) (λw hw=>((λgb r l d w h1 h2 h3 h4=>yg HT 6 gb r l d w h1 h2 h3 h4) gb C1 uh 1 w O Kn Km hw).mono λe w' h=>by
     rcases h with ⟨x,s,r2,q,h1,h2,h3,h4,h5⟩ | ⟨r2,q,h1,h2,h3⟩
     · exact .inl ⟨((x,s),r2,q),h1,⟨h2,h3,h4⟩,h5⟩
     · exact .inr ⟨(r2,q),h1,h2,h3⟩) ?_ ?_
 ·intro ⟨rp,qp⟩ hp;refine WE.bx (WE.bx (Ep ?_));refine bc λw' hw=>?_;exact .inr ⟨rp,qp,O,by simp only [dC,dV,ed,dS,ee,dT,dU,iF,jN,k6,mM,fQ,qH,Dg,ye,hp,Option.bind_some,Option.map_some,Option.bind_none,Option.map_none],(by have h:=hw; have h:=Wt 1 h; have h:=Ws.bF h (a_:=[HT]) (by simp); exact h)⟩
 intro um ⟨⟨x18,s18⟩,qI,Ao⟩ Gy ⟨Lr,anN,aa0⟩;have anO:bX Ao:=qv Kn Lr;have azZ:Ao.length+1<=List.length (uh):=qw Kn Lr;refine Lb Y O kZ O O O O λC2=>?_;refine LN (rd:=kX) (f:=XE.cells) (m:=1) 0 [(x18,s18.1,s18.2)] O O (λk hk=>by simp [ak,ah] at hk; subst hk; simp [df,ak,ah,aY]) XE.bq (λ_ _ _ _ h=>h) (show 1<=1 by decide) (by decide) λQE anP QF=>?_;refine V0 (Yf pn O) (an 1 Y O O O di O O O (V0 (Yf qt O) (an 1 Y O O O ui O O O (Ln (Eb (Eb (Et (ad (aa O ?_)))))))));refine Lb Y O dc O O O O λqG=>?_;refine gq (T:=9) (m:=1) 0 [[59]] O O (show 1<=1 by decide) (by decide) λkH py=>?_
 refine cW (ι:=(Option Addr×Nat)×Tk) (κ:=(Option Addr×Nat)×Tk) [_] _ Y O ir O O (λ_=>.tuple #[]) (λi=>ak gb i.1 i.2) (λi=>bZ [[59]] Ao=some i.2/\Sl aZ 3 HT i.1.1 i.1.2 i.2) (λ_=>bH) (λi=>ak gb i.1 i.2) (λ_=>bZ [[59]] Ao=none) ([HT,kH]) (by simp) (λw hw=>(iq gb HT qI Ao kH _ _ [[59]] w py aa0 hw).mono λe w' h=>by
     rcases h with ⟨r2,q,h1,h2,h3,h4⟩ | ⟨r2,q,h1,h2,h3⟩
     · exact .inl ⟨(r2,q),h1,⟨h2,h3⟩,h4⟩
     · exact .inr ⟨(r2,q),h1,h2,h3⟩) ?_ ?_
 ·intro ⟨rp,qp⟩ hp;rw [dq] at hp;refine Ep ?_;refine bc λw' hw=>?_;exact .inr ⟨rp,qp,O,by simp only [dC,dV,ed,dS,ee,dT,dU,iF,jN,k6,mM,fQ,qH,Dg,ye,Lr,hp,Option.bind_some,Option.map_some,Option.bind_none,Option.map_none],(by have h:=hw; have h:=Wt 1 h; have h:=Ws.bF h (a_:=[HT]) (by simp); exact h)⟩
 intro ⟨sB,pz⟩ ⟨jt,sC⟩;have Gm:=im anO jt;rw [dq] at jt;refine ab (ad (V0 (bk 1 O O j3 O) (an 2 Y O O O sq O O O (ab (aA ?_)))));refine WE.dA (gR O (cZ 2 O O j3 O)) λw' hw=>?_;exact .inl ⟨aH.mk 1 p9.1 p9.2 [x18] [] [],⟨(some ⟨C2,0,none⟩,1),((none,0):Option Addr×Nat),((none,0):Option Addr×Nat)⟩,sB,pz,O,by simp only [dC,dV,ed,dS,ee,dT,dU,iF,jN,k6,mM,fQ,qH,Dg,ye,Lr,jt,Option.bind_some,Option.map_some,Option.bind_none,Option.map_none],⟨(kY QF (bN hw (by simp) anP) (bN hw (by simp) Gy) ((gN.nil um 6).snoc (aK.refl _) (aK.refl _) anN)),Sl.nil,Sl.nil⟩,sC,Wv 4 (Wt 1 hw)⟩
theorem aa1 (HT:View) (f:Nat) (gb:Nat) (r:Option Addr×Nat) (l:Tk) (d:Nat) (w:World) (x9:f+d=7) (aJ:bX l) (hm:Sl aZ 3 HT r.1 r.2 l) (hw:Ws w (List.flatMap ao.ids (ak gb r l)) (ak gb r l) [HT] w) :
   Calls Tryz.prog 123 #[.pointer (some ⟨gb,0,none⟩),.int .i64 (d:Int)] w λe w'=>(∃(x:List aH) (s:Option Addr×Nat) (r2:Option Addr×Nat) (q:Tk),e = .returned (.slice s.1 x.length s.2)/\eP f l=some (x,q)/\Sl (gn 7 f) 6 (nv w w') s.1 s.2 x/\Sl aZ 3 HT r2.1 r2.2 q/\Ws w (List.flatMap ao.ids (ak gb r l)) (ak gb r2 q) [HT] w')\/(∃(r2:Option Addr×Nat) (q:Tk),e = .panicked bH/\eP f l=none/\Ws w (List.flatMap ao.ids (ak gb r l)) (ak gb r2 q) [HT] w'):=by
 induction f using Nat.strongRecOn generalizing gb r l d w
 rename_i f ih;refine enter Tryz.func123 O 23 O O ?_;refine CE hw (ad (ae O (ab (Cs (ad (aa O (V0 (cI O O) (ab ?_))))))));refine Cc O (λai=>?_) (λai=>?_)
 ·have e_:eP f l=none:=by
    obtain rfl:f=0:=by simp at ai; omega
    rfl
  refine Cr (V0 (Yb vZ vY O O) (V0 (rh v8 O) ?_));refine WL.panic Y O ?_;refine Ep ?_;refine bc λw' hw=>?_;exact .inr ⟨r,l,O,e_,(by have h:=hw; exact h)⟩
 have hd6:¬6<d:=by simp at ai; omega
 obtain ⟨f,rfl⟩:∃k,f=k+1:=⟨f-1,by omega⟩;have hB:aas HT f:=λgb r l d w h1 h2 h3 h4=>ih f (by omega) gb r l d w h1 h2 h3 h4;refine aE (ad (aa O ?_));refine Lb Y O dc O O O O λqu=>?_;refine gq (T:=9) (m:=1) 0 [[123]] O O (show 1<=1 by decide) (by decide) λDh Gz=>?_
 refine cW (ι:=(Option Addr×Nat)×Tk) (κ:=(Option Addr×Nat)×Tk) [_] _ Y O ir O O (λ_=>.tuple #[]) (λi=>ak gb i.1 i.2) (λi=>bZ [[123]] l=some i.2/\Sl aZ 3 HT i.1.1 i.1.2 i.2) (λ_=>bH) (λi=>ak gb i.1 i.2) (λ_=>bZ [[123]] l=none) ([HT,Dh]) (by simp) (λw hw=>(iq gb HT r l Dh _ _ [[123]] w Gz hm hw).mono λe w' h=>by
     rcases h with ⟨r2,q,h1,h2,h3,h4⟩ | ⟨r2,q,h1,h2,h3⟩
     · exact .inl ⟨(r2,q),h1,⟨h2,h3⟩,h4⟩
     · exact .inr ⟨(r2,q),h1,h2,h3⟩) ?_ ?_
 ·intro ⟨rp,qp⟩ hp;rw [dq] at hp;refine Ep ?_;refine bc λw' hw=>?_;exact .inr ⟨rp,qp,O,by rw [eP,hp]; rfl,(by have h:=hw; have h:=Ws.bF h (a_:=[HT]) (by simp); exact h)⟩
 intro ⟨vK,eF⟩ ⟨gO,x_⟩;have yb:=im aJ gO;rw [dq] at gO;refine ab (ad (ae O (LW (λ_ h=>h.eM 242 6) ?_)));refine WL.v0 ?_;refine ab (Cs (Cb ?_));refine cq (ι:=GS) (λg=>[(5,.slice g.a g.es.length g.c)]) [(0,_),(1,_),(4,_)] (λg=>Ws w (List.flatMap ao.ids (ak gb r l)) (ak gb g.r g.q++[bt 242 6 SX.cells g.a g.c g.es]) [g.J,HT]) (λg=>(g.es.length+g.q.length<=l.length/\bX g.q)/\Sl aZ 3 HT g.r.1 g.r.2 g.q/\(ew w g.J/\sA g.J f g.es)/\∃n,g.q.length<n/\eP (f+1) l=(mI (dC (eP f)) n g.q).map λp=>(g.es.map (·.1)++p.1,p.2)) (λg=>g.q.length) ⟨[],none,0,v0,vK,eF⟩ ⟨⟨by have:eF.length+1=l.length:=ij gO; simp; omega,yb⟩,x_,⟨pW w,sA.nil _ _⟩,eF.length+1,by simp,by rw [eP,gO]; simp⟩ (sc O (sc O (sc O (sc O sn)))) (λ_ h=>by have h:=h.aX 1 O; have h:=Ws.bF h (a_:=[v0,HT]) (by simp); exact h) ?_;intro g ⟨⟨hlen,lG⟩,qy,⟨mL,F5⟩,hA⟩;refine Cs (ad (aa O ?_));refine Lw [_] _ Y O gL O O _ _ _ [HT] (by simp) (λw hw=>gM gb HT g.r g.q [125] w qy hw) ?_;intro ⟨fO,j5,lE⟩ ⟨F0,F1,ug⟩;refine V0 (dK O) (ab ?_);refine Cc O (λaw=>?_) (λaw=>?_)
 ·obtain ⟨sw,Kf⟩:=F1 (by simpa using aw);subst Kf;obtain ⟨n,hn,hA⟩:=hA;obtain ⟨n,rfl⟩:∃k,n=k+1:=⟨n-1,by omega⟩;refine aE (Cb (Cr (aa O (aa O (aa O ?_)))))
  refine jc (ι:=(aH×qD)×(Option Addr×Nat)×Tk) (κ:=(Option Addr×Nat)×Tk) [_] _ Y O amQ O O (λi=>.agg #[.int .i64 (i.1.1).op,st (i.1.1).mod,st (i.1.1).nm,.slice (i.1.2).s1.1 (i.1.1).args.length (i.1.2).s1.2,.slice (i.1.2).s2.1 (i.1.1).body.length (i.1.2).s2.2,.slice (i.1.2).s3.1 (i.1.1).other.length (i.1.2).s3.2]) (λi=>ak gb i.2.1 i.2.2) (λF i=>dC (eP f) g.q=some (i.1.1,i.2.2)/\Ak f F i.1.1 i.1.2/\Sl aZ 3 HT i.2.1.1 i.2.1.2 i.2.2) (λ_=>bH) (λi=>ak gb i.1 i.2) (λ_=>dC (eP f) g.q=none) ([HT]) (by simp) (λ_ _ h=>h) (λw hw=>(amR gb HT j5 g.q f d w hB (by omega) lG ug hw).mono λe w' h=>by
      rcases h with ⟨x,s,r2,q,h1,h2,h3,h4,h5⟩ | ⟨r2,q,h1,h2,h3⟩
      · exact .inl ⟨((x,s),r2,q),h1,⟨h2,h3,h4⟩,h5⟩
      · exact .inr ⟨(r2,q),h1,h2,h3⟩) ?_ ?_
  ·intro ⟨rp,qp⟩ hp;refine WE.bx (Ep (WE.bx (Ep ?_)));refine bc λw' hw=>?_;exact .inr ⟨rp,qp,O,by rw [hA,amP sw hp]; rfl,(by have h:=hw; have h:=Wt 1 h; have h:=Ws.bF h (a_:=[HT]) (by simp); exact h)⟩
  intro Aq ⟨⟨Rg,Rh⟩,pr,kG⟩ Ls ⟨qB,anQ,C3⟩;have Ab:bX kG:=amK lG qB;have az0:kG.length<List.length (g.q):=ajL (Fx f) (lG).all qB;refine WL.jd λJ19 anR anS anT=>?_;refine Lb Y O KK O O O O λju=>?_;refine bL 0 (.cells (SX.cells (Rg,Rh)).toArray 242 (0,0)) O O ?_;refine LA ((Rg,Rh):SX) 2 0 Y O KK O O O O O O (by have:=aJ.len; omega) (by have:=aJ.len; omega) λa21 c21=>?_;refine ae O (Ln (Eb ?_))
  exact Ea (⟨g.es++[(Rg,Rh)],a21,c21,J19,pr,kG⟩:GS) (by show kG.length<g.q.length; omega) ⟨⟨by simp; omega,Ab⟩,C3,⟨anT _ Ls mL,sA.snoc F5 anS anR anQ⟩,n,(show kG.length<n by omega),by rw [hA,amO sw qB]; simp [Function.comp_def]⟩ (sc O (sc O (sc O (sc O sn)))) (λ_ h=>by
      have h:=h.aX 2 rfl;have h:=h.aX 2 rfl;have h:=Wt 2 h;have h:=Ws.bF h (a_:=[J19,HT]) (by simp)
      exact h)
 have oD:=F0 (by simpa using aw);have Lt:=ik lG oD;obtain ⟨n,hn,hA⟩:=hA;obtain ⟨n,rfl⟩:∃k,n=k+1:=⟨n-1,by omega⟩;refine Ce (Ex (Ex (bA (Et (Cs ?_)))));refine WC.o3 (rd:=KJ) 1 O (λk hk=>by simp [ak,ah] at hk; subst hk; simp [df,ak,ah,aY]) SX.bq (λ_ _ _ _ h=>h) λK7 GB GC=>?_;refine Cr (aa O (ae O (ab (aA ?_))));refine R1 O O λw' hw=>?_;exact .inl ⟨g.es.map (·.1),(g.a,g.c),j5,lE,by rw [List.length_map],by rw [hA,amN oD]; simp,Q1 GC (bN hw (by simp) GB) (bN hw (by simp) mL) F5,ug,(Wv 2 hw)⟩
theorem anU {l r:Tk} {aL:Bool} {o:Option bM} (h:bX l) (e:ef aL l=some (o,r)):bX r:=by
 cases o with
 | none=>obtain rfl:=PR e; exact h
 | some d=>exact vX h (Yc h.all e).1
theorem anV {l r:Tk} {aL:Bool} {d:bM} (h:bX l) (e:ef aL l=some (some d,r)):r.length<l.length:=by
 have h1:=(Yc h.all e).1.2;rw [h1];simp [sf];omega
theorem anW {l r:Tk} {aL:Bool} {p:dh} (h:bX l) (e:iS aL l=some (p,r)):bX r:=vX h (Yh h.all e).1
theorem Ri {l r:Tk} {aL:Bool} {p:dh} (h:bX l) (e:iS aL l=some (p,r)):r.length<l.length:=by
 have h1:=(Yh h.all e).1.2;rw [h1];simp [vG];omega
theorem oI {l r:Tk} {a:Tx} (h:bX l) (e:cN l=some (a,r)):r.length<l.length:=by
 have h1:=(tR h.all e).1.2;rw [h1];simp
theorem Rj {l q:Tk} {b:Bool} (ht:b=true->au [112,117,98] l=some q) (hf:b=false->au [112,117,98] l=none/\l=q):dt l=(b,q):=by
 unfold dt;rw [show zG=[112,117,98] from rfl]
 cases b with
 | true=>rw [ht rfl]; rfl
 | false=>obtain ⟨h1,h2⟩:=hf rfl; rw [h1,h2]; rfl
theorem Rk {l q:Tk} {b:Bool} (h:bX l) (ht:b=true->au [112,117,98] l=some q) (hf:b=false->au [112,117,98] l=none/\l=q):bX q/\q.length<=l.length:=by
 cases b with
 | true=>exact ⟨ik h (ht rfl),by have:=ij (ht rfl); omega⟩
 | false=>obtain ⟨_,h2⟩:=hf rfl; subst h2; exact ⟨h,Nat.le_refl _⟩
theorem anX {n:Nat} {first:Bool} {l q:Tk} (h:au [41] l=some q):iC (n+1) first l=some ([],q):=by rw [iC,h]
theorem anY {n:Nat} {l q:Tk} {a:Tx} (h:au [41] l=none) (h1:cN l=some (a,q)):iC (n+1) true l=(iC n false q).map λp=>(a::p.1,p.2):=by rw [iC,h]; simp [h1]
theorem anZ {n:Nat} {l:Tk} (h:au [41] l=none) (h1:cN l=none):iC (n+1) true l=none:=by rw [iC,h]; simp [h1]
theorem an0 {n:Nat} {l l1 q:Tk} {a:Tx} (h:au [41] l=none) (h2:au [44] l=some l1) (h1:cN l1=some (a,q)):iC (n+1) false l=(iC n false q).map λp=>(a::p.1,p.2):=by rw [iC,h]; simp [h1,h2]
theorem an1 {n:Nat} {l:Tk} (h:au [41] l=none) (h2:au [44] l=none):iC (n+1) false l=none:=by rw [iC,h]; simp [h2]
theorem an2 {n:Nat} {l l1:Tk} (h:au [41] l=none) (h2:au [44] l=some l1) (h1:cN l1=none):iC (n+1) false l=none:=by rw [iC,h]; simp [h1,h2]
def isNil (l:List Tx):Bool:=match l with | []=>true | _=>false
theorem aa3 (l:List Tx) (x:Tx):isNil (l++[x])=false:=by cases l<;>rfl
theorem an3 {l:List Tx} (h:¬0<l.length):isNil l=true:=by cases l with | nil=>rfl | cons _ _=>exact absurd (by simp) h
theorem an4 {l:List Tx} (h:0<l.length):isNil l=false:=by cases l with | nil=>simp at h | cons _ _=>rfl
structure ym where
 s1:Option Addr×Nat
 s2:Option Addr×Nat
 s3:Option Addr×Nat
abbrev PX:=dh×ym
def PX.cells (e:PX):List Value:=On e.1 e.2.s1.1 e.2.s1.2 e.2.s2.1 e.2.s2.2 e.2.s3.1 e.2.s3.2
theorem PX.bq (e:PX):(PX.cells e).length=5:=rfl
def Rl (H:View) (b o:Nat) (e:PX):Prop:=aR H b o (PX.cells e)
structure Ar (N:View) (x:dh) (p:ym):Prop where
 params:Sl rdStr 1 N p.s1.1 p.s1.2 x.params
 ay:Sl rdStr 1 N p.s2.1 p.s2.2 x.ay
 body:Sl (gn 7 6) 6 N p.s3.1 p.s3.2 x.body
theorem sD {H N:View} {c:Nat} {a:Option Addr} {l:List Tx} (h:Sl rdStr 1 H a c l) (hv:aK H N):Sl rdStr 1 N a c l:=h.imp λb o y hy=>BN hv b o y hy
theorem Rm {H N:View} {c:Nat} {a:Option Addr} {l:List bM} (h:Sl zr 4 H a c l) (hv:aK H N):Sl zr 4 N a c l:=h.imp λb o y hy=>agU hv b o y hy
theorem Ar.mv {H N:View} {x:dh} {p:ym} (h:Ar H x p) (hv:aK H N):Ar N x p:=⟨sD h.params hv,sD h.ay hv,wh h.body hv⟩
def uo (J:View) (es:List PX):Prop:=∀e ∈ es,Ar J e.1 e.2
theorem uo.nil (J:View):uo J []:=by intro e h; simp at h
theorem uo.snoc {J J1 J2:View} {es:List PX} {e:PX} (h:uo J es) (h1:aK J J2) (h2:aK J1 J2) (he:Ar J1 e.1 e.2):uo J2 (es++[e]):=by
 intro x hx
 rcases List.mem_append.1 hx with hx | hx
 · exact (h x hx).mv h1
 · rw [List.mem_singleton] at hx
   subst hx;exact he.mv h2
theorem aa4 {H J N:View} {c:Nat} {a:Option Addr} {es:List PX} (h:Sl Rl 5 H a c es) (hv:aK H N) (hJ:aK J N) (fV:uo J es):Sl (Jd 7 6) 5 N a c (es.map (·.1)):=by
 refine ⟨by simpa using h.cap,h.max,h.spot,λi x hx=>?_⟩;rw [List.getElem?_map] at hx;obtain ⟨e,he,rfl⟩:=Option.map_eq_some_iff.1 hx;obtain ⟨b,o,h1,h2⟩:=h.aS i e he;have h3:=(fV e (List.mem_of_getElem? he)).mv hJ;exact ⟨b,o,h1,e.2.s1.1,e.2.s1.2,e.2.s2.1,e.2.s2.2,e.2.s3.1,e.2.s3.2,aR.mono hv h2,h3.params,h3.ay,h3.body⟩
structure GN where
 ps:List Tx
 a:Option Addr
 c:Nat
 r:Option Addr×Nat
 q:Tk
structure GD where
 ds:List bM
 a:Option Addr
 c:Nat
 aL:Bool
 r:Option Addr×Nat
 q:Tk
structure GM where
 ps:List PX
 a:Option Addr
 c:Nat
 J:View
 aL:Bool
 r:Option Addr×Nat
 q:Tk
theorem an5 {n:Nat} {l:Tk} (h:au [108,111,99,97,108] l=none):jI (n+1) l=some ([],l):=by rw [jI,show sa=[108,111,99,97,108] from rfl,h]
theorem an6 {n:Nat} {l l1 q q2:Tk} {a:Tx} (h:au [108,111,99,97,108] l=some l1) (h1:cN l1=some (a,q)) (h2:au [59] q=some q2):jI (n+1) l=(jI n q2).map λp=>(a::p.1,p.2):=by rw [jI,show sa=[108,111,99,97,108] from rfl,h]; simp [h1,h2]
theorem an7 {n:Nat} {l l1:Tk} (h:au [108,111,99,97,108] l=some l1) (h1:cN l1=none):jI (n+1) l=none:=by rw [jI,show sa=[108,111,99,97,108] from rfl,h]; simp [h1]
theorem an8 {n:Nat} {l l1 q:Tk} {a:Tx} (h:au [108,111,99,97,108] l=some l1) (h1:cN l1=some (a,q)) (h2:au [59] q=none):jI (n+1) l=none:=by rw [jI,show sa=[108,111,99,97,108] from rfl,h]; simp [h1,h2]
theorem an9 {n:Nat} {l:Tk} (h:au [117,115,101] l=none):j1 (n+1) l=some ([],l):=by rw [j1,show qg=[117,115,101] from rfl,h]
theorem an' {n:Nat} {l l1 q q2:Tk} {a:Tx} (h:au [117,115,101] l=some l1) (h1:cN l1=some (a,q)) (h2:au [59] q=some q2):j1 (n+1) l=(j1 n q2).map λp=>(a::p.1,p.2):=by rw [j1,show qg=[117,115,101] from rfl,h]; simp [h1,h2]
theorem an_ {n:Nat} {l l1:Tk} (h:au [117,115,101] l=some l1) (h1:cN l1=none):j1 (n+1) l=none:=by rw [j1,show qg=[117,115,101] from rfl,h]; simp [h1]
theorem aoa {n:Nat} {l l1 q:Tk} {a:Tx} (h:au [117,115,101] l=some l1) (h1:cN l1=some (a,q)) (h2:au [59] q=none):j1 (n+1) l=none:=by rw [j1,show qg=[117,115,101] from rfl,h]; simp [h1,h2]
theorem aob {n:Nat} {aL:Bool} {l q:Tk} (h:ef aL l=some (none,q)):lx (n+1) aL l=some (([],aL),q):=by rw [lx,h]; rfl
theorem aoc {n:Nat} {aL b:Bool} {l q q2:Tk} {d:bM} (h:ef aL l=some (some d,q)) (h2:dt q=(b,q2)):lx (n+1) aL l=(lx n b q2).map λp=>((d::p.1.1,p.1.2),p.2):=by rw [lx,h]; simp only [Option.bind_some]; rw [h2]
theorem aod {n:Nat} {aL:Bool} {l:Tk} (h:ef aL l=none):lx (n+1) aL l=none:=by rw [lx,h]; rfl
theorem aoe {n:Nat} {aL:Bool} {l:Tk} (h:au [112,114,111,99] l=none):ly (n+1) aL l=some (([],aL),l):=by rw [ly,show qh=[112,114,111,99] from rfl,h]
theorem aof {n:Nat} {aL b:Bool} {l l1 q q2:Tk} {d:dh} (h0:au [112,114,111,99] l=some l1) (h:iS aL l1=some (d,q)) (h2:dt q=(b,q2)):ly (n+1) aL l=(ly n b q2).map λp=>((d::p.1.1,p.1.2),p.2):=by rw [ly,show qh=[112,114,111,99] from rfl,h0]; simp only; rw [h]; simp only [Option.bind_some]; rw [h2]
theorem aog {n:Nat} {aL:Bool} {l l1:Tk} (h0:au [112,114,111,99] l=some l1) (h:iS aL l1=none):ly (n+1) aL l=none:=by rw [ly,show qh=[112,114,111,99] from rfl,h0]; simp only; rw [h]; rfl
theorem Lu:fo Tryz.prog 214=some [(0,1),(1,1),(2,1),(3,1)]:=by kernel_rfl
theorem aoh (gb:Nat) (HT:View) (r:Option Addr×Nat) (l:Tk) (aL:Bool) (w:World) (aJ:bX l) (hm:Sl aZ 3 HT r.1 r.2 l) (hw:Ws w (List.flatMap ao.ids (ak gb r l)) (ak gb r l) [HT] w) :
   Calls Tryz.prog 121 #[.pointer (some ⟨gb,0,none⟩),.bool aL] w λe w'=>(∃(o:Option bM) (r2:Option Addr×Nat) (q:Tk),e = .returned (.tuple #[.agg #[.int .i64 ((o).getD (⟨0,[],aL,0⟩:bM)).kind,st ((o).getD (⟨0,[],aL,0⟩:bM)).nm,.bool ((o).getD (⟨0,[],aL,0⟩:bM)).aL,.int .i64 ((o).getD (⟨0,[],aL,0⟩:bM)).n],.bool (o).isSome])/\ef aL l=some (o,q)/\Sl aZ 3 HT r2.1 r2.2 q/\Ws w (List.flatMap ao.ids (ak gb r l)) (ak gb r2 q) [HT] w')\/(∃(r2:Option Addr×Nat) (q:Tk),e = .panicked bH/\ef aL l=none/\Ws w (List.flatMap ao.ids (ak gb r l)) (ak gb r2 q) [HT] w'):=by
 refine enter Tryz.func121 O 50 O O ?_;refine CE hw (ad ?_);refine Al Y O ud λb4=>?_;refine ae O (ab (ad (aa O (V0 (Yb ud Lu O O) ?_))));refine Al Y O ud λb6=>?_;refine an 0 Y O O O vV O O O (ab (Cs (Cb (ad (aa O (Lf 2 O ?_))))));refine Lw [_] _ Y O gL O O _ _ _ [HT] (by simp) (λw hw=>gM gb HT r l [99,111,110,115,116] w hm hw) ?_;intro ⟨Di,vK,eF⟩ ⟨aoi,aoj,x_⟩;refine ae O (ab ?_);refine Cc O (λai=>?_) (λai=>?_)
 ·have gO:=aoi ai;have yb:=ik aJ gO;refine ad (aa O ?_)
  refine cW (ι:=(Tx)×(Option Addr×Nat)×Tk) (κ:=(Option Addr×Nat)×Tk) [_] _ Y O sv O O (λi=>st i.1) (λi=>ak gb i.2.1 i.2.2) (λi=>cN eF=some (i.1,i.2.2)/\Sl aZ 3 HT i.2.1.1 i.2.1.2 i.2.2) (λ_=>bH) (λi=>ak gb i.1 i.2) (λ_=>cN eF=none) ([HT]) (by simp) (λw hw=>(sx gb HT vK eF w x_ hw).mono λe w' h=>by
      rcases h with ⟨t,r2,q,h1,h2,h3,h4⟩ | ⟨r2,q,h1,h2,h3⟩
      · exact .inl ⟨(t,r2,q),h1,⟨h2,h3⟩,h4⟩
      · exact .inr ⟨(r2,q),h1,h2,h3⟩) ?_ ?_
  ·intro ⟨rp,qp⟩ hp;refine Ep (WE.bx (Ep ?_));refine bc λw' hw=>?_;exact .inr ⟨rp,qp,O,by simp only [ef,jl,jm,jn,gO,hp,Option.bind_some,Option.map_some,Option.bind_none,Option.map_none],(by have h:=hw; have h:=Wt 1 h; exact h)⟩
  intro ⟨s14,j5,lE⟩ ⟨oD,ug⟩;have Lt:=su yb oD;refine V0 (Yf CJ O) (an 1 Y O O O di O O O (V0 (Yf FL O) (an 1 Y O O O yj O O O (ab (ad (aa O ?_))))));refine Lb Y O dc O O O O λck=>?_;refine gq (T:=9) (m:=1) 0 [[61]] O O (show 1<=1 by decide) (by decide) λyo GG=>?_
  refine cW (ι:=(Option Addr×Nat)×Tk) (κ:=(Option Addr×Nat)×Tk) [_] _ Y O ir O O (λ_=>.tuple #[]) (λi=>ak gb i.1 i.2) (λi=>bZ [[61]] lE=some i.2/\Sl aZ 3 HT i.1.1 i.1.2 i.2) (λ_=>bH) (λi=>ak gb i.1 i.2) (λ_=>bZ [[61]] lE=none) ([HT,yo]) (by simp) (λw hw=>(iq gb HT j5 lE yo _ _ [[61]] w GG ug hw).mono λe w' h=>by
      rcases h with ⟨r2,q,h1,h2,h3,h4⟩ | ⟨r2,q,h1,h2,h3⟩
      · exact .inl ⟨(r2,q),h1,⟨h2,h3⟩,h4⟩
      · exact .inr ⟨(r2,q),h1,h2,h3⟩) ?_ ?_
  ·intro ⟨rp,qp⟩ hp;rw [dq] at hp;refine Ep (WE.bx (Ep ?_));refine bc λw' hw=>?_;exact .inr ⟨rp,qp,O,by simp only [ef,jl,jm,jn,gO,oD,hp,Option.bind_some,Option.map_some,Option.bind_none,Option.map_none],(by have h:=hw; have h:=Wt 1 h; have h:=Ws.bF h (a_:=[HT]) (by simp); exact h)⟩
  intro ⟨pr,kG⟩ ⟨qB,C3⟩;have Ab:=im Lt qB;rw [dq] at qB;refine ab (Cr (aa O ?_))
  refine cW (ι:=(Int)×(Option Addr×Nat)×Tk) (κ:=(Option Addr×Nat)×Tk) [_] _ Y O QI O O (λi=>.int .i64 i.1) (λi=>ak gb i.2.1 i.2.2) (λi=>jZ kG=some (i.1,i.2.2)/\Sl aZ 3 HT i.2.1.1 i.2.1.2 i.2.2) (λ_=>bH) (λi=>ak gb i.1 i.2) (λ_=>jZ kG=none) ([HT]) (by simp) (λw hw=>(Qz gb HT pr kG w C3 hw).mono λe w' h=>by
      rcases h with ⟨t,r2,q,h1,h2,h3,h4⟩ | ⟨r2,q,h1,h2,h3⟩
      · exact .inl ⟨(t,r2,q),h1,⟨h2,h3⟩,h4⟩
      · exact .inr ⟨(r2,q),h1,h2,h3⟩) ?_ ?_
  ·intro ⟨rp,qp⟩ hp;refine WE.bx (Ep ?_);refine bc λw' hw=>?_;exact .inr ⟨rp,qp,O,by simp only [ef,jl,jm,jn,gO,oD,qB,hp,Option.bind_some,Option.map_some,Option.bind_none,Option.map_none],(by have h:=hw; have h:=Wt 1 h; have h:=Ws.bF h (a_:=[HT]) (by simp); exact h)⟩
  intro ⟨n21,fC,pB⟩ ⟨uq,Rn⟩;have Ro:=Qy Ab uq;refine V0 (Yf vM O) (an 1 Y O O O di O O O (Ln (Eb (Et (ad (aa O ?_))))));refine Lb Y O dc O O O O λGb=>?_;refine gq (T:=9) (m:=1) 0 [[59]] O O (show 1<=1 by decide) (by decide) λyq GJ=>?_
  refine cW (ι:=(Option Addr×Nat)×Tk) (κ:=(Option Addr×Nat)×Tk) [_] _ Y O ir O O (λ_=>.tuple #[]) (λi=>ak gb i.1 i.2) (λi=>bZ [[59]] pB=some i.2/\Sl aZ 3 HT i.1.1 i.1.2 i.2) (λ_=>bH) (λi=>ak gb i.1 i.2) (λ_=>bZ [[59]] pB=none) ([HT,yq]) (by simp) (λw hw=>(iq gb HT fC pB yq _ _ [[59]] w GJ Rn hw).mono λe w' h=>by
      rcases h with ⟨r2,q,h1,h2,h3,h4⟩ | ⟨r2,q,h1,h2,h3⟩
      · exact .inl ⟨(r2,q),h1,⟨h2,h3⟩,h4⟩
      · exact .inr ⟨(r2,q),h1,h2,h3⟩) ?_ ?_
  ·intro ⟨rp,qp⟩ hp;rw [dq] at hp;refine Ep ?_;refine bc λw' hw=>?_;exact .inr ⟨rp,qp,O,by simp only [ef,jl,jm,jn,gO,oD,qB,uq,hp,Option.bind_some,Option.map_some,Option.bind_none,Option.map_none],(by have h:=hw; have h:=Wt 1 h; have h:=Ws.bF h (a_:=[HT]) (by simp); exact h)⟩
  intro ⟨yr,ur⟩ ⟨sE,GK⟩;have aa5:=im Ro sE;rw [dq] at sE;refine ab (ad (V0 (bk 1 O O pq O) (an 2 Y O O O vV O O O (ae O (ab (aA ?_))))));refine WE.dA (eZ O (cZ 2 O O pq O) (gC O)) λw' hw=>?_;exact .inl ⟨some ⟨1,s14,aL,n21⟩,yr,ur,O,by simp only [ef,jl,jm,jn,gO,oD,qB,uq,sE,Option.bind_some,Option.map_some,Option.bind_none,Option.map_none],GK,Wv 2 (Wt 1 hw)⟩
 obtain ⟨sF,aol⟩:=aoj ai;subst aol;refine ad (aa O ?_);refine Lw [_] _ Y O gL O O _ _ _ [HT] (by simp) (λw hw=>gM gb HT vK l [118,97,114] w x_ hw) ?_;intro ⟨b25,Ko,Ac⟩ ⟨aom,aon,Kq⟩;refine ae O (ab ?_);refine Cc O (λaw=>?_) (λaw=>?_)
 ·have Ad:=aom aw;have aac:=ik aJ Ad;refine Cr (aa O ?_)
  refine cW (ι:=(Tx)×(Option Addr×Nat)×Tk) (κ:=(Option Addr×Nat)×Tk) [_] _ Y O sv O O (λi=>st i.1) (λi=>ak gb i.2.1 i.2.2) (λi=>cN Ac=some (i.1,i.2.2)/\Sl aZ 3 HT i.2.1.1 i.2.1.2 i.2.2) (λ_=>bH) (λi=>ak gb i.1 i.2) (λ_=>cN Ac=none) ([HT]) (by simp) (λw hw=>(sx gb HT Ko Ac w Kq hw).mono λe w' h=>by
      rcases h with ⟨t,r2,q,h1,h2,h3,h4⟩ | ⟨r2,q,h1,h2,h3⟩
      · exact .inl ⟨(t,r2,q),h1,⟨h2,h3⟩,h4⟩
      · exact .inr ⟨(r2,q),h1,h2,h3⟩) ?_ ?_
  ·intro ⟨rp,qp⟩ hp;refine WE.bx (Ep ?_);refine bc λw' hw=>?_;exact .inr ⟨rp,qp,O,by simp only [ef,jl,jm,jn,sF,Ad,hp,Option.bind_some,Option.map_some,Option.bind_none,Option.map_none],(by have h:=hw; have h:=Wt 1 h; exact h)⟩
  intro ⟨s27,Lx,uu⟩ ⟨uv,Rq⟩;have Rr:=su aac uv;refine V0 (Yf CJ O) (an 1 Y O O O di O O O (V0 (Yf FL O) (an 1 Y O O O yj O O O (Ln (Eb (Et (ad (aa O ?_))))))));refine Lb Y O dc O O O O λGb=>?_;refine gq (T:=9) (m:=1) 0 [[59]] O O (show 1<=1 by decide) (by decide) λyq GJ=>?_
  refine cW (ι:=(Option Addr×Nat)×Tk) (κ:=(Option Addr×Nat)×Tk) [_] _ Y O ir O O (λ_=>.tuple #[]) (λi=>ak gb i.1 i.2) (λi=>bZ [[59]] uu=some i.2/\Sl aZ 3 HT i.1.1 i.1.2 i.2) (λ_=>bH) (λi=>ak gb i.1 i.2) (λ_=>bZ [[59]] uu=none) ([HT,yq]) (by simp) (λw hw=>(iq gb HT Lx uu yq _ _ [[59]] w GJ Rq hw).mono λe w' h=>by
      rcases h with ⟨r2,q,h1,h2,h3,h4⟩ | ⟨r2,q,h1,h2,h3⟩
      · exact .inl ⟨(r2,q),h1,⟨h2,h3⟩,h4⟩
      · exact .inr ⟨(r2,q),h1,h2,h3⟩) ?_ ?_
  ·intro ⟨rp,qp⟩ hp;rw [dq] at hp;refine Ep ?_;refine bc λw' hw=>?_;exact .inr ⟨rp,qp,O,by simp only [ef,jl,jm,jn,sF,Ad,uv,hp,Option.bind_some,Option.map_some,Option.bind_none,Option.map_none],(by have h:=hw; have h:=Wt 1 h; have h:=Ws.bF h (a_:=[HT]) (by simp); exact h)⟩
  intro ⟨yr,ur⟩ ⟨sE,GK⟩;have aa5:=im Rr sE;rw [dq] at sE;refine ab (ad (V0 (bk 1 O O pq O) (an 2 Y O O O vV O O O (ae O (ab (aA ?_))))));refine WE.dA (eZ O (cZ 2 O O pq O) (gC O)) λw' hw=>?_;exact .inl ⟨some ⟨2,s27,aL,0⟩,yr,ur,O,by simp only [ef,jl,jm,jn,sF,Ad,uv,sE,Option.bind_some,Option.map_some,Option.bind_none,Option.map_none],GK,Wv 1 (Wt 1 hw)⟩
 obtain ⟨At,aop⟩:=aon aw;subst aop;refine ad (aa O ?_);refine Lw [_] _ Y O gL O O _ _ _ [HT] (by simp) (λw hw=>gM gb HT Ko l [97,114,114,97,121] w Kq hw) ?_;intro ⟨b32,r32,Rt⟩ ⟨aoq,aor,Ly⟩;refine ae O (ab ?_);refine Cc O (λaO=>?_) (λaO=>?_)
 ·have Au:=aoq aO;have aos:=ik aJ Au;refine ad (aa O ?_)
  refine cW (ι:=(Tx)×(Option Addr×Nat)×Tk) (κ:=(Option Addr×Nat)×Tk) [_] _ Y O sv O O (λi=>st i.1) (λi=>ak gb i.2.1 i.2.2) (λi=>cN Rt=some (i.1,i.2.2)/\Sl aZ 3 HT i.2.1.1 i.2.1.2 i.2.2) (λ_=>bH) (λi=>ak gb i.1 i.2) (λ_=>cN Rt=none) ([HT]) (by simp) (λw hw=>(sx gb HT r32 Rt w Ly hw).mono λe w' h=>by
      rcases h with ⟨t,r2,q,h1,h2,h3,h4⟩ | ⟨r2,q,h1,h2,h3⟩
      · exact .inl ⟨(t,r2,q),h1,⟨h2,h3⟩,h4⟩
      · exact .inr ⟨(r2,q),h1,h2,h3⟩) ?_ ?_
  ·intro ⟨rp,qp⟩ hp;refine Ep (WE.bx (Ep ?_));refine bc λw' hw=>?_;exact .inr ⟨rp,qp,O,by simp only [ef,jl,jm,jn,sF,At,Au,hp,Option.bind_some,Option.map_some,Option.bind_none,Option.map_none],(by have h:=hw; have h:=Wt 1 h; exact h)⟩
  intro ⟨s34,Kr,Af⟩ ⟨wa,Ks⟩;have aaf:=su aos wa;refine V0 (Yf CJ O) (an 1 Y O O O di O O O (V0 (Yf FL O) (an 1 Y O O O yj O O O (ab (ad (aa O ?_))))));refine Lb Y O dc O O O O λwb=>?_;refine gq (T:=9) (m:=1) 0 [[91]] O O (show 1<=1 by decide) (by decide) λGR Ru=>?_
  refine cW (ι:=(Option Addr×Nat)×Tk) (κ:=(Option Addr×Nat)×Tk) [_] _ Y O ir O O (λ_=>.tuple #[]) (λi=>ak gb i.1 i.2) (λi=>bZ [[91]] Af=some i.2/\Sl aZ 3 HT i.1.1 i.1.2 i.2) (λ_=>bH) (λi=>ak gb i.1 i.2) (λ_=>bZ [[91]] Af=none) ([HT,GR]) (by simp) (λw hw=>(iq gb HT Kr Af GR _ _ [[91]] w Ru Ks hw).mono λe w' h=>by
      rcases h with ⟨r2,q,h1,h2,h3,h4⟩ | ⟨r2,q,h1,h2,h3⟩
      · exact .inl ⟨(r2,q),h1,⟨h2,h3⟩,h4⟩
      · exact .inr ⟨(r2,q),h1,h2,h3⟩) ?_ ?_
  ·intro ⟨rp,qp⟩ hp;rw [dq] at hp;refine Ep (WE.bx (Ep ?_));refine bc λw' hw=>?_;exact .inr ⟨rp,qp,O,by simp only [ef,jl,jm,jn,sF,At,Au,wa,hp,Option.bind_some,Option.map_some,Option.bind_none,Option.map_none],(by have h:=hw; have h:=Wt 1 h; have h:=Ws.bF h (a_:=[HT]) (by simp); exact h)⟩
  intro ⟨Lj,oH⟩ ⟨pA,Lk⟩;have Ll:=im aaf pA;rw [dq] at pA;refine ab (ad (aa O ?_))
  refine cW (ι:=(Int)×(Option Addr×Nat)×Tk) (κ:=(Option Addr×Nat)×Tk) [_] _ Y O QI O O (λi=>.int .i64 i.1) (λi=>ak gb i.2.1 i.2.2) (λi=>jZ oH=some (i.1,i.2.2)/\Sl aZ 3 HT i.2.1.1 i.2.1.2 i.2.2) (λ_=>bH) (λi=>ak gb i.1 i.2) (λ_=>jZ oH=none) ([HT]) (by simp) (λw hw=>(Qz gb HT Lj oH w Lk hw).mono λe w' h=>by
      rcases h with ⟨t,r2,q,h1,h2,h3,h4⟩ | ⟨r2,q,h1,h2,h3⟩
      · exact .inl ⟨(t,r2,q),h1,⟨h2,h3⟩,h4⟩
      · exact .inr ⟨(r2,q),h1,h2,h3⟩) ?_ ?_
  ·intro ⟨rp,qp⟩ hp;refine Ep (WE.bx (Ep ?_));refine bc λw' hw=>?_;exact .inr ⟨rp,qp,O,by simp only [ef,jl,jm,jn,sF,At,Au,wa,pA,hp,Option.bind_some,Option.map_some,Option.bind_none,Option.map_none],(by have h:=hw; have h:=Wt 1 h; have h:=Ws.bF h (a_:=[HT]) (by simp); exact h)⟩
  intro ⟨n41,GV,uw⟩ ⟨sG,Rv⟩;have Rw:=Qy Ll sG;refine V0 (Yf vM O) (an 1 Y O O O di O O O (ab (Cr (aa O ?_))));refine Lb Y O dc O O O O λLz=>?_;refine gq (T:=9) (m:=1) 0 [[93]] O O (show 1<=1 by decide) (by decide) λH44 aou=>?_
  refine cW (ι:=(Option Addr×Nat)×Tk) (κ:=(Option Addr×Nat)×Tk) [_] _ Y O ir O O (λ_=>.tuple #[]) (λi=>ak gb i.1 i.2) (λi=>bZ [[93]] uw=some i.2/\Sl aZ 3 HT i.1.1 i.1.2 i.2) (λ_=>bH) (λi=>ak gb i.1 i.2) (λ_=>bZ [[93]] uw=none) ([HT,H44]) (by simp) (λw hw=>(iq gb HT GV uw H44 _ _ [[93]] w aou Rv hw).mono λe w' h=>by
      rcases h with ⟨r2,q,h1,h2,h3,h4⟩ | ⟨r2,q,h1,h2,h3⟩
      · exact .inl ⟨(r2,q),h1,⟨h2,h3⟩,h4⟩
      · exact .inr ⟨(r2,q),h1,h2,h3⟩) ?_ ?_
  ·intro ⟨rp,qp⟩ hp;rw [dq] at hp;refine WE.bx (Ep ?_);refine bc λw' hw=>?_;exact .inr ⟨rp,qp,O,by simp only [ef,jl,jm,jn,sF,At,Au,wa,pA,sG,hp,Option.bind_some,Option.map_some,Option.bind_none,Option.map_none],(by have h:=hw; have h:=Wt 1 h; have h:=Ws.bF h (a_:=[HT]) (by simp); exact h)⟩
  intro ⟨wi,nJ⟩ ⟨qE,C9⟩;have Am:=im Rw qE;rw [dq] at qE;refine Ln (Eb (Et (ad (aa O ?_))));refine Lb Y O dc O O O O λGb=>?_;refine gq (T:=9) (m:=1) 0 [[59]] O O (show 1<=1 by decide) (by decide) λyq GJ=>?_
  refine cW (ι:=(Option Addr×Nat)×Tk) (κ:=(Option Addr×Nat)×Tk) [_] _ Y O ir O O (λ_=>.tuple #[]) (λi=>ak gb i.1 i.2) (λi=>bZ [[59]] nJ=some i.2/\Sl aZ 3 HT i.1.1 i.1.2 i.2) (λ_=>bH) (λi=>ak gb i.1 i.2) (λ_=>bZ [[59]] nJ=none) ([HT,yq]) (by simp) (λw hw=>(iq gb HT wi nJ yq _ _ [[59]] w GJ C9 hw).mono λe w' h=>by
      rcases h with ⟨r2,q,h1,h2,h3,h4⟩ | ⟨r2,q,h1,h2,h3⟩
      · exact .inl ⟨(r2,q),h1,⟨h2,h3⟩,h4⟩
      · exact .inr ⟨(r2,q),h1,h2,h3⟩) ?_ ?_
  ·intro ⟨rp,qp⟩ hp;rw [dq] at hp;refine Ep ?_;refine bc λw' hw=>?_;exact .inr ⟨rp,qp,O,by simp only [ef,jl,jm,jn,sF,At,Au,wa,pA,sG,qE,hp,Option.bind_some,Option.map_some,Option.bind_none,Option.map_none],(by have h:=hw; have h:=Wt 1 h; have h:=Ws.bF h (a_:=[HT]) (by simp); exact h)⟩
  intro ⟨yr,ur⟩ ⟨sE,GK⟩;have aa5:=im Am sE;rw [dq] at sE;refine ab (ad (V0 (bk 1 O O pq O) (an 2 Y O O O vV O O O (ae O (ab (aA ?_))))));refine WE.dA (eZ O (cZ 2 O O pq O) (gC O)) λw' hw=>?_;exact .inl ⟨some ⟨3,s34,aL,n41⟩,yr,ur,O,by simp only [ef,jl,jm,jn,sF,At,Au,wa,pA,sG,qE,sE,Option.bind_some,Option.map_some,Option.bind_none,Option.map_none],GK,Wv 3 (Wt 1 hw)⟩
 obtain ⟨aov,aow⟩:=aor aO;subst aow;refine ad (V0 (bk 1 O O pq O) (an 2 Y O O O vV O O O (ae O (ab (aA (bE (Er ?_)))))));refine WE.dA (eZ O (cZ 2 O O pq O) (gC O)) λw' hw=>?_;exact .inl ⟨none,r32,l,O,by simp only [ef,jl,jm,jn,sF,At,aov,Option.bind_some,Option.map_some,Option.bind_none,Option.map_none],Ly,Wt 1 hw⟩
def GW (nm:Tx) (aL:Bool) (a1:Option Addr) (n1 c1:Nat) (a2:Option Addr) (n2 c2:Nat) (a3:Option Addr) (n3 c3:Nat):List Value:=[st nm,.bool aL,.slice a1 n1 c1,.slice a2 n2 c2,.slice a3 n3 c3]
theorem aa':fo Tryz.prog 151=some [(0,1),(1,1),(2,1),(3,1),(4,1)]:=by kernel_rfl
theorem LB:cC Tryz.prog 22=some 1:=by kernel_rfl
theorem aox (gb:Nat) (HT:View) (r:Option Addr×Nat) (l:Tk) (aL:Bool) (w:World) (aJ:bX l) (hm:Sl aZ 3 HT r.1 r.2 l) (hw:Ws w (List.flatMap ao.ids (ak gb r l)) (ak gb r l) [HT] w) :
   Calls Tryz.prog 122 #[.pointer (some ⟨gb,0,none⟩),.bool aL] w λe w'=>(∃(p:dh) (s:ym) (r2:Option Addr×Nat) (q:Tk),e = .returned (.agg #[st (p).nm,.bool (p).aL,.slice (s).s1.1 (p).params.length (s).s1.2,.slice (s).s2.1 (p).ay.length (s).s2.2,.slice (s).s3.1 (p).body.length (s).s3.2])/\iS aL l=some (p,q)/\Ar (nv w w') p s/\Sl aZ 3 HT r2.1 r2.2 q/\Ws w (List.flatMap ao.ids (ak gb r l)) (ak gb r2 q) [HT] w')\/(∃(r2:Option Addr×Nat) (q:Tk),e = .panicked bH/\iS aL l=none/\Ws w (List.flatMap ao.ids (ak gb r l)) (ak gb r2 q) [HT] w'):=by
 refine enter Tryz.func122 O 46 O O ?_;refine CE hw (ad ?_);refine Al Y O x7 λb4=>?_;refine bL 0 (.cells (GW [] false none 0 0 none 0 0 none 0 0).toArray 151 (0,0)) O O (ab (ad (aa O (aa O (Lf 1 O ?_)))))
 refine cW (ι:=(Tx)×(Option Addr×Nat)×Tk) (κ:=(Option Addr×Nat)×Tk) [_] _ Y O sv O O (λi=>st i.1) (λi=>ak gb i.2.1 i.2.2) (λi=>cN l=some (i.1,i.2.2)/\Sl aZ 3 HT i.2.1.1 i.2.1.2 i.2.2) (λ_=>bH) (λi=>ak gb i.1 i.2) (λ_=>cN l=none) ([HT]) (by simp) (λw hw=>(sx gb HT r l w hm hw).mono λe w' h=>by
     rcases h with ⟨t,r2,q,h1,h2,h3,h4⟩ | ⟨r2,q,h1,h2,h3⟩
     · exact .inl ⟨(t,r2,q),h1,⟨h2,h3⟩,h4⟩
     · exact .inr ⟨(r2,q),h1,h2,h3⟩) ?_ ?_
 ·intro ⟨rp,qp⟩ hp;refine Ep ?_;refine bc λw' hw=>?_;exact .inr ⟨rp,qp,O,by simp only [iS,hp,Option.bind_none],(by have h:=hw; have h:=Wt 1 h; exact h)⟩
 intro ⟨s8,r8,q8⟩ ⟨oE,Kh⟩;have QA:=su aJ oE;refine V0 (Yb x7 aa' O O) ?_;refine Al Y O x7 λb5=>?_;refine an 0 Y O O O CS O O O (LW (λ_ h=>h.eM 9 1) (LW (λ_ h=>h.eM 9 1) (ab (ad (aa O ?_)))));refine Lb Y O dc O O O O λqu=>?_;refine gq (T:=9) (m:=1) 0 [[40]] O O (show 1<=1 by decide) (by decide) λDh Gz=>?_;refine Lf 3 O ?_
 refine cW (ι:=(Option Addr×Nat)×Tk) (κ:=(Option Addr×Nat)×Tk) [_] _ Y O ir O O (λ_=>.tuple #[]) (λi=>ak gb i.1 i.2) (λi=>bZ [[40]] q8=some i.2/\Sl aZ 3 HT i.1.1 i.1.2 i.2) (λ_=>bH) (λi=>ak gb i.1 i.2) (λ_=>bZ [[40]] q8=none) ([HT,Dh]) (by simp) (λw hw=>(iq gb HT r8 q8 Dh _ _ [[40]] w Gz Kh hw).mono λe w' h=>by
     rcases h with ⟨r2,q,h1,h2,h3,h4⟩ | ⟨r2,q,h1,h2,h3⟩
     · exact .inl ⟨(r2,q),h1,⟨h2,h3⟩,h4⟩
     · exact .inr ⟨(r2,q),h1,h2,h3⟩) ?_ ?_
 ·intro ⟨rp,qp⟩ hp;rw [dq] at hp;refine Ep ?_;refine bc λw' hw=>?_;exact .inr ⟨rp,qp,O,by simp only [iS,oE,hp,Option.bind_some,Option.bind_none],(by have h:=hw; have h:=Wt 1 h; have h:=Ws.bF h (a_:=[HT]) (by simp); exact h)⟩
 intro ⟨vK,eF⟩ ⟨gO,x_⟩;have yb:=im QA gO;rw [dq] at gO;refine ab (Cs (Cb ?_));refine cq (ι:=GN) (λg=>[]) [(0,_),(4,_),(5,_)] (λg=>Ws w (List.flatMap ao.ids (ak gb r l)) (ak gb g.r g.q++[ah b5 (.cells (GW s8 aL g.a g.ps.length g.c none 0 0 none 0 0).toArray 151 (0,0)),bt 9 1 cM g.a g.c g.ps,(bt 9 1 cM none 0 ([]:List Tx)),ah b4 (.cells (GW [] false none 0 0 none 0 0 none 0 0).toArray 151 (0,0))]) [HT]) (λg=>(g.ps.length+g.q.length<=l.length/\bX g.q)/\Sl aZ 3 HT g.r.1 g.r.2 g.q/\∃n,g.q.length<n/\iC (eF.length+1) true eF=(iC n (isNil g.ps) g.q).map λp=>(g.ps++p.1,p.2)) (λg=>g.q.length) ⟨[],none,0,vK,eF⟩ ⟨⟨by have:q8.length<l.length:=oI aJ oE; have:eF.length+1=q8.length:=ij gO; simp; omega,yb⟩,x_,eF.length+1,by simp,by simp [isNil]⟩ (sc O (sc O (sc O sn))) (λ_ h=>by have h:=h.aX 4 O; have h:=h.aX 3 O; have h:=h.aX 3 O; have h:=h.aX 4 O; have h:=h.aX 4 O; have h:=Ws.bF h (a_:=[HT]) (by simp); exact h) ?_;intro g ⟨⟨hlen,lG⟩,qy,hA⟩;refine Cs (ad (aa O ?_));refine Lw [_] _ Y O gL O O _ _ _ [HT] (by simp) (λw hw=>gM gb HT g.r g.q [41] w qy hw) ?_;intro ⟨fO,j5,lE⟩ ⟨F0,F1,ug⟩;refine V0 (dK O) (ab ?_);refine Cc O (λai=>?_) (λai=>?_)
 ·obtain ⟨sw,Kf⟩:=F1 (by simpa using ai);subst Kf;obtain ⟨n,hn,hA⟩:=hA;obtain ⟨n,rfl⟩:∃k,n=k+1:=⟨n-1,by omega⟩;refine aE (Cb (Cs (ad (V0 (Yf ue O) (V0 (Yd 1 O O O eE) (V0 (Yn cz O) (V0 (cI O O) (ab ?_))))))));refine Cc O (λaw=>?_) (λaw=>?_)
  ·have Rx:0<g.ps.length:=by simpa using aw
   rw [an4 Rx] at hA;refine Cr (aa O ?_);refine Lb Y O dc O O O O λb21=>?_;refine gq (T:=9) (m:=1) 0 [[44]] O O (show 1<=1 by decide) (by decide) λH21 aoy=>?_
   refine cW (ι:=(Option Addr×Nat)×Tk) (κ:=(Option Addr×Nat)×Tk) [_] _ Y O ir O O (λ_=>.tuple #[]) (λi=>ak gb i.1 i.2) (λi=>bZ [[44]] g.q=some i.2/\Sl aZ 3 HT i.1.1 i.1.2 i.2) (λ_=>bH) (λi=>ak gb i.1 i.2) (λ_=>bZ [[44]] g.q=none) ([HT,H21]) (by simp) (λw hw=>(iq gb HT j5 g.q H21 _ _ [[44]] w aoy ug hw).mono λe w' h=>by
       rcases h with ⟨r2,q,h1,h2,h3,h4⟩ | ⟨r2,q,h1,h2,h3⟩
       · exact .inl ⟨(r2,q),h1,⟨h2,h3⟩,h4⟩
       · exact .inr ⟨(r2,q),h1,h2,h3⟩) ?_ ?_
   ·intro ⟨rp,qp⟩ hp;rw [dq] at hp;refine Ep (WE.bx (Ep (WE.bx (Ep ?_))));refine bc λw' hw=>?_;rw [an1 sw hp] at hA;exact .inr ⟨rp,qp,O,by simp only [iS,oE,gO,hA,Option.bind_some,Option.bind_none,Option.map_none],(by have h:=hw; have h:=Wt 1 h; have h:=Ws.bF h (a_:=[HT]) (by simp); exact h)⟩
   intro ⟨QK,nI⟩ ⟨qC,QL⟩;have C4:=im lG qC;rw [dq] at qC;refine ab ?_;refine CU (λ_=>true) [0,1] [6,7] (.q false 0 (.q true 1 (.q false 2 (.e 3 (.e 4 (.e 5 .nil .stop) .stop) .stop)))) mixed (by kernel_rfl) (λ_ _ _ d _ _ h=>by cases d<;>exact h) ?_;refine U0 O (bR [0,1]) (Yf ue O) (U0 O (bR [0,1]) (Yd 0 O O O eE) (U0 O (bR [0,1]) (Ym O) ?_));refine Ue O (bR [0,1]) ?_ WU.stop
   refine cW (ι:=(Tx)×(Option Addr×Nat)×Tk) (κ:=(Option Addr×Nat)×Tk) [_] _ Y O sv O O (λi=>st i.1) (λi=>ak gb i.2.1 i.2.2) (λi=>cN nI=some (i.1,i.2.2)/\Sl aZ 3 HT i.2.1.1 i.2.1.2 i.2.2) (λ_=>bH) (λi=>ak gb i.1 i.2) (λ_=>cN nI=none) ([HT]) (by simp) (λw hw=>(sx gb HT QK nI w QL hw).mono λe w' h=>by
       rcases h with ⟨t,r2,q,h1,h2,h3,h4⟩ | ⟨r2,q,h1,h2,h3⟩
       · exact .inl ⟨(t,r2,q),h1,⟨h2,h3⟩,h4⟩
       · exact .inr ⟨(r2,q),h1,h2,h3⟩) ?_ ?_
   ·intro ⟨rp,qp⟩ hp;refine Ep (WE.bx (Ep (WE.bx (Ep ?_))));refine bc λw' hw=>?_;rw [an2 sw qC hp] at hA;exact .inr ⟨rp,qp,O,by simp only [iS,oE,gO,hA,Option.bind_some,Option.bind_none,Option.map_none],(by have h:=hw; have h:=Wt 1 h; have h:=Ws.bF h (a_:=[HT]) (by simp); exact h)⟩
   intro ⟨wj,Gq,kJ⟩ ⟨nK,Gr⟩;have Gu:=su C4 nK;refine Ln (Eu ?_);refine Ue O (bR [0,1]) ?_ WU.stop;refine Lb Y O dc O O O O λux=>?_;refine bL 0 (.cells (cM wj).toArray 9 (0,0)) O O (Ln (Eu ?_));refine Ue O (λ_ h=>(Wo 1 (Wo 0 (Wd 1 h)):)) ?_ WU.stop;refine LA (wj:Tx) 3 0 Y O dc O O O O O O (by have:=aJ.len; omega) (by have:=aJ.len; omega) λa28 c28=>?_;refine Ln (Eu ?_);refine WU.nil (λ_ h=>(Wo 1 (Wo 0 (Wd 1 h)):)) ?_;refine WS.e O ?_;refine V0 (Yf ue O) (Ln (Es ?_));refine WS.e O ?_;refine an 2 Y O O O LB O O O (Ln (Es ?_));refine WS.nil ?_;refine Eb ?_
   exact Ea (⟨g.ps++[wj],a28,c28,Gq,kJ⟩:GN) (by have:kJ.length<nI.length:=oI C4 nK; have:nI.length+1=g.q.length:=ij qC; show kJ.length<g.q.length; omega) ⟨⟨by have:kJ.length<nI.length:=oI C4 nK; have:nI.length+1=g.q.length:=ij qC; simp; omega,Gu⟩,Gr,n,(show kJ.length<n by have:kJ.length<nI.length:=oI C4 nK; have:nI.length+1=g.q.length:=ij qC; omega),by rw [hA,an0 sw qC nK,aa3]; simp [Function.comp_def]⟩ (sc O (sc O (sc O sn))) (λ_ h=>by
       have h:=h.aX 5 rfl;have h:=h.aX 5 rfl;have h:=h.aX 5 rfl;have h:=h.aX 5 rfl;have h:=h.aX 5 rfl;have h:=Wt 5 h;have h:=Ws.bF h (a_:=[HT]) (by simp)
       exact h)
  have Rx:¬0<g.ps.length:=by simpa using aw
  rw [an3 Rx] at hA;refine aE ?_;refine CU (λ_=>true) [0,1] [6,7] (.q false 0 (.q true 1 (.q false 2 (.e 3 (.e 4 (.e 5 .nil .stop) .stop) .stop)))) mixed (by kernel_rfl) (λ_ _ _ d _ _ h=>by cases d<;>exact h) ?_;refine U0 O (bR [0,1]) (Yf ue O) (U0 O (bR [0,1]) (Yd 0 O O O eE) (U0 O (bR [0,1]) (Ym O) ?_));refine Ue O (bR [0,1]) ?_ WU.stop
  refine cW (ι:=(Tx)×(Option Addr×Nat)×Tk) (κ:=(Option Addr×Nat)×Tk) [_] _ Y O sv O O (λi=>st i.1) (λi=>ak gb i.2.1 i.2.2) (λi=>cN g.q=some (i.1,i.2.2)/\Sl aZ 3 HT i.2.1.1 i.2.1.2 i.2.2) (λ_=>bH) (λi=>ak gb i.1 i.2) (λ_=>cN g.q=none) ([HT]) (by simp) (λw hw=>(sx gb HT j5 g.q w ug hw).mono λe w' h=>by
      rcases h with ⟨t,r2,q,h1,h2,h3,h4⟩ | ⟨r2,q,h1,h2,h3⟩
      · exact .inl ⟨(t,r2,q),h1,⟨h2,h3⟩,h4⟩
      · exact .inr ⟨(r2,q),h1,h2,h3⟩) ?_ ?_
  ·intro ⟨rp,qp⟩ hp;refine Ep (WE.bx (Ep (WE.bx (Ep ?_))));refine bc λw' hw=>?_;rw [anZ sw hp] at hA;exact .inr ⟨rp,qp,O,by simp only [iS,oE,gO,hA,Option.bind_some,Option.bind_none,Option.map_none],(by have h:=hw; have h:=Wt 1 h; exact h)⟩
  intro ⟨wj,Gq,kJ⟩ ⟨nK,Gr⟩;have Gu:=su lG nK;refine Ln (Eu ?_);refine Ue O (bR [0,1]) ?_ WU.stop;refine Lb Y O dc O O O O λux=>?_;refine bL 0 (.cells (cM wj).toArray 9 (0,0)) O O (Ln (Eu ?_));refine Ue O (λ_ h=>(Wo 1 (Wo 0 (Wd 1 h)):)) ?_ WU.stop;refine LA (wj:Tx) 3 0 Y O dc O O O O O O (by have:=aJ.len; omega) (by have:=aJ.len; omega) λa28 c28=>?_;refine Ln (Eu ?_);refine WU.nil (λ_ h=>(Wo 1 (Wo 0 (Wd 1 h)):)) ?_;refine WS.e O ?_;refine V0 (Yf ue O) (Ln (Es ?_));refine WS.e O ?_;refine an 2 Y O O O LB O O O (Ln (Es ?_));refine WS.nil ?_;refine Eb ?_
  exact Ea (⟨g.ps++[wj],a28,c28,Gq,kJ⟩:GN) (by have:kJ.length<g.q.length:=oI lG nK; show kJ.length<g.q.length; omega) ⟨⟨by have:kJ.length<g.q.length:=oI lG nK; simp; omega,Gu⟩,Gr,n,(show kJ.length<n by have:kJ.length<g.q.length:=oI lG nK; omega),by rw [hA,anY sw nK,aa3]; simp [Function.comp_def]⟩ (sc O (sc O (sc O sn))) (λ_ h=>by
      have h:=h.aX 5 rfl;have h:=h.aX 5 rfl;have h:=h.aX 5 rfl;have h:=h.aX 5 rfl;have h:=h.aX 5 rfl;have h:=Wt 5 h;have h:=Ws.bF h (a_:=[HT]) (by simp)
      exact h)
 have oD:=F0 (by simpa using ai);have Lt:=ik lG oD;obtain ⟨n,hn,hA⟩:=hA;obtain ⟨n,rfl⟩:∃k,n=k+1:=⟨n-1,by omega⟩;rw [anX oD] at hA;simp at hA;refine Ce (Ex (Ex (bA (Et (Cs (Cb ?_))))));refine cq (ι:=GN) (λv=>[]) [(0,_),(4,_),(5,_)] (λv=>Ws w (List.flatMap ao.ids (ak gb r l)) (ak gb v.r v.q++[ah b5 (.cells (GW s8 aL g.a g.ps.length g.c v.a v.ps.length v.c none 0 0).toArray 151 (0,0)),bt 9 1 cM g.a g.c g.ps,bt 9 1 cM v.a v.c v.ps,ah b4 (.cells (GW [] false none 0 0 none 0 0 none 0 0).toArray 151 (0,0))]) [HT]) (λv=>(v.ps.length+v.q.length<=l.length/\bX v.q)/\Sl aZ 3 HT v.r.1 v.r.2 v.q/\∃n,v.q.length<n/\jI (lE.length+1) lE=(jI n v.q).map λp=>(v.ps++p.1,p.2)) (λv=>v.q.length) ⟨[],none,0,j5,lE⟩ ⟨⟨by have:lE.length+1=g.q.length:=ij oD; simp; omega,Lt⟩,ug,lE.length+1,by simp,by simp⟩ (sc O (sc O (sc O sn))) (λ_ h=>h) ?_;intro v ⟨⟨aoz,Av⟩,Ry,hB⟩;refine Cs (ad (aa O ?_));refine Lw [_] _ Y O gL O O _ _ _ [HT] (by simp) (λw hw=>gM gb HT v.r v.q [108,111,99,97,108] w Ry hw) ?_;intro ⟨K5,Dc,oG⟩ ⟨Rb,Rc,Gv⟩;refine ab ?_;refine Cc O (λaO=>?_) (λaO=>?_)
 ·have mc:=Rb aO;have yk:=ik Av mc;obtain ⟨n,hn,hB⟩:=hB;obtain ⟨n,rfl⟩:∃k,n=k+1:=⟨n-1,by omega⟩;refine aE (Cb (Cs ?_));refine CU (λ_=>true) [0,2] [6,7] (.q false 0 (.q true 1 (.q false 2 (.e 3 (.e 4 (.e 5 .nil .stop) .stop) .stop)))) mixed (by kernel_rfl) (λ_ _ _ d _ _ h=>by cases d<;>exact h) ?_;refine U0 O (bR [0,2]) (Yf CT O) (U0 O (bR [0,2]) (Yd 0 O O O eE) (U0 O (bR [0,2]) (Ym O) ?_));refine Ue O (bR [0,2]) ?_ WU.stop
  refine cW (ι:=(Tx)×(Option Addr×Nat)×Tk) (κ:=(Option Addr×Nat)×Tk) [_] _ Y O sv O O (λi=>st i.1) (λi=>ak gb i.2.1 i.2.2) (λi=>cN oG=some (i.1,i.2.2)/\Sl aZ 3 HT i.2.1.1 i.2.1.2 i.2.2) (λ_=>bH) (λi=>ak gb i.1 i.2) (λ_=>cN oG=none) ([HT]) (by simp) (λw hw=>(sx gb HT Dc oG w Gv hw).mono λe w' h=>by
      rcases h with ⟨t,r2,q,h1,h2,h3,h4⟩ | ⟨r2,q,h1,h2,h3⟩
      · exact .inl ⟨(t,r2,q),h1,⟨h2,h3⟩,h4⟩
      · exact .inr ⟨(r2,q),h1,h2,h3⟩) ?_ ?_
  ·intro ⟨rp,qp⟩ hp;refine Ep (Ep (WE.bx (Ep (WE.bx (Ep ?_)))));refine bc λw' hw=>?_;rw [an7 mc hp] at hB;exact .inr ⟨rp,qp,O,by simp only [iS,oE,gO,hA,hB,Option.bind_some,Option.bind_none,Option.map_none],(by have h:=hw; have h:=Wt 1 h; exact h)⟩
  intro ⟨RA,GY,wq⟩ ⟨Dj,aoA⟩;have aoB:=su yk Dj;refine Ln (Eu ?_);refine Ue O (bR [0,2]) ?_ WU.stop;refine Lb Y O dc O O O O λb36=>?_;refine bL 0 (.cells (cM RA).toArray 9 (0,0)) O O (Ln (Eu ?_));refine Ue O (λ_ h=>(Wo 2 (Wo 0 (Wd 1 h)):)) ?_ WU.stop;refine LA (RA:Tx) 4 0 Y O dc O O O O O O (by have:=aJ.len; omega) (by have:=aJ.len; omega) λa37 c37=>?_;refine Ln (Eu ?_);refine WU.nil (λ_ h=>(Wo 2 (Wo 0 (Wd 1 h)):)) ?_;refine WS.e O ?_;refine V0 (Yf CT O) (Ln (Es ?_));refine WS.e O ?_;refine an 2 Y O O O LB O O O (Ln (Es ?_));refine WS.nil ?_;refine Et (Cr (aa O ?_));refine Lb Y O dc O O O O λuk=>?_;refine gq (T:=9) (m:=1) 0 [[59]] O O (show 1<=1 by decide) (by decide) λLm Gx=>?_;refine Lf 1 O ?_
  refine cW (ι:=(Option Addr×Nat)×Tk) (κ:=(Option Addr×Nat)×Tk) [_] _ Y O ir O O (λ_=>.tuple #[]) (λi=>ak gb i.1 i.2) (λi=>bZ [[59]] wq=some i.2/\Sl aZ 3 HT i.1.1 i.1.2 i.2) (λ_=>bH) (λi=>ak gb i.1 i.2) (λ_=>bZ [[59]] wq=none) ([HT,Lm]) (by simp) (λw hw=>(iq gb HT GY wq Lm _ _ [[59]] w Gx aoA hw).mono λe w' h=>by
      rcases h with ⟨r2,q,h1,h2,h3,h4⟩ | ⟨r2,q,h1,h2,h3⟩
      · exact .inl ⟨(r2,q),h1,⟨h2,h3⟩,h4⟩
      · exact .inr ⟨(r2,q),h1,h2,h3⟩) ?_ ?_
  ·intro ⟨rp,qp⟩ hp;rw [dq] at hp;refine WE.bx (Ep (WE.bx (Ep ?_)));refine bc λw' hw=>?_;rw [an8 mc Dj hp] at hB;exact .inr ⟨rp,qp,O,by simp only [iS,oE,gO,hA,hB,Option.bind_some,Option.bind_none,Option.map_none],(by have h:=hw; have h:=Wt 1 h; have h:=Ws.bF h (a_:=[HT]) (by simp); exact h)⟩
  intro ⟨GV,uw⟩ ⟨sG,Rv⟩;have Rw:=im aoB sG;rw [dq] at sG;refine Ln (Eb ?_)
  exact Ea (⟨v.ps++[RA],a37,c37,GV,uw⟩:GN) (by have:oG.length+1=v.q.length:=ij mc; have:wq.length<oG.length:=oI yk Dj; have:uw.length+1=wq.length:=ij sG; show uw.length<v.q.length; omega) ⟨⟨by have:oG.length+1=v.q.length:=ij mc; have:wq.length<oG.length:=oI yk Dj; have:uw.length+1=wq.length:=ij sG; simp; omega,Rw⟩,Rv,n,(show uw.length<n by have:oG.length+1=v.q.length:=ij mc; have:wq.length<oG.length:=oI yk Dj; have:uw.length+1=wq.length:=ij sG; omega),by rw [hB,an6 mc Dj sG]; simp [Function.comp_def]⟩ (sc O (sc O (sc O sn))) (λ_ h=>by
      have h:=h.aX 5 rfl;have h:=h.aX 5 rfl;have h:=h.aX 5 rfl;have h:=h.aX 5 rfl;have h:=h.aX 4 rfl;have h:=Wt 5 h;have h:=Ws.bF h (a_:=[HT]) (by simp)
      exact h)
 obtain ⟨Dg,Rf⟩:=Rc aO;subst Rf;obtain ⟨n,hn,hB⟩:=hB;obtain ⟨n,rfl⟩:∃k,n=k+1:=⟨n-1,by omega⟩;rw [an5 Dg] at hB;simp at hB;refine Ce (Ex (Ex (bA (Et (ad (aa O ?_))))))
 refine jc (ι:=((List aH)×(Option Addr×Nat))×(Option Addr×Nat)×Tk) (κ:=(Option Addr×Nat)×Tk) [_] _ Y O Gh O O (λi=>.slice i.1.2.1 i.1.1.length i.1.2.2) (λi=>ak gb i.2.1 i.2.2) (λF i=>eP 6 v.q=some (i.1.1,i.2.2)/\Sl (gn 7 6) 6 F i.1.2.1 i.1.2.2 i.1.1/\Sl aZ 3 HT i.2.1.1 i.2.1.2 i.2.2) (λ_=>bH) (λi=>ak gb i.1 i.2) (λ_=>eP 6 v.q=none) ([HT]) (by simp) (λ_ _ h=>h) (λw hw=>(aa1 HT 6 gb Dc v.q (1) w (by omega) Av Gv hw).mono λe w' h=>by
     rcases h with ⟨x,s,r2,q,h1,h2,h3,h4,h5⟩ | ⟨r2,q,h1,h2,h3⟩
     · exact .inl ⟨((x,s),r2,q),h1,⟨h2,h3,h4⟩,h5⟩
     · exact .inr ⟨(r2,q),h1,h2,h3⟩) ?_ ?_
 ·intro ⟨rp,qp⟩ hp;refine Ep ?_;refine bc λw' hw=>?_;exact .inr ⟨rp,qp,O,by simp only [iS,oE,gO,hA,hB,hp,Option.bind_some,Option.bind_none,Option.map_none],(by have h:=hw; have h:=Wt 1 h; exact h)⟩
 intro F43 ⟨⟨aoC,s43⟩,r43,q43⟩ aoF ⟨abc,aoG,aoH⟩;have az3:bX q43:=Gf Av abc;refine V0 (Yf Qr O) (an 1 Y O O O Gj O O O (ab (Cs ?_)));refine WC.o3 (rd:=rdStr) 2 O (λk hk=>by simp [ak,ah] at hk; subst hk; simp [df,ak,ah,aY]) iy (λ_ _ _ _ h=>h) λKP GZ G0=>?_;refine WC.o3 (rd:=rdStr) 2 O (λk hk=>by simp [ak,ah] at hk; subst hk; simp [df,ak,ah,aY]) iy (λ_ _ _ _ h=>h) λKL fKL hKL=>?_;refine Cr (V0 (bk 1 O O CR O) (an 2 Y O O O CS O O O (ab (aA ?_))));refine WE.dA (gR O (cZ 2 O O CR O)) λw' hw=>?_;exact .inl ⟨⟨s8,aL,g.ps,v.ps,aoC⟩,⟨(g.a,g.c),(v.a,v.c),s43⟩,r43,q43,O,by simp only [iS,oE,gO,hA,hB,abc,Option.bind_some,Option.map_some],⟨sD G0 (bN hw (by simp) GZ),sD hKL (bN hw (by simp) fKL),wh aoG (bN hw (by simp) aoF)⟩,aoH,Wv 3 (Wt 1 hw)⟩
structure GU where
 us:List Tx
 a:Option Addr
 c:Nat
 r:Option Addr×Nat
 q:Tk
def oJ (nm:Tx) (a1:Option Addr) (n1 c1:Nat) (a2:Option Addr) (n2 c2:Nat) (a3:Option Addr) (n3 c3:Nat) (a4:Option Addr) (n4 c4:Nat):List Value:=[st nm,.slice a1 n1 c1,.slice a2 n2 c2,.slice a3 n3 c3,.slice a4 n4 c4]
theorem wu {l q1 q2 q3:Tk} {nm:Tx} (h1:au [109,111,100,117,108,101] l=some q1) (h2:cN q1=some (nm,q2)) (h3:au [123] q2=some q3):lz l=(j1 (q3.length+1) q3).bind λu=>
   (lx ((dt u.2).2.length+1) (dt u.2).1 (dt u.2).2).bind λd=>(ly (d.2.length+1) d.1.2 d.2).bind λp=>if p.1.2=true then none else
   (au gJ p.2).bind λr=>(eP 6 r).bind λb=>(au [125] b.2).map λr=>(⟨nm,u.1,d.1.1,p.1.1,b.1⟩,r):=by
 rw [lz,show vF=[109,111,100,117,108,101] from rfl,h1]; simp only [Option.bind_some]; rw [h2]; simp only [Option.bind_some]; rw [h3]; rfl
theorem oK:zeroOf Tryz.prog 50=some (.agg #[st [],.slice none 0 0,.slice none 0 0,.slice none 0 0,.slice none 0 0]):=by kernel_rfl
theorem LC:fo Tryz.prog 50=some [(0,1),(1,1),(2,1),(3,1),(4,1)]:=by kernel_rfl
theorem pC:cC Tryz.prog 50=some 5:=by kernel_rfl
theorem aoK:Enters Tryz.prog 121:=enters_of Tryz.func121 (by kernel_rfl) rfl
theorem aoL:Enters Tryz.prog 122:=enters_of Tryz.func122 (by kernel_rfl) rfl
theorem RB:e9 Tryz.prog 47 151 (.agg #[st [],.bool false,.slice none 0 0,.slice none 0 0,.slice none 0 0]) 5 96:=ja (by kernel_rfl)
theorem aoM:cC Tryz.prog 47=some 1:=by kernel_rfl
theorem iW:gj Tryz.prog 50=some 5:=by kernel_rfl
theorem RC:e9 Tryz.prog 46 214 (.agg #[.int .i64 0,st [],.bool false,.int .i64 0]) 4 40:=ja (by kernel_rfl)
theorem aoN:cC Tryz.prog 46=some 1:=by kernel_rfl
theorem aoO (gb:Nat) (HT:View) (r:Option Addr×Nat) (l:Tk) (w:World) (aJ:bX l) (hm:Sl aZ 3 HT r.1 r.2 l) (hw:Ws w (List.flatMap ao.ids (ak gb r l)) (ak gb r l) [HT] w) :
   Calls Tryz.prog 49 #[.pointer (some ⟨gb,0,none⟩)] w λe w'=>(∃(m:aD) (s:jV) (r2:Option Addr×Nat) (q:Tk),e = .returned (.agg (fq m s).toArray)/\lz l=some (m,q)/\ko 7 6 (nv w w') s m/\Sl aZ 3 HT r2.1 r2.2 q/\Ws w (List.flatMap ao.ids (ak gb r l)) (ak gb r2 q) [HT] w')\/(∃(r2:Option Addr×Nat) (q:Tk),e = .panicked bH/\lz l=none/\Ws w (List.flatMap ao.ids (ak gb r l)) (ak gb r2 q) [HT] w'):=by
 refine enter Tryz.func49 O 71 O O ?_;refine CE hw (ad ?_);refine Al Y O oK λb2=>?_;refine bL 0 (.cells (oJ [] none 0 0 none 0 0 none 0 0 none 0 0).toArray 50 (0,0)) O O (ab (ad (aa O ?_)));refine Lb Y O dc O O O O λb8=>?_;refine gq (T:=9) (m:=1) 0 [[109,111,100,117,108,101]] O O (show 1<=1 by decide) (by decide) λH8 sH=>?_;refine Lf 1 O ?_
 refine cW (ι:=(Option Addr×Nat)×Tk) (κ:=(Option Addr×Nat)×Tk) [_] _ Y O ir O O (λ_=>.tuple #[]) (λi=>ak gb i.1 i.2) (λi=>bZ [[109,111,100,117,108,101]] l=some i.2/\Sl aZ 3 HT i.1.1 i.1.2 i.2) (λ_=>bH) (λi=>ak gb i.1 i.2) (λ_=>bZ [[109,111,100,117,108,101]] l=none) ([HT,H8]) (by simp) (λw hw=>(iq gb HT r l H8 _ _ [[109,111,100,117,108,101]] w sH hm hw).mono λe w' h=>by
     rcases h with ⟨r2,q,h1,h2,h3,h4⟩ | ⟨r2,q,h1,h2,h3⟩
     · exact .inl ⟨(r2,q),h1,⟨h2,h3⟩,h4⟩
     · exact .inr ⟨(r2,q),h1,h2,h3⟩) ?_ ?_
 ·intro ⟨rp,qp⟩ hp;rw [dq] at hp;refine Ep ?_;refine bc λw' hw=>?_;exact .inr ⟨rp,qp,O,by simp only [lz,vF,hp,Option.bind_none],(by have h:=hw; have h:=Wt 1 h; have h:=Ws.bF h (a_:=[HT]) (by simp); exact h)⟩
 intro ⟨r9,q9⟩ ⟨fQ,Q_⟩;have Db:=im aJ fQ;rw [dq] at fQ;refine ab (ad (aa O ?_))
 refine cW (ι:=(Tx)×(Option Addr×Nat)×Tk) (κ:=(Option Addr×Nat)×Tk) [_] _ Y O sv O O (λi=>st i.1) (λi=>ak gb i.2.1 i.2.2) (λi=>cN q9=some (i.1,i.2.2)/\Sl aZ 3 HT i.2.1.1 i.2.1.2 i.2.2) (λ_=>bH) (λi=>ak gb i.1 i.2) (λ_=>cN q9=none) ([HT]) (by simp) (λw hw=>(sx gb HT r9 q9 w Q_ hw).mono λe w' h=>by
     rcases h with ⟨t,r2,q,h1,h2,h3,h4⟩ | ⟨r2,q,h1,h2,h3⟩
     · exact .inl ⟨(t,r2,q),h1,⟨h2,h3⟩,h4⟩
     · exact .inr ⟨(r2,q),h1,h2,h3⟩) ?_ ?_
 ·intro ⟨rp,qp⟩ hp;refine Ep ?_;refine bc λw' hw=>?_;exact .inr ⟨rp,qp,O,by simp only [lz,vF,fQ,hp,Option.bind_some,Option.bind_none],(by have h:=hw; have h:=Wt 1 h; have h:=Ws.bF h (a_:=[HT]) (by simp); exact h)⟩
 intro ⟨qz,F2,lF⟩ ⟨jM,F3⟩;have Ki:=su Db jM;refine V0 (Yb oK LC O O) ?_;refine Al Y O oK λb3=>?_;refine an 0 Y O O O pC O O O (LW (λ_ h=>h.eM 9 1) (LW (λ_ h=>h.eM 214 4) (LW (λ_ h=>h.eM 151 5) ?_)));refine WL.v0 ?_;refine ab (ad (aa O ?_));refine Lb Y O dc O O O O λfO=>?_;refine gq (T:=9) (m:=1) 0 [[123]] O O (show 1<=1 by decide) (by decide) λLD G1=>?_;refine Lf 4 O ?_
 refine cW (ι:=(Option Addr×Nat)×Tk) (κ:=(Option Addr×Nat)×Tk) [_] _ Y O ir O O (λ_=>.tuple #[]) (λi=>ak gb i.1 i.2) (λi=>bZ [[123]] lF=some i.2/\Sl aZ 3 HT i.1.1 i.1.2 i.2) (λ_=>bH) (λi=>ak gb i.1 i.2) (λ_=>bZ [[123]] lF=none) ([HT,LD]) (by simp) (λw hw=>(iq gb HT F2 lF LD _ _ [[123]] w G1 F3 hw).mono λe w' h=>by
     rcases h with ⟨r2,q,h1,h2,h3,h4⟩ | ⟨r2,q,h1,h2,h3⟩
     · exact .inl ⟨(r2,q),h1,⟨h2,h3⟩,h4⟩
     · exact .inr ⟨(r2,q),h1,h2,h3⟩) ?_ ?_
 ·intro ⟨rp,qp⟩ hp;rw [dq] at hp;refine Ep ?_;refine bc λw' hw=>?_;exact .inr ⟨rp,qp,O,by simp only [lz,vF,fQ,jM,hp,Option.bind_some,Option.bind_none],(by have h:=hw; have h:=Wt 1 h; have h:=Ws.bF h (a_:=[HT]) (by simp); exact h)⟩
 intro ⟨eJ,Aw⟩ ⟨qJ,aoP⟩;have aoQ:=im Ki qJ;rw [dq] at qJ;refine ab (Cs (Cb ?_));refine cq (ι:=GU) (λg=>[]) [(0,_),(2,_),(3,_)] (λg=>Ws w (List.flatMap ao.ids (ak gb r l)) (ak gb g.r g.q++[ah b3 (.cells (oJ qz g.a g.us.length g.c none 0 0 none 0 0 none 0 0).toArray 50 (0,0)),bt 9 1 cM g.a g.c g.us,bt 214 4 bM.cells none 0 ([]:List bM),bt 151 5 PX.cells none 0 ([]:List PX),ah b2 (.cells (oJ [] none 0 0 none 0 0 none 0 0 none 0 0).toArray 50 (0,0))]) [v0,HT]) (λg=>(g.us.length+g.q.length<=l.length/\bX g.q)/\Sl aZ 3 HT g.r.1 g.r.2 g.q/\∃n,g.q.length<n/\j1 (Aw.length+1) Aw=(j1 n g.q).map λp=>(g.us++p.1,p.2)) (λg=>g.q.length) ⟨[],none,0,eJ,Aw⟩ ⟨⟨by have:q9.length+1=l.length:=ij fQ; have:lF.length<q9.length:=oI Db jM; have:Aw.length+1=lF.length:=ij qJ; simp; omega,aoQ⟩,aoP,Aw.length+1,by simp,by simp⟩ (sc O (sc O (sc O sn))) (λ_ h=>by have h:=h.aX 5 O; have h:=h.aX 2 O; have h:=h.aX 3 O; have h:=h.aX 4 O; have h:=h.aX 5 O; have h:=h.aX 5 O; have h:=Ws.bF h (a_:=[v0,HT]) (by simp); exact h) ?_;intro g ⟨⟨hlen,lG⟩,qy,hA⟩;refine Cs (ad (aa O ?_));refine Lw [_] _ Y O gL O O _ _ _ [HT] (by simp) (λw hw=>gM gb HT g.r g.q [117,115,101] w qy hw) ?_;intro ⟨b17,uy,k7⟩ ⟨aoR,aoS,abd⟩;refine ab ?_;refine Cc O (λai=>?_) (λai=>?_)
 ·have Ax:=aoR ai;have LF:=ik lG Ax;obtain ⟨n,hn,hA⟩:=hA;obtain ⟨n,rfl⟩:∃k,n=k+1:=⟨n-1,by omega⟩;refine aE (Cb (Cs ?_));refine CU (λ_=>true) [0,1] [6,7] (.q false 0 (.q true 1 (.q false 2 (.e 3 (.e 4 (.e 5 .nil .stop) .stop) .stop)))) mixed (by kernel_rfl) (λ_ _ _ d _ _ h=>by cases d<;>exact h) ?_;refine U0 O (bR [0,1]) (Yf sr O) (U0 O (bR [0,1]) (Yd 0 O O O eE) (U0 O (bR [0,1]) (Ym O) ?_));refine Ue O (bR [0,1]) ?_ WU.stop
  refine cW (ι:=(Tx)×(Option Addr×Nat)×Tk) (κ:=(Option Addr×Nat)×Tk) [_] _ Y O sv O O (λi=>st i.1) (λi=>ak gb i.2.1 i.2.2) (λi=>cN k7=some (i.1,i.2.2)/\Sl aZ 3 HT i.2.1.1 i.2.1.2 i.2.2) (λ_=>bH) (λi=>ak gb i.1 i.2) (λ_=>cN k7=none) ([HT]) (by simp) (λw hw=>(sx gb HT uy k7 w abd hw).mono λe w' h=>by
      rcases h with ⟨t,r2,q,h1,h2,h3,h4⟩ | ⟨r2,q,h1,h2,h3⟩
      · exact .inl ⟨(t,r2,q),h1,⟨h2,h3⟩,h4⟩
      · exact .inr ⟨(r2,q),h1,h2,h3⟩) ?_ ?_
  ·intro ⟨rp,qp⟩ hp;refine Ep (Ep (WE.bx (Ep (WE.bx (Ep ?_)))));refine bc λw' hw=>?_;rw [an_ Ax hp] at hA;exact .inr ⟨rp,qp,O,by rw [wu fQ jM qJ]; simp only [gJ,hA,Option.bind_some,Option.map_some,Option.bind_none,Option.map_none],(by have h:=hw; have h:=Wt 1 h; have h:=Ws.bF h (a_:=[HT]) (by simp); exact h)⟩
  intro ⟨RD,fC,pB⟩ ⟨uq,Rn⟩;have Ro:=su LF uq;refine Ln (Eu ?_);refine Ue O (bR [0,1]) ?_ WU.stop;refine Lb Y O dc O O O O λDk=>?_;refine bL 0 (.cells (cM RD).toArray 9 (0,0)) O O (Ln (Eu ?_));refine Ue O (λ_ h=>(Wo 1 (Wo 0 (Wd 1 h)):)) ?_ WU.stop;refine LA (RD:Tx) 3 0 Y O dc O O O O O O (by have:=aJ.len; omega) (by have:=aJ.len; omega) λa23 c23=>?_;refine Ln (Eu ?_);refine WU.nil (λ_ h=>(Wo 1 (Wo 0 (Wd 1 h)):)) ?_;refine WS.e O ?_;refine V0 (Yf sr O) (Ln (Es ?_));refine WS.e O ?_;refine an 2 Y O O O LB O O O (Ln (Es ?_));refine WS.nil ?_;refine Et (Cr (aa O ?_));refine Lb Y O dc O O O O λuz=>?_;refine gq (T:=9) (m:=1) 0 [[59]] O O (show 1<=1 by decide) (by decide) λH26 aoU=>?_;refine Lf 1 O ?_
  refine cW (ι:=(Option Addr×Nat)×Tk) (κ:=(Option Addr×Nat)×Tk) [_] _ Y O ir O O (λ_=>.tuple #[]) (λi=>ak gb i.1 i.2) (λi=>bZ [[59]] pB=some i.2/\Sl aZ 3 HT i.1.1 i.1.2 i.2) (λ_=>bH) (λi=>ak gb i.1 i.2) (λ_=>bZ [[59]] pB=none) ([HT,H26]) (by simp) (λw hw=>(iq gb HT fC pB H26 _ _ [[59]] w aoU Rn hw).mono λe w' h=>by
      rcases h with ⟨r2,q,h1,h2,h3,h4⟩ | ⟨r2,q,h1,h2,h3⟩
      · exact .inl ⟨(r2,q),h1,⟨h2,h3⟩,h4⟩
      · exact .inr ⟨(r2,q),h1,h2,h3⟩) ?_ ?_
  ·intro ⟨rp,qp⟩ hp;rw [dq] at hp;refine WE.bx (Ep (WE.bx (Ep ?_)));refine bc λw' hw=>?_;rw [aoa Ax uq hp] at hA;exact .inr ⟨rp,qp,O,by rw [wu fQ jM qJ]; simp only [gJ,hA,Option.bind_some,Option.map_some,Option.bind_none,Option.map_none],(by have h:=hw; have h:=Wt 1 h; have h:=Ws.bF h (a_:=[HT]) (by simp); exact h)⟩
  intro ⟨Lx,uu⟩ ⟨uv,Rq⟩;have Rr:=im Ro uv;rw [dq] at uv;refine Ln (Eb ?_)
  exact Ea (⟨g.us++[RD],a23,c23,Lx,uu⟩:GU) (by have:k7.length+1=g.q.length:=ij Ax; have:pB.length<k7.length:=oI LF uq; have:uu.length+1=pB.length:=ij uv; show uu.length<g.q.length; omega) ⟨⟨by have:k7.length+1=g.q.length:=ij Ax; have:pB.length<k7.length:=oI LF uq; have:uu.length+1=pB.length:=ij uv; simp; omega,Rr⟩,Rq,n,(show uu.length<n by have:k7.length+1=g.q.length:=ij Ax; have:pB.length<k7.length:=oI LF uq; have:uu.length+1=pB.length:=ij uv; omega),by rw [hA,an' Ax uq uv]; simp [Function.comp_def]⟩ (sc O (sc O (sc O sn))) (λ_ h=>by
      have h:=h.aX 6 rfl;have h:=h.aX 6 rfl;have h:=h.aX 6 rfl;have h:=h.aX 6 rfl;have h:=h.aX 6 rfl;have h:=h.aX 5 rfl;have h:=Wt 6 h;have h:=Ws.bF h (a_:=[v0,HT]) (by simp)
      exact h)
 obtain ⟨aoV,aoW⟩:=aoS ai;subst aoW;obtain ⟨n,hn,hA⟩:=hA;obtain ⟨n,rfl⟩:∃k,n=k+1:=⟨n-1,by omega⟩;rw [an9 aoV] at hA;simp at hA;refine Ce (Ex (Ex (bA (Et (ad (aa O ?_))))));refine Lw [_] _ Y O gL O O _ _ _ [HT] (by simp) (λw hw=>gM gb HT uy g.q [112,117,98] w abd hw) ?_;intro ⟨G2,r29,Ay⟩ ⟨abf,abg,RE⟩;have Az:dt g.q=(G2,Ay):=Rj abf abg;obtain ⟨aoY,az4⟩:bX Ay/\Ay.length<=List.length (g.q):=Rk lG abf abg;refine ae O (ab (Cs (Cb ?_)));refine cq (ι:=GD) (λv=>[(4,.bool v.aL)]) [(0,_),(2,_),(3,_)] (λv=>Ws w (List.flatMap ao.ids (ak gb r l)) (ak gb v.r v.q++[ah b3 (.cells (oJ qz g.a g.us.length g.c v.a v.ds.length v.c none 0 0 none 0 0).toArray 50 (0,0)),bt 9 1 cM g.a g.c g.us,bt 214 4 bM.cells v.a v.c v.ds,bt 151 5 PX.cells none 0 ([]:List PX),ah b2 (.cells (oJ [] none 0 0 none 0 0 none 0 0 none 0 0).toArray 50 (0,0))]) [v0,HT]) (λv=>(v.ds.length+v.q.length<=l.length/\bX v.q)/\Sl aZ 3 HT v.r.1 v.r.2 v.q/\∃n,v.q.length<n/\lx (Ay.length+1) G2 Ay=(lx n v.aL v.q).map λp=>((v.ds++p.1.1,p.1.2),p.2)) (λv=>v.q.length) ⟨[],none,0,G2,r29,Ay⟩ ⟨⟨by simp; omega,aoY⟩,RE,Ay.length+1,by simp,by simp⟩ (sc O (sc O (sc O (sc O sn)))) (λ_ h=>h) ?_;intro v ⟨⟨aoz,Av⟩,Ry,hB⟩;refine Cb (ad (aa O (aa O ?_)))
 refine cW (ι:=(Option bM)×(Option Addr×Nat)×Tk) (κ:=(Option Addr×Nat)×Tk) [_] _ Y O aoK O O (λi=>.tuple #[.agg #[.int .i64 ((i.1).getD (⟨0,[],v.aL,0⟩:bM)).kind,st ((i.1).getD (⟨0,[],v.aL,0⟩:bM)).nm,.bool ((i.1).getD (⟨0,[],v.aL,0⟩:bM)).aL,.int .i64 ((i.1).getD (⟨0,[],v.aL,0⟩:bM)).n],.bool (i.1).isSome]) (λi=>ak gb i.2.1 i.2.2) (λi=>ef v.aL v.q=some (i.1,i.2.2)/\Sl aZ 3 HT i.2.1.1 i.2.1.2 i.2.2) (λ_=>bH) (λi=>ak gb i.1 i.2) (λ_=>ef v.aL v.q=none) ([HT]) (by simp) (λw hw=>(aoh gb HT v.r v.q v.aL w Av Ry hw).mono λe w' h=>by
     rcases h with ⟨t,r2,q,h1,h2,h3,h4⟩ | ⟨r2,q,h1,h2,h3⟩
     · exact .inl ⟨(t,r2,q),h1,⟨h2,h3⟩,h4⟩
     · exact .inr ⟨(r2,q),h1,h2,h3⟩) ?_ ?_
 ·intro ⟨rp,qp⟩ hp;refine Ep (WE.bx (Ep (WE.bx (Ep ?_))));refine bc λw' hw=>?_;obtain ⟨n,hn,hB⟩:=hB;obtain ⟨n,rfl⟩:∃k,n=k+1:=⟨n-1,by omega⟩;rw [aod hp] at hB;exact .inr ⟨rp,qp,O,by rw [wu fQ jM qJ]; simp only [gJ,hA,Az,hB,Option.bind_some,Option.map_some,Option.bind_none,Option.map_none],(by have h:=hw; have h:=Wt 1 h; have h:=Ws.bF h (a_:=[HT]) (by simp); exact h)⟩
 intro ⟨RF,K9,kK⟩ ⟨mN,Dd⟩;have K_:=anU Av mN;refine aa O (V0 (Yx O O) (V0 (Yx O O) ?_));refine Al Y O ud λb5=>?_;refine an 0 Y O O O vV O O O (ae O (ab (Cs (ad (aa O (V0 (dK O) (ab ?_)))))));refine Cc O (λaw=>?_) (λaw=>?_)
 ·obtain ⟨n,hn,hB⟩:=hB;obtain ⟨n,rfl⟩:∃k,n=k+1:=⟨n-1,by omega⟩
  cases LG:RF with
  | some x=>rw [LG] at aw; simp at aw
  | none=>
  rw [LG] at mN;have aoZ:kK=v.q:=PR mN;rw [aob mN] at hB;simp at hB;refine Ce (Ex (Ec O (Ex (bA (Et (Cs (Cb ?_)))))));refine cq (ι:=GM) (λe=>[(4,.bool e.aL)]) [(0,_),(2,_),(3,_)] (λe=>Ws w (List.flatMap ao.ids (ak gb r l)) (ak gb e.r e.q++[ah b3 (.cells (oJ qz g.a g.us.length g.c v.a v.ds.length v.c e.a e.ps.length e.c none 0 0).toArray 50 (0,0)),bt 9 1 cM g.a g.c g.us,bt 214 4 bM.cells v.a v.c v.ds,bt 151 5 PX.cells e.a e.c e.ps,ah b2 (.cells (oJ [] none 0 0 none 0 0 none 0 0 none 0 0).toArray 50 (0,0))]) [e.J,HT]) (λe=>(e.ps.length+e.q.length<=l.length/\bX e.q)/\Sl aZ 3 HT e.r.1 e.r.2 e.q/\(ew w e.J/\uo e.J e.ps)/\∃n,e.q.length<n/\ly (kK.length+1) v.aL kK=(ly n e.aL e.q).map λp=>((e.ps.map (·.1)++p.1.1,p.1.2),p.2)) (λe=>e.q.length) ⟨[],none,0,v0,v.aL,K9,kK⟩ ⟨⟨(by have h:=congrArg List.length aoZ; simp at h ⊢; omega),K_⟩,Dd,⟨pW w,uo.nil _⟩,kK.length+1,by simp,by simp⟩ (sc O (sc O (sc O (sc O sn)))) (λ_ h=>by have h:=h.aX 6 O; have h:=h.aX 6 O; have h:=h.aX 6 O; have h:=h.aX 6 O; have h:=h.aX 6 O; have h:=h.aX 6 O; have h:=Wt 6 h; have h:=Ws.bF h (a_:=[v0,HT]) (by simp); exact h) ?_;intro e ⟨⟨az5,abh⟩,hme,⟨mL,hPX⟩,hC⟩;refine Cs (ad (aa O ?_));refine Lw [_] _ Y O gL O O _ _ _ [HT] (by simp) (λw hw=>gM gb HT e.r e.q [112,114,111,99] w hme hw) ?_;intro ⟨Gb,sz,iV⟩ ⟨QS,QT,we⟩;refine ab ?_;refine Cc O (λaO=>?_) (λaO=>?_)
  ·have lH:=QS aO;have uj:=ik abh lH;obtain ⟨n,hn,hC⟩:=hC;obtain ⟨n,rfl⟩:∃k,n=k+1:=⟨n-1,by omega⟩;refine aE (Cb (Cs ?_));refine CU (λ_=>true) [0,3] [7,8] (.q false 0 (.q true 1 (.q false 2 (.q false 3 (.e 4 (.e 5 (.e 6 .nil .stop) .stop) .stop))))) mixed (by kernel_rfl) (λ_ _ _ d _ _ h=>by cases d<;>exact h) ?_;refine U0 O (bR [0,3]) (Yf zT O) (U0 O (bR [0,3]) (Yd 0 O O O CQ) (U0 O (bR [0,3]) (Ym O) (U0 O (bR [0,3]) (Ym O) ?_)));refine Ue O (bR [0,3]) ?_ WU.stop
   refine jc (ι:=(dh×ym)×(Option Addr×Nat)×Tk) (κ:=(Option Addr×Nat)×Tk) [_] _ Y O aoL O O (λi=>.agg #[st (i.1.1).nm,.bool (i.1.1).aL,.slice (i.1.2).s1.1 (i.1.1).params.length (i.1.2).s1.2,.slice (i.1.2).s2.1 (i.1.1).ay.length (i.1.2).s2.2,.slice (i.1.2).s3.1 (i.1.1).body.length (i.1.2).s3.2]) (λi=>ak gb i.2.1 i.2.2) (λF i=>iS e.aL iV=some (i.1.1,i.2.2)/\Ar F i.1.1 i.1.2/\Sl aZ 3 HT i.2.1.1 i.2.1.2 i.2.2) (λ_=>bH) (λi=>ak gb i.1 i.2) (λ_=>iS e.aL iV=none) ([HT]) (by simp) (λ_ _ h=>h) (λw hw=>(aox gb HT sz iV e.aL w uj we hw).mono λe w' h=>by
       rcases h with ⟨x,s,r2,q,h1,h2,h3,h4,h5⟩ | ⟨r2,q,h1,h2,h3⟩
       · exact .inl ⟨((x,s),r2,q),h1,⟨h2,h3,h4⟩,h5⟩
       · exact .inr ⟨(r2,q),h1,h2,h3⟩) ?_ ?_
   ·intro ⟨rp,qp⟩ hp;refine Ep (Ep (WE.bx (Ep (WE.bx (Ep ?_)))));refine bc λw' hw=>?_;rw [aog lH hp] at hC;exact .inr ⟨rp,qp,O,by rw [wu fQ jM qJ]; simp only [gJ,hA,Az,hB,hC,Option.bind_some,Option.map_some,Option.bind_none,Option.map_none],(by have h:=hw; have h:=Wt 1 h; have h:=Ws.bF h (a_:=[HT]) (by simp); exact h)⟩
   intro F52 ⟨⟨RG,RH⟩,r52,AB⟩ ao2 ⟨G3,ao3,ao4⟩;have ao5:bX AB:=anW uj G3;refine Ln (Eu ?_);refine Ue O (λ_ h=>(Wv 1 (Wo 3 (Wo 0 h)):)) ?_ WU.stop;refine Lb Y O RB O O O O λG4=>?_;refine bL 0 (.cells (PX.cells (RG,RH)).toArray 151 (0,0)) O O (Ln (Eu ?_));refine Ue O (λ_ h=>(Wv 1 (Wo 3 (Wo 0 (Wd 1 h))):)) ?_ WU.stop;refine LA ((RG,RH):PX) 5 0 Y O RB O O O O O O (by have:=aJ.len; omega) (by have:=aJ.len; omega) λa54 c54=>?_;refine Ln (Eu ?_);refine WU.nil (λ_ h=>(Wv 1 (Wo 3 (Wo 0 (Wd 1 h))):)) ?_;refine WS.e O ?_;refine V0 (Yf zT O) (Ln (Es ?_));refine WS.e O ?_;refine an 2 Y O O O aoM O O O (Ln (Es ?_));refine WS.nil ?_;refine Et ?_;refine WC.jd λJ52 ao8 ao9 ao'=>?_;refine Cr (aa O (Lf 1 O ?_));refine Lw [_] _ Y O gL O O _ _ _ [HT] (by simp) (λw hw=>gM gb HT r52 AB [112,117,98] w ao4 hw) ?_;intro ⟨C_,Da,qF⟩ ⟨KQ,KR,KS⟩;have ao_:dt AB=(C_,qF):=Rj KQ KR;obtain ⟨KV,az7⟩:bX qF/\qF.length<=List.length (AB):=Rk ao5 KQ KR;refine ae O (Ln (Eb ?_))
   exact Ea (⟨e.ps++[(RG,RH)],a54,c54,J52,C_,Da,qF⟩:GM) (by have:iV.length+1=e.q.length:=ij lH; have:AB.length<iV.length:=Ri uj G3; show qF.length<e.q.length; omega) ⟨⟨by have:iV.length+1=e.q.length:=ij lH; have:AB.length<iV.length:=Ri uj G3; simp; omega,KV⟩,KS,⟨ao' _ ao2 mL,uo.snoc hPX ao9 ao8 ao3⟩,n,(show qF.length<n by have:iV.length+1=e.q.length:=ij lH; have:AB.length<iV.length:=Ri uj G3; omega),by rw [hC,aof lH G3 ao_]; simp [Function.comp_def]⟩ (sc O (sc O (sc O (sc O sn)))) (λ_ h=>by
       have h:=h.aX 6 rfl;have h:=h.aX 6 rfl;have h:=h.aX 6 rfl;have h:=h.aX 6 rfl;have h:=h.aX 6 rfl;have h:=h.aX 5 rfl;have h:=Wt 6 h;have h:=Ws.bF h (a_:=[J52,HT]) (by simp)
       exact h)
  obtain ⟨wg,QV⟩:=QT aO;subst QV;obtain ⟨n,hn,hC⟩:=hC;obtain ⟨n,rfl⟩:∃k,n=k+1:=⟨n-1,by omega⟩;rw [aoe wg] at hC;simp at hC;refine Ce (Ex (Ex (bA (Et (Cs (ad (aa O (ab ?_))))))));refine Cc O (λbd=>?_) (λbd=>?_)
  ·have AD:e.aL=true:=bd;refine Cr (V0 (Yb vZ vY O O) (V0 (rh v8 O) ?_));refine WL.panic Y O ?_;refine Ep ?_;refine bc λw' hw=>?_;exact .inr ⟨sz,e.q,O,by rw [wu fQ jM qJ]; simp only [gJ,hA,Az,hB,hC,AD,if_true,Option.bind_some,Option.map_some,Option.bind_none,Option.map_none],(by have h:=hw; have h:=Wt 1 h; have h:=Ws.bF h (a_:=[HT]) (by simp); exact h)⟩
  have AD:e.aL=false:=bd;refine aE (ad (aa O ?_));refine Lb Y O dc O O O O λQv=>?_;refine gq (T:=9) (m:=1) 0 [[109,97,105,110]] O O (show 1<=1 by decide) (by decide) λFY Qw=>?_
  refine cW (ι:=(Option Addr×Nat)×Tk) (κ:=(Option Addr×Nat)×Tk) [_] _ Y O ir O O (λ_=>.tuple #[]) (λi=>ak gb i.1 i.2) (λi=>bZ [[109,97,105,110]] e.q=some i.2/\Sl aZ 3 HT i.1.1 i.1.2 i.2) (λ_=>bH) (λi=>ak gb i.1 i.2) (λ_=>bZ [[109,97,105,110]] e.q=none) ([HT,FY]) (by simp) (λw hw=>(iq gb HT sz e.q FY _ _ [[109,97,105,110]] w Qw we hw).mono λe w' h=>by
      rcases h with ⟨r2,q,h1,h2,h3,h4⟩ | ⟨r2,q,h1,h2,h3⟩
      · exact .inl ⟨(r2,q),h1,⟨h2,h3⟩,h4⟩
      · exact .inr ⟨(r2,q),h1,h2,h3⟩) ?_ ?_
  ·intro ⟨rp,qp⟩ hp;rw [dq] at hp;refine Ep ?_;refine bc λw' hw=>?_;exact .inr ⟨rp,qp,O,by rw [wu fQ jM qJ]; simp only [gJ,hA,Az,hB,hC,AD,hp,Bool.false_eq_true,if_false,Option.bind_some,Option.map_some,Option.bind_none,Option.map_none],(by have h:=hw; have h:=Wt 1 h; have h:=Ws.bF h (a_:=[HT]) (by simp); exact h)⟩
  intro ⟨Dl,RI⟩ ⟨G5,apa⟩;have abk:=im abh G5;rw [dq] at G5;refine ab (ad (aa O ?_))
  refine jc (ι:=((List aH)×(Option Addr×Nat))×(Option Addr×Nat)×Tk) (κ:=(Option Addr×Nat)×Tk) [_] _ Y O Gh O O (λi=>.slice i.1.2.1 i.1.1.length i.1.2.2) (λi=>ak gb i.2.1 i.2.2) (λF i=>eP 6 RI=some (i.1.1,i.2.2)/\Sl (gn 7 6) 6 F i.1.2.1 i.1.2.2 i.1.1/\Sl aZ 3 HT i.2.1.1 i.2.1.2 i.2.2) (λ_=>bH) (λi=>ak gb i.1 i.2) (λ_=>eP 6 RI=none) ([HT]) (by simp) (λ_ _ h=>h) (λw hw=>(aa1 HT 6 gb Dl RI (1) w (by omega) abk apa hw).mono λe w' h=>by
      rcases h with ⟨x,s,r2,q,h1,h2,h3,h4,h5⟩ | ⟨r2,q,h1,h2,h3⟩
      · exact .inl ⟨((x,s),r2,q),h1,⟨h2,h3,h4⟩,h5⟩
      · exact .inr ⟨(r2,q),h1,h2,h3⟩) ?_ ?_
  ·intro ⟨rp,qp⟩ hp;refine Ep ?_;refine bc λw' hw=>?_;exact .inr ⟨rp,qp,O,by rw [wu fQ jM qJ]; simp only [gJ,hA,Az,hB,hC,AD,G5,hp,Bool.false_eq_true,if_false,Option.bind_some,Option.map_some,Option.bind_none,Option.map_none],(by have h:=hw; have h:=Wt 1 h; have h:=Ws.bF h (a_:=[HT]) (by simp); exact h)⟩
  intro F65 ⟨⟨abm,LH⟩,Dm,LI⟩ LJ ⟨G6,apb,apc⟩;have apd:bX LI:=Gf abk G6;refine V0 (Yf Qt O) (an 1 Y O O O Gj O O O (ab (ad (aa O ?_))));refine Lb Y O dc O O O O λLK=>?_;refine gq (T:=9) (m:=1) 0 [[125]] O O (show 1<=1 by decide) (by decide) λH68 ape=>?_
  refine cW (ι:=(Option Addr×Nat)×Tk) (κ:=(Option Addr×Nat)×Tk) [_] _ Y O ir O O (λ_=>.tuple #[]) (λi=>ak gb i.1 i.2) (λi=>bZ [[125]] LI=some i.2/\Sl aZ 3 HT i.1.1 i.1.2 i.2) (λ_=>bH) (λi=>ak gb i.1 i.2) (λ_=>bZ [[125]] LI=none) ([HT,H68]) (by simp) (λw hw=>(iq gb HT Dm LI H68 _ _ [[125]] w ape apc hw).mono λe w' h=>by
      rcases h with ⟨r2,q,h1,h2,h3,h4⟩ | ⟨r2,q,h1,h2,h3⟩
      · exact .inl ⟨(r2,q),h1,⟨h2,h3⟩,h4⟩
      · exact .inr ⟨(r2,q),h1,h2,h3⟩) ?_ ?_
  ·intro ⟨rp,qp⟩ hp;rw [dq] at hp;refine Ep ?_;refine bc λw' hw=>?_;exact .inr ⟨rp,qp,O,by rw [wu fQ jM qJ]; simp only [gJ,hA,Az,hB,hC,AD,G5,G6,hp,Bool.false_eq_true,if_false,Option.bind_some,Option.map_some,Option.bind_none,Option.map_none],(by have h:=hw; have h:=Wt 1 h; have h:=Ws.bF h (a_:=[HT]) (by simp); exact h)⟩
  intro ⟨r69,q69⟩ ⟨RJ,aph⟩;have az8:=im apd RJ;rw [dq] at RJ;refine ab (Cs ?_);refine WC.o3 (rd:=rdStr) 2 O (λk hk=>by simp [ak,ah] at hk; subst hk; simp [df,ak,ah,aY]) iy (λ_ _ _ _ h=>h) λKU fKU hKU=>?_;refine WC.o3 (rd:=zr) 2 O (λk hk=>by simp [ak,ah] at hk; subst hk; simp [df,ak,ah,aY]) bM.bq (λ_ _ _ _ h=>h) λKD fKD hKD=>?_;refine WC.o3 (rd:=Rl) 2 O (λk hk=>by simp [ak,ah] at hk; subst hk; simp [df,ak,ah,aY]) PX.bq (λ_ _ _ _ h=>h) λKP GZ G0=>?_;refine Cr (V0 (bk 1 O O iW O) (an 2 Y O O O pC O O O (ab (aA ?_))));refine WE.dA (gR O (cZ 2 O O iW O)) λw' hw=>?_;exact .inl ⟨⟨qz,g.us,v.ds,e.ps.map (·.1),abm⟩,⟨g.a,g.c,v.a,v.c,e.a,e.c,LH.1,LH.2⟩,r69,q69,by show Ending.returned (.agg #[st qz,.slice g.a g.us.length g.c,.slice v.a v.ds.length v.c,.slice e.a e.ps.length e.c,.slice LH.1 abm.length LH.2])=_; simp [fq],by rw [wu fQ jM qJ]; simp only [gJ,hA,Az,hB,hC,AD,G5,G6,RJ,Bool.false_eq_true,if_false,Option.bind_some,Option.map_some,Option.bind_none,Option.map_none],⟨sD hKU (bN hw (by simp) fKU),Rm hKD (bN hw (by simp) fKD),aa4 G0 (bN hw (by simp) GZ) (bN hw (by simp) mL) hPX,wh apb (bN hw (by simp) LJ)⟩,aph,Wv 7 (Wt 1 hw)⟩
 obtain ⟨n,hn,hB⟩:=hB;obtain ⟨n,rfl⟩:∃k,n=k+1:=⟨n-1,by omega⟩
 obtain ⟨yl,LG⟩:∃x,RF=some x:=by
   cases RF with
   | none=>simp at aw
   | some x=>exact ⟨x,rfl⟩
 subst LG;have az9:kK.length<v.q.length:=anV Av mN;refine aE (ad (V0 (Yf CP O) (V0 (Yd 2 O O O FU) (V0 (bk 0 O O pq O) ?_))));refine Lb Y O RC O O O O λwv=>?_;refine bL 0 (.cells (bM.cells yl).toArray 214 (0,0)) O O ?_;refine LA (yl:bM) 5 0 Y O RC O O O O O O (by have:=aJ.len; omega) (by have:=aJ.len; omega) λa42 c42=>?_;refine V0 (Yf CP O) (an 3 Y O O O aoN O O O (ab (Cr (aa O (Lf 2 O ?_)))));refine Lw [_] _ Y O gL O O _ _ _ [HT] (by simp) (λw hw=>gM gb HT K9 kK [112,117,98] w Dd hw) ?_;intro ⟨Q2,wi,nJ⟩ ⟨KM,KN,C9⟩;have apo:dt kK=(Q2,nJ):=Rj KM KN;obtain ⟨Am,az'⟩:bX nJ/\nJ.length<=List.length (kK):=Rk K_ KM KN;refine ae O (Ln (Eb ?_))
 exact Ea (⟨v.ds++[yl],a42,c42,Q2,wi,nJ⟩:GD) (by show nJ.length<v.q.length; omega) ⟨⟨by simp; omega,Am⟩,C9,n,(show nJ.length<n by omega),by rw [hB,aoc mN apo]; simp [Function.comp_def]⟩ (sc O (sc O (sc O (sc O sn)))) (λ_ h=>by
     have h:=h.aX 7 rfl;have h:=h.aX 7 rfl;have h:=h.aX 7 rfl;have h:=h.aX 7 rfl;have h:=h.aX 7 rfl;have h:=h.aX 5 rfl;have h:=Wt 6 h;have h:=Ws.bF h (a_:=[v0,HT]) (by simp)
     exact h)
theorem apq {s:Tx} (h:¬(ec s).2=0):bm s=(tY,(ec s).2):=by rw [bm,if_pos h]
theorem apr {s:Tx} (h:(ec s).2=0) (h1:lz (ec s).1=none):bm s=(tY,1):=by rw [bm,if_neg (by simp [h]),h1]
theorem aps {s:Tx} {m:aD} {q:Tk} (h:(ec s).2=0) (h1:lz (ec s).1=some (m,q)) (h2:0<q.length\/¬fG m=0):bm s=(tY,1):=by
 rw [bm,if_neg (by simp [h]),h1]
 cases q with
 | cons t r=>rfl
 | nil=>
   simp only;rw [if_neg]
   rcases h2 with h2 | h2
   · simp at h2
   · exact h2
theorem apt {s:Tx} {m:aD} {q:Tk} (h:(ec s).2=0) (h1:lz (ec s).1=some (m,q)) (h2:q.length=0) (h3:fG m=0):bm s=(m,0):=by
 rw [bm,if_neg (by simp [h]),h1];obtain rfl:q=[]:=List.eq_nil_of_length_eq_zero h2;simp only;rw [if_pos h3]
theorem RL {s:Tx} (h:(ec s).2=0):bX (ec s).1:=⟨ajM h,(VB (VC h)).2⟩
def LL:jV:=⟨none,0,none,0,none,0,none,0⟩
theorem RM (N:View):ko 7 6 N LL tY:=⟨Sl.nil,Sl.nil,Sl.nil,Sl.nil⟩
theorem apu {H N:View} {ke ks:Nat} {s:jV} {m:aD} (h:ko ke ks H s m) (hv:aK H N):ko ke ks N s m:=⟨sD h.ag hv,Rm h.decls hv,h.procs.imp λb o x hx=>VI hv (Nat.le_refl _) (Nat.le_refl _) b o x hx,h.main.imp λb o x hx=>zv hv (Nat.le_refl _) (Nat.le_refl _) b o x hx⟩
theorem G7:Tryz.prog.underlying 20=some (.interface (Tryz.prog.methodsAt 20)):=by kernel_rfl
theorem yt:cC Tryz.prog 23=some 1:=by kernel_rfl
theorem abo:zeroOf Tryz.prog 23=some (.int .i64 0):=by kernel_rfl
theorem apv:Enters Tryz.prog 47:=enters_of Tryz.func47 (by kernel_rfl) rfl
theorem oL:dQ Tryz.prog 23=true:=by kernel_rfl
theorem apw:fo Tryz.prog 96=some [(0,1)]:=by kernel_rfl
theorem apx:zeroOf Tryz.prog 96=some (.agg #[.slice none 0 0]):=by kernel_rfl
theorem apy:Enters Tryz.prog 49:=enters_of Tryz.func49 (by kernel_rfl) rfl
theorem RO:Enters Tryz.prog 48:=enters_of Tryz.func48 (by kernel_rfl) rfl
theorem RP:Enters Tryz.prog 50:=enters_of Tryz.func50 (by kernel_rfl) rfl
theorem apz (b2 b3:Nat) (m0:Array Value) (AE:m0.size=5) (e0:Int) (w:World) (hw:Ws w (List.flatMap ao.ids [ah b2 (.cells m0 50 (0,0)),ah b3 (.cells #[.int .i64 e0] 23 (0,0))]) [ah b2 (.cells m0 50 (0,0)),ah b3 (.cells #[.int .i64 e0] 23 (0,0))] [] w) :
   CallsD Tryz.prog 48 #[.pointer (some ⟨b2,0,none⟩),.pointer (some ⟨b3,0,none⟩)] (.returning) w λe u2 w'=>u2 = .returning/\(e = .returned (.tuple #[])/\Ws w (List.flatMap ao.ids [ah b2 (.cells m0 50 (0,0)),ah b3 (.cells #[.int .i64 e0] 23 (0,0))]) [ah b2 (.cells m0 50 (0,0)),ah b3 (.cells #[.int .i64 e0] 23 (0,0))] [] w'):=by
 refine BF Tryz.func48 O 5 O O O O O (λ_=>rfl) (.inl ⟨O,O,O⟩) ?_;refine LW (W':=Ws w (List.flatMap ao.ids [ah b2 (.cells m0 50 (0,0)),ah b3 (.cells #[.int .i64 e0] 23 (0,0))]) [ah b2 (.cells m0 50 (0,0)),ah b3 (.cells #[.int .i64 e0] 23 (0,0))] []) (λ_ e=>by subst e; exact hw) (V0 (N0 G7 O) (ab ?_));refine WC.lj O ?_;refine Ck ?_;refine E0 O λw' hw=>?_;exact ⟨O,hw⟩
theorem abp (b2 b3:Nat) (m0:List Value) (AE:m0.length=5) (e0:Int) (w:World) (hw:Ws w (List.flatMap ao.ids [ah b2 (.cells m0.toArray 50 (0,0)),ah b3 (.cells #[.int .i64 e0] 23 (0,0))]) [ah b2 (.cells m0.toArray 50 (0,0)),ah b3 (.cells #[.int .i64 e0] 23 (0,0))] [] w) :
   CallsD Tryz.prog 48 #[.pointer (some ⟨b2,0,none⟩),.pointer (some ⟨b3,0,none⟩)] (.panicking bH) w λe u2 w'=>u2 = .panicking [⟨.iface 100 (.agg #[]),true,false⟩]/\(e = .returned (.tuple #[])/\Ws w (List.flatMap ao.ids [ah b2 (.cells m0.toArray 50 (0,0)),ah b3 (.cells #[.int .i64 e0] 23 (0,0))]) [ah b2 (.cells (oJ [] none 0 0 none 0 0 none 0 0 none 0 0).toArray 50 (0,0)),ah b3 (.cells #[.int .i64 1] 23 (0,0))] [] w'):=by
 refine BF Tryz.func48 O 5 O O O O O (λ_=>rfl) (.inr ⟨_,O,O,O⟩) ?_;refine LW (W':=Ws w (List.flatMap ao.ids [ah b2 (.cells m0.toArray 50 (0,0)),ah b3 (.cells #[.int .i64 e0] 23 (0,0))]) [ah b2 (.cells m0.toArray 50 (0,0)),ah b3 (.cells #[.int .i64 e0] 23 (0,0))] []) (λ_ e=>by subst e; exact hw) (V0 (U3 G7 O) (ab ?_));refine WC.Nt O ?_;refine Cr (V0 (Yb oK LC O O) ?_);refine WL.UC 0 (.cells (oJ [] none 0 0 none 0 0 none 0 0 none 0 0).toArray 50 (0,0)) Y O O O pC O O (by simp [va,AE]) (by simp [u_,dN,oJ,AE,List.drop_eq_nil_of_le]) ?_;refine an 1 Y O O O yt O O O (Ln ?_);refine E0 O λw' hw=>?_;exact ⟨O,hw⟩
theorem RQ (G:View) (s:Tx) (w:World) (hG:Le G w) (hz:Laid G) :
   Calls Tryz.prog 18 #[st s] w λe w'=>∃r:jV,e = .returned (.tuple #[.agg (fq (bm s).1 r).toArray,.int .i64 (bm s).2])/\Ext w w'/\ko 7 6 (nv w w') r (bm s).1:=by
 refine NU Tryz.func18 O 35 O O ?_;refine CE (Vs:=[G]) (Ws.init (by simp [hG])) (ad ?_);refine Al Y O oK λb2=>?_;refine bL 0 (.cells (oJ [] none 0 0 none 0 0 none 0 0 none 0 0).toArray 50 (0,0)) O O ?_;refine Al Y O abo λb3=>?_;refine bL 0 (.cells #[.int .i64 0] 23 (0,0)) O O (ab (ad (aa O ?_)));refine Ld Y O apv O (λr:Option Addr×Nat=>.tuple #[.slice r.1 (ec s).1.length r.2,.int .i64 (ec s).2]) (λF r=>Sl aZ 3 F r.1 r.2 (ec s).1) (λw hw=>akr G s w (hw.vs _ (by simp)) hz) ?_;intro F8 r8 hf8 h8;refine aa O (V0 (Yx O O) (V0 (Yx O O) (ae O (an 0 Y O O O yt O O O (ab (Cs (ad (V0 (Yd 0 O O O oL) (V0 (eL O O) ?_)))))))));refine ab ?_;refine Cc O (λai=>?_) (λai=>?_)
 ·have he:¬(ec s).2=0:=by simpa using ai
  refine Cs ?_;refine CU (ri [.cell 2 50,.cell 3 23]) [1] [3] (.q false 0 (.q true 1 (.e 2 .nil .stop))) mixed (by kernel_rfl) (λ_ _ _ _ _ hd h=>zh (fn:=Tryz.f18) [.cell 2 50,.cell 3 23] O hd h) ?_;refine U0 O (Wp 1) (Yb oK LC O O) (U0 O (Wp 1) (Yd 0 O O O oL) ?_);refine Ue O (Wp 1) ?_ WU.stop;refine an 1 Y O O O pC O O O (Ln (Eu ?_));refine WU.nil (Wp 1) ?_;refine WS.e O ?_;refine an 0 Y O O O yt O O O (Ln (Es ?_));refine WS.nil ?_;refine Et (aA (Er ?_));refine WE.NW (eZ O (cZ 1 O O iW O) (oV 0 O O O oL)) λw' hw=>?_;rw [apq he];exact ⟨LL,O,hw.fr,RM _⟩
 have he:(ec s).2=0:=by simpa using ai
 refine fg 0 (.cells #[.int .i64 0] 23 (0,0)) O (by show Obj.cells #[.int .i64 (ec s).2] _ _=_; rw [he]) (aE (ad (V0 (zb O) ?_)));refine WL.defer Y O ?_;refine ab (ad (aa O (V0 (Yb apx apw O O) ?_)));refine WL.box Y O O λck=>?_;refine ae O (ab (ad (aa O ?_)))
 refine jc (ι:=(aD×jV)×(Option Addr×Nat)×Tk) (κ:=(Option Addr×Nat)×Tk) [_] _ Y O apy O O (λi=>.agg (fq i.1.1 i.1.2).toArray) (λi=>ak ck i.2.1 i.2.2) (λF i=>lz (ec s).1=some (i.1.1,i.2.2)/\ko 7 6 F i.1.2 i.1.1/\Sl aZ 3 F8 i.2.1.1 i.2.1.2 i.2.2) (λ_=>bH) (λi=>ak ck i.1 i.2) (λ_=>lz (ec s).1=none) ([F8]) (by simp) (λ_ _ h=>h) (λw hw=>(aoO ck F8 r8 (ec s).1 w (RL he) h8 hw).mono λe w' h=>by
     rcases h with ⟨x,s,r2,q,h1,h2,h3,h4,h5⟩ | ⟨r2,q,h1,h2,h3⟩
     · exact .inl ⟨((x,s),r2,q),h1,⟨h2,h3,h4⟩,h5⟩
     · exact .inr ⟨(r2,q),h1,h2,h3⟩) ?_ ?_
 ·intro ⟨rp,qp⟩ hp;refine Ep ?_;refine WE.front 1 O ?_;refine WE.front 2 O ?_;refine WE.zg RO (s0 [_,_] _ [ah b2 (.cells (oJ [] none 0 0 none 0 0 none 0 0 none 0 0).toArray 50 (0,0)),ah b3 (.cells #[.int .i64 1] 23 (0,0))] O (λw hw=>abp b2 b3 (oJ [] none 0 0 none 0 0 none 0 0 none 0 0) O 0 w hw)) (eZ O (cZ 0 O O iW O) (oV 1 O O O oL)) λw' hw=>?_;rw [apr he hp];exact ⟨LL,O,hw.fr,RM _⟩
 intro LO ⟨⟨m20,Dn⟩,QG,yf⟩ G8 ⟨v_,abq,Z5⟩
 have x0:wM m20<=73728:=by
   have h1:wM m20+18*yf.length<=18*(ec s).1.length:=Y9 v_;have:=(RL he).len;omega
 refine an 2 Y O O O pC O O O (ab (Cs (Cs (fg 2 (.cells (fq m20 Dn).toArray 50 (0,0)) O O (Cr (aa O (V0 (bD O) (V0 (Yf qx O) (V0 (Yd 0 O O O uf) ?_)))))))));refine V0 (Yn t' O) (V0 (cI O O) (aa O ?_));apply Lo 3 O O O O Y O O O O O
 ·intro du;refine Vg (bk 2 O O iW O) (Lp (.g O O O) O RP O (λw hw=>Qu LO 7 6 Dn m20 w (hw.vs _ (by simp)) abq (by omega)) (Vg (eL O O) ?_));exact Gt 3 O O O
 refine ab ?_;refine Cc O (λaw=>?_) (λaw=>?_)
 ·have e_:0<yf.length\/¬fG m20=0:=by simpa using aw
  refine Cr (V0 (Yb vZ vY O O) (V0 (rh v8 O) ?_));refine WL.panic Y O ?_;refine Ep ?_;refine WE.front 1 O ?_;refine WE.front 2 O ?_;refine WE.zg RO (s0 [_,_] _ [ah b2 (.cells (oJ [] none 0 0 none 0 0 none 0 0 none 0 0).toArray 50 (0,0)),ah b3 (.cells #[.int .i64 1] 23 (0,0))] O (λw hw=>abp b2 b3 (fq m20 Dn) O 0 w hw)) (eZ O (cZ 0 O O iW O) (oV 1 O O O oL)) λw' hw=>?_;rw [aps he v_ e_];exact ⟨LL,O,hw.fr,RM _⟩
 have hy:¬0<yf.length/\fG m20=0:=by simpa using aw
 refine aE (ad (V0 (bk 2 O O iW O) (an 2 Y O O O pC O O O (an 1 Y O O O yt O O O (ab (aA ?_))))));refine WE.front 1 O ?_;refine WE.front 2 O ?_;refine WE.NV RO (s0 [_,_] _ [ah b2 (.cells (fq m20 Dn).toArray 50 (0,0)),ah b3 (.cells #[.int .i64 0] 23 (0,0))] O (λw hw=>apz b2 b3 (fq m20 Dn).toArray O 0 w hw)) (eZ O (cZ 0 O O iW O) (oV 1 O O O oL)) λw' hw=>?_;rw [apt he v_ (by have:=hy.1; show yf.length=0; omega) hy.2];exact ⟨Dn,O,hw.fr,apu abq (bN hw (by simp) G8)⟩
theorem abr (s:Tx):(cM s).all (·.oneCell')=true:=rfl
theorem apB:bw Tryz.prog 214 2=some 2:=by kernel_rfl
theorem apC:bw Tryz.prog 151 1=some 1:=by kernel_rfl
def asks (s:Tx) (l:Tk):Bool:=(l.head?.map λt=>(!(t.kind==2)&&(t.text==s))).getD false
structure GE where
 es:List XE
 a:Option Addr
 c:Nat
 J:View
 r:Option Addr×Nat
 q:Tk
 more:Bool
structure GO where
 j:Nat
 o:Int
 r:Option Addr×Nat
 q:Tk
structure G9 (f:Nat) (N:View) (x:aH) (p:qD):Prop where
 args:Sl (eU 8) 5 N p.s1.1 p.s1.2 x.args
 body:Sl (gn 8 f) 6 N p.s2.1 p.s2.2 x.body
 other:Sl (gn 8 f) 6 N p.s3.1 p.s3.2 x.other
theorem RR {H N:View} {f c:Nat} {a:Option Addr} {l:List aH} (h:Sl (gn 8 f) 6 H a c l) (hv:aK H N):Sl (gn 8 f) 6 N a c l:=h.imp λb o y hy=>zv hv (Nat.le_refl _) (Nat.le_refl _) b o y hy
theorem G9.mv {f:Nat} {H N:View} {x:aH} {p:qD} (h:G9 f H x p) (hv:aK H N):G9 f N x p:=⟨F4 h.args hv,RR h.body hv,RR h.other hv⟩
def G' (J:View) (f:Nat) (es:List SX):Prop:=∀e ∈ es,G9 f J e.1 e.2
theorem G'.nil (J:View) (f:Nat):G' J f []:=by intro e h; simp at h
theorem G'.snoc {J J1 J2:View} {f:Nat} {es:List SX} {e:SX} (h:G' J f es) (h1:aK J J2) (h2:aK J1 J2) (he:G9 f J1 e.1 e.2):G' J2 f (es++[e]):=by
 intro x hx
 rcases List.mem_append.1 hx with hx | hx
 · exact (h x hx).mv h1
 · rw [List.mem_singleton] at hx
   subst hx;exact he.mv h2
variable {pb:Tk->List aH×Tk} {l r q1 q2 q3 q4:Tk} {x y:az} {b o:List aH} {p:Tx×Tx} {xs:List az}
variable {ps:Tk->aH×Tk} {s:aH} {n:Nat}
theorem G_:fo Tryz.prog 242=some [(0,1),(1,1),(2,1),(3,1),(4,1),(5,1)]:=by kernel_rfl
structure Ha (N:View) (x:dh) (p:ym):Prop where
 params:Sl rdStr 1 N p.s1.1 p.s1.2 x.params
 ay:Sl rdStr 1 N p.s2.1 p.s2.2 x.ay
 body:Sl (gn 8 6) 6 N p.s3.1 p.s3.2 x.body
theorem Ha.mv {H N:View} {x:dh} {p:ym} (h:Ha H x p) (hv:aK H N):Ha N x p:=⟨sD h.params hv,sD h.ay hv,RR h.body hv⟩
def Hb (J:View) (es:List PX):Prop:=∀e ∈ es,Ha J e.1 e.2
theorem Hb.nil (J:View):Hb J []:=by intro e h; simp at h
theorem Hb.snoc {J J1 J2:View} {es:List PX} {e:PX} (h:Hb J es) (h1:aK J J2) (h2:aK J1 J2) (he:Ha J1 e.1 e.2):Hb J2 (es++[e]):=by
 intro x hx
 rcases List.mem_append.1 hx with hx | hx
 · exact (h x hx).mv h1
 · rw [List.mem_singleton] at hx
   subst hx;exact he.mv h2
structure GD2 where
 ds:List bM
 a:Option Addr
 c:Nat
 go:Bool
 aL:Bool
 r:Option Addr×Nat
 q:Tk
structure GH where
 ps:List Tx
 a:Option Addr
 c:Nat
 more:Bool
 r:Option Addr×Nat
 q:Tk
theorem sz4:cC Tryz.prog 4=some 1:=by kernel_rfl
theorem apD (H1 H2:View) (a1 a2:Option Addr) (c1 c2:Nat) (l:List Tx) (w:World) (pD:Le H1 w) (sI:Le H2 w) (iB:Sl rdStr 1 H1 a1 c1 l) (iG:Sl rdStr 1 H2 a2 c2 l) :
   Calls Tryz.prog 44 #[.slice a1 l.length c1,.slice a2 l.length c2] w λe w'=>e = .returned (.bool true)/\Ext w w':=by
 have LP:=iB.cap;have LQ:=iB.max;have LR:=iG.cap;have LS:=iG.max;refine enter Tryz.func44 O 26 O O ?_;refine CE (Vs:=[H1,H2]) (Ws.init (by simp [pD,sI])) (ad (ae O (ab (Cs (ad (aa O (V0 (Yn cz O) (aa O (V0 (Yn cz O) ?_)))))))));refine V0 (mA O O O) (ab ?_);refine WC.lj O ?_;refine aE (Cs (ad (ae O (ab (Cb ?_)))));refine CW (ι:=Nat) (λi=>[(5,.int .i64 (i:Int))]) [(0,_),(1,_)] (λi=>i<=l.length) (λi=>l.length-i) 0 (Nat.zero_le _) (sc O (sc O (sc O sn))) ?_;intro i hi;refine Cs (ad (aa O (aa O (V0 (Yn cz O) (V0 (bj O O) (ab ?_))))));refine Cc O (λaw=>?_) (λaw=>?_)
 ·have av:i<l.length:=by simpa using aw
  obtain ⟨x,hx⟩:∃x,l[i]? = some x:=⟨_,List.getElem?_eq_getElem av⟩;obtain ⟨pb,po,j6,ez⟩:=iB.aS i x hx;obtain ⟨qb,qo,gk,eV⟩:=iG.aS i x hx;have ez:aR H1 pb (po+i*1) (cM x):=ez;have eV:aR H2 qb (qo+i*1) (cM x):=eV;refine aE (Cs (Cb (Cs ?_)));refine WC.nc [(0,true),(1,true),(2,true),(3,true),(4,true),(5,true),(6,true),(7,true),(8,true)] mixed (by kernel_rfl) (λ_ _ _ d _ h=>by cases d<;>exact h) ?_;refine D0 O (λ_ h=>h) (Ym O) (D0 O (λ_ h=>h) (Ym O) (D0 O (λ_ h=>h) (Yo cz O O j6 (by omega)) (D0 O (λ_ h=>h) (bo 0 bW O O (ez 0 _ O)) (D0 O (λ_ h=>h) (Ym O) (D0 O (λ_ h=>h) (Ym O) (D0 O (λ_ h=>h) (Yo cz O O gk (by omega)) (D0 O (λ_ h=>h) (bo 1 bW O O (eV 0 _ O)) ?_)))))));refine D0 O (λ_ h=>h) (Oz O O O) ?_;refine WD.nil (λ_ h=>h) ?_;refine Et ?_;refine WC.lj O ?_;refine Ck (Eb (Et (Cr (aa O (V0 (Yi O O O (by omega)) (ae O (Ln ?_)))))));exact Ea (i+1) (by omega) (by omega) (sc O (sc O (sc O sn))) (λ_ h=>h)
 refine Ce (Ex (Ex (bA (Et (ad (ae O (ab (aA ?_))))))));refine R1 O O λw' hw=>?_;exact ⟨O,hw.fr⟩
abbrev SP:=Option Addr×Nat
def AF:aN->List UInt8:=λx=>x.name
abbrev nM:=List UInt8×Int×Nat
def iv (M:List nM):List nX:=M.map λe=>(e.1,.int .i64 e.2.1,e.2.2)
def mO (k:List UInt8):List nM->Nat->Option (Nat×Int)
 | [],_=>none
 | e::r,i=>if (k==e.1)=true then some (i,e.2.1) else mO k r (i+1)
def RS (k:List UInt8) (M:List nM):Int:=match mO k M 0 with | some (_,n)=>n | none=>0
def Hc (k:List UInt8) (n:Int) (M:List nM) (c:Nat):List nM:=match mO k M 0 with
 | some (i,_)=>M.modify i λe=>(k,n,e.2.2)
 | none=>M++[(k,n,c)]
def RT (k:List UInt8) (M:List nM) (c:Nat):Nat:=match mO k M 0 with | some _=>c | none=>c+1
theorem LU (k:List UInt8):∀(M:List nM) (i:Nat),oU k (iv M) i=(mO k M i).map λr=>(r.1,.int .i64 r.2)
 | [],_=>rfl
 | e::r,i=>by
   simp only [iv,List.map_cons,oU,mO];cases (k==e.1)
   · simp only [Bool.false_eq_true,if_false]
     exact LU k r (i+1)
   · simp
theorem apE (k:List UInt8) (M:List nM):EG k (iv M) (.int .i64 0) = .int .i64 (RS k M):=by
 unfold EG RS;rw [LU]
 cases mO k M 0<;>rfl
theorem apF (k:List UInt8) (n:Int) (M:List nM) (c:Nat):BC k (.int .i64 n) (iv M) c=iv (Hc k n M c):=by
 unfold BC Hc;rw [LU]
 cases mO k M 0 with
 | none=>simp [iv]
 | some r=>
   simp only [Option.map_some];apply List.ext_getElem?;intro i;simp only [iv,List.getElem?_modify,List.getElem?_map]
   cases M[i]? with
   | none=>simp
   | some e=>by_cases h:r.1=i<;>simp [h]
theorem apG (k:List UInt8) (M:List nM) (c:Nat):BD k (iv M) c=RT k M c:=by
 unfold BD RT;rw [LU]
 cases mO k M 0<;>rfl
def keysOf (M:List nM):List (List UInt8):=M.map (·.1)
theorem RU {k:List UInt8}:∀{M:List nM} {i:Nat},mO k M i=none↔k ∉ keysOf M
 | [],_=>by simp [mO,keysOf]
 | e::r,i=>by
   simp only [mO,keysOf,List.map_cons,List.mem_cons,not_or]
   by_cases h:k=e.1
   · simp [h]
   · have:=RU (k:=k) (M:=r) (i:=i+1)
     simp [h,keysOf] at this ⊢;exact this
theorem abu {k:List UInt8}:∀{M:List nM} {i j:Nat} {n:Int},mO k M i=some (j,n)->i<=j/\(M[j-i]?).map (·.1)=some k
 | [],_,_,_,h=>by simp [mO] at h
 | e::r,i,j,n,h=>by
   simp only [mO] at h
   split at h
   · rename_i hk
     injection h with h; injection h with h1 h2
     subst h1;simp at hk;simp [hk]
   · obtain ⟨h1,h2⟩:=abu h
     refine ⟨by omega,?_⟩
     have:j-i=(j-(i+1))+1:=by omega
     rw [this]; simpa using h2
theorem abv (k:List UInt8) (n:Int) (M:List nM) (c:Nat):keysOf (Hc k n M c)=if k ∈ keysOf M then keysOf M else keysOf M++[k]:=by
 unfold Hc
 cases h:mO k M 0 with
 | none=>rw [if_neg (RU.1 h)]; simp [keysOf]
 | some r=>
   obtain ⟨j,v⟩:=r;have hk:=(abu h).2
   have hm:k ∈ keysOf M:=by
     cases Classical.em (k ∈ keysOf M) with
     | inl h1=>exact h1
     | inr h1=>rw [RU.2 h1] at h; cases h
   rw [if_pos hm];apply List.ext_getElem?;intro i;simp only [keysOf,List.getElem?_map,List.getElem?_modify]
   cases he:M[i]? with
   | none=>simp
   | some e=>
     by_cases hj:j=i
     · subst hj; simp only [Nat.sub_zero,he] at hk; simp at hk; simp [hk]
     · simp [hj]
def nN (l:List (List UInt8)):Nat->List nM×Nat
 | 0=>([],0)
 | i+1=>(Hc (l[i]?.getD []) (IntKind.i64.wrap (RS (l[i]?.getD []) (nN l i).1+1)) (nN l i).1 (nN l i).2,RT (l[i]?.getD []) (nN l i).1 (nN l i).2)
theorem abw (l:List (List UInt8)) (k:List UInt8):∀i,k ∈ keysOf (nN l i).1↔∃j,j<i/\l[j]?.getD []=k
 | 0=>by simp [nN,keysOf]
 | i+1=>by
   have ih:=abw l k i;simp only [nN,abv]
   have step:(∃j,j<i+1/\l[j]?.getD []=k)↔(∃j,j<i/\l[j]?.getD []=k)\/l[i]?.getD []=k:=by
     constructor
     · rintro ⟨j,hj,e⟩
       rcases Nat.lt_succ_iff_lt_or_eq.1 hj with h | rfl
       · exact .inl ⟨j,h,e⟩
       · exact .inr e
     · rintro (⟨j,hj,e⟩ | e)
       · exact ⟨j,by omega,e⟩
       · exact ⟨i,by omega,e⟩
   rw [step,<-ih]
   split
   · rename_i hm
     constructor
     · exact .inl
     · rintro (h | h)
       · exact h
       · rw [<-h]; exact hm
   · simp [eq_comm]
theorem abx (l:List (List UInt8)):∀i,(keysOf (nN l i).1).length<=i/\((keysOf (nN l i).1).length<i↔∃i2,i2<i/\∃j,j<i2/\l[j]?.getD []=l[i2]?.getD [])
 | 0=>by simp [nN,keysOf]
 | i+1=>by
   obtain ⟨h1,h2⟩:=abx l i;have hm:=abw l (l[i]?.getD []) i;simp only [nN,abv]
   split
   · rename_i hk
     obtain ⟨j,hj,e⟩:=hm.1 hk;exact ⟨by omega,⟨λ_=>⟨i,by omega,j,hj,e⟩,λ_=>by omega⟩⟩
   · rename_i hk
     refine ⟨by simp; omega,?_⟩;rw [List.length_append,List.length_singleton]
     constructor
     · intro h
       obtain ⟨i2,a,b⟩:=h2.1 (by omega);exact ⟨i2,by omega,b⟩
     · rintro ⟨i2,LV,j,hj,e⟩
       rcases Nat.lt_succ_iff_lt_or_eq.1 LV with h | rfl
       · have:=h2.2 ⟨i2,h,j,hj,e⟩; omega
       · exact absurd (hm.2 ⟨j,hj,e⟩) hk
theorem apH (l:List (List UInt8)):decide (((nN l l.length).1.length:Int)<(l.length:Int))=et l:=by
 have h:=(abx l l.length).2;simp only [keysOf,List.length_map] at h;rw [Bool.eq_iff_iff];unfold et;simp only [decide_eq_true_eq,List.any_eq_true,List.mem_range,beq_iff_eq]
 constructor
 · intro av
   obtain ⟨i,hi,j,hj,e⟩:=h.1 (by omega);exact ⟨i,hi,j,hj,e.symm⟩
 · rintro ⟨i,hi,j,hj,e⟩
   have:=h.2 ⟨i,hi,j,hj,e.symm⟩;omega
theorem iH:Tryz.prog.underlying 123=some (.map 9 3):=by kernel_rfl
theorem me:zeroOf Tryz.prog 3=some (.int .i64 0):=by kernel_rfl
theorem Dp:bw Tryz.prog 131 0=some 0:=by kernel_rfl
theorem yv:bw Tryz.prog 131 3=some 3:=by kernel_rfl
theorem oM:bw Tryz.prog 131 1=some 1:=by kernel_rfl
theorem k9:bw Tryz.prog 131 2=some 2:=by kernel_rfl
theorem wx:bw Tryz.prog 65 1=some 1:=by kernel_rfl
theorem AG:dQ Tryz.prog 63=true:=by kernel_rfl
theorem uC:eo Tryz.prog 63=some 4:=by kernel_rfl
theorem lI:gj Tryz.prog 131=some 4:=by kernel_rfl
theorem iI:zeroOf Tryz.prog 131=some (.agg #[.int .i64 0,.int .i64 0,.int .i64 0,st []]):=by kernel_rfl
theorem k_:cC Tryz.prog 131=some 4:=by kernel_rfl
theorem apI:Enters Tryz.prog 137:=enters_of Tryz.func137 (by kernel_rfl) rfl
theorem RV:Enters Tryz.prog 71:=enters_of Tryz.func71 (by kernel_rfl) rfl
theorem LX:bw Tryz.prog 65 0=some 0:=by kernel_rfl
theorem RW (H:View) (a:Option Addr) (c:Nat) (l:List (List UInt8)) (w:World) (hH:Le H w) (hm:Sl rdStr 1 H a c l) :
   Calls Tryz.prog 71 #[.slice a l.length c] w λe w'=>e = .returned (.bool (et l))/\Ext w w':=by
 have dR:=hm.cap;have eQ:=hm.max;refine enter Tryz.func71 O 23 O O ?_;refine CE (Vs:=[H]) (Ws.init (by simp [hH])) (ad (ae O (ab (ad ?_))));refine WL.afZ Y O λb6=>?_;refine ae O (ab (Cs (ad (aa O (V0 (Yn cz O) (aa O (ab (Cb ?_))))))));refine cq (ι:=Nat) (λi=>[(9,.int .i64 (i:Int))]) [(0,_),(2,_),(3,_),(7,_),(8,_)] (λi=>Ws w [] [ah b6 (pS (iv (nN l i).1) (nN l i).2)] [H]) (λi=>i<=l.length) (λi=>l.length-i) 0 (Nat.zero_le _) (sc O (sc O (sc O (sc O (sc O (sc O sn)))))) (λ_ h=>h) ?_;intro i hi;refine ad (V0 (bj O O) (ab (Cs ?_)));refine Cc O (λai=>?_) (λai=>?_)
 ·have av:i<l.length:=by simpa using ai
  obtain ⟨pb,po,ha,apJ⟩:=hm.aS i (l[i]?.getD []) (by rw [List.getElem?_eq_getElem av]; rfl);have cw:vc H pb (po+i*1)=some (st (l[i]?.getD [])):=apJ 0 _ rfl;refine aE (Cs (Cb (ad (V0 (Yo cz O O ha (by omega)) (V0 (bo 0 bW O O (cw)) (ae O (ab (Cr (aa O (aa O (V0 (af0 0 iH dy me O O O) ?_)))))))))));rw [apE];refine V0 (Ei O O) ?_;refine WL.af1 0 Y iH dy O O O O ?_;rw [apF,apG];refine Ln (Eb (Et (Cr (V0 (Yi O O O (by omega)) (aa O (Ln ?_))))));exact Ea (i+1) (by omega) (by omega) (sc O (sc O (sc O (sc O (sc O (sc O sn)))))) (λ_ h=>h)
 have lB:i=l.length:=by simp at ai; omega
 subst lB;refine Ce (Ex (Ex (bA (Et (ad (aa O (V0 (NS 0 iH O O) (aa O (V0 (Yn cz O) (V0 (bj O O) (ae O ?_)))))))))));refine ab (aA ?_);refine R1 O O λw' hw=>?_;exact ⟨by rw [<-apH]; simp [iv],hw.fr⟩
theorem apK (x:aN) (w:World) :
   Calls Tryz.prog 137 #[.agg #[.int .i64 x.kind,.int .i64 x.n,.int .i64 x.pl,st x.name]] w λe w'=>e = .returned (.bool (o4 x))/\Ext w w':=by
 refine enter Tryz.func137 O 42 O O ?_;refine CE (Vs:=[]) (Ws.init (by simp)) (ad ?_);refine WL.box Y O O λb1=>?_;refine ae O (ab (ad (ae O (ae O (ab (ad (ae O (ab (Cs (ad (V0 (Yf Dp O) ?_)))))))))));refine V0 (Yd 0 O O O ar) (ab (Cb (ad (V0 (aW O O) (ae O (ab ?_))))));refine Cc O (λai=>?_) (λai=>?_)
 ·refine Cr (ae O (Ln (Eb (Et (ad (V0 (Yf yv O) (V0 (Yd 0 O O O bW) (Lp Y O si O (λw hw=>sh _ w) (aa O ?_)))))))));apply La 4 O O O O Y O O O O O
  ·intro du;refine Vg (Yf oM O) (Vg (Yd 0 O O O ar) (Vg (Ym O) (Vg (fm O O) ?_)));exact Gt 4 O O O
  refine aa O ?_;apply La 4 O O O O Y O O O O O
  ·intro eh;refine Vg (Yf oM O) (Vg (Yd 0 O O O ar) (Vg (Ym O) (Vg (iN O O) ?_)));exact Gt 4 O O O
  refine aa O ?_;apply La 3 O O O O Y O O O O O
  ·intro fB;refine Vg (Yf k9 O) (Vg (Yd 0 O O O ar) (Vg (fm O O) ?_));exact Gt 3 O O O
  refine aa O ?_;apply La 4 O O O O Y O O O O O
  ·intro l_;refine Vg (Yf k9 O) (Vg (Yd 0 O O O ar) (Vg (Ym O) (Vg (iN O O) ?_)));exact Gt 4 O O O
  refine ae O (ab (aA ?_));refine R1 O O λw' hw=>?_
  have hk:x.kind=1:=by simpa using ai
  exact ⟨by rw [Jk (by simp [hk])],hw.fr⟩
 refine ad (V0 (aW O O) (ae O (ab ?_)));refine Cc O (λaw=>?_) (λaw=>?_)
 ·refine Cr (ae O (Ln (Eb (Et (ad (V0 (Yf yv O) (V0 (Yd 0 O O O bW) (Lp Y O si O (λw hw=>sh _ w) (aa O ?_)))))))));apply La 4 O O O O Y O O O O O
  ·intro du;refine Vg (Yf oM O) (Vg (Yd 0 O O O ar) (Vg (Ym O) (Vg (fm O O) ?_)));exact Gt 4 O O O
  refine aa O ?_;apply La 4 O O O O Y O O O O O
  ·intro eh;refine Vg (Yf oM O) (Vg (Yd 0 O O O ar) (Vg (Ym O) (Vg (iN O O) ?_)));exact Gt 4 O O O
  refine aa O ?_;apply La 3 O O O O Y O O O O O
  ·intro fB;refine Vg (Yf k9 O) (Vg (Yd 0 O O O ar) (Vg (fm O O) ?_));exact Gt 3 O O O
  refine aa O ?_;apply La 4 O O O O Y O O O O O
  ·intro l_;refine Vg (Yf k9 O) (Vg (Yd 0 O O O ar) (Vg (Ym O) (Vg (iN O O) ?_)));exact Gt 4 O O O
  refine ae O (ab (aA ?_));refine R1 O O λw' hw=>?_
  have hk:x.kind=2:=by simpa using aw
  exact ⟨by rw [Jk (by simp [hk])],hw.fr⟩
 refine ad (V0 (aW O O) (ae O (ab ?_)));refine Cc O (λaO=>?_) (λaO=>?_)
 ·refine Cr (ae O (ae O (Ln (Eb (Et (ad (V0 (Yf yv O) (V0 (Yd 0 O O O bW) (Lp Y O si O (λw hw=>sh _ w) (aa O ?_))))))))));apply La 4 O O O O Y O O O O O
  ·intro du;refine Vg (Yf oM O) (Vg (Yd 0 O O O ar) (Vg (Ym O) (Vg (fm O O) ?_)));exact Gt 4 O O O
  refine aa O ?_;apply La 4 O O O O Y O O O O O
  ·intro eh;refine Vg (Yf oM O) (Vg (Yd 0 O O O ar) (Vg (Ym O) (Vg (iN O O) ?_)));exact Gt 4 O O O
  refine aa O ?_;apply La 3 O O O O Y O O O O O
  ·intro fB;refine Vg (Yf k9 O) (Vg (Yd 0 O O O ar) (Vg (fm O O) ?_));exact Gt 3 O O O
  refine aa O ?_;apply La 4 O O O O Y O O O O O
  ·intro l_;refine Vg (Yf k9 O) (Vg (Yd 0 O O O ar) (Vg (Ym O) (Vg (iN O O) ?_)));exact Gt 4 O O O
  refine ae O (ab (aA ?_));refine R1 O O λw' hw=>?_
  have hk:x.kind=3:=by simpa using aO
  exact ⟨by rw [Jk (by simp [hk])],hw.fr⟩
 refine ad (V0 (aW O O) (ae O (ab ?_)));refine Cc O (λbd=>?_) (λbd=>?_)
 ·refine Cr (ae O (Ln (Eb (Et (ad (V0 (Yf yv O) (V0 (Yd 0 O O O bW) (Lp Y O si O (λw hw=>sh _ w) (aa O ?_)))))))));apply La 4 O O O O Y O O O O O
  ·intro du;refine Vg (Yf oM O) (Vg (Yd 0 O O O ar) (Vg (Ym O) (Vg (fm O O) ?_)));exact Gt 4 O O O
  refine aa O ?_;apply La 4 O O O O Y O O O O O
  ·intro eh;refine Vg (Yf oM O) (Vg (Yd 0 O O O ar) (Vg (Ym O) (Vg (iN O O) ?_)));exact Gt 4 O O O
  refine aa O ?_;apply La 3 O O O O Y O O O O O
  ·intro fB;refine Vg (Yf k9 O) (Vg (Yd 0 O O O ar) (Vg (fm O O) ?_));exact Gt 3 O O O
  refine aa O ?_;apply La 4 O O O O Y O O O O O
  ·intro l_;refine Vg (Yf k9 O) (Vg (Yd 0 O O O ar) (Vg (Ym O) (Vg (iN O O) ?_)));exact Gt 4 O O O
  refine ae O (ab (aA ?_));refine R1 O O λw' hw=>?_
  have hk:x.kind=4:=by simpa using bd
  exact ⟨by rw [Jk (by simp [hk])],hw.fr⟩
 refine ad (ae O (ab (aA (bE (Er ?_)))));refine R1 O O λw' hw=>?_;simp at ai aw aO bd;exact ⟨by rw [ahl ai aw aO bd],hw.fr⟩
theorem RX (H:View) (a:Option Addr) (c:Nat) (name:List UInt8) (items:List aN) (w:World) (hH:Le H w) (hm:Sl lp 4 H a c items) :
   Calls Tryz.prog 68 #[.agg #[st name,.slice a items.length c]] w λe w'=>e = .returned (.int .i64 (lV name items))/\Ext w w':=by
 have dR:=hm.cap;have eQ:=hm.max;refine enter Tryz.func68 O 34 O O ?_;refine CE (Vs:=[H]) (Ws.init (by simp [hH])) (ad ?_);refine WL.box Y O O λb1=>?_;refine ae O (ab (Cs (ad (V0 (Yf wx O) (V0 (Yd 0 O O O AG) (V0 (Yn uC O) (V0 (cI O O) (ab ?_))))))));refine Cc O (λai=>?_) (λai=>?_)
 ·have wy:16<items.length:=by simp at ai; omega
  refine ad (ae O (ab (aA (Er ?_))));refine R1 O O λw' hw=>?_;exact ⟨by rw [lV,if_pos wy],hw.fr⟩
 have wy:¬16<items.length:=by simp at ai; omega
 refine aE (ad (ae O (LW (λ_ h=>h.eM 9 1) (ab (Cs (ad (V0 (Yf wx O) (V0 (Yd 1 O O O AG) (V0 (Yn uC O) (aa O ?_))))))))));refine ab (Cb ?_);refine cq (ι:=Nat×Option Addr×Nat) (λg=>[(13,.int .i64 (g.1:Int)),(3,.slice g.2.1 ((items.take g.1).map (·.name)).length g.2.2)]) [(1,_),(11,_),(12,_)] (λg=>Ws w [] [bt 9 1 cM g.2.1 g.2.2 ((items.take g.1).map (·.name)),ah b1 (.cells (Value.agg #[st name,.slice a items.length c]).cells 65 (0,0))] [H]) (λg=>g.1<=items.length/\∀j x,j<g.1->items[j]? = some x->o4 x=true) (λg=>items.length-g.1) (0,none,0) ⟨Nat.zero_le _,by simp⟩ (sc O (sc O (sc O (sc O (sc O sn))))) (λ_ h=>h) ?_;intro g ⟨hi,bT⟩;refine ad (V0 (bj O O) (ab (Cs ?_)));refine Cc O (λaw=>?_) (λaw=>?_)
 ·have av:g.1<items.length:=by simpa using aw
  obtain ⟨x,hx⟩:∃x,items[g.1]? = some x:=⟨_,List.getElem?_eq_getElem av⟩;obtain ⟨pb,po,ha,cw⟩:=hm.aS g.1 x hx;have cw:aR H pb (po+g.1*4) x.cells:=cw
  have hT:(items.take (g.1+1)).map (·.name)=(items.take g.1).map (·.name)++[x.name]:=by rw [List.take_add_one,hx]; simp
  have hL:((items.take g.1).map (·.name)).length=g.1:=by simp; omega
  refine aE (Cs (Cb (ad (V0 (Yo uC O O ha (by omega)) (V0 (cJ 0 lI O O O (cw)) ?_)))));refine Al Y O iI λb5=>?_;refine an 0 Y O O O k_ O O O (ab (Cs (ad (V0 (bk 0 O O lI O) (Lp Y O apI O (λw hw=>apK x w) (V0 (dK O) (ab ?_)))))));refine Cc O (λaO=>?_) (λaO=>?_)
  ·have e_:=ahn hx (by simpa using aO);refine ad (ae O (ab (aA (Er (bE (Er (Er (bE (Er ?_)))))))));refine R1 O O λw' hw=>?_;exact ⟨by rw [lV,if_neg wy,e_]; rfl,hw.fr⟩
  have aJ:o4 x=true:=by simpa using aO
  refine aE (Cr (aa O (V0 (Yf yv O) (V0 (Yd 0 O O O bW) ?_))));refine Lb Y O dc O O O O λb23=>?_;refine bL 0 (.cells (cM x.name).toArray 9 (0,0)) O (O) ?_;refine LA (x.name) 2 0 Y O dc O O O O O O (by omega) (by omega) λa24 c24=>?_;refine ae O (Ln (Eb (Et (Cr (V0 (Yi O O O (by omega)) (aa O (Ln ?_)))))));rw [<-hT]
  exact Ea ((g.1+1,a24,c24):Nat×Option Addr×Nat) (by first | omega | (dsimp only; omega)) ⟨by first | omega | (dsimp only; omega),λj y hj hy=>by
      rcases Nat.lt_succ_iff_lt_or_eq.1 hj with h | h
      · exact bT j y h hy
      · subst h; rw [hx] at hy; injection hy with hy; subst hy; exact aJ⟩ (sc rfl (sc rfl (sc rfl (sc rfl (sc rfl sn))))) (λ_ h=>Wd 2 h)
 have lB:g.1=items.length:=by simp at aw; omega
 rw [lB,List.take_length];refine Ce (Ex (Ex (bA (Et (Cs (Cs ?_))))));refine WC.n5 (rd:=rdStr) 0 O iy (λ_ _ _ _ h=>h) λHN RY=>?_;refine Cr (aa O ?_)
 refine Lp Y O RV O (λw hw=>by
     have:=RW HN g.2.1 g.2.2 (items.map (·.name)) w (hw.vs _ (by simp)) RY
     exact this) ?_
 refine aa O ?_;apply Lo 4 O O O O Y O O O O O
 ·intro du;refine Vg (Yf LX O) (Vg (Yd 0 O O O bW) (Lp (.g O O O) O si O (λw hw=>sh _ w) (Vg (dK O) ?_)));exact Gt 4 O O O
 refine ab ?_;refine Cc O (λbd=>?_) (λbd=>?_)
 ·refine ad (ae O (ab (aA (Er ?_))));refine R1 O O λw' hw=>?_;have hy:=V1 λj y hy=>bT j y (by have:=(List.getElem?_eq_some_iff.1 hy).1; omega) hy;exact ⟨by rw [lV,if_neg wy,hy,bd]; rfl,hw.fr⟩
 refine aE (ad (ae O (ab (aA ?_))));refine R1 O O λw' hw=>?_;have hy:=V1 λj y hy=>bT j y (by have:=(List.getElem?_eq_some_iff.1 hy).1; omega) hy;exact ⟨by rw [lV,if_neg wy,hy,bd]; rfl,hw.fr⟩
theorem RZ {m:aD} (h:fG m=0):Fw m:=PK (YL.1 h)
theorem apL {d:bM} (h:JU d):0<=nt d/\nt d<=32:=by
 unfold nt;have h3:=h.n3
 split
 · omega
 · split
   · rename_i hk; have:=h3 hk; omega
   · omega
theorem aby:∀{l:List bM},(∀d ∈ l,(gU d).aT=0)->0<=fH l/\fH l<=32*(l.length:Int)
 | [],_=>by simp [fH]
 | d::l,h=>by
   have h1:=apL (Fv (h d (by simp)));have h2:=aby (l:=l) λx hx=>h x (List.mem_cons_of_mem _ hx);simp only [fH,List.length_cons];omega
theorem abz {m:aD} (ho:Fw m) (i:Nat):0<=fH (m.decls.take i)/\fH (m.decls.take i)<=320:=by
 have h:=aby (l:=m.decls.take i) λd hd=>ho.decls d (List.mem_of_mem_take hd);have h1:=ho.eA.2.1
 have h2:((m.decls.take i).length:Int)<=10:=by rw [List.length_take]; omega
 omega
theorem apM {d:bM} {a:Int} (h:d.kind=1):aN.cells (o5 a d)=[.int .i64 d.kind,.int .i64 d.n,.int .i64 0,st d.nm]:=by rw [o5,if_pos h]; rfl
theorem abA {d:bM} {a:Int} (h:¬d.kind=1):aN.cells (o5 a d)=[.int .i64 d.kind,.int .i64 d.n,.int .i64 a,st d.nm]:=by rw [o5,if_neg h]; rfl
theorem apN {d:bM} (h:d.kind=1):nt d=0:=by rw [nt,if_neg (by omega),if_neg (by omega)]
theorem apO {d:bM} (h:d.kind=2):nt d=1:=by rw [nt,if_pos h]
theorem apP {d:bM} (h:d.kind=3):nt d=d.n:=by rw [nt,if_neg (by omega),if_pos h]
theorem yw:fo Tryz.prog 131=some [(0,1),(1,1),(2,1),(3,1)]:=by kernel_rfl
theorem pE:e9 Tryz.prog 63 131 (.agg #[.int .i64 0,.int .i64 0,.int .i64 0,st []]) 4 40:=ja (by kernel_rfl)
theorem abB (H:View) (ke ks:Nat) (r:jV) (m:aD) (w:World) (hH:Le H w) (hm:ko ke ks H r m) (ho:Fw m) :
   Calls Tryz.prog 69 #[.agg (fq m r).toArray] w λe w'=>∃r:SP,e = .returned (.tuple #[.slice r.1 (ft m).length r.2,.int .i64 (Jm m)])/\Ext w w'/\Sl lp 4 (nv w w') r.1 r.2 (ft m):=by
 have eA:=ho.eA;have xd:=hm.decls.max;have yd:=hm.decls.cap;have xp:=hm.procs.max;have yp:=hm.procs.cap;refine enter Tryz.func69 O 67 O O ?_;refine CE (Vs:=[H]) (Ws.init (by simp [hH])) (ad ?_);refine WL.box Y O O λb1=>?_;refine ae O (ae O (ab (ad (ae O (LW (λ_ h=>h.eM 131 4) (ab (ad (ae O (ab (Cs (ad ?_)))))))))));refine V0 (Yf CP O) (V0 (Yd 1 O O O FU) (V0 (Yn zS O) (aa O (ab (Cb ?_)))));refine cq (ι:=Nat×Option Addr×Nat) (λg=>[(14,.int .i64 (g.1:Int)),(4,.slice g.2.1 (ku (m.decls.take g.1) 0).length g.2.2),(5,.int .i64 (fH (m.decls.take g.1)))]) [(1,_),(2,_),(3,_),(12,_),(13,_)] (λg=>Ws w [] [bt 131 4 aN.cells g.2.1 g.2.2 (ku (m.decls.take g.1) 0),ah b1 (.cells (fq m r).toArray 50 (0,0))] [H]) (λg=>g.1<=m.decls.length) (λg=>m.decls.length-g.1) (0,none,0) (Nat.zero_le _) (sc O (sc O (sc O (sc O (sc O (sc O (sc O (sc O sn)))))))) (λ_ h=>h) ?_;intro g hi;refine ad (V0 (bj O O) (ab (Cs ?_)));refine Cc O (λai=>?_) (λai=>?_)
 ·have av:g.1<m.decls.length:=by simpa using ai
  obtain ⟨d,vW⟩:∃q,m.decls[g.1]? = some q:=⟨_,List.getElem?_eq_getElem av⟩;obtain ⟨FV,FW,FX,d_⟩:=hm.decls.aS g.1 d vW;have d_:aR H FV (FW+g.1*4) d.cells:=d_;have od:=Fv (ho.decls d (List.mem_of_getElem? vW));have hTk:m.decls.take (g.1+1)=m.decls.take g.1++[d]:=iU vW
  have hI:ku (m.decls.take (g.1+1)) 0=ku (m.decls.take g.1) 0++[o5 (fH (m.decls.take g.1)) d]:=by rw [hTk,V3,Int.zero_add]
  have hS:fH (m.decls.take (g.1+1))=fH (m.decls.take g.1)+nt d:=by rw [hTk,V2]
  have CX:=abz ho g.1;have aAb:=abz ho (g.1+1)
  have hlD:(ku (m.decls.take g.1) 0).length=g.1:=by rw [Jl,List.length_take]; omega
  have jv:=od.n3;refine aE (Cs (Cb (ad (V0 (Yo zS O O FX (by omega)) (V0 (cJ 0 pq O O O (d_)) ?_)))));refine Al Y O ud λb7=>?_;refine an 0 Y O O O vV O O O (ab (ad (V0 (Yf CJ O) (V0 (Yd 0 O O O ar) (V0 (Yf vM O) (V0 (Yd 0 O O O ar) (V0 (Yf FL O) (V0 (Yd 0 O O O bW) ?_))))))));refine V0 (Yb iI yw O O) ?_;refine Al Y O iI λb8=>?_;refine an 0 Y O O O k_ O O O (ab (Cs (ad (V0 (Yf CJ O) (V0 (Yd 1 O O O ar) (ab (Cb (ad (V0 (aW O O) (ae O (ab ?_)))))))))));refine Cc O (λaw=>?_) (λaw=>?_)
  ·have e7:d.kind=2:=by simpa using aw
   have hz:=apO e7;refine ad (aa O (V0 (Yf k9 O) (an 0 Y O O O di O O O (ab (Cr (aa O (V0 (IV (fH (m.decls.take (g.1+1))) O O (by rw [hS,hz]) (by omega)) (ae O ?_))))))));refine Ln (Eb (Et (Cr (aa O (V0 (bk 0 O O lI O) ?_)))));refine Lb Y O pE O O O O λmb=>?_;refine bL 0 (.cells (aN.cells (o5 (fH (m.decls.take g.1)) d)).toArray 131 (0,0)) O (by rw [abA (by omega)]; rfl) ?_;refine LA (o5 (fH (m.decls.take g.1)) d) 3 0 Y O pE O O O O O O (by omega) (by omega) λAH AI=>?_;refine ae O (Ln (Eb (Et (Cr (V0 (Yi O O O (by omega)) (aa O (Ln ?_)))))));rw [<-hI];exact Ea ((g.1+1,AH,AI):Nat×Option Addr×Nat) (by first | omega | (dsimp only; omega)) (by first | omega | (dsimp only; omega)) (sc O (sc O (sc O (sc O (sc O (sc O (sc O (sc O sn)))))))) (λ_ h=>Wd 3 h)
  have e7:¬d.kind=2:=by simpa using aw
  refine ad (V0 (aW O O) (ae O (ab ?_)));refine Cc O (λaO=>?_) (λaO=>?_)
  ·have sk:d.kind=3:=by simpa using aO
   have hz:=apP sk;refine ad (aa O (V0 (Yf k9 O) (an 0 Y O O O di O O O (ab (Cr (aa O (V0 (Yf vM O) (V0 (Yd 1 O O O ar) ?_))))))));refine V0 (IV (fH (m.decls.take (g.1+1))) O O (by rw [hS,hz]) (by omega)) (ae O (Ln (Eb (Et (Cr (aa O (V0 (bk 0 O O lI O) ?_)))))));refine Lb Y O pE O O O O λmb=>?_;refine bL 0 (.cells (aN.cells (o5 (fH (m.decls.take g.1)) d)).toArray 131 (0,0)) O (by rw [abA (by omega)]; rfl) ?_;refine LA (o5 (fH (m.decls.take g.1)) d) 3 0 Y O pE O O O O O O (by omega) (by omega) λAH AI=>?_;refine ae O (Ln (Eb (Et (Cr (V0 (Yi O O O (by omega)) (aa O (Ln ?_)))))));rw [<-hI];exact Ea ((g.1+1,AH,AI):Nat×Option Addr×Nat) (by first | omega | (dsimp only; omega)) (by first | omega | (dsimp only; omega)) (sc O (sc O (sc O (sc O (sc O (sc O (sc O (sc O sn)))))))) (λ_ h=>Wd 3 h)
  have sk:¬d.kind=3:=by simpa using aO
  have jB:d.kind=1:=by have:=od.kind; omega
  have hz:=apN jB
  have hS0:fH (m.decls.take (g.1+1))=fH (m.decls.take g.1):=by rw [hS,hz]; omega
  refine Ck (Eb (Et (Cr (aa O (V0 (bk 0 O O lI O) ?_)))));refine Lb Y O pE O O O O λmb=>?_;refine bL 0 (.cells (aN.cells (o5 (fH (m.decls.take g.1)) d)).toArray 131 (0,0)) O (by rw [apM jB]; rfl) ?_;refine LA (o5 (fH (m.decls.take g.1)) d) 3 0 Y O pE O O O O O O (by omega) (by omega) λAH AI=>?_;refine ae O (Ln (Eb (Et (Cr (V0 (Yi O O O (by omega)) (aa O (Ln ?_)))))));rw [<-hI];rw [<-hS0];exact Ea ((g.1+1,AH,AI):Nat×Option Addr×Nat) (by first | omega | (dsimp only; omega)) (by first | omega | (dsimp only; omega)) (sc O (sc O (sc O (sc O (sc O (sc O (sc O (sc O sn)))))))) (λ_ h=>Wd 3 h)
 have bP:g.1=m.decls.length:=by simp at ai; omega
 rw [bP,List.take_length]
 clear bP ai hi
 refine Ce (Ex (Ex (bA (Et (Cs (ad (V0 (Yf zT O) (V0 (Yd 1 O O O CQ) (V0 (Yn vU O) (aa O (ab (Cb ?_))))))))))));rw [show ku m.decls 0=ku m.decls 0++nw (m.procs.take 0) 0 by simp [nw]];refine cq (ι:=Nat×Option Addr×Nat) (λg=>[(49,.int .i64 (g.1:Int)),(4,.slice g.2.1 (ku m.decls 0++nw (m.procs.take g.1) 0).length g.2.2)]) [(2,_),(3,_),(5,_),(47,_),(48,_)] (λg=>Ws w [] [bt 131 4 aN.cells g.2.1 g.2.2 (ku m.decls 0++nw (m.procs.take g.1) 0),ah b1 (.cells (fq m r).toArray 50 (0,0))] [H]) (λg=>g.1<=m.procs.length) (λg=>m.procs.length-g.1) (0,g.2.1,g.2.2) (Nat.zero_le _) (sc O (sc O (sc O (sc O (sc O (sc O (sc O sn))))))) (λ_ h=>h) ?_
 clear g
 intro g hi;refine ad (V0 (bj O O) (ab (Cs ?_)));refine Cc O (λbd=>?_) (λbd=>?_)
 ·have av:g.1<m.procs.length:=by simpa using bd
  obtain ⟨p,lD⟩:∃q,m.procs[g.1]? = some q:=⟨_,List.getElem?_eq_getElem av⟩;obtain ⟨zV,pop,m_,zW⟩:=hm.procs.aS g.1 p lD;obtain ⟨zX,zY,zZ,z6,CY,CZ,cw,iE,gX,kF⟩:=zW;have hx1:=iE.max;have hy1:=iE.cap;have hTp:m.procs.take (g.1+1)=m.procs.take g.1++[p]:=iU lD
  have hI:ku m.decls 0++nw (m.procs.take (g.1+1)) 0=(ku m.decls 0++nw (m.procs.take g.1) 0)++[E3 g.1 p]:=by
    rw [hTp,V4,List.append_assoc,Nat.zero_add,List.length_take,Nat.min_eq_left (by omega)]
  have hlI:(ku m.decls 0++nw (m.procs.take g.1) 0).length<=16:=by rw [List.length_append,Jl,OD,List.length_take]; omega
  refine aE (Cs (Cb (ad (aa O (V0 (Yo vU O O m_ (by omega)) (V0 (cJ 0 CR O O O (cw)) ?_))))));refine Al Y O x7 λR0=>?_;refine ae O (an 0 Y O O O CS O O O (ab (Cr (aa O (V0 (Yf ue O) (V0 (Yd 0 O O O eE) (V0 (Yn cz O) (aa O ?_))))))));refine V0 (Yf ZG O) (V0 (Yd 0 O O O bW) (V0 (Yb iI yw O O) ?_));refine Lb Y O pE O O O O λQv=>?_;refine bL 0 (.cells (aN.cells (E3 g.1 p)).toArray 131 (0,0)) O (O) ?_;refine LA (E3 g.1 p) 2 0 Y O pE O O O O O O (by omega) (by omega) λa63 c63=>?_;refine ae O (Ln (Eb (Et (Cr (V0 (Yi O O O (by omega)) (aa O (Ln ?_)))))));rw [<-hI];exact Ea ((g.1+1,a63,c63):Nat×Option Addr×Nat) (by first | omega | (dsimp only; omega)) (by first | omega | (dsimp only; omega)) (sc O (sc O (sc O (sc O (sc O (sc O (sc O sn))))))) (λ_ h=>Wd 2 h)
 have bP:g.1=m.procs.length:=by simp at bd; omega
 rw [bP,List.take_length];refine Ce (Ex (Ex (bA (Et (ad (aa O (aa O (ae O (ae O (ab (aA ?_)))))))))));refine WE.gi O O O λw' hw=>?_;exact ⟨(g.2.1,g.2.2),O,hw.fr,hw.kS 0 O aN.bq (λ_ _ _ _ h=>h)⟩
theorem apW {m:aD} {i:Nat} {p:dh} (h:m.procs[i]? = some p):m.decls.map (·.aL)++(m.procs.take (i+1)).map (·.aL)=(m.decls.map (·.aL)++(m.procs.take i).map (·.aL))++[p.aL]:=by rw [iU h]; simp
theorem apX {m:aD} {i:Nat} {d:bM} (h:m.decls[i]? = some d):(m.decls.take (i+1)).map (·.aL)=(m.decls.take i).map (·.aL)++[d.aL]:=by rw [iU h]; simp
theorem abD {m:aD} (h:¬fG m=0):cG m=(([],[]),fG m):=by rw [cG,if_pos h]
theorem abE {m:aD} (h:fG m=0) (h2:(et ((ft m).map (·.name))||et m.ag)=true):cG m=(([],[]),6):=by rw [cG,if_neg (by simp [h]),if_pos h2]
theorem apY {m:aD} (h:fG m=0) (h2:(et ((ft m).map (·.name))||et m.ag)=false):cG m=((m.nm,mB (ft m) (rJ m)),0):=by rw [cG,if_neg (by simp [h]),if_neg (by simp [h2])]
def FQ (m:aD) (i:Nat):List aN:=mB ((ft m).take i) ((rJ m).take i)
theorem apZ (m:aD):FQ m (ft m).length=mB (ft m) (rJ m):=by
 unfold FQ;rw [List.take_length,Jn,<-Jo,List.take_length]
theorem ap0 {m:aD} {i:Nat} {x:aN} {p:Bool} (h1:(ft m)[i]? = some x) (h2:(rJ m)[i]? = some p):FQ m (i+1)=FQ m i++(if p=true then [x] else []):=aho (by rw [Jn,Jo]) h1 h2
theorem ap1 (m:aD) (i:Nat):(FQ m i).length<=i:=by
 have:=V6 ((ft m).take i) ((rJ m).take i);simp at this
 show (mB _ _).length<=i
 omega
structure GF where
 i:Nat
 n:SP
 f:SP
theorem LY:e9 Tryz.prog 136 4 (.bool false) 1 1:=ja (by kernel_rfl)
theorem j7:zeroOf Tryz.prog 65=some (.agg #[st [],.slice none 0 0]):=by kernel_rfl
theorem AJ:fo Tryz.prog 65=some [(0,1),(1,1)]:=by kernel_rfl
theorem lJ:cC Tryz.prog 65=some 2:=by kernel_rfl
theorem j8:gj Tryz.prog 65=some 2:=by kernel_rfl
theorem abF:Enters Tryz.prog 69:=enters_of Tryz.func69 (by kernel_rfl) rfl
theorem ap2:Enters Tryz.prog 70:=enters_of Tryz.func70 (by kernel_rfl) rfl
theorem ap3:eo Tryz.prog 136=some 1:=by kernel_rfl
theorem abG:cC Tryz.prog 63=some 1:=by kernel_rfl
theorem ap4 (H:View) (ke ks:Nat) (r:jV) (m:aD) (w:World) (hH:Le H w) (hm:ko ke ks H r m) (ho:Fw m) :
   Calls Tryz.prog 70 #[.agg (fq m r).toArray] w λe w'=>∃r:SP,e = .returned (.slice r.1 (rJ m).length r.2)/\Ext w w'/\Sl rdBool 1 (nv w w') r.1 r.2 (rJ m):=by
 have eA:=ho.eA;have xd:=hm.decls.max;have yd:=hm.decls.cap;have xp:=hm.procs.max;have yp:=hm.procs.cap;refine enter Tryz.func70 O 35 O O ?_;refine CE (Vs:=[H]) (Ws.init (by simp [hH])) (ad ?_);refine WL.box Y O O λb1=>?_;refine ae O (ab (ad (ae O (LW (λ_ h=>h.eM 4 1) (ab (Cs (ad (V0 (Yf CP O) (V0 (Yd 1 O O O FU) (V0 (Yn zS O) ?_))))))))));refine aa O (ab (Cb ?_));refine cq (ι:=Nat×Option Addr×Nat) (λg=>[(11,.int .i64 (g.1:Int)),(3,.slice g.2.1 ((m.decls.take g.1).map (·.aL)).length g.2.2)]) [(1,_),(2,_),(9,_),(10,_)] (λg=>Ws w [] [bt 4 1 zw g.2.1 g.2.2 ((m.decls.take g.1).map (·.aL)),ah b1 (.cells (fq m r).toArray 50 (0,0))] [H]) (λg=>g.1<=m.decls.length) (λg=>m.decls.length-g.1) (0,none,0) (Nat.zero_le _) (sc O (sc O (sc O (sc O (sc O (sc O sn)))))) (λ_ h=>h) ?_;intro g hi;refine ad (V0 (bj O O) (ab (Cs ?_)));refine Cc O (λai=>?_) (λai=>?_)
 ·have av:g.1<m.decls.length:=by simpa using ai
  obtain ⟨d,vW⟩:∃q,m.decls[g.1]? = some q:=⟨_,List.getElem?_eq_getElem av⟩;obtain ⟨FV,FW,FX,d_⟩:=hm.decls.aS g.1 d vW;have d_:aR H FV (FW+g.1*4) d.cells:=d_;have hI:=apX vW
  have hl:((m.decls.take g.1).map (·.aL)).length=g.1:=by simp; omega
  refine aE (Cs (Cb (ad (V0 (Yo zS O O FX (by omega)) (V0 (cJ 0 pq O O O (d_)) ?_)))));refine Al Y O ud λb5=>?_;refine an 0 Y O O O vV O O O (ab (Cr (aa O (V0 (Yf apB O) (V0 (Yd 0 O O O vN) ?_)))));refine Lb Y O LY O O O O λck=>?_;refine bL 0 (.cells (zw d.aL).toArray 4 (0,0)) O (O) ?_;refine LA (d.aL) 2 0 Y O LY O O O O O O (by omega) (by omega) λHe Hf=>?_;refine ae O (Ln (Eb (Et (Cr (V0 (Yi O O O (by omega)) (aa O (Ln ?_)))))));rw [<-hI];exact Ea ((g.1+1,He,Hf):Nat×Option Addr×Nat) (by first | omega | (dsimp only; omega)) (by first | omega | (dsimp only; omega)) (sc O (sc O (sc O (sc O (sc O (sc O sn)))))) (λ_ h=>Wd 2 h)
 have bP:g.1=m.decls.length:=by simp at ai; omega
 rw [bP,List.take_length]
 clear bP ai hi
 refine Ce (Ex (Ex (bA (Et (Cs (ad (V0 (Yf zT O) (V0 (Yd 1 O O O CQ) (V0 (Yn vU O) (aa O (ab (Cb ?_))))))))))));rw [show m.decls.map (·.aL)=m.decls.map (·.aL)++(m.procs.take 0).map (·.aL) by simp];refine cq (ι:=Nat×Option Addr×Nat) (λg=>[(24,.int .i64 (g.1:Int)),(3,.slice g.2.1 (m.decls.map (·.aL)++(m.procs.take g.1).map (·.aL)).length g.2.2)]) [(2,_),(22,_),(23,_)] (λg=>Ws w [] [bt 4 1 zw g.2.1 g.2.2 (m.decls.map (·.aL)++(m.procs.take g.1).map (·.aL)),ah b1 (.cells (fq m r).toArray 50 (0,0))] [H]) (λg=>g.1<=m.procs.length) (λg=>m.procs.length-g.1) (0,g.2.1,g.2.2) (Nat.zero_le _) (sc O (sc O (sc O (sc O (sc O sn))))) (λ_ h=>h) ?_
 clear g
 intro g hi;refine ad (V0 (bj O O) (ab (Cs ?_)));refine Cc O (λaw=>?_) (λaw=>?_)
 ·have av:g.1<m.procs.length:=by simpa using aw
  obtain ⟨p,lD⟩:∃q,m.procs[g.1]? = some q:=⟨_,List.getElem?_eq_getElem av⟩;obtain ⟨zV,pop,m_,zW⟩:=hm.procs.aS g.1 p lD;obtain ⟨zX,zY,zZ,z6,CY,CZ,cw,iE,gX,kF⟩:=zW;have hI:=apW lD
  have hl:(m.decls.map (·.aL)++(m.procs.take g.1).map (·.aL)).length<=16:=by simp; omega
  refine aE (Cs (Cb (ad (V0 (Yo vU O O m_ (by omega)) (V0 (cJ 0 CR O O O (cw)) ?_)))));refine Al Y O x7 λb7=>?_;refine an 0 Y O O O CS O O O (ab (Cr (aa O (V0 (Yf apC O) (V0 (Yd 0 O O O vN) ?_)))));refine Lb Y O LY O O O O λK5=>?_;refine bL 0 (.cells (zw p.aL).toArray 4 (0,0)) O (O) ?_;refine LA (p.aL) 2 0 Y O LY O O O O O O (by omega) (by omega) λa32 c32=>?_;refine ae O (Ln (Eb (Et (Cr (V0 (Yi O O O (by omega)) (aa O (Ln ?_)))))));rw [<-hI];exact Ea ((g.1+1,a32,c32):Nat×Option Addr×Nat) (by first | omega | (dsimp only; omega)) (by first | omega | (dsimp only; omega)) (sc O (sc O (sc O (sc O (sc O sn))))) (λ_ h=>Wd 2 h)
 have bP:g.1=m.procs.length:=by simp at aw; omega
 rw [bP,List.take_length];refine Ce (Ex (Ex (bA (Et (ad (aa O (ae O (ab (aA ?_)))))))));refine R1 O O λw' hw=>?_;exact ⟨(g.2.1,g.2.2),O,hw.fr,hw.kS 0 O ag7 (λ_ _ _ _ h=>h)⟩
theorem R2 (H:View) (ke ks:Nat) (r:jV) (m:aD) (w:World) (hH:Le H w) (hm:ko ke ks H r m) (hb:wM m<=109951162777) :
   Calls Tryz.prog 24 #[.agg (fq m r).toArray] w λe w'=>∃r:SP,e = .returned (.tuple #[.agg #[st (cG m).1.1,.slice r.1 (cG m).1.2.length r.2],.int .i64 (cG m).2])/\Ext w w'/\Sl lp 4 (nv w w') r.1 r.2 (cG m).1.2:=by
 refine enter Tryz.func24 O 60 O O ?_;refine CE (Vs:=[H]) (Ws.init (by simp [hH])) (ad ?_);refine WL.box Y O O λb1=>?_;refine Al Y O j7 λb2=>?_;refine ae O (ab (Cs (ad (V0 (bk 1 O O iW O) (Lp Y O RP O (λw hw=>Qu H ke ks r m w (hw.vs _ (by simp)) hm (by omega)) (ae O (ab (ad (aa O (V0 (eL O O) ?_))))))))));refine ab ?_;refine Cc O (λai=>?_) (λai=>?_)
 ·have he:¬fG m=0:=by simpa using ai
  refine ad (V0 (Yb j7 AJ O O) (aa O (an 0 Y O O O lJ O O O (ae O (ab (aA (Er ?_)))))));refine WE.xo 0 O O O O j8 O λw' hw=>?_;rw [abD he];exact ⟨(none,0),O,hw.fr,Sl.nil⟩
 have he:fG m=0:=by simpa using ai
 have ho:=RZ he;have eA:=ho.eA;have xd:=hm.decls.max;have yd:=hm.decls.cap;have xp:=hm.procs.max;have yp:=hm.procs.cap;have il:=Jn m;have pl:=Jo m;refine aE (ad (V0 (bk 1 O O iW O) ?_));refine Ld Y O abF O (λr:SP=>.tuple #[.slice r.1 (ft m).length r.2,.int .i64 (Jm m)]) (λH r=>Sl lp 4 H r.1 r.2 (ft m)) (λw hw=>abB H ke ks r m w (hw.vs _ (by simp)) hm ho) ?_;intro LO QG G8 R3;refine aa O (V0 (Yx O O) (V0 (Yx O O) (ae O (ae O (ab (ad (V0 (Yf zR O) (V0 (Yd 1 O O O bW) ?_))))))));refine V0 (Yb j7 AJ O O) (LW (λ_ h=>h.eM 131 4) ?_);refine Al Y O j7 λb7=>?_;refine an 0 Y O O O lJ O O O (ab (ad (ae O (LW (λ_ h=>h.eM 9 1) (ab (ad (V0 (bk 4 O O iW O) ?_)))))));refine Ld Y O ap2 O (λr:SP=>.slice r.1 (rJ m).length r.2) (λH r=>Sl rdBool 1 H r.1 r.2 (rJ m)) (λw hw=>ap4 H ke ks r m w (hw.vs _ (by simp)) hm ho) ?_;intro F27 Lx R4 R5;have x20:=R3.max;have y20:=R3.cap;have x27:=R5.max;have y27:=R5.cap;refine ae O (ab (Cs (ad (aa O (V0 (Yn uC O) (aa O (ab (Cb ?_))))))));refine cq (ι:=GF) (λg=>[(30,.int .i64 (g.i:Int)),(8,.slice g.n.1 (((ft m).take g.i).map AF).length g.n.2)]) [(1,_),(2,_),(3,_),(7,_),(9,_),(28,_),(29,_)] (λg=>Ws w [] [ah b7 (.cells #[st m.nm,.slice g.f.1 (FQ m g.i).length g.f.2] 65 (0,0)),bt 9 1 cM g.n.1 g.n.2 (((ft m).take g.i).map AF),bt 131 4 aN.cells g.f.1 g.f.2 (FQ m g.i),ah b2 (.cells #[st [],.slice none 0 0] 65 (0,0)),ah b1 (.cells (fq m r).toArray 50 (0,0))] [F27,LO,H]) (λg=>g.i<=(ft m).length) (λg=>(ft m).length-g.i) ⟨0,(none,0),(none,0)⟩ (Nat.zero_le _) (sc O (sc O (sc O (sc O (sc O (sc O (sc O (sc O (sc O sn))))))))) (λ_ h=>by exact (((((h.f 4 O).f 4 O).f 4 O).f 3 O).f 4 O:)) ?_;intro g hi;refine ad (V0 (bj O O) (ab (Cs ?_)));refine Cc O (λaw=>?_) (λaw=>?_)
 ·have av:g.i<(ft m).length:=by simpa using aw
  obtain ⟨x,hx⟩:∃x,(ft m)[g.i]? = some x:=⟨_,List.getElem?_eq_getElem av⟩;obtain ⟨pb,po,ha,cw⟩:=R3.aS g.i x hx;have cw:aR LO pb (po+g.i*4) x.cells:=cw;obtain ⟨pv,hpv⟩:∃p,(rJ m)[g.i]? = some p:=⟨_,List.getElem?_eq_getElem (by rw [Jo,<-Jn]; exact av)⟩;obtain ⟨qb,qo,hqa,R6⟩:=R5.aS g.i pv hpv;have R6:aR F27 qb (qo+g.i*1) (zw pv):=R6
  have hT:((ft m).take (g.i+1)).map AF=((ft m).take g.i).map AF++[x.name]:=by rw [List.take_add_one,hx]; simp [AF]
  have hL:(((ft m).take g.i).map AF).length=g.i:=by simp; omega
  have hQ:=ap0 hx hpv;have hQl:=ap1 m g.i;refine aE (Cs (Cb (ad (aa O (V0 (Yo uC O O ha (by omega)) (V0 (cJ 1 lI O O O (cw)) ?_))))));refine Al Y O iI λqu=>?_;refine ae O (an 0 Y O O O k_ O O O (ab (ad (aa O (V0 (Yf yv O) (V0 (Yd 0 O O O bW) ?_))))));refine Lb Y O dc O O O O λwb=>?_;refine bL 0 (.cells (cM x.name).toArray 9 (0,0)) O (O) ?_;refine LA ((x.name:List UInt8)) 3 0 Y O dc O O O O O O (by omega) (by omega) λa39 c39=>?_;refine ae O (ab (ad (aa O (aa O (V0 (Yo ap3 O O hqa (by omega)) (V0 (bo 0 vN O O (R6 0 _ O)) (ab ?_)))))));refine Cc O (λaO=>?_) (λaO=>?_)
  ·have Lc:pv=true:=by simpa using aO
   have hQ1:FQ m (g.i+1)=FQ m g.i++[x]:=by rw [hQ,if_pos Lc]
   refine Cr (V0 (Yf wx O) (V0 (Yd 2 O O O AG) (V0 (bk 1 O O lI O) ?_)));refine Lb Y O pE O O O O λGb=>?_;refine bL 0 (.cells (aN.cells x).toArray 131 (0,0)) O (O) ?_;refine LA (x) 5 0 Y O pE O O O O O O (by omega) (by omega) λa48 c48=>?_;refine V0 (Yf wx O) (an 3 Y O O O abG O O O (Ln (Eb (Et (Cr (V0 (Yi O O O (by omega)) (aa O (Ln ?_))))))));rw [<-hT];rw [<-hQ1];exact Ea (⟨g.i+1,(a39,c39),(a48,c48)⟩:GF) (by first | omega | (dsimp only; omega)) (by first | omega | (dsimp only; omega)) (sc O (sc O (sc O (sc O (sc O (sc O (sc O (sc O (sc O sn))))))))) (λ_ h=>Wd 3 h)
  have hp0:¬pv=true:=by simpa using aO
  have hQ0:FQ m (g.i+1)=FQ m g.i:=by rw [hQ,if_neg hp0,List.append_nil]
  refine Ck (Eb (Et (Cr (V0 (Yi O O O (by omega)) (aa O (Ln ?_))))));rw [<-hT];rw [<-hQ0];exact Ea (⟨g.i+1,(a39,c39),g.f⟩:GF) (by first | omega | (dsimp only; omega)) (by first | omega | (dsimp only; omega)) (sc O (sc O (sc O (sc O (sc O (sc O (sc O (sc O (sc O sn))))))))) (λ_ h=>Wd 2 h)
 have bP:g.i=(ft m).length:=by simp at aw; omega
 have aqa:=apZ m;refine Ce (Ex (Ex (bA (Et (Cs (Cs ?_))))));rw [bP,List.take_length];refine WC.n5 (rd:=rdStr) 1 O iy (λ_ _ _ _ h=>h) λHN RY=>?_;refine Cr (aa O ?_)
 refine Lp Y O RV O (λw hw=>by
     have:=RW HN g.n.1 g.n.2 ((ft m).map AF) w (hw.vs _ (by simp)) RY
     exact this) ?_
 refine aa O ?_;apply Lo 3 O O O O Y O O O O O
 ·intro du;refine Vg (Yf sr O) (Vg (Yd 3 O O O eE) (Lp (.g O O O) O RV O (λw hw=>RW H r.a1 r.c1 m.ag w (hw.vs _ (by simp)) hm.ag) ?_));exact Gt 3 O O O
 refine ab ?_;refine Cc O (λbd=>?_) (λbd=>?_)
 ·have h6:(et ((ft m).map (·.name))||et m.ag)=true:=bd;refine ad (V0 (Yb j7 AJ O O) (an 2 Y O O O lJ O O O (ae O (ab (aA (Er ?_))))));refine WE.xo 2 O O O O j8 O λw' hw=>?_;rw [abE he h6];exact ⟨(none,0),O,hw.fr,Sl.nil⟩
 have h6:(et ((ft m).map (·.name))||et m.ag)=false:=bd;refine aE (ad (V0 (bk 0 O O j8 O) (an 2 Y O O O lJ O O O (ae O (ab (aA ?_))))));refine WE.xo 2 O O O O j8 O λw' hw=>?_;rw [apY he h6];rw [aqa] at hw ⊢;exact ⟨g.f,O,hw.fr,hw.kS 1 O aN.bq (λ_ _ _ _ h=>h)⟩
structure GI where
 i:Nat
 s:SP
 p:SP
def aI:List UInt8:=[99,110,116]
def Dr:List aN:=[⟨1,3,0,[107]⟩,⟨2,0,0,[115,117,109]⟩,⟨3,4,1,[116]⟩,⟨4,1,0,[100,111,119,110]⟩]
theorem aqb {l:List aN} {i:Nat} {x:aN} (h:(l.map (·.name)).Nodup) (hx:l[i]? = some x):x.name ∉ (l.take i).map (·.name):=by
 intro hm;have av:i<l.length:=(List.getElem?_eq_some_iff.1 hx).1;obtain ⟨j,hj⟩:=List.getElem?_of_mem hm;rw [List.getElem?_map] at hj;obtain ⟨y,hy,e⟩:=Option.map_eq_some_iff.1 hj
 have jz:j<i:=by have:=(List.getElem?_eq_some_iff.1 hy).1; simp at this; omega
 rw [List.getElem?_take,if_pos jz] at hy
 have e2:(l.map (·.name))[j]? = (l.map (·.name))[i]?:=by rw [List.getElem?_map,List.getElem?_map,hy,hx]; simp [e]
 have:=(List.getElem?_inj (by simpa using (List.getElem?_eq_some_iff.1 hy).1) h).1 e2;omega
theorem R7:Tryz.prog.underlying 143=some (.map 9 131):=by kernel_rfl
theorem abM (w:World) :
   Calls Tryz.prog 104 #[] w λe w'=>∃r:SP,e = .returned (.agg #[st aI,.slice r.1 Dr.length r.2])/\Ext w w'/\Sl lp 4 (nv w w') r.1 r.2 Dr:=by
 refine enter Tryz.func104 O 7 O O ?_;refine CE (Vs:=[]) (Ws.init (by simp)) (ad ?_);refine Al Y O j7 λb0=>?_;refine ab (ad (V0 (Yb iI yw O O) (V0 (Yb iI yw O O) (V0 (Yb iI yw O O) (V0 (Yb iI yw O O) ?_)))));refine Lb Y O pE O O O O λb5=>?_;refine V0 (Yb j7 AJ O O) (an 1 Y O O O lJ O O O (ab (aA ?_)));refine WE.dA (gR O (cZ 1 O O j8 O)) λw' hw=>?_
 exact ⟨(some ⟨b5,0,none⟩,4),O,hw.fr,⟨show Dr.length<=4 by decide,show 4<=9223372036854775807 by decide,by simp,λj x hj=>⟨b5,0,O,λk v hk=>hw.NK 0 O (by
     have:k<4:=(List.getElem?_eq_some_iff.1 hk).1
     show (Dr.flatMap aN.cells)[0+j*4+k]? = some v
     rw [Nat.zero_add,ve aN.bq hj this]; exact hk)⟩⟩⟩
theorem abN (H:View) (a:Option Addr) (c:Nat) (l:List aN) (w:World) (hH:Le H w) (hm:Sl lp 4 H a c l) (j9:(l.map (·.name)).Nodup) :
   Calls Tryz.prog 73 #[.slice a l.length c] w λe w'=>∃b:Nat,e = .returned (.map (some b))/\Ext w w'/\(nv w w') b=some (bh st (jf l 0) l.length):=by
 have dR:=hm.cap;have eQ:=hm.max;refine enter Tryz.func73 O 19 O O ?_;refine CE (Vs:=[H]) (Ws.init (by simp [hH])) (ad (ae O (ab (ad ?_))));refine WL.oY st Y O λb6=>?_;refine bL 0 (bh st (jf (l.take 0) 0) (l.take 0).length) O O (ae O (ab (Cs (ad (aa O (V0 (Yn uC O) (aa O (ab (Cb ?_)))))))));refine cq (ι:=Nat) (λi=>[(9,.int .i64 (i:Int))]) [(2,_),(3,_),(7,_),(8,_)] (λi=>Ws w [] [ah b6 (bh st (jf (l.take i) 0) (l.take i).length)] [H]) (λi=>i<=l.length) (λi=>l.length-i) 0 (Nat.zero_le _) (sc O (sc O (sc O (sc O (sc O sn))))) (λ_ h=>h) ?_;intro i hi;refine ad (V0 (bj O O) (ab (Cs ?_)));refine Cc O (λai=>?_) (λai=>?_)
 ·have av:i<l.length:=by simpa using ai
  obtain ⟨x,bn⟩:∃x,l[i]? = some x:=⟨_,List.getElem?_eq_getElem av⟩;obtain ⟨dW,dX,ha,cw⟩:=hm.aS i x bn;have cw:aR H dW (dX+i*4) x.cells:=cw;have abO:=ahB (aqb j9 bn);refine aE (Cs (Cb (ad (V0 (Yo uC O O ha (by omega)) (V0 (cJ 0 lI O O O (cw)) ?_)))));refine Al Y O iI λb5=>?_;refine an 0 Y O O O k_ O O O (ab (Cr (aa O (V0 (Yf yv O) (V0 (Yd 0 O O O bW) (V0 (bk 0 O O lI O) ?_))))));refine WL.rr 1 ix Y R7 dy O O O O ?_;refine Ln (Eb (Et (Cr (V0 (Yi O O O (by omega)) (aa O (Ln ?_))))));refine WE.n6 1 (bh st (jf (l.take (i+1)) 0) (l.take (i+1)).length) O (by rw [iU bn,<-abO.1,<-abO.2]; rfl) ?_;exact Ea (i+1) (by omega) (by omega) (sc O (sc O (sc O (sc O (sc O sn))))) (λ_ h=>Wd 1 h)
 have bP:i=l.length:=by simp at ai; omega
 rw [bP,List.take_length];refine Ce (Ex (Ex (bA (Et (ad (aa O (ae O (ab (aA ?_)))))))));refine R1 O O λw' hw=>?_;exact ⟨b6,O,hw.fr,hw.VX 0 O⟩
def jw (e:Int):List PanicEntry:=[⟨.iface 139 (.agg #[.int .i64 e]),false,false⟩]
def R8 (H:View) (b o:Nat) (l:List aN):Prop:=∃tb:Nat,vc H b o=some (.map (some tb))/\H tb=some (bh st (jf l 0) l.length)
structure wz (H:View) (sb:Nat) (σ:cR):Prop where
 at_:∃(ob ub:Nat) (fa:Option Addr) (fc lb:Nat),(vc H sb 0=some (.map (some ob))/\vc H sb 1=some (.map (some ub))/\vc H sb 2=some (.slice fa σ.xI.length fc)/\vc H sb 3=some (.map (some lb)))/\H ob=some (bh st (jf σ.own 0) σ.own.length)/\H ub=some (bh st (gH σ.ag 0) σ.ag.length)/\Sl R8 1 H fa fc σ.xI/\H lb=some (bh st (gH σ.ay 0) σ.ay.length)
 nd:σ.ag.Nodup
 len:σ.ag.length=σ.xI.length
 eA:σ.ag.length<=3/\σ.ay.length<=7
def aqc:aN:=⟨0,0,0,[]⟩
def mP (nm:List UInt8) (l:List (List UInt8)):Int:=match idxOf nm l 0 with | some k=>((k+1:Nat):Int) | none=>0
theorem R9 (nm:List UInt8) (l:List (List UInt8)):dO nm (gH l 0) (.int .i64 0) = .int .i64 (mP nm l):=ahA nm l
theorem R' {nm:List UInt8} {l:List (List UInt8)} (h:0<mP nm l):∃k:Nat,idxOf nm l 0=some k/\mP nm l=((k+1:Nat):Int)/\k<l.length:=by
 unfold mP at h ⊢
 cases hk:idxOf nm l 0 with
 | none=>rw [hk] at h; exact absurd h (by decide)
 | some k=>exact ⟨k,rfl,rfl,by have:=(B1 hk).2; exact (List.getElem?_eq_some_iff.1 this).1⟩
theorem R_ {nm:List UInt8} {l:List (List UInt8)} (h:¬0<mP nm l):idxOf nm l 0=none:=by
 unfold mP at h
 cases hk:idxOf nm l 0 with
 | none=>rfl
 | some k=>rw [hk] at h; exact absurd (by simp only; omega) h
def Ds (nm:List UInt8) (l:List aN):aN:=(fW nm l).getD aqc
theorem abP (nm:List UInt8) (l:List aN):dO nm (jf l 0) (.agg #[.int .i64 0,.int .i64 0,.int .i64 0,st []]) = .agg (Ds nm l).cells.toArray:=by
 rw [(Wf nm l _).1];unfold Ds
 cases fW nm l<;>rfl
theorem abQ (nm:List UInt8) (l:List aN):oZ nm (jf l 0)=(fW nm l).isSome:=(Wf nm l (.bool false)).2
theorem abR {nm:List UInt8} {l:List aN} (h:(fW nm l).isSome=true):fW nm l=some (Ds nm l):=by
 unfold Ds
 cases hf:fW nm l with
 | none=>rw [hf] at h; cases h
 | some x=>rfl
theorem abS {nm:List UInt8} {l:List aN} (h:(fW nm l).isSome=false):fW nm l=none:=by
 cases hf:fW nm l with
 | none=>rfl
 | some x=>rw [hf] at h; cases h
theorem aqd {σ:cR} {nm:List UInt8} {k:Nat} (h:idxOf nm σ.ay 0=some k):fY σ [] nm=some (-1,OF k):=by rw [fY,if_pos rfl,h]
theorem abT {σ:cR} {nm:List UInt8} (h:idxOf nm σ.ay 0=none):fY σ [] nm=(fW nm σ.own).map λx=>(0,x):=by rw [fY,if_pos rfl,h]
theorem abU {σ:cR} {mod nm:List UInt8} (h:¬mod=[]) (hn:σ.ag.Nodup) (hl:σ.ag.length=σ.xI.length) {k:Nat} {f:List aN} (hk:idxOf mod σ.ag 0=some k) (hf:σ.xI[k]? = some f):fY σ mod nm=(fW nm f).map λx=>(((k+1:Nat):Int),x):=by
 rw [fY,if_neg h,Wj hn hl,hk];simp [hf]
theorem aqe {σ:cR} {mod nm:List UInt8} (h:¬mod=[]) (hk:idxOf mod σ.ag 0=none):fY σ mod nm=none:=by
 rw [fY,if_neg h,ON (xL.1 hk)]
theorem Sa {mod nm:List UInt8}:∀{us:List (List UInt8)} {fs:List (List aN)} {s:Nat} {m:Int} {x:aN},n9 mod nm us fs s=some (m,x)->0<=m
 | [],_,_,_,_,h=>by simp [n9] at h
 | u::us,[],_,_,_,h=>by simp [n9] at h
 | u::us,f::fs,s,m,x,h=>by
   rw [n9] at h
   split at h
   · split at h
     · injection h with h; injection h with h1 h2; omega
     · exact Sa h
   · exact Sa h
theorem uG {σ:cR} {mod nm:List UInt8} {m:Int} {x:aN} (h:fY σ mod nm=some (m,x)):m = -1\/0<=m:=by
 unfold fY at h
 split at h
 · split at h
   · injection h with h; injection h with h1 h2; exact .inl h1.symm
   · cases hf:fW nm σ.own with
     | none=>rw [hf] at h; cases h
     | some y=>rw [hf] at h; injection h with h; injection h with h1 h2; right; omega
 · exact .inr (Sa h)
def jx (σ:cR) (mod nm:List UInt8) (kind args:Int):Int:=match fY σ mod nm with
 | none=>5
 | some (m,it)=>if ¬(0<=m/\it.kind=kind) then 7 else if kind=4/\¬it.n=args then 8 else 0
theorem Hh {σ:cR} {mod nm:List UInt8} {kind args:Int} (h:fY σ mod nm=none):jx σ mod nm kind args=5:=by unfold jx; rw [h]
theorem wA {σ:cR} {mod nm:List UInt8} {kind args m:Int} {it:aN} (h:fY σ mod nm=some (m,it)):jx σ mod nm kind args=if ¬(0<=m/\it.kind=kind) then 7 else if kind=4/\¬it.n=args then 8 else 0:=by unfold jx; rw [h]
def Sb (HS:View) (sb:Nat) (σ:cR) (k:Nat):Prop:=∀(HE:View) (l:List az) (a:Option Addr) (c:Nat) (w:World),Le HS w->Le HE w->Sl (eU k) 5 HE a c l->dH l<=109951162777->
 Calls Tryz.prog 176 #[.pointer (some ⟨sb,0,none⟩),.slice a l.length c] w λe w'=>(∃r:SP,e = .returned (.slice r.1 (oc σ l).length r.2)/\Ext w w'/\lq σ l=0/\Sl (kx (k+1)) 5 (nv w w') r.1 r.2 (oc σ l))\/(∃_:Unit,e = .panicked (jw (lq σ l))/\Ext w w'/\lq σ l≠0)
theorem aqf:fo Tryz.prog 139=some [(0,1)]:=by kernel_rfl
theorem LZ:zeroOf Tryz.prog 139=some (.agg #[.int .i64 0]):=by kernel_rfl
theorem aqg:Tryz.prog.concrete 139=true:=by kernel_rfl
theorem Hi:bw Tryz.prog 147 3=some 3:=by kernel_rfl
theorem wB:dQ Tryz.prog 123=true:=by kernel_rfl
theorem aqh:bw Tryz.prog 147 0=some 0:=by kernel_rfl
theorem abV:dQ Tryz.prog 143=true:=by kernel_rfl
theorem wC:Enters Tryz.prog 74:=enters_of Tryz.func74 (by kernel_rfl) rfl
theorem abW:bw Tryz.prog 147 1=some 1:=by kernel_rfl
theorem Sc:bw Tryz.prog 147 2=some 2:=by kernel_rfl
theorem abX:dQ Tryz.prog 145=true:=by kernel_rfl
theorem aqi:eo Tryz.prog 145=some 1:=by kernel_rfl
theorem wF (b:Bool) (n:Int) (w:World) :
   Calls Tryz.prog 74 #[.bool b,.int .i64 n] w λe w'=>(∃_:Unit,e = .returned (.tuple #[])/\Ext w w'/\b=true)\/(∃_:Unit,e = .panicked (jw n)/\Ext w w'/\b=false):=by
 refine enter Tryz.func74 O 9 O O ?_;refine CE (Vs:=[]) (Ws.init (by simp)) (ad (aa O (V0 (dK O) (ab ?_))));refine Cc O (λai=>?_) (λai=>?_)
 ·refine Cr (aa O (V0 (Yb LZ aqf O O) (V0 (rh aqg O) ?_)));refine WL.panic Y O ?_;refine bc λw' hw=>?_;exact .inr ⟨(),O,hw.fr,by simpa using ai⟩
 refine Ck ?_;refine E0 O λw' hw=>?_;exact .inl ⟨(),O,hw.fr,by simpa using ai⟩
theorem Sd (HS:View) (sb:Nat) (σ:cR) (w:World) (pF:Le HS w) (hS:wz HS sb σ) (mod nm:List UInt8) :
   Calls Tryz.prog 174 #[.pointer (some ⟨sb,0,none⟩),st mod,st nm] w λe w'=>(∃i:Int×aN,e = .returned (.tuple #[.int .i64 i.1,.agg i.2.cells.toArray])/\Ext w w'/\fY σ mod nm=some i)\/(∃_:Unit,e = .panicked (jw 5)/\Ext w w'/\fY σ mod nm=none):=by
 obtain ⟨⟨ob,ub,fa,fc,lb,⟨h0,h1,h2,h3⟩,hob,L0,sV,Se⟩,j9,hlen,eA⟩:=hS;refine enter Tryz.func174 O 65 O O ?_;refine CE (Vs:=[HS]) (Ws.init (by simp [pF])) (ad (ae O ?_));refine Al Y O iI λb7=>?_;refine ab (Cs (ad (aa O (V0 (y5 O O) (ab ?_)))));refine Cc O (λai=>?_) (λai=>?_)
 ·obtain rfl:mod=[]:=by simpa using ai
  refine Cs (ad (aa O (V0 (bD O) (V0 (Yf Hi O) (V0 (bo 0 wB O O (h3)) (aa O (V0 (Ji 0 O ix iH dy me O O (Se)) ?_)))))));rw [R9];refine ae O (ab (ad (aa O (V0 (cI O O) (ab ?_)))));refine Cc O (λaw=>?_) (λaw=>?_)
  ·obtain ⟨k,hk,e7,sk⟩:=R' (nm:=nm) (l:=σ.ay) (by simpa using aw);refine ad (aa O (V0 (sX (k:Int) O O (by rw [e7]; omega) (by omega)) (V0 (Yb iI yw O O) (ae O (an 0 Y O O O k_ O O O (ab (aA (Er (Er ?_)))))))));refine WE.dA (eZ O (gC O) (cZ 0 O O lI O)) λw' hw=>?_;exact .inl ⟨(-1,OF k),O,hw.fr,aqd hk⟩
  have hk:=R_ (nm:=nm) (l:=σ.ay) (by simpa using aw);refine aE (ad (aa O (V0 (bD O) (V0 (Yf aqh O) (V0 (bo 0 abV O O (h0)) (aa O (V0 (VW 0 O ix R7 dy iI O O (hob)) ?_)))))));rw [abP,abQ];refine aa O (V0 (Yx O O) (V0 (Yx O O) ?_));refine Al Y O iI λb9=>?_;refine an 0 Y O O O k_ O O O (ae O (ab (ad (aa O ?_))));refine WL.mz (ι:=Unit) (κ:=Unit) Y O wC O (λ_=>.tuple #[]) (λ_=>(fW nm σ.own).isSome=true) (λ_=>jw 5) (λ_=>(fW nm σ.own).isSome=false) (λw hw=>wF _ _ w) ?_ ?_
  ·intro _ hp;refine Ep (Ep ?_);refine bc λw' hw=>?_;exact .inr ⟨(),O,hw.fr,by rw [abT hk,abS hp]; rfl⟩
  intro _ aqk;refine ab (Cs ?_);refine WC.mr 1 [(0,true),(1,true),(2,false)] mixed (by kernel_rfl) (λ_ _ _ d _ h=>by cases d<;>exact h) ?_;refine D0 O (Wp 1) (bk 0 O O lI O) (D0 O (Wp 1) (Ya O) ?_);refine De O (Wp 1) ?_;refine an 1 Y O O O k_ O O O (Ln (Ed ?_));refine WD.nil (Wp 1) ?_;refine Et (aA (Er ?_));refine WE.dA (eZ O (gC O) (cZ 1 O O lI O)) λw' hw=>?_;exact .inl ⟨(0,Ds nm σ.own),O,hw.fr,by rw [abT hk,abR aqk]; rfl⟩
 have wG:¬mod=[]:=by simpa using ai
 refine aE (ad (aa O (V0 (bD O) (V0 (Yf abW O) (V0 (bo 0 wB O O (h1)) (aa O (V0 (Ji 0 O ix iH dy me O O (L0)) ?_)))))));rw [R9];refine ae O (ab (ad (aa O (V0 (cI O O) ?_))));refine WL.mz (ι:=Unit) (κ:=Unit) Y O wC O (λ_=>.tuple #[]) (λ_=>decide (0<mP mod σ.ag)=true) (λ_=>jw 5) (λ_=>decide (0<mP mod σ.ag)=false) (λw hw=>wF _ _ w) ?_ ?_
 ·intro _ hp;refine Ep ?_;refine bc λw' hw=>?_;exact .inr ⟨(),O,hw.fr,aqe wG (R_ (by simpa using hp))⟩
 intro _ we;obtain ⟨k,hk,e7,sk⟩:=R' (nm:=mod) (l:=σ.ag) (by simpa using we);obtain ⟨f,hf⟩:∃f,σ.xI[k]? = some f:=⟨_,List.getElem?_eq_getElem (by omega)⟩;obtain ⟨pb,po,ha,tb,htb,htm⟩:=sV.aS k f hf;have yx:=sV.cap;have hfm:=sV.max;refine ab (ad (aa O (V0 (bD O) (V0 (Yf Sc O) (V0 (bo 0 abX O O (h2)) (aa O (V0 (sX (k:Int) O O (by rw [e7]; omega) (by omega)) (V0 (Yo aqi O O ha (by omega)) ?_))))))));refine V0 (bo 0 abV O O (htb)) (aa O (V0 (VW 0 O ix R7 dy iI O O (htm)) ?_));rw [abP,abQ];refine aa O (V0 (Yx O O) (V0 (Yx O O) ?_));refine Al Y O iI λDi=>?_;refine an 0 Y O O O k_ O O O (ae O (ab (ad (aa O ?_))));refine WL.mz (ι:=Unit) (κ:=Unit) Y O wC O (λ_=>.tuple #[]) (λ_=>(fW nm f).isSome=true) (λ_=>jw 5) (λ_=>(fW nm f).isSome=false) (λw hw=>wF _ _ w) ?_ ?_
 ·intro _ hp;refine Ep ?_;refine bc λw' hw=>?_;exact .inr ⟨(),O,hw.fr,by rw [abU wG j9 hlen hk hf,abS hp]; rfl⟩
 intro _ Kz;refine ab (Cs ?_);refine WC.mr 1 [(0,true),(1,true),(2,true),(3,false)] mixed (by kernel_rfl) (λ_ _ _ d _ h=>by cases d<;>exact h) ?_;refine D0 O (Wp 1) (Ym O) (D0 O (Wp 1) (bk 0 O O lI O) (D0 O (Wp 1) (Ya O) ?_));refine De O (Wp 1) ?_;refine an 1 Y O O O k_ O O O (Ln (Ed ?_));refine WD.nil (Wp 1) ?_;refine Et (aA ?_);refine WE.dA (eZ O (gC O) (cZ 1 O O lI O)) λw' hw=>?_;rw [e7] at *;exact .inl ⟨(((k+1:Nat):Int),Ds nm f),O,hw.fr,by rw [abU wG j9 hlen hk hf,abR Kz]; rfl⟩
theorem aqn {σ:cR} {n m:Int} {it:aN} {mod nm:List UInt8} {len:Nat} (h:fY σ mod nm=some (m,it)):cL σ 3 n mod nm len=if m = -1 then ⟨16,n,0,it.pl,0⟩ else if it.kind=1 then ⟨1,it.n,0,0,0⟩ else if it.kind=2 then ⟨3,n,m,it.pl,0⟩ else ⟨3,n,0,0,7⟩:=by
 unfold cL;rw [if_pos (by decide),h];simp
theorem Sf {σ:cR} {op n:Int} {mod nm:List UInt8} {len:Nat} (ho:op=3\/op=4\/op=5) (h:fY σ mod nm=none):cL σ op n mod nm len=⟨op,n,0,0,5⟩:=by
 unfold cL;rw [if_pos (by unfold dG; simp; omega),h]
theorem aqo {σ:cR} {op n:Int} {mod nm:List UInt8} {len:Nat} (h3:¬op=3) (h4:¬op=4) (h5:¬op=5):cL σ op n mod nm len=⟨op,n,0,0,0⟩:=by
 unfold cL;rw [if_neg (by unfold dG; simp; omega)]
theorem aqp {σ:cR} {n:Int} {mod nm:List UInt8} {len:Nat} (h:jx σ mod nm 3 0≠0):(cL σ 4 n mod nm len).e=jx σ mod nm 3 0:=by
 cases hf:fY σ mod nm with
 | none=>rw [Sf (by simp) hf,Hh hf]
 | some i=>
   obtain ⟨m,it⟩:=i;have hm:=uG hf;rw [wA hf] at h ⊢;unfold cL;rw [if_pos (by decide),hf]
   by_cases h1:m = -1
   · simp [h1]
   · by_cases h2:it.kind=3
     · exact absurd (by rw [if_neg (by omega),if_neg (by omega)]) h
     · simp [h1,h2]
theorem aqq {σ:cR} {n m:Int} {it:aN} {mod nm:List UInt8} {len:Nat} (hf:fY σ mod nm=some (m,it)) (h:jx σ mod nm 3 0=0):cL σ 4 n mod nm len=⟨4,it.n,m,it.pl,0⟩:=by
 rw [wA hf] at h;have hm:=uG hf
 have h1:0<=m/\it.kind=3:=by
   by_cases hc:0<=m/\it.kind=3
   · exact hc
   · rw [if_pos hc] at h; cases h
 unfold cL;rw [if_pos (by decide),hf];simp [h1.2,show ¬m = -1 by omega]
theorem aqr {σ:cR} {n:Int} {mod nm:List UInt8} {len:Nat} (h:jx σ mod nm 4 (len:Int)≠0):(cL σ 5 n mod nm len).e=jx σ mod nm 4 (len:Int):=by
 cases hf:fY σ mod nm with
 | none=>rw [Sf (by simp) hf,Hh hf]
 | some i=>
   obtain ⟨m,it⟩:=i;have hm:=uG hf;rw [wA hf] at h ⊢;unfold cL;rw [if_pos (by decide),hf]
   by_cases h1:m = -1
   · simp [h1]
   · by_cases h2:it.kind=4
     · by_cases h3:it.n=(len:Int)
       · exact absurd (by rw [if_neg (by omega),if_neg (by omega)]) h
       · simp [h1,h2,h3,show 0<=m by omega]
     · simp [h1,h2]
theorem aqs {σ:cR} {n m:Int} {it:aN} {mod nm:List UInt8} {len:Nat} (hf:fY σ mod nm=some (m,it)) (h:jx σ mod nm 4 (len:Int)=0):cL σ 5 n mod nm len=⟨5,n,m,it.pl,0⟩:=by
 rw [wA hf] at h;have hm:=uG hf
 have h1:0<=m/\it.kind=4:=by
   by_cases hc:0<=m/\it.kind=4
   · exact hc
   · rw [if_pos hc] at h; cases h
 have h2:it.n=(len:Int):=by
   rw [if_neg (λhc=>hc h1)] at h
   by_cases hc:it.n=(len:Int)
   · exact hc
   · rw [if_pos ⟨rfl,hc⟩] at h; cases h
 unfold cL;rw [if_pos (by decide),hf];simp [h1.2,h2,show ¬m = -1 by omega]
theorem Sg {σ:cR} {op:Int} {mod nm:List UInt8} {len:Nat} (ho:op=1\/op=2\/op=3) (h:fY σ mod nm=none):dw σ op mod nm len=⟨op,0,0,0,5⟩:=by
 unfold dw;rw [if_pos (by unfold dG; simp; omega),h]
theorem aqt {σ:cR} {op:Int} {mod nm:List UInt8} {len:Nat} (h1:¬op=1) (h2:¬op=2) (h3:¬op=3):dw σ op mod nm len=⟨op,0,0,0,0⟩:=by
 unfold dw;rw [if_neg (by unfold dG; simp; omega)]
theorem aqu {σ:cR} {m:Int} {it:aN} {mod nm:List UInt8} {len:Nat} (h:fY σ mod nm=some (m,it)):dw σ 1 mod nm len=if m = -1\/it.kind=2 then ⟨1,0,m,it.pl,0⟩ else ⟨1,0,0,0,7⟩:=by
 unfold dw;rw [if_pos (by decide),h]
 by_cases h1:m = -1\/it.kind=2
 · simp [h1]
 · simp [h1,show ¬m = -1 from λe=>h1 (.inl e)]
theorem aqv {σ:cR} {mod nm:List UInt8} {len:Nat} (h:jx σ mod nm 3 0≠0):(dw σ 2 mod nm len).e=jx σ mod nm 3 0:=by
 cases hf:fY σ mod nm with
 | none=>rw [Sg (by simp) hf,Hh hf]
 | some i=>
   obtain ⟨m,it⟩:=i;have hm:=uG hf;rw [wA hf] at h ⊢;unfold dw;rw [if_pos (by decide),hf]
   by_cases h1:m = -1
   · simp [h1]
   · by_cases h2:it.kind=3
     · exact absurd (by rw [if_neg (by omega),if_neg (by omega)]) h
     · simp [h1,h2]
theorem aqw {σ:cR} {m:Int} {it:aN} {mod nm:List UInt8} {len:Nat} (hf:fY σ mod nm=some (m,it)) (h:jx σ mod nm 3 0=0):dw σ 2 mod nm len=⟨2,it.n,m,it.pl,0⟩:=by
 rw [wA hf] at h;have hm:=uG hf
 have h1:0<=m/\it.kind=3:=by
   by_cases hc:0<=m/\it.kind=3
   · exact hc
   · rw [if_pos hc] at h; cases h
 unfold dw;rw [if_pos (by decide),hf];simp [h1.2,show ¬m = -1 by omega]
theorem aqx {σ:cR} {mod nm:List UInt8} {len:Nat} (h:jx σ mod nm 4 (len:Int)≠0):(dw σ 3 mod nm len).e=jx σ mod nm 4 (len:Int):=by
 cases hf:fY σ mod nm with
 | none=>rw [Sg (by simp) hf,Hh hf]
 | some i=>
   obtain ⟨m,it⟩:=i;have hm:=uG hf;rw [wA hf] at h ⊢;unfold dw;rw [if_pos (by decide),hf]
   by_cases h1:m = -1
   · simp [h1]
   · by_cases h2:it.kind=4
     · by_cases h3:it.n=(len:Int)
       · exact absurd (by rw [if_neg (by omega),if_neg (by omega)]) h
       · simp [h1,h2,h3,show 0<=m by omega]
     · simp [h1,h2]
theorem aqy {σ:cR} {m:Int} {it:aN} {mod nm:List UInt8} {len:Nat} (hf:fY σ mod nm=some (m,it)) (h:jx σ mod nm 4 (len:Int)=0):dw σ 3 mod nm len=⟨3,0,m,it.pl,0⟩:=by
 rw [wA hf] at h;have hm:=uG hf
 have h1:0<=m/\it.kind=4:=by
   by_cases hc:0<=m/\it.kind=4
   · exact hc
   · rw [if_pos hc] at h; cases h
 have h2:it.n=(len:Int):=by
   rw [if_neg (λhc=>hc h1)] at h
   by_cases hc:it.n=(len:Int)
   · exact hc
   · rw [if_pos ⟨rfl,hc⟩] at h; cases h
 unfold dw;rw [if_pos (by decide),hf];simp [h1.2,h2,show ¬m = -1 by omega]
structure GX (X:Type) where
 i:Nat
 es:List X
 a:Option Addr
 c:Nat
 J:View
theorem Si:Enters Tryz.prog 174:=enters_of Tryz.func174 (by kernel_rfl) rfl
theorem Hj:zeroOf Tryz.prog 269=some (.agg #[.int .i64 0,.int .i64 0,.int .i64 0,.int .i64 0,.slice none 0 0]):=by kernel_rfl
theorem aqz:fo Tryz.prog 269=some [(0,1),(1,1),(2,1),(3,1),(4,1)]:=by kernel_rfl
theorem L3:cC Tryz.prog 269=some 5:=by kernel_rfl
theorem qK:bw Tryz.prog 269 0=some 0:=by kernel_rfl
theorem lK:bw Tryz.prog 269 3=some 3:=by kernel_rfl
theorem mQ:bw Tryz.prog 269 1=some 1:=by kernel_rfl
theorem mR:bw Tryz.prog 269 2=some 2:=by kernel_rfl
theorem L4:Enters Tryz.prog 175:=enters_of Tryz.func175 (by kernel_rfl) rfl
theorem abY:Enters Tryz.prog 176:=enters_of Tryz.func176 (by kernel_rfl) rfl
theorem qL:bw Tryz.prog 269 4=some 4:=by kernel_rfl
theorem abZ:cC Tryz.prog 203=some 1:=by kernel_rfl
theorem la:gj Tryz.prog 269=some 5:=by kernel_rfl
theorem L5 (HS:View) (sb:Nat) (σ:cR) (w:World) (pF:Le HS w) (hS:wz HS sb σ) (mod nm:List UInt8) (kind args:Int) :
   Calls Tryz.prog 175 #[.pointer (some ⟨sb,0,none⟩),st mod,st nm,.int .i64 kind,.int .i64 args] w λe w'=>(∃i:Int×aN,e = .returned (.tuple #[.int .i64 i.1,.agg i.2.cells.toArray])/\Ext w w'/\fY σ mod nm=some i/\jx σ mod nm kind args=0)\/(∃_:Unit,e = .panicked (jw (jx σ mod nm kind args))/\Ext w w'/\jx σ mod nm kind args≠0):=by
 refine enter Tryz.func175 O 41 O O ?_;refine CE (Vs:=[HS]) (Ws.init (by simp [pF])) (ad (ae O ?_));refine Al Y O iI λqu=>?_;refine ab (ad (aa O (aa O (aa O ?_))));refine WL.mz Y O Si O _ _ _ _ (λw hw=>Sd HS sb σ w (hw.vs _ (by simp)) hS mod nm) ?_ ?_
 ·intro _ hp;refine Ep ?_;refine bc λw' hw=>?_;rw [Hh hp];exact .inr ⟨(),O,hw.fr,by decide⟩
 intro ⟨m18,Hk⟩ Gy;have AK:=wA (kind:=kind) (args:=args) Gy;refine aa O (V0 (Yx O O) (V0 (Yx O O) ?_));refine Al Y O iI λj4=>?_;refine ae O (an 0 Y O O O k_ O O O (ab (ad (aa O (V0 (fm O O) (aa O ?_))))));apply La 4 O O O O Y O O O O O
 ·intro du;refine Vg (Yf Dp O) (Vg (Yd 0 O O O ar) (Vg (Ym O) (Vg (aW O O) ?_)));exact Gt 4 O O O
 refine WL.mz (ι:=Unit) (κ:=Unit) Y O wC O (λ_=>.tuple #[]) (λ_=>_=true) (λ_=>jw _) (λ_=>_=false) (λw hw=>wF _ _ w) ?_ ?_
 ·intro _ hp;refine Ep ?_;refine bc λw' hw=>?_
  have h7:¬(0<=m18/\Hk.kind=kind):=by rintro ⟨h1,h2⟩; simp [h1,h2] at hp
  rw [if_pos h7] at AK;rw [AK];exact .inr ⟨(),O,hw.fr,by decide⟩
 intro _ RE
 have h7:0<=m18/\Hk.kind=kind:=by simpa using RE
 rw [if_neg (λhc=>hc h7)] at AK;refine ab (ad (aa O (V0 (eL O O) (aa O ?_))));apply Lo 4 O O O O Y O O O O O
 ·intro eh;refine Vg (Yf oM O) (Vg (Yd 0 O O O ar) (Vg (Ym O) (Vg (aW O O) ?_)));exact Gt 4 O O O
 refine WL.mz (ι:=Unit) (κ:=Unit) Y O wC O (λ_=>.tuple #[]) (λ_=>_=true) (λ_=>jw _) (λ_=>_=false) (λw hw=>wF _ _ w) ?_ ?_
 ·intro _ hp;refine Ep ?_;refine bc λw' hw=>?_
  have h8:kind=4/\¬Hk.n=args:=by simpa using hp
  rw [if_pos h8] at AK;rw [AK];exact .inr ⟨(),O,hw.fr,by decide⟩
 intro _ Ku;refine ab (Cs ?_);refine WC.mr 1 [(0,true),(1,true),(2,true),(3,false)] mixed (by kernel_rfl) (λ_ _ _ d _ h=>by cases d<;>exact h) ?_;refine D0 O (Wp 1) (Ym O) (D0 O (Wp 1) (bk 0 O O lI O) (D0 O (Wp 1) (Ya O) ?_));refine De O (Wp 1) ?_;refine an 1 Y O O O k_ O O O (Ln (Ed ?_));refine WD.nil (Wp 1) ?_;refine Et (aA ?_);refine WE.dA (eZ O (gC O) (cZ 1 O O lI O)) λw' hw=>?_
 have h8:¬(kind=4/\¬Hk.n=args):=by rintro ⟨h1,h2⟩; simp [h1,h2] at Ku
 rw [if_neg h8] at AK;exact .inl ⟨(m18,Hk),O,hw.fr,Gy,AK⟩
theorem aqA (HS HE:View) (sb:Nat) (σ:cR) (k:Nat) (x:az) (a:Option Addr) (c:Nat) (w:World) (pF:Le HS w) (wH:Le HE w) (hS:wz HS sb σ) (hN:Sb HS sb σ k) (hm:Sl (eU k) 5 HE a c x.args) (x0:wE x<=109951162777) :
   Calls Tryz.prog 222 #[.pointer (some ⟨sb,0,none⟩),.agg (zt x a c).toArray] w λe w'=>(∃r:SP,e = .returned (.agg (rK (n_ σ x) r.1 r.2).toArray)/\Ext w w'/\ky σ x=0/\tf (k+1) (nv w w') (n_ σ x,r))\/(∃_:Unit,e = .panicked (jw (ky σ x))/\Ext w w'/\ky σ x≠0):=by
 have hwe:=VJ x;have dR:=hm.cap;have eQ:=hm.max;refine enter Tryz.func222 O 98 O O ?_;refine CE (Vs:=[HE,HS]) (Ws.init (by simp [wH,pF])) (ad ?_);refine WL.box Y O O λb3=>?_;refine Al Y O Hj λb4=>?_;refine ab (ad (V0 (Yf zQ O) (V0 (Yd 1 O O O ar) (V0 (Yf J9 O) (V0 (Yd 1 O O O ar) (V0 (Yb Hj aqz O O) ?_))))));refine Al Y O Hj λb5=>?_;refine an 0 Y O O O L3 O O O (ab ?_);refine WC.I6 (ι:=Unit) (λ_u=>[(0,.pointer (some ⟨sb,0,none⟩)),(3,.pointer (some ⟨b3,0,none⟩)),(4,.pointer (some ⟨b4,0,none⟩)),(5,.pointer (some ⟨b5,0,none⟩))]) (λ_u=>Ws w [] [ah b5 (.cells #[.int .i64 (cL σ x.op x.n x.mod x.nm x.args.length).op,.int .i64 (cL σ x.op x.n x.mod x.nm x.args.length).n,.int .i64 (cL σ x.op x.n x.mod x.nm x.args.length).m,.int .i64 (cL σ x.op x.n x.mod x.nm x.args.length).pl,.slice none 0 0] 269 (0,0)),ah b4 (.cells #[.int .i64 0,.int .i64 0,.int .i64 0,.int .i64 0,.slice none 0 0] 269 (0,0)),ah b3 (.cells (zt x a c).toArray 263 (0,0))] [HE,HS]) (λ_u=>(cL σ x.op x.n x.mod x.nm x.args.length).e=0) ?_ ?_
 ·refine ad (V0 (Yf zQ O) (V0 (Yd 2 O O O ar) (ab (Cb (ad (V0 (aW O O) (ae O (ab ?_))))))));refine Cc O (λai=>?_) (λai=>?_)
  ·have gD:x.op=3:=by simpa using ai
   refine ad (aa O (V0 (Yf J7 O) (V0 (Yd 2 O O O bW) (V0 (Yf J8 O) (V0 (Yd 2 O O O bW) ?_)))));refine WL.mz Y O Si O _ _ _ _ (λw hw=>Sd HS sb σ w (hw.vs _ (by simp)) hS x.mod x.nm) ?_ ?_
   ·intro _ hp;refine Ep (WE.bx (Ep ?_));refine bc λw' hw=>?_
    have he:ky σ x=5:=by rw [BZ,Sf (by omega) hp]; rfl
    rw [he];exact .inr ⟨(),O,hw.fr,by decide⟩
   intro ⟨Sj,AL⟩ R4;have yy:=aqn (n:=x.n) (len:=x.args.length) R4;have EH:=uG R4;rw [<-gD] at yy;refine aa O (V0 (Yx O O) (V0 (Yx O O) ?_));refine Al Y O iI λb7=>?_;refine ae O (an 0 Y O O O k_ O O O (ab (Cb (ad (aa O (V0 (bj O O) (ae O (ab ?_))))))));refine Cc O (λaw=>?_) (λaw=>?_)
   ·have Sk:Sj = -1:=by simp at aw; omega
    have gz:(cL σ x.op x.n x.mod x.nm x.args.length)=⟨16,x.n,0,AL.pl,0⟩:=by rw [yy,if_pos Sk]
    refine WC.mr 1 [(0,true),(1,true),(2,true),(3,false),(4,false),(5,false)] mixed (by kernel_rfl) (λ_ _ _ d _ h=>by cases d<;>exact h) ?_;refine D0 O (Wp 1) (Yf k9 O) (D0 O (Wp 1) (Yd 0 O O O ar) (D0 O (Wp 1) (Yf qK O) ?_));refine De O (Wp 1) ?_;refine an 1 Y O O O di O O O (Ln (Ed ?_));refine De O (Wp 1) ?_;refine V0 (Yf lK O) (Ln (Ed ?_));refine De O (Wp 1) ?_;refine an 1 Y O O O di O O O (Ln (Ed ?_));refine WD.nil (Wp 1) ?_;refine Eb (Eb ?_);refine WE.n6 1 (.cells #[.int .i64 (cL σ x.op x.n x.mod x.nm x.args.length).op,.int .i64 (cL σ x.op x.n x.mod x.nm x.args.length).n,.int .i64 (cL σ x.op x.n x.mod x.nm x.args.length).m,.int .i64 (cL σ x.op x.n x.mod x.nm x.args.length).pl,.slice none 0 0] 269 (0,0)) O (by rw [gz]; rfl) ?_
    exact Em () (by rw [gz]) (sc O (sc O (sc O (sc O sn)))) (λ_ h=>by
      have h:=h.aX 3 rfl;have h:=h.aX 3 rfl;have h:=h.aX 3 rfl;have h:=Wt 3 h
      exact h)
   have Sk:¬Sj = -1:=by simp at aw; omega
   rw [if_neg Sk] at yy;refine ad (V0 (Yf Dp O) (V0 (Yd 0 O O O ar) (V0 (aW O O) (ae O (ab ?_)))));refine Cc O (λaO=>?_) (λaO=>?_)
   ·have jB:AL.kind=1:=by simpa using aO
    have gz:(cL σ x.op x.n x.mod x.nm x.args.length)=⟨1,AL.n,0,0,0⟩:=by rw [yy,if_pos jB]
    refine WC.mr 1 [(0,true),(1,true),(2,true),(3,false),(4,false),(5,false)] mixed (by kernel_rfl) (λ_ _ _ d _ h=>by cases d<;>exact h) ?_;refine D0 O (Wp 1) (Yf oM O) (D0 O (Wp 1) (Yd 0 O O O ar) (D0 O (Wp 1) (Yf qK O) ?_));refine De O (Wp 1) ?_;refine an 1 Y O O O di O O O (Ln (Ed ?_));refine De O (Wp 1) ?_;refine V0 (Yf mQ O) (Ln (Ed ?_));refine De O (Wp 1) ?_;refine an 1 Y O O O di O O O (Ln (Ed ?_));refine WD.nil (Wp 1) ?_;refine Eb (Eb ?_);refine WE.n6 1 (.cells #[.int .i64 (cL σ x.op x.n x.mod x.nm x.args.length).op,.int .i64 (cL σ x.op x.n x.mod x.nm x.args.length).n,.int .i64 (cL σ x.op x.n x.mod x.nm x.args.length).m,.int .i64 (cL σ x.op x.n x.mod x.nm x.args.length).pl,.slice none 0 0] 269 (0,0)) O (by rw [gz]; rfl) ?_
    exact Em () (by rw [gz]) (sc O (sc O (sc O (sc O sn)))) (λ_ h=>by
      have h:=h.aX 3 rfl;have h:=h.aX 3 rfl;have h:=h.aX 3 rfl;have h:=Wt 3 h
      exact h)
   have jB:¬AL.kind=1:=by simpa using aO
   rw [if_neg jB] at yy;refine ad (V0 (Yf Dp O) (V0 (Yd 0 O O O ar) (V0 (aW O O) ?_)));refine WL.mz (ι:=Unit) (κ:=Unit) Y O wC O (λ_=>.tuple #[]) (λ_=>_=true) (λ_=>jw _) (λ_=>_=false) (λw hw=>wF _ _ w) ?_ ?_
   ·intro _ hp;refine Ep (WE.bx (WE.bx (Ep ?_)));refine bc λw' hw=>?_
    have e7:¬AL.kind=2:=by simpa using hp
    rw [if_neg e7] at yy
    have he:ky σ x=7:=by rw [BZ,yy]; rfl
    rw [he];exact .inr ⟨(),O,hw.fr,by decide⟩
   intro _ Dd
   have e7:AL.kind=2:=by simpa using Dd
   have gz:(cL σ x.op x.n x.mod x.nm x.args.length)=⟨x.op,x.n,Sj,AL.pl,0⟩:=by rw [yy,if_pos e7,gD]
   refine ab ?_;refine WC.mr 1 [(0,true),(1,true),(2,true),(3,true),(4,false),(5,false),(6,false)] mixed (by kernel_rfl) (λ_ _ _ d _ h=>by cases d<;>exact h) ?_;refine D0 O (Wp 1) (Ym O) (D0 O (Wp 1) (Yf k9 O) (D0 O (Wp 1) (Yd 0 O O O ar) (D0 O (Wp 1) (Yf mR O) ?_)));refine De O (Wp 1) ?_;refine an 1 Y O O O di O O O (Ln (Ed ?_));refine De O (Wp 1) ?_;refine V0 (Yf lK O) (Ln (Ed ?_));refine De O (Wp 1) ?_;refine an 1 Y O O O di O O O (Ln (Ed ?_));refine WD.nil (Wp 1) ?_;refine Eb (Eb ?_);refine WE.n6 1 (.cells #[.int .i64 (cL σ x.op x.n x.mod x.nm x.args.length).op,.int .i64 (cL σ x.op x.n x.mod x.nm x.args.length).n,.int .i64 (cL σ x.op x.n x.mod x.nm x.args.length).m,.int .i64 (cL σ x.op x.n x.mod x.nm x.args.length).pl,.slice none 0 0] 269 (0,0)) O (by rw [gz]; rfl) ?_
   exact Em () (by rw [gz]) (sc O (sc O (sc O (sc O sn)))) (λ_ h=>by
     have h:=h.aX 3 rfl;have h:=h.aX 3 rfl;have h:=h.aX 3 rfl;have h:=Wt 3 h
     exact h)
  have h3:¬x.op=3:=by simpa using ai
  refine ad (V0 (aW O O) (ae O (ab ?_)));refine Cc O (λbd=>?_) (λbd=>?_)
  ·have gD:x.op=4:=by simpa using bd
   refine ad (aa O (V0 (Yf J7 O) (V0 (Yd 2 O O O bW) (V0 (Yf J8 O) (V0 (Yd 2 O O O bW) ?_)))));refine WL.mz Y O L4 O _ _ _ _ (λw hw=>L5 HS sb σ w (hw.vs _ (by simp)) hS x.mod x.nm 3 0) ?_ ?_
   ·intro _ hp;refine Ep (WE.bx (Ep ?_));refine bc λw' hw=>?_
    have he:ky σ x=jx σ x.mod x.nm 3 0:=by rw [BZ,gD,aqp hp,tg hp]
    rw [he];exact .inr ⟨(),O,hw.fr,hp⟩
   intro ⟨m62,ab1⟩ ⟨aqC,C7⟩
   have gz:(cL σ x.op x.n x.mod x.nm x.args.length)=⟨x.op,ab1.n,m62,ab1.pl,0⟩:=by rw [gD]; exact aqq aqC C7
   refine aa O (V0 (Yx O O) (V0 (Yx O O) ?_));refine Al Y O iI λb9=>?_;refine ae O (an 0 Y O O O k_ O O O (ab ?_));refine WC.mr 1 [(0,true),(1,true),(2,true),(3,true),(4,true),(5,true),(6,false),(7,false),(8,false),(9,false),(10,false)] mixed (by kernel_rfl) (λ_ _ _ d _ h=>by cases d<;>exact h) ?_;refine D0 O (Wp 1) (Ym O) (D0 O (Wp 1) (Yf k9 O) (D0 O (Wp 1) (Yd 0 O O O ar) (D0 O (Wp 1) (Yf oM O) (D0 O (Wp 1) (Yd 0 O O O ar) (D0 O (Wp 1) (Yf mR O) ?_)))));refine De O (Wp 1) ?_;refine an 1 Y O O O di O O O (Ln (Ed ?_));refine De O (Wp 1) ?_;refine V0 (Yf lK O) (Ln (Ed ?_));refine De O (Wp 1) ?_;refine an 1 Y O O O di O O O (Ln (Ed ?_));refine De O (Wp 1) ?_;refine V0 (Yf mQ O) (Ln (Ed ?_));refine De O (Wp 1) ?_;refine an 1 Y O O O di O O O (Ln (Ed ?_));refine WD.nil (Wp 1) ?_;refine Eb ?_;refine WE.n6 1 (.cells #[.int .i64 (cL σ x.op x.n x.mod x.nm x.args.length).op,.int .i64 (cL σ x.op x.n x.mod x.nm x.args.length).n,.int .i64 (cL σ x.op x.n x.mod x.nm x.args.length).m,.int .i64 (cL σ x.op x.n x.mod x.nm x.args.length).pl,.slice none 0 0] 269 (0,0)) O (by rw [gz]; rfl) ?_
   exact Em () (by rw [gz]) (sc O (sc O (sc O (sc O sn)))) (λ_ h=>by
     have h:=h.aX 3 rfl;have h:=h.aX 3 rfl;have h:=h.aX 3 rfl;have h:=Wt 3 h
     exact h)
  have h4:¬x.op=4:=by simpa using bd
  refine ad (V0 (aW O O) (ae O (ab ?_)));refine Cc O (λbC=>?_) (λbC=>?_)
  ·have gD:x.op=5:=by simpa using bC
   refine ad (aa O (V0 (Yf J7 O) (V0 (Yd 2 O O O bW) (V0 (Yf J8 O) (V0 (Yd 2 O O O bW) (V0 (Yf CM O) (V0 (Yd 2 O O O x4) ?_)))))));refine V0 (Yn t_ O) ?_;refine WL.mz Y O L4 O _ _ _ _ (λw hw=>L5 HS sb σ w (hw.vs _ (by simp)) hS x.mod x.nm 4 (x.args.length:Int)) ?_ ?_
   ·intro _ hp;refine Ep (WE.bx (Ep ?_));refine bc λw' hw=>?_
    have he:ky σ x=jx σ x.mod x.nm 4 (x.args.length:Int):=by rw [BZ,gD,aqr hp,tg hp]
    rw [he];exact .inr ⟨(),O,hw.fr,hp⟩
   intro ⟨m84,aqE⟩ ⟨Sn,aqF⟩
   have gz:(cL σ x.op x.n x.mod x.nm x.args.length)=⟨x.op,x.n,m84,aqE.pl,0⟩:=by rw [gD]; exact aqs Sn aqF
   refine aa O (V0 (Yx O O) (V0 (Yx O O) ?_));refine Al Y O iI λqu=>?_;refine ae O (an 0 Y O O O k_ O O O (ab ?_));refine WC.mr 1 [(0,true),(1,true),(2,true),(3,true),(4,false),(5,false),(6,false)] mixed (by kernel_rfl) (λ_ _ _ d _ h=>by cases d<;>exact h) ?_;refine D0 O (Wp 1) (Ym O) (D0 O (Wp 1) (Yf k9 O) (D0 O (Wp 1) (Yd 0 O O O ar) (D0 O (Wp 1) (Yf mR O) ?_)));refine De O (Wp 1) ?_;refine an 1 Y O O O di O O O (Ln (Ed ?_));refine De O (Wp 1) ?_;refine V0 (Yf lK O) (Ln (Ed ?_));refine De O (Wp 1) ?_;refine an 1 Y O O O di O O O (Ln (Ed ?_));refine WD.nil (Wp 1) ?_;refine Eb ?_;refine WE.n6 1 (.cells #[.int .i64 (cL σ x.op x.n x.mod x.nm x.args.length).op,.int .i64 (cL σ x.op x.n x.mod x.nm x.args.length).n,.int .i64 (cL σ x.op x.n x.mod x.nm x.args.length).m,.int .i64 (cL σ x.op x.n x.mod x.nm x.args.length).pl,.slice none 0 0] 269 (0,0)) O (by rw [gz]; rfl) ?_
   exact Em () (by rw [gz]) (sc O (sc O (sc O (sc O sn)))) (λ_ h=>by
     have h:=h.aX 3 rfl;have h:=h.aX 3 rfl;have h:=h.aX 3 rfl;have h:=Wt 3 h
     exact h)
  have h5:¬x.op=5:=by simpa using bC
  have gz:(cL σ x.op x.n x.mod x.nm x.args.length)=⟨x.op,x.n,0,0,0⟩:=aqo h3 h4 h5;refine Ck (Eb ?_);refine WE.n6 0 (.cells #[.int .i64 (cL σ x.op x.n x.mod x.nm x.args.length).op,.int .i64 (cL σ x.op x.n x.mod x.nm x.args.length).n,.int .i64 (cL σ x.op x.n x.mod x.nm x.args.length).m,.int .i64 (cL σ x.op x.n x.mod x.nm x.args.length).pl,.slice none 0 0] 269 (0,0)) O (by rw [gz]; rfl) ?_
  exact Em () (by rw [gz]) (sc O (sc O (sc O (sc O sn)))) (λ_ h=>by
    have h:=h.aX 2 rfl;have h:=h.aX 2 rfl;have h:=h.aX 2 rfl
    exact h)
 intro _ AM;refine ad (aa O (V0 (Yf CM O) (V0 (Yd 2 O O O x4) ?_)));refine WL.xD (ι:=SP) (κ:=Unit) Y O abY O (λr=>.slice r.1 (oc σ x.args).length r.2) (λF r=>lq σ x.args=0/\Sl (kx (k+1)) 5 F r.1 r.2 (oc σ x.args)) (λ_=>jw (lq σ x.args)) (λ_=>lq σ x.args≠0) (λw hw=>hN HE x.args a c w (hw.vs _ (by simp)) (hw.vs _ (by simp)) hm (by omega)) ?_ ?_
 ·intro _ hp;refine Ep ?_;refine bc λw' hw=>?_
  have he:ky σ x=lq σ x.args:=by rw [BZ,AM,lX]
  rw [he];exact .inr ⟨(),O,hw.fr,hp⟩
 intro F95 r95 aqH ⟨aqI,h95⟩;refine V0 (Yf qL O) (an 0 Y O O O abZ O O O (ab (ad (V0 (bk 0 O O la O) (an 1 Y O O O L3 O O O (ab (aA ?_)))))));refine WE.dA (gR O (cZ 1 O O la O)) λw' hw=>?_;rw [ahx];exact .inl ⟨r95,O,hw.fr,by rw [BZ,AM,lX,aqI],Jq h95 (bN hw (by simp) aqH)⟩
def aqK (HS:View) (sb:Nat) (σ:cR) (ke k:Nat):Prop:=∀(HE:View) (l:List aH) (a:Option Addr) (c:Nat) (w:World),Le HS w->Le HE w->Sl (gn ke k) 6 HE a c l->cP l<=109951162777->
 Calls Tryz.prog 77 #[.pointer (some ⟨sb,0,none⟩),.slice a l.length c] w λe w'=>(∃r:SP,e = .returned (.slice r.1 (jX σ l).length r.2)/\Ext w w'/\fh σ l=0/\Sl (iP (ke+1) (k+1)) 7 (nv w w') r.1 r.2 (jX σ l))\/(∃_:Unit,e = .panicked (jw (fh σ l))/\Ext w w'/\fh σ l≠0)
theorem L6 {X T S:Type} {f:X->T} {g:S->T} {es:List X} {l:List S} {i:Nat} {x:S} {e:X} (h:es.map f=(l.take i).map g) (hx:l[i]? = some x) (he:f e=g x):(es++[e]).map f=(l.take (i+1)).map g:=by
 rw [iU hx]; simp [h,he]
theorem L7 {X T S:Type} {f:X->T} {g:S->T} {es:List X} {l:List S} {i:Nat} (h:es.map f=(l.take i).map g) (hi:i<=l.length):es.length=i:=by
 have:=congrArg List.length h
 simpa [Nat.min_eq_left hi] using this
theorem L8 {X T S:Type} {f:X->T} {g:S->T} {es:List X} {l:List S} {i:Nat} (h:es.map f=(l.take i).map g) (hi:i=l.length):es.map f=l.map g:=by subst hi; simpa using h
theorem aqL:Enters Tryz.prog 222:=enters_of Tryz.func222 (by kernel_rfl) rfl
theorem ab2:e9 Tryz.prog 203 269 (.agg #[.int .i64 0,.int .i64 0,.int .i64 0,.int .i64 0,.slice none 0 0]) 5 56:=ja (by kernel_rfl)
theorem Hl:zeroOf Tryz.prog 205=some (.agg #[.int .i64 0,.int .i64 0,.int .i64 0,.int .i64 0,.slice none 0 0,.slice none 0 0,.slice none 0 0]):=by kernel_rfl
theorem aqM:fo Tryz.prog 205=some [(0,1),(1,1),(2,1),(3,1),(4,1),(5,1),(6,1)]:=by kernel_rfl
theorem L9:cC Tryz.prog 205=some 7:=by kernel_rfl
theorem nO:bw Tryz.prog 205 2=some 2:=by kernel_rfl
theorem oN:bw Tryz.prog 205 3=some 3:=by kernel_rfl
theorem wI:bw Tryz.prog 205 1=some 1:=by kernel_rfl
theorem pG:bw Tryz.prog 205 4=some 4:=by kernel_rfl
theorem L_:Enters Tryz.prog 77:=enters_of Tryz.func77 (by kernel_rfl) rfl
theorem AN:bw Tryz.prog 205 5=some 5:=by kernel_rfl
theorem So:cC Tryz.prog 38=some 1:=by kernel_rfl
theorem wJ:bw Tryz.prog 205 6=some 6:=by kernel_rfl
theorem Dt:gj Tryz.prog 205=some 7:=by kernel_rfl
theorem aqN:Enters Tryz.prog 139:=enters_of Tryz.func139 (by kernel_rfl) rfl
theorem ab3:e9 Tryz.prog 38 205 (.agg #[.int .i64 0,.int .i64 0,.int .i64 0,.int .i64 0,.slice none 0 0,.slice none 0 0,.slice none 0 0]) 7 104:=ja (by kernel_rfl)
theorem aqO (HS HE:View) (sb:Nat) (σ:cR) (hS:wz HS sb σ) (k:Nat) (l:List az) (a:Option Addr) (c:Nat) (w:World) (pF:Le HS w) (wH:Le HE w) (hm:Sl (eU k) 5 HE a c l) (x0:dH l<=109951162777) :
   Calls Tryz.prog 176 #[.pointer (some ⟨sb,0,none⟩),.slice a l.length c] w λe w'=>(∃r:SP,e = .returned (.slice r.1 (oc σ l).length r.2)/\Ext w w'/\lq σ l=0/\Sl (kx (k+1)) 5 (nv w w') r.1 r.2 (oc σ l))\/(∃_:Unit,e = .panicked (jw (lq σ l))/\Ext w w'/\lq σ l≠0):=by
 induction k using Nat.strongRecOn generalizing HE l a c w
 rename_i k ih;have dR:=hm.cap;have eQ:=hm.max;have hlw:=VN l;refine enter Tryz.func176 O 22 O O ?_;refine CE (Vs:=[HE,HS]) (Ws.init (by simp [wH,pF])) (ad (ae O (ab (ad (ae O (LW (λ_ h=>h.eM 269 5) ?_))))));refine WL.v0 ?_;refine ab (Cs (ad (aa O (V0 (Yn t_ O) (aa O (ab (Cb ?_)))))));refine cq (ι:=GX XN) (λg=>[(10,.int .i64 (g.i:Int)),(5,.slice g.a g.es.length g.c)]) [(0,_),(4,_),(8,_),(9,_)] (λg=>Ws w [] [bt 269 5 XN.cells g.a g.c g.es] [g.J,HE,HS]) (λg=>g.i<=l.length/\g.es.map (·.1)=(l.take g.i).map (n_ σ)/\fI (ky σ) (l.take g.i)=0/\(ew w g.J/\Xs (tf k) g.J g.es)) (λg=>l.length-g.i) ⟨0,[],none,0,v0⟩ ⟨Nat.zero_le _,O,O,⟨pW w,Xs.nil _⟩⟩ (sc O (sc O (sc O (sc O (sc O (sc O sn)))))) (λ_ h=>by have h:=Ws.bF h (a_:=[v0,HE,HS]) (by simp); exact h) ?_;intro g ⟨hi,lL,AO,⟨mL,hX⟩⟩;refine ad (V0 (bj O O) (ab (Cs ?_)));refine Cc O (λai=>?_) (λai=>?_)
 ·have av:g.i<l.length:=by simpa using ai
  obtain ⟨y,bK⟩:∃q,l[g.i]? = some q:=⟨_,List.getElem?_eq_getElem av⟩;obtain ⟨jK,jL,eX,cV⟩:=hm.aS g.i y bK
  obtain ⟨k2,rfl⟩:∃k2,k=k2+1:=by
    cases k with
    | zero=>exact cV.elim
    | succ k2=>exact ⟨k2,rfl⟩
  obtain ⟨ya,yn,cw,hP⟩:=cV;have nq:=L7 lL hi;refine aE (Cs (Cb (ad (V0 (Yo t_ O O eX (by omega)) (V0 (cJ 1 kE O O O (cw)) ?_)))));refine Al Y O js λb7=>?_;refine an 0 Y O O O nF O O O (ab (Cr (aa O (aa O (V0 (bk 0 O O kE O) ?_)))));refine WL.xD (ι:=SP) (κ:=Unit) Y O aqL O (λr=>.agg (rK (n_ σ y) r.1 r.2).toArray) (λF r=>ky σ y=0/\tf (k2+1) F (n_ σ y,r)) (λ_=>jw (ky σ y)) (λ_=>ky σ y≠0) (λw hw=>aqA HS HE sb σ k2 y ya yn w (hw.vs _ (by simp)) (hw.vs _ (by simp)) hS (λHE l a c w h1 h2 h3 h4=>ih k2 (by omega) HE l a c w h1 h2 h3 h4) hP (by have:=VL bK; omega)) ?_ ?_
  ·intro _ hp;refine WE.bx (Ep (Ep (WE.bx (Ep ?_))));refine bc λw' hw=>?_
   have he:lq σ l=ky σ y:=by rw [OJ,B0 (ky σ) bK AO hp]
   rw [he];exact .inr ⟨(),O,hw.fr,hp⟩
  intro F17 uy Sp ⟨Sq,Sr⟩;refine WL.jd λSs St Su Sv=>?_;refine Lb Y O ab2 O O O O λck=>?_;refine bL 0 (.cells (XN.cells (n_ σ y,uy)).toArray 269 (0,0)) O (O) ?_;refine LA (((n_ σ y,uy):XN)) 2 0 Y O ab2 O O O O O O (by omega) (by omega) λHe Hf=>?_;refine ae O (Ln (Eb (Et (Cr (V0 (Yi O O O (by omega)) (aa O (Ln ?_)))))));exact Ea (⟨g.i+1,g.es++[(n_ σ y,uy)],He,Hf,Ss⟩:GX XN) (by show _-(g.i+1)<_; omega) ⟨(by show g.i+1<=_; omega),L6 lL bK O,by show fI (ky σ) (l.take (g.i+1))=0; rw [OI (ky σ) bK,AO,lX,Sq],⟨Sv _ Sp mL,Xs.snoc (R:=tf _) (λhv h=>tf.mv hv h) hX Su St Sr⟩⟩ (sc O (sc O (sc O (sc O (sc O (sc O sn)))))) (λ_ h=>Wd 2 h)
 have bP:g.i=l.length:=by simp at ai; omega
 refine Ce (Ex (Ex (bA (Et (Cs ?_)))));refine WC.o3 (rd:=V8) 0 O (λ_ hk=>by cases hk) XN.bq (λ_ _ _ _ h=>h) λK7 GB GC=>?_;refine Cr (aa O (ae O (ab (aA ?_))));refine R1 O O λw' hw=>?_
 have hz:lq σ l=0:=by rw [OJ,<-AO,bP,List.take_length]
 have bT:=L8 lL bP;rw [<-Wa] at bT;rw [<-bT];exact .inl ⟨(g.a,g.c),by rw [List.length_map],hw.fr,hz,ahr GC (bN hw (by simp) GB) (bN hw (by simp) mL) hX⟩
theorem aqR (HS:View) (sb:Nat) (σ:cR) (hS:wz HS sb σ) (k:Nat):Sb HS sb σ k:=by
 intro HE l a c w pF wH hm x0;exact aqO HS HE sb σ hS k l a c w pF wH hm x0
theorem aqS (HS HE:View) (sb:Nat) (σ:cR) (ke k:Nat) (x:aH) (a:Option Addr) (c:Nat) (a2:Option Addr) (c2:Nat) (a3:Option Addr) (c3:Nat) (w:World) (pF:Le HS w) (wH:Le HE w) (hS:wz HS sb σ) (hN:Sb HS sb σ ke) (hA:aqK HS sb σ ke k) (hm:Sl (eU ke) 5 HE a c x.args) (gX:Sl (gn ke k) 6 HE a2 c2 x.body) (kF:Sl (gn ke k) 6 HE a3 c3 x.other) (x0:wS x<=109951162777) :
   Calls Tryz.prog 139 #[.pointer (some ⟨sb,0,none⟩),.agg (zu x a c a2 c2 a3 c3).toArray] w λe w'=>(∃r:zx,e = .returned (.agg (vn (oe σ x) r).toArray)/\Ext w w'/\jE σ x=0/\pZ (ke+1) (k+1) (nv w w') (oe σ x,r))\/(∃_:Unit,e = .panicked (jw (jE σ x))/\Ext w w'/\jE σ x≠0):=by
 have VZ:=VK x;have dR:=hm.cap;have eQ:=hm.max;refine enter Tryz.func139 O 88 O O ?_;refine CE (Vs:=[HE,HS]) (Ws.init (by simp [wH,pF])) (ad ?_);refine WL.box Y O O λb3=>?_;refine Al Y O Hl λb4=>?_;refine ab (ad (V0 (Yf pn O) (V0 (Yd 1 O O O ar) (V0 (Yb Hl aqM O O) ?_))));refine Al Y O Hl λb5=>?_;refine an 0 Y O O O L9 O O O (ab (ad ?_));refine Al Y O iI λb6=>?_;refine ab ?_;refine WC.I6 (ι:=Unit) (λ_u=>[(0,.pointer (some ⟨sb,0,none⟩)),(3,.pointer (some ⟨b3,0,none⟩)),(4,.pointer (some ⟨b4,0,none⟩)),(5,.pointer (some ⟨b5,0,none⟩))]) (λ_u=>Ws w [] [ah b5 (.cells #[.int .i64 (dw σ x.op x.mod x.nm x.args.length).op,.int .i64 (dw σ x.op x.mod x.nm x.args.length).n,.int .i64 (dw σ x.op x.mod x.nm x.args.length).m,.int .i64 (dw σ x.op x.mod x.nm x.args.length).pl,.slice none 0 0,.slice none 0 0,.slice none 0 0] 205 (0,0)),ah b4 (.cells #[.int .i64 0,.int .i64 0,.int .i64 0,.int .i64 0,.slice none 0 0,.slice none 0 0,.slice none 0 0] 205 (0,0)),ah b3 (.cells (zu x a c a2 c2 a3 c3).toArray 242 (0,0))] [HE,HS]) (λ_u=>(dw σ x.op x.mod x.nm x.args.length).e=0) ?_ ?_
 ·refine ad (V0 (Yf pn O) (V0 (Yd 3 O O O ar) (ab (Cb (ad (V0 (aW O O) (ae O (ab ?_))))))));refine Cc O (λai=>?_) (λai=>?_)
  ·have gD:x.op=1:=by simpa using ai
   refine ad (aa O (V0 (Yf FN O) (V0 (Yd 3 O O O bW) (V0 (Yf FO O) (V0 (Yd 3 O O O bW) ?_)))));refine WL.mz Y O Si O _ _ _ _ (λw hw=>Sd HS sb σ w (hw.vs _ (by simp)) hS x.mod x.nm) ?_ ?_
   ·intro _ hp;refine Ep (WE.bx (Ep ?_));refine bc λw' hw=>?_
    have he:jE σ x=5:=by rw [xJ,Sg (by omega) hp]; rfl
    rw [he];exact .inr ⟨(),O,hw.fr,by decide⟩
   intro ⟨m20,Sw⟩ G8;have ez:=aqu (len:=x.args.length) G8;have EH:=uG G8;refine aa O (V0 (Yx O O) (V0 (Yx O O) (V0 (Yf nO O) (an 1 Y O O O di O O O (an 0 Y O O O k_ O O O (ab (ad (V0 (Yf nO O) ?_))))))));refine V0 (Yd 1 O O O ar) (V0 (bj O O) (aa O ?_));apply Lo 3 O O O O Y O O O O O
   ·intro du;refine Vg (Yf Dp O) (Vg (Yd 0 O O O ar) (Vg (aW O O) ?_));exact Gt 3 O O O
   refine WL.mz (ι:=Unit) (κ:=Unit) Y O wC O (λ_=>.tuple #[]) (λ_=>_=true) (λ_=>jw _) (λ_=>_=false) (λw hw=>wF _ _ w) ?_ ?_
   ·intro _ hp;refine Ep (WE.bx (Ep ?_));refine bc λw' hw=>?_
    have e7:¬(m20 = -1\/Sw.kind=2):=by simp at hp; omega
    rw [if_neg e7] at ez
    have he:jE σ x=7:=by rw [xJ,gD,ez]; rfl
    rw [he];exact .inr ⟨(),O,hw.fr,by decide⟩
   intro _ Ly
   have e7:m20 = -1\/Sw.kind=2:=by
     simp at Ly;omega
   have gz:(dw σ x.op x.mod x.nm x.args.length)=⟨x.op,0,m20,Sw.pl,0⟩:=by rw [gD]; rw [ez,if_pos e7]
   refine ab (Cr (V0 (Yf k9 O) (V0 (Yd 0 O O O ar) (V0 (Yf oN O) (an 1 Y O O O di O O O (Ln (Eb ?_)))))));refine WE.n6 1 (.cells #[.int .i64 (dw σ x.op x.mod x.nm x.args.length).op,.int .i64 (dw σ x.op x.mod x.nm x.args.length).n,.int .i64 (dw σ x.op x.mod x.nm x.args.length).m,.int .i64 (dw σ x.op x.mod x.nm x.args.length).pl,.slice none 0 0,.slice none 0 0,.slice none 0 0] 205 (0,0)) O (by rw [gz]; rfl) ?_
   exact Em () (by rw [gz]) (sc O (sc O (sc O (sc O sn)))) (λ_ h=>by
     have h:=h.aX 3 rfl;have h:=h.aX 3 rfl;have h:=h.aX 3 rfl;have h:=Wt 3 h
     exact h)
  have h1:¬x.op=1:=by simpa using ai
  refine ad (V0 (aW O O) (ae O (ab ?_)));refine Cc O (λaw=>?_) (λaw=>?_)
  ·have gD:x.op=2:=by simpa using aw
   refine ad (aa O (V0 (Yf FN O) (V0 (Yd 3 O O O bW) (V0 (Yf FO O) (V0 (Yd 3 O O O bW) ?_)))));refine WL.mz Y O L4 O _ _ _ _ (λw hw=>L5 HS sb σ w (hw.vs _ (by simp)) hS x.mod x.nm 3 0) ?_ ?_
   ·intro _ hp;refine Ep (WE.bx (Ep ?_));refine bc λw' hw=>?_
    have he:jE σ x=jx σ x.mod x.nm 3 0:=by rw [xJ,gD,aqv hp,tg hp]
    rw [he];exact .inr ⟨(),O,hw.fr,hp⟩
   intro ⟨m44,ab4⟩ ⟨ab5,aqU⟩
   have gz:(dw σ x.op x.mod x.nm x.args.length)=⟨x.op,ab4.n,m44,ab4.pl,0⟩:=by rw [gD]; exact aqw ab5 aqU
   refine aa O (V0 (Yx O O) (V0 (Yx O O) (V0 (Yf nO O) (an 1 Y O O O di O O O (an 0 Y O O O k_ O O O (ab ?_))))));refine WC.mr 1 [(0,true),(1,true),(2,true),(3,true),(4,true),(5,false),(6,false),(7,false)] mixed (by kernel_rfl) (λ_ _ _ d _ h=>by cases d<;>exact h) ?_;refine D0 O (Wp 1) (Yf k9 O) (D0 O (Wp 1) (Yd 0 O O O ar) (D0 O (Wp 1) (Yf oM O) (D0 O (Wp 1) (Yd 0 O O O ar) (D0 O (Wp 1) (Yf oN O) ?_))));refine De O (Wp 1) ?_;refine an 1 Y O O O di O O O (Ln (Ed ?_));refine De O (Wp 1) ?_;refine V0 (Yf wI O) (Ln (Ed ?_));refine De O (Wp 1) ?_;refine an 1 Y O O O di O O O (Ln (Ed ?_));refine WD.nil (Wp 1) ?_;refine Eb ?_;refine WE.n6 1 (.cells #[.int .i64 (dw σ x.op x.mod x.nm x.args.length).op,.int .i64 (dw σ x.op x.mod x.nm x.args.length).n,.int .i64 (dw σ x.op x.mod x.nm x.args.length).m,.int .i64 (dw σ x.op x.mod x.nm x.args.length).pl,.slice none 0 0,.slice none 0 0,.slice none 0 0] 205 (0,0)) O (by rw [gz]; rfl) ?_
   exact Em () (by rw [gz]) (sc O (sc O (sc O (sc O sn)))) (λ_ h=>by
     have h:=h.aX 3 rfl;have h:=h.aX 3 rfl;have h:=h.aX 3 rfl;have h:=Wt 3 h
     exact h)
  have h2:¬x.op=2:=by simpa using aw
  refine ad (V0 (aW O O) (ae O (ab ?_)));refine Cc O (λaO=>?_) (λaO=>?_)
  ·have gD:x.op=3:=by simpa using aO
   refine ad (aa O (V0 (Yf FN O) (V0 (Yd 3 O O O bW) (V0 (Yf FO O) (V0 (Yd 3 O O O bW) (V0 (Yf qt O) (V0 (Yd 3 O O O x4) ?_)))))));refine V0 (Yn t_ O) ?_;refine WL.mz Y O L4 O _ _ _ _ (λw hw=>L5 HS sb σ w (hw.vs _ (by simp)) hS x.mod x.nm 4 (x.args.length:Int)) ?_ ?_
   ·intro _ hp;refine Ep (WE.bx (Ep ?_));refine bc λw' hw=>?_
    have he:jE σ x=jx σ x.mod x.nm 4 (x.args.length:Int):=by rw [xJ,gD,aqx hp,tg hp]
    rw [he];exact .inr ⟨(),O,hw.fr,hp⟩
   intro ⟨m65,aqW⟩ ⟨LJ,G6⟩
   have gz:(dw σ x.op x.mod x.nm x.args.length)=⟨x.op,0,m65,aqW.pl,0⟩:=by rw [gD]; exact aqy LJ G6
   refine aa O (V0 (Yx O O) (V0 (Yx O O) (V0 (Yf nO O) (an 1 Y O O O di O O O (an 0 Y O O O k_ O O O (ab (Cr (V0 (Yf k9 O) ?_))))))));refine V0 (Yd 0 O O O ar) (V0 (Yf oN O) (an 1 Y O O O di O O O (Ln (Eb ?_))));refine WE.n6 1 (.cells #[.int .i64 (dw σ x.op x.mod x.nm x.args.length).op,.int .i64 (dw σ x.op x.mod x.nm x.args.length).n,.int .i64 (dw σ x.op x.mod x.nm x.args.length).m,.int .i64 (dw σ x.op x.mod x.nm x.args.length).pl,.slice none 0 0,.slice none 0 0,.slice none 0 0] 205 (0,0)) O (by rw [gz]; rfl) ?_
   exact Em () (by rw [gz]) (sc O (sc O (sc O (sc O sn)))) (λ_ h=>by
     have h:=h.aX 3 rfl;have h:=h.aX 3 rfl;have h:=h.aX 3 rfl;have h:=Wt 3 h
     exact h)
  have h3:¬x.op=3:=by simpa using aO
  have gz:(dw σ x.op x.mod x.nm x.args.length)=⟨x.op,0,0,0,0⟩:=aqt h1 h2 h3;refine Ck (Eb ?_);refine WE.n6 1 (.cells #[.int .i64 (dw σ x.op x.mod x.nm x.args.length).op,.int .i64 (dw σ x.op x.mod x.nm x.args.length).n,.int .i64 (dw σ x.op x.mod x.nm x.args.length).m,.int .i64 (dw σ x.op x.mod x.nm x.args.length).pl,.slice none 0 0,.slice none 0 0,.slice none 0 0] 205 (0,0)) O (by rw [gz]; rfl) ?_
  exact Em () (by rw [gz]) (sc O (sc O (sc O (sc O sn)))) (λ_ h=>by
    have h:=h.aX 3 rfl;have h:=h.aX 3 rfl;have h:=h.aX 3 rfl;have h:=Wt 3 h
    exact h)
 intro _ AM;refine ad (aa O (V0 (Yf qt O) (V0 (Yd 2 O O O x4) ?_)));refine WL.xD (ι:=SP) (κ:=Unit) Y O abY O (λr=>.slice r.1 (oc σ x.args).length r.2) (λF r=>lq σ x.args=0/\Sl (kx (ke+1)) 5 F r.1 r.2 (oc σ x.args)) (λ_=>jw (lq σ x.args)) (λ_=>lq σ x.args≠0) (λw hw=>hN HE x.args a c w (hw.vs _ (by simp)) (hw.vs _ (by simp)) hm (by omega)) ?_ ?_
 ·intro _ hp;refine Ep ?_;refine bc λw' hw=>?_
  have he:jE σ x=lq σ x.args:=by rw [xJ,AM,lX,tg hp]
  rw [he];exact .inr ⟨(),O,hw.fr,hp⟩
 intro F75 KH aqX ⟨Sx,h75⟩;refine V0 (Yf pG O) (an 0 Y O O O abZ O O O (ab (Cs ?_)));refine WC.mr 0 [(0,true),(1,true),(2,true),(4,true),(5,true),(6,true),(3,false),(8,true),(7,false),(9,false),(10,false),(11,false)] mixed (by kernel_rfl) (λ_ _ _ d _ h=>by cases d<;>exact h) ?_;refine D0 O (Wp 0) (Ym O) (D0 O (Wp 0) (Yf CO O) (D0 O (Wp 0) (Yd 1 O O O nG) (D0 O (Wp 0) (Ym O) (D0 O (Wp 0) (Yf x5 O) (D0 O (Wp 0) (Yd 1 O O O nG) ?_)))));refine De O (Wp 0) ?_;refine WL.xD (ι:=SP) (κ:=Unit) Y O L_ O (λr=>.slice r.1 (jX σ x.body).length r.2) (λF r=>fh σ x.body=0/\Sl (iP (ke+1) (k+1)) 7 F r.1 r.2 (jX σ x.body)) (λ_=>jw (fh σ x.body)) (λ_=>fh σ x.body≠0) (λw hw=>hA HE x.body a2 c2 w (hw.vs _ (by simp)) (hw.vs _ (by simp)) gX (by omega)) ?_ ?_
 ·intro _ hp;refine Ep (Ep ?_);refine bc λw' hw=>?_
  have he:jE σ x=fh σ x.body:=by rw [xJ,AM,lX,Sx,lX,tg hp]
  rw [he];exact .inr ⟨(),O,hw.fr,hp⟩
 intro F80 r80 aq1 ⟨ab6,Sy⟩;refine Ln (Ed (D0 O (λ_ h=>(Wv 1 (Wo 0 h):)) (Yf AN O) ?_));refine De O (λ_ h=>(Wv 1 (Wo 0 h):)) ?_;refine WL.xD (ι:=SP) (κ:=Unit) Y O L_ O (λr=>.slice r.1 (jX σ x.other).length r.2) (λF r=>fh σ x.other=0/\Sl (iP (ke+1) (k+1)) 7 F r.1 r.2 (jX σ x.other)) (λ_=>jw (fh σ x.other)) (λ_=>fh σ x.other≠0) (λw hw=>hA HE x.other a3 c3 w (hw.vs _ (by simp)) (hw.vs _ (by simp)) kF (by omega)) ?_ ?_
 ·intro _ hp;refine Ep (Ep ?_);refine bc λw' hw=>?_
  have he:jE σ x=fh σ x.other:=by rw [xJ,AM,lX,Sx,lX,ab6,lX]
  rw [he];exact .inr ⟨(),O,hw.fr,hp⟩
 intro F84 AP aq3 ⟨aq4,Sz⟩;refine Ln (Ed ?_);refine De O (λ_ h=>(Wv 2 (Wo 0 h):)) ?_;refine an 0 Y O O O So O O O (Ln (Ed ?_));refine De O (λ_ h=>(Wv 2 (Wo 0 h):)) ?_;refine V0 (Yf wJ O) (Ln (Ed ?_));refine De O (λ_ h=>(Wv 2 (Wo 0 h):)) ?_;refine an 0 Y O O O So O O O (Ln (Ed ?_));refine WD.nil (λ_ h=>(Wv 2 (Wo 0 h):)) ?_;refine Et (ad (V0 (bk 0 O O Dt O) (an 1 Y O O O L9 O O O (ab (aA ?_)))));refine WE.dA (gR O (cZ 1 O O Dt O)) λw' hw=>?_;rw [ahy];exact .inl ⟨⟨KH,r80,AP⟩,O,hw.fr,by rw [xJ,AM,Sx,ab6,aq4]; rfl,Jq h75 (bN hw (by simp) aqX),zy Sy (bN hw (by simp) aq1),zy Sz (bN hw (by simp) aq3)⟩
theorem ab7 (HS HE:View) (sb:Nat) (σ:cR) (ke:Nat) (hS:wz HS sb σ) (k:Nat) (l:List aH) (a:Option Addr) (c:Nat) (w:World) (pF:Le HS w) (wH:Le HE w) (hm:Sl (gn ke k) 6 HE a c l) (x0:cP l<=109951162777) :
   Calls Tryz.prog 77 #[.pointer (some ⟨sb,0,none⟩),.slice a l.length c] w λe w'=>(∃r:SP,e = .returned (.slice r.1 (jX σ l).length r.2)/\Ext w w'/\fh σ l=0/\Sl (iP (ke+1) (k+1)) 7 (nv w w') r.1 r.2 (jX σ l))\/(∃_:Unit,e = .panicked (jw (fh σ l))/\Ext w w'/\fh σ l≠0):=by
 induction k using Nat.strongRecOn generalizing HE l a c w
 rename_i k ih;have dR:=hm.cap;have eQ:=hm.max;have hlw:=VO l;refine enter Tryz.func77 O 22 O O ?_;refine CE (Vs:=[HE,HS]) (Ws.init (by simp [wH,pF])) (ad (ae O (ab (ad (ae O (LW (λ_ h=>h.eM 205 7) ?_))))));refine WL.v0 ?_;refine ab (Cs (ad (aa O (V0 (Yn so O) (aa O (ab (Cb ?_)))))));refine cq (ι:=GX XA) (λg=>[(10,.int .i64 (g.i:Int)),(5,.slice g.a g.es.length g.c)]) [(0,_),(4,_),(8,_),(9,_)] (λg=>Ws w [] [bt 205 7 XA.cells g.a g.c g.es] [g.J,HE,HS]) (λg=>g.i<=l.length/\g.es.map (·.1)=(l.take g.i).map (oe σ)/\fI (jE σ) (l.take g.i)=0/\(ew w g.J/\Xs (pZ (ke+1) k) g.J g.es)) (λg=>l.length-g.i) ⟨0,[],none,0,v0⟩ ⟨Nat.zero_le _,O,O,⟨pW w,Xs.nil _⟩⟩ (sc O (sc O (sc O (sc O (sc O (sc O sn)))))) (λ_ h=>by have h:=Ws.bF h (a_:=[v0,HE,HS]) (by simp); exact h) ?_;intro g ⟨hi,lL,AO,⟨mL,hX⟩⟩;refine ad (V0 (bj O O) (ab (Cs ?_)));refine Cc O (λai=>?_) (λai=>?_)
 ·have av:g.i<l.length:=by simpa using ai
  obtain ⟨y,bK⟩:∃q,l[g.i]? = some q:=⟨_,List.getElem?_eq_getElem av⟩;obtain ⟨jK,jL,eX,cV⟩:=hm.aS g.i y bK
  obtain ⟨k2,rfl⟩:∃k2,k=k2+1:=by
    cases k with
    | zero=>exact cV.elim
    | succ k2=>exact ⟨k2,rfl⟩
  obtain ⟨ya,yn,y2,m2,y3,m3,cw,iE,gX,kF⟩:=cV;have nq:=L7 lL hi;refine aE (Cs (Cb (ad (V0 (Yo so O O eX (by omega)) (V0 (cJ 1 j3 O O O (cw)) ?_)))));refine Al Y O vQ λb7=>?_;refine an 0 Y O O O sq O O O (ab (Cr (aa O (aa O (V0 (bk 0 O O j3 O) ?_)))));refine WL.xD (ι:=zx) (κ:=Unit) Y O aqN O (λr=>.agg (vn (oe σ y) r).toArray) (λF r=>jE σ y=0/\pZ (ke+1) (k2+1) F (oe σ y,r)) (λ_=>jw (jE σ y)) (λ_=>jE σ y≠0) (λw hw=>aqS HS HE sb σ ke k2 y ya yn y2 m2 y3 m3 w (hw.vs _ (by simp)) (hw.vs _ (by simp)) hS (aqR HS sb σ hS ke) (λHE l a c w h1 h2 h3 h4=>ih k2 (by omega) HE l a c w h1 h2 h3 h4) iE gX kF (by have:=VM bK; omega)) ?_ ?_
  ·intro _ hp;refine WE.bx (Ep (Ep (WE.bx (Ep ?_))));refine bc λw' hw=>?_
   have he:fh σ l=jE σ y:=by rw [OK,B0 (jE σ) bK AO hp]
   rw [he];exact .inr ⟨(),O,hw.fr,hp⟩
  intro F17 uy Sp ⟨Sq,Sr⟩;refine WL.jd λSs St Su Sv=>?_;refine Lb Y O ab3 O O O O λck=>?_;refine bL 0 (.cells (XA.cells (oe σ y,uy)).toArray 205 (0,0)) O (O) ?_;refine LA (((oe σ y,uy):XA)) 2 0 Y O ab3 O O O O O O (by omega) (by omega) λHe Hf=>?_;refine ae O (Ln (Eb (Et (Cr (V0 (Yi O O O (by omega)) (aa O (Ln ?_)))))));exact Ea (⟨g.i+1,g.es++[(oe σ y,uy)],He,Hf,Ss⟩:GX XA) (by show _-(g.i+1)<_; omega) ⟨(by show g.i+1<=_; omega),L6 lL bK O,by show fI (jE σ) (l.take (g.i+1))=0; rw [OI (jE σ) bK,AO,lX,Sq],⟨Sv _ Sp mL,Xs.snoc (R:=pZ _ _) (λhv h=>pZ.mv hv h) hX Su St Sr⟩⟩ (sc O (sc O (sc O (sc O (sc O (sc O sn)))))) (λ_ h=>Wd 2 h)
 have bP:g.i=l.length:=by simp at ai; omega
 refine Ce (Ex (Ex (bA (Et (Cs ?_)))));refine WC.o3 (rd:=V9) 0 O (λ_ hk=>by cases hk) XA.bq (λ_ _ _ _ h=>h) λK7 GB GC=>?_;refine Cr (aa O (ae O (ab (aA ?_))));refine R1 O O λw' hw=>?_
 have hz:fh σ l=0:=by rw [OK,<-AO,bP,List.take_length]
 have bT:=L8 lL bP;rw [<-Wb] at bT;rw [<-bT];exact .inl ⟨(g.a,g.c),by rw [List.length_map],hw.fr,hz,ahs GC (bN hw (by simp) GB) (bN hw (by simp) mL) hX⟩
def rdS (H:View) (b o:Nat) (e:SP×List Tx):Prop:=vc H b o=some (.slice e.1.1 e.2.length e.1.2)/\Sl rdStr 1 H e.1.1 e.1.2 e.2
def mS (ls:List ((Option Addr×Nat)×List Tx)):Nat:=(ls.map (·.2.length)).sum
theorem ab9 {ls:List ((Option Addr×Nat)×List Tx)} {i:Nat} {x:(Option Addr×Nat)×List Tx} (h:ls[i]? = some x):mS (ls.take (i+1))=mS (ls.take i)+x.2.length:=by
 simp [mS,List.take_add_one,h]
theorem ab' (ls:List ((Option Addr×Nat)×List Tx)) (i:Nat):mS (ls.take i)<=mS ls:=by
 have e:mS ls=mS (ls.take i)+mS (ls.drop i):=by
   unfold mS;rw [<-List.sum_append,<-List.map_append,List.take_append_drop]
 omega
theorem ab_ (ls:List ((Option Addr×Nat)×List Tx)):(ls.flatMap (·.2)).length=mS ls:=by simp [mS,List.length_flatMap]
theorem Ma:eo Tryz.prog 238=some 1:=by kernel_rfl
theorem aq5:Enters Tryz.prog 138:=enters_of Tryz.func138 (by kernel_rfl) rfl
theorem aca:cC Tryz.prog 139=some 1:=by kernel_rfl
theorem Mb:fo Tryz.prog 40=some [(0,1),(1,1),(2,1),(3,1),(4,1)]:=by kernel_rfl
theorem pH:zeroOf Tryz.prog 40=some (.agg #[st [],.slice none 0 0,.int .i64 0,.slice none 0 0,.slice none 0 0]):=by kernel_rfl
theorem aq6:bw Tryz.prog 139 0=some 0:=by kernel_rfl
theorem pI:cC Tryz.prog 40=some 5:=by kernel_rfl
theorem acb (H:View) (a:Option Addr) (c:Nat) (l:List Tx) (w:World) (hH:Le H w) (hm:Sl rdStr 1 H a c l) (hb:l.length<=1048576) :
   Calls Tryz.prog 75 #[.slice a l.length c] w λe w'=>∃r:SP,e = .returned (.slice r.1 l.length r.2)/\Ext w w'/\Sl rdStr 1 (nv w w') r.1 r.2 l:=by
 have dR:=hm.cap;have eQ:=hm.max;refine enter Tryz.func75 O 8 O O ?_;refine CE (Vs:=[H]) (Ws.init (by simp [hH])) (ad (ae O (ab (Cs (ad (aa O (V0 (afA cz O) (ab ?_))))))));refine Cc O (λai=>?_) (λai=>?_)
 ·have pN:l=[]:=by
    cases l with
    | nil=>rfl
    | cons x r=>obtain ⟨b,o,h,_⟩:=hm.aS 0 x rfl; rw [h] at ai; cases ai
  refine ad (ae O (ab (aA (Er ?_))));refine R1 O O λw' hw=>?_;subst pN;exact ⟨(none,0),O,hw.fr,Sl.nil⟩
 refine aE (ad ?_);refine WL.NH Y O dc O O O λb5=>?_;refine WL.NL (size:=1) 0 O (Nat.le_refl 0) (Nat.zero_le _) O ?_;refine WL.EC 0 ([]:List Tx).length (([]:List Tx).flatMap cM) O O O ?_;refine aa O ?_;refine WL.BM (ys:=l) (xs:=[]) 0 (λ_=>H) Y O dc O O O (λw hw=>⟨hw.vs H (by simp),hm⟩) (λ_ _ _ _ h=>h) iy abr (by simp; omega) (by simp; omega) λa7 c7=>?_;refine ae O (ab (aA ?_));refine R1 O O λw' hw=>?_;exact ⟨(a7,c7),O,hw.fr,hw.kS 0 O iy (λ_ _ _ _ h=>h)⟩
theorem aq7 (m:Nat) (w:World) (hm:m<=1048576) :
   Calls Tryz.prog 138 #[.slice none 0 0,.int .i64 (m:Int)] w λe w'=>∃r:SP,e = .returned (.slice r.1 ([]:List Tx).length r.2)/\Ws w [] [bt 9 1 cM r.1 r.2 ([]:List Tx)] [] w':=by
 refine enter Tryz.func138 O 27 O O ?_;refine CE (Vs:=[]) (Ws.init (by simp)) (ad (ae O (ab (Cs (ad (aa O (V0 (bj O O) (ab ?_))))))));refine Cc O (λai=>?_) (λai=>?_)
 ·exfalso
  simp at ai;omega
 refine aE (Cs (ad (aa O (aa O (V0 (Vl cz O) (aa O (V0 (Yn cz O) (V0 (sX 0 O O (by simp) (by omega)) (V0 (sX (m:Int) O O (by simp) (by omega)) ?_)))))))));refine ae O (ab (ad (aa O (V0 (cI O O) (ab ?_)))));refine Cc O (λaw=>?_) (λaw=>?_)
 ·have h0:0<m:=by simp at aw; omega
  refine Cr (aa O (aa O (V0 (Vl cz O) (V0 (U8 0 cz O (by simp) O O (Nat.zero_le _)) (aa O ?_)))));refine WL.agu m Y O dc ie O O h0 (by unfold maxLen; omega) (by omega) λDk c22 aAm aAn aq8 aq9=>?_;refine WL.NL (m:=0) (cap:=c22) (size:=1) 0 O (Nat.zero_le _) aq8 (by rw [aq9,Nat.mul_one]) ?_;refine WL.EC 0 ([]:List Tx).length (([]:List Tx).flatMap cM) O O (by simp) ?_;refine aa O (V0 (Yn cz O) (V0 (U8 ([]:List Tx).length cz O (by simp) O O (Nat.zero_le _)) (ae O (ab (ad (aa O (ae O (ab (aA ?_)))))))));refine R1 O O λw' hw=>?_;exact ⟨(some ⟨Dk,0,none⟩,c22),O,hw⟩
 refine aE (ad (aa O (ae O (ab (aA ?_)))));refine R1 O O λw' hw=>?_;exact ⟨(none,0),O,hw.eM 9 1⟩
theorem aq' (H:View) (a:Option Addr) (c:Nat) (ls:List (SP×List Tx)) (w:World) (hH:Le H w) (hm:Sl rdS 1 H a c ls) (hb:mS ls<=1048576) (hls:ls.length<=1048576) :
   Calls Tryz.prog 76 #[.slice a ls.length c] w λe w'=>∃r:SP,e = .returned (.slice r.1 (ls.flatMap (·.2)).length r.2)/\Ext w w'/\Sl rdStr 1 (nv w w') r.1 r.2 (ls.flatMap (·.2)):=by
 have dR:=hm.cap;have eQ:=hm.max;refine enter Tryz.func76 O 36 O O ?_;refine CE (Vs:=[H]) (Ws.init (by simp [hH])) (ad (ae O (ab (ad (ae O (ab (Cs (ad (aa O (V0 (Yn Ma O) ?_))))))))));refine aa O (ab (Cb ?_));refine CW (ι:=Nat) (λi=>[(11,.int .i64 (i:Int)),(3,.int .i64 (mS (ls.take i):Int))]) [(0,_),(2,_),(9,_),(10,_)] (λi=>i<=ls.length) (λi=>ls.length-i) 0 (Nat.zero_le _) (sc O (sc O (sc O (sc O (sc O (sc O sn)))))) ?_;intro i hi;refine ad (V0 (bj O O) (ab (Cs ?_)));refine Cc O (λai=>?_) (λai=>?_)
 ·have av:i<ls.length:=by simpa using ai
  obtain ⟨x,hx⟩:∃x,ls[i]? = some x:=⟨_,List.getElem?_eq_getElem av⟩;obtain ⟨pb,po,ha,cw,re⟩:=hm.aS i x hx;have Bu:=ab9 hx;have htl:=ab' ls (i+1);refine aE (Cs (Cb (ad (V0 (Yo Ma O O ha (by omega)) (V0 (bo 0 eE O O (cw)) (ae O (ab (ad (aa O (aa O (V0 (Yn cz O) ?_)))))))))));refine V0 (IT (a:=mS (ls.take i)) (b:=x.2.length) O O O O (by omega)) (ae O (ab (ad (aa O (V0 (bj O O) (ab ?_))))));refine Cc O (λaw=>?_) (λaw=>?_)
  ·exfalso
   simp at aw;omega
  refine Ck (Eb (Et (Cr (V0 (Yi O O O (by omega)) (aa O (Ln ?_))))));rw [<-Bu];exact Ea (i+1) (by omega) (by omega) (sc O (sc O (sc O (sc O (sc O (sc O sn)))))) (λ_ h=>h)
 have lB:i=ls.length:=by simp at ai; omega
 subst lB;rw [List.take_length];refine Ce (Ex (Ex (bA (Et (ad (aa O ?_))))));refine Lw (ι:=SP) [] _ Y O aq5 O O (λr=>.slice r.1 ([]:List Tx).length r.2) (λr=>[bt 9 1 cM r.1 r.2 ([]:List Tx)]) (λ_=>True) [] (by simp) (λw hw=>(aq7 (mS ls) w hb).mono λe w' ⟨r,h1,h2⟩=>⟨r,h1,trivial,h2⟩) ?_;intro Gp _;refine ae O (ab (Cs (ad (aa O (V0 (Yn Ma O) (aa O (ab (Cb ?_))))))));refine cq (ι:=Nat×Option Addr×Nat) (λg=>[(27,.int .i64 (g.1:Int)),(6,.slice g.2.1 ((ls.take g.1).flatMap (·.2)).length g.2.2)]) [(2,_),(25,_),(26,_)] (λg=>Ws w [] [bt 9 1 cM g.2.1 g.2.2 ((ls.take g.1).flatMap (·.2))] [H]) (λg=>g.1<=ls.length) (λg=>ls.length-g.1) (0,Gp.1,Gp.2) (Nat.zero_le _) (sc O (sc O (sc O (sc O (sc O sn))))) (λ_ h=>h) ?_;intro g hi;refine ad (V0 (bj O O) (ab (Cs ?_)));refine Cc O (λaO=>?_) (λaO=>?_)
 ·have av:g.1<ls.length:=by simpa using aO
  obtain ⟨x,hx⟩:∃x,ls[g.1]? = some x:=⟨_,List.getElem?_eq_getElem av⟩;obtain ⟨pb,po,ha,cw,re⟩:=hm.aS g.1 x hx;have Bu:=ab9 hx;have htl:=ab' ls (g.1+1);refine aE (Cs (Cb (ad (V0 (Yo Ma O O ha (by omega)) (V0 (bo 0 eE O O (cw)) (ae O (ab (Cr (aa O (aa O ?_))))))))));refine WL.BM (xs:=(ls.take g.1).flatMap (·.2)) (ys:=x.2) 0 (λ_=>H) Y O dc O O O (λw hw=>⟨hw.vs H (by simp),re⟩) (λ_ _ _ _ h=>h) iy abr (by rw [ab_]; omega) (by rw [ab_]; omega) λa33 c33=>?_;rw [show ((ls.take g.1).flatMap (·.2))++x.2=(ls.take (g.1+1)).flatMap (·.2) by rw [List.take_add_one,hx]; simp];refine ae O (Ln (Eb (Et (Cr (V0 (Yi O O O (by omega)) (aa O (Ln ?_)))))));exact Ea ((g.1+1,a33,c33):Nat×Option Addr×Nat) (by first | omega | (dsimp only; omega)) (by first | omega | (dsimp only; omega)) (sc O (sc O (sc O (sc O (sc O sn))))) (λ_ h=>h)
 have lB:g.1=ls.length:=by simp at aO; omega
 refine Ce (Ex (Ex (bA (Et (ad (aa O (ae O (ab (aA ?_)))))))));refine R1 O O λw' hw=>?_;rw [lB,List.take_length] at hw;rw [lB,List.take_length];exact ⟨(g.2.1,g.2.2),O,hw.fr,hw.kS 0 O iy (λ_ _ _ _ h=>h)⟩
theorem arc (b4 b5:Nat) (m0:List Value) (AE:m0.length=5) (e0 Mc:Int) (w:World) (hw:Ws w (List.flatMap ao.ids [ah b4 (.cells m0.toArray 40 (0,0)),ah b5 (.cells #[.int .i64 e0] 23 (0,0))]) [ah b4 (.cells m0.toArray 40 (0,0)),ah b5 (.cells #[.int .i64 e0] 23 (0,0))] [] w) :
   CallsD Tryz.prog 72 #[.pointer (some ⟨b4,0,none⟩),.pointer (some ⟨b5,0,none⟩)] (.returning) w λe u2 w'=>u2 = .returning/\(e = .returned (.tuple #[])/\Ws w (List.flatMap ao.ids [ah b4 (.cells m0.toArray 40 (0,0)),ah b5 (.cells #[.int .i64 e0] 23 (0,0))]) [ah b4 (.cells m0.toArray 40 (0,0)),ah b5 (.cells #[.int .i64 e0] 23 (0,0))] [] w'):=by
 refine BF Tryz.func72 O 18 O O O O O (λ_=>rfl) (.inl ⟨O,O,O⟩) ?_;refine LW (W':=Ws w (List.flatMap ao.ids [ah b4 (.cells m0.toArray 40 (0,0)),ah b5 (.cells #[.int .i64 e0] 23 (0,0))]) [ah b4 (.cells m0.toArray 40 (0,0)),ah b5 (.cells #[.int .i64 e0] 23 (0,0))] []) (λ_ e=>by subst e; exact hw) (ae O (ab (ad (aa O (V0 (ag6 Tryz.underlying139 LZ O) (aa O (V0 (Yx O O) (V0 (Yx O O) ?_))))))));refine Al Y O LZ λb3=>?_;refine an 0 Y O O O aca O O O (ae O (ab (ad (aa O (ab ?_)))));refine WC.lj O ?_;refine ad (aa O (V0 (N0 G7 O) (ab ?_)));refine WC.lj O ?_;refine Ck ?_;refine E0 O λw' hw=>?_;exact ⟨O,Wd 1 hw⟩
theorem Md (b4 b5:Nat) (m0:List Value) (AE:m0.length=5) (e0 Mc:Int) (w:World) (hw:Ws w (List.flatMap ao.ids [ah b4 (.cells m0.toArray 40 (0,0)),ah b5 (.cells #[.int .i64 e0] 23 (0,0))]) [ah b4 (.cells m0.toArray 40 (0,0)),ah b5 (.cells #[.int .i64 e0] 23 (0,0))] [] w) :
   CallsD Tryz.prog 72 #[.pointer (some ⟨b4,0,none⟩),.pointer (some ⟨b5,0,none⟩)] (.panicking (jw Mc)) w λe u2 w'=>u2 = .panicking [⟨.iface 139 (.agg #[.int .i64 Mc]),true,false⟩]/\(e = .returned (.tuple #[])/\Ws w (List.flatMap ao.ids [ah b4 (.cells m0.toArray 40 (0,0)),ah b5 (.cells #[.int .i64 e0] 23 (0,0))]) [ah b4 (.cells (eG jD lW).toArray 40 (0,0)),ah b5 (.cells #[.int .i64 Mc] 23 (0,0))] [] w'):=by
 refine BF Tryz.func72 O 18 O O O O O (λ_=>rfl) (.inr ⟨_,O,O,O⟩) ?_;refine LW (W':=Ws w (List.flatMap ao.ids [ah b4 (.cells m0.toArray 40 (0,0)),ah b5 (.cells #[.int .i64 e0] 23 (0,0))]) [ah b4 (.cells m0.toArray 40 (0,0)),ah b5 (.cells #[.int .i64 e0] 23 (0,0))] []) (λ_ e=>by subst e; exact hw) (ae O (ab (ad (aa O (V0 (ag5 Tryz.underlying139 O) (aa O (V0 (Yx O O) (V0 (Yx O O) ?_))))))));refine Al Y O LZ λb3=>?_;refine an 0 Y O O O aca O O O (ae O (ab (ad (aa O (ab ?_)))));refine WC.Nt O ?_;refine WC.EI (λ_=>true) [1,1] [(0,true),(1,true),(2,true),(3,false),(4,false)] mixed (by kernel_rfl) (by kernel_rfl) (λ_ _ _ d _ _ h=>by cases d<;>exact h) ?_;refine D0 O (bR [1,1]) (Yb pH Mb O O) (D0 O (bR [1,1]) (Yf aq6 O) (D0 O (bR [1,1]) (Yd 0 O O O oL) ?_));refine De O (bR [1,1]) ?_;refine WL.UC 1 (.cells (eG jD lW).toArray 40 (0,0)) Y O O O pI O O (by simp [va,AE]) (by simp [u_,dN,eG,jD,lW,AE,List.drop_eq_nil_of_le]) ?_;refine Ln (Ed ?_);refine De O (bR [1,1]) ?_;refine an 2 Y O O O yt O O O (Ln (Ed ?_));refine WD.nil (bR [1,1]) ?_;refine E0 O λw' hw=>?_;exact ⟨O,Wd 1 hw⟩
def uH (f:List UInt8×List aN) (r:SP):List Value:=[st f.1,.slice r.1 f.2.length r.2]
def wK (H:View) (b o:Nat) (f:List UInt8×List aN):Prop:=∃r:SP,aR H b o (uH f r)/\Sl lp 4 H r.1 r.2 f.2
abbrev XM:=List aN×Nat
def XM.cells (e:XM):List Value:=[.map (some e.2)]
theorem XM.bq (e:XM):(XM.cells e).length=1:=rfl
def ard (H:View) (b o:Nat) (e:XM):Prop:=aR H b o (XM.cells e)
def Du (J:View) (e:XM):Prop:=J e.2=some (bh st (jf e.1 0) e.1.length)
theorem Du.mv {A B:View} {e:XM} (hv:aK A B) (h:Du A e):Du B e:=hv _ _ h
def yz (u:List UInt8) (f:List UInt8×List aN):Bool:=(lV f.1 f.2==0)&&(f.1==u)
theorem SA:∀{us:List (List UInt8)} {fs:List (List UInt8×List aN)},rL us fs=true↔∀(k:Nat) u f,us[k]? = some u->fs[k]? = some f->yz u f=true
 | [],fs=>by simp [rL]
 | u::us,[]=>by simp [rL]
 | u::us,f::fs=>by
   have ih:=SA (us:=us) (fs:=fs);simp only [rL,Bool.and_eq_true]
   constructor
   · rintro ⟨h1,h2⟩ k u' f' hu hf
     cases k with
     | zero=>simp at hu hf; subst hu; subst hf; simp only [yz,Bool.and_eq_true]; exact h1
     | succ k=>exact ih.1 h2 k u' f' (by simpa using hu) (by simpa using hf)
   · intro h
     refine ⟨by have:=h 0 u f O O; simp only [yz,Bool.and_eq_true] at this; exact this,ih.2 λk u' f' hu hf=>h (k+1) u' f' (by simpa using hu) (by simpa using hf)⟩
theorem are {n:List UInt8} {l:List aN} (h:lV n l=0):(l.map (·.name)).Nodup/\l.length<=16:=by
 unfold lV at h
 split at h
 · cases h
 · split at h
   · rename_i h1 h2
     simp only [Bool.and_eq_true,Bool.not_eq_true',Bool.or_eq_false_iff] at h2;exact ⟨nr.2 h2.2.1,by omega⟩
   · cases h
theorem arf {m:aD} {fs:List (List UInt8×List aN)} (h:¬(cG m).2=0):bJ m fs=(jD,(cG m).2):=by rw [bJ,if_pos h]
theorem arh {m:aD} {fs:List (List UInt8×List aN)} (h:(cG m).2=0) (h1:¬fs.length=m.ag.length):bJ m fs=(jD,8):=by rw [bJ,if_neg (by simp [h]),if_pos h1]
theorem ari {m:aD} {fs:List (List UInt8×List aN)} (h:(cG m).2=0) (h1:fs.length=m.ag.length) (h2:rL m.ag fs=false):bJ m fs=(jD,1):=by rw [bJ,if_neg (by simp [h]),if_neg (by simp [h1]),if_pos h2]
theorem SB {m:aD} {fs:List (List UInt8×List aN)} (h:(cG m).2=0) (h1:fs.length=m.ag.length) (h2:rL m.ag fs=true) (h3:p3 m fs≠0):bJ m fs=(jD,p3 m fs):=by rw [bJ,if_neg (by simp [h]),if_neg (by simp [h1]),if_neg (by simp [h2]),if_pos h3]
theorem arj {m:aD} {fs:List (List UInt8×List aN)} (h:(cG m).2=0) (h1:fs.length=m.ag.length) (h2:rL m.ag fs=true) (h3:p3 m fs=0):bJ m fs=(xK m fs,0):=by rw [bJ,if_neg (by simp [h]),if_neg (by simp [h1]),if_neg (by simp [h2]),if_neg (by simp [h3])]
theorem ark {m:aD} (h:(cG m).2=0):fG m=0/\et ((ft m).map (·.name))=false/\et m.ag=false:=by
 by_cases hc:fG m=0
 · by_cases h2:(et ((ft m).map (·.name))||et m.ag)=true
   · rw [abE hc h2] at h; cases h
   · rw [Bool.not_eq_true,Bool.or_eq_false_iff] at h2
     exact ⟨hc,h2⟩
 · rw [abD hc] at h; exact absurd h hc
theorem acf {l:List (List UInt8)} {k:Nat} {x:List UInt8} (hx:l[k]? = some x) (hn:x ∉ l.take k):bh st (dv x (.int .i64 ((k+1:Nat):Int)) (gH (l.take k) 0) k) (gS x (gH (l.take k) 0) k)=bh st (gH (l.take (k+1)) 0) (k+1):=by
 have av:=(List.getElem?_eq_some_iff.1 hx).1
 have hl:(l.take k).length=k:=by simp; omega
 have h:=Wh hn;rw [hl] at h;rw [h.1,h.2,iU hx];simp [hl]
theorem arl {l:List (List UInt8)} (h:l.Nodup) {k:Nat} {x:List UInt8} (hx:l[k]? = some x):x ∉ l.take k:=by
 intro hm;obtain ⟨j,hj⟩:=List.getElem?_of_mem hm
 have kQ:j<k:=by have:=(List.getElem?_eq_some_iff.1 hj).1; simp at this; omega
 rw [List.getElem?_take,if_pos kQ] at hj;have Pp:=(List.getElem?_eq_some_iff.1 hj).1;have:=(List.getElem?_inj Pp h).1 (hj.trans hx.symm);omega
theorem arn {nm:List UInt8} {l:List (List UInt8)} (h:(mP nm l==0)=true):nm ∉ l:=by
 have:¬0<mP nm l:=by simp at h; omega
 exact xL.1 (R_ this)
theorem aro {l:List (List UInt8)} {k:Nat} {x:List UInt8} (hx:l[k]? = some x) (h:(mP x (l.take k)==0)=false):et l=true:=by
 have de:¬mP x (l.take k)=0:=by simpa using h
 have hp:0<mP x (l.take k):=by
   unfold mP at de ⊢
   cases hi:idxOf x (l.take k) 0 with
   | none=>rw [hi] at de; exact absurd rfl de
   | some j=>simp only; omega
 obtain ⟨j,hj,_,av⟩:=R' hp;have h2:=(B1 hj).2
 have kQ:j<k:=by simp at av; omega
 rw [Nat.sub_zero,List.getElem?_take,if_pos kQ] at h2;exact OC.2 ⟨k,j,(List.getElem?_eq_some_iff.1 hx).1,kQ,by rw [hx,h2]⟩
theorem arp {l:List (List UInt8)} {k:Nat} {x:List UInt8} (hx:l[k]? = some x) (hn:x ∉ l.take k) (h:(l.take k).Nodup):(l.take (k+1)).Nodup:=by
 rw [iU hx,List.nodup_append];exact ⟨h,by simp,λa ha b hb=>by rw [List.mem_singleton] at hb; subst hb; intro e; subst e; exact hn ha⟩
theorem acg {m:aD} {fs:List (List UInt8×List aN)} {p:dh} (h:et (p.params++p.ay)=true):th m fs p=6:=by rw [th,if_pos h]; rfl
theorem SC {m:aD} {fs:List (List UInt8×List aN)} {p:dh} (h:et (p.params++p.ay)=false):th m fs p=fh (gG m fs (p.params++p.ay)) p.body:=by rw [th,if_neg (by simp [h])]; rfl
structure GP where
 i:Nat
 es:List XP
 a:Option Addr
 c:Nat
 J:View
 lb:Value
def Dv (m:aD) (c:SP) (n:Nat) (p:SP):List Value:=[st m.nm,.slice c.1 m.ag.length c.2,.int .i64 (Jm m),.slice p.1 n p.2,.slice none 0 0]
theorem SD:Enters Tryz.prog 24:=enters_of Tryz.func24 (by kernel_rfl) rfl
theorem iJ:gj Tryz.prog 40=some 5:=by kernel_rfl
theorem SE:eo Tryz.prog 62=some 2:=by kernel_rfl
theorem ach:Enters Tryz.prog 73:=enters_of Tryz.func73 (by kernel_rfl) rfl
theorem arq:fo Tryz.prog 147=some [(0,1),(1,1),(2,1),(3,1)]:=by kernel_rfl
theorem ars:zeroOf Tryz.prog 147=some (.agg #[.map none,.map none,.slice none 0 0,.map none]):=by kernel_rfl
theorem SG:Enters Tryz.prog 68:=enters_of Tryz.func68 (by kernel_rfl) rfl
theorem Hn:Enters Tryz.prog 72:=enters_of Tryz.func72 (by kernel_rfl) rfl
theorem aci:e9 Tryz.prog 145 143 (.map none) 1 8:=ja (by kernel_rfl)
theorem art:cC Tryz.prog 145=some 1:=by kernel_rfl
theorem acj:Enters Tryz.prog 75:=enters_of Tryz.func75 (by kernel_rfl) rfl
theorem ack:cC Tryz.prog 123=some 1:=by kernel_rfl
theorem aru:e9 Tryz.prog 238 22 (.slice none 0 0) 1 24:=ja (by kernel_rfl)
theorem arv:Enters Tryz.prog 76:=enters_of Tryz.func76 (by kernel_rfl) rfl
theorem nP:bw Tryz.prog 40 3=some 3:=by kernel_rfl
theorem oO:dQ Tryz.prog 37=true:=by kernel_rfl
theorem acm:fo Tryz.prog 89=some [(0,1),(1,1),(2,1)]:=by kernel_rfl
theorem Ho:zeroOf Tryz.prog 89=some (.agg #[.int .i64 0,.int .i64 0,.slice none 0 0]):=by kernel_rfl
theorem acn:e9 Tryz.prog 37 89 (.agg #[.int .i64 0,.int .i64 0,.slice none 0 0]) 3 40:=ja (by kernel_rfl)
theorem arw:cC Tryz.prog 37=some 1:=by kernel_rfl
theorem Hp:bw Tryz.prog 40 4=some 4:=by kernel_rfl
theorem AQ (H HF:View) (ke ks:Nat) (r:jV) (m:aD) (fa:Option Addr) (fc:Nat) (fs:List (List UInt8×List aN)) (w:World) (hH:Le H w) (Hq:Le HF w) (hm:ko ke ks H r m) (Me:Sl wK 2 HF fa fc fs) (hb:wM m<=109951162777) :
   Calls Tryz.prog 25 #[.agg (fq m r).toArray,.slice fa fs.length fc] w λe w'=>∃r:jW,e = .returned (.tuple #[.agg (eG (bJ m fs).1 r).toArray,.int .i64 (bJ m fs).2])/\Ext w w'/\je (ke+1) (ks+1) (nv w w') r (bJ m fs).1:=by
 have aAo:=Me.cap;have aAp:=Me.max;refine NU Tryz.func25 O 159 O O ?_;refine CE (Vs:=[HF,H]) (Ws.init (by simp [Hq,hH])) (ad ?_);refine WL.box Y O O λb2=>?_;refine Al Y O pH λb4=>?_;refine bL 0 (.cells (eG jD lW).toArray 40 (0,0)) O O ?_;refine Al Y O abo λb5=>?_;refine bL 0 (.cells #[.int .i64 0] 23 (0,0)) O O (ab (Cs (ad (V0 (bk 2 O O iW O) ?_))));refine Ld Y O SD O (λr:SP=>.tuple #[.agg #[st (cG m).1.1,.slice r.1 (cG m).1.2.length r.2],.int .i64 (cG m).2]) (λH r=>Sl lp 4 H r.1 r.2 (cG m).1.2) (λw hw=>R2 H ke ks r m w (hw.vs _ (by simp)) hm hb) ?_;intro Aq pr Ls Dw;refine aa O (V0 (Yx O O) (V0 (Yx O O) ?_));refine Al Y O j7 λb6=>?_;refine an 0 Y O O O lJ O O O (ae O (ab (ad (aa O (V0 (eL O O) (ab ?_))))));refine Cc O (λai=>?_) (λai=>?_)
 ·have he:¬(cG m).2=0:=by simpa using ai
  refine ad (V0 (Yb pH Mb O O) (aa O (an 2 Y O O O pI O O O (an 1 Y O O O yt O O O (ab (aA (Er ?_)))))));refine WE.NW (eZ O (cZ 2 O O iJ O) (oV 1 O O O oL)) λw' hw=>?_;rw [arf he];exact ⟨lW,O,hw.fr,BX _⟩
 have he:(cG m).2=0:=by simpa using ai
 obtain ⟨kT,SH,Hr⟩:=ark he;have ho:=RZ kT;have SH:=nr.2 SH;have Hr:=nr.2 Hr;have eA:=ho.eA;have xu:=hm.ag.max;have yu:=hm.ag.cap;have xp:=hm.procs.max;have yp:=hm.procs.cap;have hwM:wM m=1+m.nm.length+wN m.ag+wD m.decls+wP m.procs+cP m.main:=rfl;refine aE (Cs (ad (aa O (V0 (Yn SE O) (V0 (Yf sr O) (V0 (Yd 3 O O O eE) (V0 (Yn cz O) (V0 (eL O O) (ab ?_)))))))));refine Cc O (λaw=>?_) (λaw=>?_)
 ·have tq:¬fs.length=m.ag.length:=by simp at aw; omega
  refine ad (V0 (Yb pH Mb O O) (an 2 Y O O O pI O O O (an 1 Y O O O yt O O O (ab (aA (Er ?_))))));refine WE.NW (eZ O (cZ 2 O O iJ O) (oV 1 O O O oL)) λw' hw=>?_;rw [arh he tq];exact ⟨lW,O,hw.fr,BX _⟩
 have wL:fs.length=m.ag.length:=by simp at aw; omega
 refine aE (ad (V0 (zb O) ?_));refine WL.defer Y O ?_;refine ab (ad (V0 (bk 3 O O iW O) ?_));refine Ld Y O abF O (λr:SP=>.tuple #[.slice r.1 (ft m).length r.2,.int .i64 (Jm m)]) (λH r=>Sl lp 4 H r.1 r.2 (ft m)) (λw hw=>abB H ke ks r m w (hw.vs _ (by simp)) hm ho) ?_;intro F36 Lg aAq h36;refine aa O (V0 (Yx O O) (V0 (Yx O O) (ae O (ae O (ab (ad (aa O ?_)))))));refine Ld Y O ach O (λb:Nat=>.map (some b)) (λH b=>H b=some (bh st (jf (ft m) 0) (ft m).length)) (λw hw=>abN F36 Lg.1 Lg.2 (ft m) w (hw.vs _ (by simp)) h36 SH) ?_;intro AR uk aAr h40;refine WL.oY st Y O λwv=>?_;refine bL 0 (bh st (gH (m.ag.take 0) 0) 0) O O (V0 (Yb ars arq O O) ?_);refine WL.box Y O O λmb=>?_;refine LW (λ_ h=>h.eM 143 1) ?_;refine WL.v0 ?_;refine ae O (ab (Cs (ad (aa O (V0 (Yn SE O) (aa O (ab (Cb ?_))))))));refine cq (ι:=GX XM) (λg=>[(46,.int .i64 (g.i:Int))]) [(2,_),(4,_),(5,_),(9,_),(10,_),(44,_),(45,_)] (λg=>Ws w [] [ah mb (.cells #[.map (some uk),.map (some wv),.slice g.a g.es.length g.c,.map none] 147 (0,0)),ah wv (bh st (gH (m.ag.take g.i) 0) g.i),bt 143 1 XM.cells g.a g.c g.es,ah b5 (.cells #[.int .i64 0] 23 (0,0)),ah b4 (.cells (eG jD lW).toArray 40 (0,0)),ah b2 (.cells (fq m r).toArray 50 (0,0))] [g.J,AR,HF,H]) (λg=>g.i<=fs.length/\g.es.map (·.1)=(fs.take g.i).map (·.2)/\(∀(k:Nat) u f,k<g.i->m.ag[k]? = some u->fs[k]? = some f->yz u f=true)/\(ew w g.J/\Xs Du g.J g.es)) (λg=>fs.length-g.i) ⟨0,[],none,0,v0⟩ ⟨Nat.zero_le _,O,λk u f hk=>absurd hk (Nat.not_lt_zero k),⟨pW w,Xs.nil _⟩⟩ (sc O (sc O (sc O (sc O (sc O (sc O (sc O (sc O sn)))))))) (λ_ h=>by have h:=h.aX 6 O; have h:=h.aX 6 O; have h:=h.aX 6 O; have h:=h.aX 3 O; have h:=h.aX 5 O; have h:=h.aX 5 O; have h:=Wt 6 h; have h:=Ws.bF h (a_:=[v0,AR,HF,H]) (by simp); exact h) ?_;intro g ⟨hi,lL,aJ,⟨mL,hX⟩⟩;refine ad (V0 (bj O O) (ab (Cs ?_)));refine Cc O (λaO=>?_) (λaO=>?_)
 ·have av:g.i<fs.length:=by simpa using aO
  obtain ⟨f,xT⟩:∃f,fs[g.i]? = some f:=⟨_,List.getElem?_eq_getElem av⟩;obtain ⟨pbf,pof,haf,rf,hrf,acp⟩:=Me.aS g.i f xT;obtain ⟨u,pk⟩:∃u,m.ag[g.i]? = some u:=⟨_,List.getElem?_eq_getElem (by omega)⟩;obtain ⟨pbu,pou,SI,Hs⟩:=hm.ag.aS g.i u pk;have Hs:aR H pbu (pou+g.i*1) (cM u):=Hs;have nq:=L7 lL hi;refine aE (Cs (Cb (ad (aa O (V0 (Yo SE O O haf (by omega)) (V0 (cJ 2 j8 O O O (hrf)) ?_))))));refine Al Y O j7 λDi=>?_;refine ae O (an 0 Y O O O lJ O O O (ab (Cs ?_)));refine WC.EI (ri [.cell 4 40,.cell 5 23]) [] [(0,true),(1,false),(2,true),(3,true),(4,true),(5,true),(6,true),(7,true),(8,true),(9,true),(10,true),(11,true),(12,true),(13,false)] mixed (by kernel_rfl) (by kernel_rfl) (λ_ _ _ _ _ hd h=>zh (fn:=Tryz.f25) [.cell 4 40,.cell 5 23] O hd h) ?_;refine D0 O (λ_ h=>h) (bk 0 O O j8 O) ?_;refine De O (λ_ h=>h) ?_;refine Lp Y O SG O (λw hw=>RX HF rf.1 rf.2 f.1 f.2 w (hw.vs _ (by simp)) acp) (Ln (Ed (D0 O (λ_ h=>h) (aW O O) (D0 O (λ_ h=>h) (Ym O) ?_))));apply WD.and 8 O O O O O Y O (λ_ h=>h) O O O O
  ·intro du;refine Dq O (.g O O O) O (λ_ h=>h) (Yf LX O) (Dq O (.g O O O) O (λ_ h=>h) (Yd 0 O O O bW) (Dq O (.g O O O) O (λ_ h=>h) (Yf sr O) (Dq O (.g O O O) O (λ_ h=>h) (Yd 6 O O O eE) (Dq O (.g O O O) O (λ_ h=>h) (Ym O) (Dq O (.g O O O) O (λ_ h=>h) (Yo cz O O SI (by omega)) (Dq O (.g O O O) O (λ_ h=>h) (bo 3 bW O O (Hs 0 _ O)) (Dq O (.g O O O) O (λ_ h=>h) (y5 O O) ?_)))))));exact Gi 8 (λ_ h=>h) O O O
  refine De O (λ_ h=>h) ?_;refine WL.mz (ι:=Unit) (κ:=Unit) Y O wC O (λ_=>.tuple #[]) (λ_=>yz u f=true) (λ_=>jw 1) (λ_=>yz u f=false) (λw hw=>wF _ _ w) ?_ ?_
  ·intro _ hp;refine Ep (Ep (WE.bx (Ep (Ep (WE.bx (Ep ?_))))));refine WE.front 4 O ?_;refine WE.front 5 O ?_;refine WE.zg Hn (s0 [_,_] _ [ah b4 (.cells (eG jD lW).toArray 40 (0,0)),ah b5 (.cells #[.int .i64 1] 23 (0,0))] O (λw hw=>Md b4 b5 (eG jD lW) O 0 1 w hw)) (eZ O (cZ 0 O O iJ O) (oV 1 O O O oL)) λw' hw=>?_
   have e_:rL m.ag fs=false:=by
     rw [Bool.eq_false_iff];intro h;have:=SA.1 h g.i u f pk xT;rw [hp] at this; cases this
   rw [ari he wL e_];exact ⟨lW,O,hw.fr,BX _⟩
  intro _ arB;refine Ln (Ed ?_);refine WD.nil (λ_ h=>h) ?_;refine Et (Cs ?_);have hof:yz u f=true:=arB;have acu:=hof;simp only [yz,Bool.and_eq_true,beq_iff_eq] at acu;obtain ⟨hfe,SJ⟩:=acu;obtain ⟨SK,Vk⟩:=are hfe
  have oT:f.1 ∉ m.ag.take g.i:=by rw [SJ]; exact arl Hr pk
  refine WC.EI (ri [.cell 4 40,.cell 5 23]) [2] [(0,true),(1,true),(2,true),(3,true),(4,true),(5,true),(6,true),(7,true),(8,false)] mixed (by kernel_rfl) (by kernel_rfl) (λ_ _ _ _ _ hd h=>zh (fn:=Tryz.f25) [.cell 4 40,.cell 5 23] O hd h) ?_;refine D0 O (Wp 2) (Ym O) (D0 O (Wp 2) (bD O) (D0 O (Wp 2) (Yf abW O) (D0 O (Wp 2) (Yd 1 O O O wB) (D0 O (Wp 2) (Yf LX O) (D0 O (Wp 2) (Yd 0 O O O bW) (D0 O (Wp 2) (Ym O) (D0 O (Wp 2) (Yi O O O (by omega)) ?_)))))));refine De O (Wp 2) ?_;refine WL.rr 2 ix Y iH dy O O O O ?_;refine bL 2 (bh st (gH (m.ag.take (g.i+1)) 0) (g.i+1)) O (by rw [SJ]; exact acf pk (SJ▸oT)) (Ln (Ed ?_));refine WD.nil (Wp 2) ?_;refine Et ?_;refine CU (ri [.cell 4 40,.cell 5 23]) [3] [10,11,12] (.q false 0 (.q false 1 (.q false 2 (.q false 3 (.q true 4 (.q false 5 (.q true 6 (.e 7 (.e 8 (.e 9 .nil .stop) .stop) .stop)))))))) mixed (by kernel_rfl) (λ_ _ _ _ _ hd h=>zh (fn:=Tryz.f25) [.cell 4 40,.cell 5 23] O hd h) ?_;refine U0 O (Wp 3) (Ym O) (U0 O (Wp 3) (Ym O) (U0 O (Wp 3) (bD O) (U0 O (Wp 3) (Yf Sc O) (U0 O (Wp 3) (Yd 1 O O O abX) (U0 O (Wp 3) (Yf wx O) (U0 O (Wp 3) (Yd 0 O O O AG) ?_))))));refine Ue O (Wp 3) ?_ WU.stop;refine Ld Y O ach O (λb:Nat=>.map (some b)) (λH b=>H b=some (bh st (jf f.2 0) f.2.length)) (λw hw=>abN HF rf.1 rf.2 f.2 w (hw.vs _ (by simp)) acp SK) ?_;intro F80 SL arD Sy;refine Ln (Eu ?_);refine Ue O (λ_ h=>(Wv 1 (Wo 3 h):)) ?_ WU.stop;refine Lb Y O aci O O O O λb81=>?_;refine bL 0 (.cells (XM.cells (f.2,SL)).toArray 143 (0,0)) O (O) (Ln (Eu ?_));refine Ue O (λ_ h=>(Wv 1 (Wo 3 (Wd 1 h)):)) ?_ WU.stop;refine LA ((f.2,SL):XM) 4 0 Y O aci O O O O O O (by omega) (by omega) λa82 c82=>?_;refine Ln (Eu ?_);refine WU.nil (λ_ h=>(Wv 1 (Wo 3 (Wd 1 h)):)) ?_;refine WS.e O ?_;refine V0 (bD O) (Ln (Es ?_));refine WS.e O ?_;refine V0 (Yf Sc O) (Ln (Es ?_));refine WS.e O ?_;refine an 2 Y O O O art O O O (Ln (Es ?_));refine WS.nil ?_;refine Eb (Et ?_);refine WC.jd λJ80 arH arI arJ=>?_;refine Cr (V0 (Yi O O O (by omega)) (aa O (Ln ?_)))
  exact Ea (⟨g.i+1,g.es++[(f.2,SL)],a82,c82,J80⟩:GX XM) (by show _-(g.i+1)<_; omega) ⟨(by show g.i+1<=_; omega),L6 lL xT O,λk u2 f2 hk wO Dx=>by
      rcases Nat.lt_succ_iff_lt_or_eq.1 hk with h | rfl
      · exact aJ k u2 f2 h wO Dx
      · rw [pk] at wO; rw [xT] at Dx; injection wO with wO; injection Dx with Dx; subst wO; subst Dx; exact hof,⟨arJ _ arD mL,Xs.snoc (R:=Du) (λhv h=>Du.mv hv h) hX arI arH Sy⟩⟩ (sc rfl (sc rfl (sc rfl (sc rfl (sc rfl (sc rfl (sc rfl (sc rfl sn)))))))) (λ_ h=>Wd 2 h)
 have oP:g.i=fs.length:=by simp at aO; omega
 have Mf:rL m.ag fs=true:=SA.2 λk u f hu hf=>aJ k u f (by have:=(List.getElem?_eq_some_iff.1 hf).1; omega) hu hf;have Mg:=L8 lL oP
 have arK:m.ag.take g.i=m.ag:=by rw [oP,wL,List.take_length]
 have arL:g.i=m.ag.length:=by rw [oP,wL]
 rw [arK,arL];refine Ce (Ex (Ex (bA (Et (Cs ?_)))));refine WC.n5 (rd:=ard) 2 O XM.bq (λ_ _ _ _ h=>h) λKF hKF=>?_;refine WC.EI (ri [.cell 4 40,.cell 5 23]) [3] [(0,true),(1,true),(2,true),(3,true),(5,true),(4,false),(6,true),(7,false)] mixed (by kernel_rfl) (by kernel_rfl) (λ_ _ _ _ _ hd h=>zh (fn:=Tryz.f25) [.cell 4 40,.cell 5 23] O hd h) ?_;refine D0 O (Wp 3) (Yf zR O) (D0 O (Wp 3) (Yd 3 O O O bW) (D0 O (Wp 3) (Yf sr O) (D0 O (Wp 3) (Yd 3 O O O eE) (D0 O (Wp 3) (Ym O) ?_))));refine De O (Wp 3) ?_;refine Ld Y O acj O (λr:SP=>.slice r.1 m.ag.length r.2) (λF r=>Sl rdStr 1 F r.1 r.2 m.ag) (λw hw=>acb H r.a1 r.c1 m.ag w (hw.vs _ (by simp)) hm.ag (by omega)) ?_;intro SM uJ arM Mh;refine Ln (Ed (D0 O (λ_ h=>(Wv 1 (Wo 3 h):)) (Yb pH Mb O O) ?_));refine De O (λ_ h=>(Wv 1 (Wo 3 h):)) ?_;refine an 3 Y O O O pI O O O (Ln (Ed ?_));refine WD.nil (λ_ h=>(Wv 1 (Wo 3 h):)) ?_;refine Et (Cs (Cs (fg 3 (.cells (Dv m uJ ([]:List XP).length (none,0)).toArray 40 (0,0)) O O ?_)));refine xg (λ_ h=>h.eM 89 3) ?_;refine xg (λ_ h=>h.v0) ?_;refine Cr (V0 (Yf zT O) (V0 (Yd 5 O O O CQ) (V0 (Yn vU O) (aa O (ab (Cb ?_))))));refine cq (ι:=GP) (λz=>[(96,.int .i64 (z.i:Int))]) [(2,_),(4,_),(5,_),(10,_),(94,_),(95,_)] (λz=>Ws w [] [ah mb (.cells #[.map (some uk),.map (some wv),.slice g.a g.es.length g.c,z.lb] 147 (0,0)),ah wv (bh st (gH m.ag 0) m.ag.length),bt 89 3 XP.cells z.a z.c z.es,ah b5 (.cells #[.int .i64 0] 23 (0,0)),ah b4 (.cells (Dv m uJ z.es.length (z.a,z.c)).toArray 40 (0,0)),ah b2 (.cells (fq m r).toArray 50 (0,0))] [z.J,SM,KF,g.J,AR,HF,H]) (λz=>z.i<=m.procs.length/\z.es.map (·.1)=(m.procs.take z.i).map (zz m fs)/\fI (th m fs) (m.procs.take z.i)=0/\(ew w z.J/\Xs (xH (ke+1) (ks+1)) z.J z.es)) (λz=>m.procs.length-z.i) ⟨0,[],none,0,v0,.map none⟩ ⟨Nat.zero_le _,O,O,⟨pW w,Xs.nil _⟩⟩ (sc O (sc O (sc O (sc O (sc O (sc O (sc O sn))))))) (λ_ h=>by have h:=h.aX 5 O; have h:=h.aX 5 O; have h:=h.aX 5 O; have h:=h.aX 3 O; have h:=h.aX 5 O; have h:=h.aX 5 O; have h:=Ws.bF h (a_:=[v0,SM,KF,g.J,AR,HF,H]) (by simp); exact h) ?_;intro z ⟨LV,SN,Mi,⟨acw,hX2⟩⟩;refine ad (V0 (bj O O) (ab (Cs ?_)));refine Cc O (λbd=>?_) (λbd=>?_)
 ·have av:z.i<m.procs.length:=by simpa using bd
  obtain ⟨p,lD⟩:∃q,m.procs[z.i]? = some q:=⟨_,List.getElem?_eq_getElem av⟩;obtain ⟨zV,pop,m_,zW⟩:=hm.procs.aS z.i p lD;obtain ⟨zX,zY,zZ,z6,CY,CZ,cw,iE,gX,kF⟩:=zW;have op:=PJ (ho.procs p (List.mem_of_getElem? lD));have aAv:=op.eA;have Qn:=ZD lD;have hx1:=iE.max;have hy1:=iE.cap;have xQ:=gX.max;have zC:=gX.cap;have aAw:=L7 SN LV;refine aE (Cs (Cb (ad (V0 (Yo vU O O m_ (by omega)) (V0 (cJ 6 CR O O O (cw)) ?_)))));refine Al Y O x7 λfO=>?_;refine an 0 Y O O O CS O O O (ab (ad (aa O ?_)));refine WL.oY st Y O λqG=>?_;refine bL 0 (bh st (gH ((p.params++p.ay).take 0) 0) 0) O O (V0 (bD O) (V0 (Yf Hi O) (an 2 Y O O O ack O O O (ab (Cs (ad (V0 (Yf ue O) (V0 (Yd 1 O O O eE) (V0 (Yf CT O) ?_)))))))));refine V0 (Yd 1 O O O eE) ?_;refine Lb Y O aru O O O O λAS=>?_
  refine Ld Y O arv O (λr:SP=>.slice r.1 (p.params++p.ay).length r.2) (λF r=>Sl rdStr 1 F r.1 r.2 (p.params++p.ay)) (λw hw=>by
      have hls:Sl rdS 1 (hv w) (some ⟨AS,0,none⟩) 2 [((zX,zY),p.params),((zZ,z6),p.ay)]:=⟨by simp,by decide,by simp,λj x hj=>⟨AS,0,rfl,by
        match j,hj with
        | 0,hj=>simp only [List.getElem?_cons_zero,Option.some.injEq] at hj; subst hj; exact ⟨hw.mq 0 rfl rfl,iE.imp λb o x hx=>BN (pR (hw.vs H (by simp))) b o x hx⟩
        | 1,hj=>simp only [List.getElem?_cons_succ,List.getElem?_cons_zero,Option.some.injEq] at hj; subst hj; exact ⟨hw.mq 0 rfl rfl,gX.imp λb o x hx=>BN (pR (hw.vs H (by simp))) b o x hx⟩⟩⟩
      have hc:=aq' (hv w) (some ⟨AS,0,none⟩) 2 _ w (kR w) hls (by simp [mS]; omega) (by simp);rw [show [((zX,zY),p.params),((zZ,z6),p.ay)].flatMap (·.2)=p.params++p.ay by simp] at hc
      exact hc) ?_
  intro acy yA arN SO;refine V0 (Yn cz O) (aa O (ab (Cb ?_)));refine cq (ι:=Nat) (λj=>[(111,.int .i64 (j:Int))]) [(2,_),(4,_),(5,_),(10,_),(14,_),(94,_),(95,_),(96,_),(109,_),(110,_)] (λj=>Ws w [] [ah mb (.cells #[.map (some uk),.map (some wv),.slice g.a g.es.length g.c,.map (some qG)] 147 (0,0)),ah qG (bh st (gH ((p.params++p.ay).take j) 0) j),ah fO (.cells (On p zX zY zZ z6 CY CZ).toArray 151 (0,0)),ah wv (bh st (gH m.ag 0) m.ag.length),bt 89 3 XP.cells z.a z.c z.es,ah b5 (.cells #[.int .i64 0] 23 (0,0)),ah b4 (.cells (Dv m uJ z.es.length (z.a,z.c)).toArray 40 (0,0)),ah b2 (.cells (fq m r).toArray 50 (0,0))] [acy,z.J,SM,KF,g.J,AR,HF,H]) (λj=>j<=(p.params++p.ay).length/\((p.params++p.ay).take j).Nodup) (λj=>(p.params++p.ay).length-j) 0 ⟨Nat.zero_le _,List.nodup_nil⟩ (sc O (sc O (sc O (sc O (sc O (sc O (sc O (sc O (sc O (sc O (sc O sn))))))))))) (λ_ h=>by exact (Wt 8 ((((((((h.f 8 O).f 8 O).f 8 O).f 8 O).f 8 O).f 7 O).f 7 O).f 8 O):)) ?_;intro j ⟨hj,u6⟩;refine ad (V0 (bj O O) (ab (Cs ?_)));refine Cc O (λbC=>?_) (λbC=>?_)
  ·have av:j<(p.params++p.ay).length:=by simp only [decide_eq_true_eq] at bC; omega
   obtain ⟨s,fp⟩:∃q,(p.params++p.ay)[j]? = some q:=⟨_,List.getElem?_eq_getElem av⟩;obtain ⟨pJ,pos,has,gY⟩:=SO.aS j s fp;have gY:aR acy pJ (pos+j*1) (cM s):=gY;have N6:=SO.cap;have hmn:=SO.max;refine aE (Cs (Cb (ad (aa O (V0 (Yo cz O O has (by omega)) (V0 (bo 0 bW O O (gY 0 _ O)) (ae O (ae O (ab (ad (aa O ?_)))))))))));refine V0 (bD O) (V0 (Yf Hi O) (V0 (Yd 0 O O O wB) (aa O (V0 (vh 1 ix iH dy me O O O) ?_))));rw [R9];refine V0 (aW O O) ?_;refine WL.mz (ι:=Unit) (κ:=Unit) Y O wC O (λ_=>.tuple #[]) (λ_=>(mP s ((p.params++p.ay).take j)==0)=true) (λ_=>jw 6) (λ_=>(mP s ((p.params++p.ay).take j)==0)=false) (λw hw=>wF _ _ w) ?_ ?_
   ·intro _ hp;refine Ep (WE.bx (Ep (Ep (WE.bx (Ep (WE.bx (Ep ?_)))))));refine Ep (WE.bx (Ep ?_));refine WE.front 5 O ?_;refine WE.front 6 O ?_;refine WE.zg Hn (s0 [_,_] _ [ah b4 (.cells (eG jD lW).toArray 40 (0,0)),ah b5 (.cells #[.int .i64 6] 23 (0,0))] O (λw hw=>Md b4 b5 (Dv m uJ z.es.length (z.a,z.c)) O 0 6 w hw)) (eZ O (cZ 0 O O iJ O) (oV 1 O O O oL)) λw' hw=>?_;have ht:=aro fp hp
    have hE:p3 m fs=6:=by rw [p3,B0 (th m fs) lD Mi (by rw [acg ht]; decide),acg ht]; rfl
    rw [SB he wL Mf (by rw [hE]; decide),hE];exact ⟨lW,O,hw.fr,BX _⟩
   intro _ arO;have oT:=arn arO;refine ab (Cr (aa O (V0 (bD O) (V0 (Yf Hi O) (V0 (Yd 0 O O O wB) (aa O (aa O (V0 (Yi O O O (by omega)) ?_))))))));refine WL.rr 1 ix Y iH dy O O O O ?_;refine bL 1 (bh st (gH ((p.params++p.ay).take (j+1)) 0) (j+1)) O (acf fp oT) (Ln (Eb (Et (Cr (V0 (Yi O O O (by omega)) (aa O (Ln ?_)))))));exact Ea (j+1) (by omega) ⟨by omega,arp fp oT u6⟩ (sc O (sc O (sc O (sc O (sc O (sc O (sc O (sc O (sc O (sc O (sc O sn))))))))))) (λ_ h=>h)
  have hjn:j=(p.params++p.ay).length:=by simp only [decide_eq_false_iff_not] at bC; omega
  have Ht:et (p.params++p.ay)=false:=nr.1 (by rw [hjn,List.take_length] at u6; exact u6);rw [hjn,List.take_length];refine Ce (Ex (Ex (bA (Et ?_))));refine CU (ri [.cell 4 40,.cell 5 23]) [4] [15,16] (.q false 0 (.q true 1 (.q false 2 (.q true 3 (.q false 4 (.q false 5 (.q true 6 (.q false 7 (.q false 8 (.q false 9 (.q true 10 (.e 11 (.q false 12 (.e 13 (.e 14 .nil .stop) .stop)) .stop)))))))))))) mixed (by kernel_rfl) (λ_ _ _ _ _ hd h=>zh (fn:=Tryz.f25) [.cell 4 40,.cell 5 23] O hd h) ?_;refine U0 O (Wp 4) (Yf nP O) (U0 O (Wp 4) (Yd 5 O O O oO) (U0 O (Wp 4) (Yf ue O) (U0 O (Wp 4) (Yd 2 O O O eE) (U0 O (Wp 4) (Yn cz O) (U0 O (Wp 4) (Yf CT O) (U0 O (Wp 4) (Yd 2 O O O eE) (U0 O (Wp 4) (Yn cz O) ?_)))))));refine U0 O (Wp 4) (Ym O) (U0 O (Wp 4) (Yf Qr O) (U0 O (Wp 4) (Yd 2 O O O nG) ?_));refine Ue O (Wp 4) ?_ WU.stop
  refine WL.xD (ι:=SP) (κ:=Unit) Y O L_ O (λr=>.slice r.1 (jX (gG m fs (p.params++p.ay)) p.body).length r.2) (λF r=>fh (gG m fs (p.params++p.ay)) p.body=0/\Sl (iP (ke+1) (ks+1)) 7 F r.1 r.2 (jX (gG m fs (p.params++p.ay)) p.body)) (λ_=>jw (fh (gG m fs (p.params++p.ay)) p.body)) (λ_=>fh (gG m fs (p.params++p.ay)) p.body≠0) (λw hw=>by
      have hS:wz (hv w) mb (gG m fs (p.params++p.ay)):=⟨⟨uk,wv,g.a,g.c,qG,⟨hw.mq 0 rfl rfl,hw.mq 0 rfl rfl,by show vc (hv w) mb 2=some (.slice g.a (fs.map (·.2)).length g.c); rw [<-Mg,List.length_map]; exact IP (hw.n8 0 rfl) rfl,hw.mq 0 rfl rfl⟩,hw.vs AR (by simp) _ _ h40,hw.n8 3 rfl,by show Sl R8 1 (hv w) g.a g.c (fs.map (·.2)); rw [<-Mg]; exact BY hKF hX λb o e h1 h2=>⟨e.2,(pR (hw.vs KF (by simp))).cell (h1 0 _ rfl),hw.vs g.J (by simp) _ _ h2⟩,hw.n8 1 rfl⟩,Hr,by show m.ag.length=(fs.map (·.2)).length; rw [List.length_map,wL],⟨ho.eA.1,by show (p.params++p.ay).length<=7; rw [List.length_append]; omega⟩⟩
      exact ab7 (hv w) H mb (gG m fs (p.params++p.ay)) ke hS ks p.body CY CZ w (kR w) (hw.vs H (by simp)) kF (by omega)) ?_ ?_
  ·intro _ hp;refine Ep (WE.bx (Ep (Ep (WE.bx (Ep ?_)))));refine WE.front 5 O ?_;refine WE.front 6 O ?_;refine WE.zg Hn (s0 [_,_] _ [ah b4 (.cells (eG jD lW).toArray 40 (0,0)),ah b5 (.cells #[.int .i64 (fh (gG m fs (p.params++p.ay)) p.body)] 23 (0,0))] O (λw hw=>Md b4 b5 (Dv m uJ z.es.length (z.a,z.c)) O 0 (fh (gG m fs (p.params++p.ay)) p.body) w hw)) (eZ O (cZ 0 O O iJ O) (oV 1 O O O oL)) λw' hw=>?_
   have hE:p3 m fs=fh (gG m fs (p.params++p.ay)) p.body:=by rw [p3,B0 (th m fs) lD Mi (by rw [SC Ht]; exact hp),SC Ht,tg hp]
   rw [SB he wL Mf (by rw [hE]; exact hp),hE];exact ⟨lW,O,hw.fr,BX _⟩
  intro aAx SQ arP ⟨arQ,arR⟩;refine Ln (Eu (U0 O (λ_ h=>(Wv 1 (Wo 4 h):)) (Yb Ho acm O O) ?_));refine Ue O (λ_ h=>(Wv 1 (Wo 4 h):)) ?_ WU.stop;refine Lb Y O acn O O O O λaAy=>?_;refine bL 0 (.cells (XP.cells (zz m fs p,SQ)).toArray 89 (0,0)) O (O) (Ln (Eu ?_));refine Ue O (λ_ h=>(Wv 1 (Wo 4 (Wd 1 h)):)) ?_ WU.stop;refine LA (((zz m fs p,SQ):XP)) 5 0 Y O acn O O O O O O (by omega) (by omega) λa146 c146=>?_;refine Ln (Eu ?_);refine WU.nil (λ_ h=>(Wv 1 (Wo 4 (Wd 1 h)):)) ?_;refine WS.e O ?_;refine V0 (Yf nP O) (Ln (Es ?_));refine WS.e O ?_;refine an 7 Y O O O arw O O O (Ln (Es ?_));refine WS.nil ?_;refine Eb (Et ?_);refine WC.jd λJx jxa jxb jxf=>?_;refine WC.jd λarU arV arW arX=>?_;refine Cr (V0 (Yi O O O (by omega)) (aa O (Ln ?_)));exact Ea (⟨z.i+1,z.es++[(zz m fs p,SQ)],a146,c146,arU,.map (some qG)⟩:GP) (by show _-(z.i+1)<_; omega) ⟨(by show z.i+1<=_; omega),L6 SN lD O,(by show fI (th m fs) (m.procs.take (z.i+1))=0; rw [OI _ lD,Mi,lX,SC Ht,arQ]),⟨arX _ (jxf _ arP arN) acw,Xs.snoc (R:=xH _ _) (λhv h=>xH.mv hv h) hX2 arW (aK.trans jxa arV) arR⟩⟩ (sc O (sc O (sc O (sc O (sc O (sc O (sc O sn))))))) (λ_ h=>by exact (Wt 6 ((((((h.f 8 O).f 8 O).f 8 O).f 8 O).f 8 O).f 6 O):))
 have SR:z.i=m.procs.length:=by simp at bd; omega
 have Mj:=L8 SN SR
 have acB:fI (th m fs) m.procs=0:=by rw [<-Mi,SR,List.take_length]
 have hU:xK m fs=⟨m.nm,m.ag,Jm m,z.es.map (·.1),jX (gG m fs []) m.main⟩:=by rw [Mj]; rfl
 refine Ce (Ex (Ex (bA (Et (ad (aa O ?_))))));refine WL.oY st Y O λarY=>?_;refine V0 (bD O) (V0 (Yf Hi O) (an 1 Y O O O ack O O O (ab (ad (aa O (V0 (Yf Qt O) (V0 (Yd 6 O O O nG) ?_)))))))
 refine WL.xD (ι:=SP) (κ:=Unit) Y O L_ O (λr=>.slice r.1 (jX (gG m fs []) m.main).length r.2) (λF r=>fh (gG m fs []) m.main=0/\Sl (iP (ke+1) (ks+1)) 7 F r.1 r.2 (jX (gG m fs []) m.main)) (λ_=>jw (fh (gG m fs []) m.main)) (λ_=>fh (gG m fs []) m.main≠0) (λw hw=>by
     have hS:wz (hv w) mb (gG m fs []):=⟨⟨uk,wv,g.a,g.c,arY,⟨hw.mq 1 rfl rfl,hw.mq 1 rfl rfl,by show vc (hv w) mb 2=some (.slice g.a (fs.map (·.2)).length g.c); rw [<-Mg,List.length_map]; exact IP (hw.n8 1 rfl) rfl,hw.mq 1 rfl rfl⟩,hw.vs AR (by simp) _ _ h40,hw.n8 2 rfl,by show Sl R8 1 (hv w) g.a g.c (fs.map (·.2)); rw [<-Mg]; exact BY hKF hX λb o e h1 h2=>⟨e.2,(pR (hw.vs KF (by simp))).cell (h1 0 _ rfl),hw.vs g.J (by simp) _ _ h2⟩,hw.n8 0 rfl⟩,Hr,by show m.ag.length=(fs.map (·.2)).length; rw [List.length_map,wL],⟨ho.eA.1,by show (0:Nat)<=7; omega⟩⟩
     exact ab7 (hv w) H mb (gG m fs []) ke hS ks m.main r.a4 r.c4 w (kR w) (hw.vs H (by simp)) hm.main (by omega)) ?_ ?_
 ·intro _ hp;refine Ep ?_;refine WE.front 4 O ?_;refine WE.front 5 O ?_;refine WE.zg Hn (s0 [_,_] _ [ah b4 (.cells (eG jD lW).toArray 40 (0,0)),ah b5 (.cells #[.int .i64 (fh (gG m fs []) m.main)] 23 (0,0))] O (λw hw=>Md b4 b5 (Dv m uJ z.es.length (z.a,z.c)) O 0 (fh (gG m fs []) m.main) w hw)) (eZ O (cZ 0 O O iJ O) (oV 1 O O O oL)) λw' hw=>?_
  have hE:p3 m fs=fh (gG m fs []) m.main:=by rw [p3,acB,lX]
  rw [SB he wL Mf (by rw [hE]; exact hp),hE];exact ⟨lW,O,hw.fr,BX _⟩
 intro aAA Mk arZ ⟨ar0,ar1⟩;refine V0 (Yf Hp O) (an 5 Y O O O So O O O (ab (Cs ?_)));refine WC.o3 (rd:=V') 3 O (λ_ hk=>by cases hk) XP.bq (λ_ _ _ _ h=>h) λKP GZ G0=>?_;refine fg 4 (.cells (eG (xK m fs) ⟨uJ,(z.a,z.c),Mk⟩).toArray 40 (0,0)) O (by rw [hU]; show Obj.cells _ _ _=Obj.cells (eG _ _).toArray _ _; simp only [eG,List.length_map]; rfl) (Cr (V0 (bk 4 O O iJ O) (an 4 Y O O O pI O O O (an 3 Y O O O yt O O O (ab (aA ?_))))));refine WE.front 3 O ?_;refine WE.front 4 O ?_;refine WE.NV Hn (s0 [_,_] _ [ah b4 (.cells (eG (xK m fs) ⟨uJ,(z.a,z.c),Mk⟩).toArray 40 (0,0)),ah b5 (.cells #[.int .i64 0] 23 (0,0))] O (λw hw=>arc b4 b5 (eG (xK m fs) ⟨uJ,(z.a,z.c),Mk⟩) O 0 0 w hw)) (eZ O (cZ 0 O O iJ O) (oV 1 O O O oL)) λw' hw=>?_;rw [arj he wL Mf (by rw [p3,acB,lX,ar0])];exact ⟨⟨uJ,(z.a,z.c),Mk⟩,O,hw.fr,⟨sD Mh (bN hw (by simp) arM),by rw [hU]; exact aht G0 (bN hw (by simp) GZ) (bN hw (by simp) acw) hX2,zy ar1 (bN hw (by simp) arZ)⟩⟩
structure RAt where
 ma:jV
 fa:SP
 oa:SP
 na:SP
structure aAB (HS:View) (m:aD) (fs:List (List UInt8×List aN)) (ns:List (List UInt8)) (q:RAt):Prop where
 ag:Sl rdStr 1 HS q.ma.a1 q.ma.c1 m.ag
 xI:Sl wK 2 HS q.fa.1 q.fa.2 fs
 own:Sl lp 4 HS q.oa.1 q.oa.2 (ft m)
 names:Sl rdStr 1 HS q.na.1 q.na.2 ns
 len:m.ag.length=fs.length
structure GQ where
 i:Nat
 es:List XP
 a:Option Addr
 c:Nat
 J:View
 ns:List (List UInt8)
 na:SP
theorem uK {H N:View} (hv:aK H N) {a:Option Addr} {c:Nat} {l:List aN} (h:Sl lp 4 H a c l):Sl lp 4 N a c l:=h.imp λb o x hx=>ahk hv b o x hx
end Go.Proofs.YtccenighnmfhgaaGreatDoor
end
