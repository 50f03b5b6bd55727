/- WholeShown: how a module is written changes nothing: shown anew, in another order, a program means the same. -/
import Derived.Scope
import Derived.Test.YtgeahfjicmlocaaGreatDoorH6
set_option linter.unusedVariables false
set_option linter.unusedSimpArgs false
set_option linter.defProp false
open _root_ renaming List->I,Nat->Z,Int->ab,Option->az,Bool->aQ,UInt8->a7,Array->bE,Unit->dT,String->bg
open Option renaming some->aa,none->ak
open Bool renaming true->ac,false->au
open Go.Value renaming int->an,slice->aC,agg->bU,bool->bV,pointer->b0,tuple->cN
open Go.IntKind renaming i64->am
open Go.Proofs.Tryz renaming prog->aB
open Go renaming World->aL,Value->aT,Addr->a0,TypeId->b_,Calls->cr,Oper->ay,Act->aN,Exit->aO,Program->aV,Operand->dF,Deferred->e',Edge->fw
open Go.Obj renaming cells->aM
open Or renaming inr->bl,inl->bA
open Go.Ending renaming returned->ax
open List renaming flatMap->c5,replicate->gI,range->j7
open Nat renaming strongRecOn->m1
section
namespace Go.Proofs.YtgeahfjicmlocaaGreatDoor
open Go.Bw Go.Proofs.Tryz
variable {aP:ab} {fo:I ab} {h9 rj:Wm}
def SH {k:Ev}   {i:ab} (h:tu aP k fo h9 = .ok i rj):0<=i/\i<aP:=by
 unfold tu at h;cases a:k fo h9 with
 | ok j s=>
  rw [a] at h;change (if _ then _ else _)=_ at h;split at h;·cases h
  ·rename_i b;simp only [Rz.ok.injEq] at h;obtain ⟨rfl,_⟩:=h;simp at b;omega| ov e s=>rw [a] at h;cases h
variable {ae:Z}
def Fx (h:fo[ae]? = aa aP):xu fo ae=aP:=by unfold xu;rw [h];rfl
def FY:cX aB 180 3=aa 3:=ah
def SI:cX aB 281 2=aa 2:=ah
def ac8 (H:View) (n:Z) (P:KW) (l:I cD) (a5 K C d:Z) (G u:Z) (L:cD) (x:SP) (loc:I ab) (v:ab) (y:e3) (a:az a0) (c k bi:Z) (s:fB) (w:aL) (J:j3 H (bj l a5) (eF l) C s) (aE:iq H n P l a5) (Q:l[u]? = aa L) (hC:yk H n P l a5 K C d) (S:Sl (kQ k) 5 H a c y.args) (cy:lV (ey L::gB l L) loc.length y bi=ac) (t:Ws w (c5 bc.ids<|(ez 180 3 K P (bj l a5) s)++(gY 281 3 G K u x loc v)) ((ez 180 3 K P (bj l a5) s)++(gY 281 3 G K u x loc v)) [H] w) :
   cr aB 276 #[b0 (aa ⟨G,0,ak⟩),bU (oe y a c).toArray] w λe D=>(∃r:ab×fB,e = ax (an am r.1)/\(gb (bj l a5) (dB (bj l a5) d) u y loc s.w = .ok r.1 r.2.w/\j3 H (bj l a5) (eF l) C r.2)/\Ws w (c5 bc.ids<|(ez 180 3 K P (bj l a5) s)++(gY 281 3 G K u x loc v)) ((ez 180 3 K P (bj l a5) r.2)++(gY 281 3 G K u x loc v)) [H] D)\/(∃r:ab×fB,e = .panicked (nH 182 r.1)/\gb (bj l a5) (dB (bj l a5) d) u y loc s.w = .ov r.1 r.2.w/\Ws w (c5 bc.ids<|(ez 180 3 K P (bj l a5) s)++(gY 281 3 G K u x loc v)) (ez 180 3 K P (bj l a5) r.2) [H] D):=by
 have cX:=J.hb;have cY:=zo aE.ok;induction k using m1 generalizing G u L x loc v y a c bi s w;rename_i k cz;have hN:∀A,A<k->FX H n P l a5 K C d A:=λA h G u L x loc v y a c bi s w aJ aW aX cA cB=>cz A h G u L x loc v y a c bi s w aJ aW aX cA cB aJ.hb;have c0:=S.cap;have c1:=S.max;obtain ⟨M,ae⟩:=Vy cy;have aY:=Nq M;have bk:=Vv M;refine enter func276 O 199 O O ?_;refine CE t<|ai ?_;refine WL.box Y O O λc2=>?_;refine ar O<|ag<|Cs<|ai<|V0 (Yf qK O)<|V0 (Yd 0 O O O ah)<|ag<|Cb<|ai<|V0 (bN O O)<|ar O<|ag ?_;refine Cc O (λbx=>?_)<|λbx=>?_
 ·have z:y.op=1:=by simpa using bx
  refine ai<|V0 (Yf oK O)<|V0 (Yd 0 O O O ah)<|ar O<|ag<|bq<|cZ<|Er ?_;refine R1 O O λD t=>?_;have B:gb (bj l a5) (dB (bj l a5) d) u y loc s.w = .ok y.n s.w:=by rw [pO,cR,aU z]
  exact bA ⟨(y.n,s),O,⟨B,J⟩,Wd 1 t⟩
 have M:¬y.op=1:=by simpa using bx
 refine ai<|V0 (bN O O)<|ar O<|ag ?_;refine Cc O (λbz=>?_)<|λbz=>?_
 ·have z:y.op=2:=by simpa using bz
  refine Cs<|ai<|ad O<|V0 (bP O)<|V0 (Yf p7 O)<|V0 (Yd 4 O O O ah)<|V0 (bP O)<|V0 (Yf FY O)<|V0 (Yd 1 O O O ah) ?_;refine V0 (Yn eS O)<|V0 (bN O O)<|ag ?_;refine Cc O (λbm=>?_)<|λbm=>?_
  ·have aK:s.w.bI=[]:=by simpa using bm
   refine ai<|ar O<|ag<|bq<|Er<|cZ<|Er ?_;refine R1 O O λD t=>?_;have B:gb (bj l a5) (dB (bj l a5) d) u y loc s.w = .ok 0 s.w:=by rw [pO,cR,ao M,aU z,aK]
   exact bA ⟨(0,s),O,⟨B,J⟩,Wd 1 t⟩
  obtain ⟨bB,r,aK⟩:∃x r,s.w.bI=x::r:=by cases h:s.w.bI with| nil=>rw [h] at bm;cases bm| cons x r=>exact ⟨x,r,rfl⟩
  obtain ⟨c3,c4,cC,cE⟩:=J.bI.b7 0 bB (by rw [aK];rfl);have c6:s.w.bI.length=r.length+1:=by rw [aK];rfl
  have cF:=J.bI.cap;refine bO<|ai<|ad O<|V0 (bP O)<|V0 (Yf p7 O)<|V0 (Yd 4 O O O ah)<|V0 (bP O)<|V0 (Yf FY O)<|V0 (Yd 1 O O O ah) ?_;refine V0 (Yo (i:=0) eS O O cC (by omega))<|V0 (dQ 0 ah O O<|cE 0 _ O)<|ar O<|ag<|Cs ?_;refine CU (λ_=>ac) [] [14] (.q au 0<|.q au 1<|.q au 2<|.q ac 3<|.q au 4<|.q au 5<|.q au 6<|.q ac 7<|.q au 8<|.q au 9<|.q ac 10<|.q au 11<|.q au 12<|.q au 13 .nil) mixed (by kernel_rfl) (λ_ _ _ d _ _ h=>by cases d<;>exact h) ?_;refine U0 O (λ_ h=>h) (Ym O)<|U0 O (λ_ h=>h) (bP O)<|U0 O (λ_ h=>h) (Yf p7 O)<|U0 O (λ_ h=>h) (Yd 4 O O O ah)<|U0 O (λ_ h=>h) (Ym O)<|U0 O (λ_ h=>h) (bP O)<|U0 O (λ_ h=>h) (Yf p7 O)<|U0 O (λ_ h=>h) (Yd 4 O O O ah) ?_;refine U0 O (λ_ h=>h) (bP O)<|U0 O (λ_ h=>h) (Yf FY O)<|U0 O (λ_ h=>h) (Yd 1 O O O ah)<|U0 O (λ_ h=>h) (AX 1 eS O O O (by omega) cF)<|U0 O (λ_ h=>h) (bP O)<|U0 O (λ_ h=>h) (Yf FY O) ?_;refine WU.nil (λ_ h=>h) ?_;refine WS.e O ?_;refine aq 1 Y O O O cq O O O<|Ln<|Es ?_;refine WS.nil ?_;refine Et<|ai<|ad O<|ar O<|ag<|bq<|cZ<|Er ?_;refine R1 O O λD t=>?_;have B:gb (bj l a5) (dB (bj l a5) d) u y loc s.w = .ok bB { s.w with bI:=r }:=by rw [pO,cR,ao M,aU z,aK]
  have cg:=J.bI.drop 1 (by omega);rw [show s.w.bI.drop 1=r by rw [aK];rfl] at cg;rw [show s.w.bI.length-1=r.length by omega] at t;exact bA ⟨(bB,⟨{ s.w with bI:=r },(_,s.i.2-1),s.o,s.d⟩),O,⟨B,⟨cg,J.out,J.tk,J.hb,J.cl⟩⟩,by have h:=t;have h:=h.av 5 O;have h:=h.av 5 O;have h:=h.av 5 O;have h:=h.av 5 O;have h:=h.av 5 O;have h:=Wt 5 h;exact h⟩
 have T:¬y.op=2:=by simpa using bz
 refine ai<|V0 (bN O O)<|ar O<|ag ?_;refine Cc O (λbC=>?_)<|λbC=>?_
 ·have z:y.op=16:=by simpa using bC
  refine Cs ?_;obtain ⟨c7,c9⟩:=bk.2.2.2 z;obtain ⟨aZ,ch⟩:∃aZ:Z,y.pl=aZ:=⟨y.pl.toNat,by omega⟩;obtain ⟨bD,cj⟩:∃v,loc[aZ]? = aa v:=⟨_,dh (by omega)⟩;refine WC.r9 5 O (by omega) λlb ck c' c_=>?_;refine WC.n6 [(0,ac),(1,ac),(2,ac),(3,ac),(4,ac),(5,ac),(6,ac),(7,ac),(8,ac)] mixed (by kernel_rfl) (λ_ _ _ d _ h=>by cases d<;>exact h) ?_;refine D0 O (λ_ h=>h) (Ym O)<|D0 O (λ_ h=>h) (bP O)<|D0 O (λ_ h=>h) (Yf SI O)<|D0 O (λ_ h=>h) (Yd 4 O O O ah)<|D0 O (λ_ h=>h) (Yf mH O)<|D0 O (λ_ h=>h) (Yd 0 O O O ah) ?_;rw [ch];refine D0 O (λ_ h=>h) (Yo (i:=aZ) eS O O ck (by omega))<|D0 O (λ_ h=>h) (m9 (y:=bD) 5 aZ 0 O O ck O kS cj O ah)<|D0 O (λ_ h=>h) (Ya O) ?_;refine WD.nil (λ_ h=>h) ?_;refine Et<|bq<|cZ<|Er ?_;refine R1 O O λD t=>?_;have B:gb (bj l a5) (dB (bj l a5) d) u y loc s.w = .ok bD s.w:=by rw [pO,cR,ao M,ao T,aU z,ch,m4,Fx cj]
  exact bA ⟨(bD,s),O,⟨B,J⟩,Wd 1 t⟩
 have W:¬y.op=16:=by simpa using bC
 refine ai<|V0 (bN O O)<|ar O<|ag ?_;refine Cc O (λbF=>?_)<|λbF=>?_
 ·have z:y.op=3:=by simpa using bF
  refine Cs ?_;obtain ⟨bG,j,b,p,bH,a1,bJ,bK,cG,cH,bL⟩:=Ei aE.ok a5 Q (bk.1 z) (by decide);have cI:=J.hb;obtain ⟨bM,cm⟩:∃v,s.w.data[b+p]? = aa v:=⟨_,dh (by omega)⟩;refine Cr<|ad O<|V0 (Yf nS O)<|V0 (Yd 0 O O O ah)<|V0 (Yf mH O)<|V0 (Yd 0 O O O ah)<|Lf 4 O<|Lf 4 O ?_;refine Lf 4 O<|Lf 4 O ?_;refine Lw [_,_,_,_] _ Y O bf O O _ _ _ [H] (by simp) (λw t=>FW K P l a5 C H s n G u x loc.length v L bG j b p y.m y.pl w J aE Q bJ bK (by omega) bH a1 t) ?_;intro da cJ;refine V0 (bP O)<|V0 (m9 (y:=bM) 2 (b+p) 0 O O cJ O kS cm O ah)<|ar O<|ag<|bq<|cZ<|Er ?_;refine R1 O O λD t=>?_;have bQ:(bj l a5).at_ u y.m y.pl=b+p:=by rw [a1];exact bL 0
  have B:gb (bj l a5) (dB (bj l a5) d) u y loc s.w = .ok bM s.w:=by rw [pO,cR,ao M,ao T,ao W,aU z,bQ,Fx cm]
  exact bA ⟨(bM,s),O,⟨B,J⟩,by have h:=t;have h:=h.av 5 O;have h:=h.av 4 O;have h:=h.av 4 O;have h:=h.av 4 O;have h:=h.av 4 O;exact Wt 5 h⟩
 have af:¬y.op=3:=by simpa using bF
 refine ai<|V0 (bN O O)<|ar O<|ag ?_;refine Cc O (λbR=>?_)<|λbR=>?_
 ·have z:y.op=4:=by simpa using bR
  refine Cs ?_;have cK:=aY.1<|bA z;obtain ⟨f,F⟩:∃v,y.args[0]? = aa v:=⟨_,dh (by omega)⟩;obtain ⟨bn,bo,aj,N⟩:=S.b7 0 f F;obtain ⟨A,rfl⟩:∃A,k=A+1:=by cases k with| zero=>exact N.elim| succ A=>exact ⟨A,rfl⟩
  obtain ⟨fa,fc,al,ap⟩:=N;have R:=hN A (by omega);have aw:=dR ae F;obtain ⟨⟨db,dc⟩,cL⟩:=bk.2.1 z;obtain ⟨bG,j,b,p,bH,a1,bJ,bK,cG,cH,bL⟩:=Ei aE.ok a5 Q cL (by omega);refine CU (λ_=>ac) [1,1,1,1,1] [] (.q au 0<|.q au 1<|.q ac 2<|.q au 3<|.q ac 4<|.q au 5<|.q au 6<|.q ac 7<|.q au 8<|.q ac 9<|.q au 10<|.q ac 11<|.e 12 (.q au 13<|.e 14 (.q au 15<|.e 16 (.q au 17 .nil) .stop) .stop) .stop) mixed (by kernel_rfl) (λ_ _ _ d _ _ h=>by cases d<;>exact h) ?_;refine U0 O (λ_ h=>by exact (Wo 1<|Wo 1<|Wo 1<|Wo 1<|Wo 1 h:)) (Ym O)<|U0 O (λ_ h=>by exact (Wo 1<|Wo 1<|Wo 1<|Wo 1<|Wo 1 h:)) (Yf nS O)<|U0 O (λ_ h=>by exact (Wo 1<|Wo 1<|Wo 1<|Wo 1<|Wo 1 h:)) (Yd 0 O O O ah)<|U0 O (λ_ h=>by exact (Wo 1<|Wo 1<|Wo 1<|Wo 1<|Wo 1 h:)) (Yf mH O)<|U0 O (λ_ h=>by exact (Wo 1<|Wo 1<|Wo 1<|Wo 1<|Wo 1 h:)) (Yd 0 O O O ah)<|U0 O (λ_ h=>by exact (Wo 1<|Wo 1<|Wo 1<|Wo 1<|Wo 1 h:)) (Ym O)<|U0 O (λ_ h=>by exact (Wo 1<|Wo 1<|Wo 1<|Wo 1<|Wo 1 h:)) (Yf mX O)<|U0 O (λ_ h=>by exact (Wo 1<|Wo 1<|Wo 1<|Wo 1<|Wo 1 h:)) (Yd 0 O O O ah) ?_;refine U0 O (λ_ h=>by exact (Wo 1<|Wo 1<|Wo 1<|Wo 1<|Wo 1 h:)) (Yo (i:=0) ij O O aj (by omega))<|U0 O (λ_ h=>by exact (Wo 1<|Wo 1<|Wo 1<|Wo 1<|Wo 1 h:)) (dG 0 h3 O O O<|al)<|U0 O (λ_ h=>by exact (Wo 1<|Wo 1<|Wo 1<|Wo 1<|Wo 1 h:)) (Yf oK O)<|U0 O (λ_ h=>by exact (Wo 1<|Wo 1<|Wo 1<|Wo 1<|Wo 1 h:)) (Yd 0 O O O ah) ?_;refine Ue O (λ_ h=>by exact (Wo 1<|Wo 1<|Wo 1<|Wo 1<|Wo 1 h:)) ?_ WU.stop;refine Lf 5 O<|Lf 5 O<|Lf 5 O<|Lf 5 O<|Lf 5 O ?_;refine hR [_,_,_,_,_] _ Y O bf O O _ _ _ _ _ _ [H] (by simp) (λw t=>SG H n P l a5 K C d G u L x loc v f y.n fa fc A _ s w J aE Q R ap aw t) ?_ ?_
  ·intro X bp;refine Ep<|Ep<|WE.aF<|Ep ?_;refine b3 λD t=>?_;have B:gb (bj l a5) (dB (bj l a5) d) u y loc s.w=(tu y.n (gb (bj l a5) (dB (bj l a5) d) u f) loc s.w).bind λi w=>.ok (xu w.data<|(bj l a5).at_ u y.m<|y.pl+i) w:=by rw [pO,cR,ao M,ao T,ao W,ao af,aU z,nG F]
   exact bl ⟨X,O,B.trans<|jM bp,by have h:=t;have h:=Wt 3 h;exact h⟩
  intro X ⟨bp,bS⟩;have dd:0<=X.1/\X.1<y.n:=SH bp;obtain ⟨aA,cn⟩:∃aA:Z,X.1=aA:=⟨X.1.toNat,by omega⟩;have cI:=bS.hb;obtain ⟨co,cp⟩:∃v,X.2.w.data[b+(p+aA)]? = aa v:=⟨_,dh (by omega)⟩;refine Ln<|Eu<|U0 O (λ_ h=>by exact (Wo 1<|Wo 1<|Wo 1<|Wo 1<|Wo 1<|h.f 5 O:)) (n7 (a:=p) (b:=aA) O O a1 cn (by omega)) ?_;refine Ue O (λ_ h=>by exact (Wo 1<|Wo 1<|Wo 1<|Wo 1<|Wo 1<|h.f 5 O:)) ?_ WU.stop;refine Lw [_,_,_,_] _ Y O bf O O _ _ _ [H] (by simp) (λw t=>FW K P l a5 C H X.2 n G u x loc.length v L bG j b (p+aA) y.m _ w bS aE Q bJ bK (by omega) bH O t) ?_;intro de cM;refine Ln<|Eu<|U0 O (λ_ h=>by exact (Wo 1<|Wo 1<|Wo 1<|Wo 1<|Wo 1<|h.f 5 O:)) (bP O) ?_;refine Ue O (λ_ h=>by exact (Wo 1<|Wo 1<|Wo 1<|Wo 1<|Wo 1<|h.f 5 O:)) ?_ WU.stop;refine V0 (m9 (y:=co) 2 (b+(p+aA)) 0 O O cM O kS cp O ah)<|Ln<|Eu<|U0 O (λ_ h=>by exact (Wo 1<|Wo 1<|Wo 1<|Wo 1<|Wo 1<|h.f 5 O:)) (Ya O) ?_;refine WU.nil (λ_ h=>by exact (Wo 1<|Wo 1<|Wo 1<|Wo 1<|Wo 1<|h.f 5 O:)) ?_;refine WS.nil ?_;refine Et<|bq<|cZ<|Er ?_;refine R1 O O λD t=>?_;have bQ:(bj l a5).at_ u y.m (y.pl+X.1)=b+(p+aA):=by rw [a1,cn];exact bL aA
  have B:gb (bj l a5) (dB (bj l a5) d) u y loc s.w=(tu y.n (gb (bj l a5) (dB (bj l a5) d) u f) loc s.w).bind λi w=>.ok (xu w.data<|(bj l a5).at_ u y.m<|y.pl+i) w:=by rw [pO,cR,ao M,ao T,ao W,ao af,aU z,nG F]
  exact bA ⟨(co,X.2),O,⟨(B.trans<|gO bp).trans (by rw [bQ,Fx cp]),bS⟩,Wt 5 t⟩
 have aG:¬y.op=4:=by simpa using bR
 refine ai<|V0 (bN O O)<|ar O<|ag ?_;refine Cc O (λbT=>?_)<|λbT=>?_
 ·have z:y.op=5:=by simpa using bT
  refine ai<|ad O<|V0 (Yf nS O)<|V0 (Yd 0 O O O ah)<|V0 (Yf mH O)<|V0 (Yd 0 O O O ah)<|V0 (Yf mX O)<|V0 (Yd 0 O O O ah) ?_;refine Lf 5 O<|Lf 5 O<|Lf 5 O<|Lf 5 O<|Lf 5 O ?_;refine hR [_,_,_,_,_] _ Y O bf O O _ _ _ _ _ _ [H] (by simp) (λw t=>R7 H n P l a5 K C d G u L x loc v y.m y.pl y.args a c k _ s w J aE Q hN hC (bk.2.2.1 z) S ae t) ?_ ?_
  ·intro bW bX;refine Ep<|WE.aF<|Ep ?_;refine b3 λD t=>?_;have B:gb (bj l a5) (dB (bj l a5) d) u y loc s.w=q8 (bj l a5) (dB (bj l a5) d) u y.m y.pl (iH (bj l a5) (dB (bj l a5) d) u y.args) loc s.w:=by rw [pO,cR,ao M,ao T,ao W,ao af,ao aG,aU z]
   exact bl ⟨bW,O,B.trans bX,by have h:=t;have h:=Wt 3 h;exact h⟩
  intro bW ⟨bX,cO⟩;refine ar O<|ag<|bq<|cZ<|Er ?_;refine R1 O O λD t=>?_;have B:gb (bj l a5) (dB (bj l a5) d) u y loc s.w=q8 (bj l a5) (dB (bj l a5) d) u y.m y.pl (iH (bj l a5) (dB (bj l a5) d) u y.args) loc s.w:=by rw [pO,cR,ao M,ao T,ao W,ao af,ao aG,aU z]
  exact bA ⟨bW,O,⟨B.trans bX,cO⟩,Wt 5 t⟩
 have a2:¬y.op=5:=by simpa using bT
 refine ai<|V0 (bN O O)<|ar O<|ag ?_;refine Cc O (λbY=>?_)<|λbY=>?_
 ·have z:y.op=6:=by simpa using bY
  refine Cs ?_;have cK:=aY.1<|bl z;obtain ⟨f,F⟩:∃v,y.args[0]? = aa v:=⟨_,dh (by omega)⟩;obtain ⟨bn,bo,aj,N⟩:=S.b7 0 f F;obtain ⟨A,rfl⟩:∃A,k=A+1:=by cases k with| zero=>exact N.elim| succ A=>exact ⟨A,rfl⟩
  obtain ⟨fa,fc,al,ap⟩:=N;have R:=hN A (by omega);have aw:=dR ae F;refine Cr<|ad O<|V0 (Yf mX O)<|V0 (Yd 0 O O O ah)<|V0 (Yo (i:=0) ij O O aj (by omega))<|V0 (dG 0 h3 O O O<|al)<|Lf 5 O<|Lf 5 O ?_;refine Lf 5 O<|Lf 5 O<|Lf 5 O ?_;refine hR [_,_,_,_,_] _ Y O bf O O _ _ _ _ _ _ [H] (by simp) (λw t=>R G u L x loc v f fa fc _ s w J Q ap aw t) ?_ ?_
  ·intro br bZ;refine Ep<|WE.aF<|Ep ?_;refine b3 λD t=>?_;have B:gb (bj l a5) (dB (bj l a5) d) u y loc s.w=(gb (bj l a5) (dB (bj l a5) d) u f loc s.w).bind λv w=>.ok (o'<|v==0) w:=by rw [pO,cR,ao M,ao T,ao W,ao af,ao aG,ao a2,aU z,nG F]
   exact bl ⟨br,O,B.trans<|jM bZ,by have h:=t;have h:=Wt 3 h;exact h⟩
  intro br ⟨bZ,cQ⟩;refine V0 (bN O O)<|Lp Y O bf O (λw t=>yj _ w)<|ar O<|ag<|bq<|cZ<|Er ?_;refine R1 O O λD t=>?_;have B:gb (bj l a5) (dB (bj l a5) d) u y loc s.w=(gb (bj l a5) (dB (bj l a5) d) u f loc s.w).bind λv w=>.ok (o'<|v==0) w:=by rw [pO,cR,ao M,ao T,ao W,ao af,ao aG,ao a2,aU z,nG F]
  exact bA ⟨(o'<|br.1==0,br.2),O,⟨B.trans<|gO bZ,cQ⟩,Wt 5 t⟩
 have b1:¬y.op=6:=by simpa using bY
 refine ai<|V0 (bN O O)<|ar O<|ag ?_;refine Cc O (λb2=>?_)<|λb2=>?_
 ·have z:y.op=7:=by simpa using b2
  refine Cs ?_;have cs:=aY.2.1 (by omega);obtain ⟨f,F⟩:∃v,y.args[0]? = aa v:=⟨_,dh (by omega)⟩;obtain ⟨bn,bo,aj,N⟩:=S.b7 0 f F;obtain ⟨g,U⟩:∃v,y.args[1]? = aa v:=⟨_,dh (by omega)⟩;obtain ⟨ct,cu,a3,a4⟩:=S.b7 1 g U;obtain ⟨A,rfl⟩:∃A,k=A+1:=by cases k with| zero=>exact N.elim| succ A=>exact ⟨A,rfl⟩
  obtain ⟨fa,fc,al,ap⟩:=N;have R:=hN A (by omega);have aw:=dR ae F;obtain ⟨a6,a8,a9,a'⟩:=a4;have a_:=dR ae U;have B:gb (bj l a5) (dB (bj l a5) d) u y loc s.w=(gb (bj l a5) (dB (bj l a5) d) u f loc s.w).bind λv w=>if v=0 then .ok 0 w else (gb (bj l a5) (dB (bj l a5) d) u g loc w).bind λv w=>.ok (o'<|!(v==0)) w:=by rw [pO,cR,ao M,ao T,ao W,ao af,ao aG,ao a2,ao b1,aU z,nG F,nG U]
  refine Cr<|ad O<|V0 (Yf mX O)<|V0 (Yd 0 O O O ah)<|V0 (Yo (i:=0) ij O O aj (by omega))<|V0 (dG 0 h3 O O O<|al)<|Lf 5 O<|Lf 5 O ?_;refine Lf 5 O<|Lf 5 O<|Lf 5 O ?_;refine hR [_,_,_,_,_] _ Y O bf O O _ _ _ _ _ _ [H] (by simp) (λw t=>R G u L x loc v f fa fc _ s w J Q ap aw t) ?_ ?_;·intro ba bb;refine Ep<|WE.aF<|Ep ?_;refine b3 λD t=>?_;exact bl ⟨ba,O,B.trans<|jM bb,by have h:=t;have h:=Wt 3 h;exact h⟩
  intro ba ⟨bb,cv⟩;refine V0 (g2 O O)<|ad O ?_;rcases G3 (ba.1 != 0) with aP | aP
  ·rw [aP];refine Vg (Ym O)<|Vg (Yf mX O)<|Vg (Yd 5 O O O ah)<|Vg (Yo (i:=1) ij O O a3 (by omega))<|Vg (dG 0 h3 O O O<|a9) ?_;refine hR [_,_,_,_,_] _ (.g O O O) O bf O O _ _ _ _ _ _ [H] (by simp) (λw t=>R G u L x loc v g a6 a8 _ ba.2 w cv Q a' a_ t) ?_ ?_;·intro bs b4;refine Ep<|WE.aF<|Ep ?_;refine b3 λD t=>?_;exact bl ⟨bs,O,(B.trans<|gO bb).trans<|(ao (by simpa using aP)).trans<|jM b4,by have h:=t;have h:=Wt 3 h;exact h⟩
   intro bs ⟨b4,cS⟩;refine Vg (g2 O O)<|V0 (Li O O)<|Lp Y O bf O (λw t=>yj _ w)<|ar O<|ag<|bq<|cZ<|Er ?_;refine R1 O O λD t=>?_;exact bA ⟨(o'<|bs.1 != 0,bs.2),O,⟨(B.trans<|gO bb).trans<|(ao (by simpa using aP)).trans<|gO b4,cS⟩,Wt 5 t⟩
  rw [aP];refine WL.skip O O O O O ?_;refine WL.skip O O O O O ?_;refine WL.skip O O O O O ?_;refine WL.skip O O O O O ?_;refine WL.skip O O O O O ?_;refine WL.skip O O O O O ?_;refine WL.skip O O O O O ?_;refine V0 (Lj O O)<|Lp Y O bf O (λw t=>yj _ w)<|ar O<|ag<|bq<|cZ<|Er ?_;refine R1 O O λD t=>?_;exact bA ⟨(0,ba.2),O,⟨(B.trans<|gO bb).trans<|aU (by simpa using aP),cv⟩,Wt 5 t⟩
 have cw:¬y.op=7:=by simpa using b2
 refine ai<|V0 (bN O O)<|ar O<|ag ?_;refine Cc O (λb5=>?_)<|λb5=>?_
 ·have z:y.op=8:=by simpa using b5
  refine Cs ?_;have cs:=aY.2.1 (by omega);obtain ⟨f,F⟩:∃v,y.args[0]? = aa v:=⟨_,dh (by omega)⟩;obtain ⟨bn,bo,aj,N⟩:=S.b7 0 f F;obtain ⟨g,U⟩:∃v,y.args[1]? = aa v:=⟨_,dh (by omega)⟩;obtain ⟨ct,cu,a3,a4⟩:=S.b7 1 g U;obtain ⟨A,rfl⟩:∃A,k=A+1:=by cases k with| zero=>exact N.elim| succ A=>exact ⟨A,rfl⟩
  obtain ⟨fa,fc,al,ap⟩:=N;have R:=hN A (by omega);have aw:=dR ae F;obtain ⟨a6,a8,a9,a'⟩:=a4;have a_:=dR ae U;have B:gb (bj l a5) (dB (bj l a5) d) u y loc s.w=(gb (bj l a5) (dB (bj l a5) d) u f loc s.w).bind λv w=>if v=0 then (gb (bj l a5) (dB (bj l a5) d) u g loc w).bind λv w=>.ok (o'<|!(v==0)) w else .ok 1 w:=by rw [pO,cR,ao M,ao T,ao W,ao af,ao aG,ao a2,ao b1,ao cw,aU z,nG F,nG U]
  refine Cr<|ad O<|V0 (Yf mX O)<|V0 (Yd 0 O O O ah)<|V0 (Yo (i:=0) ij O O aj (by omega))<|V0 (dG 0 h3 O O O<|al)<|Lf 5 O<|Lf 5 O ?_;refine Lf 5 O<|Lf 5 O<|Lf 5 O ?_;refine hR [_,_,_,_,_] _ Y O bf O O _ _ _ _ _ _ [H] (by simp) (λw t=>R G u L x loc v f fa fc _ s w J Q ap aw t) ?_ ?_;·intro bd be;refine Ep<|WE.aF<|Ep ?_;refine b3 λD t=>?_;exact bl ⟨bd,O,B.trans<|jM be,by have h:=t;have h:=Wt 3 h;exact h⟩
  intro bd ⟨be,cx⟩;refine V0 (g2 O O)<|ad O ?_;rcases G3 (bd.1 != 0) with aR | aR;·rw [aR];refine WL.skip O O O O O ?_;refine WL.skip O O O O O ?_;refine WL.skip O O O O O ?_;refine WL.skip O O O O O ?_;refine WL.skip O O O O O ?_;refine WL.skip O O O O O ?_;refine WL.skip O O O O O ?_;refine V0 (Li O O)<|Lp Y O bf O (λw t=>yj _ w)<|ar O<|ag<|bq<|cZ<|Er ?_;refine R1 O O λD t=>?_;exact bA ⟨(1,bd.2),O,⟨(B.trans<|gO be).trans<|ao (by simpa using aR),cx⟩,Wt 5 t⟩
  rw [aR];refine Vg (Ym O)<|Vg (Yf mX O)<|Vg (Yd 5 O O O ah)<|Vg (Yo (i:=1) ij O O a3 (by omega))<|Vg (dG 0 h3 O O O<|a9) ?_;refine hR [_,_,_,_,_] _ (.g O O O) O bf O O _ _ _ _ _ _ [H] (by simp) (λw t=>R G u L x loc v g a6 a8 _ bd.2 w cx Q a' a_ t) ?_ ?_;·intro bt b6;refine Ep<|WE.aF<|Ep ?_;refine b3 λD t=>?_;exact bl ⟨bt,O,(B.trans<|gO be).trans<|(aU (by simpa using aR)).trans<|jM b6,by have h:=t;have h:=Wt 3 h;exact h⟩
  intro bt ⟨b6,cT⟩;refine Vg (g2 O O)<|V0 (Lj O O)<|Lp Y O bf O (λw t=>yj _ w)<|ar O<|ag<|bq<|cZ<|Er ?_;refine R1 O O λD t=>?_;exact bA ⟨(o'<|bt.1 != 0,bt.2),O,⟨(B.trans<|gO be).trans<|(aU (by simpa using aR)).trans<|gO b6,cT⟩,Wt 5 t⟩
 have cU:¬y.op=8:=by simpa using b5
 refine Ck<|Eb<|Et<|Cs ?_;have df:9<=y.op:=by omega
 have cs:=aY.2.1 (by omega);obtain ⟨f,F⟩:∃v,y.args[0]? = aa v:=⟨_,dh (by omega)⟩;obtain ⟨bn,bo,aj,N⟩:=S.b7 0 f F;obtain ⟨g,U⟩:∃v,y.args[1]? = aa v:=⟨_,dh (by omega)⟩;obtain ⟨ct,cu,a3,a4⟩:=S.b7 1 g U;obtain ⟨A,rfl⟩:∃A,k=A+1:=by cases k with| zero=>exact N.elim| succ A=>exact ⟨A,rfl⟩
 obtain ⟨fa,fc,al,ap⟩:=N;have R:=hN A (by omega);have aw:=dR ae F;obtain ⟨a6,a8,a9,a'⟩:=a4;have a_:=dR ae U;have B:gb (bj l a5) (dB (bj l a5) d) u y loc s.w=(gb (bj l a5) (dB (bj l a5) d) u f loc s.w).bind λa w=>(gb (bj l a5) (dB (bj l a5) d) u g loc w).bind λb w=>qv y.op a b w:=by rw [pO,cR,ao M,ao T,ao W,ao af,ao aG,ao a2,ao b1,ao cw,ao cU,nG F,nG U]
 refine Cr<|ad O<|V0 (Yf mX O)<|V0 (Yd 0 O O O ah)<|V0 (Yo (i:=0) ij O O aj (by omega))<|V0 (dG 0 h3 O O O<|al)<|Lf 5 O<|Lf 5 O ?_;refine Lf 5 O<|Lf 5 O<|Lf 5 O ?_;refine hR [_,_,_,_,_] _ Y O bf O O _ _ _ _ _ _ [H] (by simp) (λw t=>R G u L x loc v f fa fc _ s w J Q ap aw t) ?_ ?_;·intro V bu;refine Ep ?_;refine b3 λD t=>?_;exact bl ⟨V,O,B.trans<|jM bu,by have h:=t;have h:=Wt 3 h;exact h⟩
 intro V ⟨bu,cV⟩;refine ar O<|ag<|ai<|ad O<|V0 (Yf mX O)<|V0 (Yd 5 O O O ah)<|V0 (Yo (i:=1) ij O O a3 (by omega))<|V0 (dG 0 h3 O O O<|a9) ?_;refine hR [_,_,_,_,_] _ Y O bf O O _ _ _ _ _ _ [H] (by simp) (λw t=>R G u L x loc v g a6 a8 _ V.2 w cV Q a' a_ t) ?_ ?_;·intro E b8;refine Ep ?_;refine b3 λD t=>?_;exact bl ⟨E,O,B.trans<|(gO bu).trans<|jM b8,by have h:=t;have h:=Wt 3 h;exact h⟩
 intro E ⟨b8,aH⟩;refine ar O<|ag<|Cs<|Cs ?_;have aD:gb (bj l a5) (dB (bj l a5) d) u y loc s.w=qv y.op V.1 E.1 E.2.w:=B.trans<|(gO bu).trans<|gO b8;refine Cr<|V0 (Yf qK O)<|V0 (Yd 5 O O O ah)<|ag<|Cb<|ai<|V0 (bN O O)<|ar O<|ag ?_;refine Cc O (λb9=>?_)<|λb9=>?_
 ·have z:y.op=9:=by simpa using b9
  refine ai<|ad O<|ad O<|V0 (s_ O O)<|ar O<|ag<|bq<|cZ<|Er ?_;refine R1 O O λD t=>?_;exact bA ⟨(am.wrap<|V.1+E.1,E.2),O,⟨aD.trans (by rw [qv,aU z]),aH⟩,Wt 5 t⟩
 have aI:¬y.op=9:=by simpa using b9
 refine ai<|V0 (bN O O)<|ar O<|ag ?_;refine Cc O (λb'=>?_)<|λb'=>?_
 ·have z:y.op=10:=by simpa using b'
  refine ai<|ad O<|ad O<|V0 (Dg O O)<|ar O<|ag<|bq<|cZ<|Er ?_;refine R1 O O λD t=>?_;exact bA ⟨(am.wrap<|V.1-E.1,E.2),O,⟨aD.trans (by rw [qv,ao aI,aU z]),aH⟩,Wt 5 t⟩
 have aS:¬y.op=10:=by simpa using b'
 refine ai<|V0 (bN O O)<|ar O<|ag ?_;refine Cc O (λca=>?_)<|λca=>?_
 ·have z:y.op=11:=by simpa using ca
  refine ai<|ad O<|ad O<|V0 (Lk O O)<|ar O<|ag<|bq<|cZ<|Er ?_;refine R1 O O λD t=>?_;exact bA ⟨(am.wrap<|V.1*E.1,E.2),O,⟨aD.trans (by rw [qv,ao aI,ao aS,aU z]),aH⟩,Wt 5 t⟩
 have bh:¬y.op=11:=by simpa using ca
 refine ai<|V0 (bN O O)<|ar O<|ag ?_;refine Cc O (λcb=>?_)<|λcb=>?_
 ·have z:y.op=14:=by simpa using cb
  refine ai<|ad O<|ad O<|V0 (bN O O)<|Lp Y O bf O (λw t=>yj _ w)<|ar O<|ag<|bq<|cZ<|Er ?_;refine R1 O O λD t=>?_;exact bA ⟨(o'<|V.1==E.1,E.2),O,⟨aD.trans (by rw [qv,ao aI,ao aS,ao bh,aU z]),aH⟩,Wt 5 t⟩
 have bv:¬y.op=14:=by simpa using cb
 refine ai<|V0 (bN O O)<|ar O<|ag ?_;refine Cc O (λcc=>?_)<|λcc=>?_
 ·have z:y.op=15:=by simpa using cc
  refine ai<|ad O<|ad O<|V0 (cP O O)<|Lp Y O bf O (λw t=>yj _ w)<|ar O<|ag<|bq<|cZ<|Er ?_;refine R1 O O λD t=>?_;exact bA ⟨(o'<|decide<|V.1<E.1,E.2),O,⟨aD.trans (by rw [qv,ao aI,ao aS,ao bh,ao bv,aU z]),aH⟩,Wt 5 t⟩
 have cd:¬y.op=15:=by simpa using cc
 refine Ck<|Eb<|Et<|ai<|ad O<|V0 (bN O O) ?_;refine hR (ι:=dT) (κ:=dT) [] _ Y O bf O O (λ_=>cN #[]) (λ_=>[]) (λ_=>(E.1==0)=au) (λ_=>nH 182 1) (λ_=>[]) (λ_=>(E.1==0)=ac) [] (by simp) (λw t=>(CG _ 1 w).mono λe D h=>by
  rcases h with ⟨_,aJ,aW,aX⟩ | ⟨_,aJ,aW,aX⟩;·exact bA ⟨(),aJ,aW,t.ext aX⟩
  ·exact bl ⟨(),aJ,aW,t.ext aX⟩) ?_ ?_;·intro _ ce;refine Ep ?_;refine b3 λD t=>?_;exact bl ⟨(1,E.2),O,aD.trans (by rw [qv,ao aI,ao aS,ao bh,ao bv,ao cd,aU (by simpa using ce)]),by have h:=t;have h:=Wt 3 h;exact h⟩
 intro _ ce;refine ag<|Cs<|Cs ?_;have bw:¬E.1=0:=by simpa using ce
 refine Cr<|V0 (Yf qK O)<|V0 (Yd 5 O O O ah)<|V0 (bN O O)<|ag ?_;refine Cc O (λcf=>?_)<|λcf=>?_
 ·have z:y.op=12:=by simpa using cf
  refine ai<|ad O<|ad O<|V0 (H5 O O bw)<|ar O<|ag<|bq<|Er ?_;refine R1 O O λD t=>?_;exact bA ⟨(am.wrap<|V.1.tdiv E.1,E.2),O,⟨aD.trans (by rw [qv,ao aI,ao aS,ao bh,ao bv,ao cd,ao bw,aU z]),aH⟩,Wt 5 t⟩
 have cW:¬y.op=12:=by simpa using cf
 refine bO<|ai<|ad O<|ad O<|V0 (LB O O bw)<|ar O<|ag<|bq ?_;refine R1 O O λD t=>?_;exact bA ⟨(V.1.tmod E.1,E.2),O,⟨aD.trans (by rw [qv,ao aI,ao aS,ao bh,ao bv,ao cd,ao bw,ao cW]),aH⟩,Wt 5 t⟩
def SJ (H:View) (n:Z) (f:KW) (l:I cD) (a5 b C d:Z) (j k:Z):Prop:=∀(g u:Z) (h:cD) (x:SP) (loc:I ab) (v:ab) (body:I ep) (a:az a0) (c m:Z) (s:fB) (w:aL),j3 H (bj l a5) (eF l) C s->l[u]? = aa h->Sl (jd j k) 7 H a c body->je (ey h::gB l h) loc.length body m=ac->Ws w (c5 bc.ids<|(ez 180 3 b f (bj l a5) s)++(gY 281 3 g b u x loc v)) ((ez 180 3 b f (bj l a5) s)++(gY 281 3 g b u x loc v)) [H] w-> cr aB 164 #[b0 (aa ⟨g,0,ak⟩),aC a body.length c] w λe i=>(∃r:aQ×fB×I ab×ab,e = ax (bV r.1)/\(jr (bj l a5) (dB (bj l a5) d) u body (⟨loc,v,s.w⟩:Fm) = .ok r.1 ⟨r.2.2.1,r.2.2.2,r.2.1.w⟩/\j3 H (bj l a5) (eF l) C r.2.1/\r.2.2.1.length=loc.length)/\Ws w (c5 bc.ids<|(ez 180 3 b f (bj l a5) s)++(gY 281 3 g b u x loc v)) ((ez 180 3 b f (bj l a5) r.2.1)++(gY 281 3 g b u x r.2.2.1 r.2.2.2)) [H] i)\/(∃r:ab×fB,e = .panicked (nH 182 r.1)/\jr (bj l a5) (dB (bj l a5) d) u body (⟨loc,v,s.w⟩:Fm) = .ov r.1 r.2.w/\Ws w (c5 bc.ids<|(ez 180 3 b f (bj l a5) s)++(gY 281 3 g b u x loc v)) (ez 180 3 b f (bj l a5) r.2) [H] i)
def ac9 (H:View) (n:Z) (b:KW) (l:I cD) (a5 e C d:Z) (f:iq H n b l a5) (hC:yk H n b l a5 e C d) (k:Z):FX H n b l a5 e C d k:=λg u h x loc v y a c i s w j m o p q=>ac8 H n b l a5 e C d g u h x loc v y a c k i s w j f m hC o p q
variable {hB:Env} {yl:Fm->Rz Fm ab} {CH:Fm->Rz Fm aQ} {ly tC:Fm}
def ac' (a:yl ly = .ok aP tC) (hv:aP=0):qw hB yl CH (ae+1) ly = .ok au tC:=by unfold qw;rw [gO a];exact aU hv
def ac_ (a:yl ly = .ov aP h9):qw hB yl CH (ae+1) ly = .ov aP h9:=by unfold qw;rw [jM a]
def SK {f a:Fm}  (b:yl f = .ok aP a) (hv:¬aP=0):qw hB yl CH (ae+1) f=(Rz.fr a<|nc hB a.w).bind λ_ f=>(CH f).bind λt f=>if t=ac then .ok ac f else qw hB yl CH ae f:=by rw [qw,gO b];exact ao hv
def ada {x:dT} (h:nc hB h9 = .ok x rj):rj.bY=h9.bY+1:=by
 unfold nc at h;split at h;·cases h
 ·simp only [Rz.ok.injEq] at h;rw [<-h.2]
variable {aH:Z} {gA:I ep}
def adb {t:aQ} (h:jr hB (dB hB ae) aH gA ly = .ok t tC):ly.w.bY<=tC.w.bY:=by have a:=Bm (P:=hB) (Ig ae) aH gA ly;rw [h] at a;exact a.1.bY
def adc {x:e3}    (h:gb hB (dB hB ae) aH x fo h9 = .ok aP rj):h9.bY<=rj.bY:=by have a:=ND (P:=hB) (Ig ae) aH x fo h9;rw [h] at a;exact a.bY
variable {h0:Cl}
def Kx {y:ep} (f:Fm) (h:gA[aH]? = aa y):jr hB h0 ae (gA.drop aH) f=(o_ hB h0 ae y f).bind λt f=>if t=ac then .ok ac f else jr hB h0 ae (gA.drop<|aH+1) f:=by obtain ⟨a,b⟩:=c_.1 h;rw [nZ a,b,jr]
def ade (f:Fm) (h:gA.length<=aH):jr hB h0 ae (gA.drop aH) f = .ok au f:=by rw [wX h,jr]
def SL:cX aB 281 3=aa 3:=ah
def adf (H:View) (n:Z) (G:KW) (l:I cD) (a5 A C d:Z) (F u:Z) (P:cD) (x:SP) (loc:I ab) (v:ab) (y:ep) (r:vJ) (M k ch:Z) (s:fB) (w:aL) (al:j3 H (bj l a5) (eF l) C s) (af:iq H n G l a5) (Q:l[u]? = aa P) (hC:yk H n G l a5 A C d) (bs:SJ H n G l a5 A C d M k) (ae:Sl (kQ M) 5 H r.s1.1 r.s1.2 y.args) (aK:Sl (jd M k) 7 H r.s2.1 r.s2.2 y.body) (aX:Sl (jd M k) 7 H r.s3.1 r.s3.2 y.other) (cj:mm (ey P::gB l P) loc.length y ch=ac) (c:Ws w (c5 bc.ids<|(ez 180 3 A G (bj l a5) s)++(gY 281 3 F A u x loc v)) ((ez 180 3 A G (bj l a5) s)++(gY 281 3 F A u x loc v)) [H] w) :
   cr aB 236 #[b0 (aa ⟨F,0,ak⟩),bU (qs y r).toArray] w λe D=>(∃r:aQ×fB×I ab×ab,e = ax (bV r.1)/\(o_ (bj l a5) (dB (bj l a5) d) u y (⟨loc,v,s.w⟩:Fm) = .ok r.1 ⟨r.2.2.1,r.2.2.2,r.2.1.w⟩/\j3 H (bj l a5) (eF l) C r.2.1/\r.2.2.1.length=loc.length)/\Ws w (c5 bc.ids<|(ez 180 3 A G (bj l a5) s)++(gY 281 3 F A u x loc v)) ((ez 180 3 A G (bj l a5) r.2.1)++(gY 281 3 F A u x r.2.2.1 r.2.2.2)) [H] D)\/(∃r:ab×fB,e = .panicked (nH 182 r.1)/\o_ (bj l a5) (dB (bj l a5) d) u y (⟨loc,v,s.w⟩:Fm) = .ov r.1 r.2.w/\Ws w (c5 bc.ids<|(ez 180 3 A G (bj l a5) s)++(gY 281 3 F A u x loc v)) (ez 180 3 A G (bj l a5) r.2) [H] D):=by
 have c1:=zo af.ok;have c2:=al.hb;have hN:=ac9 H n G l a5 A C d af hC;have c3:=ae.cap;have c4:=ae.max;obtain ⟨aj,ap,b8,ck⟩:=VA cj;have aE:=Nr aj;have bd:=Vx aj;have c6:=aE.2.2;refine enter func236 O 157 O O ?_;refine CE c<|ai ?_;refine WL.box Y O O λcm=>?_;refine ar O<|ag<|Cs<|Cs<|gL 0 (aM (qs y r).toArray 51 (0,0)) O O<|Cr<|V0 (Yf Cq O)<|V0 (Yd 0 O O O ah)<|ag<|Cb<|ai<|V0 (bN O O) ?_;refine ar O<|ag ?_;refine Cc O (λbt=>?_)<|λbt=>?_
 ·have L:y.op=1:=by simpa using bt
  refine Cs ?_;have be:=aE.1 (by omega);obtain ⟨f,K⟩:∃v,y.args[0]? = aa v:=⟨_,dh (by omega)⟩;obtain ⟨aY,aZ,T,N⟩:=ae.b7 0 f K;obtain ⟨z,rfl⟩:∃z,M=z+1:=by cases M with| zero=>exact N.elim| succ z=>exact ⟨z,rfl⟩
  obtain ⟨fa,fc,U,V⟩:=N;have S:=hN z;have W:=dR ap K;have B:o_ (bj l a5) (dB (bj l a5) d) u y (⟨loc,v,s.w⟩:Fm)=(Rz.fr (⟨loc,v,s.w⟩:Fm)<|gb (bj l a5) (dB (bj l a5) d) u f loc s.w).bind λv q=>if y.m<0 then .ok au { q with loc:=q.loc.set y.pl.toNat v } else .ok au { q with w:={ q.w with data:=q.w.data.set ((bj l a5).at_ u y.m y.pl) v } }:=by rw [xv,sk,aU L,nG K]
  refine Cr<|ad O<|V0 (Yf mY O)<|V0 (Yd 0 O O O ah)<|V0 (Yo (i:=0) ij O O T (by omega))<|V0 (dG 0 h3 O O O<|U)<|Lf 5 O<|Lf 5 O ?_;refine Lf 5 O<|Lf 5 O<|Lf 5 O ?_;refine hR [_,_,_,_,_] _ Y O bf O O _ _ _ _ _ _ [H] (by simp) (λw c=>S F u P x loc v f fa fc _ s w al Q V W c) ?_ ?_;·intro E bh;refine Ep<|WE.aF<|Ep ?_;refine b3 λD c=>?_;exact bl ⟨E,O,B.trans<|jM<|sv bh,by have h:=c;have h:=Wt 3 h;exact h⟩
  intro E ⟨bh,aw⟩;refine ar O<|ag<|ai<|V0 (Yf nT O)<|V0 (Yd 5 O O O ah)<|V0 (cP O O)<|ag ?_;refine Cc O (λbu=>?_)<|λbu=>?_
  ·have a1:y.m<0:=by simpa using bu
   obtain ⟨c7,c9⟩:=(bd.1 L).1 a1;obtain ⟨aG,b9⟩:∃aG:Z,y.pl=aG:=⟨y.pl.toNat,by omega⟩;obtain ⟨cn,co⟩:∃v,loc[aG]? = aa v:=⟨_,dh (by omega)⟩;refine WC.r9 4 O (by omega) λlb b' c' c_=>?_;refine CU (λ_=>ac) [] [8] (.q au 0<|.q au 1<|.q au 2<|.q ac 3<|.q au 4<|.q ac 5<|.q au 6<|.q au 7 .nil) mixed (by kernel_rfl) (λ_ _ _ d _ _ h=>by cases d<;>exact h) ?_;refine U0 O (λ_ h=>h) (Ym O)<|U0 O (λ_ h=>h) (bP O)<|U0 O (λ_ h=>h) (Yf SI O)<|U0 O (λ_ h=>h) (Yd 3 O O O ah)<|U0 O (λ_ h=>h) (Yf oL O)<|U0 O (λ_ h=>h) (Yd 5 O O O ah) ?_;rw [b9];refine U0 O (λ_ h=>h) (Ym O)<|U0 O (λ_ h=>h) (Yo (i:=aG) eS O O b' (by omega)) ?_;refine WU.nil (λ_ h=>h) ?_;refine WS.e O ?_;refine WL.storeT (y:=cn) 4 aG 0 E.1 Y O O O b' O kS co ei O O (by decide) O ?_;refine Ln<|Es ?_;refine WS.nil ?_;refine Eb<|Et<|ai<|ar O<|ag<|bq ?_;refine R1 O O λD c=>?_;have a2:=(by have h:=c;have h:=Wt 5 h;exact h);have a2:=a2.oW 3 rfl (show aJ F (vY 281 A u x loc.length v)=aJ F (vY 281 A u x (loc.set aG E.1).length v) by simp);exact bA ⟨(au,E.2,loc.set aG E.1,v),O,⟨B.trans<|(gO<|mr bh).trans<|(aU a1).trans (by rw [b9,m4]),aw,by simp⟩,a2⟩
  have a1:¬y.m<0:=by simpa using bu
  obtain ⟨bv,j,b,p,bw,a3,bx,bz,cp,cs,bB⟩:=Ei af.ok a5 Q ((bd.1 L).2 a1) (by decide);have ct:=aw.hb;obtain ⟨cu,cv⟩:∃v,E.2.w.data[b+p]? = aa v:=⟨_,dh (by omega)⟩;refine Cr<|ad O<|V0 (Yf nT O)<|V0 (Yd 5 O O O ah)<|V0 (Yf oL O)<|V0 (Yd 5 O O O ah) ?_;refine Lw [_,_,_,_] _ Y O bf O O _ _ _ [H] (by simp) (λw c=>FW A G l a5 C H E.2 n F u x loc.length v P bv j b p y.m y.pl w aw af Q bx bz (by omega) bw a3 c) ?_;intro da cw;refine ad O<|V0 (bP O) ?_;refine WL.storeT (y:=cu) 2 (b+p) 0 E.1 Y O O O cw O kS cv ei O O (by decide) O ?_;refine Ln<|Eb<|Et<|ai<|ar O<|ag<|bq ?_;refine R1 O O λD c=>?_;have c:Ws w (c5 bc.ids<|(ez 180 3 A G (bj l a5) s)++(gY 281 3 F A u x loc v)) ((ez 180 3 A G (bj l a5) (⟨{ E.2.w with data:=E.2.w.data.set (b+p) E.1 },E.2.i,E.2.o,E.2.d⟩:fB))++(gY 281 3 F A u x loc v)) [H] D:=by have h:=(by have h:=c;have h:=Wt 5 h;exact h);exact h.oW 0 O (show aJ A (ng 180 G (bj l a5) E.2)=aJ A (ng 180 G (bj l a5) (⟨{ E.2.w with data:=E.2.w.data.set (b+p) E.1 },E.2.i,E.2.o,E.2.d⟩:fB)) by simp [ng])
  have bC:(bj l a5).at_ u y.m y.pl=b+p:=by rw [a3];exact bB 0
  exact bA ⟨(au,⟨{ E.2.w with data:=E.2.w.data.set (b+p) E.1 },E.2.i,E.2.o,E.2.d⟩,loc,v),O,⟨B.trans<|(gO<|mr bh).trans<|(ao a1).trans (by rw [bC]),⟨aw.bI,aw.out,aw.tk,by show (I.set _ _ _).length=_;rw [Gm];exact aw.hb,aw.cl⟩,O⟩,c⟩
 have aj:¬y.op=1:=by simpa using bt
 refine ai<|V0 (bN O O)<|ar O<|ag ?_;refine Cc O (λbD=>?_)<|λbD=>?_
 ·have L:y.op=2:=by simpa using bD
  refine Cs ?_;have bi:=aE.2.1 L;obtain ⟨f,K⟩:∃v,y.args[0]? = aa v:=⟨_,dh (by omega)⟩;obtain ⟨aY,aZ,T,N⟩:=ae.b7 0 f K;obtain ⟨g,bF⟩:∃v,y.args[1]? = aa v:=⟨_,dh (by omega)⟩;obtain ⟨db,dc,cx,cy⟩:=ae.b7 1 g bF;obtain ⟨z,rfl⟩:∃z,M=z+1:=by cases M with| zero=>exact N.elim| succ z=>exact ⟨z,rfl⟩
  obtain ⟨fa,fc,U,V⟩:=N;have S:=hN z;have W:=dR ap K;obtain ⟨cz,cA,cB,cC⟩:=cy;have cE:=dR ap bF;obtain ⟨⟨dd,de⟩,cF⟩:=bd.2.1 L;obtain ⟨bv,j,b,p,bw,a3,bx,bz,cp,cs,bB⟩:=Ei af.ok a5 Q cF (by omega);have B:o_ (bj l a5) (dB (bj l a5) d) u y (⟨loc,v,s.w⟩:Fm)=(Rz.fr (⟨loc,v,s.w⟩:Fm)<|tu y.n (gb (bj l a5) (dB (bj l a5) d) u f) loc s.w).bind λi q=>(Rz.fr q<|gb (bj l a5) (dB (bj l a5) d) u g q.loc q.w).bind λv q=>.ok au { q with w:={ q.w with data:=q.w.data.set ((bj l a5).at_ u y.m<|y.pl+i) v } }:=by rw [xv,sk,ao aj,aU L,nG K,nG bF]
  refine CU (λ_=>ac) [1,1,1,1,1] [] (.q au 0<|.q au 1<|.q ac 2<|.q au 3<|.q ac 4<|.q au 5<|.q ac 6<|.e 7 (.q au 8 .nil) .stop) mixed (by kernel_rfl) (λ_ _ _ d _ _ h=>by cases d<;>exact h) ?_;refine U0 O (λ_ h=>by exact (Wo 1<|Wo 1<|Wo 1<|Wo 1<|Wo 1 h:)) (Ym O)<|U0 O (λ_ h=>by exact (Wo 1<|Wo 1<|Wo 1<|Wo 1<|Wo 1 h:)) (Yf mY O)<|U0 O (λ_ h=>by exact (Wo 1<|Wo 1<|Wo 1<|Wo 1<|Wo 1 h:)) (Yd 0 O O O ah)<|U0 O (λ_ h=>by exact (Wo 1<|Wo 1<|Wo 1<|Wo 1<|Wo 1 h:)) (Yo (i:=0) ij O O T (by omega))<|U0 O (λ_ h=>by exact (Wo 1<|Wo 1<|Wo 1<|Wo 1<|Wo 1 h:)) (dG 0 h3 O O O<|U)<|U0 O (λ_ h=>by exact (Wo 1<|Wo 1<|Wo 1<|Wo 1<|Wo 1 h:)) (Yf wA O)<|U0 O (λ_ h=>by exact (Wo 1<|Wo 1<|Wo 1<|Wo 1<|Wo 1 h:)) (Yd 0 O O O ah) ?_;refine Ue O (λ_ h=>by exact (Wo 1<|Wo 1<|Wo 1<|Wo 1<|Wo 1 h:)) ?_ WU.stop;refine Lf 5 O<|Lf 5 O<|Lf 5 O<|Lf 5 O<|Lf 5 O ?_;refine hR [_,_,_,_,_] _ Y O bf O O _ _ _ _ _ _ [H] (by simp) (λw c=>SG H n G l a5 A C d F u P x loc v f y.n fa fc z _ s w al af Q S V W c) ?_ ?_;·intro aA a4;refine Ep<|Ep<|WE.aF<|Ep ?_;refine b3 λD c=>?_;exact bl ⟨aA,O,B.trans<|jM<|sv a4,by have h:=c;have h:=Wt 3 h;exact h⟩
  intro aA ⟨a4,cG⟩;refine Ln<|Eu<|U0 O (λ_ h=>by exact (Wo 1<|Wo 1<|Wo 1<|Wo 1<|Wo 1<|h.f 5 O:)) (Ya O) ?_;refine WU.nil (λ_ h=>by exact (Wo 1<|Wo 1<|Wo 1<|Wo 1<|Wo 1<|h.f 5 O:)) ?_;refine WS.nil ?_;refine Et<|ai<|ad O<|V0 (Yf mY O)<|V0 (Yd 5 O O O ah)<|V0 (Yo (i:=1) ij O O cx (by omega))<|V0 (dG 0 h3 O O O<|cB) ?_;refine hR [_,_,_,_,_] _ Y O bf O O _ _ _ _ _ _ [H] (by simp) (λw c=>S F u P x loc v g cz cA _ aA.2 w cG Q cC cE c) ?_ ?_;·intro J bG;refine Ep<|WE.aF<|Ep ?_;refine b3 λD c=>?_;exact bl ⟨J,O,B.trans<|(gO<|mr a4).trans<|jM<|sv bG,by have h:=c;have h:=Wt 3 h;exact h⟩
  intro J ⟨bG,aH⟩;refine ar O<|ag ?_;have df:0<=aA.1/\aA.1<y.n:=SH a4;obtain ⟨X,ca⟩:∃X:Z,aA.1=X:=⟨aA.1.toNat,by omega⟩;have ct:=aH.hb;obtain ⟨cH,cI⟩:∃v,J.2.w.data[b+(p+X)]? = aa v:=⟨_,dh (by omega)⟩;refine Cr<|ad O<|V0 (Yf nT O)<|V0 (Yd 5 O O O ah)<|V0 (Yf oL O)<|V0 (Yd 5 O O O ah)<|ad O<|V0 (n7 (a:=p) (b:=X) O O a3 ca (by omega)) ?_;refine Lw [_,_,_,_] _ Y O bf O O _ _ _ [H] (by simp) (λw c=>FW A G l a5 C H J.2 n F u x loc.length v P bv j b (p+X) y.m _ w aH af Q bx bz (by omega) bw O c) ?_;intro dg cJ;refine ad O<|V0 (bP O) ?_;refine WL.storeT (y:=cH) 2 (b+(p+X)) 0 J.1 Y O O O cJ O kS cI ei O O (by decide) O ?_;refine Ln<|Eb<|Et<|ai<|ar O<|ag<|bq ?_;refine R1 O O λD c=>?_;have c:Ws w (c5 bc.ids<|(ez 180 3 A G (bj l a5) s)++(gY 281 3 F A u x loc v)) ((ez 180 3 A G (bj l a5) (⟨{ J.2.w with data:=J.2.w.data.set (b+(p+X)) J.1 },J.2.i,J.2.o,J.2.d⟩:fB))++(gY 281 3 F A u x loc v)) [H] D:=by have h:=(by have h:=c;have h:=Wt 5 h;exact h);exact h.oW 0 O (show aJ A (ng 180 G (bj l a5) J.2)=aJ A (ng 180 G (bj l a5) (⟨{ J.2.w with data:=J.2.w.data.set (b+(p+X)) J.1 },J.2.i,J.2.o,J.2.d⟩:fB)) by simp [ng])
  have bC:(bj l a5).at_ u y.m (y.pl+aA.1)=b+(p+X):=by rw [a3,ca];exact bB X
  exact bA ⟨(au,⟨{ J.2.w with data:=J.2.w.data.set (b+(p+X)) J.1 },J.2.i,J.2.o,J.2.d⟩,loc,v),O,⟨B.trans<|(gO<|mr a4).trans<|(gO<|mr bG).trans (by rw [bC]),⟨aH.bI,aH.out,aH.tk,by show (I.set _ _ _).length=_;rw [Gm];exact aH.hb,aH.cl⟩,O⟩,c⟩
 have a6:¬y.op=2:=by simpa using bD
 refine ai<|V0 (bN O O)<|ar O<|ag ?_;refine Cc O (λbH=>?_)<|λbH=>?_
 ·have L:y.op=3:=by simpa using bH
  have B:o_ (bj l a5) (dB (bj l a5) d) u y (⟨loc,v,s.w⟩:Fm)=(Rz.fr (⟨loc,v,s.w⟩:Fm)<|q8 (bj l a5) (dB (bj l a5) d) u y.m y.pl (iH (bj l a5) (dB (bj l a5) d) u y.args) loc s.w).bind λ_ q=>.ok au q:=by rw [xv,sk,ao aj,ao a6,aU L]
  refine Cr<|ad O<|V0 (Yf nT O)<|V0 (Yd 0 O O O ah)<|V0 (Yf oL O)<|V0 (Yd 0 O O O ah)<|V0 (Yf mY O)<|V0 (Yd 0 O O O ah) ?_;refine Lf 5 O<|Lf 5 O<|Lf 5 O<|Lf 5 O<|Lf 5 O ?_;refine hR [_,_,_,_,_] _ Y O bf O O _ _ _ _ _ _ [H] (by simp) (λw c=>R7 H n G l a5 A C d F u P x loc v y.m y.pl y.args r.s1.1 r.s1.2 M _ s w al af Q (λz _=>hN z) hC (bd.2.2 L) ae ap c) ?_ ?_;·intro bJ bK;refine WE.aF<|Ep ?_;refine b3 λD c=>?_;exact bl ⟨bJ,O,B.trans<|jM<|sv bK,by have h:=c;have h:=Wt 3 h;exact h⟩
  intro bJ ⟨bK,cK⟩;refine Ln<|Eb<|Et<|ai<|ar O<|ag<|bq ?_;refine R1 O O λD c=>?_;exact bA ⟨(au,bJ.2,loc,v),O,⟨B.trans<|gO<|mr bK,cK,O⟩,Wt 5 c⟩
 have bk:¬y.op=3:=by simpa using bH
 refine ai<|V0 (bN O O)<|ar O<|ag ?_;refine Cc O (λbL=>?_)<|λbL=>?_
 ·have L:y.op=4:=by simpa using bL
  refine Cs<|Cs ?_;have be:=aE.1 (by omega);obtain ⟨f,K⟩:∃v,y.args[0]? = aa v:=⟨_,dh (by omega)⟩;obtain ⟨aY,aZ,T,N⟩:=ae.b7 0 f K;obtain ⟨z,rfl⟩:∃z,M=z+1:=by cases M with| zero=>exact N.elim| succ z=>exact ⟨z,rfl⟩
  obtain ⟨fa,fc,U,V⟩:=N;have S:=hN z;have W:=dR ap K;have B:o_ (bj l a5) (dB (bj l a5) d) u y (⟨loc,v,s.w⟩:Fm)=(Rz.fr (⟨loc,v,s.w⟩:Fm)<|gb (bj l a5) (dB (bj l a5) d) u f loc s.w).bind λv q=>if v=0 then jr (bj l a5) (dB (bj l a5) d) u y.other q else jr (bj l a5) (dB (bj l a5) d) u y.body q:=by rw [xv,sk,ao aj,ao a6,ao bk,aU L,nG K]
  refine Cr<|ad O<|V0 (Yf mY O)<|V0 (Yd 0 O O O ah)<|V0 (Yo (i:=0) ij O O T (by omega))<|V0 (dG 0 h3 O O O<|U)<|Lf 5 O<|Lf 5 O ?_;refine Lf 5 O<|Lf 5 O<|Lf 5 O ?_;refine hR [_,_,_,_,_] _ Y O bf O O _ _ _ _ _ _ [H] (by simp) (λw c=>S F u P x loc v f fa fc _ s w al Q V W c) ?_ ?_;·intro aP aR;refine Ep<|Ep<|WE.aF<|Ep ?_;refine b3 λD c=>?_;exact bl ⟨aP,O,B.trans<|jM<|sv aR,by have h:=c;have h:=Wt 3 h;exact h⟩
  intro aP ⟨aR,cb⟩;refine V0 (g2 O O)<|ag ?_;refine Cc O (λbM=>?_)<|λbM=>?_
  ·have a8:¬aP.1=0:=by simpa using bM
   refine ai<|ad O<|V0 (Yf yc O)<|V0 (Yd 5 O O O ah) ?_;refine hR [_,_,_,_,_] _ Y O bf O O _ _ _ _ _ _ [H] (by simp) (λw c=>bs F u P x loc v y.body r.s2.1 r.s2.2 _ aP.2 w cb Q aK (b8 (by omega)) c) ?_ ?_;·intro bQ bR;refine Ep<|Ep<|WE.aF<|Ep ?_;refine b3 λD c=>?_;exact bl ⟨bQ,O,B.trans<|(gO<|mr aR).trans<|(ao a8).trans bR,by have h:=c;have h:=Wt 3 h;exact h⟩
   intro bQ ⟨bR,cL,cM⟩;refine ar O<|ag<|bq<|Er<|cZ<|Er ?_;refine R1 O O λD c=>?_;exact bA ⟨bQ,O,⟨B.trans<|(gO<|mr aR).trans<|(ao a8).trans bR,cL,cM⟩,Wt 5 c⟩
  have a8:aP.1=0:=by simpa using bM
  refine bO<|ai<|ad O<|V0 (Yf wB O)<|V0 (Yd 5 O O O ah) ?_;refine hR [_,_,_,_,_] _ Y O bf O O _ _ _ _ _ _ [H] (by simp) (λw c=>bs F u P x loc v y.other r.s3.1 r.s3.2 _ aP.2 w cb Q aX ck c) ?_ ?_;·intro bS bT;refine Ep<|WE.aF<|Ep ?_;refine b3 λD c=>?_;exact bl ⟨bS,O,B.trans<|(gO<|mr aR).trans<|(aU a8).trans bT,by have h:=c;have h:=Wt 3 h;exact h⟩
  intro bS ⟨bT,cO,cQ⟩;refine ar O<|ag<|bq<|cZ<|Er ?_;refine R1 O O λD c=>?_;exact bA ⟨bS,O,⟨B.trans<|(gO<|mr aR).trans<|(aU a8).trans bT,cO,cQ⟩,Wt 5 c⟩
 have bW:¬y.op=4:=by simpa using bL
 refine ai<|V0 (bN O O)<|ar O<|ag ?_;refine Cc O (λbX=>?_)<|λbX=>?_
 ·have L:y.op=5:=by simpa using bX
  have be:=aE.1 (by omega);obtain ⟨f,K⟩:∃v,y.args[0]? = aa v:=⟨_,dh (by omega)⟩;obtain ⟨aY,aZ,T,N⟩:=ae.b7 0 f K;obtain ⟨z,rfl⟩:∃z,M=z+1:=by cases M with| zero=>exact N.elim| succ z=>exact ⟨z,rfl⟩
  obtain ⟨fa,fc,U,V⟩:=N;have S:=hN z;have W:=dR ap K;have B:o_ (bj l a5) (dB (bj l a5) d) u y (⟨loc,v,s.w⟩:Fm)=qw (bj l a5) (λq=>Rz.fr q<|gb (bj l a5) (dB (bj l a5) d) u f q.loc q.w) (λq=>jr (bj l a5) (dB (bj l a5) d) u y.body q) ((bj l a5).a5+1) (⟨loc,v,s.w⟩:Fm):=by rw [xv,sk,ao aj,ao a6,ao bk,ao bW,aU L,nG K]
  refine Cb ?_;refine dZ (ι:=fB×(I ab×ab)×Z) (λt=>[]) [(0,_),(3,_)] (λt=>Ws w (c5 bc.ids<|(ez 180 3 A G (bj l a5) s)++(gY 281 3 F A u x loc v)) ((ez 180 3 A G (bj l a5) t.1)++(gY 281 3 F A u x t.2.1.1 t.2.1.2)++[aJ cm<|aM (qs y r).toArray 51 (0,0)]) [H]) (λt=>j3 H (bj l a5) (eF l) C t.1/\t.2.1.1.length=loc.length/\a5+1<=t.2.2+t.1.w.bY/\qw (bj l a5) (λq=>Rz.fr q<|gb (bj l a5) (dB (bj l a5) d) u f q.loc q.w) (λq=>jr (bj l a5) (dB (bj l a5) d) u y.body q) (a5+1) (⟨loc,v,s.w⟩:Fm)=qw (bj l a5) (λq=>Rz.fr q<|gb (bj l a5) (dB (bj l a5) d) u f q.loc q.w) (λq=>jr (bj l a5) (dB (bj l a5) d) u y.body q) t.2.2 (⟨t.2.1.1,t.2.1.2,t.1.w⟩:Fm)) (λt=>t.2.2) (s,(loc,v),a5+1) ⟨al,O,C1 _ _,O⟩ (λ_ h=>by exact (((((h.f 5 O).f 5 O).f 5 O).f 5 O).f 5 O:)) ?_;intro t ⟨cc,a9,di,a'⟩;refine Cs<|Cs ?_;obtain ⟨a_,cR⟩:∃a_,t.2.2=a_+1:=⟨t.2.2-1,by have a2:t.1.w.bY<=a5:=cc.tk;omega⟩;rw [cR] at a';refine Cr<|ad O<|V0 (Yf mY O)<|V0 (Yd 5 O O O ah)<|V0 (Yo (i:=0) ij O O T (by omega))<|V0 (dG 0 h3 O O O<|U) ?_;refine hR (ι:=_) (κ:=_) [_,_,_,_,_] _ Y O bf O O _ _ _ _ _ _ [H] (by simp) (λw c=>S F u P x t.2.1.1 t.2.1.2 f fa fc _ t.1 w cc Q V (by rw [a9];exact W) c) ?_ ?_;·intro aI aS;refine Ep<|Ep<|Ep<|WE.aF<|WE.aF<|Ep ?_;refine b3 λD c=>?_;exact bl ⟨aI,O,B.trans<|a'.trans<|ac_<|sv aS,by have h:=c;have h:=Wt 3 h;exact h⟩
  intro aI ⟨aS,cd⟩;refine V0 (g2 O O)<|ag ?_;refine Cc O (λbZ=>?_)<|λbZ=>?_
  ·have bm:¬aI.1=0:=by simpa using bZ
   have bi:=a'.trans<|SK (mr aS) bm;refine bO<|Cb<|ai<|ad O<|V0 (bP O)<|V0 (Yf p7 O)<|V0 (Yd 3 O O O ah) ?_;refine hR [_,_,_] _ Y O bf O O _ _ _ _ _ _ [H] (by simp) (λw c=>SD A G l a5 C H aI.2 w cd af.a5 c) ?_ ?_;·intro bn aW;refine Ep<|WE.aF<|Ep<|WE.aF<|WE.aF<|Ep ?_;refine b3 λD c=>?_;exact bl ⟨bn,O,B.trans<|bi.trans<|jM<|sv aW,by have h:=c;have h:=Wt 3 h;exact h⟩
   intro bn ⟨aW,cS⟩;refine ag<|ai<|ad O<|V0 (Yf yc O)<|V0 (Yd 5 O O O ah) ?_;refine hR (ι:=_) (κ:=_) [_,_,_,_,_] _ Y O bf O O _ _ _ _ _ _ [H] (by simp) (λw c=>bs F u P x t.2.1.1 t.2.1.2 y.body r.s2.1 r.s2.2 _ bn.2 w cS Q aK (by rw [a9];exact b8 (by omega)) c) ?_ ?_;·intro aD ba;refine Ep<|WE.aF<|Ep<|WE.aF<|WE.aF<|Ep ?_;refine b3 λD c=>?_;exact bl ⟨aD,O,B.trans<|bi.trans<|(gO<|mr aW).trans<|jM ba,by have h:=c;have h:=Wt 3 h;exact h⟩
   intro aD ⟨ba,ce,cf⟩;refine ag ?_;refine Cc O (λb1=>?_)<|λb1=>?_;·refine ai<|ar O<|ag<|bq<|cZ<|Er<|cZ<|cZ<|Er ?_;refine R1 O O λD c=>?_;have cT:aD.1=ac:=b1;exact bA ⟨(ac,aD.2),O,⟨B.trans<|bi.trans<|(gO<|mr aW).trans<|(gO ba).trans<|aU cT,ce,cf.trans a9⟩,Wt 5 c⟩
   refine Ck<|Eb ?_;exact cU ((aD.2.1,aD.2.2,a_):fB×(I ab×ab)×Z) (by show a_<_;omega) ⟨ce,cf.trans a9,by have a2:=ada aW;have dj:t.1.w.bY<=aI.2.w.bY:=adc aS;have dk:bn.2.w.bY<=aD.2.1.w.bY:=adb ba;show a5+1<=a_+aD.2.1.w.bY;omega,a'.trans<|(SK (mr aS) bm).trans<|(gO<|mr aW).trans<|(gO ba).trans<|ao (by rw [b1];simp)⟩<|λ_ h=>h
  have bm:aI.1=0:=by simpa using bZ
  refine Ce<|Ex<|Ex<|dy<|Eb<|Et<|ai<|ar O<|ag<|bq ?_;refine R1 O O λD c=>?_;exact bA ⟨(au,aI.2,t.2.1.1,t.2.1.2),O,⟨B.trans<|a'.trans<|ac' (mr aS) bm,cd,a9⟩,Wt 5 c⟩
 have cg:¬y.op=5:=by simpa using bX
 refine ai<|V0 (bN O O)<|ar O<|ag ?_;refine Cc O (λb2=>?_)<|λb2=>?_
 ·have L:y.op=6:=by simpa using b2
  refine Cs ?_;have be:=aE.1 (by omega);obtain ⟨f,K⟩:∃v,y.args[0]? = aa v:=⟨_,dh (by omega)⟩;obtain ⟨aY,aZ,T,N⟩:=ae.b7 0 f K;obtain ⟨z,rfl⟩:∃z,M=z+1:=by cases M with| zero=>exact N.elim| succ z=>exact ⟨z,rfl⟩
  obtain ⟨fa,fc,U,V⟩:=N;have S:=hN z;have W:=dR ap K;have B:o_ (bj l a5) (dB (bj l a5) d) u y (⟨loc,v,s.w⟩:Fm)=(Rz.fr (⟨loc,v,s.w⟩:Fm)<|gb (bj l a5) (dB (bj l a5) d) u f loc s.w).bind λv q=>.ok ac { q with val:=v }:=by rw [xv,sk,ao aj,ao a6,ao bk,ao bW,ao cg,aU L,nG K]
  refine Cr<|ad O<|ad O<|V0 (Yf mY O)<|V0 (Yd 0 O O O ah)<|V0 (Yo (i:=0) ij O O T (by omega))<|V0 (dG 0 h3 O O O<|U)<|Lf 5 O ?_;refine Lf 5 O<|Lf 5 O<|Lf 5 O<|Lf 5 O ?_;refine hR [_,_,_,_,_] _ Y O bf O O _ _ _ _ _ _ [H] (by simp) (λw c=>S F u P x loc v f fa fc _ s w al Q V W c) ?_ ?_;·intro bo b4;refine Ep<|WE.aF<|Ep ?_;refine b3 λD c=>?_;exact bl ⟨bo,O,B.trans<|jM<|sv b4,by have h:=c;have h:=Wt 3 h;exact h⟩
  intro bo ⟨b4,cV⟩;refine V0 (bP O)<|V0 (Yf SL O)<|aq 3 Y O O O ei O O O<|ag<|ai<|ar O<|ag<|bq<|cZ<|Er ?_;refine R1 O O λD c=>?_;exact bA ⟨(ac,bo.2,loc,bo.1),O,⟨B.trans<|gO<|mr b4,cV,O⟩,Wt 5 c⟩
 have cW:¬y.op=6:=by simpa using b2
 refine ai<|V0 (bN O O)<|ar O<|ag ?_;refine Cc O (λb5=>?_)<|λb5=>?_
 ·have L:y.op=7:=by simpa using b5
  refine Cs ?_;have be:=aE.1 (by omega);obtain ⟨f,K⟩:∃v,y.args[0]? = aa v:=⟨_,dh (by omega)⟩;obtain ⟨aY,aZ,T,N⟩:=ae.b7 0 f K;obtain ⟨z,rfl⟩:∃z,M=z+1:=by cases M with| zero=>exact N.elim| succ z=>exact ⟨z,rfl⟩
  obtain ⟨fa,fc,U,V⟩:=N;have S:=hN z;have W:=dR ap K;have B:o_ (bj l a5) (dB (bj l a5) d) u y (⟨loc,v,s.w⟩:Fm)=(Rz.fr (⟨loc,v,s.w⟩:Fm)<|gb (bj l a5) (dB (bj l a5) d) u f loc s.w).bind λv q=>(Rz.fr q<|Eg v q.w).bind λ_ q=>.ok au q:=by rw [xv,sk,ao aj,ao a6,ao bk,ao bW,ao cg,ao cW,aU L,nG K]
  refine Cr<|ad O<|V0 (Yf mY O)<|V0 (Yd 0 O O O ah)<|V0 (Yo (i:=0) ij O O T (by omega))<|V0 (dG 0 h3 O O O<|U)<|Lf 5 O<|Lf 5 O ?_;refine Lf 5 O<|Lf 5 O<|Lf 5 O ?_;refine hR [_,_,_,_,_] _ Y O bf O O _ _ _ _ _ _ [H] (by simp) (λw c=>S F u P x loc v f fa fc _ s w al Q V W c) ?_ ?_;·intro R bp;refine Ep<|WE.aF<|Ep ?_;refine b3 λD c=>?_;exact bl ⟨R,O,B.trans<|jM<|sv bp,by have h:=c;have h:=Wt 3 h;exact h⟩
  intro R ⟨bp,bb⟩;refine ar O<|ag<|ai<|ad O<|V0 (bP O)<|V0 (Yf p7 O)<|V0 (Yd 3 O O O ah)<|V0 (bP O)<|V0 (Yf s5 O) ?_;refine V0 (Yf lv O)<|V0 (Yd 0 O O O ah)<|V0 (Yn eS O)<|V0 (bN O O) ?_;refine hR (ι:=dT) (κ:=dT) [] _ Y O bf O O (λ_=>cN #[]) (λ_=>[]) (λ_=>(((R.2.w.out.length:Z):ab)==200)=au) (λ_=>nH 182 5) (λ_=>[]) (λ_=>(((R.2.w.out.length:Z):ab)==200)=ac) [] (by simp) (λw c=>(CG _ 5 w).mono λe D h=>by
   rcases h with ⟨_,b6,aK,aX⟩ | ⟨_,b6,aK,aX⟩;·exact bA ⟨(),b6,aK,c.ext aX⟩
   ·exact bl ⟨(),b6,aK,c.ext aX⟩) ?_ ?_;·intro _ br;refine Ep<|WE.aF<|Ep ?_;refine b3 λD c=>?_;exact bl ⟨(5,R.2),O,B.trans<|(gO<|mr bp).trans<|jM<|sv<|aU (show R.2.w.out.length=200 from by have h:=br;simp at h;omega),by have h:=c;have h:=Wt 3 h;exact h⟩
  intro _ br;refine ag ?_;have cX:¬R.2.w.out.length=200:=by intro h;rw [h] at br;simp at br
  have dl:=bb.out;refine CU (λ_=>ac) [1] [18] (.q au 0<|.q au 1<|.q au 2<|.q ac 3<|.q au 4<|.q au 5<|.q au 6<|.q ac 7<|.q au 8<|.q au 9<|.q au 10<|.q ac 11<|.q au 12<|.e 13 (.e 14 (.q au 15<|.q au 16<|.q au 17 .nil) .stop) .stop) mixed (by kernel_rfl) (λ_ _ _ d _ _ h=>by cases d<;>exact h) ?_;refine U0 O (Wp 1) (Ym O)<|U0 O (Wp 1) (bP O)<|U0 O (Wp 1) (Yf p7 O)<|U0 O (Wp 1) (Yd 2 O O O ah)<|U0 O (Wp 1) (Ym O)<|U0 O (Wp 1) (bP O)<|U0 O (Wp 1) (Yf p7 O)<|U0 O (Wp 1) (Yd 2 O O O ah) ?_;refine U0 O (Wp 1) (bP O)<|U0 O (Wp 1) (Yf s5 O)<|U0 O (Wp 1) (Yf lv O)<|U0 O (Wp 1) (Yd 0 O O O ah)<|U0 O (Wp 1) (Ym O) ?_;refine Ue O (Wp 1) ?_ WU.stop;refine Lb Y O fY O O O O λdm=>?_;refine Ln<|Eu ?_;refine Ue O (λ_ h=>(Wo 1<|Wd 1 h:)) ?_ WU.stop;refine LA (R.1) 2 0 Y O fY O O O O O O (by omega) (by omega) λcY c0=>?_;refine Ln<|Eu<|U0 O (λ_ h=>(Wo 1<|Wd 1 h:)) (bP O)<|U0 O (λ_ h=>(Wo 1<|Wd 1 h:)) (Yf s5 O)<|U0 O (λ_ h=>(Wo 1<|Wd 1 h:)) (Yf lv O) ?_;refine WU.nil (λ_ h=>(Wo 1<|Wd 1 h:)) ?_;refine WS.e O ?_;refine aq 1 Y O O O cq O O O<|Ln<|Es ?_;refine WS.nil ?_;refine Eb<|Et<|ai<|ar O<|ag<|bq ?_;refine R1 O O λD c=>?_;exact bA ⟨(au,⟨{ R.2.w with out:=R.2.w.out++[R.1] },R.2.i,(cY,c0),R.2.d⟩,loc,v),O,⟨B.trans<|(gO<|mr bp).trans<|gO<|mr<|ao cX,⟨bb.bI,by show (_++[_]).length<=200;rw [e_,n_];omega,bb.tk,bb.hb,bb.cl⟩,O⟩,by have h:=c;have h:=h.av 5 O;have h:=h.av 5 O;have h:=h.av 5 O;have h:=h.av 5 O;have h:=h.av 5 O;exact Wt 5 h⟩
 exfalso;have dn:¬y.op=7:=by simpa using b5
 omega
section
variable {P:Env} {d u:Z} {loc:I ab} {body:I ep} {w w1:Wm} {x:dT}
def adg (h:nc P w = .ov aP w1):dB P (d+1) u loc body w = .ov aP w1:=by unfold dB;rw [jM h]
def adh (h:nc P w = .ok x w1) (a:w1.calls=24):dB P (d+1) u loc body w = .ov 4 w1:=by unfold dB;rw [gO h];exact aU a
def adi {a:Wm} (h:nc P w = .ok x w1) (b:¬w1.calls=24) (c:jr P (dB P d) u body ⟨loc,0,{ w1 with calls:=w1.calls+1 }⟩ = .ov aP a):dB P (d+1) u loc body w = .ov aP a:=by unfold dB;rw [gO h];refine (ao b).trans ?_;rw [c]
def adj {f:Fm} {t:aQ} (h:nc P w = .ok x w1) (a:¬w1.calls=24) (b:jr P (dB P d) u body ⟨loc,0,{ w1 with calls:=w1.calls+1 }⟩ = .ok t f):dB P (d+1) u loc body w = .ok f.val { f.w with calls:=f.w.calls-1 }:=by unfold dB;rw [gO h];refine (ao a).trans ?_;rw [b]
end
def CI:cX aB 180 5=aa 5:=ah
def adk:hy aB 281=aa [(0,1),(1,1),(2,1),(3,1)]:=ah
def adl:zeroOf aB 281=aa (bU #[b0 ak,an am 0,aC ak 0 0,an am 0]):=ah
def adm (H:View) (n:Z) (f:KW) (l:I cD) (a5 b C d:Z) (g u:Z) (m:cD) (x:SP) (loc:I ab) (v:ab) (body:I ep) (a:az a0) (c E k z:Z) (s:fB) (w:aL) (U:j3 H (bj l a5) (eF l) C s) (V:iq H n f l a5) (W:l[u]? = aa m) (hC:yk H n f l a5 b C d) (F:Sl (jd E k) 7 H a c body) (X:je (ey m::gB l m) loc.length body z=ac) (j:Ws w (c5 bc.ids<|(ez 180 3 b f (bj l a5) s)++(gY 281 3 g b u x loc v)) ((ez 180 3 b f (bj l a5) s)++(gY 281 3 g b u x loc v)) [H] w) : cr aB 164 #[b0 (aa ⟨g,0,ak⟩),aC a body.length c] w λe o=>(∃r:aQ×fB×I ab×ab,e = ax (bV r.1)/\(jr (bj l a5) (dB (bj l a5) d) u body (⟨loc,v,s.w⟩:Fm) = .ok r.1 ⟨r.2.2.1,r.2.2.2,r.2.1.w⟩/\j3 H (bj l a5) (eF l) C r.2.1/\r.2.2.1.length=loc.length)/\Ws w (c5 bc.ids<|(ez 180 3 b f (bj l a5) s)++(gY 281 3 g b u x loc v)) ((ez 180 3 b f (bj l a5) r.2.1)++(gY 281 3 g b u x r.2.2.1 r.2.2.2)) [H] o)\/(∃r:ab×fB,e = .panicked (nH 182 r.1)/\jr (bj l a5) (dB (bj l a5) d) u body (⟨loc,v,s.w⟩:Fm) = .ov r.1 r.2.w/\Ws w (c5 bc.ids<|(ez 180 3 b f (bj l a5) s)++(gY 281 3 g b u x loc v)) (ez 180 3 b f (bj l a5) r.2) [H] o):=by
 induction k using m1 generalizing g u m x loc v body a c z s w;rename_i k ae;have af:∀i,i<k->SJ H n f l a5 b C d E i:=λi h g u m x loc v y a c z s w G J K ah al=>ae i h g u m x loc v y a c z s w G J K ah al;have aE:=F.cap;have aH:=F.max;refine enter func164 O 17 O O ?_;refine CE j<|ai<|ar O<|ag<|Cs<|ai<|ad O<|V0 (Yn fL O)<|ad O<|ag<|Cb ?_;refine dZ (ι:=Z×fB×I ab×ab) (λt=>[(9,an am (t.1:ab))]) [(0,_),(7,_),(8,_)] (λt=>Ws w (c5 bc.ids<|(ez 180 3 b f (bj l a5) s)++(gY 281 3 g b u x loc v)) ((ez 180 3 b f (bj l a5) t.2.1)++(gY 281 3 g b u x t.2.2.1 t.2.2.2)) [H]) (λt=>t.1<=body.length/\(j3 H (bj l a5) (eF l) C t.2.1)/\t.2.2.1.length=loc.length/\jr (bj l a5) (dB (bj l a5) d) u body (⟨loc,v,s.w⟩:Fm)=jr (bj l a5) (dB (bj l a5) d) u (body.drop t.1) (⟨t.2.2.1,t.2.2.2,t.2.1.w⟩:Fm)) (λt=>body.length-t.1) (0,s,loc,v) ⟨de _,U,O,O⟩ aR ?_;intro t ⟨aI,N,A,B⟩;refine ai<|V0 (cP O O)<|ag<|Cs ?_;refine Cc O (λL=>?_)<|λL=>?_
 ·have P:t.1<body.length:=by simpa using L
  obtain ⟨y,p⟩:=dO P;obtain ⟨aJ,aK,ap,Q⟩:=F.b7 t.1 y p;obtain ⟨i,rfl⟩:∃i,k=i+1:=by cases k with| zero=>exact Q.elim| succ i=>exact ⟨i,rfl⟩
  obtain ⟨R,av,G,J,K⟩:=Q;have aw:=Vz X p;refine bO<|Cs<|Cb<|ai<|V0 (Yo fL O O ap P)<|V0 (dG 0 wC O O O<|av) ?_;refine Al Y O z_ λaP=>?_;refine aq 0 Y O O O Cp O O O<|ag<|Cs<|gL 0 (aM (qs y R).toArray 51 (0,0)) O O<|Cr<|ad O<|V0 (dv 0 O O wC O)<|Lf 5 O<|Lf 5 O ?_;refine Lf 5 O<|Lf 5 O<|Lf 5 O ?_;refine hR (ι:=_) (κ:=_) [_,_,_,_,_] _ Y O bf O O _ _ _ _ _ _ [H] aG (λw j=>adf H n f l a5 b C d g u m x t.2.2.1 t.2.2.2 y R E i _ t.2.1 w N V W hC (af i aj) G J K (by rw [A];exact aw) j) ?_ ?_;·intro q D;refine Ep<|WE.aF<|Ep<|Ep<|WE.aF<|Ep ?_;refine b3 λo j=>?_;exact bl ⟨q,O,B.trans<|(Kx _ p).trans<|jM D,by have h:=j;have h:=Wt 3 h;exact h⟩
  intro q ⟨D,S,T⟩;refine ag ?_;refine Cc O (λM=>?_)<|λM=>?_;·refine ai<|ar O<|ag<|bq<|cZ<|Er<|Er<|cZ<|Er ?_;refine R1 O O λo j=>?_;have aA:q.1=ac:=M;exact bA ⟨(ac,q.2),O,⟨B.trans<|(Kx _ p).trans<|(gO D).trans<|aU aA,S,T.trans A⟩,Wt 5 j⟩
  refine Ck<|Eb<|Et<|Cr<|V0 (Yi O O O aj)<|ad O<|Ln ?_;exact cU ((t.1+1,q.2):Z×fB×I ab×ab) (by show _-(t.1+1)<_;omega) ⟨by show t.1+1<=_;omega,S,T.trans A,B.trans<|(Kx _ p).trans<|(gO D).trans<|ao (by rw [M];simp)⟩<|λ_ h=>(Wt 5 h:)
 have aD:body.length<=t.1:=by simp at L;omega
 refine Ce<|Ex<|Ex<|dy<|Et<|ai<|ar O<|ag<|bq ?_;refine R1 O O λo j=>?_;exact bA ⟨(au,t.2),O,⟨B.trans<|ade _ aD,N,A⟩,j⟩
def adn (H:View) (n:Z) (j:KW) (l:I cD) (a5 k C d:Z) (u:Z) (y:cD) (x:SP) (loc:I ab) (body:I ep) (a:az a0) (c F G:Z) (s:fB) (w:aL) (J:iq H n j l a5) (V:C<=24) (hC:C+1<=24->yk H n j l a5 k (C+1) d) (L:j3 H (bj l a5) (eF l) C s) (M:l[u]? = aa y) (N:Sl (jd F G) 7 H a c body) (P:h8 (ey y::gB l y) loc.length body 1=ac) (f:Ws w (c5 bc.ids<|(ez 180 3 k j (bj l a5) s)++[cO 3 1 hY x.1 x.2 loc]) ((ez 180 3 k j (bj l a5) s)++[cO 3 1 hY x.1 x.2 loc]) [H] w) :
   cr aB 96 #[b0 (aa ⟨k,0,ak⟩),an am (u:ab),aC x.1 loc.length x.2,aC a body.length c] w λe m=>(∃r:ab×fB,e = ax (an am r.1)/\(dB (bj l a5) (d+1) u loc body s.w = .ok r.1 r.2.w/\j3 H (bj l a5) (eF l) C r.2)/\Ws w (c5 bc.ids<|(ez 180 3 k j (bj l a5) s)++[cO 3 1 hY x.1 x.2 loc]) (ez 180 3 k j (bj l a5) r.2) [H] m)\/(∃r:ab×fB,e = .panicked (nH 182 r.1)/\dB (bj l a5) (d+1) u loc body s.w = .ov r.1 r.2.w/\Ws w (c5 bc.ids<|(ez 180 3 k j (bj l a5) s)++[cO 3 1 hY x.1 x.2 loc]) (ez 180 3 k j (bj l a5) r.2) [H] m):=by
 refine enter func96 O 44 O O ?_;refine CE f<|ai<|ar O<|ag<|ai<|ad O ?_;refine hR [_,_,_] _ Y O bf O O _ _ _ _ _ _ [H] aG (λw f=>SD k j l a5 C H s w L J.a5 f) ?_ ?_;·intro b p;refine Ep ?_;refine b3 λm f=>?_;exact bl ⟨b,O,adg p,by have h:=f;have h:=Wt 3 h;exact h⟩
 intro b ⟨p,t⟩;refine ag<|Cs ?_;have Q:=t.cl;have W:nc (bj l a5) s.w = .ok b.1 b.2.w:=p;refine Cr<|ad O<|V0 (bP O)<|V0 (Yf CI O)<|V0 (Yd 0 O O O ah)<|V0 (bN O O) ?_;refine hR (ι:=dT) (κ:=dT) [] _ Y O bf O O (λ_=>cN #[]) (λ_=>[]) (λ_=>(((b.2.w.calls:Z):ab)==24)=au) (λ_=>nH 182 4) (λ_=>[]) (λ_=>(((b.2.w.calls:Z):ab)==24)=ac) [] aG (λw f=>(CG _ 4 w).mono λe m h=>by
  rcases h with ⟨_,A,B,D⟩ | ⟨_,A,B,D⟩;·exact bA ⟨(),A,B,f.ext D⟩
  ·exact bl ⟨(),A,B,f.ext D⟩) ?_ ?_;·intro _ z;refine Ep ?_;refine b3 λm f=>?_;exact bl ⟨(4,b.2),O,adh p (show b.2.w.calls=24 from by have h:=z;simp at h;omega),by have h:=f;have h:=Wt 3 h;exact h⟩
 intro _ z;refine ag<|Cs ?_;have K:¬b.2.w.calls=24:=by intro h;rw [h] at z;simp at z
 have R:j3 H (bj l a5) (eF l) (C+1) (⟨{ b.2.w with calls:=b.2.w.calls+1 },b.2.i,b.2.o,b.2.d⟩:fB):=⟨t.bI,t.out,t.tk,t.hb,by show b.2.w.calls+1=C+1;rw [Q]⟩;refine Cr<|ad O<|V0 (bP O)<|V0 (Yf CI O)<|V0 (Yd 0 O O O ah)<|V0 (Yi O O O aj)<|V0 (bP O)<|V0 (Yf CI O) ?_;refine aq 0 Y O O O ei O O O<|ag<|Cs<|gL 0 (ng 180 j (bj l a5) (⟨{ b.2.w with calls:=b.2.w.calls+1 },b.2.i,b.2.o,b.2.d⟩:fB)) O O<|Cr<|ad O<|ad O<|ad O<|V0 (Yb adl adk O O) ?_;refine WL.box Y O O λS=>?_;obtain ⟨T,U⟩:∃q,q=S:=⟨_,rfl⟩;subst U;refine dK 0 (vY 281 k u x loc.length 0) O O<|ar O<|ag<|ai<|ad O<|ad O<|Lf 4 O<|Lf 1 O<|Lf 4 O ?_;refine Lf 4 O<|Lf 4 O ?_;refine hR [_,_,_,_,_] _ Y O bf O O _ _ _ _ _ _ [H] aG (λw f=>adm H n j l a5 k (C+1) d T u y x loc 0 body a c F G 1 (⟨{ b.2.w with calls:=b.2.w.calls+1 },b.2.i,b.2.o,b.2.d⟩:fB) w R J M (hC aj) N (Ii P) f) ?_ ?_;·intro g E;refine Ep ?_;refine b3 λm f=>?_;exact bl ⟨g,O,adi p K E,by have h:=f;exact h⟩
 intro g ⟨E,v,X⟩;refine ag<|Cs ?_;have ae:=v.cl;refine Cr<|ad O<|V0 (bP O)<|V0 (Yf CI O)<|V0 (Yd 0 O O O ah)<|V0 (m7 ((g.2.1.w.calls-1:Z):ab) O O aj aj)<|V0 (bP O)<|V0 (Yf CI O) ?_;refine aq 0 Y O O O ei O O O<|ag<|Cs<|gL 0 (ng 180 j (bj l a5) (⟨{ g.2.1.w with calls:=g.2.1.w.calls-1 },g.2.1.i,g.2.1.o,g.2.1.d⟩:fB)) O O<|Cr<|ad O<|V0 (bP O)<|V0 (Yf SL O)<|V0 (Yd 3 O O O ah) ?_;refine ar O<|ag<|bq ?_;refine R1 O O λm f=>?_;exact bA ⟨(g.2.2.2,(⟨{ g.2.1.w with calls:=g.2.1.w.calls-1 },g.2.1.i,g.2.1.o,g.2.1.d⟩:fB)),O,⟨adj p K E,⟨v.bI,v.out,v.tk,v.hb,by show g.2.1.w.calls-1=C;omega⟩⟩,Wt 3 f⟩
def SM (H:View) (n:Z) (b:KW) (l:I cD) (a5 e:Z) (f:iq H n b l a5):∀d C,C+d=25->C<=24->yk H n b l a5 e C d| 0,C,g,i=>absurd g aj| d+1,C,g,i=>λu j x loc body a c k m s w o p q r t=>adn H n b l a5 e C d u j x loc body a c k m s w f i (λh=>SM H n b l a5 e f d (C+1) aj h) o p q r t
def SN:eP aB 182=aa 1:=ah
def ado:cX aB 182 0=aa 0:=ah
def adp (H:View) (a:az a0) (c:Z) (l:I ab) (w:aL) (j:Le H w) (f:Sl hn 1 H a c l) (p:l.length<=1048576) : cr aB 82 #[aC a l.length c] w λe g=>∃r:SP,e = ax (aC r.1 l.length r.2)/\Ext w g/\Sl hn 1 (nv w g) r.1 r.2 l:=by
 have q:=f.cap;have s:=f.max;refine enter func82 O 8 O O ?_;refine CE (Vs:=[H]) (Ws.init (by simp [j]))<|ai<|ar O<|ag<|Cs<|ai<|ad O<|V0 (Du eS O)<|ag ?_;refine Cc O (λi=>?_)<|λi=>?_
 ·have k:l=[]:=by cases l with| nil=>rfl| cons x r=>obtain ⟨b,o,h,_⟩:=f.b7 0 x rfl;rw [h] at i;cases i
  refine ai<|ar O<|ag<|bq<|Er ?_;refine R1 O O λg d=>?_;subst k;exact ⟨(ak,0),O,d.fr,Sl.nil⟩
 refine bO<|ai ?_;refine WL.AQ Y O fY O O O λt=>?_;refine WL.yM (size:=1) 0 O (eC 0) (de _) O ?_;refine WL.AS 0 ([]:I ab).length (([]:I ab).flatMap hY) O O O ?_;refine ad O ?_;refine WL.vF (ys:=l) (xs:=[]) 0 (λ_=>H) Y O fY O O O (λw d=>⟨d.vs H aG,f⟩) fp kS UU (by simp;omega) (by simp;omega) λm n=>?_;refine ar O<|ag<|bq ?_;refine R1 O O λg d=>?_;exact ⟨(m,n),O,d.fr,d.jF 0 O kS fp⟩
def adq (f g a:Z) (b:aT) (w:aL) (c:Ws w (c5 bc.ids [aJ a<|aM #[b] 30 (0,0)]) [aJ a<|aM #[b] 30 (0,0)] [] w) : CallsD aB 95 #[b0 (aa ⟨f,0,ak⟩),b0 (aa ⟨g,0,ak⟩),b0 (aa ⟨a,0,ak⟩)] (.returning) w λe h d=>h = .returning/\(e = ax (cN #[])/\Ws w (c5 bc.ids [aJ a<|aM #[b] 30 (0,0)]) [aJ a<|aM #[b] 30 (0,0)] [] d):=by refine w9 func95 O 26 O O O O O (λ_=>rfl) (bA ⟨O,O,O⟩) ?_;refine LW (W':=Ws w (c5 bc.ids [aJ a<|aM #[b] 30 (0,0)]) [aJ a<|aM #[b] 30 (0,0)] []) (λ_ e=>by subst e;exact c)<|ar O<|ag<|ai<|ad O<|V0 (MH underlying182 FV O)<|ad O<|V0 (Yx O O)<|V0 (Yx O O) ?_;refine Al Y O FV λi=>?_;refine aq 0 Y O O O SN O O O<|ar O<|ag<|ai<|ad O<|ag ?_;refine WC.r6 O ?_;refine ai<|ad O<|V0 (D1 Fv O)<|ag ?_;refine WC.r6 O ?_;refine Ck ?_;refine E0 O λd c=>?_;exact ⟨O,Wd 1 c⟩
def adr (b c f a:Z) (g:KW) (P:Env) (s:fB) (x:ab) (v0 v1 h k l:aT) (w:aL) (m:Ws w (c5 bc.ids [aJ b<|aM #[b0 (aa ⟨a,0,ak⟩)] 177 (0,0),aJ c<|aM #[v0,v1,h,k] 64 (0,0),aJ f<|aM #[l] 30 (0,0),aJ a<|ng 180 g P s]) [aJ b<|aM #[b0 (aa ⟨a,0,ak⟩)] 177 (0,0),aJ c<|aM #[v0,v1,h,k] 64 (0,0),aJ f<|aM #[l] 30 (0,0),aJ a<|ng 180 g P s] [] w) : CallsD aB 95 #[b0 (aa ⟨b,0,ak⟩),b0 (aa ⟨c,0,ak⟩),b0 (aa ⟨f,0,ak⟩)] (.panicking<|nH 182 x) w λe p n=>p = .panicking [⟨.iface 182<|bU #[an am x],ac,au⟩]/\(e = ax (cN #[])/\Ws w (c5 bc.ids [aJ b<|aM #[b0 (aa ⟨a,0,ak⟩)] 177 (0,0),aJ c<|aM #[v0,v1,h,k] 64 (0,0),aJ f<|aM #[l] 30 (0,0),aJ a<|ng 180 g P s]) [aJ b<|aM #[b0 (aa ⟨a,0,ak⟩)] 177 (0,0),aJ c<|VO 64 x s,aJ f<|aM #[an am 0] 30 (0,0),aJ a<|lQ (ng 180 g P s) 6 [an am x]] [] n):=by refine w9 func95 O 26 O O O O O (λ_=>rfl) (bl ⟨_,O,O,O⟩) ?_;refine LW (W':=Ws w (c5 bc.ids [aJ b<|aM #[b0 (aa ⟨a,0,ak⟩)] 177 (0,0),aJ c<|aM #[v0,v1,h,k] 64 (0,0),aJ f<|aM #[l] 30 (0,0),aJ a<|ng 180 g P s]) [aJ b<|aM #[b0 (aa ⟨a,0,ak⟩)] 177 (0,0),aJ c<|aM #[v0,v1,h,k] 64 (0,0),aJ f<|aM #[l] 30 (0,0),aJ a<|ng 180 g P s] []) (λ_ e=>by subst e;exact m)<|ar O<|ag<|ai<|ad O<|V0 (MG underlying182 O)<|ad O<|V0 (Yx O O)<|V0 (Yx O O) ?_;refine Al Y O FV λq=>?_;refine aq 0 Y O O O SN O O O<|ar O<|ag<|ai<|ad O<|ag ?_;refine WC.s6 O ?_;refine ai<|V0 (Yd 1 O O O ah)<|V0 (Yf ado O)<|V0 (Yd 0 O O (v:=an am x) O ah)<|V0 (bP O)<|V0 (Yf s5 O)<|V0 (Yf Bz O)<|aq 4 Y O O O ei O O O ?_;refine dK 4 (lQ (ng 180 g P s) 6 [an am x]) O O<|ag<|Cr<|V0 (Yd 1 O O O ah)<|V0 (bP O)<|V0 (Yf s5 O) ?_;refine V0 (Dj j4 O (cs:=[an am x,aC s.o.1 s.w.out.length s.o.2,aC s.d.1 s.w.data.length s.d.2,an am (s.w.bY:ab)]) O (λw m j v hv=>by refine cell_of_heap (m.kn _<|bu (i:=4) O) ?_;match j,hv with| 0,hv=>exact hv| 1,hv=>exact hv| 2,hv=>exact hv| 3,hv=>exact hv)) ?_;refine aq 2 Y O O O l0 O O O<|aq 3 Y O O O nj O O O<|Ln ?_;refine E0 O λn m=>?_;exact ⟨O,Wd 1 m⟩
def FZ (l:I cD) (bI:I ab) (bY:ab):q9 l bI bY=if lW l=0 then (if 64<bI.length then 2 else if (decide (bY<0)||decide (2000<bY))=ac then 3 else 0) else lW l:=rfl
def ads:hy aB 180=aa [(0,1),(1,1),(2,1),(3,1),(4,1),(5,1),(6,4)]:=ah
def adt:zeroOf aB 180=aa (bU #[aC ak 0 0,aC ak 0 0,aC ak 0 0,aC ak 0 0,an am 0,an am 0,an am 0,aC ak 0 0,aC ak 0 0,an am 0]):=ah
def adu:zeroOf aB 177=aa (b0 ak):=ah
def adv:eP aB 177=aa 1:=ah
def lp:hW aB 178 29 (aC ak 0 0) 1 24:=jD ah
def Ky:eP aB 178=aa 1:=ah
set_option maxHeartbeats 4000000 in
def adw (H:View) (n:Nat) (a:Option Addr) (c:Nat) (l:List cD) (X:View) (aE:Option Addr) (aH:Nat) (bI:List Int) (bY:Int) (w:World) (bC:Le H w) (G:Sl (Bf n) 5 H a c l) (bo:∀u ∈ l,u.aI.length<=1048576) (bD:Le X w) (aK:Sl hn 1 X aE aH bI) :
   Calls prog 25 #[.slice a l.length c,.slice aE bI.length aH,.int .i64 bY] w λe A=>∃r:SP×SP,e = .returned (.tuple #[VQ (rf l bI bY) r,.int .i64 (q9 l bI bY)])/\Ext w A/\Sl hn 1 (nv w A) r.1.1 r.1.2 (rf l bI bY).out/\Sl hn 1 (nv w A) r.2.1 r.2.2 (rf l bI bY).data:=by
 have cz:=G.cap;have cA:=G.max;have cC:=aK.cap;have cE:=aK.max;refine DA func25 O 119 O O ?_;refine CE (Vs:=[X,H]) (Ws.init (by simp [bD,bC]))<|ai ?_;refine Al Y O l1 λM=>?_;refine Al Y O BD λK=>?_;refine ag<|Cs<|ai<|ad O<|Lp Y O bf O (λw k=>acx H n n a c l w k.V (G.imp λ_ _ _ h=>h) bo)<|ar O<|ag<|ai<|ad O<|V0 (g2 O O)<|ag ?_;refine Cc O (λaP=>?_)<|λaP=>?_
 ·have E:¬lW l=0:=by simpa using aP
  refine ai<|V0 (Yb l1 sA O O)<|ad O<|aq 1 Y O O O l0 O O O<|aq 0 Y O O O nj O O O<|ag<|bq<|Er ?_;refine WE.uv (hG O (e1 1 O O j4 O)<|jb 0 O O O ah) λA k=>?_;have p:(q9 l bI bY)=lW l:=by rw [FZ,ao E]
  rw [Ik (by rw [p];exact E),p];exact ⟨((none,0),(none,0)),O,k.fr,Sl.nil,Sl.nil⟩
 have E:lW l=0:=by simpa using aP
 have F:=H2.1 E;have cF:=F.gu;have cG:=zo F;refine bO<|Cs<|ai<|ad O<|V0 (Yn eS O)<|V0 (ek O O)<|ag ?_;refine Cc O (λaS=>?_)<|λaS=>?_
 ·have ae:64<bI.length:=by simp at aS;omega
  refine ai<|V0 (Yb l1 sA O O)<|aq 1 Y O O O l0 O O O<|aq 0 Y O O O nj O O O<|ag<|bq<|Er ?_;refine WE.uv (hG O (e1 1 O O j4 O)<|jb 0 O O O ah) λA k=>?_;have p:(q9 l bI bY)=2:=by rw [FZ,aU E,aU ae]
  rw [Ik (by rw [p];decide),p];exact ⟨((none,0),(none,0)),O,k.fr,Sl.nil,Sl.nil⟩
 have ae:¬64<bI.length:=by simp at aS;omega
 refine bO<|Cs<|ai<|ad O<|V0 (cP O O)<|ad O ?_;apply Lo 2 O O O O Y O O O O O;·intro cH;refine Vg (Ym O)<|Vg (ek O O) ?_;exact Gt 2 O O O
 refine ag ?_;refine Cc O (λaf=>?_)<|λaf=>?_
 ·refine ai<|V0 (Yb l1 sA O O)<|aq 1 Y O O O l0 O O O<|aq 0 Y O O O nj O O O<|ag<|bq<|Er ?_;refine WE.uv (hG O (e1 1 O O j4 O)<|jb 0 O O O ah) λA k=>?_;have p:(q9 l bI bY)=3:=by rw [FZ,aU E,ao ae,aU af]
  rw [Ik (by rw [p];decide),p];exact ⟨((none,0),(none,0)),O,k.fr,Sl.nil,Sl.nil⟩
 have p:(q9 l bI bY)=0:=by rw [FZ,aU E,ao ae,af];rfl
 have bF:0<=bY/\bY<=2000:=by simp at af;omega
 refine bO<|ai<|ad O<|ad O ?_;refine Ld Y O bf O (λr:SP=>.slice r.1 bI.length r.2) (λbG r=>Sl hn 1 bG r.1 r.2 bI) (λw k=>adp X aE aH bI w k.V aK aj) ?_;intro al v cI bH;refine ad O<|V0 (Yb adt ads O O) ?_;refine WL.box Y O O λbK=>?_;obtain ⟨B,bL⟩:∃q,q=bK:=⟨_,rfl⟩;subst bL;refine dK 0 (Im 180 (.slice a l.length c) (.slice none 0 0) (.slice none 0 0) (.slice v.1 bI.length v.2) bY<|.slice none 0 0) O O ?_;refine Al Y O adu λP=>?_;refine aq 0 Y O O O adv O O O<|ag<|ai ?_;refine WL.oX st Y O λbp=>?_;refine ar O<|ag<|ai<|ar O<|ag<|Cs<|Cs ?_;refine oO (λ_ h=>h.bJ 3 1) ?_;refine oO (λ_ h=>h.bJ 29 1) ?_;refine oO (λ_ h=>h.v0) ?_;refine Cr<|ad O<|V0 (Yn nU O)<|ad O<|ag<|Cb ?_;refine dZ (ι:=vW) (λg=>[(45,.int .i64 (g.i:Int)),(11,.int .i64 (eF<|l.take g.i:Int))]) [(0,_),(6,_),(7,_),(9,_),(10,_),(43,_),(44,_)] (λg=>Ws w [] [cO 29 1 XI.cells g.ua.1 g.ua.2<|g.es,cO 3 1 kT g.ba.1 g.ba.2<|(k9 l 0).take g.i,aJ bp<|dH st (iV ((bh l).take g.i) 0) g.i,aJ B<|Im 180 (.slice a l.length c) (.slice g.ua.1 g.es.length g.ua.2) (.slice g.ba.1 ((k9 l 0).take g.i).length g.ba.2) (.slice v.1 bI.length v.2) bY<|.slice none 0 0,aJ P<|.cells #[.pointer (some ⟨B,0,none⟩)] 177 (0,0),aJ K<|.cells (Value.cells<|.int .i64 0) 30 (0,0),aJ M<|.cells (Value.cells<|.agg #[.int .i64 0,.slice none 0 0,.slice none 0 0,.int .i64 0]) 64 (0,0)] [g.J,al,H]) (λg=>g.i<=l.length/\g.es.map (·.1)=(qx l).take g.i/\Xs rh g.J g.es) (λg=>l.length-g.i) ⟨0,[],(none,0),(none,0),v0⟩ ⟨de _,O,Xs.nil _⟩ (λ_ h=>by have h:=h.av 6 O;have h:=h.av 6 O;have h:=h.av 5 O;have h:=h.av 6 O;have h:=h.av 6 O;have h:=h.av 6 O;have h:=h.av 6 O;have h:=Ws.dr h (cB:=[v0,al,H]) aG;exact h) ?_;intro g ⟨cJ,C,ap⟩;refine ai<|V0 (cP O O)<|ag<|Cs ?_;refine Cc O (λaW=>?_)<|λaW=>?_
 ·have D:g.i<l.length:=by simpa using aW
  obtain ⟨u,m⟩:=dO D;obtain ⟨bM,bN,aX,aY⟩:=G.b7 g.i u m;obtain ⟨L,aZ,Q⟩:=aY;have cL:=Q.aI.cap;have cM:=Q.aI.max;have br:=Sg m;have bs:=NI F.nd br;have bt:((bh l).take g.i).length=g.i:=by rw [lr,Cw];omega
  have bQ:(bh l).take (g.i+1)=(bh l).take g.i++[u.nm]:=by rw [hP,br];rfl
  have cQ:=bo u<|dJ m;have cR:((k9 l 0).take g.i).length=g.i:=by rw [lr,Il];omega
  have cS:g.es.length=g.i:=by rw [<-fK,C,lr,NO];omega
  have a1:=VI m;have a2:=NK m;have cT:=NL l<|g.i+1;have cW:0<=u.data/\u.data<=512:=by have bu:=Sj<|F.hJ u<|dJ m;unfold pM at bu;simp only [lN,ny] at bu;omega
  refine bO<|Cs<|Cb<|ai<|ad O<|V0 (Yo nU O O aX D)<|V0 (dG 2 l9 O O O<|aZ) ?_;refine Al Y O ft λbR=>?_;refine ar O<|aq 0 Y O O O rT O O O<|ag<|Cs<|gL 0 (.cells (hX u L).toArray 37 (0,0)) O O<|Cr<|ad O<|V0 (Yf Ad O)<|V0 (Yd 0 O O O ah) ?_;refine ad O ?_;refine WL.ql 3 i2 Y i0 ah O O O O ?_;refine ag<|Cs ?_;rw [(vH bs bt).1,(vH bs bt).2,<-bQ];refine Cr<|ad O ?_;refine Lb Y O fY O O O O λbS=>?_;refine dK 0 (.cells ((([g.i]:List Nat)).flatMap kT).toArray 3 (0,0)) O O<|LW (λ_ h=>h.qZ (f:=kT) (xs:=([g.i]:List Nat)) (c:=1) 0 O zm O a')<|ar O<|ag<|Cs<|ai<|V0 (Yf ye O)<|V0 (Yd 1 O O O ah)<|V0 (Yn e4 O)<|ad O ?_;refine ag<|Cb ?_;refine dZ (ι:=Nat×SP) (λj=>[(59,.int .i64 (j.1:Int)),(14,.slice j.2.1 (g.i::(u.aI.take j.1).map (mR l)).length j.2.2)]) [(0,_),(6,_),(7,_),(9,_),(10,_),(11,_),(13,_),(43,_),(44,_),(45,_),(57,_),(58,_)] (λj=>Ws w [] [cO 3 1 kT j.2.1 j.2.2<|g.i::(u.aI.take j.1).map (mR l),aJ bR<|.cells (hX u L).toArray 37 (0,0),cO 29 1 XI.cells g.ua.1 g.ua.2<|g.es,cO 3 1 kT g.ba.1 g.ba.2<|(k9 l 0).take g.i,aJ bp<|dH st (iV ((bh l).take<|g.i+1) 0)<|g.i+1,aJ B<|Im 180 (.slice a l.length c) (.slice g.ua.1 g.es.length g.ua.2) (.slice g.ba.1 ((k9 l 0).take g.i).length g.ba.2) (.slice v.1 bI.length v.2) bY<|.slice none 0 0,aJ P<|.cells #[.pointer (some ⟨B,0,none⟩)] 177 (0,0),aJ K<|.cells (Value.cells<|.int .i64 0) 30 (0,0),aJ M<|.cells (Value.cells<|.agg #[.int .i64 0,.slice none 0 0,.slice none 0 0,.int .i64 0]) 64 (0,0)] [g.J,al,H]) (λj=>j.1<=u.aI.length) (λj=>u.aI.length-j.1) (0,(some ⟨bS,0,none⟩,1)) (de _) aR ?_;intro j cX;refine ai<|V0 (cP O O)<|ag<|Cs ?_;refine Cc O (λa3=>?_)<|λa3=>?_
  ·have D:j.1<u.aI.length:=by simpa using a3
   obtain ⟨s,a4⟩:=dO D;obtain ⟨bT,pos,bW,a6⟩:=Q.aI.b7 j.1 s a4;have a6:ct H bT (pos+j.1*1)<|fV s:=a6;obtain ⟨bX,cY,bZ,cZ,_⟩:=H3 F m<|dJ a4;have b1:s ∈ (bh l).take (g.i+1):=by have bv:=(sd bZ).2;rw [p_] at bv;exact dJ (show ((bh l).take<|g.i+1)[bX]? = some s by rw [b8,aU aj];exact bv)
   refine bO<|Cs<|Cb<|ai<|V0 (Yo e4 O O bW D)<|V0 (dQ 2 ah O O<|a6 0 _ O)<|ar O<|ag<|Cr<|ad O<|ad O<|ad O ?_;refine V0 (qk 4 i2 i0 ah cw O O O) ?_;rw [(zf s _).1,VH b1];refine Lb Y O fY O O O O λc0=>?_;refine dK 0 (.cells (kT<|mR l s).toArray 3 (0,0)) O O ?_;refine LA (mR l s) 1 0 Y O fY O O O O O O (by simp;omega) (by simp;omega) λb2 b3=>?_;rw [show (g.i::(u.aI.take j.1).map (mR l))++[mR l s]=g.i::(u.aI.take<|j.1+1).map (mR l) by rw [hP,a4];simp];refine ar O<|Ln<|Eb<|Et<|Cr<|V0 (Yi O O O aj)<|ad O<|Ln ?_;exact cU ((j.1+1,(b2,b3)):Nat×SP) (by show _-(j.1+1)<_;omega) (by show j.1+1<=_;omega)<|λ_ h=>Wd 1 h
  have b4:j.1=u.aI.length:=by simp at a3;omega
  refine Ce<|Ex<|Ex<|dy<|Et<|Cs ?_;have b5:j.1=u.aI.length:=b4;rw [b5,gJ];refine WC.cK (rd:=rb) 0 O zm fp λc1 a8=>?_;refine WC.jJ λa9 a_ bb c2=>?_;refine WC.TX (nB [.cell 6 64,.cell 7 30]) [1,1] [1,1,2] [18,19,20,21] (.q true 0<|.q false 1<|.q true 2<|.q false 3<|.q false 4<|.q true 5<|.q false 6<|.q true 9<|.q false 10<|.q false 11<|.q true 12<|.q false 13<|.e 7 (.e 8 (.e 14 (.e 15 (.q false 16<|.q false 17 .nil) .stop) .stop)<|.e 14 (.e 8 (.e 15 (.q false 16<|.q false 17 .nil) .stop) .stop) .stop)<|.e 14 (.e 7 (.e 8 (.e 15 (.q false 16<|.q false 17 .nil) .stop) .stop) .stop) .stop) mixed ah (λ_ _ _ _ _ bc h=>qh (fn:=f25) [.cell 6 64,.cell 7 30] O bc h) ?_;refine WV.q O Y O (cn [1,1]) (λ_ h=>by exact (Wt 5<|((((h.f 7 O).f 7 O).f 7 O).f 6 O).f 4 O:)) (Yd 3 O O O ah) ?_;refine WV.q O Y O (cn [1,1]) (λ_ h=>by exact (Wt 5<|((((h.f 7 O).f 7 O).f 7 O).f 6 O).f 4 O:)) (Yd 2 O O O ah) ?_;refine WV.q O Y O (cn [1,1]) (λ_ h=>by exact (Wt 5<|((((h.f 7 O).f 7 O).f 7 O).f 6 O).f 4 O:)) (Yd 3 O O O ah) ?_;refine WV.q O Y O (cn [1,1]) (λ_ h=>by exact (Wt 5<|((((h.f 7 O).f 7 O).f 7 O).f 6 O).f 4 O:)) (bP O) ?_;refine WV.q O Y O (cn [1,1]) (λ_ h=>by exact (Wt 5<|((((h.f 7 O).f 7 O).f 7 O).f 6 O).f 4 O:)) (Yf Aj O) ?_;refine WV.q O Y O (cn [1,1]) (λ_ h=>by exact (Wt 5<|((((h.f 7 O).f 7 O).f 7 O).f 6 O).f 4 O:)) (Yd 2 O O O ah) ?_;refine WV.q O Y O (cn [1,1]) (λ_ h=>by exact (Wt 5<|((((h.f 7 O).f 7 O).f 7 O).f 6 O).f 4 O:)) (Ym O) ?_;refine WV.q O Y O (cn [1,1]) (λ_ h=>by exact (Wt 5<|((((h.f 7 O).f 7 O).f 7 O).f 6 O).f 4 O:)) (Yd 3 O O O ah) ?_;refine WV.q O Y O (cn [1,1]) (λ_ h=>by exact (Wt 5<|((((h.f 7 O).f 7 O).f 7 O).f 6 O).f 4 O:)) (bP O) ?_;refine WV.q O Y O (cn [1,1]) (λ_ h=>by exact (Wt 5<|((((h.f 7 O).f 7 O).f 7 O).f 6 O).f 4 O:)) (Yf CF O) ?_;refine WV.q O Y O (cn [1,1]) (λ_ h=>by exact (Wt 5<|((((h.f 7 O).f 7 O).f 7 O).f 6 O).f 4 O:)) (Yd 2 O O O ah) ?_;refine WV.q O Y O (cn [1,1]) (λ_ h=>by exact (Wt 5<|((((h.f 7 O).f 7 O).f 7 O).f 6 O).f 4 O:)) (Ym O) ?_;refine WV.e O (cn [1,1]) (λ_ h=>by exact (Wt 5<|((((h.f 7 O).f 7 O).f 7 O).f 6 O).f 4 O:)) ?_ ?_
  ·refine Lb Y O lp O O O O λb6=>?_;refine dK 0 (.cells (XI.cells (g.i::u.aI.map (mR l),j.2)).toArray 29 (0,0)) O O<|Ln<|Eu ?_;refine WV.e O (λ_ h=>(Wo 1<|Wo 1<|Wd 1 h:)) (λ_ h=>by exact (Wt 5<|((((h.f 8 O).f 8 O).f 8 O).f 7 O).f 5 O:)) ?_ ?_;·refine LA ((g.i::u.aI.map (mR l),j.2):XI) 2 0 Y O lp O O O O O O aj aj λS T=>?_;refine Ln<|Eu ?_;refine WV.e O (λ_ h=>(Wo 1<|Wo 1<|Wd 1 h:)) (λ_ h=>by exact (Wt 5<|((((h.f 8 O).f 8 O).f 8 O).f 7 O).f 5 O:)) ?_ WU.stop;refine Lb Y O fY O O O O λbw=>?_;refine dK 0 (.cells (kT<|eF<|l.take g.i).toArray 3 (0,0)) O O<|Ln<|Eu ?_;refine WV.e O (λ_ h=>(Wo 1<|Wo 1<|Wd 2 h:)) (λ_ h=>by exact (Wt 5<|((((h.f 9 O).f 9 O).f 9 O).f 8 O).f 6 O:)) ?_ WU.stop;refine LA (eF<|l.take g.i) 4 0 Y O fY O O O O O O aj aj λU W=>?_;refine Ln<|Eu ?_;refine WV.q O Y O (λ_ h=>(Wo 1<|Wo 1<|Wd 2 h:)) (λ_ h=>by exact (Wt 5<|((((h.f 9 O).f 9 O).f 9 O).f 8 O).f 6 O:)) (bP O) ?_;refine WV.q O Y O (λ_ h=>(Wo 1<|Wo 1<|Wd 2 h:)) (λ_ h=>by exact (Wt 5<|((((h.f 9 O).f 9 O).f 9 O).f 8 O).f 6 O:)) (Yf Aj O) ?_;refine WU.nil (λ_ h=>(Wo 1<|Wo 1<|Wd 2 h:)) ?_;refine m8.e O (λ_ h=>by exact (Wt 5<|((((h.f 9 O).f 9 O).f 9 O).f 8 O).f 6 O:)) ?_;refine aq 6 Y O O O Ky O O O<|Ln<|Es ?_;refine m8.e O (λ_ h=>by exact (Wt 5<|((((h.f 9 O).f 9 O).f 9 O).f 8 O).f 6 O:)) ?_;refine V0 (bP O)<|Ln<|Es ?_;refine m8.e O (λ_ h=>by exact (Wt 5<|((((h.f 9 O).f 9 O).f 9 O).f 8 O).f 6 O:)) ?_;refine V0 (Yf CF O)<|Ln<|Es ?_;refine m8.e O (λ_ h=>by exact (Wt 5<|((((h.f 9 O).f 9 O).f 9 O).f 8 O).f 6 O:)) ?_;refine aq 6 Y O O O cq O O O<|Ln<|Es ?_;refine m8.nil (λ_ h=>by exact (Wt 5<|((((h.f 9 O).f 9 O).f 9 O).f 8 O).f 6 O:)) ?_;refine Et<|Cr<|ad O<|V0 (Yf t' O)<|V0 (Yd 2 O O O ah)<|V0 (n7 (a:=eF<|l.take g.i) (b:=u.data.toNat) O O O aj aj)<|ar O<|Ln<|Eb<|Et<|Cr<|V0 (Yi O O O aj) ?_;refine ad O<|Ln ?_;rw [<-a1,<-a2];exact cU (⟨g.i+1,g.es++[(g.i::u.aI.map (mR l),j.2)],(S,T),(U,W),a9⟩:vW) (by show _-(g.i+1)<_;omega) ⟨by show g.i+1<=_;omega,by show (g.es++[(g.i::u.aI.map (mR l),j.2)]).map (·.1)=_;rw [nY,C,Ij m];rfl,Xs.snoc (R:=rh) (λhv h=>rh.mv hv h) ap bb a_ a8⟩<|λ_ h=>Wd 3 h
   refine WV.e O (λ_ h=>(Wo 1<|Wo 1<|Wd 1 h:)) (λ_ h=>by exact (Wt 5<|((((h.f 8 O).f 8 O).f 8 O).f 7 O).f 5 O:)) ?_ WU.stop;refine Lb Y O fY O O O O λbw=>?_;refine dK 0 (.cells (kT<|eF<|l.take g.i).toArray 3 (0,0)) O O<|Ln<|Eu ?_;refine WV.e O (λ_ h=>(Wo 1<|Wo 1<|Wd 2 h:)) (λ_ h=>by exact (Wt 5<|((((h.f 9 O).f 9 O).f 9 O).f 8 O).f 6 O:)) ?_ WU.stop;refine LA ((g.i::u.aI.map (mR l),j.2):XI) 3 1 Y O lp O O O O O O aj aj λS T=>?_;refine Ln<|Eu ?_;refine WV.e O (λ_ h=>(Wo 1<|Wo 1<|Wd 2 h:)) (λ_ h=>by exact (Wt 5<|((((h.f 9 O).f 9 O).f 9 O).f 8 O).f 6 O:)) ?_ WU.stop;refine LA (eF<|l.take g.i) 4 0 Y O fY O O O O O O aj aj λU W=>?_;refine Ln<|Eu ?_;refine WV.q O Y O (λ_ h=>(Wo 1<|Wo 1<|Wd 2 h:)) (λ_ h=>by exact (Wt 5<|((((h.f 9 O).f 9 O).f 9 O).f 8 O).f 6 O:)) (bP O) ?_;refine WV.q O Y O (λ_ h=>(Wo 1<|Wo 1<|Wd 2 h:)) (λ_ h=>by exact (Wt 5<|((((h.f 9 O).f 9 O).f 9 O).f 8 O).f 6 O:)) (Yf Aj O) ?_;refine WU.nil (λ_ h=>(Wo 1<|Wo 1<|Wd 2 h:)) ?_;refine m8.e O (λ_ h=>by exact (Wt 5<|((((h.f 9 O).f 9 O).f 9 O).f 8 O).f 6 O:)) ?_;refine aq 6 Y O O O Ky O O O<|Ln<|Es ?_;refine m8.e O (λ_ h=>by exact (Wt 5<|((((h.f 9 O).f 9 O).f 9 O).f 8 O).f 6 O:)) ?_;refine V0 (bP O)<|Ln<|Es ?_;refine m8.e O (λ_ h=>by exact (Wt 5<|((((h.f 9 O).f 9 O).f 9 O).f 8 O).f 6 O:)) ?_;refine V0 (Yf CF O)<|Ln<|Es ?_;refine m8.e O (λ_ h=>by exact (Wt 5<|((((h.f 9 O).f 9 O).f 9 O).f 8 O).f 6 O:)) ?_;refine aq 6 Y O O O cq O O O<|Ln<|Es ?_;refine m8.nil (λ_ h=>by exact (Wt 5<|((((h.f 9 O).f 9 O).f 9 O).f 8 O).f 6 O:)) ?_;refine Et<|Cr<|ad O<|V0 (Yf t' O)<|V0 (Yd 2 O O O ah)<|V0 (n7 (a:=eF<|l.take g.i) (b:=u.data.toNat) O O O aj aj)<|ar O<|Ln<|Eb<|Et<|Cr<|V0 (Yi O O O aj) ?_;refine ad O<|Ln ?_;rw [<-a1,<-a2];exact cU (⟨g.i+1,g.es++[(g.i::u.aI.map (mR l),j.2)],(S,T),(U,W),a9⟩:vW) (by show _-(g.i+1)<_;omega) ⟨by show g.i+1<=_;omega,by show (g.es++[(g.i::u.aI.map (mR l),j.2)]).map (·.1)=_;rw [nY,C,Ij m];rfl,Xs.snoc (R:=rh) (λhv h=>rh.mv hv h) ap bb a_ a8⟩<|λ_ h=>Wd 3 h
  refine WV.e O (cn [1,1]) (λ_ h=>by exact (Wt 5<|((((h.f 7 O).f 7 O).f 7 O).f 6 O).f 4 O:)) ?_ WU.stop;refine Lb Y O fY O O O O λbw=>?_;refine dK 0 (.cells (kT<|eF<|l.take g.i).toArray 3 (0,0)) O O<|Ln<|Eu ?_;refine WV.e O (λ_ h=>(Wo 1<|Wo 1<|Wd 1 h:)) (λ_ h=>by exact (Wt 5<|((((h.f 8 O).f 8 O).f 8 O).f 7 O).f 5 O:)) ?_ WU.stop;refine Lb Y O lp O O O O λb6=>?_;refine dK 0 (.cells (XI.cells (g.i::u.aI.map (mR l),j.2)).toArray 29 (0,0)) O O<|Ln<|Eu ?_;refine WV.e O (λ_ h=>(Wo 1<|Wo 1<|Wd 2 h:)) (λ_ h=>by exact (Wt 5<|((((h.f 9 O).f 9 O).f 9 O).f 8 O).f 6 O:)) ?_ WU.stop;refine LA ((g.i::u.aI.map (mR l),j.2):XI) 3 0 Y O lp O O O O O O aj aj λS T=>?_;refine Ln<|Eu ?_;refine WV.e O (λ_ h=>(Wo 1<|Wo 1<|Wd 2 h:)) (λ_ h=>by exact (Wt 5<|((((h.f 9 O).f 9 O).f 9 O).f 8 O).f 6 O:)) ?_ WU.stop;refine LA (eF<|l.take g.i) 4 1 Y O fY O O O O O O aj aj λU W=>?_;refine Ln<|Eu ?_;refine WV.q O Y O (λ_ h=>(Wo 1<|Wo 1<|Wd 2 h:)) (λ_ h=>by exact (Wt 5<|((((h.f 9 O).f 9 O).f 9 O).f 8 O).f 6 O:)) (bP O) ?_;refine WV.q O Y O (λ_ h=>(Wo 1<|Wo 1<|Wd 2 h:)) (λ_ h=>by exact (Wt 5<|((((h.f 9 O).f 9 O).f 9 O).f 8 O).f 6 O:)) (Yf Aj O) ?_;refine WU.nil (λ_ h=>(Wo 1<|Wo 1<|Wd 2 h:)) ?_;refine m8.e O (λ_ h=>by exact (Wt 5<|((((h.f 9 O).f 9 O).f 9 O).f 8 O).f 6 O:)) ?_;refine aq 6 Y O O O Ky O O O<|Ln<|Es ?_;refine m8.e O (λ_ h=>by exact (Wt 5<|((((h.f 9 O).f 9 O).f 9 O).f 8 O).f 6 O:)) ?_;refine V0 (bP O)<|Ln<|Es ?_;refine m8.e O (λ_ h=>by exact (Wt 5<|((((h.f 9 O).f 9 O).f 9 O).f 8 O).f 6 O:)) ?_;refine V0 (Yf CF O)<|Ln<|Es ?_;refine m8.e O (λ_ h=>by exact (Wt 5<|((((h.f 9 O).f 9 O).f 9 O).f 8 O).f 6 O:)) ?_;refine aq 6 Y O O O cq O O O<|Ln<|Es ?_;refine m8.nil (λ_ h=>by exact (Wt 5<|((((h.f 9 O).f 9 O).f 9 O).f 8 O).f 6 O:)) ?_;refine Et<|Cr<|ad O<|V0 (Yf t' O)<|V0 (Yd 2 O O O ah)<|V0 (n7 (a:=eF<|l.take g.i) (b:=u.data.toNat) O O O aj aj)<|ar O<|Ln<|Eb<|Et<|Cr<|V0 (Yi O O O aj) ?_;refine ad O<|Ln ?_;rw [<-a1,<-a2];exact cU (⟨g.i+1,g.es++[(g.i::u.aI.map (mR l),j.2)],(S,T),(U,W),a9⟩:vW) (by show _-(g.i+1)<_;omega) ⟨by show g.i+1<=_;omega,by show (g.es++[(g.i::u.aI.map (mR l),j.2)]).map (·.1)=_;rw [nY,C,Ij m];rfl,Xs.snoc (R:=rh) (λhv h=>rh.mv hv h) ap bb a_ a8⟩<|λ_ h=>Wd 3 h
 have bx:g.i=l.length:=by simp at aW;omega
 rw [bx,show (k9 l 0).take l.length=k9 l 0 from i' (by rw [Il];omega),gJ];have C:=C.trans (by rw [bx,i' (by rw [NO];omega)]);refine Ce<|Ex<|Ex<|dy<|Et<|Cs ?_;refine CU (nB [.cell 6 64,.cell 7 30]) [] [6] (.q true 0<|.q false 1<|.e 2 (.q false 3<|.q false 4<|.q false 5 .nil) .stop) mixed ah (λ_ _ _ _ _ bc h=>qh (fn:=f25) [.cell 6 64,.cell 7 30] O bc h) ?_;refine U0 O aR (Yd 4 O O O ah)<|U0 O aR (Ym O) ?_;refine Ue O aR ?_ WU.stop;refine WL.make Y O fY O O aj aj aj aj λaw=>?_;refine dK 0 (.cells ((List.replicate (eF l) (0:Int)).flatMap hY).toArray 3 (0,0)) O (by rw [m4,SE])<|LW (λ_ h=>h.qZ (f:=hY) (xs:=List.replicate (eF l) 0) (c:=eF l) 0 O kS aG (by unfold maxLen;omega))<|Ln<|Eu<|U0 O (λ_ h=>(Wd 1 h:)) (bP O)<|U0 O (λ_ h=>(Wd 1 h:)) (Yf s5 O)<|U0 O (λ_ h=>(Wd 1 h:)) (Yf ix O) ?_;refine WU.nil (λ_ h=>(Wd 1 h:)) ?_;refine WS.e O ?_;refine aq 4 Y O O O cq O O O<|Ln<|Es ?_;refine WS.nil ?_;refine Et<|ai<|V0 (vC O) ?_;refine WL.defer Y O ?_;refine ag<|Cs<|Cs ?_;refine WC.cK (rd:=NP) 1 O XI.dA fp λb9 b'=>?_;refine WC.cK (rd:=rb) 1 O zm fp λca cb=>?_;refine WC.jJ λc3 cc cd c4=>?_;refine WC.jJ λc6 bz ce c7=>?_;refine WC.jJ λc9 bd cf c'=>?_;refine WC.jJ λN aA be c_=>?_;have cg:g.es.length=(qx l).length:=by rw [<-C,fK]
 have ch:cV ca N:=cV.trans cc<|cV.trans bz<|cV.trans bd aA;have cj:cV b9 N:=cV.trans cd<|cV.trans bz<|cV.trans bd aA;have ck:cV g.J N:=cV.trans ce<|cV.trans bd aA;have cl:cV al N:=cV.trans cf aA;have bB:iq N n (⟨(a,c),g.ua,g.ba⟩:KW) l bY.toNat:=⟨F,aj,G.imp<|VP be n,by rw [<-C];exact VN b' cj ck ap,cb.imp<|NQ ch⟩;have cm:j3 N (bj l bY.toNat) (eF l) 0 (⟨uL l bI,v,(none,0),(some ⟨aw,0,none⟩,eF l)⟩:fB):=⟨bH.imp λb o x h=>ct.mono cl h,by show 0<=200;decide,de _,by show (List.replicate (eF l) 0).length=_;simp,rfl⟩;obtain ⟨z,aD⟩:∃z,z=(⟨(a,c),g.ua,g.ba⟩:KW):=⟨_,rfl⟩;rw [<-aD] at bB;have co:z.l=(a,c):=by rw [aD]
 have cp:z.u=g.ua:=by rw [aD]
 have cs:z.b=g.ba:=by rw [aD]
 refine oO (λ_ h=>h.bJ 3 1) ?_;refine gL 3 (ng 180 z (bj l bY.toNat) (⟨uL l bI,v,(none,0),(some ⟨aw,0,none⟩,eF l)⟩:fB)) rfl (by unfold ng;rw [co,cp,cs,show (bj l bY.toNat).aI=qx l from rfl,<-cg,show ((bj l bY.toNat).a5:Int)=bY from Int.toNat_of_nonneg bF.1,show (⟨uL l bI,v,(none,0),(some ⟨aw,0,none⟩,eF l)⟩:fB).w.data.length=eF l from C5,show (bj l bY.toNat).kC=k9 l 0 from rfl];rfl) ?_;refine Cr<|ad O<|V0 (Yn nU O)<|ad O<|ag<|Cb ?_;refine dZ (ι:=Nat×fB) (λt=>[(104,.int .i64 (t.1:Int))]) [(6,_),(7,_),(9,_),(102,_),(103,_)] (λt=>Ws w [] ((ez 180 3 B z (bj l bY.toNat) t.2)++[aJ P<|.cells #[.pointer (some ⟨B,0,none⟩)] 177 (0,0),aJ K<|.cells (Value.cells<|.int .i64 0) 30 (0,0),aJ M<|.cells (Value.cells<|.agg #[.int .i64 0,.slice none 0 0,.slice none 0 0,.int .i64 0]) 64 (0,0)]) [N]) (λt=>t.1<=l.length/\j3 N (bj l bY.toNat) (eF l) 0 t.2/\ha (bj l bY.toNat) l 0 (uL l bI)=ha (bj l bY.toNat) (l.drop t.1) t.1 t.2.w) (λt=>l.length-t.1) (0,(⟨uL l bI,v,(none,0),(some ⟨aw,0,none⟩,eF l)⟩:fB)) ⟨de _,cm,O⟩ (λ_ h=>by exact (Wt 6<|(((((h.f 6 O).f 6 O).f 6 O).f 4 O).f 4 O).f 6 O:)) ?_;intro t ⟨da,cu,bi⟩;refine ai<|V0 (cP O O)<|ag<|Cs ?_;refine Cc O (λbk=>?_)<|λbk=>?_
 ·have D:t.1<l.length:=by simpa using bk
  obtain ⟨u,m⟩:=dO D;obtain ⟨bM,bN,aX,aY⟩:=G.b7 t.1 u m;obtain ⟨L,aZ,Q⟩:=aY;have cv:h8 (ey u::gB l u) ((([]:List Int).length:Nat):Int) u.main 1=true:=(Ej<|F.hJ u<|dJ m).2.1;refine bO<|Cs<|Cb<|ai<|ad O<|V0 (Yo nU O O aX D)<|V0 (dG 0 l9 O O O<|ct.mono be aZ) ?_;refine Al Y O ft λdb=>?_;refine ar O<|aq 0 Y O O O rT O O O<|ag<|gL 0 (.cells (hX u L).toArray 37 (0,0)) O O ?_;refine oO (λ_ h=>h.bJ 3 1) ?_;refine Cr<|V0 (Yd 5 O O O ah)<|ad O<|V0 (Yf FE O)<|V0 (Yd 1 O O O ah)<|Lf 4 O<|Lf 4 O<|Lf 4 O ?_;refine hR (ι:=_) (κ:=_) [_,_,_,_] _ Y O bf O O _ _ _ _ _ _ [N] aG (λw k=>SM N n z l bY.toNat B bB 25 0 O aj t.1 u (none,0) [] u.main L.s3.1 L.s3.2 n n t.2 w cu m (vK Q.main be) cv k) ?_ ?_;·intro y bm;refine WE.aF<|Ep<|Ep<|WE.aF<|Ep ?_;refine WE.front 0 O ?_;refine WE.front 5 O ?_;refine WE.front 6 O ?_;refine WE.front 6 O ?_;refine WE.r7 bf (pC [_,_,_,_] _ _ O<|λw k=>adr P M K B z (bj l bY.toNat) y.2 y.1 _ _ _ _ _ w k) (hG O (e1 1 O O j4 O)<|jb 2 O O O ah) λA k=>?_;have bn:(rf l bI bY)=zg y.2.w y.1:=VL p<|bi.trans<|(NM _ m).trans<|jM bm;rw [bn,p];exact ⟨((y.2.o.1,y.2.o.2),(y.2.d.1,y.2.d.2)),O,k.fr,k.jF 4 O kS fp,k.jF 5 O kS fp⟩
  intro y ⟨bm,cx⟩;refine Ln<|Eb<|Et<|Cr<|V0 (Yi O O O aj)<|ad O<|Ln ?_;exact cU ((t.1+1,y.2):Nat×fB) (by show _-(t.1+1)<_;omega) ⟨by show t.1+1<=_;omega,cx,bi.trans<|(NM _ m).trans<|gO bm⟩ (λ_ h=>by exact (Wt 6<|(((((h.f 6 O).f 6 O).f 6 O).f 5 O).f 5 O).f 5 O:))
 have cy:l.length<=t.1:=by simp at bk;omega
 refine Ce<|Ex<|Ex<|dy<|Et<|ai<|V0 (Yd 3 O O O ah)<|V0 (bP O)<|V0 (Yf s5 O)<|V0 (dv 0 O O j4 O)<|aq 5 Y O O O l0 O O O<|aq 4 Y O O O nj O O O ?_;refine ag<|bq ?_;refine WE.front 4 O ?_;refine WE.GR bf (pC [_] _ [aJ K<|.cells #[.int .i64 0] 30 (0,0)] O<|λw k=>adq P M K _ w k) (hG O (e1 5 O O j4 O)<|jb 0 O O O ah) λA k=>?_;have bn:(rf l bI bY)=zg t.2.w 0:=VU p<|bi.trans<|VJ _ cy;rw [bn,p];exact ⟨((t.2.o.1,t.2.o.2),(t.2.d.1,t.2.d.2)),O,k.fr,k.jF 2 O kS fp,k.jF 3 O kS fp⟩
end Go.Proofs.YtgeahfjicmlocaaGreatDoor
end
section
namespace Go.Proofs.YtgeahfjicmlocaaGreatDoor.Mch
open Go.Bw Go.Proofs.Tryz
structure St where
 at_:Z
 bL:I ab
 fr:I<|I ab×ab
 w:Wm
def St.m (L s:Z) (x:St):Pm:=⟨(x.at_:ab),(L:ab),(s:ab),x.bL,x.fr,x.w.bI,x.w.out,x.w.data,(x.w.bY:ab)⟩
structure Cd (C:I cS) (L N:Z):Prop where
 hN:N<=134217728
 hC:C.length<=2048
 hL:L<=2000
def Gx (C:I cS) (L N n:Z) (x y:St):Prop:=∀s,s+n<=N->∀k,runK C N (n+k) (x.m L s)=runK C N k (y.m L<|s+n)
def Xx (C:I cS) (L N n:Z) (x:St) (e:ab) (w:Wm):Prop:=(e≠6/\e≠7)/\∀s,s+n<=N->∀k,∃m',runK C N (n+k) (x.m L s)=(e,m')/\m'.out=w.out/\m'.data=w.data/\m'.bY=(w.bY:ab)
section
variable {C:I cS} {L N:Z}
def Gx.refl (x:St):Gx C L N 0 x x:=λs _ k=>by rw [k0,vq]
variable {ae aH:Z}
def Gx.trans {x y a:St} (h:Gx C L N ae x y) (k:Gx C L N aH y a):Gx C L N (ae+aH) x a:=λs b q=>by rw [uf,h s aj<|aH+q,k (s+ae) aj q,uf]
def Gx.x {x y:St} {e:ab} {w:Wm} (h:Gx C L N ae x y) (k:Xx C L N aH y e w):Xx C L N (ae+aH) x e w:=⟨k.1,λs a q=>by rw [uf,h s aj<|aH+q];exact k.2 (s+ae) aj q⟩
variable {p:Z} {a b v v2:ab} {bL:I ab} {fr:I<|I ab×ab} {w:Wm}
end
def KK:Z:=2050
def Sm {a α:Type} (C:I cS) (L N B:Z) (d:a->Prop) (c:a->Wm) (w:Wm) (x:St) (r:Bw.Rz a α) (y:α->a->St):Prop:=match r with| .ok v f=>∃n,d f/\w.bY<=(c f).bY/\n<=B+KK*((c f).bY-w.bY)/\Gx C L N n x (y v f)| .ov e b=>∃n,w.bY<=b.bY/\n<=B+KK*(b.bY-w.bY+1)/\Xx C L N n x e b
section
variable {C:I cS} {L N:Z}
def adx {a b c:Z} (h:a<=b) (k:b<=c):KK*(b-a)+KK*(c-b)=KK*(c-a):=by rw [<-Gw];congr 1;omega
variable {ae aH:Z}
def ady (h:ae<=aH):KK*ae<=KK*aH:=K7 _ h
variable {bW ju:Type} {Ak:bW->Prop} {An:bW->Wm} {h9:Wm} {bk:St} {xY:ju->bW->St}
def Sm.ok {v:ju} {f:bW}  (a:Ak f) (b:h9.bY=(An f).bY) (c:aH<=ae) (h:Gx C L N aH bk<|xY v f):Sm C L N ae Ak An h9 bk (.ok v f) xY:=⟨aH,a,aj,aj,h⟩
def Sm.ov {a α:Type}  {c:a->Prop} {d:a->Wm} {w b:Wm}  {e:ab} {y:α->a->St} (f:w.bY<=b.bY) (g:aH<=ae+KK) (h:Xx C L N aH bk e b):Sm C L N ae c d w bk (.ov e b:Bw.Rz a α) y:=⟨aH,f,by have:=ady (show 1<=b.bY-w.bY+1 by omega);omega,h⟩
variable {z4:Bw.Rz bW ju}
def Sm.mono (h:Sm C L N ae Ak An h9 bk z4 xY) (g:ae<=aH):Sm C L N aH Ak An h9 bk z4 xY:=by cases z4 with| ok v f=>obtain ⟨n,a,b,c,d⟩:=h;exact ⟨n,a,b,aj,d⟩| ov e i=>obtain ⟨n,a,b,c⟩:=h;exact ⟨n,a,aj,c⟩
def Sm.pre {x b:St}   (g:Gx C L N aH x b) (h:Sm C L N ae Ak An h9 b z4 xY):Sm C L N (aH+ae) Ak An h9 x z4 xY:=by cases z4 with| ok v f=>obtain ⟨m,a,c,d,i⟩:=h;exact ⟨aH+m,a,c,aj,g.trans i⟩| ov e j=>obtain ⟨m,a,c,d⟩:=h;exact ⟨aH+m,a,aj,g.x d⟩
def Sm.bind {a c α β:Type}  {l:a->Prop} {o:c->Prop} {b:a->Wm} {p:c->Wm} {w:Wm}  {r:Bw.Rz a α} {g:α->a->Bw.Rz c β} {y:α->a->St} {q:β->c->St} (h:Sm C L N ae l b w bk r y) (k:∀v f,r = .ok v f->l f->w.bY<=(b f).bY->Sm C L N aH o p (b f) (y v f) (g v f) q):Sm C L N (ae+aH) o p w bk (match r with| .ok v f=>g v f| .ov e w=>.ov e w) q:=by
 cases r with
 | ok v f=>
  obtain ⟨n,i,j,s,t⟩:=h;have d:=k v f rfl i j;dsimp only;cases u:g v f with
  | ok F G=>rw [u] at d;obtain ⟨m,z,A,B,E⟩:=d;have:=adx j A;exact ⟨n+m,z,aj,aj,t.trans E⟩
  | ov e D=>
   rw [u] at d;obtain ⟨m,z,A,B⟩:=d;have H:KK*((b f).bY-w.bY)+KK*(D.bY-(b f).bY+1)=KK*(D.bY-w.bY+1):=by rw [<-Gw];congr 1;omega
   exact ⟨n+m,aj,aj,t.x B⟩
 | ov e J=>obtain ⟨n,i,j,s⟩:=h;exact ⟨n,i,aj,s⟩
def Sm.bd {a α β:Type}  {c d:a->Prop} {b e:a->Wm}   {r:Bw.Rz a α} {g:α->a->Bw.Rz a β} {y:α->a->St} {i:β->a->St} (h:Sm C L N ae c b h9 bk r y) (k:∀v f,r = .ok v f->c f->h9.bY<=(b f).bY->Sm C L N aH d e (b f) (y v f) (g v f) i):Sm C L N (ae+aH) d e h9 bk (r.bind g) i:=Sm.bind h k
def Sm.fr {a:Wm->Prop} {b:Fm->Prop} {w:Wm}  {r:Bw.Rz Wm bW} {y:bW->Wm->St} {c:bW->Fm->St} {f:Fm} (h:Sm C L N ae a id w bk r y) (d:∀w,a w->b { f with w:=w }) (g:∀v w,y v w=c v { f with w:=w }):Sm C L N ae b Fm.w w bk (Bw.Rz.fr f r) c:=by cases r with| ok v i=>obtain ⟨n,j,k,l,m⟩:=h;exact ⟨n,d _ j,k,l,by rw [<-g];exact m⟩| ov e i=>exact h
end
abbrev Cr:=Z->Z->Prop
def bK (C:I cS) (p:Z) (op a b:ab):Prop:=C[p]? = aa ⟨op,a,b⟩
def r0 (ks:I Cr) (i:Z):Cr:=(ks[i]?).getD λ_ _=>False
def CJ:I Cr->Cr| [],p,q=>p=q| k::r,p,q=>∃t,k p t/\CJ r t q
def adz (C:I cS) (a b:Cr) (p q:Z):Prop:=∃t r,a p t/\bK C t 12 ((r+2:Z):ab) 0/\b (t+1) r/\bK C r 22 0 0/\bK C (r+1) 11 ((r+3:Z):ab) 0/\bK C (r+2) 1 0 0/\q=r+3
def afW (C:I cS) (a b:Cr) (p q:Z):Prop:=∃t r,a p t/\bK C t 12 ((t+3:Z):ab) 0/\bK C (t+1) 1 1 0/\bK C (t+2) 11 ((r+1:Z):ab) 0/\b (t+3) r/\bK C r 22 0 0/\q=r+1
def adB (C:I cS) (a:ab->ab) (b:ab->ab->Z) (op n m pl:ab) (ks:I Cr) (p q:Z):Prop:= if op=1 then bK C p 1 n 0/\q=p+1 else if op=2 then bK C p 18 0 0/\q=p+1 else if op=16 then bK C p 2 pl 0/\q=p+1 else if op=3 then bK C p 4 (pl+a m) 0/\q=p+1 else if op=4 then ∃t,r0 ks 0 p t/\bK C t 6 (pl+a m) n/\bK C (t+1) 7 0 0/\q=t+2 else if op=5 then ∃t,CJ ks p t/\bK C t 13 (b m pl:Z) 0/\q=t+1 else if op=6 then ∃t,CJ ks p t/\bK C t 9 0 0/\q=t+1 else if op=7 then adz C (r0 ks 0) (r0 ks 1) p q else if op=8 then afW C (r0 ks 0) (r0 ks 1) p q else ∃t,CJ ks p t/\bK C t 10 op 0/\q=t+1
mutual
def adC (C:I cS) (a:ab->ab) (b:ab->ab->Z):e3->Cr| .mk op n m pl args=>adB C a b op n m pl<|KA C a b args
def KA (C:I cS) (a:ab->ab) (b:ab->ab->Z):I e3->I Cr| []=>[]| x::r=>adC C a b x::KA C a b r
end
def af0 (C:I cS) (a body other:Cr) (b:Z) (p q:Z):Prop:=∃t r,a p t/\body (t+1) r/\if 0<b then bK C t 12 ((r+1:Z):ab) 0/\bK C r 11 (q:Z) 0/\other (r+1) q else bK C t 12 (r:Z) 0/\q=r
def adE (C:I cS) (a body:Cr) (p q:Z):Prop:=∃t r,a p t/\bK C t 12 (q:Z) 0/\bK C (t+1) 16 0 0/\body (t+2) r/\bK C r 11 (p:Z) 0/\q=r+1
def adF (C:I cS) (a:ab->ab) (b:ab->ab->Z) (op n m pl:ab) (ks:I Cr) (body other:Cr) (c:Z) (p q:Z):Prop:= if op=1 then ∃t,r0 ks 0 p t/\(if m<0 then bK C t 3 pl 0 else bK C t 5 (pl+a m) 0)/\q=t+1 else if op=2 then ∃t r,r0 ks 0 p t/\bK C t 6 (pl+a m) n/\r0 ks 1 (t+1) r/\bK C r 8 0 0/\q=r+1 else if op=3 then ∃t,CJ ks p t/\bK C t 13 (b m pl:Z) 0/\bK C (t+1) 17 0 0/\q=t+2 else if op=4 then af0 C (r0 ks 0) body other c p q else if op=5 then adE C (r0 ks 0) body p q else if op=6 then ∃t,r0 ks 0 p t/\bK C t 15 0 0/\q=t+1 else if op=7 then ∃t,r0 ks 0 p t/\bK C t 19 0 0/\q=t+1 else q=p
mutual
def adG (C:I cS) (a:ab->ab) (b:ab->ab->Z):ep->Cr| .mk op n m pl args body other=>adF C a b op n m pl (KA C a b args) (F1 C a b body) (F1 C a b other) other.length
def F1 (C:I cS) (a:ab->ab) (b:ab->ab->Z):I ep->Cr| []=>λp q=>p=q| x::r=>λp q=>∃t,adG C a b x p t/\F1 C a b r t q
end
def SO (C:I cS) (a:ab->ab) (b:ab->ab->Z) (params locals:ab) (body:I ep) (p q:Z):Prop:=∃t,bK C p 14 params locals/\F1 C a b body (p+1) t/\bK C t 1 0 0/\bK C (t+1) 15 0 0/\q=t+2
def F2 (P:Env) (u:Z) (m:ab):ab:=(((P.kC[P.mod u m]?).getD 0:Z):ab)
def KB (P:Env) (a:Z->Z->Z) (u:Z) (m pl:ab):Z:=a (P.mod u m) pl.toNat
structure Wi (L D cc:Z) (w:Wm):Prop where
 calls:w.calls=cc
 bY:w.bY<=L
 data:w.data.length=D
def af1 (C:I cS) (L N c b:Z) (call:Cl) (j:Z) (d f:ab) (bd:I ep) (e:Z):Prop:=∀(a:Z) (vs bL:I ab) (fr:I<|I ab×ab) (w:Wm),bK C a 13 (e:ab) 0->(vs.length:ab)=d->fr.length=b+1->bL.length<=16*b+20->Wi L c b w-> Sm C L N 1 (Wi L c b) id w ⟨a,vs.reverse++bL,fr,w⟩ (call j (vs++gI f.toNat 0) bd w) (λv g=>⟨a+1,v::bL,fr,g⟩)
structure UnS (C:I cS) (L N D cc:Z) (P:Env) (call:Cl) (pt:Z->Z->Z) (u:Z) (kn:I e8):Prop where
 data:∀{m pl n:ab},k6 kn m pl n=ac->0<=n->0<=pl/\(∀i:Z,((P.at_ u m<|pl+i:Z):ab)=pl+F2 P u m+i)/\pl+F2 P u m+n<=(D:ab)
 gu:∀{m pl:ab} {k:Z},mL kn m pl (k:ab)=ac->k<=3
 part:∀{m pl n:ab},mL kn m pl n=ac->∃(p:bT),((P.l[P.mod u m]?).bind λx=>x.parts[pl.toNat]?)=aa p/\p.params=n/\af1 C L N D cc call (P.mod u m) p.params p.locals p.body (KB P pt u m pl)
structure Fi (L D cc nl:Z) (f:Fm):Prop where
 w:Wi L D cc f.w
 loc:f.loc.length=nl
def Sq (q back:Z) (bL:I ab) (fr:I<|I ab×ab) (t:aQ) (f:Fm):St:=if t=ac then ⟨back,f.val::bL,fr,f.w⟩ else ⟨q,bL,(f.loc,(back:ab))::fr,f.w⟩
section
variable {C:I cS} {L N D cc nl:Z} {P:Env} {call:Cl} {pt:Z->Z->Z} {u:Z} {kn:I e8}
def Sm.after {B n:Z} {w:Wm} {x:St} {a:Fm->Prop} {r:Bw.Rz Fm aQ} {q b back:Z} {bL:I ab} {fr:I<|I ab×ab} (h:Sm C L N B a Fm.w w x r<|Sq q back bL fr) (g:∀f:Fm,Gx C L N n ⟨q,bL,(f.loc,(back:ab))::fr,f.w⟩ ⟨b,bL,(f.loc,(back:ab))::fr,f.w⟩):Sm C L N (B+n) a Fm.w w x r<|Sq b back bL fr:=by cases r with| ov e j=>exact Sm.mono h aj| ok t f=>obtain ⟨m,c,d,k,i⟩:=h;cases t with| true=>exact ⟨m,c,d,aj,i⟩| false=>exact ⟨m+n,c,d,aj,i.trans<|g f⟩
end
section
variable {P:Env} {call:Cl} {u:Z}
def VK (v:ab) (r:Bw.Rz Fm aQ):Prop:=∀a,r = .ok au a->a.val=v
variable {aP:ab}
def VK.bd {α:Type} {r:Bw.Rz Fm α} {g:α->Fm->Bw.Rz Fm aQ} (h:∀a s,r = .ok a s->VK aP (g a s)):VK aP<|r.bind g:=λc e=>by cases b:r with| ok a s=>rw [b] at e;exact h a s b c e| ov x w=>rw [b] at e;cases e
def VK.ok {f:Fm}  {b:aQ} (h:f.val=aP):VK aP<|.ok b f:=λc e=>by injection e with d a;subst a;exact h
end
structure Lkd (C:I cS) (l:I cD) (L:Z) (pt:Z->Z->Z) (SQ:Z->Z):Prop where
 parts:∀{j:Z} {z:cD} {q:Z} {p:bT},l[j]? = aa z->z.parts[q]? = aa p->∃q',SO C (F2 (bj l L) j) (KB (bj l L) pt j) p.params p.locals p.body (pt j q) q'
 agl:∀{j:Z} {z:cD},l[j]? = aa z->∃q',SO C (F2 (bj l L) j) (KB (bj l L) pt j) 0 0 z.main (SQ j) q'
 agm:∀{j:Z},j<l.length->bK C j 13 (SQ j:Z) 0
 halt:bK C l.length 20 0 0
def af2 (x:c'):cS:=⟨x.op,x.a,x.b⟩
abbrev Vl:=hT->ab->ab
def wK (fs:I hT) (p:Z):az hT:=fs.find? λf=>f.at_==(p:ab)
def Vg (val:Vl) (g:Gs) (p:Z):az c':=(g.code[p]?).map λi=>match wK g.fix p with| ak=>i| aa f=>⟨i.op,val f i.a,i.b⟩
def Wf (g:Gs):Prop:=∀f ∈ g.fix,∃p:Z,f.at_=(p:ab)/\p<g.code.length
structure Ex (g g':Gs):Prop where
 lo:g.code.length<=g'.code.length
 code:∀p,p<g.code.length->g'.code[p]? = g.code[p]?
 fix:∀p,p<g.code.length->wK g'.fix p=wK g.fix p
 wf:Wf g->Wf g'
def Ex.refl (g:Gs):Ex g g:=⟨eC _,λ_ _=>rfl,λ_ _=>rfl,id⟩
def Ex.trans {g b c:Gs} (h:Ex g b) (k:Ex b c):Ex g c:=⟨qa h.lo k.lo,λp a=>(k.code p<|CQ a h.lo).trans<|h.code p a,λp a=>(k.fix p<|CQ a h.lo).trans<|h.fix p a,λw=>k.wf<|h.wf w⟩
def adJ {fs:I hT} {p:Z} (h:∀f ∈ fs,f.at_≠(p:ab)):wK fs p=ak:=by unfold wK;rw [I.find?_eq_none];intro f a;simpa using h f a
def adK {a b:I hT} {p:Z} (h:∀f ∈ b,f.at_≠(p:ab)):wK (a++b) p=wK a p:=by have:=adJ h;unfold wK at this ⊢;rw [I.find?_append,this];cases I.find? (λf=>f.at_==(p:ab)) a<;>rfl
def Ap.ex {U:Z} {o:ab->ab->Prop} {r:I Z} {g d:Gs} (h:Ap U o r g d):Ex g d:=by
 obtain ⟨c,fx,s,k,u,t,v⟩:=h.more;have l:∀f ∈ fx,∃p:Z,f.at_=(p:ab)/\g.code.length<=p/\p<d.code.length:=λf a=>by obtain ⟨p,i,a1,a2,a3,_⟩:=t f a;exact ⟨p,a1,a3,(c_.1 a2).1⟩
 refine ⟨h.lo,λp m=>by rw [s,Aw m],λp m=>?_,λw f a=>?_⟩;·rw [k];refine adK λf a e=>?_;obtain ⟨q,b,j,n⟩:=l f a;rw [b] at e;omega
 ·rw [k] at a;rcases bm.1 a with a | a;·obtain ⟨p,b,j⟩:=w f a;exact ⟨p,b,CQ j h.lo⟩
  ·obtain ⟨q,b,j,n⟩:=l f a;exact ⟨q,b,n⟩
section
variable {val:Vl} {g g':Gs} {p n:Z}
def adL (h:Ex g g') (a:p<g.code.length):Vg val g' p=Vg val g p:=by unfold Vg;rw [h.code p a,h.fix p a]
end
structure VOk (val:Vl) (b:Z) (dm:ab->ab) (pm:ab->ab->Z) (kn:I e8):Prop where
 j:∀(at_ a:ab),val ⟨at_,1,0⟩ a=a+b
 p:∀{at_ m pl n:ab},mL kn m pl n=ac->val ⟨at_,2,m⟩ pl=(pm m pl:Z)
 d:∀{at_ m pl n:ab},k6 kn m pl n=ac->0<=n->val ⟨at_,3,m⟩ pl=pl+dm m
def Hc (C:I cS) (b:Z) (val:Vl) (g:Gs) (lo hi:Z):Prop:=∀p,lo<=p->p<hi->C[b+p]? = (Vg val g p).map af2
section
variable {C:I cS} {b:Z} {val:Vl} {dm:ab->ab} {pm:ab->ab->Z} {kn:I e8} {U:Z} {Pk:ab->ab->Prop}
variable {iM F3:Gs}
def Hc.to {lo hi a c:Z} (h:Hc C b val F3 lo hi) (d:lo<=a) (f:c<=hi) (e:∀p,a<=p->p<c->Vg val F3 p=Vg val iM p):Hc C b val iM a c:=λp a1 a2=>by rw [h p aj aj,e p a1 a2]
variable {ae aH aK:Z}
def Hc.ex (h:Hc C b val F3 ae aH) (x:Ex iM F3) (a:ae<=aK) (c:iM.code.length<=aH):Hc C b val iM aK iM.code.length:=h.to a c λp _ a2=>adL x a2
def Hc.at {i:c'} (h:Hc C b val iM ae aH) (c:ae<=aK) (d:aK<aH) (e:Vg val iM aK=aa i):bK C (b+aK) i.op i.a i.b:=by unfold bK;rw [h aK c d,e];rfl
def Gc (C:I cS) (b:Z) (val:Vl) (k:Gk) (r:Cr):Prop:=∀g,Wf g->Ex g (k g)/\(Hc C b val (k g) g.code.length (k g).code.length->r (b+g.code.length) (b+(k g).code.length))
def Gc.imp {k:Gk} {r a:Cr} (h:Gc C b val k r) (c:∀p q,r p q->a p q):Gc C b val k a:=λg w=>⟨(h g w).1,λH=>c _ _<|(h g w).2 H⟩
end
section
variable {C:I cS} {b:Z} {val:Vl} {dm:ab->ab} {pm:ab->ab->Z} {kn:I e8} {U:Z} {Pk:ab->ab->Prop}
def pc {l:I e3} {i:Z} {y:e3} (h:l[i]? = aa y):mP (ne l) i=fz y:=by unfold mP;rw [xy,gh,h];rfl
end
section
variable {l:I cD}
def adM (a:sm l) {u:cD} (b:u ∈ l):sq u=ac:=WY (H2.2 a) b
def adN (b:sm l) (c:∀u ∈ l,(iu u).2=0):hs (BX l)=bh l:=by unfold hs BX bh;rw [CV];refine Av λu a=>?_;show (iu u).1.to.nm=u.nm;rw [(PU (adM b a)<|c u a).1];rfl
def lF (a:sm l) (g:∀u ∈ l,(iu u).2=0) {n:Z} {u:cD} (i:l[n]? = aa u) {b j:Z} (h:(n::u.aI.map λs=>(idxOf s (bh l) 0).getD 0)[b]? = aa j):jx (BX l) n (sr u).to b=j:=by unfold jx qG;cases b with| zero=>simp at h;subst h;rfl| succ t=>rw [lM,gh] at h;obtain ⟨s,c,e⟩:=eD.1 h;obtain ⟨p,o,d,m,q⟩:=H3 a i<|dJ c;rw [d] at e;simp at e;subst e;rw [show ((t+1:Z):ab).toNat=t+1 from rfl,lM,gh,show (sr u).to.aI=u.aI from rfl,c,eI,px];unfold tJ;rw [adN a g];have f:=(sd d).2;rw [p_] at f;rw [Jj (k:=0) (j:=p) (a.nd.sublist<|I.take_sublist _ _) (by rw [b8,aU m,f])];simp
end
end Go.Proofs.YtgeahfjicmlocaaGreatDoor.Mch
end
section
namespace Go.Bw
open Go Go.RowKit
section
variable {P:aV} {Q:aO->aN->aL->Prop} {n:Z} {ds:I e'} {l:I<|Z×aT} {W:aL->Prop}
def WC.scope {c:Code} (h:WC P c (aO.noGoto Q) n ds l W):WC P (.scope c) Q n ds l W:=λa w b d=>wp_scope_straight<|h a w b d
def WC.label {i:Z} (h:WE Q .normal n ds l W):WC P (.label i) Q n ds l W:=λa w b c=>wp_label<|h a w b c
def WE.KG (h:WE Q .ret n ds l W):WE (aO.noGoto Q) .ret n ds l W:=h
end
section
variable {P:aV} {l:I<|Z×aT} {W:aL->Prop} {ty:b_} {pos:bg} {af:bE fw} {g:az<|Z×aQ} {d:az Tmp}
variable {bs eM:b_} {bC aE:dF} {be eu:I a7}
def adO (b:b5 l bC=aa (st be)) (c:b5 l aE=aa (st eu)):Yl P l W ⟨d,.binOp .lss bs bC aE eM,ty,pos,af,g⟩<|bV<|Op.bytesLess be eu:= λe w a _=>by simp [execOp,a bC _ b,a aE _ c,st,eqGuard,binOp,Op.stringOp]
def adP (b:b5 l bC=aa (st be)) (c:b5 l aE=aa (st eu)):Yl P l W ⟨d,.binOp .gtr bs bC aE eM,ty,pos,af,g⟩<|bV<|!(Op.bytesLess be eu||be==eu):= λe w a _=>by simp [execOp,a bC _ b,a aE _ c,st,eqGuard,binOp,Op.stringOp]
end
section
variable {P:aV} {ops:bE ay} {cd:Code} {Q:aO->aN->aL->Prop} {n:Z} {ds:I e'} {l:I<|Z×aT} {w0:aL} {F:I Z} {L:I bc} {Vs:I View} {rest:I ay}
variable {ae:Z} {eT:Obj}
def WL.F4 (i:Z) (hL:L[i]? = aa (aJ ae eT)) (h:∀H:View,H ae=aa eT->WL P ops Q n ds l (Ws w0 F (fR i L)<|H::Vs) rest):WL P ops Q n ds l (Ws w0 F L Vs) rest:= WL.w6 i hL<|h _ (by simp [bv])
def WC.F4 (i:Z) (hL:L[i]? = aa (aJ ae eT)) (h:∀H:View,H ae=aa eT->WC P cd Q n ds l (Ws w0 F (fR i L)<|H::Vs)):WC P cd Q n ds l<|Ws w0 F L Vs:= λa w b c=>h _ (by simp [bv]) a w b<|c.w6 i hL
end
end Go.Bw
end
section
namespace Go.Proofs.YtgeahfjicmlocaaGreatDoor
open Go.Bw Go.Proofs.Tryz
def wL (ke ks:Z) (H:View) (b o:Z) (m:cM):Prop:=∃r:mf,ct H b o (hk m r)/\mg ke ks H r m
structure SR where
 i:Z
 M:I<|fe<|I a7
 c:Z
variable {aD:I cM}
def adQ (h:4<aD.length):mN aD=2:=by rw [mN,aU h]
variable {ae:Z} {a8:cM}
def adR (a:¬4<aD.length) (hi:aD[ae]? = aa a8) (b:∀x ∈ aD.take ae,hI x=0) (h:¬hI a8=0):mN aD=hI a8:=by rw [mN,ao a,y_ hI hi (sh.2 b) h,tm h]
def SS (a:¬4<aD.length) (b:∀x ∈ aD,hI x=0):mN aD=if gV (jf aD)=ac then 6 else if Bc aD=ac then 0 else 5:=by rw [mN,ao a,sh.2 b,nD]
def F5 {α:Type} {l:I α}  {x:α} {p:α->Prop} (b:l[ae]? = aa x) (h:∀y ∈ l.take ae,p y) (c:p x):∀y ∈ l.take (ae+1),p y:=by
 intro y a;rw [jl b] at a;rcases bm.1 a with a | a;·exact h y a
 ·rw [fq] at a;subst a;exact c
def adS {s:I a7} (a:a8 ∈ aD) (b:s ∈ a8.aI) (h:(ky aD s).isSome=au):Bc aD=au:=by unfold Bc;rw [yv];refine ⟨a8,a,?_⟩;rw [AE,yv];exact ⟨s,b,by simp [h]⟩
def adT (h:∀m ∈ aD,∀s ∈ m.aI,(ky aD s).isSome=ac):Bc aD=ac:=gw.2 λm a=>gw.2 λs b=>h m a s b
def r1:g1 aB 206=aa 5:=ah
def adU:hy aB 309=aa [(0,1),(1,1)]:=ah
def adV:zeroOf aB 309=aa (bU #[aC ak 0 0,.map ak]):=ah
def F6:cX aB 309 1=aa 1:=ah
def adW (H:View) (ke ks:Z) (a:az a0) (c:Z) (l:I cM) (w:aL) (af:Le H w) (o:Sl (wL ke ks) 5 H a c l) (U:∀m ∈ l,wM m<=109951162777) : cr aB 185 #[aC a l.length c] w λe f=>∃r:Z×Z,e = ax (cN #[b0 (if mN l=0 then aa ⟨r.1,0,ak⟩ else ak),an am (mN l)])/\Ext w f/\(mN l=0->vc (nv w f) r.1 1=aa (.map<|aa r.2)/\(nv w f) r.2=aa (dH st (iV (jf l) 0) l.length)):=by
 have a5:=o.cap;have a6:=o.max;refine enter func185 O 76 O O ?_;refine CE (Vs:=[H]) (Ws.init (by simp [af]))<|ai<|ar O<|ar O<|ag<|Cs<|ai<|ad O<|V0 (Yn r1 O)<|V0 (ek O O) ?_;refine ag ?_;refine Cc O (λz=>?_)<|λz=>?_
 ·have q:4<l.length:=by simp at z;omega
  refine ai<|ar O<|ar O<|ag<|bq<|Er ?_;refine WE.iA O O O λf b=>?_;rw [adQ q];exact ⟨(0,0),O,b.fr,λh=>by cases h⟩
 have q:¬4<l.length:=by simp at z;omega
 refine bO<|ai<|ad O ?_;refine WL.oX st Y O λA=>?_;refine V0 (Yb adV adU O O) ?_;refine WL.box Y O O λW=>?_;refine ar O<|ag<|Cs<|ai<|ad O<|V0 (Yn r1 O)<|ad O<|ag<|Cb ?_;refine dZ (ι:=SR) (λg=>[(23,an am (g.i:ab))]) [(0,_),(4,_),(21,_),(22,_)] (λg=>Ws w [] [aJ W<|aM #[aC a l.length c,.map (aa A)] 309 (0,0),aJ A<|dH st g.M g.c] [H]) (λg=>g.i<=l.length/\(∀m ∈ l.take g.i,hI m=0)/\HU (jf l) g.i g.M g.c) (λg=>l.length-g.i) ⟨0,[],0⟩ ⟨de _,aG,bA ⟨aG,O,O⟩⟩ aR ?_;intro g ⟨hi,t,B⟩;refine ai<|V0 (cP O O)<|ag<|Cs ?_;refine Cc O (λC=>?_)<|λC=>?_
 ·have u:g.i<l.length:=by simpa using C
  obtain ⟨m,v⟩:=dO u;obtain ⟨a8,a9,al,ap⟩:=o.b7 g.i m v;obtain ⟨av,aw,aA⟩:=ap;have aD:=dJ v;have a':=U m aD;have aE:=zc v;refine bO<|Cs<|Cb<|ai<|ad O<|V0 (Yo r1 O O al aj)<|V0 (dG 0 cA O O O<|aw) ?_;refine Al Y O sY λa_=>?_;refine ar O<|aq 0 Y O O O sZ O O O<|ag<|Cs<|ai<|V0 (dv 0 O O cA O)<|Lp Y O bf O (λw b=>Fk H ke ks av m w b.V aA aj)<|ar O<|ag<|ai<|ad O ?_;refine V0 (g2 O O)<|ag ?_;refine Cc O (λD=>?_)<|λD=>?_
  ·have x:¬hI m=0:=by simpa using D
   refine ai<|ad O<|ar O<|ar O<|ag<|bq<|Er<|cZ<|Er<|Er<|cZ<|Er ?_;refine WE.iA O O O λf b=>?_;rw [adR q v t x];exact ⟨(0,0),by rw [ao x],b.fr,λh=>absurd h x⟩
  have x:hI m=0:=by simpa using D
  refine bO ?_;refine WC.m6 2 [(0,ac),(1,ac),(2,ac),(3,ac),(4,ac),(5,ac),(6,ac),(7,au)] mixed ah (λ_ _ _ d _ h=>by cases d<;>exact h) ?_;refine D0 O (Wp 2) (Ym O)<|D0 O (Wp 2) (bP O)<|D0 O (Wp 2) (Yf F6 O)<|D0 O (Wp 2) (Yd 1 O O O ah)<|D0 O (Wp 2) (Yf wr O)<|D0 O (Wp 2) (Yd 0 O O O ah)<|D0 O (Wp 2) (Ym O) ?_;refine De O (Wp 2) ?_;refine WL.ql 2 i2 Y i0 ah O O O O ?_;refine Ln<|Ed ?_;refine WD.nil (Wp 2) ?_;refine Eb<|Et<|Cr<|V0 (Yi O O O aj)<|ad O<|Ln ?_;exact cU (⟨g.i+1,bB m.nm (an am (g.i:ab)) g.M g.c,jG m.nm g.M g.c⟩:SR) (by show _-(g.i+1)<_;omega) ⟨by show g.i+1<=_;omega,F5 v t x,U3 B aE⟩<|λ_ h=>Wd 1 h
 have y:g.i=l.length:=by simp at C;omega
 rw [y,gJ] at t;refine Ce<|Ex<|Ex<|dy<|Et<|Cs<|ai<|ad O<|V0 (bP O)<|V0 (Yf F6 O)<|V0 (Yd 0 O O O ah)<|V0 (Dz 1 i0 O O)<|ad O ?_;refine V0 (Yn r1 O)<|V0 (cP O O)<|ag ?_;refine Cc O (λE=>?_)<|λE=>?_
 ·have F:g.M.length<l.length:=by simp at E;omega
  have G:gV (jf l)=ac:=by
   rcases B with ⟨j,p,aF⟩ | ⟨j,p⟩;·rw [p,HR] at F;simp [vR] at F;omega
   ·rw [y,<-vR l,gJ] at j;rw [ku] at j;simpa using j
  refine ai<|ar O<|ar O<|ag<|bq<|Er ?_;refine WE.iA O O O λf b=>?_;rw [SS q t,G];exact ⟨(0,0),O,b.fr,λh=>by cases h⟩
 have F:¬g.M.length<l.length:=by simp at E;omega
 obtain ⟨aH,aK,aP⟩:(jf l).Nodup/\g.M=iV (jf l) 0/\g.c=l.length:=by
  rcases B with ⟨j,p,aF⟩ | ⟨j,p⟩;·rw [y,<-vR l,gJ] at j;rw [y,<-vR l,gJ] at p;exact ⟨j,p,aj⟩
  ·omega
 have G:=ku.1 aH;rw [aK,aP];have J:=SS q t;rw [G] at J;refine bO<|Cs<|ai<|ad O<|V0 (Yn r1 O)<|ad O<|ag<|Cb ?_;refine dg (ι:=Z) (λi=>[(51,an am (i:ab))]) [(4,_),(49,_),(50,_)] (λi=>i<=l.length/\∀m ∈ l.take i,∀s ∈ m.aI,(ky l s).isSome=ac) (λi=>l.length-i) 0 ⟨de _,aG⟩ ?_;intro i ⟨ba,X⟩;refine ai<|V0 (cP O O)<|ag<|Cs ?_;refine Cc O (λK=>?_)<|λK=>?_
 ·have u:i<l.length:=by simpa using K
  obtain ⟨n,L⟩:=dO u;obtain ⟨bb,bc,aS,aU⟩:=o.b7 i n L;obtain ⟨bd,aW,N⟩:=aU;have ae:=dJ L;have be:=U n ae;have bh:=N.aI.cap;have bi:=N.aI.max;refine bO<|Cs<|Cb<|ai<|V0 (Yo r1 O O aS aj)<|V0 (dG 0 cA O O O<|aW) ?_;refine Al Y O sY λbj=>?_;refine aq 0 Y O O O sZ O O O<|ag<|ai<|V0 (Yf rJ O)<|V0 (Yd 0 O O O ah)<|V0 (Yn e4 O)<|ad O<|ag<|Cb ?_;refine dg (ι:=Z) (λk=>[(58,an am (k:ab))]) [(4,_),(49,_),(50,_),(51,_),(56,_),(57,_)] (λk=>k<=n.aI.length/\∀s ∈ n.aI.take k,(ky l s).isSome=ac) (λk=>n.aI.length-k) 0 ⟨de _,aG⟩ ?_;intro k ⟨bk,P⟩;refine ai<|V0 (cP O O)<|ag<|Cs ?_;refine Cc O (λQ=>?_)<|λQ=>?_
  ·have u:k<n.aI.length:=by simpa using Q
   obtain ⟨s,R⟩:=dO u;obtain ⟨aX,pos,aY,S⟩:=N.aI.b7 k s R;have S:ct H aX (pos+k*1)<|fV s:=S;refine bO<|Cs<|Cb<|ai<|V0 (Yo e4 O O aY aj)<|V0 (dQ 0 ah O O<|S 0 _ O)<|ar O<|ag<|ai<|ad O<|V0 (bP O)<|V0 (Yf F6 O) ?_;refine V0 (Yd 1 O O O ah)<|ad O<|V0 (DL 2 i2 i0 ah cw O O O) ?_;rw [(zf _ _).1,(zf _ _).2];refine ad O<|V0 (Yx O O)<|V0 (Yx O O)<|ar O<|ar O<|ag<|ai<|ad O<|V0 (hV O) ?_;refine ag ?_;refine Cc O (λT=>?_)<|λT=>?_
   ·have aZ:(ky l s).isSome=au:=by simpa [ky] using T
    refine ai<|ar O<|ar O<|ag<|bq<|cZ<|Er<|Er<|cZ<|cZ<|Er<|Er<|cZ<|Er ?_;refine WE.iA O O O λf b=>?_;rw [J,adS ae (dJ R) aZ];exact ⟨(0,0),O,b.fr,λh=>by cases h⟩
   have a1:(ky l s).isSome=ac:=by simpa [ky] using T
   refine Ck<|Eb<|Et<|Cr<|V0 (Yi O O O aj)<|ad O<|Ln ?_;exact cU (k+1) aj ⟨aj,F5 R P a1⟩ aR
  have a2:k=n.aI.length:=by simp at Q;omega
  rw [a2,gJ] at P;refine Ce<|Ex<|Ex<|dy<|Eb<|Et<|Cr<|V0 (Yi O O O aj)<|ad O<|Ln ?_;exact cU (i+1) aj ⟨aj,F5 L X P⟩<|λ_ h=>Wd 1 h
 have bm:¬i<l.length:=by simpa using K
 have a3:∀m ∈ l,∀s ∈ m.aI,(ky l s).isSome=ac:=λm o=>X m (by rw [i' aj];exact o);have a4:mN l=0:=by rw [J,adT a3];rfl
 refine Ce<|Ex<|Ex<|dy<|Et<|ai<|ad O<|ar O<|ar O<|ag<|bq ?_;refine WE.iA O O O λf b=>?_;rw [a4];exact ⟨(W,A),O,b.fr,λ_=>⟨b.GJ 0 O O,b.ME 1 O⟩⟩
def kH (i:Z):I aT:=[an am (i:ab)]
def mK (i:Z):(kH i).length=1:=rfl
def SU (H:View) (b o:Z) (i:Z):Prop:=ct H b o<|kH i
def KH (x:Z):ab:=if x=0 then 0 else if x=1 then 1 else if x<=3 then 2 else 3
def jS (d:I Z) (j:Z):Z:=d.getD j 0
def SV {d:I Z} {j:Z} (h:j<d.length):d[j]? = aa (jS d j):=by simp [jS,I.getD,dh h]
def yn (l:I cM) (d:I Z) (ss:I Tx):ab:=if ss.all (mn l d)=ac then -1 else ((ss.findIdx λs=>!mn l d s:Z):ab)
variable {cJ:I Z} {cI:I Tx}
def adX (h:∀s ∈ cI,mn aD cJ s=ac):yn aD cJ cI = -1:=by rw [yn,aU<|gw.2 h]
def adY {i:Z} {s:Tx} (hi:cI[i]? = aa s) (b:∀s ∈ cI.take i,mn aD cJ s=ac) (h:mn aD cJ s=au):yn aD cJ cI=(i:ab):=by have c:=(c_.1 hi).1;have d:=(c_.1 hi).2;rw [yn,ao (λa=>by rw [gw] at a;rw [a s<|dJ hi] at h;cases h)];congr 1;rw [I.findIdx_eq c];refine ⟨by rw [d,h];rfl,λj e=>?_⟩;rw [b _ (by rw [I.mem_take_iff_getElem];exact ⟨j,aj,rfl⟩)];rfl
def adZ (l:I cM) (d:I Z) (ss:I Tx):decide (yn l d ss≥0) = !ss.all (mn l d):=by
 unfold yn;by_cases h:ss.all (mn l d)=ac;·rw [aU h,h];rfl
 ·rw [ao h,ug.2 h];simp
structure F7 where
 i:Z
 d:I Z
def ad0 (k:(jf aD).Nodup)  (f:∀x ∈ cJ,x<aD.length) (l:cJ.Nodup) {i j a b:Z} (c:cJ[i]? = aa a) (g:cJ[j]? = aa b) (m:i≠j) (h:¬sj (iU aD a) (iU aD b)<0):si aD b a:=by
 have n:iU aD a≠iU aD b:=λe=>by have:=HL k (f a<|dJ c) (f b<|dJ g) e;subst this;exact m<|(s9 (c_.1 c).1 l).1<|c.trans g.symm
 rcases M3 _ _ n with d | d;·exact absurd (M8.2 d) h
 ·exact d
variable {CM:Z->Z->Prop} {aH:Z}
def ad1 (h:pN CM cJ ae) (f:cJ.length<=ae):pN CM cJ aH:=λx y a b d g e c=>h x y a b d (by have:=(c_.1 c).1;omega) e c
def ad2:pN CM cJ 1:=λx y a b c d=>by omega
def ad3:prog.underlying 406=some (.int .u64):=ah
def S' (s:Tx) (w:aL) : cr aB 252 #[st s] w λe a=>e = ax (bV au)/\Ext w a:=by refine enter func252 O 6 O O ?_;refine CE (Vs:=[]) (Ws.init aG)<|ai<|ar O<|ag<|ai<|ad O<|ad O<|V0 (Ux O O O)<|ar O ?_;refine ag<|bq ?_;refine R1 O O λa b=>?_;exact ⟨O,b.fr⟩
def ad4 (s t:Tx) (w:aL) : cr aB 188 #[st s,st t] w λe b=>e = ax (an am<|sj s t)/\Ext w b:=by
 refine enter func188 O 20 O O ?_;refine CE (Vs:=[]) (Ws.init aG)<|ai<|ar O<|ag<|ai<|ad O<|Lp Y O bf O (λw a=>S' _ w)<|ar O<|ag<|ai ?_;refine ad O<|Lp Y O bf O (λw a=>S' _ w)<|ar O<|ag<|Cs<|ai<|ad O<|ag ?_;refine WC.r6 O ?_;refine bO<|Cs<|ai<|ad O<|ag ?_;refine WC.r6 O ?_;refine bO<|Cs<|ai<|ad O<|ad O<|V0 (adO O O)<|ag ?_;refine Cc O (λc=>?_)<|λc=>?_;·refine ai<|ar O<|ag<|bq<|Er ?_;refine R1 O O λb a=>?_;have h:k7 s t=ac:=c;exact ⟨by rw [sj,aU h],a.fr⟩
 refine bO<|Cs<|ai<|ad O<|ad O<|V0 (adP O O)<|ag ?_;refine Cc O (λd=>?_)<|λd=>?_
 ·refine ai<|ar O<|ag<|bq<|Er ?_;refine R1 O O λb a=>?_;have h:¬k7 s t=ac:=by rw [AE];exact c
  have f:(!(k7 s t||s==t))=ac:=d;exact ⟨by rw [sj,ao h,aU f],a.fr⟩
 refine bO<|ai<|ar O<|ag<|bq ?_;refine R1 O O λb a=>?_;have h:¬k7 s t=ac:=by rw [AE];exact c
 have f:¬(!(k7 s t||s==t))=ac:=by rw [AE];exact d
 exact ⟨by rw [sj,ao h,ao f],a.fr⟩
def ad5 (x:Nat) (w:World) (h:x<=4) :
   Calls prog 302 #[.int .u64 (x:Int)] w λe a=>e = .returned (.int .i64<|KH x)/\Ext w a:=by
 have f:IntKind.u8.wrap (x:Int)=(x:Int):=by rcases (show x=0\/x=1\/x=2\/x=3\/x=4 by omega) with rfl | rfl | rfl | rfl | rfl<;>rfl
 refine enter func302 O 25 O O ?_;refine CE (Vs:=[]) (Ws.init aG)<|ai<|ar O<|ag<|Cs<|ai<|ad O<|V0 (hE O O)<|ag ?_;refine Cc O (λb=>?_)<|λb=>?_;·exfalso;simp at b;omega
 refine bO<|Cs<|ai<|ad O<|V0 (hE O O)<|ag ?_;refine Cc O (λc=>?_)<|λc=>?_;·exfalso;simp at c;omega
 refine bO<|Cs<|ai<|ad O<|V0 (hE O O)<|ag ?_;refine Cc O (λd=>?_)<|λd=>?_;·exfalso;simp at d;omega
 refine bO<|ai<|ad O<|ad O<|V0 (Ca ad3 Qc O) ?_;rw [f];refine V0 (yI ah rfl rfl (show _=some (UInt8.ofNat (KH x).toNat) by rcases (show x=0\/x=1\/x=2\/x=3\/x=4 by omega) with rfl | rfl | rfl | rfl | rfl<;>rfl))<|V0 (Ca Qc kD rfl)<|V0 (s_ rfl rfl)<|V0 (Ya rfl)<|ag<|bq ?_;refine R1 O O λa g=>?_;exact ⟨by rcases (show x=0\/x=1\/x=2\/x=3\/x=4 by omega) with rfl | rfl | rfl | rfl | rfl<;>rfl,g.fr⟩
def ad6 (x:Z) (w:aL) (c:x<=4) : cr aB 251 #[an .u64 (x:ab)] w λe a=>e = ax (an am<|KH x)/\Ext w a:=by refine enter func251 O 8 O O ?_;refine CE (Vs:=[]) (Ws.init aG)<|ai<|ar O<|ag<|Cs ?_;refine WC.r6 O ?_;refine bO<|ai<|ad O<|Lp Y O bf O (λw b=>ad5 x w c)<|ar O<|ag<|bq ?_;refine R1 O O λa b=>?_;exact ⟨O,b.fr⟩
def ad7 (H a:View) (ke ks b:Z) (c:az a0) (f:Z) (l:I cM) (g:vc H b 0=aa (aC c l.length f)) (k:Sl (wL ke ks) 5 a c f l) (i j:Z) (w:aL) (r:Le H w) (s:Le a w) (hi:i<l.length) (m:j<l.length) : cr aB 187 #[an am (i:ab),an am (j:ab),b0 (aa ⟨b,0,ak⟩)] w λe n=>e = ax (an am<|sj (iU l i)<|iU l j)/\Ext w n:=by obtain ⟨t,o⟩:=dO hi;obtain ⟨C,D,u,E,v,F⟩:=k.b7 i t o;have x:=vQ o;obtain ⟨y,p⟩:=dO m;obtain ⟨G,J,z,K,A,L⟩:=k.b7 j y p;have B:=vQ p;refine enter func187 O 17 O O ?_;refine CE (Vs:=[H,a]) (Ws.init (by simp [r,s]))<|ai<|ar O<|ag<|Cs ?_;refine WC.n6 [(0,ac),(1,ac),(2,ac),(3,ac),(4,ac),(5,ac),(6,ac),(7,ac),(8,ac),(9,ac),(10,au),(11,ac)] mixed ah (λ_ _ _ d _ h=>by cases d<;>exact h) ?_;refine D0 O aR (dQ 0 ah O O<|g)<|D0 O aR (Ym O)<|D0 O aR (Yo r1 O O u hi)<|D0 O aR (Yf wr O)<|D0 O aR (dQ 1 ah O O<|v 0 _ O)<|D0 O aR (dQ 0 ah O O<|g)<|D0 O aR (Ym O)<|D0 O aR (Yo r1 O O z m) ?_;refine D0 O aR (Yf wr O)<|D0 O aR (dQ 1 ah O O<|A 0 _ O) ?_;refine De O aR ?_;refine Lp Y O bf O (λw q=>ad4 _ _ w)<|Ln<|Ed<|D0 O aR (Ya O) ?_;refine WD.nil aR ?_;refine Et<|bq ?_;refine R1 O O λn q=>?_;exact ⟨by rw [x,B],q.fr⟩
def ad8 (H o:View) (ke ks t:Z) (u:az a0) (v:Z) (l:I cM) (z:vc H t 0=aa (aC u l.length v)) (F:Sl (wL ke ks) 5 o u v l) (a:az a0) (c:Z) (d0:I Z) (G:(jf l).Nodup) (J:∀x ∈ d0,x<l.length) (K:d0.Nodup) (ap:d0.length<=4) (w:aL) (p:Ws w (c5 bc.ids [cO 3 1 kH a c d0]) [cO 3 1 kH a c d0] [H,o] w) : cr aB 293 #[aC a d0.length c,an am 0,an am (d0.length:ab),.func (.func 187) #[] #[b0 (aa ⟨t,0,ak⟩)]] w λe D=>∃d:I Z,e = ax (cN #[])/\(d.Perm d0/\pN (si l) d d.length)/\Ws w (c5 bc.ids [cO 3 1 kH a c d0]) [cO 3 1 kH a c d] [H,o] D:=by
 refine enter func293 O 53 O O ?_;refine CE p<|ai<|ad O<|V0 (n7 (a:=0) (b:=1) O O O O aj)<|ar O<|ag<|Cb ?_;refine dZ (ι:=F7) (λg=>[(8,an am (g.i:ab))]) [(0,_),(1,_),(2,_),(3,_)] (λg=>Ws w (c5 bc.ids [cO 3 1 kH a c d0]) [cO 3 1 kH a c g.d] [H,o]) (λg=>g.d.Perm d0/\pN (si l) g.d g.i) (λg=>d0.length-g.i) ⟨1,d0⟩ ⟨I.Perm.refl _,ad2⟩ aR ?_;intro g ⟨s,E⟩;refine Cs<|ai<|ad O<|ad O<|V0 (cP O O)<|ag ?_;refine Cc O (λA=>?_)<|λA=>?_
 ·have L:g.i<d0.length:=by simpa using A
  have M:=s.length_eq;refine bO<|Cs<|Cb<|ai<|ad O<|ar O<|ag<|Cb ?_;refine dZ (ι:=F7) (λq=>[(9,an am (q.i:ab))]) [(0,_),(1,_),(2,_),(3,_),(8,_)] (λq=>Ws w (c5 bc.ids [cO 3 1 kH a c d0]) [cO 3 1 kH a c q.d] [H,o]) (λq=>xq (si l) d0 q.d g.i q.i) (λq=>q.i) ⟨g.i,g.d⟩ (U4 s (by rw [M];exact L) E) aR ?_;intro q k;refine Cs<|Cs ?_;have aq:q.d.length=d0.length:=k.perm.length_eq;have av:=k.ji;have B:∀x ∈ q.d,x<l.length:=λx N=>J x<|k.perm.subset N;have P:q.d.Nodup:=k.perm.nodup_iff.2 K;have m:=SV (d:=q.d) (j:=q.i) aj;have n:=SV (d:=q.d) (j:=q.i-1) aj;refine WC.r9 0 O aj λaw f aA aD=>?_;refine WC.n6 [(0,ac),(1,ac),(2,ac),(3,ac),(4,ac),(5,ac),(6,ac),(7,ac),(8,ac),(9,ac),(10,ac),(11,ac),(12,ac),(13,ac),(14,au),(15,ac),(16,ac)] mixed ah (λ_ _ _ d _ h=>by cases d<;>exact h) ?_;refine D0 O aR (Ym O)<|D0 O aR (Ym O)<|D0 O aR (ek O O)<|D0 O aR (Ym O) ?_;apply WD.and 12 (x:=decide<|sj (iU l<|jS q.d q.i) (iU l<|jS q.d<|q.i-1)<0) O O O O O Y O aR O O O O
  ·intro Q;have S:0<q.i:=by simpa using Q
   refine Dq O (.g O O O) O aR (Ym O)<|Dq O (.g O O O) O aR (Ym O)<|Dq O (.g O O O) O aR (Ym O)<|Dq O (.g O O O) O aR (Yo eS O O f aj)<|Dq O (.g O O O) O aR (m9 (y:=jS q.d q.i) 0 q.i 0 O O f O mK m O ah)<|Dq O (.g O O O) O aR (Ym O)<|Dq O (.g O O O) O aR (Ym O)<|Dq O (.g O O O) O aR (m7 ((q.i-1:Z):ab) O O aj aj) ?_;refine Dq O (.g O O O) O aR (Yo eS O O f aj)<|Dq O (.g O O O) O aR (m9 (y:=jS q.d<|q.i-1) 0 (q.i-1) 0 O O f O mK n O ah) ?_;refine De O aR ?_;refine WL.ur (.g O O O) O bf O O (λw p=>ad7 H o ke ks t u v l z F (jS q.d q.i) (jS q.d<|q.i-1) w p.V p.V (B _<|dJ m)<|B _<|dJ n) ?_;refine Ln<|Ed<|Dq O (.g O O O) O aR (cP O O) ?_;exact Gi 12 aR O O O
  refine WD.nil aR ?_;refine Et ?_;refine Cc O (λC=>?_)<|λC=>?_
  ·obtain ⟨S,T⟩:0<q.i/\sj (iU l<|jS q.d q.i) (iU l<|jS q.d<|q.i-1)<0:=by simpa using C
   have U:(q.d.set q.i<|jS q.d<|q.i-1)[q.i-1]? = aa (jS q.d<|q.i-1):=by rw [K9 aj];exact n
   have r:q.i-1+1=q.i:=aj;have W:xq (si l) d0 ((q.d.set q.i<|jS q.d<|q.i-1).set (q.i-1)<|jS q.d q.i) g.i<|q.i-1:=by have h:=U6 (j:=q.i-1) (a:=jS q.d q.i) (b:=jS q.d<|q.i-1) (by rw [r];exact k) (by rw [r];exact m) n<|M8.1 T;rw [r] at h;exact h
   refine bO<|Cs<|Cb ?_;refine CU (λ_=>ac) [] [15,16,17] (.q au 0<|.q au 1<|.q au 2<|.q au 3<|.q au 4<|.q au 5<|.q au 6<|.q au 7<|.q au 8<|.q ac 9<|.q au 10<|.q au 11<|.q au 12<|.q ac 13<|.q au 14 .nil) mixed ah (λ_ _ _ d _ _ h=>by cases d<;>exact h) ?_;refine U0 O aR (Ym O)<|U0 O aR (Ym O)<|U0 O aR (Ym O)<|U0 O aR (Ym O)<|U0 O aR (m7 ((q.i-1:Z):ab) O O aj aj)<|U0 O aR (Ym O)<|U0 O aR (Ym O)<|U0 O aR (m7 ((q.i-1:Z):ab) O O aj aj) ?_;refine U0 O aR (Yo eS O O f aj)<|U0 O aR (m9 (y:=jS q.d<|q.i-1) 0 (q.i-1) 0 O O f O mK n O ah)<|U0 O aR (Ym O)<|U0 O aR (Ym O)<|U0 O aR (Yo eS O O f aj)<|U0 O aR (m9 (y:=jS q.d q.i) 0 q.i 0 O O f O mK m O ah)<|U0 O aR (Yo eS O O f aj) ?_;refine WU.nil aR ?_;refine WS.e O ?_;refine WL.storeT (y:=jS q.d q.i) 0 q.i 0 (jS q.d<|q.i-1) Y O O O f O mK m ei O O a' O ?_;refine Ln<|Es ?_;refine WS.e O ?_;refine V0 (Yo eS O O f aj)<|Ln<|Es ?_;refine WS.e O ?_;refine WL.storeT (y:=jS q.d<|q.i-1) 0 (q.i-1) 0 (jS q.d q.i) Y O O O f O mK U ei O O a' O ?_;refine Ln<|Es ?_;refine WS.nil ?_;refine Eb<|Et<|Cr<|ad O<|V0 (m7 ((q.i-1:Z):ab) O O aj aj)<|ar O<|Ln ?_;exact cU (⟨q.i-1,(q.d.set q.i<|jS q.d<|q.i-1).set (q.i-1)<|jS q.d q.i⟩:F7) (by show q.i-1<q.i;omega) W aR
  have X:pN (si l) q.d<|g.i+1:=by
   by_cases ae:q.i=0;·rw [ae] at k;exact U7 k
   ·have af:¬sj (iU l<|jS q.d q.i) (iU l<|jS q.d<|q.i-1)<0:=λh=>by simp [h] at C;omega
    have r:q.i-1+1=q.i:=aj;exact U8 (R:=si l) (d0:=d0) (i:=g.i) (λa b c z al=>HJ _ _ _ z al) (j:=q.i-1) (a:=jS q.d q.i) (b:=jS q.d<|q.i-1) (by rw [r];exact k) (by rw [r];exact m) n<|ad0 G B P m n aj af
  refine Ce<|Ex<|Ex<|dy<|Eb<|Et<|Cr<|ad O<|V0 (Yi O O O aj)<|ar O<|Ln ?_;exact cU (⟨g.i+1,q.d⟩:F7) (by show _-(g.i+1)<_;omega) ⟨k.perm,X⟩ aR
 have ao:d0.length<=g.i:=by simp at A;omega
 refine Ce<|Ex<|Ex<|dy ?_;refine E0 O λD p=>?_;exact ⟨g.d,O,⟨s,ad1 E (by rw [s.length_eq];exact ao)⟩,p⟩
def ad9 {x:Z} (h:x<=4):IntKind.u64.wrap (x:ab)=(x:ab):=by rcases (show x=0\/x=1\/x=2\/x=3\/x=4 by omega) with rfl | rfl | rfl | rfl | rfl<;>rfl
variable {bw:Tx}
def ad' (h:(ky aD bw).isSome=ac):((if cJ.contains ((idxOf bw (jf aD) 0).getD 0)=ac then (1:ab) else 0)==0) = !mn aD cJ bw:=by obtain ⟨j,a⟩:=az.isSome_iff_exists.1 h;have b:idxOf bw (jf aD) 0=aa j:=a;rw [b];unfold mn;rw [a];show ((if cJ.contains j=ac then (1:ab) else 0)==0) = !cJ.contains j;cases cJ.contains j<;>rfl
def ad_:prog.underlying 355=some (.int .u64):=ah
def F8:aB.underlying 306=aa (.map 3 3):=ah
def aea (H b:View) (ke ks h:Z) (i:az a0) (j:Z) (l:I cM) (n:vc H h 0=aa (aC i l.length j)) (o:Sl (wL ke ks) 5 b i j l) (a:az a0) (c:Z) (d0:I Z) (p:(jf l).Nodup) (q:∀x ∈ d0,x<l.length) (r:d0.Nodup) (s:d0.length<=4) (a5:ab) (w:aL) (f:Ws w (c5 bc.ids [cO 3 1 kH a c d0]) [cO 3 1 kH a c d0] [H,b] w) : cr aB 250 #[aC a d0.length c,an am 0,an am (d0.length:ab),an am a5,.func (.func 187) #[] #[b0 (aa ⟨h,0,ak⟩)]] w λe k=>∃d:I Z,e = ax (cN #[])/\(d.Perm d0/\pN (si l) d d.length)/\Ws w (c5 bc.ids [cO 3 1 kH a c d0]) [cO 3 1 kH a c d] [H,b] k:=by
 refine enter func250 O 148 O O ?_;refine CE f<|ai<|ar O<|ag<|ai<|ar O<|ag<|Cb ?_;refine dg (ι:=dT) (λg=>[]) [(0,_),(1,_),(2,_),(4,_)] (λg=>True) (λg=>0) () trivial ?_;intro g _;refine Cb<|ai<|ad O<|ad O<|V0 (m7 (d0.length:ab) O O aj aj)<|ar O<|ag<|Cs<|ai<|ad O<|V0 (kM O O) ?_;refine ag ?_;refine Cc O (λm=>?_)<|λm=>?_;·refine ai<|ad O<|ad O<|ad O<|ad O ?_;refine Lw [_] _ Y O bf O O _ _ _ [H,b] aG (λw f=>ad8 H b ke ks h i j l n o a c d0 p q r s w f) ?_;intro d t;refine ag<|bq<|Er<|cZ<|Er<|cZ ?_;refine WE.ul O λk f=>?_;exact ⟨d,O,t,f⟩
 exfalso;simp at m;omega
def aeb (H f:View) (ke ks g:Z) (h:az a0) (i:Z) (l:I cM) (m:vc H g 0=aa (aC h l.length i)) (n:Sl (wL ke ks) 5 f h i l) (a:az a0) (c:Z) (d0:I Z) (o:(jf l).Nodup) (p:∀x ∈ d0,x<l.length) (q:d0.Nodup) (j:d0.length<=4) (w:aL) (b:Ws w (c5 bc.ids [cO 3 1 kH a c d0]) [cO 3 1 kH a c d0] [H,f] w) : cr aB 186 #[aC a d0.length c,.func (.func 187) #[] #[b0 (aa ⟨g,0,ak⟩)]] w λe k=>∃d:I Z,e = ax (cN #[])/\(d.Perm d0/\pN (si l) d d.length)/\Ws w (c5 bc.ids [cO 3 1 kH a c d0]) [cO 3 1 kH a c d] [H,f] k:=by refine enter func186 O 14 O O ?_;refine CE b<|ai<|ad O<|V0 (Yn eS O)<|ar O<|ag<|Cr<|ad O<|ad O ?_;refine ad O<|V0 (Ca kD ad_ O) ?_;rw [ad9 j];refine Lp Y O bf O (λw b=>ad6 _ w j)<|ad O ?_;refine Lw (ι:=I Z) [_] _ Y O bf O O (λ_=>cN #[]) (λd=>[cO 3 1 kH a c d]) (λd=>d.Perm d0/\pN (si l) d d.length) [H,f] aG (λw b=>aea H f ke ks g h i l m n a c d0 o p q j _ w b) ?_;intro d r;refine Ln ?_;refine E0 O λk b=>?_;exact ⟨d,O,r,b⟩
def aec (b c f a:View) (g i j k m:Z) (l:I cM) (d:I Z) (p:vc b g 0=aa (.map<|aa i)) (q:c i=aa (dH (λn:ab=>aT.int am n) (nb d 0) d.length)) (r:vc f j 0=aa (b0<|aa ⟨k,0,ak⟩)) (t:vc a k 1=aa (.map<|aa m)) (u:a m=aa (dH st (iV (jf l) 0) l.length)) (s:Tx) (w:aL) (v:Le b w) (x:Le c w) (y:Le f w) (z:Le a w) (A:(ky l s).isSome=ac) : cr aB 190 #[st s,b0 (aa ⟨g,0,ak⟩),b0 (aa ⟨j,0,ak⟩)] w λe o=>e = ax (bV<|!mn l d s)/\Ext w o:=by refine enter func190 O 14 O O ?_;refine CE (Vs:=[b,c,f,a]) (Ws.init (by simp [v,x,y,z]))<|ai<|ar O<|ag<|Cs ?_;refine WC.n6 [(0,ac),(1,ac),(2,ac),(3,ac),(4,ac),(5,ac),(6,ac),(7,ac),(8,ac),(9,ac)] mixed ah (λ_ _ _ d _ h=>by cases d<;>exact h) ?_;refine D0 O aR (dQ 0 ah O O<|p)<|D0 O aR (dQ 2 ah O O<|r)<|D0 O aR (bP O)<|D0 O aR (Yf F6 O)<|D0 O aR (dQ 3 ah O O<|t)<|D0 O aR (Ym O)<|D0 O aR (DY 3 O i2 i0 ah cw O O<|u) ?_;rw [(zf _ _).1];refine D0 O aR (DY 1 O me F8 kD cw O O<|q) ?_;rw [HX];refine D0 O aR (bN O O)<|D0 O aR (Ya O) ?_;refine WD.nil aR ?_;refine Et<|bq ?_;refine R1 O O λo B=>?_;exact ⟨by rw [<-ad' A],B.fr⟩
def aed (H:View) (z:az a0) (cs:Z) (ss:I Tx) (k:Sl rdStr 1 H z cs ss) (c f g b:View) (m o p q r:Z) (l:I cM) (d:I Z) (A:vc c m 0=aa (.map<|aa o)) (B:f o=aa (dH (λn:ab=>aT.int am n) (nb d 0) d.length)) (C:vc g p 0=aa (b0<|aa ⟨q,0,ak⟩)) (D:vc b q 1=aa (.map<|aa r)) (E:b r=aa (dH st (iV (jf l) 0) l.length)) (w:aL) (F:Le H w) (G:Le c w) (J:Le f w) (K:Le g w) (L:Le b w) (M:∀s ∈ ss,(ky l s).isSome=ac) : cr aB 253 #[aC z ss.length cs,.func (.func 190) #[] #[b0 (aa ⟨m,0,ak⟩),b0 (aa ⟨p,0,ak⟩)]] w λe t=>e = ax (an am<|yn l d ss)/\Ext w t:=by
 have R:=k.cap;have S:=k.max;refine enter func253 O 19 O O ?_;refine CE (Vs:=[H,c,f,g,b]) (Ws.init (by simp [F,G,J,K,L]))<|ai<|ar O<|ag<|Cs<|ai<|ad O<|V0 (Yn e4 O)<|ad O<|ag<|Cb ?_;refine dg (ι:=Z) (λi=>[(8,an am (i:ab))]) [(0,_),(1,_),(7,_)] (λi=>i<=ss.length/\∀s ∈ ss.take i,mn l d s=ac) (λi=>ss.length-i) 0 ⟨de _,aG⟩ ?_;intro i ⟨hi,h⟩;refine ai<|V0 (cP O O)<|ag<|Cs ?_;refine Cc O (λu=>?_)<|λu=>?_
 ·have N:i<ss.length:=by simpa using u
  obtain ⟨s,j⟩:=dO N;obtain ⟨P,pos,Q,v⟩:=k.b7 i s j;have v:ct H P (pos+i*1)<|fV s:=v;refine bO<|Cs<|Cb<|ai<|ad O<|ar O<|ag<|ai<|ad O<|ad O<|ad O<|V0 (Yo e4 O O Q aj) ?_;refine V0 (dQ 0 ah O O<|v 0 _ O) ?_;refine WL.ur Y O bf O O (λw a=>aec c f g b m o p q r l d A B C D E s w a.V a.V a.V a.V<|M s<|dJ j) ?_;refine ag ?_;refine Cc O (λx=>?_)<|λx=>?_
  ·have y:mn l d s=au:=by simpa using x
   refine ai<|ad O<|ar O<|ag<|bq<|cZ<|Er<|Er<|cZ<|Er ?_;refine R1 O O λt a=>?_;exact ⟨by rw [adY j h y],a.fr⟩
  have y:mn l d s=ac:=by simpa using x
  refine Ck<|Eb<|Et<|Cr<|V0 (Yi O O O aj)<|ad O<|Ln ?_;exact cU (i+1) aj ⟨aj,F5 j h y⟩ aR
 have T:¬i<ss.length:=by simpa using u
 rw [i' aj] at h;refine Ce<|Ex<|Ex<|dy<|Et<|ai<|ar O<|ag<|bq ?_;refine R1 O O λt a=>?_;exact ⟨by rw [adX h],a.fr⟩
def aee (H:View) (h:az a0) (cs:Z) (ss:I Tx) (q:Sl rdStr 1 H h cs ss) (c f g b:View) (i j k m o:Z) (l:I cM) (d:I Z) (r:vc c i 0=aa (.map<|aa j)) (t:f j=aa (dH (λn:ab=>aT.int am n) (nb d 0) d.length)) (u:vc g k 0=aa (b0<|aa ⟨m,0,ak⟩)) (v:vc b m 1=aa (.map<|aa o)) (x:b o=aa (dH st (iV (jf l) 0) l.length)) (w:aL) (y:Le H w) (z:Le c w) (A:Le f w) (B:Le g w) (C:Le b w) (D:∀s ∈ ss,(ky l s).isSome=ac) : cr aB 189 #[aC h ss.length cs,.func (.func 190) #[] #[b0 (aa ⟨i,0,ak⟩),b0 (aa ⟨k,0,ak⟩)]] w λe p=>e = ax (bV<|!ss.all (mn l d))/\Ext w p:=by refine enter func189 O 9 O O ?_;refine CE (Vs:=[H,c,f,g,b]) (Ws.init (by simp [y,z,A,B,C]))<|ai<|ar O<|ag<|ai<|ad O<|ad O<|Lp Y O bf O (λw a=>aed H h cs ss q c f g b i j k m o l d r t u v x w a.V a.V a.V a.V a.V D)<|V0 (hE O O) ?_;refine ar O<|ag<|bq ?_;refine R1 O O λp a=>?_;exact ⟨by rw [<-adZ],a.fr⟩
def mS (l:I cM) (r:I Z×ab):Prop:=(¬mN l=0/\r=([],mN l))\/(mN l=0/\∃d,ux l d/\r=ze l d)
def aef {r c:I Z×ab} (h:mS aD r) (e:mS aD c):r=c:=by
 rcases h with ⟨a,rfl⟩ | ⟨a,d,f,rfl⟩
 ·rcases e with ⟨_,rfl⟩ | ⟨b,_⟩;·rfl
  ·exact absurd b a
 ·rcases e with ⟨b,_⟩ | ⟨_,i,g,rfl⟩;·exact absurd a b
  ·rw [M6 f g]
structure Tq where
 out:I Z
 s:SP
def SY (h:g9 aD ae=cI):(decide ((if cJ.contains ae=ac then (1:ab) else 0) > 0)||!cI.all (mn aD cJ)) = !oo aD cJ ae:=by unfold oo;rw [h];cases cJ.contains ae<;>simp
def aeg:zeroOf aB 300=aa (b0 ak):=ah
def aeh:eP aB 300=aa 1:=ah
def aei:zeroOf aB 306=aa (.map ak):=ah
def aej:eP aB 306=aa 1:=ah
def aek (H:View) (ke ks:Z) (a:az a0) (c:Z) (l:I cM) (w:aL) (aH:Le H w) (t:Sl (wL ke ks) 5 H a c l) (aK:∀m ∈ l,wM m<=109951162777) :
   cr aB 111 #[aC a l.length c] w λe u=>∃r:SP×I Z×ab,e = ax (cN #[aC r.1.1 r.2.1.length r.1.2,an am r.2.2])/\Ext w u/\Sl SU 1 (nv w u) r.1.1 r.1.2 r.2.1/\mS l r.2:=by
 have br:=t.cap;have bs:=t.max;refine enter func111 O 68 O O ?_;refine CE (Vs:=[H]) (Ws.init (by simp [aH]))<|ai ?_;refine WL.box Y O O λaf=>?_;refine ar O<|ar O<|ag ?_;refine WC.scope ?_;refine ai<|V0 (Yd 0 O O O ah) ?_;refine Ld Y O bf O (λr:Z×Z=>cN #[b0 (if mN l=0 then aa ⟨r.1,0,ak⟩ else ak),an am (mN l)]) (λo r=>mN l=0->vc o r.1 1=aa (.map<|aa r.2)/\o r.2=aa (dH st (iV (jf l) 0) l.length)) (λw f=>adW H ke ks a c l w f.V t aK) ?_;intro o E bt aP;refine ad O<|V0 (Yx O O)<|V0 (Yx O O) ?_;refine Al Y O aeg λal=>?_;refine aq 0 Y O O O aeh O O O<|ar O<|ag<|Cs<|ai<|ad O<|V0 (g2 O O)<|ag ?_;refine Cc O (λN=>?_)<|λN=>?_
 ·have aS:¬mN l=0:=by simpa using N
  refine ai<|ad O<|ar O<|ar O<|ag<|bq<|Er ?_;refine WE.KG ?_;refine WE.iA O O O λu f=>?_;exact ⟨((ak,0),[],mN l),O,f.fr,Sl.nil,bA ⟨aS,O⟩⟩
 have v:mN l=0:=by simpa using N
 have z:=HK.1 v;obtain ⟨aW,aX⟩:=aP v;refine bO<|Cs<|gL 0 (aM #[b0 (aa ⟨E.1,0,ak⟩)] 300 (0,0)) O (by rw [v];rfl) ?_;refine WC.F4 0 O λF aY=>?_;have aZ:vc F al 0=aa (b0<|aa ⟨E.1,0,ak⟩):=gx aY rfl;refine WC.F4 0 O λA a2=>?_;have G:vc A af 0=aa (aC a l.length c):=gx a2 rfl;refine Cr<|ar O<|LW (λ_ h=>h.bJ 3 1)<|ag<|Cs<|ai<|V0 (dQ 0 ah O O<|G)<|V0 (Yn r1 O)<|ad O<|ag<|Cb ?_;refine dZ (ι:=Z×SP) (λg=>[(22,an am (g.1:ab)),(6,aC g.2.1 (j7 g.1).length g.2.2)]) [(1,_),(2,_),(3,_),(4,_),(21,_)] (λg=>Ws w [] [cO 3 1 kH g.2.1 g.2.2<|j7 g.1] [A,F,o,H]) (λg=>g.1<=l.length) (λg=>l.length-g.1) (0,(ak,0)) (de _) aR ?_;intro g bu;refine ai<|V0 (cP O O)<|ag<|Cs ?_;refine Cc O (λP=>?_)<|λP=>?_
 ·have bw:g.1<l.length:=by simpa using P
  have bx:=G5 (n:=g.1);have a3:=z.gu;refine bO<|Cs<|Cb<|ai<|ad O<|ar O<|ag<|Cr<|ad O<|ad O ?_;refine Lb Y O fY O O O O λbz=>?_;refine dK 0 (aM (kH g.1).toArray 3 (0,0)) O O ?_;refine LA (g.1) 1 0 Y O fY O O O O O O aj aj λa4 a5=>?_;refine ar O<|Ln<|Eb<|Et<|Cr<|V0 (Yi O O O aj)<|ad O<|Ln ?_;rw [<-C0];exact cU ((g.1+1,(a4,a5)):Z×SP) (by show _-(g.1+1)<_;omega) (by show g.1+1<=_;omega)<|λ_ h=>Wd 1 h
 have a6:g.1=l.length:=by simp at P;omega
 rw [a6];refine Ce<|Ex<|Ex<|dy<|Et<|ai<|ad O<|V0 (vC O) ?_;refine Lw (ι:=I Z) [_] _ Y O bf O O (λ_=>cN #[]) (λd=>[cO 3 1 kH g.2.1 g.2.2 d]) (λd=>d.Perm (j7 l.length)/\pN (si l) d d.length) [A,H] aG (λw f=>aeb A H ke ks af a c l G t g.2.1 g.2.2 (j7 l.length) z.nd aG I.nodup_range (by simpa using z.gu) w f) ?_;intro d B;have ap:(j7 l.length).length=d.length:=B.1.length_eq.symm;have bB:d.length=l.length:=by rw [<-ap,G5]
 rw [ap];refine WL.cK (rd:=SU) 0 O mK fp λav a8=>?_;refine ag<|ai ?_;refine WL.oX (λn:ab=>aT.int am n) Y O λJ=>?_;refine Al Y O aei λaw=>?_;refine aq 0 Y O O O aej O O O<|ag<|Cs ?_;refine WC.F4 0 O λQ a9=>?_;have R:vc Q aw 0=aa (.map<|aa J):=gx a9 rfl;refine Cr<|ar O<|LW (λ_ h=>h.bJ 3 1)<|ag<|Cs ?_;refine WC.label ?_;refine Et<|Cs<|Cb ?_;refine dZ (ι:=Tq) (λq=>[(9,aC q.s.1 q.out.length q.s.2)]) [(1,_),(4,_),(6,_),(8,_)] (λq=>Ws w [] [cO 3 1 kH q.s.1 q.s.2 q.out,aJ J<|dH (λn:ab=>aT.int am n) (nb q.out 0) q.out.length] [Q,av,A,F,o,H]) (λq=>k8 l q.out) (λq=>l.length-q.out.length) ⟨[],(ak,0)⟩ k8.nil aR ?_;intro q C;refine Cs<|ai<|ad O<|V0 (Yn eS O)<|V0 (dQ 2 ah O O<|G)<|V0 (Yn r1 O)<|V0 (cP O O)<|ag ?_;refine Cc O (λS=>?_)<|λS=>?_
 ·have bC:q.out.length<l.length:=by simpa using S
  have a3:=z.gu;refine bO<|Cb<|Cs<|ai<|ad O<|V0 (Yn eS O)<|ad O<|ag<|Cb ?_;refine dg (ι:=Z) (λk=>[(41,an am (k:ab))]) [(1,_),(4,_),(6,_),(8,_),(9,_),(39,_),(40,_)] (λk=>k<=d.length/\∀y e,y<k->d[y]? = aa e->oo l q.out e=au) (λk=>d.length-k) 0 ⟨de _,λy e h=>by omega⟩ ?_;intro k ⟨bD,T⟩;refine ai<|V0 (cP O O)<|ag<|Cs ?_;refine Cc O (λU=>?_)<|λU=>?_
  ·have a_:k<d.length:=by simpa using U
   obtain ⟨x,K⟩:=dO a_;obtain ⟨ba,bb,bc,W⟩:=a8.b7 k x K;have W:ct av ba (bb+k*1)<|kH x:=W;have aA:x<l.length:=by simpa using B.1.subset (dJ K)
   obtain ⟨L,M⟩:=dO aA;obtain ⟨bF,bG,bd,aD,be,bh⟩:=t.b7 x L M;have bH:=vQ M;have aE:=M5 M;refine bO<|Cs<|Cb<|ai<|V0 (Yo eS O O bc aj)<|V0 (dQ 1 ah O O<|W 0 _ O)<|ar O<|ag<|Cs<|ai<|V0 (dQ 0 ah O O<|R)<|ad O<|V0 (qk 1 me F8 kD cw O O O) ?_;rw [HX];refine V0 (ek O O)<|ad O ?_;apply Lo 7 (x:=!L.aI.all (mn l q.out)) O O O O Y O O O O O;·intro bI;refine Vg (dQ 2 ah O O<|G)<|Vg (Ym O)<|Vg (Yo r1 O O bd aA)<|Vg (Yf rJ O)<|Vg (dQ 5 ah O O<|be 1 _ O)<|Vg (vC O) ?_;refine Lp (.g rfl rfl rfl) rfl bf rfl (λw f=>aee H aD.a1 aD.c1 L.aI bh.aI Q (bv J<|dH (λn:ab=>aT.int am n) (nb q.out 0) q.out.length) F o aw J al E.1 E.2 l q.out R (by simp [bv]) aZ aW aX w f.V f.V ((f.w6 1 rfl).vs _ aG) f.V f.V (λs bi=>by obtain ⟨j,bj⟩:=z.aI L (dJ M) s bi;rw [bj];rfl)) ?_;exact Gt 7 O O O
   refine ag ?_;refine Cc O (λD=>?_)<|λD=>?_
   ·have bk:oo l q.out x=au:=by rw [SY aE] at D;simpa using D
    refine Ce<|Ex<|dy<|Et<|Cr<|V0 (Yi O O O aj)<|ad O<|Ln ?_;exact cU (k+1) aj ⟨aj,λy e p i=>by
     rcases dd.1 p with h | h;·exact T y e h i
     ·subst h;rw [K] at i;injection i with i;subst i;exact bk⟩ aR
   have X:oo l q.out x=ac:=by rw [SY aE] at D;simpa using D
   have ae:q.out.contains x=au:=by unfold oo at X;revert X;cases q.out.contains x<;>simp
   have bm:zd l q.out x:=U9 B.1 B.2 K X<|λy e p i=>T y e p i;refine bO<|ai<|V0 (dQ 0 ah O O<|R)<|ad O<|V0 (qk 1 me F8 kD cw O O O) ?_;rw [HX,ae,ao a'];refine V0 (show Yl _ _ _ _<|an am 1 from n7 (a:=0) (b:=1) O O O O aj) ?_;refine WL.ql 1 me Y F8 kD O O O O ?_;rw [(M' ae).1,(M' ae).2];refine ag<|ai<|ad O<|ad O ?_;refine Lb Y O fY O O O O λbK=>?_;refine dK 0 (aM (kH x).toArray 3 (0,0)) O O ?_;refine LA x 1 0 Y O fY O O O O O O aj aj λbn bo=>?_;refine ar O<|ag<|Ce<|AH O<|Ex<|Ex<|AH O<|Ex<|dy ?_;exact cU (⟨q.out++[x],(bn,bo)⟩:Tq) (by show _-(q.out++[x]).length<_;simp;omega) (.snoc C bm)<|λ_ h=>Wd 1 h
  have bL:k=d.length:=by simp at U;omega
  have bp:=U' B.1<|λy e p=>T y e (by have:=(c_.1 p).1;omega) p;refine Ce<|Ex<|Ex<|dy<|Et<|ai<|ar O<|ar O<|ag<|bq<|cZ<|Er<|cZ<|Er ?_;refine WE.KG ?_;refine WE.iA O O O λu f=>?_;exact ⟨((ak,0),[],9),O,f.fr,Sl.nil,bl ⟨v,q.out,⟨C,bl bp⟩,by rw [ze,ao aj]⟩⟩
 have aF:q.out.length=l.length:=by have bM:=Bd (tt C).2 (tt C).1;simp at S;omega
 refine Ce<|Ex<|Ex<|dy<|Et<|ai<|ad O<|ar O<|ar O<|ag<|bq ?_;refine WE.KG ?_;refine WE.iA O O O λu f=>?_;exact ⟨(q.s,q.out,0),O,f.fr,f.jF 0 O mK fp,bl ⟨v,q.out,⟨C,bA aF⟩,by rw [ze,aU aF]⟩⟩
variable {aP:ab}
def SZ (h:mS aD (cJ,aP)) (c:aP=0) (f:0<aD.length):uC aD/\k8 aD cJ/\cJ.length=aD.length:=by
 rcases h with ⟨b,a⟩ | ⟨b,g,d,a⟩;·injection a with _ a;exact absurd (a.symm.trans c) b
 ·unfold ze at a;split at a;·rename_i e;injection a with a _;subst a;exact ⟨HK.1 b,d.1,e⟩
  ·injection a with _ a;rw [c] at a;cases a
def ael {l a:I cM} {f:Z->Z} {q:I Z×ab} (h:mS a q) (r:Ren l a f) (b:uC l)  (d:k8 l cJ) (c:cJ.length=l.length):q=(cJ.map f,0):=by
 rcases h with ⟨e,_⟩ | ⟨_,i,g,rfl⟩;·exact absurd (HK.2<|r.ok b) e
 ·have:=M6 g<|X7 r b d c;subst this;unfold ze;rw [aU (by rw [fK,c,r.len])]
def pw (l:I Tx) (r:I cD×ab):Prop:=(¬pn l=0/\r=([],pn l))\/(pn l=0/\∃q,mS (i8 l) q/\r=eU l q)
variable {F_:I cD×ab}
def KJ (h:pw cI F_) (f:F_.2=0):pn cI=0/\∃d,mS (i8 cI) (d,0)/\uC (i8 cI)/\k8 (i8 cI) d/\d.length=(i8 cI).length/\F_=kG (pZ (i8 cI) d) []:=by
 rcases h with ⟨g,rfl⟩ | ⟨g,⟨d,e⟩,i,rfl⟩;·exact absurd f g
 ·have j:e=0:=by
   unfold eU at f;by_cases k:e=0;·exact k
   ·rw [aU k] at f;exact absurd f k
  subst j;have l:0<(i8 cI).length:=by have:=(zV g).1.1;simp [i8];omega
  obtain ⟨a,b,c⟩:=SZ i rfl l;exact ⟨g,d,i,a,b,c,by rw [eU,ao aG]⟩
abbrev MP:=cM×mf
def F9 (x:MP):I aT:=hk x.1 x.2
def aem (x:MP):(F9 x).length=5:=rfl
def T0 (H:View) (b o:Z) (x:MP):Prop:=ct H b o<|F9 x
variable {bt bX:View} {b':az a0} {Am:I MP}
def aen {ke ks:Z}     (h:Sl T0 5 bt b' ae Am) (hv:cV bt bX) (d:∀y ∈ Am,mg ke ks bX y.2 y.1):Sl (wL ke ks) 5 bX b' ae (Am.map (·.1)):=by refine ⟨by rw [fK];exact h.cap,h.max,h.spot,λi x a=>?_⟩;rw [gh] at a;obtain ⟨y,c,rfl⟩:=eD.1 a;obtain ⟨b,o,e,f⟩:=h.b7 i y c;exact ⟨b,o,e,y.2,ct.mono hv f,d y<|dJ c⟩
variable {KI:mf}
def KL (a:cV bt bX)    (h:mg ae aH bt KI a8):mg ae aH bX KI a8:= ⟨h.aI.imp λ_ _ _ h=>ct.mono a h,h.decls.imp λ_ _ _ h=>ct.mono a h,h.procs.imp λb o x c=>Mo a (eC _) (eC _) b o x c,h.main.imp λb o x c=>xl a (eC _) (eC _) b o x c⟩
abbrev FP:=cx×SP
def F' (x:FP):I aT:=RZ x.1 x.2
def aeo (x:FP):(F' x).length=2:=rfl
def S1 (H:View) (b o:Z) (x:FP):Prop:=ct H b o<|F' x
def aep {ys:I FP} (h:Sl S1 2 bt b' ae ys) (hv:cV bt bX) (d:∀y ∈ ys,Sl dL 4 bX y.2.1 y.2.2 y.1.2):Sl FD 2 bX b' ae (ys.map (·.1)):=by refine ⟨by rw [fK];exact h.cap,h.max,h.spot,λi x a=>?_⟩;rw [gh] at a;obtain ⟨y,c,rfl⟩:=eD.1 a;obtain ⟨b,o,e,f⟩:=h.b7 i y c;exact ⟨b,o,e,y.2,ct.mono hv f,d y<|dJ c⟩
def j0 (J:View) (M:I<|fe Tx) (fl:I<|Tx×cx):Prop:=∀s,∃r:SP,hj s M (bU #[st [],aC ak 0 0]) = bU #[st (ki fl s).1,aC r.1 (ki fl s).2.length r.2]/\Sl dL 4 J r.1 r.2 (ki fl s).2
def j0.nil:j0 bt [] []:=λ_=>⟨(ak,0),rfl,Sl.nil⟩
variable {CN:I<|fe Tx} {rZ:I<|Tx×cx}
def j0.mv (h:j0 bt CN rZ) (hv:cV bt bX):j0 bX CN rZ:=λs=>by obtain ⟨r,a,b⟩:=h s;exact ⟨r,a,Kc hv b⟩
def j0.put (h:j0 bt CN rZ)  {f:cx}   (c:Z) (b:Sl dL 4 bt b' ae f.2):j0 bt (bB bw (bU #[st f.1,aC b' f.2.length ae]) CN c)<|(bw,f)::rZ:=λs=>by
 by_cases e:s=bw;·subst e;refine ⟨(b',ae),by rw [xt,ki,aU rfl],?_⟩;rw [ki,aU rfl];exact b
 ·obtain ⟨r,d,g⟩:=h s;have a:¬bw=s:=λq=>e q.symm;refine ⟨r,by rw [Be _ CN c _ e,d,ki,ao a],?_⟩;rw [ki,ao a];exact g
structure Jn where
 i:Z
 es:I MP
 m:SP
 J:View
structure S2 where
 i:Z
 us:I XU
 o:SP
 fl:I<|Tx×cx
 M:I<|fe Tx
 c:Z
 J:View
structure S3 where
 k:Z
 es:I FP
 r:SP
def aeq (a:¬(cI.length<1\/4<cI.length)) (b:∀s ∈ cI.take ae,(fJ s).2=0) (c:cI[ae]? = aa bw) (h:¬(fJ bw).2=0):pn cI=(fJ bw).2:=by rw [pn,ao a];exact Jg b c h
def aer (b:∀s ∈ cI.take ae,(fJ s).2=0) (c:cI[ae]? = aa bw) (h:(fJ bw).2=0):∀s ∈ cI.take (ae+1),(fJ s).2=0:=λs a=>by
 rw [jl c] at a;rcases bm.1 a with k | k;·exact b s k
 ·rw [fq] at k;subst k;exact h
def aes (a:Am.map (·.1)=i8 (cI.take ae)) (b:cI[ae]? = aa bw):(Am++[((fJ bw).1,KI)]).map (·.1)=i8 (cI.take<|ae+1):=by rw [nY,a,jl b];simp [i8]
def aet {l:I cM}   (h:¬ae<cJ.length):pZ l (cJ.drop ae)=[]:=by rw [wX aj];rfl
def S4:hW aB 206 27 (bU #[st [],aC ak 0 0,aC ak 0 0,aC ak 0 0,aC ak 0 0]) 5 112:=jD ah
def S5:aB.underlying 209=aa (.map 9 42):=ah
def S6 (n q:View) (a:az a0) (c:Z) (l:I Tx) (w:aL) (bj:Le n w) (B:Le q w) (bk:Laid q) (X:Sl rdStr 1 n a c l) :
   cr aB 33 #[aC a l.length c] w λe u=>∃r:SP×I cD×ab,e = ax (cN #[aC r.1.1 r.2.1.length r.1.2,an am r.2.2])/\Ext w u/\Sl (Kk 8 7) 5 (nv w u) r.1.1 r.1.2 r.2.1/\pw l r.2:=by
 have cw:=X.cap;have cx:=X.max;refine enter func33 O 109 O O ?_;refine CE (Vs:=[n,q]) (Ws.init (by simp [bj,B]))<|ai<|ar O<|ar O<|ag<|Cs<|ai<|ad O<|V0 (Yn e4 O)<|V0 (cP O O) ?_;refine ad O ?_;apply Lo 3 O O O O Y O O O O O;·intro cy;refine Vg (Ym O)<|Vg (Yn e4 O)<|Vg (ek O O) ?_;exact Gt 3 O O O
 refine ag ?_;refine Cc O (λae=>?_)<|λae=>?_
 ·have j:l.length<1\/4<l.length:=by simp at ae;omega
  refine ai<|ar O<|ar O<|ag<|bq<|Er ?_;refine WE.iA O O O λu f=>?_;have F:pn l=2:=by rw [pn,aU j]
  exact ⟨((ak,0),[],2),O,f.fr,Sl.nil,bA ⟨by rw [F];decide,by rw [F]⟩⟩
 have bn:¬(l.length<1\/4<l.length):=by simp at ae;omega
 refine bO<|ai<|ar O<|LW (λ_ h=>h.bJ 27 5) ?_;refine WL.v0 ?_;refine ag<|Cs<|ai<|ad O<|V0 (Yn e4 O)<|ad O<|ag<|Cb ?_;refine dZ (ι:=Jn) (λg=>[(32,an am (g.i:ab)),(4,aC g.m.1 g.es.length g.m.2)]) [(30,_),(31,_)] (λg=>Ws w [] [cO 27 5 F9 g.m.1 g.m.2 g.es] [g.J,n,q]) (λg=>g.i<=l.length/\g.es.map (·.1)=i8 (l.take g.i)/\(∀s ∈ l.take g.i,(fJ s).2=0)/\g8 w g.J/\(∀e ∈ g.es,mg 7 6 g.J e.2 e.1)/\g.es.length=g.i) (λg=>l.length-g.i) ⟨0,[],(ak,0),v0⟩ ⟨de _,O,aG,ec w,aG,O⟩ (λ_ h=>by have h:=Ws.dr h (cB:=[v0,n,q]) aG;exact h) ?_;intro g ⟨hi,K,L,bo,a5,bp⟩;refine ai<|V0 (cP O O)<|ag<|Cs ?_;refine Cc O (λaf=>?_)<|λaf=>?_
 ·have al:g.i<l.length:=by simpa using af
  obtain ⟨x,v⟩:=dO al;obtain ⟨ap,av,aw,C⟩:=X.b7 g.i x v;have C:ct n ap (av+g.i*1)<|fV x:=C;refine bO<|Cs<|Cb<|ai<|V0 (Yo e4 O O aw aj)<|V0 (dQ 1 ah O O<|C 0 _ O)<|ar O<|ag<|ai<|ad O ?_;refine Ld Y O bf O (λr:mf=>cN #[bU (hk ((fJ x).1) r).toArray,an am ((fJ x).2)]) (λH r=>mg 7 6 H r<|(fJ x).1) (λw f=>by have:=Rw q x w f.V bk;exact this) ?_;intro cz aA br bs;refine ad O<|V0 (Yx O O)<|V0 (Yx O O) ?_;refine Al Y O sY λcC=>?_;refine aq 0 Y O O O sZ O O O<|ar O<|ag<|Cs<|ai<|ad O<|V0 (g2 O O)<|ag ?_;refine Cc O (λaD=>?_)<|λaD=>?_
  ·have j:¬(fJ x).2=0:=by simpa using aD
   refine ai<|ad O<|ar O<|ar O<|ag<|bq<|Er<|cZ<|Er<|Er<|cZ<|Er ?_;refine WE.iA O O O λu f=>?_;have F:=aeq bn L v j;exact ⟨((ak,0),[],(fJ x).2),O,f.fr,Sl.nil,bA ⟨by rw [F];exact j,by rw [F]⟩⟩
  have bt:(fJ x).2=0:=by simpa using aD
  refine bO<|Cr<|ad O<|V0 (dv 0 O O cA O) ?_;refine Lb Y O S4 O O O O λcE=>?_;refine dK 0 (aM (F9 ((fJ x).1,aA)).toArray 27 (0,0)) O O ?_;refine LA ((fJ x).1,aA) 2 0 Y O S4 O O O O O O aj aj λbu bv=>?_;refine WL.jJ λbw bx bz bC=>?_;refine ar O<|Ln<|Eb<|Et<|Cr<|V0 (Yi O O O aj)<|ad O<|Ln ?_;exact cU (⟨g.i+1,g.es++[((fJ x).1,aA)],(bu,bv),bw⟩:Jn) (by show _-(g.i+1)<_;omega) ⟨by show g.i+1<=_;omega,aes K v,aer L v bt,bC w br bo,λy t=>by
   rcases bm.1 t with k | k;·exact KL bz<|a5 y k
   ·rw [fq] at k;subst k;exact KL bx bs,by simp [bp]⟩<|λ_ h=>Wd 2 h
 have bD:g.i=l.length:=by simp at af;omega
 rw [bD,gJ] at K L;have N:pn l=0:=Jh aj L;have bF:g.es.length=(i8 l).length:=by rw [<-K,fK]
 rw [bF];have a6:∀m ∈ i8 l,wM m<=109951162777:=λm bG=>by obtain ⟨s,_,rfl⟩:=py.1 bG;have:=Ke s;omega
 refine Ce<|Ex<|Ex<|dy<|Et<|Cs ?_;refine WC.cK (rd:=T0) 0 O aem fp λcF bH=>?_;refine WC.jJ λz bI bK cG=>?_;have P:Sl (wL 7 6) 5 z g.m.1 g.m.2<|i8 l:=by have D:=aen (ke:=7) (ks:=6) bH bI λy t=>KL bK<|a5 y t;rw [K] at D;exact D
 have cH:=P.cap;have cI:=P.max;refine Cr<|ad O ?_;refine Ld Y O bf O (λr:SP×I Z×ab=>cN #[aC r.1.1 r.2.1.length r.1.2,an am r.2.2]) (λaE r=>Sl SU 1 aE r.1.1 r.1.2 r.2.1/\mS (i8 l) r.2) (λw f=>aek z 7 6 g.m.1 g.m.2 (i8 l) w f.V P a6) ?_;intro Q bL cJ bM;obtain ⟨cL,d,A⟩:=bL;obtain ⟨R,E⟩:=bM;dsimp only at R E;have cM:=R.cap;have cQ:=R.max;refine ad O<|V0 (Yx O O)<|V0 (Yx O O)<|ar O<|ar O<|ag<|Cs<|ai<|ad O<|V0 (g2 O O) ?_;refine ag ?_;refine Cc O (λaF=>?_)<|λaF=>?_
 ·have j:¬A=0:=by simpa using aF
  refine ai<|ad O<|ar O<|ar O<|ag<|bq<|Er ?_;refine WE.iA O O O λu f=>?_;exact ⟨((ak,0),[],A),O,f.fr,Sl.nil,bl ⟨N,(d,A),E,by rw [eU,aU j]⟩⟩
 have S:A=0:=by simpa using aF
 have bN:0<(i8 l).length:=by simp [i8];omega
 obtain ⟨a8,bP,cR⟩:=SZ E S bN;have cS:=a8.gu;refine bO<|ai ?_;refine WL.oX st Y O λa9=>?_;refine dK 0 (dH st ([]:I (fe Tx)) 0) O O<|ar O<|ag<|ai<|ar O<|LW (λ_ h=>h.bJ 37 5) ?_;refine WL.v0 ?_;refine ag<|Cs<|ai<|ad O<|V0 (Yn eS O)<|ad O<|ag<|Cb ?_;refine dZ (ι:=S2) (λp=>[(60,an am (p.i:ab)),(12,aC p.o.1 p.us.length p.o.2)]) [(4,_),(11,_),(58,_),(59,_)] (λp=>Ws w [] [cO 37 5 XU.cells p.o.1 p.o.2 p.us,aJ a9<|dH st p.M p.c] [p.J,Q,z,n,q]) (λp=>p.i<=d.length/\kG (pZ (i8 l) d) []=u4 (p.us.map (·.1)) (kG (pZ (i8 l)<|d.drop p.i) p.fl)/\g8 w p.J/\(∀e ∈ p.us,og 8 7 p.J e.2 e.1)/\j0 p.J p.M p.fl/\p.us.length=p.i) (λp=>d.length-p.i) ⟨0,[],(ak,0),[],[],0,v0⟩ ⟨de _,PL _ _,ec w,aG,j0.nil,O⟩ (λ_ h=>by have h:=Ws.dr h (cB:=[v0,Q,z,n,q]) aG;exact h) ?_;intro p ⟨cT,B,a',a_,ba,bQ⟩;refine ai<|V0 (cP O O)<|ag<|Cs ?_;refine Cc O (λaH=>?_)<|λaH=>?_
 ·have bR:p.i<d.length:=by simpa using aH
  obtain ⟨x,v⟩:=dO bR;obtain ⟨ap,av,aw,C⟩:=R.b7 p.i x v;have C:ct Q ap (av+p.i*1)<|kH x:=C;have bS:x<(i8 l).length:=(tt bP).1 x<|dJ v;obtain ⟨m,T⟩:=dO bS;obtain ⟨cV,cW,bT,aK,bW,G⟩:=P.b7 x m T;have bb:=a6 m<|dJ T;have aP:=Yc v T;have cX:=(JU<|a8.kq m<|dJ T).gu;have cY:=G.aI.cap;have c0:=G.aI.max;refine bO<|Cs<|Cb<|ai<|V0 (Yo eS O O aw aj)<|V0 (dQ 1 ah O O<|C 0 _ O)<|ar O<|ag<|ai<|ad O<|ad O<|V0 (Yo r1 O O bT aj) ?_;refine V0 (dG 2 cA O O O<|bW) ?_;refine Al Y O sY λbX=>?_;refine aq 0 Y O O O sZ O O O<|ag<|ai<|ar O<|LW (λ_ h=>h.bJ 42 2)<|ag<|Cs<|ai<|V0 (Yf rJ O)<|V0 (Yd 1 O O O ah)<|V0 (Yn e4 O) ?_;refine ad O<|ag<|Cb ?_;refine dZ (ι:=S3) (λb=>[(71,an am (b.k:ab)),(16,aC b.r.1 b.es.length b.r.2)]) [(4,_),(11,_),(12,_),(15,_),(58,_),(59,_),(60,_),(69,_),(70,_)] (λb=>Ws w [] [cO 42 2 F' b.r.1 b.r.2 b.es,aJ bX<|aM (hk m aK).toArray 27 (0,0),cO 37 5 XU.cells p.o.1 p.o.2 p.us,aJ a9<|dH st p.M p.c] [p.J,Q,z,n,q]) (λb=>b.k<=m.aI.length/\b.es.map (·.1)=(m.aI.take b.k).map (ki p.fl)/\(∀e ∈ b.es,Sl dL 4 p.J e.2.1 e.2.2 e.1.2)/\b.es.length=b.k) (λb=>m.aI.length-b.k) ⟨0,[],(ak,0)⟩ ⟨de _,O,aG,O⟩ aR ?_;intro b ⟨c1,U,bc,bY⟩;refine ai<|V0 (cP O O)<|ag<|Cs ?_;refine Cc O (λaS=>?_)<|λaS=>?_
  ·have al:b.k<m.aI.length:=by simpa using aS
   obtain ⟨s,bd⟩:=dO al;obtain ⟨bZ,pos,b1,aW⟩:=G.aI.b7 b.k s bd;have aW:ct z bZ (pos+b.k*1)<|fV s:=aW;obtain ⟨aX,aY,b2⟩:=ba s;refine bO<|Cs<|Cb<|ai<|V0 (Yo e4 O O b1 aj)<|V0 (dQ 2 ah O O<|aW 0 _ O)<|ar O<|ag<|Cr<|ad O<|ad O<|ad O ?_;refine V0 (qk 3 i2 S5 ah vi O O O) ?_;rw [aY];refine Lb Y O R8 O O O O λc2=>?_;refine dK 0 (aM (F' (ki p.fl s,aX)).toArray 42 (0,0)) O O ?_;refine LA (ki p.fl s,aX) 1 0 Y O R8 O O O O O O aj aj λb3 b4=>?_;refine ar O<|Ln<|Eb<|Et<|Cr<|V0 (Yi O O O aj)<|ad O<|Ln ?_;exact cU (⟨b.k+1,b.es++[(ki p.fl s,aX)],(b3,b4)⟩:S3) (by show _-(b.k+1)<_;omega) ⟨by show b.k+1<=_;omega,by rw [nY,U,jl bd];simp,λy t=>by
    rcases bm.1 t with k | k;·exact bc y k
    ·rw [fq] at k;subst k;exact b2,by simp [bY]⟩<|λ_ h=>Wd 1 h
  have aY:b.k=m.aI.length:=by simp at aS;omega
  rw [aY,gJ] at U;have b5:b.es.length=(m.aI.map<|ki p.fl).length:=by rw [<-U,fK]
  rw [b5];refine Ce<|Ex<|Ex<|dy<|Et<|ai<|V0 (dv 1 O O cA O) ?_;refine Ld Y O bf O (λr:SP=>cN #[bU #[st (fk m).1.1,aC r.1 (fk m).1.2.length r.2],an am (fk m).2]) (λH r=>Sl dL 4 H r.1 r.2 (fk m).1.2) (λw f=>RI z 7 6 aK m w f.V G bb) ?_;intro c3 be b6 b8;refine ad O<|V0 (Yx O O)<|V0 (Yx O O) ?_;refine Al Y O vi λc4=>?_;refine aq 0 Y O O O x_ O O O<|ar O<|ag<|Cs<|ai<|ad O<|V0 (g2 O O)<|ag ?_;refine Cc O (λaZ=>?_)<|λaZ=>?_
  ·have j:¬(fk m).2=0:=by simpa using aZ
   refine ai<|ad O<|ar O<|ar O<|ag<|bq<|Er<|cZ<|Er<|Er<|cZ<|Er ?_;refine WE.iA O O O λu f=>?_;exact ⟨((ak,0),[],(fk m).2),O,f.fr,Sl.nil,bl ⟨N,(d,A),E,by rw [eU,ao (by simpa using S),B,aP,PM (by rw [PN j];exact j),PN j]⟩⟩
  have b9:(fk m).2=0:=by simpa using aZ
  have W:=afG (M:=p.fl) b9;refine bO<|Cs ?_;refine WC.pH (rd:=S1) 1 O aG aeo fp λc6 b' ca=>?_;refine WC.jJ λc7 cb cc cd=>?_;refine WC.jJ λbh bi a1 ce=>?_;have cf:Sl FD 2 bh b.r.1 b.r.2<|m.aI.map<|ki p.fl:=by have D:=aep ca (λ_ _ h=>bi _ _<|cb _ _ h) λy t=>Kc (λ_ _ h=>a1 _ _ h)<|bc y t;rw [U] at D;exact D
  refine Cr<|V0 (dv 1 O O cA O)<|ad O ?_;refine Ld Y O bf O (λr:o5=>cN #[bU (hX (jq m<|m.aI.map<|ki p.fl).1 r).toArray,an am (jq m<|m.aI.map<|ki p.fl).2]) (λaE r=>og (7+1) (6+1) aE r (jq m<|m.aI.map<|ki p.fl).1) (λw f=>by skip;exact acb z bh 7 6 aK m b.r.1 b.r.2 (m.aI.map<|ki p.fl) w f.V f.V G cf bb) ?_;intro c9 a2 cg ch;refine ad O<|V0 (Yx O O)<|V0 (Yx O O) ?_;refine Al Y O ft λc'=>?_;refine aq 0 Y O O O rT O O O<|ar O<|ag<|Cs<|ai<|ad O<|V0 (g2 O O)<|ag ?_;refine Cc O (λa3=>?_)<|λa3=>?_
  ·have j:¬(jq m<|m.aI.map<|ki p.fl).2=0:=by simpa using a3
   refine ai<|ad O<|ar O<|ar O<|ag<|bq<|Er<|cZ<|Er<|Er<|cZ<|Er ?_;refine WE.iA O O O λu f=>?_;exact ⟨((ak,0),[],(jq m<|m.aI.map<|ki p.fl).2),O,f.fr,Sl.nil,bl ⟨N,(d,A),E,by rw [eU,ao (by simpa using S),B,aP,PM (by rw [W];exact j),W]⟩⟩
  have cj:(jq m<|m.aI.map<|ki p.fl).2=0:=by simpa using a3
  refine bO<|ai<|ad O<|V0 (Yf wr O)<|V0 (Yd 2 O O O ah)<|V0 (dv 1 O O ya O) ?_;refine WL.ql 4 i2 Y S5 ah O O O O ?_;refine ag<|Cr<|ad O<|V0 (dv 0 O O l9 O) ?_;refine Lb Y O Ss O O O O λc_=>?_;refine dK 0 (aM (XU.cells ((jq m<|m.aI.map<|ki p.fl).1,a2)).toArray 37 (0,0)) O O ?_;refine LA ((jq m<|m.aI.map<|ki p.fl).1,a2) 4 0 Y O Ss O O O O O O aj aj λck cl=>?_;refine WL.jJ λcm cn a4 co=>?_;refine ar O<|Ln<|Eb<|Et<|Cr<|V0 (Yi O O O aj)<|ad O<|Ln ?_;exact cU (⟨p.i+1,p.us++[((jq m<|m.aI.map<|ki p.fl).1,a2)],(ck,cl),(m.nm,(fk m).1)::p.fl,bB m.nm (bU #[st (fk m).1.1,aC be.1 (fk m).1.2.length be.2]) p.M p.c,jG m.nm p.M p.c,cm⟩:S2) (by show _-(p.i+1)<_;omega) ⟨by show p.i+1<=_;omega,by have D:=Jf (us:=p.us.map (·.1)) (r:=pZ (i8 l)<|d.drop<|p.i+1) (show (kj p.fl m).2=0 by rw [W];exact cj);rw [B,aP,D,W];simp,co w cg<|ce w (cd w (by exact b') b6) a',λy t=>by
   rcases bm.1 t with k | k;·exact (a_ y k).mv<|λ_ _ h=>a4 _ _<|a1 _ _ h
   ·rw [fq] at k;subst k;exact ch.mv cn,(ba.mv<|λ_ _ h=>a4 _ _<|a1 _ _ h).put _<|Kc (λ_ _ h=>a4 _ _<|bi _ _<|cc _ _ h) b8,by simp [bQ]⟩<|λ_ h=>Wd 4 h
 have cp:¬p.i<d.length:=by simpa using aH
 refine Ce<|Ex<|Ex<|dy<|Et<|ai<|ad O<|ar O<|ar O<|ag<|bq ?_;refine WE.iA O O O λu f=>?_;have cq:=aet (l:=i8 l) cp;rw [cq] at B;have cs:(p.us.map (·.1),(0:ab))=eU l (d,A):=by rw [eU,ao (by simpa using S),B];simp [u4,kG]
 refine ⟨(p.o,p.us.map (·.1),0),by rw [fK],f.fr,?_,bl ⟨N,(d,A),E,cs⟩⟩;have cu:=f.jF (rd:=Sr) 0 rfl XU.dA fp;exact acK cu ud λe cv=>(a_ e cv).mv<|e7 f aG a'
def S7 (h:pw cI F_):∀u ∈ F_.1,uG u<=1048576:=by
 rcases h with ⟨_,rfl⟩ | ⟨_,q,_,rfl⟩;·intro u a;simp at a
 ·intro u a;unfold eU at a;split at a;·simp at a
  ·refine qa (PK (b:=73728) _ _ (λm c=>?_) u a) a';unfold pZ at c;obtain ⟨i,_,hi⟩:=I.mem_filterMap.1 c;obtain ⟨s,_,rfl⟩:=py.1<|dJ hi;exact Ke s
def aeu (h:pw cI F_):F_.1.length<=4:=by
 rcases h with ⟨_,rfl⟩ | ⟨b,q,c,rfl⟩;·simp
 ·unfold eU;split;·simp
  ·have e:(i8 cI).length<=4:=by have:=(zV b).1.2;simpa [i8] using this
   refine qa (PJ _ _)<|qa (m:=q.1.length) ?_ ?_;·unfold pZ;exact I.length_filterMap_le _ _
   ·rcases c with ⟨_,rfl⟩ | ⟨_,d,a,rfl⟩;·simp
    ·have:=Bd (tt a.1).2 (tt a.1).1;unfold ze;split;·show d.length<=4;omega
     ·simp
structure S8 where
 i:Z
 es:I XO
 o:SP
 J:View
structure GB5 where
 i:Z
 es:I FP
 r:SP
 J:View
def kb (u:cD):d_:=(iu u).1.to
variable {ck:I cD} {dS:cD}
def aev (a:∀s ∈ ck.take ae,(iu s).2=0) (b:ck[ae]? = aa dS) (h:¬(iu dS).2=0):mF (ck,0)=(([],0),(iu dS).2):=by have e:Fb ck=(iu dS).2:=Jg a b h;rw [mF,ao aG,e,aU h]
def aew (a:∀s ∈ ck,(iu s).2=0):mF (ck,0)=eq (ck.map kb):=by have e:Fb ck=0:=sh.2 a;rw [mF,ao aG,e,ao aG];rfl
def aex {us:I cD}  (h:¬aP=0):mF (us,aP)=(([],0),aP):=by rw [mF,aU h]
def aey (b:∀s ∈ ck.take ae,(iu s).2=0) (c:ck[ae]? = aa dS) (h:(iu dS).2=0):∀s ∈ ck.take (ae+1),(iu s).2=0:=λs a=>by
 rw [jl c] at a;rcases bm.1 a with k | k;·exact b s k
 ·rw [fq] at k;subst k;exact h
def aez {es:I XO}  (h:Sl Kq 7 bt b' ae es) (hv:cV bt bX) (a:∀e ∈ es,lA bX e.2 e.1) (b:es.map (·.1)=ck.map kb):Sl sE 7 bX b' ae<|ck.map kb:=by rw [<-b];exact acO h hv a
def aeA (f j:View) (a:az a0) (c:Z) (l:I Tx) (w:aL) (M:Le f w) (N:Le j w) (P:Laid j) (Q:Sl rdStr 1 f a c l) : cr aB 34 #[aC a l.length c] w λe n=>∃r:SP×I cD×ab,e = ax (cN #[bU #[aC r.1.1 (mF r.2).1.1.length r.1.2,an am (mF r.2).1.2],an am (mF r.2).2])/\Ext w n/\Sl kf 3 (nv w n) r.1.1 r.1.2 (mF r.2).1.1/\pw l r.2:=by
 refine enter func34 O 44 O O ?_;refine CE (Vs:=[f,j]) (Ws.init (by simp [M,N]))<|ai ?_;refine Al Y O qE λR=>?_;refine ar O<|ag<|ai<|ad O ?_;refine Ld Y O bf O (λr:SP×I cD×ab=>cN #[aC r.1.1 r.2.1.length r.1.2,an am r.2.2]) (λp r=>Sl (Kk 8 7) 5 p r.1.1 r.1.2 r.2.1/\pw l r.2) (λw b=>S6 f j a c l w b.V b.V P Q) ?_;intro A S a1 T;obtain ⟨a2,us,B⟩:=S;obtain ⟨v,m⟩:=T;dsimp only at v m;have a3:=v.cap;have a4:=v.max;have a5:us.length<=4:=aeu m;refine ad O<|V0 (Yx O O)<|V0 (Yx O O)<|ar O<|ar O<|ag<|Cs<|ai<|ad O<|V0 (g2 O O) ?_;refine ag ?_;refine Cc O (λC=>?_)<|λC=>?_
 ·have D:¬B=0:=by simpa using C
  refine ai<|V0 (Yb qE wa O O)<|ad O<|aq 0 Y O O O rr O O O<|ar O<|ag<|bq<|Er ?_;refine WE.gt (hG O (e1 0 O O ow O)<|ja O) λn b=>?_;have d:=aex (us:=us) D;refine ⟨((ak,0),us,B),?_,b.fr,?_,m⟩;·dsimp only;rw [d];rfl
  ·dsimp only;rw [d];exact Sl.nil
 have U:B=0:=by simpa using C
 subst U;refine bO<|ai<|ar O<|LW (λ_ h=>h.bJ 77 7) ?_;refine WL.v0 ?_;refine ag<|Cs<|ai<|ad O<|V0 (Yn nU O)<|ad O<|ag<|Cb ?_;refine dZ (ι:=S8) (λg=>[(22,an am (g.i:ab)),(6,aC g.o.1 g.es.length g.o.2)]) [(2,_),(20,_),(21,_)] (λg=>Ws w [] [cO 77 7 XO.cells g.o.1 g.o.2 g.es,aJ R<|aM #[aC ak 0 0,an am 0] 57 (0,0)] [g.J,A,f,j]) (λg=>g.i<=us.length/\g.es.map (·.1)=(us.take g.i).map kb/\(∀s ∈ us.take g.i,(iu s).2=0)/\g8 w g.J/\(∀e ∈ g.es,lA g.J e.2 e.1)/\g.es.length=g.i) (λg=>us.length-g.i) ⟨0,[],(ak,0),v0⟩ ⟨de _,O,aG,ec w,aG,O⟩ (λ_ h=>by have h:=Ws.dr h (cB:=[v0,A,f,j]) aG;exact h) ?_;intro g ⟨hi,x,z,W,K,X⟩;refine ai<|V0 (cP O O)<|ag<|Cs ?_;refine Cc O (λE=>?_)<|λE=>?_
 ·have ae:g.i<us.length:=by simpa using E
  obtain ⟨u,t⟩:=dO ae;obtain ⟨a6,a8,af,ah,al,ao⟩:=v.b7 g.i u t;refine bO<|Cs<|Cb<|ai<|V0 (Yo nU O O af aj)<|V0 (dG 1 l9 O O O<|al) ?_;refine Al Y O ft λa9=>?_;refine aq 0 Y O O O rT O O O<|ag<|ai<|V0 (dv 0 O O l9 O) ?_;refine Ld Y O bf O (λr:rc=>cN #[bU (cW (kb u) r).toArray,an am (iu u).2]) (λp r=>lA p r<|kb u) (λw b=>acP A 8 7 u ah w b.V ao<|S7 m u<|dJ t) ?_;intro a' F ap av;refine ad O<|V0 (Yx O O)<|V0 (Yx O O) ?_;refine Al Y O t_ λa_=>?_;refine aq 0 Y O O O vm O O O<|ar O<|ag<|Cs<|ai<|ad O<|V0 (g2 O O)<|ag ?_;refine Cc O (λG=>?_)<|λG=>?_
  ·have D:¬(iu u).2=0:=by simpa using G
   refine ai<|V0 (Yb qE wa O O)<|ad O<|aq 3 Y O O O rr O O O<|ar O<|ag<|bq<|Er<|cZ<|Er<|Er<|cZ<|Er ?_;refine WE.gt (hG O (e1 3 O O ow O)<|ja O) λn b=>?_;have d:=aev z t D;refine ⟨((ak,0),us,0),?_,b.fr,?_,m⟩;·dsimp only;rw [d];rfl
   ·dsimp only;rw [d];exact Sl.nil
  have aw:(iu u).2=0:=by simpa using G
  refine bO<|Cr<|ad O<|V0 (dv 0 O O hM O) ?_;refine Lb Y O Su O O O O λba=>?_;refine dK 0 (aM (XO.cells (kb u,F)).toArray 77 (0,0)) O O ?_;refine LA (kb u,F) 3 0 Y O Su O O O O O O aj aj λaA aD=>?_;refine WL.jJ λaE aF aH aI=>?_;refine ar O<|Ln<|Eb<|Et<|Cr<|V0 (Yi O O O aj)<|ad O<|Ln ?_;exact cU (⟨g.i+1,g.es++[(kb u,F)],(aA,aD),aE⟩:S8) (by show _-(g.i+1)<_;omega) ⟨by show g.i+1<=_;omega,by rw [nY,x,jl t];simp,aey z t aw,aI w ap W,λy H=>by
   rcases bm.1 H with k | k;·exact Kr (K y k) aH
   ·rw [fq] at k;subst k;exact Kr av aF,by simp [X]⟩<|λ_ h=>Wd 3 h
 have aK:g.i=us.length:=by simp at E;omega
 rw [aK,gJ] at x z;have aP:g.es.length=(us.map kb).length:=by rw [<-x,fK]
 rw [aP];refine Ce<|Ex<|Ex<|dy<|Et<|Cs ?_;refine WC.cK (rd:=Kq) 0 O XO.dA fp λbb aR=>?_;refine WC.jJ λL aS aU bc=>?_;have aW:Sl sE 7 L g.o.1 g.o.2<|us.map kb:=aez aR aS (λy H=>Kr (K y H) aU) x;refine Cr<|ad O ?_;refine Ld Y O bf O (λq:SP=>cN #[bU #[aC q.1 (eq<|us.map kb).1.1.length q.2,an am (eq<|us.map kb).1.2],an am (eq<|us.map kb).2]) (λp q=>Sl kf 3 p q.1 q.2 (eq<|us.map kb).1.1) (λw b=>ac1 L g.o.1 g.o.2 (us.map kb) w b.V aW) ?_;intro bd aX aY aZ;refine V0 (Yx O O)<|V0 (Yx O O)<|aq 0 Y O O O rr O O O<|ar O<|ag<|bq ?_;refine WE.gt (hG O (e1 0 O O ow O)<|ja O) λn b=>?_;have d:=aew z;refine ⟨(aX,us,0),?_,b.fr,?_,m⟩;·dsimp only;rw [d];rfl
 ·dsimp only;rw [d];exact aZ.imp λ_ _ _ h=>ct.mono (e7 b aG aY) h
def ih:Tx:=[109,111,100,117,108,101,32,99,110,116,32,123,32,112,117,98,32,99,111,110,115,116,32,107,32,61,32,51,32,59,32,112,117,98,32,118,97,114,32,115,117,109,32,59,32,112,117,98,32,97,114,114,97,121,32,116,32,91,32,52,32,93,32,59,32,112,117,98,32,112,114,111,99,32,100,111,119,110,32,40,32,110,32,41,32,108,111,99,97,108,32,105,32,59,32,123,32,105,32,61,32,110,32,59,32,119,104,105,108,101,32,105,32,123,32,115,117,109,32,61,32,40,32,115,117,109,32,43,32,105,32,41,32,59,32,105,32,61,32,40,32,105,32,45,32,49,32,41,32,59,32,125,32,114,101,116,117,114,110,32,115,117,109,32,59,32,125,32,109,97,105,110,32,123,32,125,32,125]
def aeB:hI qL=0:=by decide +kernel
def S9:fJ ih=(qL,0):=by
 have h:J (hf qL)=ih:=by decide +kernel
 rw [<-h];exact PA aeB (by rw [h];decide +kernel)
def bQ:I Z×ab:=([1,0],0)
def KM:I<|Tx×cx:=[(qL.nm,(fk qL).1)]
def aeC:mN [gP,qL]=0:=by decide +kernel
def aeD:mS [gP,qL] bQ:=by refine bl ⟨aeC,[1,0],⟨?_,bA O⟩,O⟩;have a:k8 [gP,qL]<|[]++[1]:=.snoc .nil ⟨a',by decide +kernel,by decide +kernel⟩;have b:k8 [gP,qL]<|[1]++[0]:=.snoc a ⟨a',by decide +kernel,by decide +kernel⟩;exact b
def S_:i8 [rV,ih]=[gP,qL]:=by show [(fJ rV).1,(fJ ih).1]=_;rw [S9];rfl
def aeE:pn [rV,ih]=0:=Jh a' λs a=>by
 rcases eZ.1 a with e | a;·subst e;exact acd
 ·rw [fq] at a;subst a;rw [S9]
def aeF:(kj [] qL).2=0:=by decide +kernel
def aeG:(kj KM gP).2=0:=by decide +kernel
def aeH {m m':cM} (h:(kj [] m).2=0) (a:(kj [(m.nm,(fk m).1)] m').2=0):kG [m,m'] []=([(kj [] m).1,(kj [(m.nm,(fk m).1)] m').1],0):=by rw [PL,Jf h,Jf a];rfl
def aeI:∀r,pw [rV,ih] r->r=([(kj [] qL).1,(kj KM gP).1],0):=λr h=>by
 rcases h with ⟨b,_⟩ | ⟨_,q,a,rfl⟩;·exact absurd aeE b
 ·rw [S_] at a;have:=aef a aeD;subst this;rw [eU,ao (by simp [bQ]),S_];exact aeH aeF aeG
def aeJ (w:aL) : cr aB 109 #[] w λe a=>e = ax (st ih)/\Ext w a:=by refine enter func109 O 1 O O ?_;refine CE (Vs:=[]) (Ws.init aG)<|ai<|ar O<|ag<|ai<|ar O<|ag<|bq ?_;refine R1 O O λa b=>?_;exact ⟨O,b.fr⟩
def aeK (R:jg):Mch.jg:=⟨R.fin,R.out,R.data,R.bY⟩
def vp (q:I cD×ab) (bI:I ab) (t:ab):ab:=if q.2≠0 then q.2 else q9 q.1 bI t
def jT (q:I cD×ab) (bI:I ab) (t:ab):jg:=if q.2≠0 then Eh else rf q.1 bI t
def Ga:Mch.jg:=⟨0,[],[],0⟩
def bM (q:I cD×ab):I Mch.cS×ab×ab:=Mch.uW ((mF q).1.1.map toI) (mF q).1.2
def yo (q:I cD×ab) (bI:I ab) (t:ab):ab:=if (mF q).2≠0 then (mF q).2 else if (bM q).2.2≠0 then (bM q).2.2 else Mch.qD (bM q).1 (bM q).2.1 bI t 134217728
def c6 (q:I cD×ab) (bI:I ab) (t:ab):Mch.jg:=if (mF q).2≠0 then Ga else if (bM q).2.2≠0 then Ga else (Mch.bS (bM q).1 (bM q).2.1 bI t 134217728).1
def aeL (b o:Z) (u:cD) (h:Kk 8 7 bt b o u):Bf 8 bt b o u:=by obtain ⟨r,c,a⟩:=h;exact ⟨r,c,a.aI,a.parts.imp λb o x h=>MO (cV.refl _) (eC _) a' b o x h,a.main.imp λb o x h=>Ba (cV.refl _) (eC _) a' b o x h⟩
def aeM (h:pw cI F_):∀u ∈ F_.1,u.aI.length<=1048576:=λu a=>by have b:=S7 h u a;have c:=Nx u;have d:=yZ u.aI;omega
def KN (g i:View) (a:az a0) (c:Z) (l:I Tx) (j:View) (n:az a0) (o:Z) (bI:I ab) (t:ab) (w:aL) (B:Le g w) (C:Le i w) (D:Laid i) (E:Sl rdStr 1 g a c l) (F:Le j w) (G:Sl hn 1 j n o bI) : cr aB 37 #[aC a l.length c,aC n bI.length o,an am t] w λe f=>∃(r:SP×SP) (q:I cD×ab),e = ax (cN #[bU #[an am (jT q bI t).fin,aC r.1.1 (jT q bI t).out.length r.1.2,aC r.2.1 (jT q bI t).data.length r.2.2,an am (jT q bI t).bY],an am (vp q bI t)])/\Ext w f/\Sl hn 1 (nv w f) r.1.1 r.1.2 (jT q bI t).out/\Sl hn 1 (nv w f) r.2.1 r.2.2 (jT q bI t).data/\pw l q:=by
 refine enter func37 O 25 O O ?_;refine CE (Vs:=[g,i,j]) (Ws.init (by simp [B,C,F]))<|ai ?_;refine Al Y O l1 λM=>?_;refine ar O<|ag<|ai<|ad O ?_;refine Ld Y O bf O (λr:SP×I cD×ab=>cN #[aC r.1.1 r.2.1.length r.1.2,an am r.2.2]) (λk r=>Sl (Kk 8 7) 5 k r.1.1 r.1.2 r.2.1/\pw l r.2) (λw b=>S6 g i a c l w b.V b.V D E) ?_;intro H J N K;obtain ⟨u,q⟩:=J;obtain ⟨v,m⟩:=K;dsimp only at v m;refine ad O<|V0 (Yx O O)<|V0 (Yx O O)<|ar O<|ar O<|ag<|Cs<|ai<|ad O<|V0 (g2 O O) ?_;refine ag ?_;refine Cc O (λp=>?_)<|λp=>?_
 ·have x:q.2≠0:=by simpa using p
  refine ai<|V0 (Yb l1 sA O O)<|ad O<|aq 0 Y O O O l0 O O O<|ar O<|ag<|bq<|Er ?_;refine WE.gt (hG O (e1 0 O O j4 O)<|ja O) λf b=>?_;have d:jT q bI t=Eh:=aU x;have s:vp q bI t=q.2:=aU x;exact ⟨((ak,0),(ak,0)),q,by rw [d,s];rfl,b.fr,by rw [d];exact Sl.nil,by rw [d];exact Sl.nil,m⟩
 have y:¬(q.2≠0):=by simpa using p
 refine bO<|ai<|ad O<|ad O<|ad O ?_;refine Ld Y O bf O (λr:SP×SP=>cN #[bU #[an am (rf q.1 bI t).fin,aC r.1.1 (rf q.1 bI t).out.length r.1.2,aC r.2.1 (rf q.1 bI t).data.length r.2.2,an am (rf q.1 bI t).bY],an am (q9 q.1 bI t)]) (λk r=>Sl hn 1 k r.1.1 r.1.2 (rf q.1 bI t).out/\Sl hn 1 k r.2.1 r.2.2 (rf q.1 bI t).data) (λw b=>adw H 8 u.1 u.2 q.1 j n o bI t w b.V (v.imp aeL) (aeM m) b.V G) ?_;intro P L z A;refine V0 (Yx O O)<|V0 (Yx O O)<|aq 0 Y O O O l0 O O O<|ar O<|ag<|bq ?_;refine WE.gt (hG O (e1 0 O O j4 O)<|ja O) λf b=>?_;have d:jT q bI t=rf q.1 bI t:=ao y;have s:vp q bI t=q9 q.1 bI t:=ao y;exact ⟨L,q,by rw [d,s];rfl,b.fr,by rw [d];exact A.1.imp λ_ _ _ h=>ct.mono (e7 b aG z) h,by rw [d];exact A.2.imp λ_ _ _ h=>ct.mono (e7 b aG z) h,m⟩
def Ta (j k:View) (a:az a0) (c:Z) (l:I Tx) (m:View) (p:az a0) (s:Z) (bI:I ab) (t:ab) (w:aL) (G:Le j w) (H:Le k w) (J:Laid k) (K:Sl rdStr 1 j a c l) (L:Le m w) (M:Sl hn 1 m p s bI) : cr aB 38 #[aC a l.length c,aC p bI.length s,an am t] w λe f=>∃(r:SP×SP) (q:I cD×ab),e = ax (cN #[bU #[an am (c6 q bI t).fin,aC r.1.1 (c6 q bI t).out.length r.1.2,aC r.2.1 (c6 q bI t).data.length r.2.2,an am (c6 q bI t).bY],an am (yo q bI t)])/\Ext w f/\Sl hn 1 (nv w f) r.1.1 r.1.2 (c6 q bI t).out/\Sl hn 1 (nv w f) r.2.1 r.2.2 (c6 q bI t).data/\pw l q:=by
 refine enter func38 O 40 O O ?_;refine CE (Vs:=[j,k,m]) (Ws.init (by simp [G,H,L]))<|ai ?_;refine Al Y O l1 λaf=>?_;refine ar O<|ag<|ai<|ad O ?_;refine Ld Y O bf O (λr:SP×I cD×ab=>cN #[bU #[aC r.1.1 (mF r.2).1.1.length r.1.2,an am (mF r.2).1.2],an am (mF r.2).2]) (λg r=>Sl kf 3 g r.1.1 r.1.2 (mF r.2).1.1/\pw l r.2) (λw b=>aeA j k a c l w b.V b.V J K) ?_;intro N P ah Q;obtain ⟨x,q⟩:=P;obtain ⟨y,n⟩:=Q;dsimp only at y n;refine ad O<|V0 (Yx O O)<|V0 (Yx O O) ?_;refine Al Y O qE λaj=>?_;refine aq 0 Y O O O rr O O O<|ar O<|ag<|Cs<|ai<|ad O<|V0 (g2 O O)<|ag ?_;refine Cc O (λu=>?_)<|λu=>?_
 ·have z:(mF q).2≠0:=by simpa using u
  refine ai<|V0 (Yb l1 sA O O)<|ad O<|aq 1 Y O O O l0 O O O<|ar O<|ag<|bq<|Er ?_;refine WE.gt (hG O (e1 1 O O j4 O)<|ja O) λf b=>?_;have d:c6 q bI t=Ga:=aU z;have i:yo q bI t=(mF q).2:=aU z;exact ⟨((ak,0),(ak,0)),q,by rw [d,i];rfl,b.fr,by rw [d];exact Sl.nil,by rw [d];exact Sl.nil,n⟩
 have o:¬((mF q).2≠0):=by simpa using u
 refine bO<|ai<|V0 (dv 0 O O ow O) ?_;refine Ld Y O bf O (λr:SP=>cN #[bU #[aC r.1 (bM q).1.length r.2,an am (bM q).2.1],an am (bM q).2.2]) (λg r=>Sl Mch.pQ 3 g r.1 r.2 (bM q).1) (λw b=>by have A:=Mch.WP N x.1 x.2 ((mF q).1.1.map toI) (mF q).1.2 w b.V<|ac2 y;rw [fK] at A;exact A) ?_;intro R B al S;refine ad O<|V0 (Yx O O)<|V0 (Yx O O)<|aq 0 Y O O O rr O O O<|ar O<|ag<|Cs<|ai<|ad O<|V0 (g2 O O) ?_;refine ag ?_;refine Cc O (λv=>?_)<|λv=>?_
 ·have C:(bM q).2.2≠0:=by simpa using v
  refine ai<|V0 (Yb l1 sA O O)<|ad O<|aq 1 Y O O O l0 O O O<|ar O<|ag<|bq<|Er ?_;refine WE.gt (hG O (e1 1 O O j4 O)<|ja O) λf b=>?_;have d:c6 q bI t=Ga:=(ao o).trans<|aU C;have i:yo q bI t=(bM q).2.2:=(ao o).trans<|aU C;exact ⟨((ak,0),(ak,0)),q,by rw [d,i];rfl,b.fr,by rw [d];exact Sl.nil,by rw [d];exact Sl.nil,n⟩
 have D:¬((bM q).2.2≠0):=by simpa using v
 refine bO<|ai<|V0 (dv 0 O O ow O)<|ad O<|ad O ?_;refine Ld Y O bf O (λr:SP×SP=>cN #[bU #[an am (Mch.bS (bM q).1 (bM q).2.1 bI t 134217728).1.fin,aC r.1.1 (Mch.bS (bM q).1 (bM q).2.1 bI t 134217728).1.out.length r.1.2,aC r.2.1 (Mch.bS (bM q).1 (bM q).2.1 bI t 134217728).1.data.length r.2.2,an am (Mch.bS (bM q).1 (bM q).2.1 bI t 134217728).1.bY],an am (Mch.bS (bM q).1 (bM q).2.1 bI t 134217728).2,an am (Mch.qD (bM q).1 (bM q).2.1 bI t 134217728)]) (λg r=>Sl hn 1 g r.1.1 r.1.2 (Mch.bS (bM q).1 (bM q).2.1 bI t 134217728).1.out/\Sl hn 1 g r.2.1 r.2.2 (Mch.bS (bM q).1 (bM q).2.1 bI t 134217728).1.data) (λw b=>(Mch.afg R B.1 B.2 (bM q).1 (bM q).2.1 m p s bI t 134217728 w b.V S b.V<|ac3 M).mono λe f ⟨r,T,U,W,X⟩=>⟨r,T,U,SB W,SB X⟩) ?_;intro ap ae E F;refine ad O<|V0 (Yx O O)<|V0 (Yx O O)<|V0 (Yx O O) ?_;refine Al Y O l1 λav=>?_;refine aq 0 Y O O O l0 O O O<|ar O<|ar O<|ag<|ai<|V0 (dv 0 O O j4 O)<|ad O<|aq 2 Y O O O l0 O O O<|ar O ?_;refine ag<|bq ?_;refine WE.gt (hG O (e1 2 O O j4 O)<|ja O) λf b=>?_;have d:c6 q bI t=(Mch.bS (bM q).1 (bM q).2.1 bI t 134217728).1:=(ao o).trans<|ao D;have i:yo q bI t=Mch.qD (bM q).1 (bM q).2.1 bI t 134217728:=(ao o).trans<|ao D;exact ⟨ae,q,by rw [d,i];rfl,b.fr,by rw [d];exact F.1.imp λ_ _ _ h=>ct.mono (e7 b aG E) h,by rw [d];exact F.2.imp λ_ _ _ h=>ct.mono (e7 b aG E) h,n⟩
end Go.Proofs.YtgeahfjicmlocaaGreatDoor
end
section
namespace Go.Proofs.YtgeahfjicmlocaaGreatDoor.Mch
open Go.Bw Go.Proofs.Tryz
structure agp (N:ab->Prop) (m:Pm):Prop where
 at_:N m.at_
 fr:∀f ∈ m.dk,N f.2
def Pm.ss (m:Pm) (s:ab):Pm:={ m with steps:=s }
def Rz.ss {α:Type} (r:Rz α) (s:ab):Rz α:=match r with| .ok a m=>.ok a<|m.ss s| .ov e m=>.ov e<|m.ss s
structure Pat (mk:I aQ) (cur:I cS) (k n:Z) (x:cS):Prop where
 len:k+n<=cur.length
 two:n=2\/n=3
 un:∀j,k<j->j<k+n->mk[j]? = aa au
 is:(n=3/\(eG cur<|k+1).op=1/\(eG cur<|k+2).op=10/\(kB (eG cur<|k+2).a (eG cur k).a (eG cur<|k+1).a).2=ac/\x=⟨1,(kB (eG cur<|k+2).a (eG cur k).a (eG cur<|k+1).a).1,0⟩)\/
   (n=2/\(eG cur<|k+1).op=12/\(eG cur k).a=0/\x=⟨11,(eG cur<|k+1).a,0⟩)\/
   (n=2/\(eG cur<|k+1).op=9/\x=⟨1,nh<|(eG cur k).a==0,0⟩)\/
   (n=2/\(eG cur<|k+1).op=22/\x=⟨1,nh<|(eG cur k).a != 0,0⟩)\/
   (n=2/\(eG cur<|k+1).op=12/\(eG cur k).a≠0/\x=⟨21,0,0⟩)\/
   (n=2/\(eG cur<|k+1).op=17/\x=⟨21,0,0⟩)
structure QI (mk:I aQ) (code q:I cS):Prop where
 len:q.length=code.length
 go:∀(j:Z) (y:cS),q[j]? = aa y->goes y.op=ac->0<=y.a->y.a<q.length->mk[y.a.toNat]? = aa ac
 jmp:∀j:Z,j<code.length->(eG code j).op=11->q[j]? = code[j]?
 rt:∀(j:Z) (y:cS),q[j]? = aa y->Ey y=au
end Go.Proofs.YtgeahfjicmlocaaGreatDoor.Mch
end
section
namespace Go.Proofs.YtgeahfjicmlocaaGreatDoor
open Go.Bw Go.Proofs.Tryz
def Tb (R:jg):ab×I ab×I ab×ab:=(R.fin,R.out,R.data,R.bY)
variable {aP cp:ab} {fo vX:I ab}
def aeN {R:jg}    (h:Tb R=(aP,fo,vX,cp)):R=⟨aP,fo,vX,cp⟩:=by obtain ⟨_,_,_,_⟩:=R;simp only [Tb,dY] at h;obtain ⟨rfl,rfl,rfl,rfl⟩:=h;rfl
def Tc (w:aL):Le v0 w:=λb o h=>by simp [v0] at h
def wO:I cD×ab:=([(kj [] qL).1,(kj KM gP).1],0)
def aeO:vp wO [1] 9=0:=by decide +kernel
def aeP:jT wO [1] 9=⟨0,[6,7],[6,0,6,0,0],6⟩:=aeN (by decide +kernel)
def aeQ:yo wO [1] 9=0:=by decide +kernel
def aeR:(c6 wO [1] 9).fin=0:=by decide +kernel
def aeS:(c6 wO [1] 9).out=[6,7]:=by decide +kernel
def aeT:(c6 wO [1] 9).data=[6,0,6,0,0]:=by decide +kernel
def aeU:(c6 wO [1] 9).bY=6:=by decide +kernel
def aeV {x:Mch.jg}    (a:x.fin=aP) (b:x.out=fo) (c:x.data=vX) (d:x.bY=cp):x=⟨aP,fo,vX,cp⟩:=by obtain ⟨_,_,_,_⟩:=x;subst a b c d;rfl
def aeW:∀r,pw [] r->yo r [] 9=2:=λr h=>by
 have a:r=([],2):=by
  rcases h with ⟨_,rfl⟩ | ⟨b,_⟩;·rfl
  ·exact absurd b a'
 subst a;rfl
def aeX:∃Q:I cD×ab,(∀r,pw [rV,ih] r->r=Q)/\vp Q [1] 9=0/\jT Q [1] 9=⟨0,[6,7],[6,0,6,0,0],6⟩/\yo Q [1] 9=0/\c6 Q [1] 9=⟨0,[6,7],[6,0,6,0,0],6⟩:= ⟨wO,aeI,aeO,aeP,aeQ,aeV aeR aeS aeT aeU⟩
def KO (i:View) (w:aL) (F:Le i w) (t:Laid i) : cr aB 43 #[] w λe m=>e = ax (bV ac)/\Ext w m:=by
 refine enter func43 O 49 O O ?_;refine CE (Vs:=[i]) (Ws.init (by simp [F]))<|ai<|ar O<|ag<|Cs ?_;obtain ⟨Q,v,G,s,H,y⟩:=aeX;have s:jT Q [1] 9=⟨0,[6,7],[6,0,6,0,0],6⟩:=s;refine Cr<|Lp Y O bf O (λw a=>ace w)<|Lp Y O bf O (λw a=>aeJ w) ?_;refine Lb Y O dI O O O O λz=>?_;refine dK 0 (aM ((([rV,ih]:I Tx)).flatMap fV).toArray 9 (0,0)) O O<|LW (λ_ h=>h.qZ (f:=fV) (xs:=([rV,ih]:I Tx)) (c:=2) 0 O pG O a') ?_;refine WL.cK (rd:=rdStr) 0 O pG fp λA B=>?_;refine ar O<|ag<|ai<|ad O ?_;refine Lb Y O fY O O O O λJ=>?_;refine dK 0 (aM ((([1]:I ab)).flatMap hY).toArray 3 (0,0)) O O<|LW (λ_ h=>h.qZ (f:=hY) (xs:=([1]:I ab)) (c:=1) 0 O kS O a') ?_;refine WL.cK (rd:=hn) 0 O kS fp λK L=>?_;refine Ld Y O bf O (λr:SP×SP=>cN #[bU #[an am (⟨0,[6,7],[6,0,6,0,0],6⟩:Mch.jg).fin,aC r.1.1 (⟨0,[6,7],[6,0,6,0,0],6⟩:Mch.jg).out.length r.1.2,aC r.2.1 (⟨0,[6,7],[6,0,6,0,0],6⟩:Mch.jg).data.length r.2.2,an am (⟨0,[6,7],[6,0,6,0,0],6⟩:Mch.jg).bY],an am 0]) (λj r=>Sl hn 1 j r.1.1 r.1.2 (⟨0,[6,7],[6,0,6,0,0],6⟩:Mch.jg).out/\Sl hn 1 j r.2.1 r.2.2 (⟨0,[6,7],[6,0,6,0,0],6⟩:Mch.jg).data) (λw a=>(KN A i (aa ⟨z,0,ak⟩) 2 [rV,ih] K (aa ⟨J,0,ak⟩) 1 [1] 9 w a.V a.V t B a.V L).mono λe m ⟨r,q,d,n,k,l,p⟩=>by have u:=v q p;subst u;rw [s,G] at d;rw [s] at k l;exact ⟨r,d,n,k,l⟩) ?_;intro C D ao E;refine ad O<|V0 (Yx O O)<|V0 (Yx O O) ?_;refine Al Y O l1 λap=>?_;refine aq 0 Y O O O l0 O O O<|ar O<|ag<|ai<|ad O ?_;refine Lb Y O fY O O O O λM=>?_;refine dK 0 (aM ((([1]:I ab)).flatMap hY).toArray 3 (0,0)) O O<|LW (λ_ h=>h.qZ (f:=hY) (xs:=([1]:I ab)) (c:=1) 0 O kS O a') ?_;refine WL.cK (rd:=hn) 0 O kS fp λN P=>?_;refine Ld Y O bf O (λr:SP×SP=>cN #[bU #[an am (⟨0,[6,7],[6,0,6,0,0],6⟩:Mch.jg).fin,aC r.1.1 (⟨0,[6,7],[6,0,6,0,0],6⟩:Mch.jg).out.length r.1.2,aC r.2.1 (⟨0,[6,7],[6,0,6,0,0],6⟩:Mch.jg).data.length r.2.2,an am (⟨0,[6,7],[6,0,6,0,0],6⟩:Mch.jg).bY],an am 0]) (λj r=>Sl hn 1 j r.1.1 r.1.2 (⟨0,[6,7],[6,0,6,0,0],6⟩:Mch.jg).out/\Sl hn 1 j r.2.1 r.2.2 (⟨0,[6,7],[6,0,6,0,0],6⟩:Mch.jg).data) (λw a=>(Ta A i (aa ⟨z,0,ak⟩) 2 [rV,ih] N (aa ⟨M,0,ak⟩) 1 [1] 9 w a.V a.V t B a.V P).mono λe m ⟨r,q,d,n,k,l,p⟩=>by have u:=v q p;subst u;rw [y,H] at d;rw [y] at k l;exact ⟨r,d,n,k,l⟩) ?_;intro R S av T;refine ad O<|V0 (Yx O O)<|V0 (Yx O O) ?_;refine Al Y O l1 λaw=>?_;refine aq 0 Y O O O l0 O O O<|ar O<|ag<|ai ?_;refine Ld Y O bf O (λr:(SP×SP)×(I cD×ab)=>cN #[bU #[an am (c6 r.2 [] 9).fin,aC r.1.1.1 (c6 r.2 [] 9).out.length r.1.1.2,aC r.1.2.1 (c6 r.2 [] 9).data.length r.1.2.2,an am (c6 r.2 [] 9).bY],an am 2]) (λj r=>True) (λw a=>(Ta v0 i ak 0 [] v0 ak 0 [] 9 w (Tc w) a.V t Sl.nil (Tc w) Sl.nil).mono λe m ⟨r,q,d,n,k,l,p⟩=>by rw [aeW q p] at d;exact ⟨(r,q),d,n,trivial⟩) ?_;intro aA aD aE aF;refine ad O<|V0 (Yx O O)<|V0 (Yx O O) ?_;refine Al Y O l1 λaG=>?_;refine aq 0 Y O O O l0 O O O<|ar O<|ag<|ai<|ad O<|V0 (y3 O O O)<|ad O ?_;apply La 2 (x:=ac) O O O O Y O O O O O;·intro aH;refine Vg (Ym O)<|Vg (y3 O O O) ?_;exact Gt 2 O O O
 refine ad O ?_;apply La 2 (x:=ac) O O O O Y O O O O O;·intro aI;refine Vg (Ym O)<|Vg (y3 O O O) ?_;exact Gt 2 O O O
 refine ad O ?_;apply La 5 (x:=ac) O O O O Y O O O O O;·intro aJ;refine Vg (dv 2 O O j4 O) ?_;refine Lb (.g O O O) O fY O O O O λU=>?_;refine dK 0 (aM ((([6,7]:I ab)).flatMap hY).toArray 3 (0,0)) O O<|LW (λ_ h=>h.qZ (f:=hY) (xs:=([6,7]:I ab)) (c:=2) 0 O kS O a') ?_;refine WL.cK (rd:=hn) 0 O kS fp λaK W=>?_;refine Lb (.g O O O) O fY O O O O λX=>?_;refine dK 0 (aM ((([6,0,6,0,0]:I ab)).flatMap hY).toArray 3 (0,0)) O O<|LW (λ_ h=>h.qZ (f:=hY) (xs:=([6,0,6,0,0]:I ab)) (c:=5) 0 O kS O a') ?_;refine WL.cK (rd:=hn) 0 O kS fp λaP ae=>?_;refine WL.jJ λaf ah aj aR=>?_;refine Vg (Yb l1 sA O O)<|Lp (.g O O O) O bf O (λw a=>Kv C af (⟨0,[6,7],[6,0,6,0,0],6⟩:Mch.jg) D ((aa ⟨U,0,ak⟩,2),(aa ⟨X,0,ak⟩,5)) w a.V a.V E ⟨W.imp λb o x h=>ct.mono aj h,ae.imp λb o x h=>ct.mono ah h⟩) ?_;refine WL.wk ?_<|Gt 5 O O O;exact λ_ h=>Ws.dr h<|λ_ al=>cG [_] al
 refine ad O ?_;apply La 3 (x:=ac) O O O O Y O O O O O;·intro aS;refine Vg (dv 1 O O j4 O)<|Vg (dv 2 O O j4 O)<|Lp (.g O O O) O bf O (λw a=>Kv R C (⟨0,[6,7],[6,0,6,0,0],6⟩:Mch.jg) S D w a.V a.V T E) ?_;exact Gt 3 O O O
 refine ar O<|ag<|bq ?_;refine R1 O O λm a=>?_;exact ⟨O,a.fr⟩
def KP (n k:Z):Z:=if k<n then n-1-k else k
def Gb {n k:Z} (h:k<n):KP n k=n-1-k:=aU h
def aeY (l:I cM):Ren l l.reverse<|KP l.length:=by
 refine ⟨aG,λk=>?_,λk a=>?_,λk a=>?_⟩
 ·by_cases h:k<l.length;·rw [Gb h,Gb aj];omega
  ·have e:KP l.length k=k:=ao h;rw [e,e]
 ·rw [Gb a];omega
 ·rw [Gb a,I.getElem?_reverse aj];congr 1;omega
def kX (s:Tx):Tx:=J<|hf (fJ s).1
variable {bw:Tx}
def aeZ (h:(fJ bw).2=0):wh (fJ bw).1=(kX bw,0):=by rw [wh,aU (PB h).2.1];rfl
def Td (h:(fJ bw).2=0) (a:(kX bw).length<=4096):fJ (kX bw)=((fJ bw).1,0):=PA (PB h).2.1 a
variable {cI:I Tx}
def ae0 {r b:I cD×ab} (h:pw cI r) (m:pw (cI.map kX).reverse b) (n:r.2=0) (c:∀s ∈ cI,(kX s).length<=4096):b=r:=by
 obtain ⟨e,d,a,o,f,p,rfl⟩:=KJ h n;have g:=(zV e).2;have i:i8 (cI.map kX).reverse=(i8 cI).reverse:=by unfold i8;rw [I.map_reverse,CV];congr 1;exact Av λs a=>by show (fJ<|kX s).1=_;rw [Td (g s a)<|c s a]
 have q:pn (cI.map kX).reverse=0:=by refine Jh (by simpa using (zV e).1) λs a=>?_;rw [I.mem_reverse,py] at a;obtain ⟨x,j,rfl⟩:=a;rw [Td (g x j)<|c x j]
 have k:=aeY<|i8 cI;rcases m with ⟨t,_⟩ | ⟨_,u,l,rfl⟩;·exact absurd q t
 ·rw [i] at l;have:=ael l k o f p;subst this;rw [eU,ao aG,i,PO k d (tt f).1]
variable {ae:Z}
def ae1 (h:cI[ae]? = aa bw):((cI.drop<|ae+1).map kX).reverse++[kX bw]=((cI.drop ae).map kX).reverse:=by obtain ⟨hi,e⟩:=c_.1 h;rw [nZ hi,e];simp
def ae2 {p:Tx->Prop}    (h:cI[ae]? = aa bw) (b:p bw) (c:∀s ∈ cI.drop (ae+1),p s):∀s ∈ cI.drop ae,p s:=by
 obtain ⟨hi,e⟩:=c_.1 h;rw [nZ hi,e];intro s a;rcases eZ.1 a with rfl | a;·exact b
 ·exact c s a
def ae3 (d H:View) (a:az a0) (c:Z) (l:I Tx) (j:View) (v:az a0) (y:Z) (bI:I ab) (t:ab) (w:aL) (ap:Le d w) (i:Laid d) (av:Le H w) (m:Sl rdStr 1 H a c l) (aw:Le j w) (R:Sl hn 1 j v y bI) : cr aB 8 #[aC a l.length c,aC v bI.length y,an am t] w λe n=>e = ax (bV ac)/\Ext w n:=by
 have bb:=m.cap;have bc:=m.max;refine enter func8 O 78 O O ?_;refine CE (Vs:=[d,H,j]) (Ws.init (by simp [ap,av,aw]))<|ai<|ar O<|ag<|ai<|ad O<|ad O<|ad O ?_;refine Ld Y O bf O (λr:(SP×SP)×(I cD×ab)=>cN #[bU #[an am (jT r.2 bI t).fin,aC r.1.1.1 (jT r.2 bI t).out.length r.1.1.2,aC r.1.2.1 (jT r.2 bI t).data.length r.1.2.2,an am (jT r.2 bI t).bY],an am (vp r.2 bI t)]) (λo r=>Sl hn 1 o r.1.1.1 r.1.1.2 (jT r.2 bI t).out/\Sl hn 1 o r.1.2.1 r.1.2.2 (jT r.2 bI t).data/\pw l r.2) (λw b=>(KN H d a c l j v y bI t w b.V b.V i m b.V R).mono λe n ⟨r,q,C,D,E,F,G⟩=>⟨(r,q),C,D,E,F,G⟩) ?_;intro S aA bd J;obtain ⟨p,q⟩:=aA;have z:=J.2.2;dsimp only at z;refine ad O<|V0 (Yx O O)<|V0 (Yx O O) ?_;refine Al Y O l1 λaD=>?_;refine aq 0 Y O O O l0 O O O<|ar O<|ag<|Cs<|ai<|ad O<|V0 (g2 O O)<|ag ?_;refine Cc O (λT=>?_)<|λT=>?_;·refine ai<|Lp Y O bf O (λw b=>KO d w b.V i)<|ar O<|ag<|bq<|Er ?_;refine R1 O O λn b=>?_;exact ⟨O,b.fr⟩
 have K:vp q bI t=0:=by simpa using T
 have L:q.2=0:=by
  by_cases k:q.2=0;·exact k
  ·rw [vp,aU k] at K;exact absurd K k
 have aE:=(zV (KJ z L).1).2;have be:=(zV (KJ z L).1).1;refine bO<|ai<|ar O<|LW (λ_ h=>h.bJ 9 1)<|ag<|Cs<|ai<|ad O<|V0 (Yn e4 O)<|V0 (yF O O aj)<|ar O ?_;refine ag<|Cb ?_;refine dZ (ι:=ab×I Tx×SP) (λg=>[(10,an am g.1),(9,aC g.2.2.1 g.2.1.length g.2.2.2)]) [(0,_),(1,_),(2,_),(7,_)] (λg=>Ws w [] [cO 9 1 fV g.2.2.1 g.2.2.2 g.2.1,aJ aD<|aM #[an am (jT q bI t).fin,aC p.1.1 (jT q bI t).out.length p.1.2,aC p.2.1 (jT q bI t).data.length p.2.2,an am (jT q bI t).bY] 64 (0,0)] [S,d,H,j]) (λg=>g.2.1=((l.drop (g.1+1).toNat).map kX).reverse/\-1<=g.1/\g.1<(l.length:ab)/\∀s ∈ l.drop (g.1+1).toNat,(kX s).length<=4096) (λg=>(g.1+1).toNat) ((l.length:ab)-1,[],(ak,0)) ⟨aG,by show -1<=_-1;omega,by show _-1<_;omega,aG⟩ aR ?_;intro g ⟨M,aF,aH,A⟩;refine Cs<|ai<|ad O<|V0 (hE O O)<|ag ?_;refine Cc O (λN=>?_)<|λN=>?_
 ·have u:0<=g.1:=by simpa using N
  have aI:(g.1).toNat<l.length:=aj;obtain ⟨x,B⟩:=dO aI;obtain ⟨aK,aP,aS,P⟩:=m.b7 _ x B;have P:ct H aK (aP+(g.1).toNat*1)<|fV x:=P;have U:=aE x<|dJ B;have W:(g.1+1).toNat=(g.1).toNat+1:=aj;have X:(g.1-1+1).toNat=(g.1).toNat:=aj;have aW:((l.drop (g.1+1).toNat).map kX).reverse++[kX x]=((l.drop ((g.1-1)+1).toNat).map kX).reverse:=by rw [W,X];exact ae1 B
  have bh:g.2.1.length<=4:=by rw [M];simp;omega
  refine bO<|Cs<|Cb<|ai<|ad O<|ad O<|V0 (uq e4 O O aS u aj)<|V0 (dQ 2 ah O O<|P 0 _ O) ?_;refine Ld Y O bf O (λr:mf=>cN #[bU (hk ((fJ x).1) r).toArray,an am ((fJ x).2)]) (λH r=>mg 7 6 H r<|(fJ x).1) (λw b=>by have:=Rw d x w b.V i;exact this) ?_;intro aX aY bi aZ;refine ad O<|V0 (Yx O O)<|V0 (Yx O O) ?_;refine Al Y O sY λbj=>?_;refine aq 0 Y O O O sZ O O O<|ar O<|ag<|ai<|V0 (dv 0 O O cA O) ?_;refine Lp Y O bf O (λw b=>by have ae:=Z2 d aX 7 6 aY (fJ x).1 w b.V i b.V aZ (by have:=Ke x;omega);rw [aeZ U] at ae;exact ae) ?_;refine ad O<|V0 (Yx O O)<|V0 (Yx O O)<|ar O<|ar O<|ag<|Cs<|ai<|ad O<|V0 (th O O U) ?_;refine ad O ?_;apply Lo 2 (x:=au) O O O O Y O O O O O;·intro u;refine Vg (Ym O)<|Vg (th O O O) ?_;exact Gt 2 O O O
  refine ag ?_;refine WC.r6 O ?_;refine bO<|Cs<|ai<|ad O<|V0 (yH ah O)<|V0 (ek O O)<|ag ?_;refine Cc O (λaf=>?_)<|λaf=>?_;·refine ai<|Lp Y O bf O (λw b=>KO d w b.V i)<|ar O<|ag<|bq<|Er<|cZ<|Er<|Er<|cZ<|Er ?_;refine R1 O O λn b=>?_;exact ⟨O,b.fr⟩
  have a1:(kX x).length<=4096:=by simp at af;omega
  refine bO<|Cr<|ad O<|ad O ?_;refine Lb Y O dI O O O O λbk=>?_;refine LA (f:=fV) (kX x) 2 0 Y O dI O O O O O O aj aj λa2 a3=>?_;refine ar O<|Ln<|Eb<|Et<|Cr<|ad O<|V0 (yF O O aj)<|ar O<|Ln ?_;exact cU ((g.1-1,g.2.1++[kX x],(a2,a3)):ab×I Tx×SP) (by show (g.1-1+1).toNat<_;omega) ⟨by show g.2.1++[kX x]=_;rw [M];exact aW,by show -1<=g.1-1;omega,by show g.1-1<_;omega,by show ∀s ∈ l.drop (g.1-1+1).toNat,_;rw [X];rw [W] at A;exact ae2 B a1 A⟩<|λ_ h=>Ws.dr (Wd 2 h)<|λ_ m=>cG [_] m
 have u:g.1 = -1:=by simp at N;omega
 have a4:g.2.1=(l.map kX).reverse:=by rw [M,u];rfl
 rw [a4];have a5:∀s ∈ l,(kX s).length<=4096:=by rw [u] at A;exact A
 refine Ce<|Ex<|Ex<|dy<|Et<|Cs ?_;refine WC.cK (rd:=rdStr) 0 O pG fp λa6 a8=>?_;refine Cr<|ad O<|ad O<|ad O ?_;refine Ld Y O bf O (λr:(SP×SP)×(I cD×ab)=>cN #[bU #[an am (jT r.2 bI t).fin,aC r.1.1.1 (jT r.2 bI t).out.length r.1.1.2,aC r.1.2.1 (jT r.2 bI t).data.length r.1.2.2,an am (jT r.2 bI t).bY],an am (vp r.2 bI t)]) (λo r=>Sl hn 1 o r.1.1.1 r.1.1.2 (jT r.2 bI t).out/\Sl hn 1 o r.1.2.1 r.1.2.2 (jT r.2 bI t).data/\pw (l.map kX).reverse r.2) (λw b=>(KN a6 d g.2.2.1 g.2.2.2 (l.map kX).reverse j v y bI t w b.V b.V i a8 b.V R).mono λe n ⟨r,q,C,D,E,F,G⟩=>⟨(r,q),C,D,E,F,G⟩) ?_;intro a9 a' bm Q;obtain ⟨a_,al⟩:=a';have ao:=Q.2.2;dsimp only at ao;have ba:al=q:=ae0 z ao L a5;subst ba;refine ad O<|V0 (Yx O O)<|V0 (Yx O O) ?_;refine Al Y O l1 λbn=>?_;refine aq 0 Y O O O l0 O O O<|ar O<|ag<|ai<|Lp Y O bf O (λw b=>KO d w b.V i)<|ad O ?_;apply La 2 (x:=ac) O O O O Y O O O O O;·intro aF;refine Vg (Ym O)<|Vg (y3 O O K) ?_;exact Gt 2 O O O
 refine ad O ?_;apply La 3 (x:=ac) O O O O Y O O O O O;·intro aH;refine Vg (dv 0 O O j4 O)<|Vg (dv 1 O O j4 O)<|Lp (.g O O O) O bf O (λw b=>Kv a9 S (aeK<|jT al bI t) a_ p w b.V b.V ⟨Q.1,Q.2.1⟩ ⟨J.1,J.2.1⟩) ?_;exact Gt 3 O O O
 refine ar O<|ag<|bq ?_;refine R1 O O λn b=>?_;exact ⟨O,b.fr⟩
end Go.Proofs.YtgeahfjicmlocaaGreatDoor
end
