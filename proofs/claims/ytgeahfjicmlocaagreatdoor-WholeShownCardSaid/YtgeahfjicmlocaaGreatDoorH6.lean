/- WholeShown: how a module is written changes nothing: shown anew, in another order, a program means the same. -/
import Derived.Test.YtgeahfjicmlocaaGreatDoorH5
set_option linter.unusedVariables false
set_option linter.unusedSimpArgs false
set_option linter.defProp false
open _root_ renaming List->I,Nat->Z,Int->ab,Option->az,Bool->aQ,UInt8->a7,Array->bE,Unit->dT,String->bg
open Option renaming some->aa,none->ak
open Bool renaming true->ac,false->au
open Go.Value renaming int->an,slice->aC,agg->bU,bool->bV,pointer->b0,tuple->cN
open Go.IntKind renaming i64->am
open Go.Proofs.Tryz renaming prog->aB
open Go renaming World->aL,Value->aT,Addr->a0,TypeId->b_,Calls->cr,Oper->ay,Act->aN,Exit->aO,Operand->dF,Deferred->e',Edge->fw
open Go.Obj renaming cells->aM
open Or renaming inr->bl,inl->bA
open Go.Ending renaming returned->ax
open List renaming flatMap->c5,replicate->gI
open Nat renaming blt->eB,strongRecOn->m1
section
namespace Go.Proofs.YtgeahfjicmlocaaGreatDoor
open Go.Bw Go.Proofs.Tryz
def RZ (f:I a7×I aW) (r:SP):I aT:=[st f.1,aC r.1 f.2.length r.2]
def FD (H:View) (b o:Z) (f:I a7×I aW):Prop:=∃r:SP,ct H b o (RZ f r)/\Sl dL 4 H r.1 r.2 f.2
abbrev XM:=I aW×Z
def XM.cells (e:XM):I aT:=[.map<|aa e.2]
def XM.dA (e:XM):(XM.cells e).length=1:=rfl
def abX (H:View) (b o:Z) (e:XM):Prop:=ct H b o<|XM.cells e
def Aa (J:View) (e:XM):Prop:=J e.2=aa (dH st (cf e.1 0) e.1.length)
variable {bt bX:View}
def Aa.mv {e:XM} (hv:cV bt bX) (h:Aa bt e):Aa bX e:=hv _ _ h
def mo (u:I a7) (f:I a7×I aW):aQ:=(ee f.1 f.2==0)&&(f.1==u)
def J':∀{us:I<|I a7} {fs:I<|I a7×I aW},g0 us fs=ac↔∀(k:Z) u f,us[k]? = aa u->fs[k]? = aa f->mo u f=ac
 | [],fs=>by simp [g0]| u::us,[]=>by simp [g0]
 | u::us,f::fs=>by
  have e:=J' (us:=us) (fs:=fs);simp only [g0,eW];constructor;·rintro ⟨g,i⟩ k c d a b;cases k with| zero=>simp at a b;subst a;subst b;simp only [mo,eW];exact g| succ k=>exact e.1 i k c d (by simpa using a) (by simpa using b)
  ·intro h;refine ⟨by have:=h 0 u f O O;simp only [mo,eW] at this;exact this,e.2 λk c d a b=>h (k+1) c d (by simpa using a) (by simpa using b)⟩
variable {be:I a7} {jc:I aW}
def abY (h:ee be jc=0):(jc.map (·.name)).Nodup/\jc.length<=16:=by
 unfold ee at h;split at h;·cases h
 ·split at h;·rename_i b a;simp only [eW,C',lN] at a;exact ⟨ku.2 a.2.1,aj⟩
  ·cases h
variable {a8:cM} {mZ:I<|I a7×I aW}
def abZ (h:¬(fk a8).2=0):jq a8 mZ=(lw,(fk a8).2):=by rw [jq,aU h]
def ab0 (h:(fk a8).2=0) (a:¬mZ.length=a8.aI.length):jq a8 mZ=(lw,8):=by rw [jq,ao (by simp [h]),aU a]
def ab1 (h:(fk a8).2=0) (a:mZ.length=a8.aI.length) (b:g0 a8.aI mZ=au):jq a8 mZ=(lw,1):=by rw [jq,ao (by simp [h]),ao (by simp [a]),aU b]
def J_ (h:(fk a8).2=0) (a:mZ.length=a8.aI.length) (b:g0 a8.aI mZ=ac) (c:oj a8 mZ≠0):jq a8 mZ=(lw,oj a8 mZ):=by rw [jq,ao (by simp [h]),ao (by simp [a]),ao (by simp [b]),aU c]
def ab2 (h:(fk a8).2=0) (a:mZ.length=a8.aI.length) (b:g0 a8.aI mZ=ac) (c:oj a8 mZ=0):jq a8 mZ=(ff a8 mZ,0):=by rw [jq,ao (by simp [h]),ao (by simp [a]),ao (by simp [b]),ao (by simp [c])]
def ab3 (h:(fk a8).2=0):hI a8=0/\gV ((gW a8).map (·.name))=au/\gV a8.aI=au:=by
 by_cases a:hI a8=0
 ·by_cases b:(gV ((gW a8).map (·.name))||gV a8.aI)=ac;·rw [RH a b] at h;cases h
  ·rw [AE,lN] at b;exact ⟨a,b⟩
 ·rw [RG a] at h;exact absurd h a
variable {db:I<|I a7} {ae:Z}
def R0 (a:db[ae]? = aa be) (c:be ∉ db.take ae):dH st (bB be (an am ((ae+1:Z):ab)) (i3 (db.take ae) 0) ae) (jG be (i3 (db.take ae) 0) ae)=dH st (i3 (db.take<|ae+1) 0) (ae+1):=by
 have d:=(c_.1 a).1;have b:(db.take ae).length=ae:=by simp;omega
 have h:=MZ c;rw [b] at h;rw [h.1,h.2,jl a];simp [b]
def ab4 (h:db.Nodup)   (b:db[ae]? = aa be):be ∉ db.take ae:=by
 intro c;obtain ⟨j,a⟩:=ls c;have d:j<ae:=by have:=(c_.1 a).1;simp at this;omega
 rw [b8,aU d] at a;have e:=(c_.1 a).1;have:=(s9 e h).1<|a.trans b.symm;omega
def ab5 (h:(oJ be db==0)=ac):be ∉ db:=by
 have:¬0<oJ be db:=by simp at h;omega
 exact tq.1<|J2 this
def ab6 (b:db[ae]? = aa be) (h:(oJ be (db.take ae)==0)=au):gV db=ac:=by
 have a:¬oJ be (db.take ae)=0:=by simpa using h
 have e:0<oJ be (db.take ae):=by unfold oJ at a ⊢;cases hi:idxOf be (db.take ae) 0 with| none=>rw [hi] at a;exact absurd rfl a| some j=>simp only;omega
 obtain ⟨j,f,_,g⟩:=J1 e;have c:=(sd f).2;have d:j<ae:=by simp at g;omega
 rw [p_,b8,aU d] at c;exact Hn.2 ⟨ae,j,(c_.1 b).1,d,by rw [b,c]⟩
def ab7 (d:db[ae]? = aa be) (f:be ∉ db.take ae) (h:(db.take ae).Nodup):(db.take<|ae+1).Nodup:=by rw [jl d,lJ];exact ⟨h,aG,λa g b c=>by rw [fq] at c;subst c;intro e;subst e;exact f g⟩
variable {iw:bz}
def Rq (h:gV (iw.params++iw.a6)=ac):q5 a8 mZ iw=6:=by rw [q5,aU h];rfl
def Ka (h:gV (iw.params++iw.a6)=au):q5 a8 mZ iw=gX (c9 a8 mZ<|iw.params++iw.a6) iw.body:=by rw [q5,ao (by simp [h])];rfl
structure GP where
 i:Z
 es:I XP
 a:az a0
 c:Z
 J:View
 lb:aT
def Ab (m:cM) (c:SP) (n:Z) (p:SP):I aT:=[st m.nm,aC c.1 m.aI.length c.2,an am<|od m,aC p.1 n p.2,aC ak 0 0]
def l9:iC aB 37=aa 5:=ah
def Kb:g1 aB 28=aa 2:=ah
def ab8:hy aB 127=aa [(0,1),(1,1),(2,1),(3,1)]:=ah
def ab9:zeroOf aB 127=aa (bU #[.map ak,.map ak,aC ak 0 0,.map ak]):=ah
def R3:hW aB 125 122 (.map ak) 1 8:=jD ah
def ab':eP aB 125=aa 1:=ah
def R4:eP aB 124=aa 1:=ah
def ab_:hW aB 244 22 (aC ak 0 0) 1 24:=jD ah
def yd:cX aB 37 3=aa 3:=ah
def R5:hy aB 107=aa [(0,1),(1,1),(2,1)]:=ah
def Ac:zeroOf aB 107=aa (bU #[an am 0,an am 0,aC ak 0 0]):=ah
def R6:hW aB 34 107 (bU #[an am 0,an am 0,aC ak 0 0]) 3 40:=jD ah
def aca:eP aB 34=aa 1:=ah
def FE:cX aB 37 4=aa 4:=ah
def acb (H v:View) (ke ks:Z) (r:mf) (m:cM) (fa:az a0) (fc:Z) (fs:I<|I a7×I aW) (w:aL) (bW:Le H w) (bX:Le v w) (y:mg ke ks H r m) (aH:Sl FD 2 v fa fc fs) (bY:wM m<=109951162777) :
   cr aB 13 #[bU (hk m r).toArray,aC fa fs.length fc] w λe A=>∃r:o5,e = ax (cN #[bU (hX (jq m fs).1 r).toArray,an am (jq m fs).2])/\Ext w A/\og (ke+1) (ks+1) (nv w A) r (jq m fs).1:=by
 have di:=aH.cap;have dj:=aH.max;refine DA func13 O 159 O O ?_;refine CE (Vs:=[v,H]) (Ws.init (by simp [bX,bW]))<|ai ?_;refine WL.box Y O O λaK=>?_;refine Al Y O ft λn=>?_;refine dK 0 (aM (hX lw nC).toArray 37 (0,0)) O O ?_;refine Al Y O BD λt=>?_;refine dK 0 (aM #[an am 0] 30 (0,0)) O O<|ag<|Cs<|ai<|V0 (dv 2 O O cA O) ?_;refine Ld Y O bf O (λr:SP=>cN #[bU #[st (fk m).1.1,aC r.1 (fk m).1.2.length r.2],an am (fk m).2]) (λH r=>Sl dL 4 H r.1 r.2 (fk m).1.2) (λw d=>RI H ke ks r m w (d.vs _ (by simp)) y bY) ?_;intro dk dl dm dn;refine ad O<|V0 (Yx O O)<|V0 (Yx O O) ?_;refine Al Y O vi λdp=>?_;refine aq 0 Y O O O x_ O O O<|ar O<|ag<|ai<|ad O<|V0 (g2 O O)<|ag ?_;refine Cc O (λaP=>?_)<|λaP=>?_
 ·have B:¬(fk m).2=0:=by simpa using aP
  refine ai<|V0 (Yb ft FB O O)<|ad O<|aq 2 Y O O O rT O O O<|aq 1 Y O O O nj O O O<|ag<|bq<|Er ?_;refine WE.uv (hG O (e1 2 O O l9 O)<|jb 1 O O O ah) λA d=>?_;rw [abZ B];exact ⟨nC,O,d.fr,y9 _⟩
 have B:(fk m).2=0:=by simpa using aP
 obtain ⟨bZ,aR,Q⟩:=ab3 B;have S:=JU bZ;have aR:=ku.2 aR;have Q:=ku.2 Q;have gu:=S.gu;have dq:=y.aI.max;have ds:=y.aI.cap;have dt:=y.procs.max;have du:=y.procs.cap;have dw:wM m=1+m.nm.length+wN m.aI+wD m.decls+wP m.procs+fj m.main:=rfl;refine bO<|Cs<|ai<|ad O<|V0 (Yn Kb O)<|V0 (Yf rJ O)<|V0 (Yd 3 O O O ah)<|V0 (Yn e4 O)<|V0 (g2 O O)<|ag ?_;refine Cc O (λaS=>?_)<|λaS=>?_
 ·have b1:¬fs.length=m.aI.length:=by simp at aS;omega
  refine ai<|V0 (Yb ft FB O O)<|aq 2 Y O O O rT O O O<|aq 1 Y O O O nj O O O<|ag<|bq<|Er ?_;refine WE.uv (hG O (e1 2 O O l9 O)<|jb 1 O O O ah) λA d=>?_;rw [ab0 B b1];exact ⟨nC,O,d.fr,y9 _⟩
 have C:fs.length=m.aI.length:=by simp at aS;omega
 refine bO<|ai<|V0 (vC O) ?_;refine WL.defer Y O ?_;refine ag<|ai<|V0 (dv 3 O O cA O) ?_;refine Ld Y O bf O (λr:SP=>cN #[aC r.1 (gW m).length r.2,an am (od m)]) (λH r=>Sl dL 4 H r.1 r.2<|gW m) (λw d=>RF H ke ks r m w (d.vs _ (by simp)) y S) ?_;intro b2 bu dx b3;refine ad O<|V0 (Yx O O)<|V0 (Yx O O)<|ar O<|ar O<|ag<|ai<|ad O ?_;refine Ld Y O bf O (λb:Z=>.map<|aa b) (λH b=>H b=aa (dH st (cf (gW m) 0) (gW m).length)) (λw d=>RJ b2 bu.1 bu.2 (gW m) w (d.vs _ (by simp)) b3 aR) ?_;intro M T dz bv;refine WL.oX st Y O λG=>?_;refine dK 0 (dH st (i3 (m.aI.take 0) 0) 0) O O<|V0 (Yb ab9 ab8 O O) ?_;refine WL.box Y O O λD=>?_;refine LW (λ_ h=>h.bJ 122 1) ?_;refine WL.v0 ?_;refine ar O<|ag<|Cs<|ai<|ad O<|V0 (Yn Kb O)<|ad O<|ag<|Cb ?_;refine dZ (ι:=GX XM) (λg=>[(46,an am (g.i:ab))]) [(2,_),(4,_),(5,_),(9,_),(10,_),(44,_),(45,_)] (λg=>Ws w [] [aJ D<|aM #[.map (aa T),.map (aa G),aC g.a g.es.length g.c,.map ak] 127 (0,0),aJ G<|dH st (i3 (m.aI.take g.i) 0) g.i,cO 122 1 XM.cells g.a g.c g.es,aJ t<|aM #[an am 0] 30 (0,0),aJ n<|aM (hX lw nC).toArray 37 (0,0),aJ aK<|aM (hk m r).toArray 27 (0,0)] [g.J,M,v,H]) (λg=>g.i<=fs.length/\g.es.map (·.1)=(fs.take g.i).map (·.2)/\(∀(k:Z) u f,k<g.i->m.aI[k]? = aa u->fs[k]? = aa f->mo u f=ac)/\(g8 w g.J/\Xs Aa g.J g.es)) (λg=>fs.length-g.i) ⟨0,[],ak,0,v0⟩ ⟨de _,O,λk u f U=>absurd U<|C_ k,⟨ec w,Xs.nil _⟩⟩ (λ_ h=>by have h:=h.av 6 O;have h:=h.av 6 O;have h:=h.av 6 O;have h:=h.av 3 O;have h:=h.av 5 O;have h:=h.av 5 O;have h:=Wt 6 h;have h:=Ws.dr h (cB:=[v0,M,v,H]) (by simp);exact h) ?_;intro g ⟨hi,aU,bw,⟨b4,aX⟩⟩;refine ai<|V0 (cP O O)<|ag<|Cs ?_;refine Cc O (λaY=>?_)<|λaY=>?_
 ·have V:g.i<fs.length:=by simpa using aY
  obtain ⟨f,aj⟩:∃f,fs[g.i]? = aa f:=⟨_,dh V⟩;obtain ⟨dB,dC,b5,al,b6,bx⟩:=aH.b7 g.i f aj;obtain ⟨u,W⟩:∃u,m.aI[g.i]? = aa u:=⟨_,dh (by omega)⟩;obtain ⟨b8,b',ca,aZ⟩:=y.aI.b7 g.i u W;have aZ:ct H b8 (b'+g.i*1)<|fV u:=aZ;have dE:=Cn aU hi;refine bO<|Cs<|Cb<|ai<|ad O<|V0 (Yo Kb O O b5 (by omega))<|V0 (dG 2 ya O O O<|b6) ?_;refine Al Y O vi λdI=>?_;refine ar O<|aq 0 Y O O O x_ O O O<|ag<|Cs ?_;refine WC.w_ (nB [.cell 4 37,.cell 5 30]) [] [(0,ac),(1,au),(2,ac),(3,ac),(4,ac),(5,ac),(6,ac),(7,ac),(8,ac),(9,ac),(10,ac),(11,ac),(12,ac),(13,au)] mixed (by kernel_rfl) (by kernel_rfl) (λ_ _ _ _ _ E h=>qh (fn:=f13) [.cell 4 37,.cell 5 30] O E h) ?_;refine D0 O (λ_ h=>h) (dv 0 O O ya O) ?_;refine De O (λ_ h=>h) ?_;refine Lp Y O bf O (λw d=>abe v al.1 al.2 f.1 f.2 w (d.vs _ (by simp)) bx)<|Ln<|Ed<|D0 O (λ_ h=>h) (bN O O)<|D0 O (λ_ h=>h) (Ym O) ?_;apply WD.and 8 O O O O O Y O (λ_ h=>h) O O O O;·intro dM;refine Dq O (.g O O O) O (λ_ h=>h) (Yf JS O)<|Dq O (.g O O O) O (λ_ h=>h) (Yd 0 O O O ah)<|Dq O (.g O O O) O (λ_ h=>h) (Yf rJ O)<|Dq O (.g O O O) O (λ_ h=>h) (Yd 6 O O O ah)<|Dq O (.g O O O) O (λ_ h=>h) (Ym O)<|Dq O (.g O O O) O (λ_ h=>h) (Yo e4 O O ca (by omega))<|Dq O (.g O O O) O (λ_ h=>h) (dQ 3 ah O O<|aZ 0 _ O)<|Dq O (.g O O O) O (λ_ h=>h) (AI O O) ?_;exact Gi 8 (λ_ h=>h) O O O
  refine De O (λ_ h=>h) ?_;refine WL.dD (ι:=dT) (κ:=dT) Y O bf O (λ_=>cN #[]) (λ_=>mo u f=ac) (λ_=>jz 1) (λ_=>mo u f=au) (λw d=>vl _ _ w) ?_ ?_
  ·intro _ F;refine Ep<|Ep<|WE.aF<|Ep<|Ep<|WE.aF<|Ep ?_;refine WE.front 4 O ?_;refine WE.front 5 O ?_;refine WE.r7 bf (pC [_,_] _ [aJ n<|aM (hX lw nC).toArray 37 (0,0),aJ t<|aM #[an am 1] 30 (0,0)] O<|λw d=>FC n t (hX lw nC) O 0 1 w d) (hG O (e1 0 O O l9 O)<|jb 1 O O O ah) λA d=>?_;have cb:g0 m.aI fs=au:=by rw [ug];intro h;have:=J'.1 h g.i u f W aj;rw [F] at this;cases this
   rw [ab1 B C cb];exact ⟨nC,O,d.fr,y9 _⟩
  intro _ cc;refine Ln<|Ed ?_;refine WD.nil (λ_ h=>h) ?_;refine Et<|Cs ?_;have bz:mo u f=ac:=cc;have bB:=bz;simp only [mo,eW,j8] at bB;obtain ⟨cd,a2⟩:=bB;obtain ⟨ce,dN⟩:=abY cd;have ao:f.1 ∉ m.aI.take g.i:=by rw [a2];exact ab4 Q W
  refine WC.w_ (nB [.cell 4 37,.cell 5 30]) [2] [(0,ac),(1,ac),(2,ac),(3,ac),(4,ac),(5,ac),(6,ac),(7,ac),(8,au)] mixed (by kernel_rfl) (by kernel_rfl) (λ_ _ _ _ _ E h=>qh (fn:=f13) [.cell 4 37,.cell 5 30] O E h) ?_;refine D0 O (Wp 2) (Ym O)<|D0 O (Wp 2) (bP O)<|D0 O (Wp 2) (Yf RS O)<|D0 O (Wp 2) (Yd 1 O O O ah)<|D0 O (Wp 2) (Yf JS O)<|D0 O (Wp 2) (Yd 0 O O O ah)<|D0 O (Wp 2) (Ym O)<|D0 O (Wp 2) (Yi O O O (by omega)) ?_;refine De O (Wp 2) ?_;refine WL.ql 2 i2 Y i0 ah O O O O ?_;refine dK 2 (dH st (i3 (m.aI.take<|g.i+1) 0)<|g.i+1) O (by rw [a2];exact R0 W<|a2▸ao)<|Ln<|Ed ?_;refine WD.nil (Wp 2) ?_;refine Et ?_;refine CU (nB [.cell 4 37,.cell 5 30]) [3] [10,11,12] (.q au 0<|.q au 1<|.q au 2<|.q au 3<|.q ac 4<|.q au 5<|.q ac 6<|.e 7 (.e 8 (.e 9 .nil .stop) .stop) .stop) mixed (by kernel_rfl) (λ_ _ _ _ _ E h=>qh (fn:=f13) [.cell 4 37,.cell 5 30] O E h) ?_;refine U0 O (Wp 3) (Ym O)<|U0 O (Wp 3) (Ym O)<|U0 O (Wp 3) (bP O)<|U0 O (Wp 3) (Yf J5 O)<|U0 O (Wp 3) (Yd 1 O O O ah)<|U0 O (Wp 3) (Yf Ci O)<|U0 O (Wp 3) (Yd 0 O O O ah) ?_;refine Ue O (Wp 3) ?_ WU.stop;refine Ld Y O bf O (λb:Z=>.map<|aa b) (λH b=>H b=aa (dH st (cf f.2 0) f.2.length)) (λw d=>RJ v al.1 al.2 f.2 w (d.vs _ (by simp)) bx ce) ?_;intro dO a3 cg ch;refine Ln<|Eu ?_;refine Ue O (λ_ h=>(Wv 1<|Wo 3 h:)) ?_ WU.stop;refine Lb Y O R3 O O O O λdP=>?_;refine dK 0 (aM (XM.cells (f.2,a3)).toArray 122 (0,0)) O O<|Ln<|Eu ?_;refine Ue O (λ_ h=>(Wv 1<|Wo 3<|Wd 1 h:)) ?_ WU.stop;refine LA ((f.2,a3):XM) 4 0 Y O R3 O O O O O O (by omega) (by omega) λcj ck=>?_;refine Ln<|Eu ?_;refine WU.nil (λ_ h=>(Wv 1<|Wo 3<|Wd 1 h:)) ?_;refine WS.e O ?_;refine V0 (bP O)<|Ln<|Es ?_;refine WS.e O ?_;refine V0 (Yf J5 O)<|Ln<|Es ?_;refine WS.e O ?_;refine aq 2 Y O O O ab' O O O<|Ln<|Es ?_;refine WS.nil ?_;refine Eb<|Et ?_;refine WC.jJ λcl cm cn co=>?_;refine Cr<|V0 (Yi O O O (by omega))<|ad O<|Ln ?_;exact cU (⟨g.i+1,g.es++[(f.2,a3)],cj,ck,cl⟩:GX XM) (by show _-(g.i+1)<_;omega) ⟨by show g.i+1<=_;omega,Cm aU aj O,λk cp cq U X ae=>by
   rcases dd.1 U with h | rfl;·exact bw k cp cq h X ae
   ·rw [W] at X;rw [aj] at ae;injection X with X;injection ae with ae;subst X;subst ae;exact bz,⟨co _ cg b4,Xs.snoc (R:=Aa) (λhv h=>Aa.mv hv h) aX cn cm ch⟩⟩<|λ_ h=>Wd 2 h
 have a5:g.i=fs.length:=by simp at aY;omega
 have ap:g0 m.aI fs=ac:=J'.2 λk u f cs bC=>bw k u f (by have:=(c_.1 bC).1;omega) cs bC;have aw:=Co aU a5;have cu:m.aI.take g.i=m.aI:=by rw [a5,C,gJ]
 have cv:g.i=m.aI.length:=by rw [a5,C]
 rw [cu,cv];refine Ce<|Ex<|Ex<|dy<|Et<|Cs ?_;refine WC.cK (rd:=abX) 2 O XM.dA (λ_ _ _ _ h=>h) λaf bD=>?_;refine WC.w_ (nB [.cell 4 37,.cell 5 30]) [3] [(0,ac),(1,ac),(2,ac),(3,ac),(5,ac),(4,au),(6,ac),(7,au)] mixed (by kernel_rfl) (by kernel_rfl) (λ_ _ _ _ _ E h=>qh (fn:=f13) [.cell 4 37,.cell 5 30] O E h) ?_;refine D0 O (Wp 3) (Yf wr O)<|D0 O (Wp 3) (Yd 3 O O O ah)<|D0 O (Wp 3) (Yf rJ O)<|D0 O (Wp 3) (Yd 3 O O O ah)<|D0 O (Wp 3) (Ym O) ?_;refine De O (Wp 3) ?_;refine Ld Y O bf O (λr:SP=>aC r.1 m.aI.length r.2) (λN r=>Sl rdStr 1 N r.1 r.2 m.aI) (λw d=>RY H r.a1 r.c1 m.aI w (d.vs _ (by simp)) y.aI (by omega)) ?_;intro a8 z cx cy;refine Ln<|Ed<|D0 O (λ_ h=>(Wv 1<|Wo 3 h:)) (Yb ft FB O O) ?_;refine De O (λ_ h=>(Wv 1<|Wo 3 h:)) ?_;refine aq 3 Y O O O rT O O O<|Ln<|Ed ?_;refine WD.nil (λ_ h=>(Wv 1<|Wo 3 h:)) ?_;refine Et<|Cs<|Cs<|gL 3 (aM (Ab m z ([]:I XP).length (ak,0)).toArray 37 (0,0)) O O ?_;refine oO (λ_ h=>h.bJ 107 3) ?_;refine oO (λ_ h=>h.v0) ?_;refine Cr<|V0 (Yf wu O)<|V0 (Yd 5 O O O ah)<|V0 (Yn sR O)<|ad O<|ag<|Cb ?_;refine dZ (ι:=GP) (λl=>[(96,an am (l.i:ab))]) [(2,_),(4,_),(5,_),(10,_),(94,_),(95,_)] (λl=>Ws w [] [aJ D<|aM #[.map (aa T),.map (aa G),aC g.a g.es.length g.c,l.lb] 127 (0,0),aJ G<|dH st (i3 m.aI 0) m.aI.length,cO 107 3 XP.cells l.a l.c l.es,aJ t<|aM #[an am 0] 30 (0,0),aJ n<|aM (Ab m z l.es.length (l.a,l.c)).toArray 37 (0,0),aJ aK<|aM (hk m r).toArray 27 (0,0)] [l.J,a8,af,g.J,M,v,H]) (λl=>l.i<=m.procs.length/\l.es.map (·.1)=(m.procs.take l.i).map (qt m fs)/\iS (q5 m fs) (m.procs.take l.i)=0/\(g8 w l.J/\Xs (vL (ke+1)<|ks+1) l.J l.es)) (λl=>m.procs.length-l.i) ⟨0,[],ak,0,v0,.map ak⟩ ⟨de _,O,O,⟨ec w,Xs.nil _⟩⟩ (λ_ h=>by have h:=h.av 5 O;have h:=h.av 5 O;have h:=h.av 5 O;have h:=h.av 3 O;have h:=h.av 5 O;have h:=h.av 5 O;have h:=Ws.dr h (cB:=[v0,a8,af,g.J,M,v,H]) (by simp);exact h) ?_;intro l ⟨cz,a9,aA,⟨bF,bG⟩⟩;refine ai<|V0 (cP O O)<|ag<|Cs ?_;refine Cc O (λa'=>?_)<|λa'=>?_
 ·have V:l.i<m.procs.length:=by simpa using a'
  obtain ⟨p,P⟩:∃q,m.procs[l.i]? = aa q:=⟨_,dh V⟩;obtain ⟨dR,dS,cC,cD⟩:=y.procs.b7 l.i p P;obtain ⟨a_,ba,bb,bc,bH,bI,cE,bd,be,cF⟩:=cD;have op:=wg<|S.procs p<|dJ P;have dU:=op.gu;have dW:=QD P;have dX:=bd.max;have dY:=bd.cap;have d0:=be.max;have d1:=be.cap;have d2:=Cn a9 cz;refine bO<|Cs<|Cb<|ai<|V0 (Yo sR O O cC (by omega))<|V0 (dG 6 x0 O O O<|cE) ?_;refine Al Y O ww λcG=>?_;refine aq 0 Y O O O x1 O O O<|ag<|ai<|ad O ?_;refine WL.oX st Y O λaD=>?_;refine dK 0 (dH st (i3 ((p.params++p.a6).take 0) 0) 0) O O<|V0 (bP O)<|V0 (Yf rs O)<|aq 2 Y O O O R4 O O O<|ag<|Cs<|ai<|V0 (Yf sS O)<|V0 (Yd 1 O O O ah)<|V0 (Yf x2 O) ?_;refine V0 (Yd 1 O O O ah) ?_;refine Lb Y O ab_ O O O O λbh=>?_;refine Ld Y O bf O (λr:SP=>aC r.1 (p.params++p.a6).length r.2) (λN r=>Sl rdStr 1 N r.1 r.2<|p.params++p.a6) (λw d=>by have cH:Sl xE 1 (hv w) (aa ⟨bh,0,ak⟩) 2 [((a_,ba),p.params),((bb,bc),p.a6)]:=⟨by simp,by decide,by simp,λj x K=>⟨bh,0,rfl,by match j,K with| 0,K=>simp only [lL,gi] at K;subst K;exact ⟨d.i_ 0 rfl rfl,bd.imp λb o x bi=>yW (n5<|d.vs H (by simp)) b o x bi⟩| 1,K=>simp only [lM,lL,gi] at K;subst K;exact ⟨d.i_ 0 rfl rfl,be.imp λb o x bi=>yW (n5<|d.vs H (by simp)) b o x bi⟩⟩⟩;have bK:=abV (hv w) (aa ⟨bh,0,ak⟩) 2 _ w (b9 w) cH (by simp [ii];omega) (by simp);rw [show [((a_,ba),p.params),((bb,bc),p.a6)].flatMap (·.2)=p.params++p.a6 by simp] at bK;exact bK) ?_;intro bL d3 cI bj;refine V0 (Yn e4 O)<|ad O<|ag<|Cb ?_;refine dZ (ι:=Z) (λj=>[(111,an am (j:ab))]) [(2,_),(4,_),(5,_),(10,_),(14,_),(94,_),(95,_),(96,_),(109,_),(110,_)] (λj=>Ws w [] [aJ D<|aM #[.map (aa T),.map (aa G),aC g.a g.es.length g.c,.map (aa aD)] 127 (0,0),aJ aD<|dH st (i3 ((p.params++p.a6).take j) 0) j,aJ cG<|aM (xk p a_ ba bb bc bH bI).toArray 113 (0,0),aJ G<|dH st (i3 m.aI 0) m.aI.length,cO 107 3 XP.cells l.a l.c l.es,aJ t<|aM #[an am 0] 30 (0,0),aJ n<|aM (Ab m z l.es.length (l.a,l.c)).toArray 37 (0,0),aJ aK<|aM (hk m r).toArray 27 (0,0)] [bL,l.J,a8,af,g.J,M,v,H]) (λj=>j<=(p.params++p.a6).length/\((p.params++p.a6).take j).Nodup) (λj=>(p.params++p.a6).length-j) 0 ⟨de _,I.nodup_nil⟩ (λ_ h=>by exact (Wt 8<|(((((((h.f 8 O).f 8 O).f 8 O).f 8 O).f 8 O).f 7 O).f 7 O).f 8 O:)) ?_;intro j ⟨K,bk⟩;refine ai<|V0 (cP O O)<|ag<|Cs ?_;refine Cc O (λbm=>?_)<|λbm=>?_
  ·have V:j<(p.params++p.a6).length:=by simp only [mb] at bm;omega
   obtain ⟨s,aE⟩:∃q,(p.params++p.a6)[j]? = aa q:=⟨_,dh V⟩;obtain ⟨cJ,pos,cL,bn⟩:=bj.b7 j s aE;have bn:ct bL cJ (pos+j*1)<|fV s:=bn;have d4:=bj.cap;have d5:=bj.max;refine bO<|Cs<|Cb<|ai<|ad O<|V0 (Yo e4 O O cL (by omega))<|V0 (dQ 0 ah O O<|bn 0 _ O)<|ar O<|ar O<|ag<|ai<|ad O ?_;refine V0 (bP O)<|V0 (Yf rs O)<|V0 (Yd 0 O O O ah)<|ad O<|V0 (qk 1 i2 i0 ah cw O O O) ?_;rw [J0];refine V0 (bN O O) ?_;refine WL.dD (ι:=dT) (κ:=dT) Y O bf O (λ_=>cN #[]) (λ_=>(oJ s ((p.params++p.a6).take j)==0)=ac) (λ_=>jz 6) (λ_=>(oJ s ((p.params++p.a6).take j)==0)=au) (λw d=>vl _ _ w) ?_ ?_
   ·intro _ F;refine Ep<|WE.aF<|Ep<|Ep<|WE.aF<|Ep<|WE.aF<|Ep ?_;refine Ep<|WE.aF<|Ep ?_;refine WE.front 5 O ?_;refine WE.front 6 O ?_;refine WE.r7 bf (pC [_,_] _ [aJ n<|aM (hX lw nC).toArray 37 (0,0),aJ t<|aM #[an am 6] 30 (0,0)] O<|λw d=>FC n t (Ab m z l.es.length (l.a,l.c)) O 0 6 w d) (hG O (e1 0 O O l9 O)<|jb 1 O O O ah) λA d=>?_;have bM:=ab6 aE F;have L:oj m fs=6:=by rw [oj,y_ (q5 m fs) P aA (by rw [Rq bM];decide),Rq bM];rfl
    rw [J_ B C ap (by rw [L];decide),L];exact ⟨nC,O,d.fr,y9 _⟩
   intro _ cQ;have ao:=ab5 cQ;refine ag<|Cr<|ad O<|V0 (bP O)<|V0 (Yf rs O)<|V0 (Yd 0 O O O ah)<|ad O<|ad O<|V0 (Yi O O O (by omega)) ?_;refine WL.ql 1 i2 Y i0 ah O O O O ?_;refine dK 1 (dH st (i3 ((p.params++p.a6).take<|j+1) 0)<|j+1) O (R0 aE ao)<|Ln<|Eb<|Et<|Cr<|V0 (Yi O O O (by omega))<|ad O<|Ln ?_;exact cU (j+1) (by omega) ⟨by omega,ab7 aE ao bk⟩<|λ_ h=>h
  have bQ:j=(p.params++p.a6).length:=by simp only [ny] at bm;omega
  have bo:gV (p.params++p.a6)=au:=ku.1 (by rw [bQ,gJ] at bk;exact bk);rw [bQ,gJ];refine Ce<|Ex<|Ex<|dy<|Et ?_;refine CU (nB [.cell 4 37,.cell 5 30]) [4] [15,16] (.q au 0<|.q ac 1<|.q au 2<|.q ac 3<|.q au 4<|.q au 5<|.q ac 6<|.q au 7<|.q au 8<|.q au 9<|.q ac 10<|.e 11 (.q au 12<|.e 13 (.e 14 .nil .stop) .stop) .stop) mixed (by kernel_rfl) (λ_ _ _ _ _ E h=>qh (fn:=f13) [.cell 4 37,.cell 5 30] O E h) ?_;refine U0 O (Wp 4) (Yf yd O)<|U0 O (Wp 4) (Yd 5 O O O ah)<|U0 O (Wp 4) (Yf sS O)<|U0 O (Wp 4) (Yd 2 O O O ah)<|U0 O (Wp 4) (Yn e4 O)<|U0 O (Wp 4) (Yf x2 O)<|U0 O (Wp 4) (Yd 2 O O O ah)<|U0 O (Wp 4) (Yn e4 O) ?_;refine U0 O (Wp 4) (Ym O)<|U0 O (Wp 4) (Yf xn O)<|U0 O (Wp 4) (Yd 2 O O O ah) ?_;refine Ue O (Wp 4) ?_ WU.stop;refine WL.vG (ι:=SP) (κ:=dT) Y O bf O (λr=>aC r.1 (ga (c9 m fs<|p.params++p.a6) p.body).length r.2) (λN r=>gX (c9 m fs<|p.params++p.a6) p.body=0/\Sl (jd (ke+1)<|ks+1) 7 N r.1 r.2 (ga (c9 m fs<|p.params++p.a6) p.body)) (λ_=>jz<|gX (c9 m fs<|p.params++p.a6) p.body) (λ_=>gX (c9 m fs<|p.params++p.a6) p.body≠0) (λw d=>by have bp:lH (hv w) D<|c9 m fs<|p.params++p.a6:=⟨⟨T,G,g.a,g.c,aD,⟨d.i_ 0 rfl rfl,d.i_ 0 rfl rfl,by show vc (hv w) D 2=aa (aC g.a (fs.map (·.2)).length g.c);rw [<-aw,fK];exact AR (d.pJ 0 rfl) rfl,d.i_ 0 rfl rfl⟩,d.vs M (by simp) _ _ bv,d.pJ 3 rfl,by show Sl JZ 1 (hv w) g.a g.c (fs.map (·.2));rw [<-aw];exact xp bD aX λb o e br bs=>⟨e.2,(n5<|d.vs af (by simp)).cell<|br 0 _ rfl,d.vs g.J (by simp) _ _ bs⟩,d.pJ 1 rfl⟩,Q,by show m.aI.length=(fs.map (·.2)).length;rw [fK,C],⟨S.gu.1,by show (p.params++p.a6).length<=7;rw [e_];omega⟩⟩;exact RW (hv w) H D (c9 m fs<|p.params++p.a6) ke bp ks p.body bH bI w (b9 w) (d.vs H (by simp)) cF (by omega)) ?_ ?_
  ·intro _ F;refine Ep<|WE.aF<|Ep<|Ep<|WE.aF<|Ep ?_;refine WE.front 5 O ?_;refine WE.front 6 O ?_;refine WE.r7 bf (pC [_,_] _ [aJ n<|aM (hX lw nC).toArray 37 (0,0),aJ t<|aM #[an am (gX (c9 m fs<|p.params++p.a6) p.body)] 30 (0,0)] O<|λw d=>FC n t (Ab m z l.es.length (l.a,l.c)) O 0 (gX (c9 m fs<|p.params++p.a6) p.body) w d) (hG O (e1 0 O O l9 O)<|jb 1 O O O ah) λA d=>?_;have L:oj m fs=gX (c9 m fs<|p.params++p.a6) p.body:=by rw [oj,y_ (q5 m fs) P aA (by rw [Ka bo];exact F),Ka bo,tm F]
   rw [J_ B C ap (by rw [L];exact F),L];exact ⟨nC,O,d.fr,y9 _⟩
  intro d6 bt cR ⟨cS,cT⟩;refine Ln<|Eu<|U0 O (λ_ h=>(Wv 1<|Wo 4 h:)) (Yb Ac R5 O O) ?_;refine Ue O (λ_ h=>(Wv 1<|Wo 4 h:)) ?_ WU.stop;refine Lb Y O R6 O O O O λd7=>?_;refine dK 0 (aM (XP.cells (qt m fs p,bt)).toArray 107 (0,0)) O O<|Ln<|Eu ?_;refine Ue O (λ_ h=>(Wv 1<|Wo 4<|Wd 1 h:)) ?_ WU.stop;refine LA ((qt m fs p,bt):XP) 5 0 Y O R6 O O O O O O (by omega) (by omega) λcW cX=>?_;refine Ln<|Eu ?_;refine WU.nil (λ_ h=>(Wv 1<|Wo 4<|Wd 1 h:)) ?_;refine WS.e O ?_;refine V0 (Yf yd O)<|Ln<|Es ?_;refine WS.e O ?_;refine aq 7 Y O O O aca O O O<|Ln<|Es ?_;refine WS.nil ?_;refine Eb<|Et ?_;refine WC.jJ λd8 cY d9 cZ=>?_;refine WC.jJ λc0 c2 c3 c6=>?_;refine Cr<|V0 (Yi O O O (by omega))<|ad O<|Ln ?_;exact cU (⟨l.i+1,l.es++[(qt m fs p,bt)],cW,cX,c0,.map<|aa aD⟩:GP) (by show _-(l.i+1)<_;omega) ⟨by show l.i+1<=_;omega,Cm a9 P O,by show iS (q5 m fs) (m.procs.take<|l.i+1)=0;rw [Hx _ P,aA,nD,Ka bo,cS],⟨c6 _ (cZ _ cR cI) bF,Xs.snoc (R:=vL _ _) (λhv h=>vL.mv hv h) bG c3 (cV.trans cY c2) cT⟩⟩ (λ_ h=>by exact (Wt 6<|(((((h.f 8 O).f 8 O).f 8 O).f 8 O).f 8 O).f 6 O:))
 have bR:l.i=m.procs.length:=by simp at a';omega
 have c7:=Co a9 bR;have bS:iS (q5 m fs) m.procs=0:=by rw [<-aA,bR,gJ]
 have bT:ff m fs=⟨m.nm,m.aI,od m,l.es.map (·.1),ga (c9 m fs []) m.main⟩:=by rw [c7];rfl
 refine Ce<|Ex<|Ex<|dy<|Et<|ai<|ad O ?_;refine WL.oX st Y O λc'=>?_;refine V0 (bP O)<|V0 (Yf rs O)<|aq 1 Y O O O R4 O O O<|ag<|ai<|ad O<|V0 (Yf Fj O)<|V0 (Yd 6 O O O ah) ?_;refine WL.vG (ι:=SP) (κ:=dT) Y O bf O (λr=>aC r.1 (ga (c9 m fs []) m.main).length r.2) (λN r=>gX (c9 m fs []) m.main=0/\Sl (jd (ke+1)<|ks+1) 7 N r.1 r.2 (ga (c9 m fs []) m.main)) (λ_=>jz<|gX (c9 m fs []) m.main) (λ_=>gX (c9 m fs []) m.main≠0) (λw d=>by have bp:lH (hv w) D<|c9 m fs []:=⟨⟨T,G,g.a,g.c,c',⟨d.i_ 1 rfl rfl,d.i_ 1 rfl rfl,by show vc (hv w) D 2=aa (aC g.a (fs.map (·.2)).length g.c);rw [<-aw,fK];exact AR (d.pJ 1 rfl) rfl,d.i_ 1 rfl rfl⟩,d.vs M (by simp) _ _ bv,d.pJ 2 rfl,by show Sl JZ 1 (hv w) g.a g.c (fs.map (·.2));rw [<-aw];exact xp bD aX λb o e br bs=>⟨e.2,(n5<|d.vs af (by simp)).cell<|br 0 _ rfl,d.vs g.J (by simp) _ _ bs⟩,d.pJ 0 rfl⟩,Q,by show m.aI.length=(fs.map (·.2)).length;rw [fK,C],⟨S.gu.1,by show (0:Z)<=7;omega⟩⟩;exact RW (hv w) H D (c9 m fs []) ke bp ks m.main r.a4 r.c4 w (b9 w) (d.vs H (by simp)) y.main (by omega)) ?_ ?_
 ·intro _ F;refine Ep ?_;refine WE.front 4 O ?_;refine WE.front 5 O ?_;refine WE.r7 bf (pC [_,_] _ [aJ n<|aM (hX lw nC).toArray 37 (0,0),aJ t<|aM #[an am (gX (c9 m fs []) m.main)] 30 (0,0)] O<|λw d=>FC n t (Ab m z l.es.length (l.a,l.c)) O 0 (gX (c9 m fs []) m.main) w d) (hG O (e1 0 O O l9 O)<|jb 1 O O O ah) λA d=>?_;have L:oj m fs=gX (c9 m fs []) m.main:=by rw [oj,bS,nD]
  rw [J_ B C ap (by rw [L];exact F),L];exact ⟨nC,O,d.fr,y9 _⟩
 intro d' aG da ⟨db,dc⟩;refine V0 (Yf FE O)<|aq 5 Y O O O J9 O O O<|ag<|Cs ?_;refine WC.pH (rd:=MR) 3 O (λ_ U=>by cases U) XP.dA (λ_ _ _ _ h=>h) λd_ df dg=>?_;refine gL 4 (aM (hX (ff m fs) ⟨z,(l.a,l.c),aG⟩).toArray 37 (0,0)) O (by rw [bT];show Obj.cells _ _ _=Obj.cells (hX _ _).toArray _ _;simp only [hX,fK];rfl)<|Cr<|V0 (dv 4 O O l9 O)<|aq 4 Y O O O rT O O O<|aq 3 Y O O O nj O O O<|ag<|bq ?_;refine WE.front 3 O ?_;refine WE.front 4 O ?_;refine WE.GR bf (pC [_,_] _ [aJ n<|aM (hX (ff m fs) ⟨z,(l.a,l.c),aG⟩).toArray 37 (0,0),aJ t<|aM #[an am 0] 30 (0,0)] O<|λw d=>abW n t (hX (ff m fs) ⟨z,(l.a,l.c),aG⟩) O 0 0 w d) (hG O (e1 0 O O l9 O)<|jb 1 O O O ah) λA d=>?_;rw [ab2 B C ap (by rw [oj,bS,nD,db])];exact ⟨⟨z,(l.a,l.c),aG⟩,O,d.fr,⟨ve cy<|e7 d (by simp) cx,by rw [bT];exact UP dg (e7 d (by simp) df) (e7 d (by simp) bF) bG,vK dc<|e7 d (by simp) da⟩⟩
structure afU where
 ma:mf
 fa:SP
 oa:SP
 na:SP
structure agb (HS:View) (m:cM) (fs:I<|I a7×I aW) (ns:I<|I a7) (q:afU):Prop where
 aI:Sl rdStr 1 HS q.ma.a1 q.ma.c1 m.aI
 vM:Sl FD 2 HS q.fa.1 q.fa.2 fs
 own:Sl dL 4 HS q.oa.1 q.oa.2<|gW m
 names:Sl rdStr 1 HS q.na.1 q.na.2 ns
 len:m.aI.length=fs.length
structure GQ where
 i:Z
 es:I XP
 a:az a0
 c:Z
 J:View
 ns:I<|I a7
 na:SP
variable {b':az a0}
def Kc (hv:cV bt bX)    (h:Sl dL 4 bt b' ae jc):Sl dL 4 bX b' ae jc:=h.imp λb o x a=>UH hv b o x a
def ij:g1 aB 49=aa 5:=ah
def fL:g1 aB 35=aa 7:=ah
def Cq:cX aB 51 0=aa 0:=ah
def Ad:cX aB 37 0=aa 0:=ah
def ye:cX aB 37 1=aa 1:=ah
def t':cX aB 37 2=aa 2:=ah
def mJ:g1 aB 34=aa 3:=ah
def Ae:cX aB 107 0=aa 0:=ah
def sw:cX aB 107 1=aa 1:=ah
def Kd:cX aB 107 2=aa 2:=ah
def qL:cM:=(⟨[99,110,116],[],[(⟨1,[107],ac,3⟩:eQ),(⟨2,[115,117,109],ac,0⟩:eQ),(⟨3,[116],ac,4⟩:eQ)],[(⟨[100,111,119,110],ac,[[110]],[[105]],[cv.mk 1 [] [105] [cu.mk 3 0 [] [110] []] [] [],cv.mk 5 [] [] [cu.mk 3 0 [] [105] []] [cv.mk 1 [] [115,117,109] [cu.mk 9 0 [] [] [cu.mk 3 0 [] [115,117,109] [],cu.mk 3 0 [] [105] []]] [] [],cv.mk 1 [] [105] [cu.mk 10 0 [] [] [cu.mk 3 0 [] [105] [],cu.mk 1 1 [] [] []]] [] []] [],cv.mk 6 [] [] [cu.mk 3 0 [] [115,117,109] []] [] []]⟩:bz)],[]⟩:cM)
def rV:Tx:=[109,111,100,117,108,101,32,116,111,112,123,117,115,101,32,99,110,116,59,109,97,105,110,123,99,110,116,46,116,91,49,93,61,99,110,116,46,100,111,119,110,40,99,110,116,46,107,41,59,111,117,116,32,99,110,116,46,116,91,105,110,93,59,105,102,40,99,110,116,46,115,117,109,61,54,41,123,111,117,116,32,55,59,125,101,108,115,101,123,111,117,116,32,56,59,125,125,125]
def gP:cM:=(fJ rV).1
def acd:(fJ rV).2=0:=by decide +kernel
def Ke (s:Tx):wM (fJ s).1<=73728:=by
 unfold fJ;split;·show wM tR<=_;decide
 ·rename_i h;have a:(g4 s).2=0:=by simpa using h
  have c:=(JM a).len;split
  ·rename_i m b;split;·have:=P8 b;simp at this;show wM m<=_;omega
   ·show wM tR<=_;decide
  ·show wM tR<=_;decide
def R8:hW aB 28 42 (bU #[st [],aC ak 0 0]) 2 40:=jD ah
def ace (w:aL) : cr aB 48 #[] w λe a=>e = ax (st rV)/\Ext w a:=by refine enter func48 O 1 O O ?_;refine CE (Vs:=[]) (Ws.init aG)<|ai<|ar O<|ag<|ai<|ar O<|ag<|bq ?_;refine R1 O O λa b=>?_;exact ⟨O,b.fr⟩
def FG:cX aB 350 0=aa 0:=ah
def FH:g1 aB 274=aa 3:=ah
def FI:iC aB 276=aa 3:=ah
def sy:zeroOf aB 276=aa (bU #[bV au,an am 0,aC ak 0 0]):=ah
def FJ:eP aB 276=aa 3:=ah
def R9:cX aB 276 0=aa 0:=ah
def acf:cX aB 276 1=aa 1:=ah
def xJ:cX aB 276 2=aa 2:=ah
def eS:g1 aB 29=aa 1:=ah
def Kf:cX aB 350 1=aa 1:=ah
def FL (b d:View) (f:Z) (p:az a0) (q:Z) (kn:I e8) (a6:ab) (m pl n:ab) (w:aL) (u:Le b w) (v:Le d w) (r:vc b f 0=aa (aC p kn.length q)) (A:vc b f 1=aa (an am a6)) (g:Sl qu 3 d p q kn) (B:0<=n/\n<=32) : cr aB 327 #[b0 (aa ⟨f,0,ak⟩),an am m,an am pl,an am n] w λe c=>e = ax (bV<|k6 kn m pl n)/\Ext w c:=by
 have C:=g.cap;have D:=g.max;refine enter func327 O 52 O O ?_;refine CE (Vs:=[b,d]) (Ws.init (by simp [u,v]))<|ai<|ar O<|ag<|Cs<|ai<|ad O<|V0 (cP O O)<|ad O ?_;apply Lo 7 O O O O Y O O O O O;·intro E;refine Vg (Ym O)<|Vg (Ym O)<|Vg (bP O)<|Vg (Yf FG O)<|Vg (dQ 0 ah O O<|r)<|Vg (Yn FH O)<|Vg (hE O O) ?_;exact Gt 7 O O O
 refine ad O ?_;apply Lo 2 O O O O Y O O O O O;·intro F;refine Vg (Ym O)<|Vg (cP O O) ?_;exact Gt 2 O O O
 refine ad O ?_;apply Lo 2 O O O O Y O O O O O;·intro G;refine Vg (Ym O)<|Vg (ek O O) ?_;exact Gt 2 O O O
 refine ag ?_;refine Cc O (λi=>?_)<|λi=>?_;·refine ai<|ar O<|ag<|bq<|Er ?_;refine R1 O O λc a=>?_;exact ⟨by rw [tw n i],a.fr⟩
 have j:om kn m pl=au:=i;obtain ⟨⟨x,rfl,s⟩,H,J⟩:=uk j;obtain ⟨k,l⟩:=dO s;obtain ⟨K,L,y,M,z,t⟩:=g.b7 x k l;have N:=t.cap;have P:=t.max;refine bO<|Cs<|ai<|ad O<|V0 (bP O)<|V0 (Yf FG O)<|V0 (dQ 0 ah O O<|r)<|ad O<|V0 (Yo FH O O y s)<|V0 (dG 1 FI O O O<|z) ?_;refine Al Y O sy λQ=>?_;refine aq 0 Y O O O FJ O O O<|ag<|ai<|V0 (Yf R9 O)<|V0 (Yd 0 O O O ah)<|ag ?_;refine Cc O (λo=>?_)<|λo=>?_;·refine ai<|ad O<|ad O<|V0 (oQ O O aj)<|V0 (Yf acf O)<|V0 (Yd 0 O O O ah)<|V0 (kM O O)<|ar O ?_;refine ag<|bq<|Er ?_;refine R1 O O λc a=>?_;exact ⟨by rw [vO j l,aU o],a.fr⟩
 refine bO<|ai<|ad O<|V0 (bN O O)<|ad O ?_;apply Lo 4 O O O O Y O O O O O;·intro R;refine Vg (Ym O)<|Vg (Ym O)<|Vg (oQ O O aj)<|Vg (kM O O) ?_;exact Gt 4 O O O
 refine ar O<|ag<|bq ?_;refine R1 O O λc a=>?_;exact ⟨by rw [vO j l,ao (λe=>by have h:=o.symm.trans e;cases h)],a.fr⟩
def R' (c d:View) (g:Z) (s:az a0) (t:Z) (kn:I e8) (a6:ab) (m pl n:ab) (w:aL) (B:Le c w) (C:Le d w) (u:vc c g 0=aa (aC s kn.length t)) (M:vc c g 1=aa (an am a6)) (i:Sl qu 3 d s t kn)  :
   cr aB 329 #[b0 (aa ⟨g,0,ak⟩),an am m,an am pl,an am n] w λe f=>e = ax (bV<|mL kn m pl n)/\Ext w f:=by
 have N:=i.cap;have P:=i.max;refine enter func329 O 54 O O ?_;refine CE (Vs:=[c,d]) (Ws.init (by simp [B,C]))<|ai<|ar O<|ag<|Cs<|ai<|ad O<|V0 (cP O O)<|ad O ?_;apply Lo 7 O O O O Y O O O O O;·intro Q;refine Vg (Ym O)<|Vg (Ym O)<|Vg (bP O)<|Vg (Yf FG O)<|Vg (dQ 0 ah O O<|u)<|Vg (Yn FH O)<|Vg (hE O O) ?_;exact Gt 7 O O O
 refine ad O ?_;apply Lo 2 O O O O Y O O O O O;·intro R;refine Vg (Ym O)<|Vg (cP O O) ?_;exact Gt 2 O O O
 refine ag ?_;refine Cc O (λj=>?_)<|λj=>?_;·refine ai<|ar O<|ag<|bq<|Er ?_;refine R1 O O λf b=>?_;exact ⟨by rw [HE n j],b.fr⟩
 have l:o6 kn m pl=au:=j;obtain ⟨⟨D,rfl,v⟩,a,rfl⟩:=HF l;obtain ⟨k,o⟩:=dO v;obtain ⟨S,T,E,U,F,p⟩:=i.b7 D k o;have V:=p.cap;have W:=p.max;refine bO<|Cs<|ai<|ad O<|V0 (bP O)<|V0 (Yf FG O)<|V0 (dQ 0 ah O O<|u)<|ad O<|V0 (Yo FH O O E v)<|V0 (dG 1 FI O O O<|F) ?_;refine Al Y O sy λX=>?_;refine aq 0 Y O O O FJ O O O<|ag<|ai<|V0 (Yf R9 O)<|V0 (Yd 0 O O O ah)<|ag ?_;refine Cc O (λq=>?_)<|λq=>?_
 ·refine ai<|ad O<|V0 (Yf xJ O)<|V0 (Yd 0 O O O ah)<|V0 (Yn eS O)<|V0 (cP O O)<|ad O ?_;apply La 7 (x:=(k.parts[((a:ab)).toNat]?).getD 0==n) O O O O Y O O O O O
  ·intro G;have z:a<k.parts.length:=by simpa using G
   obtain ⟨y,A⟩:=dO z;obtain ⟨H,J,K,r⟩:=p.b7 a y A;have r:ct d H (J+a*1)<|hY y:=r;have L:(k.parts[a]?).getD 0=y:=by rw [A];rfl
   refine Vg (Yf xJ O)<|Vg (Yd 0 O O O ah)<|Vg (Ym O)<|Vg (Yo eS O O K z)<|Vg (dQ 1 ah O O<|r 0 _ O)<|Vg (Ym O)<|Vg (bN O O) ?_;rw [show (y==n)=((k.parts[((a:ab)).toNat]?).getD 0==n) from by rw [m4,L]];exact Gt 7 O O O
  refine ar O<|ag<|bq<|Er ?_;refine R1 O O λf b=>?_;exact ⟨by rw [vP l o,aU q],b.fr⟩
 refine bO<|ai<|ad O<|V0 (cP O O)<|ad O ?_;apply La 2 O O O O Y O O O O O;·intro ae;refine Vg (Ym O)<|Vg (kM O O) ?_;exact Gt 2 O O O
 refine ar O<|ag<|bq ?_;refine R1 O O λf b=>?_;exact ⟨by rw [vP l o,ao (λe=>by have h:=q.symm.trans e;cases h)],b.fr⟩
def R_ (a b:View) (c:Z) (d:az a0) (f:Z) (kn:I e8) (a6:ab) (pl:ab) (w:aL) (i:Le a w) (j:Le b w) (m:vc a c 0=aa (aC d kn.length f)) (k:vc a c 1=aa (an am a6)) (g:Sl qu 3 b d f kn)  : cr aB 326 #[b0 (aa ⟨c,0,ak⟩),an am pl] w λe h=>e = ax (bV<|ko a6 pl)/\Ext w h:=by
 have n:=g.cap;have o:=g.max;refine enter func326 O 15 O O ?_;refine CE (Vs:=[a,b]) (Ws.init (by simp [i,j]))<|ai<|ar O<|ag<|ai<|ad O<|V0 (hE O O)<|ad O ?_;apply La 6 O O O O Y O O O O O;·intro p;refine Vg (Ym O)<|Vg (Ym O)<|Vg (bP O)<|Vg (Yf Kf O)<|Vg (dQ 0 ah O O<|k)<|Vg (cP O O) ?_;exact Gt 6 O O O
 refine ar O<|ag<|bq ?_;refine R1 O O λh l=>?_;exact ⟨O,l.fr⟩
def Sa (n:ab) (w:aL) : cr aB 328 #[an am n] w λe a=>e = ax (bV<|se n)/\Ext w a:=by
 refine enter func328 O 9 O O ?_;refine CE (Vs:=[]) (Ws.init aG)<|ai<|ar O<|ag<|ai<|ad O<|V0 (hE O O)<|ad O ?_;apply La 2 O O O O Y O O O O O;·intro c;refine Vg (Ym O)<|Vg (kM O O) ?_;exact Gt 2 O O O
 refine ar O<|ag<|bq ?_;refine R1 O O λa b=>?_;exact ⟨O,b.fr⟩
def acg (j k:View) (o:Z) (q:az a0) (r:Z) (kn:I e8) (a6:ab) (x:e3) (a:az a0) (c:Z) (w:aL) (af:Le j w) (al:Le k w) (y:vc j o 0=aa (aC q kn.length r)) (z:vc j o 1=aa (an am a6)) (s:Sl qu 3 k q r kn)  : cr aB 330 #[b0 (aa ⟨o,0,ak⟩),bU (oe x a c).toArray] w λe i=>e = ax (bV<|node1 kn a6 x.op x.n x.m x.pl x.args.length)/\Ext w i:=by
 have aq:=s.cap;have aw:=s.max;refine enter func330 O 170 O O ?_;refine CE (Vs:=[j,k]) (Ws.init (by simp [af,al]))<|ai ?_;refine WL.box Y O O λU=>?_;refine ar O<|ag<|Cs<|ai<|V0 (Yf mX O)<|V0 (Yd 0 O O O ah)<|V0 (Yn ij O)<|ar O<|ag<|ai<|V0 (Yf qK O) ?_;refine V0 (Yd 0 O O O ah)<|ag<|Cb<|ai<|V0 (bN O O)<|ar O<|ag ?_;refine Cc O (λB=>?_)<|λB=>?_
 ·have f:x.op=1:=by simpa using B
  refine ai<|V0 (Yf nS O)<|V0 (Yd 0 O O O ah)<|V0 (bN O O)<|ad O ?_;apply La 3 O O O O Y O O O O O;·intro aA;refine Vg (Yf mH O)<|Vg (Yd 0 O O O ah)<|Vg (bN O O) ?_;exact Gt 3 O O O
  refine ad O ?_;apply La 2 O O O O Y O O O O O;·intro aD;refine Vg (Ym O)<|Vg (bN O O) ?_;exact Gt 2 O O O
  refine ad O ?_;apply La 3 O O O O Y O O O O O;·intro aE;refine Vg (Yf oK O)<|Vg (Yd 0 O O O ah)<|Vg (hE O O) ?_;exact Gt 3 O O O
  refine ad O ?_;apply La 3 O O O O Y O O O O O;·intro aF;refine Vg (Yf oK O)<|Vg (Yd 0 O O O ah)<|Vg (kM O O) ?_;exact Gt 3 O O O
  refine ar O<|ag<|bq<|cZ<|Er ?_;refine R1 O O λi b=>?_;exact ⟨by rw [node1,aU f],b.fr⟩
 have l:¬x.op=1:=by simpa using B
 refine ai<|V0 (bN O O)<|ar O<|ag ?_;refine Cc O (λC=>?_)<|λC=>?_
 ·have f:x.op=3:=by simpa using C
  refine ai<|V0 (Yf oK O)<|V0 (Yd 0 O O O ah)<|V0 (bN O O)<|ad O ?_;apply La 2 O O O O Y O O O O O;·intro aG;refine Vg (Ym O)<|Vg (bN O O) ?_;exact Gt 2 O O O
  refine ad O ?_;apply La 6 O O O O Y O O O O O;·intro aH;refine Vg (Ym O)<|Vg (Yf nS O)<|Vg (Yd 0 O O O ah)<|Vg (Yf mH O)<|Vg (Yd 0 O O O ah)<|Lp (.g O O O) O bf O (λw b=>FL j k o q r kn a6 x.m x.pl 1 w b.V b.V y z s aj) ?_;exact Gt 6 O O O
  refine ar O<|ag<|bq<|cZ<|Er ?_;refine R1 O O λi b=>?_;exact ⟨by rw [node1,ao l,aU f],b.fr⟩
 have p:¬x.op=3:=by simpa using C
 refine ai<|V0 (bN O O)<|ar O<|ag ?_;refine Cc O (λD=>?_)<|λD=>?_
 ·have f:x.op=4:=by simpa using D
  refine ai<|V0 (Yf oK O)<|V0 (Yd 0 O O O ah)<|Lp Y O bf O (λw b=>Sa _ w)<|ad O ?_;apply La 2 O O O O Y O O O O O;·intro aI;refine Vg (Ym O)<|Vg (bN O O) ?_;exact Gt 2 O O O
  refine ad O ?_;apply La 8 O O O O Y O O O O O
  ·intro W;have ap:0<=x.n/\x.n<=32:=by unfold se at W;simp at W;omega
   refine Vg (Ym O)<|Vg (Yf nS O)<|Vg (Yd 0 O O O ah)<|Vg (Yf mH O)<|Vg (Yd 0 O O O ah)<|Vg (Yf oK O)<|Vg (Yd 0 O O O ah)<|Lp (.g O O O) O bf O (λw b=>FL j k o q r kn a6 x.m x.pl x.n w b.V b.V y z s ap) ?_;exact Gt 8 O O O
  refine ar O<|ag<|bq<|cZ<|Er ?_;refine R1 O O λi b=>?_;exact ⟨by rw [node1,ao l,ao p,aU f],b.fr⟩
 have t:¬x.op=4:=by simpa using D
 refine ai<|V0 (bN O O)<|ar O<|ag ?_;refine Cc O (λE=>?_)<|λE=>?_
 ·have f:x.op=5:=by simpa using E
  refine ai<|V0 (Yf oK O)<|V0 (Yd 0 O O O ah)<|V0 (bN O O)<|ad O ?_;apply La 7 O O O O Y O O O O O;·intro aK;refine Vg (Ym O)<|Vg (Yf nS O)<|Vg (Yd 0 O O O ah)<|Vg (Yf mH O)<|Vg (Yd 0 O O O ah)<|Vg (Ym O)<|Lp (.g O O O) O bf O (λw b=>R' j k o q r kn a6 x.m x.pl x.args.length w b.V b.V y z s) ?_;exact Gt 7 O O O
  refine ar O<|ag<|bq<|cZ<|Er ?_;refine R1 O O λi b=>?_;exact ⟨by rw [node1,ao l,ao p,ao t,aU f],b.fr⟩
 have u:¬x.op=5:=by simpa using E
 refine ai<|V0 (bN O O)<|ar O<|ag ?_;refine Cc O (λF=>?_)<|λF=>?_
 ·have f:x.op=16:=by simpa using F
  refine ai<|V0 (Yf nS O)<|V0 (Yd 0 O O O ah)<|V0 (bN O O)<|ad O ?_;apply La 3 O O O O Y O O O O O;·intro aP;refine Vg (Yf oK O)<|Vg (Yd 0 O O O ah)<|Vg (bN O O) ?_;exact Gt 3 O O O
  refine ad O ?_;apply La 2 O O O O Y O O O O O;·intro aR;refine Vg (Ym O)<|Vg (bN O O) ?_;exact Gt 2 O O O
  refine ad O ?_;apply La 4 O O O O Y O O O O O;·intro aS;refine Vg (Ym O)<|Vg (Yf mH O)<|Vg (Yd 0 O O O ah)<|Lp (.g O O O) O bf O (λw b=>R_ j k o q r kn a6 x.pl w b.V b.V y z s) ?_;exact Gt 4 O O O
  refine ar O<|ag<|bq<|cZ<|Er ?_;refine R1 O O λi b=>?_;exact ⟨by rw [node1,ao l,ao p,ao t,ao u,aU f],b.fr⟩
 have A:¬x.op=16:=by simpa using F
 refine ai<|V0 (bN O O)<|ar O<|ag ?_;refine Cc O (λG=>?_)<|λG=>?_
 ·have f:x.op=2:=by simpa using G
  refine ai<|V0 (Yf nS O)<|V0 (Yd 0 O O O ah)<|V0 (bN O O)<|ad O ?_;apply La 3 O O O O Y O O O O O;·intro aW;refine Vg (Yf mH O)<|Vg (Yd 0 O O O ah)<|Vg (bN O O) ?_;exact Gt 3 O O O
  refine ad O ?_;apply La 3 O O O O Y O O O O O;·intro aX;refine Vg (Yf oK O)<|Vg (Yd 0 O O O ah)<|Vg (bN O O) ?_;exact Gt 3 O O O
  refine ad O ?_;apply La 2 O O O O Y O O O O O;·intro aY;refine Vg (Ym O)<|Vg (bN O O) ?_;exact Gt 2 O O O
  refine ar O<|ag<|bq<|cZ<|Er ?_;refine R1 O O λi b=>?_;exact ⟨by rw [node1,ao l,ao p,ao t,ao u,ao A,aU f],b.fr⟩
 have H:¬x.op=2:=by simpa using G
 refine ai<|V0 (bN O O)<|ar O<|ag ?_;refine Cc O (λJ=>?_)<|λJ=>?_
 ·have f:x.op=6:=by simpa using J
  refine ai<|V0 (Yf nS O)<|V0 (Yd 0 O O O ah)<|V0 (bN O O)<|ad O ?_;apply La 3 O O O O Y O O O O O;·intro aZ;refine Vg (Yf mH O)<|Vg (Yd 0 O O O ah)<|Vg (bN O O) ?_;exact Gt 3 O O O
  refine ad O ?_;apply La 3 O O O O Y O O O O O;·intro a1;refine Vg (Yf oK O)<|Vg (Yd 0 O O O ah)<|Vg (bN O O) ?_;exact Gt 3 O O O
  refine ad O ?_;apply La 2 O O O O Y O O O O O;·intro a2;refine Vg (Ym O)<|Vg (bN O O) ?_;exact Gt 2 O O O
  refine ar O<|ag<|bq<|cZ<|Er ?_;refine R1 O O λi b=>?_;exact ⟨by rw [node1,ao l,ao p,ao t,ao u,ao A,ao H,aU f],b.fr⟩
 have X:¬x.op=6:=by simpa using J
 refine WC.A0 (ι:=aQ) (λv=>[(3,b0<|aa ⟨U,0,ak⟩),(5,an am (x.args.length:ab)),(143,bV v)]) (λv=>Ws w [] [aJ U<|aM (oe x a c).toArray 53 (0,0)] [j,k]) (λv=>v=decide (7<=x.op/\x.op<=15)) ?_ ?_
 ·refine ai<|V0 (bN O O)<|ar O<|ag ?_;refine Cc O (λK=>?_)<|λK=>?_;·refine Ck ?_;exact jo (x.op==7) (by have d:x.op=7:=(by simpa using K);rw [d];decide) (λ_ h=>by have h:=h.av 0 rfl;exact h)
  have a3:¬x.op=7:=by simpa using K
  refine ai<|V0 (bN O O)<|ar O<|ag ?_;refine Cc O (λL=>?_)<|λL=>?_;·refine Ck ?_;exact jo (x.op==8) (by have d:x.op=8:=(by simpa using L);rw [d];decide) (λ_ h=>by have h:=h.av 0 rfl;exact h)
  have a4:¬x.op=8:=by simpa using L
  refine ai<|V0 (bN O O)<|ar O<|ag ?_;refine Cc O (λM=>?_)<|λM=>?_;·refine Ck ?_;exact jo (x.op==9) (by have d:x.op=9:=(by simpa using M);rw [d];decide) (λ_ h=>by have h:=h.av 0 rfl;exact h)
  have a5:¬x.op=9:=by simpa using M
  refine ai<|V0 (bN O O)<|ar O<|ag ?_;refine Cc O (λN=>?_)<|λN=>?_;·refine Ck ?_;exact jo (x.op==10) (by have d:x.op=10:=(by simpa using N);rw [d];decide) (λ_ h=>by have h:=h.av 0 rfl;exact h)
  have a8:¬x.op=10:=by simpa using N
  refine ai<|V0 (bN O O)<|ar O<|ag ?_;refine Cc O (λP=>?_)<|λP=>?_;·refine Ck ?_;exact jo (x.op==11) (by have d:x.op=11:=(by simpa using P);rw [d];decide) (λ_ h=>by have h:=h.av 0 rfl;exact h)
  have a9:¬x.op=11:=by simpa using P
  refine ai<|V0 (bN O O)<|ar O<|ag ?_;refine Cc O (λQ=>?_)<|λQ=>?_;·refine Ck ?_;exact jo (x.op==12) (by have d:x.op=12:=(by simpa using Q);rw [d];decide) (λ_ h=>by have h:=h.av 0 rfl;exact h)
  have a':¬x.op=12:=by simpa using Q
  refine ai<|V0 (bN O O)<|ar O<|ag ?_;refine Cc O (λR=>?_)<|λR=>?_;·refine Ck ?_;exact jo (x.op==13) (by have d:x.op=13:=(by simpa using R);rw [d];decide) (λ_ h=>by have h:=h.av 0 rfl;exact h)
  have a_:¬x.op=13:=by simpa using R
  refine ai<|V0 (bN O O)<|ar O<|ag ?_;refine Cc O (λS=>?_)<|λS=>?_;·refine Ck ?_;exact jo (x.op==14) (by have d:x.op=14:=(by simpa using S);rw [d];decide) (λ_ h=>by have h:=h.av 0 rfl;exact h)
  have ba:¬x.op=14:=by simpa using S
  refine Cr<|V0 (bN O O)<|ar O<|Ln ?_;exact jo (x.op==15) (by rw [lK];simp;omega) (λ_ h=>by have h:=h.av 0 rfl;exact h)
 intro v ae;refine Cc O (λT=>?_)<|λT=>?_
 ·refine ai<|V0 (Yf nS O)<|V0 (Yd 0 O O O ah)<|V0 (bN O O)<|ad O ?_;apply La 3 O O O O Y O O O O O;·intro bb;refine Vg (Yf mH O)<|Vg (Yd 0 O O O ah)<|Vg (bN O O) ?_;exact Gt 3 O O O
  refine ad O ?_;apply La 3 O O O O Y O O O O O;·intro bc;refine Vg (Yf oK O)<|Vg (Yd 0 O O O ah)<|Vg (bN O O) ?_;exact Gt 3 O O O
  refine ad O ?_;apply La 2 O O O O Y O O O O O;·intro bd;refine Vg (Ym O)<|Vg (bN O O) ?_;exact Gt 2 O O O
  refine ar O<|ag<|bq<|cZ<|Er ?_;refine R1 O O λi b=>?_;exact ⟨by rw [node1,ao l,ao p,ao t,ao u,ao A,ao H,ao X,aU<|uj<|ae.symm.trans T],b.fr⟩
 refine Ck<|Eb<|Et<|ai<|ar O<|ag<|bq ?_;refine R1 O O λi b=>?_;exact ⟨by rw [node1,ao l,ao p,ao t,ao u,ao A,ao H,ao X,ao<|Gz<|ae.symm.trans T],b.fr⟩
def ach {a b:Z} (c:a<=9223372036854775807) (d:b<=9223372036854775807):(am.wrap ((a:ab)+(b:ab))==0)=((a:ab)+(b:ab)==0):=by rw [lK];simp only [j8];rw [IntKind.wrap_i64];omega
def aci (f m:View) (n:Z) (o:az a0) (p:Z) (kn:I e8) (a6:ab) (H:View) (k:Z) (l:I e3) (a:az a0) (c:Z) (d:Z) (w:aL) (E:Le f w) (F:Le m w) (G:vc f n 0=aa (aC o kn.length p)) (J:vc f n 1=aa (an am a6)) (q:Sl qu 3 m o p kn) (K:Le H w) (r:Sl (kQ k) 5 H a c l) (S:d<=7) : cr aB 275 #[b0 (aa ⟨n,0,ak⟩),aC a l.length c,an am (d:ab)] w λe s=>e = ax (bV<|iT kn a6 l d)/\Ext w s:=by
 have T:=q.cap;have U:=q.max;induction k using m1 generalizing l a c d w;rename_i k L;have W:=r.cap;have X:=r.max;refine enter func275 O 33 O O ?_;refine CE (Vs:=[f,m,H]) (Ws.init (by simp [E,F,K]))<|ai<|ar O<|ag<|Cs<|ai<|ad O<|V0 (Yn ij O)<|ad O<|ag<|Cb ?_;refine dg (ι:=Z) (λi=>[(11,an am (i:ab))]) [(0,_),(2,_),(9,_),(10,_)] (λi=>i<=l.length/\(l.take i).all (lV kn a6 · d)=ac) (λi=>l.length-i) 0 ⟨de _,O⟩ ?_;intro i ⟨hi,t⟩;refine ai<|V0 (cP O O)<|ag<|Cs ?_;refine Cc O (λu=>?_)<|λu=>?_
 ·have C:i<l.length:=by simpa using u
  obtain ⟨x,v⟩:=dO C;obtain ⟨ae,af,M,D⟩:=r.b7 i x v;obtain ⟨j,rfl⟩:∃j,k=j+1:=by cases k with| zero=>exact D.elim| succ j=>exact ⟨j,rfl⟩
  obtain ⟨y,z,N,P⟩:=D;refine bO<|Cs<|Cb<|ai<|V0 (Yo ij O O M C)<|V0 (dG 2 h3 O O O<|N) ?_;refine Al Y O z' λal=>?_;refine aq 0 Y O O O rY O O O<|ag<|Cs<|gL 0 (aM (oe x y z).toArray 53 (0,0)) O O<|Cr<|ad O<|V0 (ek O O)<|ad O ?_;apply Lo 4 O O O O Y O O O O O;·intro ao;refine Vg (Ym O)<|Vg (dv 0 O O h3 O)<|Lp (.g O O O) O bf O (λw b=>acg f m n o p kn a6 x y z w b.V b.V G J q)<|Vg (hV O) ?_;exact Gt 4 O O O
  refine ad O ?_;apply Lo 7 O O O O Y O O O O O
  ·intro Q;have ap:d<=6:=by have R:=(lN.1 Q).1;simp at R;omega
   refine Vg (Ym O)<|Vg (Yf mX O)<|Vg (Yd 0 O O O ah)<|Vg (Ym O)<|Vg (Yi O O O aj)<|Lp (.g O O O) O bf O (λw b=>L j aj x.args y z (d+1) w b.V b.V b.V P aj)<|Vg (hV O) ?_;exact Gt 7 O O O
  refine ag ?_;rw [UV];refine Cc O (λA=>?_)<|λA=>?_
  ·have B:lV kn a6 x d=au:=by simpa using A
   refine ai<|ar O<|ag<|bq<|cZ<|Er<|Er<|cZ<|Er ?_;refine R1 O O λs b=>?_;exact ⟨by rw [Bb,za v B],b.fr⟩
  have B:lV kn a6 x d=ac:=by simpa using A
  refine Ck<|Eb<|Et<|Cr<|V0 (Yi O O O aj)<|ad O<|Ln ?_;exact cU (i+1) aj ⟨aj,zb v t B⟩<|λ_ h=>Wd 1 h
 have av:¬i<l.length:=by simpa using u
 rw [i' aj] at t;refine Ce<|Ex<|Ex<|dy<|Et<|ai<|ar O<|ag<|bq ?_;refine R1 O O λs b=>?_;exact ⟨by rw [Bb,t],b.fr⟩
def acj (b f:View) (j:Z) (k:az a0) (l:Z) (kn:I e8) (a6:ab) (x:ep) (r:vJ) (w:aL) (K:Le b w) (L:Le f w) (t:vc b j 0=aa (aC k kn.length l)) (u:vc b j 1=aa (an am a6)) (o:Sl qu 3 f k l kn) (M:x.body.length<=9223372036854775807) (N:x.other.length<=9223372036854775807) : cr aB 274 #[b0 (aa ⟨j,0,ak⟩),bU (qs x r).toArray] w λe i=>e = ax (bV<|h7 kn a6 x.op x.n x.m x.pl x.args.length x.body.length x.other.length)/\Ext w i:=by
 have S:=o.cap;have T:=o.max;refine enter func274 O 135 O O ?_;refine CE (Vs:=[b,f]) (Ws.init (by simp [K,L]))<|ai ?_;refine WL.box Y O O λP=>?_;refine ar O<|ag<|Cs ?_;refine WC.n6 [(0,ac),(1,ac),(2,ac),(3,ac),(4,ac),(5,ac),(6,ac),(7,ac),(8,ac),(9,ac),(10,ac),(11,ac),(12,ac)] mixed ah (λ_ _ _ d _ h=>by cases d<;>exact h) ?_;refine D0 O aR (Yf mY O)<|D0 O aR (Yd 0 O O O ah)<|D0 O aR (Yn ij O)<|D0 O aR (Yf yc O)<|D0 O aR (Yd 0 O O O ah)<|D0 O aR (Yn fL O)<|D0 O aR (Yf wB O)<|D0 O aR (Yd 0 O O O ah) ?_;refine D0 O aR (Yn fL O)<|D0 O aR (s_ O O)<|D0 O aR (bN O O) ?_;rw [ach M N];refine D0 O aR (Ya O)<|D0 O aR (Ya O) ?_;refine WD.nil aR ?_;refine Et<|ai<|V0 (Yf nT O)<|V0 (Yd 0 O O O ah)<|V0 (bN O O)<|ad O ?_;apply La 3 O O O O Y O O O O O;·intro U;refine Vg (Yf oL O)<|Vg (Yd 0 O O O ah)<|Vg (bN O O) ?_;exact Gt 3 O O O
 refine ad O ?_;apply La 3 O O O O Y O O O O O;·intro W;refine Vg (Yf wA O)<|Vg (Yd 0 O O O ah)<|Vg (bN O O) ?_;exact Gt 3 O O O
 refine ar O<|ag<|Cs<|ai<|V0 (Yf Cq O)<|V0 (Yd 0 O O O ah)<|ag<|Cb<|ai<|V0 (bN O O)<|ar O<|ag ?_;refine Cc O (λz=>?_)<|λz=>?_
 ·have c:x.op=1:=by simpa using z
  refine ai<|ad O<|ad O ?_;apply La 2 O O O O Y O O O O O;·intro X;refine Vg (Ym O)<|Vg (bN O O) ?_;exact Gt 2 O O O
  refine ad O ?_;apply La 3 O O O O Y O O O O O;·intro ae;refine Vg (Yf wA O)<|Vg (Yd 0 O O O ah)<|Vg (bN O O) ?_;exact Gt 3 O O O
  refine ad O ?_;apply La 17 O O O O Y O O O O O
  ·intro af;refine Vg (Yf nT O)<|Vg (Yd 0 O O O ah)<|Vg (bN O O)<|Vg (Ym O) ?_;apply La 4 O O O O (.g O O O) O O O O O;·intro al;refine Vg (Ym O)<|Vg (Yf oL O)<|Vg (Yd 0 O O O ah)<|Lp (.g O O O) O bf O (λw a=>R_ b f j k l kn a6 x.pl w a.V a.V t u o) ?_;exact Gt 4 O O O
   refine Vg (Ym O) ?_;apply Lo 6 O O O O (.g O O O) O O O O O;·intro ap;refine Vg (Ym O)<|Vg (Yf nT O)<|Vg (Yd 0 O O O ah)<|Vg (Yf oL O)<|Vg (Yd 0 O O O ah)<|Lp (.g O O O) O bf O (λw a=>FL b f j k l kn a6 x.m x.pl 1 w a.V a.V t u o aj) ?_;exact Gt 6 O O O
   exact Gt 7 O O O
  refine ar O<|ag<|bq<|cZ<|Er ?_;refine R1 O O λi a=>?_;exact ⟨by rw [h7,aU c],a.fr⟩
 have p:¬x.op=1:=by simpa using z
 refine ai<|V0 (bN O O)<|ar O<|ag ?_;refine Cc O (λA=>?_)<|λA=>?_
 ·have c:x.op=2:=by simpa using A
  refine ai<|ad O<|ad O ?_;apply La 2 O O O O Y O O O O O;·intro aq;refine Vg (Ym O)<|Vg (bN O O) ?_;exact Gt 2 O O O
  refine ad O ?_;apply La 3 O O O O Y O O O O O;·intro aw;refine Vg (Yf wA O)<|Vg (Yd 0 O O O ah)<|Lp (.g O O O) O bf O (λw a=>Sa _ w) ?_;exact Gt 3 O O O
  refine ad O ?_;apply La 8 O O O O Y O O O O O
  ·intro Q;have R:0<=x.n/\x.n<=32:=by have v:=(gj.1 Q).2;unfold se at v;simp at v;omega
   refine Vg (Ym O)<|Vg (Yf nT O)<|Vg (Yd 0 O O O ah)<|Vg (Yf oL O)<|Vg (Yd 0 O O O ah)<|Vg (Yf wA O)<|Vg (Yd 0 O O O ah)<|Lp (.g O O O) O bf O (λw a=>FL b f j k l kn a6 x.m x.pl x.n w a.V a.V t u o R) ?_;exact Gt 8 O O O
  refine ar O<|ag<|bq<|cZ<|Er ?_;refine R1 O O λi a=>?_;exact ⟨by rw [h7,ao p,aU c],a.fr⟩
 have q:¬x.op=2:=by simpa using A
 refine ai<|V0 (bN O O)<|ar O<|ag ?_;refine Cc O (λB=>?_)<|λB=>?_
 ·have c:x.op=3:=by simpa using B
  refine ai<|ad O<|ad O ?_;apply La 3 O O O O Y O O O O O;·intro aA;refine Vg (Yf wA O)<|Vg (Yd 0 O O O ah)<|Vg (bN O O) ?_;exact Gt 3 O O O
  refine ad O ?_;apply La 7 O O O O Y O O O O O;·intro aD;refine Vg (Ym O)<|Vg (Yf nT O)<|Vg (Yd 0 O O O ah)<|Vg (Yf oL O)<|Vg (Yd 0 O O O ah)<|Vg (Ym O)<|Lp (.g O O O) O bf O (λw a=>R' b f j k l kn a6 x.m x.pl x.args.length w a.V a.V t u o) ?_;exact Gt 7 O O O
  refine ar O<|ag<|bq<|cZ<|Er ?_;refine R1 O O λi a=>?_;exact ⟨by rw [h7,ao p,ao q,aU c],a.fr⟩
 have y:¬x.op=3:=by simpa using B
 refine ai<|V0 (bN O O)<|ar O<|ag ?_;refine Cc O (λC=>?_)<|λC=>?_
 ·have c:x.op=4:=by simpa using C
  refine ai<|ad O<|ad O ?_;apply La 2 O O O O Y O O O O O;·intro aE;refine Vg (Ym O)<|Vg (bN O O) ?_;exact Gt 2 O O O
  refine ar O<|ag<|bq<|cZ<|Er ?_;refine R1 O O λi a=>?_;exact ⟨by rw [h7,ao p,ao q,ao y,aU c],a.fr⟩
 have D:¬x.op=4:=by simpa using C
 refine ai<|V0 (bN O O)<|ar O<|ag ?_;refine Cc O (λE=>?_)<|λE=>?_
 ·have c:x.op=5:=by simpa using E
  refine ai<|ad O<|ad O ?_;apply La 2 O O O O Y O O O O O;·intro aF;refine Vg (Ym O)<|Vg (bN O O) ?_;exact Gt 2 O O O
  refine ad O ?_;apply La 4 O O O O Y O O O O O;·intro aG;refine Vg (Yf wB O)<|Vg (Yd 0 O O O ah)<|Vg (Yn fL O)<|Vg (bN O O) ?_;exact Gt 4 O O O
  refine ar O<|ag<|bq<|cZ<|Er ?_;refine R1 O O λi a=>?_;exact ⟨by rw [h7,ao p,ao q,ao y,ao D,aU c],a.fr⟩
 have H:¬x.op=5:=by simpa using E
 refine WC.A0 (ι:=aQ) (λs=>[(5,an am (x.args.length:ab)),(6,bV<|(x.body.length:ab)+(x.other.length:ab)==0),(7,bV<|((x.m==0)&&(x.pl==0))&&(x.n==0)),(124,bV s)]) (λs=>Ws w [] [aJ P<|aM (qs x r).toArray 51 (0,0)] [b,f]) (λs=>s=decide (x.op=6\/x.op=7)) ?_ ?_
 ·refine ai<|V0 (bN O O)<|ar O<|ag ?_;refine Cc O (λF=>?_)<|λF=>?_;·refine Ck ?_;exact jo (x.op==6) (by have v:x.op=6:=(by simpa using F);rw [v];decide) (λ_ h=>by have h:=h.av 0 rfl;exact h)
  have aH:¬x.op=6:=by simpa using F
  refine Cr<|V0 (bN O O)<|ar O<|Ln ?_;exact jo (x.op==7) (by rw [lK];simp;omega) (λ_ h=>by have h:=h.av 0 rfl;exact h)
 intro s J;refine Cc O (λG=>?_)<|λG=>?_
 ·refine ai<|ad O<|ad O ?_;apply La 1 O O O O Y O O O O O;·intro aI;refine Vg (Ym O) ?_;exact Gt 1 O O O
  refine ad O ?_;apply La 2 O O O O Y O O O O O;·intro aK;refine Vg (Ym O)<|Vg (bN O O) ?_;exact Gt 2 O O O
  refine ar O<|ag<|bq<|cZ<|Er ?_;refine R1 O O λi a=>?_;exact ⟨by rw [h7,ao p,ao q,ao y,ao D,ao H,aU<|uj<|J.symm.trans G],a.fr⟩
 refine Ck<|Eb<|Et<|ai<|ar O<|ag<|bq ?_;refine R1 O O λi a=>?_;exact ⟨by rw [h7,ao p,ao q,ao y,ao D,ao H,ao<|Gz<|J.symm.trans G],a.fr⟩
def Sb (f m:View) (n:Z) (o:az a0) (p:Z) (kn:I e8) (a6:ab) (H:View) (ke k:Z) (l:I ep) (a:az a0) (c:Z) (d:Z) (w:aL) (M:Le f w) (N:Le m w) (E:vc f n 0=aa (aC o kn.length p)) (F:vc f n 1=aa (an am a6)) (q:Sl qu 3 m o p kn) (P:Le H w) (t:Sl (jd ke k) 7 H a c l) (T:d<=7) : cr aB 235 #[b0 (aa ⟨n,0,ak⟩),aC a l.length c,an am (d:ab)] w λe s=>e = ax (bV<|h8 kn a6 l d)/\Ext w s:=by
 have U:=q.cap;have W:=q.max;induction k using m1 generalizing l a c d w;rename_i k G;have X:=t.cap;have ae:=t.max;refine enter func235 O 68 O O ?_;refine CE (Vs:=[f,m,H]) (Ws.init (by simp [M,N,P]))<|ai<|ar O<|ag<|Cs<|ai<|ad O<|V0 (ek O O)<|ad O ?_;apply Lo 3 O O O O Y O O O O O;·intro af;refine Vg (Ym O)<|Vg (Yn fL O)<|Vg (ek O O) ?_;exact Gt 3 O O O
 refine ag ?_;refine Cc O (λu=>?_)<|λu=>?_;·refine ai<|ar O<|ag<|bq<|Er ?_;refine R1 O O λs b=>?_;exact ⟨by rw [UX kn a6 l d u],b.fr⟩
 have J:=UY u;refine bO<|Cs<|ai<|ad O<|V0 (Yn fL O)<|ad O<|ag<|Cb ?_;refine dg (ι:=Z) (λi=>[(18,an am (i:ab))]) [(0,_),(2,_),(16,_),(17,_)] (λi=>i<=l.length/\(l.take i).all (mm kn a6 · d)=ac) (λi=>l.length-i) 0 ⟨de _,O⟩ ?_;intro i ⟨hi,v⟩;refine ai<|V0 (cP O O)<|ag<|Cs ?_;refine Cc O (λy=>?_)<|λy=>?_
 ·have K:i<l.length:=by simpa using y
  obtain ⟨x,z⟩:=dO K;obtain ⟨al,ao,Q,L⟩:=t.b7 i x z;obtain ⟨j,rfl⟩:∃j,k=j+1:=by cases k with| zero=>exact L.elim| succ j=>exact ⟨j,rfl⟩
  obtain ⟨r,R,S,A,B⟩:=L;have ap:=A.cap;have av:=A.max;have aw:=B.cap;have aA:=B.max;refine bO<|Cs<|Cb<|ai<|V0 (Yo fL O O Q K)<|V0 (dG 2 wC O O O<|R) ?_;refine Al Y O z_ λaD=>?_;refine aq 0 Y O O O Cp O O O<|ag<|Cs<|gL 0 (aM (qs x r).toArray 51 (0,0)) O O<|Cr<|ad O<|V0 (dv 0 O O wC O)<|Lp Y O bf O (λw b=>acj f m n o p kn a6 x r w b.V b.V E F q aj aj)<|V0 (hV O) ?_;refine ad O ?_;apply Lo 5 O O O O Y O O O O O;·intro aE;refine Vg (Ym O)<|Vg (Yf mY O)<|Vg (Yd 0 O O O ah)<|Lp (.g O O O) O bf O (λw b=>aci f m n o p kn a6 H ke x.args r.s1.1 r.s1.2 1 w b.V b.V E F q b.V S aj)<|Vg (hV O) ?_;exact Gt 5 O O O
  refine ad O ?_;apply Lo 17 O O O O Y O O O O O
  ·intro aF;refine Vg (Yf Cq O)<|Vg (Yd 0 O O O ah)<|Vg (bN O O)<|Vg (Ym O) ?_;apply Lo 3 O O O O (.g O O O) O O O O O;·intro aG;refine Vg (Yf Cq O)<|Vg (Yd 0 O O O ah)<|Vg (bN O O) ?_;exact Gt 3 O O O
   refine Vg (Ym O) ?_;apply La 7 O O O O (.g O O O) O O O O O;·intro aH;refine Vg (Ym O)<|Vg (Yf yc O)<|Vg (Yd 0 O O O ah)<|Vg (Ym O)<|Vg (Yi O O O aj)<|Lp (.g O O O) O bf O (λw b=>G j aj x.body r.s2.1 r.s2.2 (d+1) w b.V b.V b.V A aj)<|Vg (hV O) ?_;exact Gt 7 O O O
   exact Gt 7 O O O
  refine ad O ?_;apply Lo 13 O O O O Y O O O O O
  ·intro aI;refine Vg (Yf wB O)<|Vg (Yd 0 O O O ah)<|Vg (Yn fL O)<|Vg (ek O O)<|Vg (Ym O) ?_;apply La 7 O O O O (.g O O O) O O O O O;·intro aJ;refine Vg (Ym O)<|Vg (Yf wB O)<|Vg (Yd 0 O O O ah)<|Vg (Ym O)<|Vg (Yi O O O aj)<|Lp (.g O O O) O bf O (λw b=>G j aj x.other r.s3.1 r.s3.2 (d+1) w b.V b.V b.V B aj)<|Vg (hV O) ?_;exact Gt 7 O O O
   exact Gt 6 O O O
  refine ag ?_;rw [UW];refine Cc O (λC=>?_)<|λC=>?_
  ·have D:mm kn a6 x d=au:=by simpa using C
   refine ai<|ar O<|ag<|bq<|cZ<|Er<|Er<|cZ<|Er ?_;refine R1 O O λs b=>?_;exact ⟨by rw [M1 kn a6 J,za z D],b.fr⟩
  have D:mm kn a6 x d=ac:=by simpa using C
  refine Ck<|Eb<|Et<|Cr<|V0 (Yi O O O aj)<|ad O<|Ln ?_;exact cU (i+1) aj ⟨aj,zb z v D⟩<|λ_ h=>Wd 1 h
 have aK:¬i<l.length:=by simpa using y
 rw [i' aj] at v;refine Ce<|Ex<|Ex<|dy<|Et<|ai<|ar O<|ag<|bq ?_;refine R1 O O λs b=>?_;exact ⟨by rw [M1 kn a6 J,v],b.fr⟩
abbrev XK:=e8×(az a0×Z)
def XK.cells (e:XK):I aT:=e.1.cells e.2
def XK.dA (e:XK):(XK.cells e).length=3:=rfl
def XK.one (e:XK):(XK.cells e).all (·.oneCell')=ac:=rfl
def Ct (H:View) (b o:Z) (e:XK):Prop:=ct H b o<|XK.cells e
def rW (J:View) (e:XK):Prop:=Sl hn 1 J e.2.1 e.2.2 e.1.parts
def rW.mv {e:XK} (hv:cV bt bX) (h:rW bt e):rW bX e:=h.imp λ_ _ _ r=>ct.mono hv r
def Sc (H:View) (b o:Z) (e:XK):Prop:=ct H b o (XK.cells e)/\rW H e
variable {dM:I e8}
def ack (h:Sl qu 3 bt b' ae dM):∃ys:I XK,ys.map (·.1)=dM/\Sl Sc 3 bt b' ae ys:=by
 obtain ⟨ys,e,f⟩:=PH (β:=az a0×Z) (p:=λi x r=>∃b o,b'=aa ⟨b,o,ak⟩/\ct bt b (o+i*3) (e8.cells x r)/\Sl hn 1 bt r.1 r.2 x.parts) dM 0 λi x g=>by obtain ⟨b,o,c,r,a,d⟩:=h.b7 i x g;exact ⟨r,b,o,c,by rw [k0];exact a,d⟩
 have j:ys.length=dM.length:=by rw [<-e,fK]
 refine ⟨ys,e,by rw [j];exact h.cap,h.max,h.spot,λi y k=>?_⟩;obtain ⟨b,o,c,a,d⟩:=f i y k;rw [k0] at a;exact ⟨b,o,c,a,d⟩
def Kg {es:I XK} (h:Sl Ct 3 bt b' ae es) (hv:cV bt bX) (d:∀e ∈ es,rW bX e):Sl qu 3 bX b' ae (es.map (·.1)):=by refine ⟨by rw [fK];exact h.cap,h.max,h.spot,λi x a=>?_⟩;rw [gh] at a;obtain ⟨y,c,rfl⟩:=eD.1 a;obtain ⟨b,o,f,g⟩:=h.b7 i y c;exact ⟨b,o,f,y.2,ct.mono hv g,d y<|dJ c⟩
variable {dS:cD}
def Sd (h:pM dS=au):dS.parts.length<=6/\dS.aI.length<=3/\0<=dS.data/\dS.data<=512:=by unfold pM at h;simp only [lN,ny] at h;omega
variable {qM:bT}
def acl (h:(((decide (qM.params<0)||decide (3<qM.params))||decide (qM.locals<0))||decide (4<qM.locals))=ac):mM dM qM=au:=by unfold mM;rw [h];rfl
def acm {kn:I e8}  (h:(((decide (qM.params<0)||decide (3<qM.params))||decide (qM.locals<0))||decide (4<qM.locals))=au):mM kn qM=h8 kn (qM.params+qM.locals) qM.body 1:=by unfold mM;rw [h];rfl
def acn (b:aQ):decide (1<(if b=ac then (1:ab) else 0)+1)=b:=by cases b<;>decide
def aco:hy aB 276=aa [(0,1),(1,1),(2,1)]:=ah
def Cu:iC aB 107=aa 3:=ah
def FM:eP aB 107=aa 3:=ah
def fY:hW aB 29 3 (an am 0) 1 8:=jD ah
def cq:eP aB 29=aa 1:=ah
def Cv:hW aB 274 276 (bU #[bV au,an am 0,aC ak 0 0]) 3 40:=jD ah
def acp:hy aB 350=aa [(0,1),(1,1)]:=ah
def acq:zeroOf aB 350=aa (bU #[aC ak 0 0,an am 0]):=ah
def Se (H:View) (ke k:Z) (u:cD) (r:o5) (w:aL) (j:Le H w) (a:og ke k H r u) (B:u.parts.length<=1048576) : cr aB 160 #[bU (hX u r).toArray] w λe b=>∃q:az a0×Z,e = ax (bU ((ey u).cells q).toArray)/\Ext w b/\Sl hn 1 (nv w b) q.1 q.2 (ey u).parts:=by
 have C:=a.parts.cap;have D:=a.parts.max;refine enter func160 O 25 O O ?_;refine CE (Vs:=[H]) (Ws.init (by simp [j]))<|ai ?_;refine WL.box Y O O λl=>?_;refine Al Y O sy λm=>?_;refine ag<|ai<|V0 (Yf t' O)<|V0 (Yd 1 O O O ah)<|V0 (Yb sy aco O O) ?_;refine Al Y O sy λn=>?_;refine aq 0 Y O O O FJ O O O<|ag<|Cs<|Cs<|gL 0 (aM #[bV ac,an am u.data,aC ak 0 0] 276 (0,0)) O O<|Cr<|V0 (Yf yd O)<|V0 (Yd 2 O O O ah)<|V0 (Yn mJ O)<|ad O ?_;refine LW (λ_ h=>h.bJ 3 1)<|ag<|Cb ?_;refine dZ (ι:=Z×(az a0×Z)) (λg=>[(12,an am (g.1:ab))]) [(2,_),(3,_),(10,_),(11,_)] (λg=>Ws w [] [cO 3 1 hY g.2.1 g.2.2 ((u.parts.take g.1).map (·.params)),aJ n (aM #[bV ac,an am u.data,aC g.2.1 ((u.parts.take g.1).map (·.params)).length g.2.2] 276 (0,0)),aJ m<|aM #[bV au,an am 0,aC ak 0 0] 276 (0,0),aJ l<|aM (hX u r).toArray 37 (0,0)] [H]) (λg=>g.1<=u.parts.length) (λg=>u.parts.length-g.1) (0,(ak,0)) (de _) aR ?_;intro g E;refine ai<|V0 (cP O O)<|ag<|Cs ?_;refine Cc O (λc=>?_)<|λc=>?_
 ·have d:g.1<u.parts.length:=by simpa using c
  obtain ⟨x,f⟩:=dO d;obtain ⟨F,G,o,p⟩:=a.parts.b7 g.1 x f;obtain ⟨s,t,J⟩:=p;have v:(u.parts.take<|g.1+1).map (·.params)=(u.parts.take g.1).map (·.params)++[x.params]:=by rw [hP,f];simp
  have hL:((u.parts.take g.1).map (·.params)).length=g.1:=by simp;omega
  refine bO<|Cs<|Cb<|ai<|V0 (Yo mJ O O o d)<|V0 (dG 0 Cu O O O<|t) ?_;refine Al Y O Ac λK=>?_;refine aq 0 Y O O O FM O O O<|ag<|gL 0 (aM (xo x s).toArray 107 (0,0)) O O<|Cr<|V0 (Yf xJ O)<|V0 (Yd 2 O O O ah)<|V0 (Yf Ae O)<|V0 (Yd 0 O O O ah) ?_;refine Lb Y O fY O O O O λL=>?_;refine dK 0 (aM (hY x.params).toArray 3 (0,0)) O O ?_;refine LA x.params 2 0 Y O fY O O O O O O aj aj λy z=>?_;refine V0 (Yf xJ O)<|aq 3 Y O O O cq O O O<|Ln<|Eb<|Et<|Cr<|V0 (Yi O O O aj)<|ad O<|LW (λ_ h=>h.bJ 3 1)<|Ln ?_;rw [<-v];exact cU ((g.1+1,(y,z)):Z×(az a0×Z)) (by show _-(g.1+1)<_;omega) (by show g.1+1<=_;omega)<|λ_ h=>Wd 3 h
 have A:g.1=u.parts.length:=by simp at c;omega
 rw [A,gJ];refine Ce<|Ex<|Ex<|dy<|Et<|ai<|V0 (dv 1 O O FI O)<|aq 2 Y O O O FJ O O O<|ag<|bq ?_;refine WE.Ly 2 O O O FI O λb i=>?_;exact ⟨g.2,O,i.fr,i.jF 0 O kS fp⟩
def Sf (H l:View) (ke k:Z) (u:cD) (r:o5) (us:I e8) (ua:az a0) (F:Z) (w:aL) (aD:Le H w) (aE:Le l w) (m:og ke k H r u) (aF:Sl qu 3 l ua F us) (bc:us.length<=1048576) :
   cr aB 161 #[bU (hX u r).toArray,aC ua us.length F] w λe t=>e = ax (bV<|j1 u us)/\Ext w t:=by
 have bd:=m.aI.cap;have be:=m.aI.max;have bh:=m.parts.cap;have bi:=m.parts.max;refine enter func161 O 115 O O ?_;refine CE (Vs:=[H,l]) (Ws.init (by simp [aD,aE]))<|ai ?_;refine WL.box Y O O λU=>?_;refine ar O<|ag<|ai ?_;refine WL.oX st Y O λaH=>?_;refine V0 (Yf Ad O)<|V0 (Yd 1 O O O ah) ?_;refine WL.oY 0 i2 Y i0 ah O O O O ?_;refine ad O<|ar O<|ag<|Cs<|ai<|V0 (Yf ye O)<|V0 (Yd 1 O O O ah)<|V0 (Yn e4 O)<|ad O<|ag<|Cb ?_;refine dZ (ι:=Z) (λi=>[(18,an am (i:ab))]) [(1,_),(2,_),(5,_),(16,_),(17,_)] (λi=>Ws w [] [aJ aH<|dH st (o8 (u.nm::u.aI.take i) 0) (u.nm::u.aI.take i).length,aJ U<|aM (hX u r).toArray 37 (0,0)] [H,l]) (λi=>i<=u.aI.length/\(u.nm::u.aI.take i).Nodup/\(u.aI.take i).all gm=ac) (λi=>u.aI.length-i) 0 ⟨de _,aG,O⟩ aR ?_;intro i ⟨hi,G,J⟩;refine ai<|V0 (cP O O)<|ag<|Cs ?_;refine Cc O (λK=>?_)<|λK=>?_
 ·have z:i<u.aI.length:=by simpa using K
  obtain ⟨s,B⟩:=dO z;obtain ⟨aK,pos,aP,L⟩:=m.aI.b7 i s B;have L:ct H aK (pos+i*1)<|fV s:=L;refine bO<|Cs<|Cb<|ai<|V0 (Yo e4 O O aP z)<|V0 (dQ 0 ah O O<|L 0 _ O)<|ar O<|ag<|ai<|ad O<|ad O<|V0 (qk 0 i2 i0 ah cw O O O) ?_;rw [Vb];refine V0 (oQ O O (by split<;>omega)) ?_;refine WL.ql 0 i2 Y i0 ah O O O O ?_;refine ag<|ai<|ad O<|ad O<|V0 (qk 0 i2 i0 ah cw O O O) ?_;rw [xt];refine V0 (ek O O) ?_;rw [acn];refine ad O ?_;apply Lo 3 (x:=!(gm s)) O O O O Y O O O O O;·intro bj;refine Vg (Ym O)<|Lp (.g O O O) O bf O (λw d=>rG _ w)<|Vg (hV O) ?_;exact Gt 3 O O O
  refine ag ?_;refine Cc O (λM=>?_)<|λM=>?_
  ·have aS:(u.nm::u.aI.take i).contains s=ac\/gm s=au:=by have j:=M;cases v:(u.nm::u.aI.take i).contains s with| true=>exact bA rfl| false=>rw [v] at j;exact bl (by simpa using j)
   refine ai<|ar O<|ag<|bq<|cZ<|Er<|Er<|cZ<|Er ?_;refine R1 O O λt d=>?_;exact ⟨by rw [j1,Vd B aS];rfl,d.fr⟩
  obtain ⟨v,aU⟩:(u.nm::u.aI.take i).contains s=au/\gm s=ac:=by have j:=lN.1 M;exact ⟨j.1,by simpa using j.2⟩
  have W:(u.nm::u.aI.take i)++[s]=u.nm::u.aI.take (i+1):=by rw [hP,B];simp
  rw [v,show ((if au=ac then (1:ab) else 0)+1)=1 from rfl,(Nb v).1,(Nb v).2,W];have aW:(u.nm::u.aI.take (i+1)).Nodup:=by
   rw [<-W,lJ];refine ⟨G,aG,λa aX b X e=>?_⟩;rw [fq] at X;subst X;subst e;have j:(u.nm::u.aI.take i).contains a=ac:=by simpa using aX
   rw [v] at j;cases j
  refine Ck<|Eb<|Et<|Cr<|V0 (Yi O O O aj)<|ad O<|Ln ?_;exact cU (i+1) aj ⟨aj,aW,zb B J aU⟩ aR
 have aY:i=u.aI.length:=by simp at K;omega
 rw [aY,gJ] at G J;refine Ce<|Ex<|Ex<|dy<|Et<|Cs<|ai<|V0 (Yf Ad O)<|V0 (Yd 1 O O O ah)<|Lp Y O bf O (λw d=>rG _ w)<|V0 (hV O)<|ad O ?_;apply Lo 4 O O O O Y O O O O O;·intro bk;refine Vg (Yf ye O)<|Vg (Yd 1 O O O ah)<|Vg (Yn e4 O)<|Vg (ek O O) ?_;exact Gt 4 O O O
 refine ad O ?_;apply Lo 3 O O O O Y O O O O O;·intro bn;refine Vg (Yf t' O)<|Vg (Yd 1 O O O ah)<|Vg (cP O O) ?_;exact Gt 3 O O O
 refine ad O ?_;apply Lo 3 O O O O Y O O O O O;·intro bo;refine Vg (Yf t' O)<|Vg (Yd 1 O O O ah)<|Vg (ek O O) ?_;exact Gt 3 O O O
 refine ad O ?_;apply Lo 4 O O O O Y O O O O O;·intro bp;refine Vg (Yf yd O)<|Vg (Yd 1 O O O ah)<|Vg (Yn mJ O)<|Vg (ek O O) ?_;exact Gt 4 O O O
 refine ag ?_;refine Cc O (λN=>?_)<|λN=>?_;·refine ai<|ar O<|ag<|bq<|Er ?_;refine R1 O O λt d=>?_;exact ⟨by rw [j1,show pM u=ac from N];simp,d.fr⟩
 have ae:pM u=au:=N;obtain ⟨br,bs,bt,bu⟩:=Sd ae;refine bO<|Cs ?_;obtain ⟨ys,af,al⟩:=ack aF;have ao:ys.length=us.length:=by rw [<-af,fK]
 have aZ:∀q,([((ey u,q):XK)]++ys).length=(ey u::us).length:=λq=>by simp [ao]
 refine Cr<|V0 (dv 1 O O l9 O) ?_;refine Ld Y O bf O (λq:az a0×Z=>bU ((ey u).cells q).toArray) (λa1 q=>Sl hn 1 a1 q.1 q.2 (ey u).parts) (λw d=>Se H ke k u r w d.V m aj) ?_;intro ap C bv a2;refine Lb Y O Cv O O O O λbw=>?_;refine dK 0 (aM (([(ey u,C)]:I XK).flatMap XK.cells).toArray 276 (0,0)) O O<|LW (λ_ h=>h.qZ (f:=XK.cells) (xs:=[(ey u,C)]) (c:=1) 0 O XK.dA O a')<|ad O ?_;refine WL.vF (f:=XK.cells) (rd:=Sc) (xs:=[((ey u,C):XK)]) (ys:=ys) 0 (λ_=>l) Y O Cv O (by show aa (aT.slice ua us.length F)=_;rw [<-ao]) O (λw d=>⟨d.vs l aG,al⟩) (λ_ _ _ _ h=>h.1) XK.dA XK.one (by simp;omega) (by simp;omega) λo p=>?_;refine V0 (Yb acq acp O O) ?_;refine WL.box Y O O λP=>?_;refine dK 0 (aM #[aC o (ey u::us).length p,an am 0] 350 (0,0)) O (congrArg (λn=>Obj.cells #[aC o n p,an am 0] 350 (0,0))<|aZ C)<|ar O<|ag<|Cs<|Cs ?_;refine WC.cK (rd:=Ct) 1 O XK.dA fp λav a3=>?_;have aw:∀w,Le av w->Le ap w->Le l w->Sl qu 3 (hv w) o p (ey u::us):=λw a4 a5 a6=>by
  have j:=Kg a3 (n5 a4) λe y=>by
   rcases bm.1 y with y | y;·rw [fq] at y;subst y;exact rW.mv (n5 a5) a2
   ·obtain ⟨q,a8⟩:=ls y;obtain ⟨_,_,_,_,h⟩:=al.b7 q e a8;exact rW.mv (n5 a6) h
  rw [nY,af] at j;exact j
 refine Cr<|V0 (Yf yd O)<|V0 (Yd 2 O O O ah)<|V0 (Yn mJ O)<|ad O<|ag<|Cb ?_;refine dZ (ι:=Z×ab) (λg=>[(72,an am (g.1:ab))]) [(2,_),(8,_),(70,_),(71,_)] (λg=>Ws w [] [aJ P<|aM #[aC o (ey u::us).length p,an am g.2] 350 (0,0),aJ U<|aM (hX u r).toArray 37 (0,0)] [av,ap,H,l]) (λg=>g.1<=u.parts.length/\(u.parts.take g.1).all (mM<|ey u::us)=ac) (λg=>u.parts.length-g.1) (0,0) ⟨de _,O⟩ (λ_ h=>(Wt 2<|(h.f 2 O).f 1 O:)) ?_;intro g ⟨bx,Q⟩;refine ai<|V0 (cP O O)<|ag<|Cs ?_;refine Cc O (λR=>?_)<|λR=>?_
 ·have z:g.1<u.parts.length:=by simpa using R
  obtain ⟨x,D⟩:=dO z;obtain ⟨bz,bB,a9,a_⟩:=m.parts.b7 g.1 x D;obtain ⟨S,ba,bb⟩:=a_;refine bO<|Cs<|Cb<|ai<|V0 (Yo mJ O O a9 z)<|V0 (dG 2 Cu O O O<|ba) ?_;refine Al Y O Ac λbC=>?_;refine aq 0 Y O O O FM O O O<|ag<|Cs<|Cs<|gL 0 (aM (xo x S).toArray 107 (0,0)) O O<|Cr<|V0 (Yf Ae O)<|V0 (Yd 0 O O O ah)<|V0 (cP O O)<|ad O ?_;apply Lo 3 O O O O Y O O O O O;·intro bD;refine Vg (Yf Ae O)<|Vg (Yd 0 O O O ah)<|Vg (ek O O) ?_;exact Gt 3 O O O
  refine ad O ?_;apply Lo 3 O O O O Y O O O O O;·intro bF;refine Vg (Yf sw O)<|Vg (Yd 0 O O O ah)<|Vg (cP O O) ?_;exact Gt 3 O O O
  refine ad O ?_;apply Lo 3 O O O O Y O O O O O;·intro bG;refine Vg (Yf sw O)<|Vg (Yd 0 O O O ah)<|Vg (ek O O) ?_;exact Gt 3 O O O
  refine ag ?_;refine Cc O (λE=>?_)<|λE=>?_;·have A:mM (ey u::us) x=au:=acl E;refine ai<|ar O<|ag<|bq<|Er<|cZ<|Er<|Er<|cZ<|Er ?_;refine R1 O O λt d=>?_;exact ⟨by rw [j1,za D A];simp,d.fr⟩
  have aA:=acm (kn:=ey u::us) E;have bH:0<=x.params/\x.params<=3/\0<=x.locals/\x.locals<=4:=by simp only [lN,ny] at E;omega
  refine bO<|ai<|ad O<|V0 (Yf Ae O)<|V0 (Yd 0 O O O ah)<|V0 (Yf sw O)<|V0 (Yd 0 O O O ah)<|V0 (oQ O O aj)<|V0 (bP O) ?_;refine V0 (Yf Kf O)<|aq 1 Y O O O ei O O O<|ag<|Cs<|gL 1 (aM #[aC o (ey u::us).length p,an am (x.params+x.locals)] 350 (0,0)) O O<|Cr<|ad O<|V0 (Yf Kd O)<|V0 (Yd 0 O O O ah) ?_;refine Lp Y O bf O (λw d=>Sb (hv w) (hv w) P o p (ey u::us) (x.params+x.locals) H ke k x.body S.1 S.2 1 w (b9 w) (b9 w) (gx (d.pJ 1 O) O) (gx (d.pJ 1 O) O) (aw w d.V d.V d.V) d.V bb aj)<|V0 (hV O)<|ag ?_;refine Cc O (λT=>?_)<|λT=>?_
  ·have A:mM (ey u::us) x=au:=by rw [aA];simpa using T
   refine ai<|ar O<|ag<|bq<|cZ<|Er<|Er<|cZ<|Er ?_;refine R1 O O λt d=>?_;exact ⟨by rw [j1,za D A];simp,d.fr⟩
  have A:mM (ey u::us) x=ac:=by rw [aA];simpa using T
  refine Ck<|Eb<|Et<|Cr<|V0 (Yi O O O aj)<|ad O<|Ln ?_;exact cU ((g.1+1,x.params+x.locals):Z×ab) (by show _-(g.1+1)<_;omega) ⟨by show g.1+1<=_;omega,zb D Q A⟩<|λ_ h=>Wd 1 h
 have bI:¬g.1<u.parts.length:=by simpa using R
 rw [i' aj] at Q;refine Ce<|Ex<|Ex<|dy<|Et<|ai<|ad O<|V0 (bP O)<|V0 (Yf Kf O)<|aq 0 Y O O O ei O O O<|ag<|Cs<|gL 0 (aM #[aC o (ey u::us).length p,an am 0] 350 (0,0)) O O ?_;refine Cr<|ad O<|V0 (Yf FE O)<|V0 (Yd 1 O O O ah)<|Lp Y O bf O (λw d=>Sb (hv w) (hv w) P o p (ey u::us) 0 H ke k u.main r.s3.1 r.s3.2 1 w (b9 w) (b9 w) (gx (d.pJ 0 O) O) (gx (d.pJ 0 O) O) (aw w d.V d.V d.V) d.V m.main aj)<|ar O<|ag<|bq ?_;refine R1 O O λt d=>?_;exact ⟨by rw [j1,Nc G J,ae,Q];rfl,d.fr⟩
def acr {α:Type} {l:I α}  {x:α} {p:α->Prop} (b:l[ae]? = aa x) (h:∀y ∈ l.take ae,p y) (c:p x):∀y ∈ l.take (ae+1),p y:=by
 intro y a;rw [jl b] at a;rcases bm.1 a with a | a;·exact h y a
 ·rw [fq] at a;subst a;exact c
def acs (ke k:Z) (H:View) (b o:Z) (u:cD):Prop:=∃r:o5,ct H b o (hX u r)/\og ke k H r u
variable {ck:I cD}
def Sg (h:ck[ae]? = aa dS):(bh ck)[ae]? = aa dS.nm:=by unfold bh;rw [gh,h];rfl
def Cw (l:I cD):(bh l).length=l.length:=by simp [bh]
variable {bw:Tx}
def act (a:ck[ae]? = aa dS) (c:bw ∈ dS.aI) (h:bw ∉ (bh ck).take ae):h' ck=au:=by cases d:h' ck with| false=>rfl| true=>have b:=gw.1 d ae<|wT.2 (c_.1 a).1;rw [a] at b;have e:=gw.1 b bw c;exact absurd (by simpa using e) h
def acu (h:∀(n:Z) u,ck[n]? = aa u->∀s ∈ u.aI,s ∈ (bh ck).take n):h' ck=ac:=by refine gw.2 λn b=>?_;have a:=wT.1 b;rw [dh a];refine gw.2 λs c=>?_;simpa using h n _ (dh a) s c
def Rr (a:ab) (h:ck[ae]? = aa dS):cQ (ck.drop ae) a=(!(decide (dS.data<0)||decide (a<dS.data))&&cQ (ck.drop<|ae+1) (a-dS.data)):=by obtain ⟨b,c⟩:=c_.1 h;rw [nZ b,c];rfl
def Cx (l:I cD) (s:Tx):e8:=match idxOf s (bh l) 0 with| aa i=>(l[i]?.map ey).getD ol| ak=>ol
def Si (l:I cD) (u:cD):gB l u=u.aI.map (Cx l):=rfl
def acv (g:(bh ck).Nodup)   (d:bw ∈ (bh ck).take ae):∃p h,idxOf bw (bh ck) 0=aa p/\p<ae/\ck[p]? = aa h:=by
 cases f:idxOf bw (bh ck) 0 with
 | none=>exact absurd (pR d)<|tq.1 f
 | some p=>
  obtain ⟨j,a⟩:=ls d;rw [b8] at a;split at a;·rename_i i;have b:=(sd f).2;rw [p_] at b;have c:=(c_.1 b).1;have e:p=j:=(s9 c g).1<|b.trans a.symm;rw [Cw] at c;exact ⟨p,_,O,aj,dh c⟩
  ·cases a
def acw (a:idxOf bw (bh ck) 0=aa ae) (b:ck[ae]? = aa dS):Cx ck bw=ey dS:=by unfold Cx;rw [a];show (az.map ey ck[ae]?).getD ol=ey dS;rw [b];rfl
def Sj (h:j1 dS dM=ac):pM dS=au:=by unfold j1 at h;cases a:pM dS with| false=>rfl| true=>rw [a] at h;simp at h
def Sk {M:I<|fe Tx}  (h:kt (bh ck) ck.length M ae):(M.length<ck.length->gV (bh ck)=ac)/\(¬M.length<ck.length->(bh ck).Nodup/\M=i3 (bh ck) 0):=by
 have d:=h.A1;rw [<-Cw ck,gJ] at d;rcases d with ⟨b,a,_⟩ | ⟨b,a⟩;·refine ⟨λc=>?_,λ_=>⟨b,a⟩⟩;rw [a,HA,Cw] at c;omega
 ·rw [Cw] at a;exact ⟨λ_=>by rw [ku] at b;simpa using b,λc=>absurd a c⟩
def nU:g1 aB 71=aa 5:=ah
def acx (H:View) (ke k:Z) (a:az a0) (c:Z) (l:I cD) (w:aL) (bc:Le H w) (C:Sl (acs ke k) 5 H a c l) (bd:∀u ∈ l,u.aI.length<=1048576) :
   cr aB 94 #[aC a l.length c] w λe x=>e = ax (an am<|lW l)/\Ext w x:=by
 have cc:=C.cap;have cd:=C.max;refine enter func94 O 110 O O ?_;refine CE (Vs:=[H]) (Ws.init (by simp [bc]))<|ai<|ar O<|ag<|Cs<|ai<|ad O<|V0 (Yn nU O)<|V0 (cP O O)<|ad O ?_;apply Lo 3 O O O O Y O O O O O;·intro ce;refine Vg (Ym O)<|Vg (Yn nU O)<|Vg (ek O O) ?_;exact Gt 3 O O O
 refine ag ?_;refine Cc O (λM=>?_)<|λM=>?_;·refine ai<|ar O<|ag<|bq<|Er ?_;refine R1 O O λx d=>?_;exact ⟨by rw [lW,aU M],d.fr⟩
 have D:¬(decide ((l.length:ab)<1)||decide (4<(l.length:ab)))=ac:=by rw [M];decide
 have cf:l.length<=4:=by simp at M;omega
 refine bO<|ai ?_;refine WL.oX st Y O λX=>?_;refine ar O<|ag<|Cs<|ai<|ad O<|V0 (Yn nU O)<|ad O<|ag<|Cb ?_;refine dZ (ι:=Z×I (fe Tx)×Z) (λb=>[(27,an am (b.1:ab))]) [(0,_),(3,_),(25,_),(26,_)] (λb=>Ws w [] [aJ X<|dH st b.2.1 b.2.2] [H]) (λb=>b.1<=l.length/\kt (bh l) b.1 b.2.1 b.2.2/\∀(n:Z) v,n<b.1->l[n]? = aa v->∀s ∈ v.aI,s ∈ (bh l).take n) (λb=>l.length-b.1) (0,[],0) ⟨de _,Vc _,λn v h=>absurd h<|C_ _⟩ aR ?_;intro b ⟨cg,z,N⟩;refine ai<|V0 (cP O O)<|ag<|Cs ?_;refine Cc O (λae=>?_)<|λae=>?_
 ·have m:b.1<l.length:=by simpa using ae
  obtain ⟨u,o⟩:=dO m;obtain ⟨a6,a8,E,F⟩:=C.b7 b.1 u o;obtain ⟨A,G,t⟩:=F;have be:=t.aI.cap;have bi:=t.aI.max;have a9:=Sg o;refine bO<|Cs<|Cb<|ai<|ad O<|V0 (Yo nU O O E m)<|V0 (dG 0 l9 O O O<|G) ?_;refine Al Y O ft λch=>?_;refine ar O<|aq 0 Y O O O rT O O O<|ag<|Cs<|Cs<|gL 0 (aM (hX u A).toArray 37 (0,0)) O O<|Cr<|V0 (Yf ye O)<|V0 (Yd 0 O O O ah)<|V0 (Yn e4 O) ?_;refine ad O<|ag<|Cb ?_;refine dg (ι:=Z) (λj=>[(35,an am (j:ab))]) [(0,_),(3,_),(4,_),(5,_),(25,_),(26,_),(27,_),(33,_),(34,_)] (λj=>j<=u.aI.length/\∀s ∈ u.aI.take j,s ∈ (bh l).take b.1) (λj=>u.aI.length-j) 0 ⟨de _,aG⟩ ?_;intro j ⟨cj,P⟩;refine ai<|V0 (cP O O)<|ag<|Cs ?_;refine Cc O (λaf=>?_)<|λaf=>?_
  ·have m:j<u.aI.length:=by simpa using af
   obtain ⟨s,al⟩:=dO m;obtain ⟨bj,pos,bk,ap⟩:=t.aI.b7 j s al;have ap:ct H bj (pos+j*1)<|fV s:=ap;obtain ⟨v,hv,K⟩:=z.mem s;refine bO<|Cs<|Cb<|ai<|V0 (Yo e4 O O bk m)<|V0 (dQ 0 ah O O<|ap 0 _ O)<|ar O<|ag<|ai<|ad O<|ad O<|V0 (qk 1 i2 i0 ah cw O O O) ?_;rw [hv];refine V0 (bN O O)<|ag ?_;refine Cc O (λav=>?_)<|λav=>?_;·have aw:s ∉ (bh l).take b.1:=K.1 (by simpa using av);refine ai<|ar O<|ag<|bq<|cZ<|Er<|Er<|cZ<|Er<|cZ<|Er<|Er<|cZ<|Er ?_;refine R1 O O λx d=>?_;exact ⟨by rw [lW,ao D,aU<|act o (dJ al) aw],d.fr⟩
   have aA:s ∈ (bh l).take b.1:=by
    have aD:¬v=0:=by simpa using av
    exact Gv λh=>aD<|K.2 h
   refine Ck<|Eb<|Et<|Cr<|V0 (Yi O O O aj)<|ad O<|Ln ?_;exact cU (j+1) aj ⟨aj,acr al P aA⟩ aR
  have bm:j=u.aI.length:=by simp at af;omega
  rw [bm,gJ] at P;obtain ⟨v,hv,K⟩:=z.mem u.nm;refine Ce<|Ex<|Ex<|dy<|Et<|ai<|ad O<|V0 (Yf Ad O)<|V0 (Yd 0 O O O ah)<|V0 (qk 1 i2 i0 ah cw O O O) ?_;rw [hv];refine V0 (bN O O)<|ag ?_;refine Cc O (λaE=>?_)<|λaE=>?_
  ·have aw:u.nm ∉ (bh l).take b.1:=K.1 (by simpa using aE);have aF:=z.new a9 aw;refine Cr<|ad O<|V0 (Yf Ad O)<|V0 (Yd 0 O O O ah)<|ad O<|V0 (Yi O O O aj) ?_;refine WL.ql 1 i2 Y i0 ah O O O O ?_;refine Ln<|Eb<|Et<|Cr<|V0 (Yi O O O aj)<|ad O<|Ln ?_;exact cU ((b.1+1,bB u.nm (an am ((b.1+1:Z):ab)) b.2.1 b.2.2,jG u.nm b.2.1 b.2.2):Z×I (fe Tx)×Z) (by show _-(b.1+1)<_;omega) ⟨by show b.1+1<=_;omega,aF,λn v aH hv s B=>by
    rcases dd.1 aH with h | h;·exact N n v h hv s B
    ·subst h;rw [o] at hv;injection hv with hv;subst hv;exact P s B⟩<|λ_ h=>Wd 1 h
  have aA:u.nm ∈ (bh l).take b.1:=by
   have aD:¬v=0:=by simpa using aE
   exact Gv λh=>aD<|K.2 h
  have aF:=z.old a9 aA;refine Ck<|Eb<|Et<|Cr<|V0 (Yi O O O aj)<|ad O<|Ln ?_;exact cU ((b.1+1,b.2):Z×I (fe Tx)×Z) (by show _-(b.1+1)<_;omega) ⟨by show b.1+1<=_;omega,aF,λn v aH hv s B=>by
   rcases dd.1 aH with h | h;·exact N n v h hv s B
   ·subst h;rw [o] at hv;injection hv with hv;subst hv;exact P s B⟩<|λ_ h=>Wd 1 h
 have bn:b.1=l.length:=by simp at ae;omega
 rw [bn] at z;have Q:h' l=ac:=acu λn v hv s B=>N n v (by have:=(c_.1 hv).1;omega) hv s B;refine Ce<|Ex<|Ex<|dy<|Et<|Cs<|ai<|ad O<|V0 (Dz 0 i0 O O)<|ad O<|V0 (Yn nU O)<|V0 (cP O O)<|ag ?_;refine Cc O (λaK=>?_)<|λaK=>?_;·have L:=(Sk z).1 (by simp at aK;omega);refine ai<|ar O<|ag<|bq<|Er ?_;refine R1 O O λx d=>?_;exact ⟨by rw [lW,ao D,ao (by rw [Q];decide),aU L],d.fr⟩
 obtain ⟨a',bo⟩:=(Sk z).2 (by simp at aK;omega);have L:=ku.1 a';refine bO<|ai<|ar O<|ag<|Cs<|ai<|ad O<|V0 (Yn nU O)<|ad O<|ag<|Cb ?_;refine dg (ι:=Z×ab) (λg=>[(62,an am (g.1:ab)),(8,an am g.2)]) [(0,_),(3,_),(60,_),(61,_)] (λg=>g.1<=l.length/\(0<=g.2/\g.2<=512)/\cQ (l.drop g.1) g.2=cQ l 512) (λg=>l.length-g.1) (0,512) ⟨de _,aj,O⟩ ?_;intro g ⟨ck,cl,aP⟩;refine ai<|V0 (cP O O)<|ag<|Cs ?_;refine Cc O (λaS=>?_)<|λaS=>?_
 ·have m:g.1<l.length:=by simpa using aS
  obtain ⟨u,o⟩:=dO m;obtain ⟨a6,a8,E,F⟩:=C.b7 g.1 u o;obtain ⟨A,G,t⟩:=F;refine bO<|Cs<|Cb<|ai<|V0 (Yo nU O O E m)<|V0 (dG 0 l9 O O O<|G) ?_;refine Al Y O ft λcm=>?_;refine aq 0 Y O O O rT O O O<|ag<|Cs<|Cs<|gL 0 (aM (hX u A).toArray 37 (0,0)) O O<|Cr<|V0 (Yf t' O)<|V0 (Yd 0 O O O ah)<|V0 (cP O O)<|ad O ?_;apply Lo 4 O O O O Y O O O O O;·intro cn;refine Vg (Yf t' O)<|Vg (Yd 0 O O O ah)<|Vg (Ym O)<|Vg (ek O O) ?_;exact Gt 4 O O O
  refine ag ?_;refine Cc O (λS=>?_)<|λS=>?_
  ·have T:cQ l 512=au:=by rw [<-aP,Rr _ o,show (decide (u.data<0)||decide (g.2<u.data))=ac from S];rfl
   refine ai<|ar O<|ag<|bq<|Er<|cZ<|Er<|Er<|cZ<|Er ?_;refine R1 O O λx d=>?_;exact ⟨by rw [lW,ao D,ao (by rw [Q];decide),ao (by rw [L];decide),aU T],d.fr⟩
  have bp:cQ (l.drop<|g.1+1) (g.2-u.data)=cQ l 512:=by rw [<-aP,Rr _ o,show (decide (u.data<0)||decide (g.2<u.data))=au from S];rfl
  have co:0<=u.data/\u.data<=g.2:=by simp only [lN,ny] at S;omega
  refine bO<|Cr<|ad O<|V0 (Yf t' O)<|V0 (Yd 0 O O O ah)<|V0 (yF O O aj)<|ar O<|Ln<|Eb<|Et<|Cr<|V0 (Yi O O O aj) ?_;refine ad O<|Ln ?_;exact cU ((g.1+1,g.2-u.data):Z×ab) (by show _-(g.1+1)<_;omega) ⟨by show g.1+1<=_;omega,by show 0<=g.2-u.data/\g.2-u.data<=512;omega,bp⟩<|λ_ h=>Wd 1 h
 have br:g.1=l.length:=by simp at aS;omega
 have T:cQ l 512=ac:=by rw [<-aP,br,wW];rfl
 refine Ce<|Ex<|Ex<|dy<|Et<|Cs<|ai<|ad O<|V0 (Yn nU O)<|ad O<|ag<|Cb ?_;refine dZ (ι:=Z) (λi=>[(82,an am (i:ab))]) [(0,_),(3,_),(80,_),(81,_)] (λi=>Ws w [] [aJ X<|dH st b.2.1 b.2.2] [H]) (λi=>i<=l.length/\(l.take i).all (λu=>j1 u<|gB l u)=ac) (λi=>l.length-i) 0 ⟨de _,O⟩ aR ?_;intro i ⟨cp,U⟩;refine ai<|V0 (cP O O)<|ag<|Cs ?_;refine Cc O (λaW=>?_)<|λaW=>?_
 ·have m:i<l.length:=by simpa using aW
  obtain ⟨u,o⟩:=dO m;obtain ⟨a6,a8,E,F⟩:=C.b7 i u o;obtain ⟨A,G,t⟩:=F;have be:=t.aI.cap;have bi:=t.aI.max;have bs:=bd u<|dJ o;have cq:i<l.length:=m;refine bO<|Cs<|Cb<|ai<|V0 (Yo nU O O E m)<|V0 (dG 0 l9 O O O<|G) ?_;refine Al Y O ft λbt=>?_;refine aq 0 Y O O O rT O O O<|ag<|Cs<|gL 0 (aM (hX u A).toArray 37 (0,0)) O O<|Cr<|ar O<|LW (λ_ h=>h.bJ 276 3) ?_;refine WL.v0 ?_;refine ag<|Cs<|ai<|V0 (Yf ye O)<|V0 (Yd 1 O O O ah)<|V0 (Yn e4 O)<|ad O<|ag<|Cb ?_;refine dZ (ι:=GX XK) (λg=>[(89,an am (g.i:ab)),(13,aC g.a g.es.length g.c)]) [(0,_),(3,_),(12,_),(80,_),(81,_),(82,_),(87,_),(88,_)] (λg=>Ws w [] [cO 276 3 XK.cells g.a g.c g.es,aJ bt<|aM (hX u A).toArray 37 (0,0),aJ X<|dH st b.2.1 b.2.2] [g.J,H]) (λg=>g.i<=u.aI.length/\g.es.map (·.1)=(u.aI.take g.i).map (Cx l)/\(g8 w g.J/\Xs rW g.J g.es)) (λg=>u.aI.length-g.i) ⟨0,[],ak,0,v0⟩ ⟨de _,O,⟨ec w,Xs.nil _⟩⟩ (λ_ h=>by have h:=Ws.dr h (cB:=[v0,H]) aG;exact h) ?_;intro g ⟨hi,aX,⟨bu,a_⟩⟩;refine ai<|V0 (cP O O)<|ag<|Cs ?_;refine Cc O (λaY=>?_)<|λaY=>?_
  ·have m:g.i<u.aI.length:=by simpa using aY
   obtain ⟨y,aZ⟩:=dO m;obtain ⟨bv,bw,bx,a1⟩:=t.aI.b7 g.i y aZ;have a1:ct H bv (bw+g.i*1)<|fV y:=a1;have cs:=Cn aX hi;obtain ⟨p,r,ba,bz,W⟩:=acv a'<|N i u aj o y<|dJ aZ;obtain ⟨cu,cv,bC,bD,bF,bG⟩:=C.b7 p r W;have bH:=(c_.1 W).1;have bI:j1 r (gB l r)=ac:=gw.1 U r<|dJ (by rw [b8,aU bz];exact W);have bK:(Cx l y)=ey r:=acw ba W;refine bO<|Cs<|Cb<|ai<|V0 (Yo e4 O O bx m)<|V0 (dQ 1 ah O O<|a1 0 _ O)<|ar O<|ag<|Cr<|ad O<|ad O<|ad O ?_;refine ad O<|V0 (qk 2 i2 i0 ah cw O O O) ?_;rw [bo,MX,ba];show WL _ _ _ _ _ ((_,an am ((p+1:Z):ab))::_) _ _;refine V0 (yF O O aj) ?_;rw [show ((p+1:Z):ab)-1=(p:ab) by omega];refine V0 (Yo nU O O bC bH)<|V0 (dG 1 l9 O O O<|bF) ?_;refine Ld Y O bf O (λq:az a0×Z=>bU ((ey r).cells q).toArray) (λbL q=>rW bL (ey r,q)) (λw d=>Se H ke k r bD w d.V bG (by have:=(Sd<|Sj bI).1;omega)) ?_;intro cx a2 bM bP;refine WL.jJ λbQ bR bS bT=>?_;refine Lb Y O Cv O O O O λcy=>?_;refine dK 0 (aM (XK.cells (ey r,a2)).toArray 276 (0,0)) O O ?_;refine LA ((ey r,a2):XK) 1 0 Y O Cv O O O O O O aj aj λbW bX=>?_;refine ar O<|Ln<|Eb<|Et<|Cr<|V0 (Yi O O O aj)<|ad O<|Ln ?_;exact cU (⟨g.i+1,g.es++[(ey r,a2)],bW,bX,bQ⟩:GX XK) (by show _-(g.i+1)<_;omega) ⟨by show g.i+1<=_;omega,Cm aX aZ bK.symm,⟨bT _ bM bu,Xs.snoc (R:=rW) (λhv h=>rW.mv hv h) a_ bS bR bP⟩⟩<|λ_ h=>Wd 1 h
  have bY:g.i=u.aI.length:=by simp at aY;omega
  refine Ce<|Ex<|Ex<|dy<|Et<|Cs ?_;refine WC.pH (rd:=Ct) 0 O (λ_ bZ=>by cases bZ) XK.dA fp λb1 cz b2=>?_;have a3:=Co aX bY;rw [<-Si] at a3;have b3:(gB l u).length=g.es.length:=by rw [<-a3,fK]
  have b4:(gB l u).length<=1048576:=by rw [Si,fK];exact bs
  have b5:∀w,Le b1 w->Le g.J w->Sl qu 3 (hv w) g.a g.c (gB l u):=λw b6 b'=>by rw [<-a3];exact Kg b2 (n5 b6) λe ca=>rW.mv (n5 b')<|a_ e ca
  refine Cr<|V0 (dv 0 O O l9 O)<|ad O ?_;refine Lp Y O bf O (λw d=>by have bb:=Sf H (hv w) ke k u A (gB l u) g.a g.c w (d.vs H aG) (b9 w) t (b5 w d.V d.V) b4;rw [b3] at bb;exact bb) ?_;refine V0 (hV O)<|ag ?_;refine Cc O (λa4=>?_)<|λa4=>?_
  ·have a5:j1 u (gB l u)=au:=by simpa using a4
   refine ai<|ar O<|ag<|bq<|cZ<|Er<|Er<|cZ<|Er ?_;refine R1 O O λx d=>?_;exact ⟨by rw [lW,ao D,ao (by rw [Q];decide),ao (by rw [L];decide),ao (by rw [T];decide),ao (by rw [za (f:=λu=>j1 u<|gB l u) o a5];decide)],d.fr⟩
  have a5:j1 u (gB l u)=ac:=by simpa using a4
  refine Ck<|Eb<|Et<|Cr<|V0 (Yi O O O aj)<|ad O<|Ln ?_;exact cU (i+1) aj ⟨aj,zb (f:=λu=>j1 u<|gB l u) o U a5⟩<|λ_ h=>Ws.dr (Wd 1 h)<|λ_ cb=>cG [_,_] cb
 have cA:¬i<l.length:=by simpa using aW
 rw [i' aj] at U;refine Ce<|Ex<|Ex<|dy<|Et<|ai<|ar O<|ag<|bq ?_;refine R1 O O λx d=>?_;exact ⟨by rw [lW,ao D,ao (by rw [Q];decide),ao (by rw [L];decide),ao (by rw [T];decide),aU U],d.fr⟩
def fW (T:b_) (f:FuncId) (vs:I aT) (d:I View) (c e:Z) (h:Gs->Gs) (v:Gs->aT):Prop:=Enters aB f/\∀(a:Z) (b:q_) (t:ou) (w:aL),t.g.code.length+c<=1000000000000->t.g.fix.length+e<=1000000000000->Ws w (c5 bc.ids<|i4 T 62 198 a b t) (i4 T 62 198 a b t) d w-> cr aB f (b0 (aa ⟨a,0,ak⟩)::vs).toArray w λe i=>∃q:SP×SP,e = ax (v t.g)/\Ws w (c5 bc.ids<|i4 T 62 198 a b t) (i4 T 62 198 a b ⟨h t.g,q.1,q.2⟩) d i
def gg {T:TypeId} {f:FuncId} {vs:List Value} {i:List View} {c e:Nat} {j:Gs->Gs} {v:Gs->Value} {ops:Array Oper} {Q:Exit->Act->World->Prop} {n:Nat} {ds:List Deferred} {l:List<|Nat×Value} {o:World} {p:List Nat} {L L2:List bc} {Vs:List View} {rest:List Oper} {d:Nat} {ty:TypeId} {pos:String} {af:Array Edge} {g:Option<|Nat×Bool} {args:Array Operand} {ts:Array TypeId} {b:Nat} {h:q_} {a:Gs} {a1 k:Option Addr} {a2 m:Nat} (hC:fW T f vs i c e j v) (r:∀q:SP×SP,WL prog ops Q n ds ((d,v a)::l) (Ws o p ((i4 T 62 198 b h ⟨j a,q.1,q.2⟩)++L2) Vs) rest) (s:hF l args.toList=some (.pointer (some ⟨b,0,none⟩)::vs):=by rfl) (hL:L=(i4 T 62 198 b h (⟨a,(a1,a2),(k,m)⟩:ou))++L2:=by rfl) (t:a.code.length+c<=1000000000000:=by first|omega|(simp only [ra];omega)|(simp;omega)) (u:a.fix.length+e<=1000000000000:=by first|omega|(simp only [ra];omega)|(simp;omega)) (x:∀X ∈ i,X ∈ Vs:=by simp) (y:eE ops l g:=by first|exact .inl rfl|exact .inr ⟨_,_,_,rfl,rfl,rfl⟩) (z:Nat.blt d n=true:=by rfl):WL prog ops Q n ds l (Ws o p L Vs)<|⟨some d,.call ⟨.value<|.func f,args,ts⟩,ty,pos,af,g⟩::rest:= Lw (ι:=SP×SP) (i4 T 62 198 b h (⟨a,(a1,a2),(k,m)⟩:ou)) L2 y z hC.1 s hL (λ_=>v a) (λq=>i4 T 62 198 b h ⟨j a,q.1,q.2⟩) (λ_=>True) i x (λw A=>(hC.2 b h (⟨a,(a1,a2),(k,m)⟩:ou) w t u A).mono λe D ⟨q,B,C⟩=>⟨q,B,trivial,C⟩)<|λq _=>r q
def oM:cX aB 190 0=aa 0:=ah
def p6:cX aB 77 3=aa 3:=ah
def jQ:hW aB 55 62 (bU #[an am 0,an am 0,an am 0]) 3 24:=jD ah
def BG:eP aB 55=aa 1:=ah
def hr:g1 aB 55=aa 3:=ah
def Cy:cX aB 77 4=aa 4:=ah
def acy:hy aB 198=aa [(0,1),(1,1),(2,1)]:=ah
def FN:zeroOf aB 198=aa (bU #[an am 0,an am 0,an am 0]):=ah
def RL:hW aB 75 198 (bU #[an am 0,an am 0,an am 0]) 3 24:=jD ah
def acz:eP aB 75=aa 1:=ah
def v3:iC aB 62=aa 3:=ah
def iI:hy aB 62=aa [(0,1),(1,1),(2,1)]:=ah
def h1:zeroOf aB 62=aa (bU #[an am 0,an am 0,an am 0]):=ah
def kg:cX aB 62 1=aa 1:=ah
variable {nL:I c'}
def m0 (b:Sl kf 3 bt b' ae nL):fW 190 165 [aC b' nL.length ae] [bt] nL.length 0 (gG nL)<|λ_=>cN #[]:=by refine ⟨bf,λe f t w h i a=>?_⟩;have j:=b.cap;have k:=b.max;refine enter func165 O 15 O O ?_;refine CE a<|Cr<|ad O<|ad O<|V0 (bP O)<|V0 (Yf oM O)<|V0 (Yf p6 O)<|V0 (Yd 0 O O O ah) ?_;refine ad O ?_;refine WL.vF (xs:=t.g.code) (ys:=nL) 1 (λ_=>bt) Y O jQ O O O (λw a=>⟨a.vs bt aG,b⟩) fp c'.dA c'.one aj aj λc d=>?_;refine V0 (bP O)<|V0 (Yf oM O)<|V0 (Yf p6 O)<|aq 0 Y O O O BG O O O<|Ln ?_;refine E0 O λl a=>?_;exact ⟨((c,d),t.fa),O,a⟩
def Af   (i:c') (kind m:ab)  : fW 190 281 [bU i.cells.toArray,an am kind,an am m] [] 1 1 (fy i kind m)<|λs=>an am (s.code.length:ab):=by refine ⟨bf,λc a t w o p b=>?_⟩;refine enter func281 O 36 O O ?_;refine CE b<|ai ?_;refine WL.box Y O O λj=>?_;refine ar O<|ag<|ai<|ad O<|V0 (bP O)<|V0 (Yf oM O)<|V0 (Yf p6 O)<|V0 (Yd 1 O O O ah)<|V0 (Yn hr O) ?_;refine ar O<|ag<|ai<|ad O<|ad O<|V0 (bP O)<|V0 (Yf oM O)<|V0 (Yf Cy O)<|V0 (Yd 1 O O O ah) ?_;refine ad O<|ad O<|ad O<|V0 (Yb FN acy O O) ?_;refine Lb Y O RL O O O O λq=>?_;refine dK 0 (aM (hT.cells ⟨(t.g.code.length:ab),kind,m⟩).toArray 198 (0,0)) O O ?_;refine LA (⟨(t.g.code.length:ab),kind,m⟩:hT) 4 0 Y O RL O O O O O O aj aj λd e=>?_;refine V0 (bP O)<|V0 (Yf oM O)<|V0 (Yf Cy O)<|aq 2 Y O O O acz O O O<|ag<|Cs<|gL 2 (tx 190 a (⟨⟨t.g.code,t.g.fix++[(⟨(t.g.code.length:ab),kind,m⟩:hT)]⟩,t.ca,(d,e)⟩:ou)) O O ?_;refine oO (W':=Ws w (c5 bc.ids<|i4 190 62 198 c a t) ((i4 190 62 198 c a (⟨⟨t.g.code,t.g.fix++[(⟨(t.g.code.length:ab),kind,m⟩:hT)]⟩,t.ca,(d,e)⟩:ou))++[aJ j<|aM i.cells.toArray 62 (0,0)]) []) (λ_ h=>by exact (Wt 4<|(((h.f 1 O).f 4 O).f 4 O).f 4 O:)) ?_;refine Cr<|ad O<|V0 (dv 3 O O v3 O) ?_;refine Lb Y O jQ O O O O λr=>?_;refine WL.mh (rd:=kf) (f:=c'.cells) (k:=3) (m:=1) 0 [i] O O c'.dA fp aG a' λu l=>?_;refine gg (m0 l) λn=>?_;refine ag<|ai<|ad O<|ar O<|ag<|bq ?_;refine R1 O O λv b=>?_;exact ⟨n,O,Wv 1<|Wt 3 b⟩
def acA (a:Z) (b:q_) (t:ou) (op:ab) (w:aL) (k:t.g.code.length+1<=1000000000000) (l:t.g.fix.length+1<=1000000000000) (c:Ws w (c5 bc.ids<|i4 190 62 198 a b t) (i4 190 62 198 a b t) [] w) : cr aB 284 #[b0 (aa ⟨a,0,ak⟩),an am op] w λe d=>∃q:(SP×SP)×Z×Z,e = ax (.func (.func 333) #[] #[b0 (aa ⟨q.2.1,0,ak⟩),b0 (aa ⟨q.2.2,0,ak⟩)])/\Ws w (c5 bc.ids<|i4 190 62 198 a b t) ((i4 190 62 198 a b ⟨fy ⟨op,0,0⟩ 1 0 t.g,q.1.1,q.1.2⟩)++[aJ q.2.1<|aM #[b0 (aa ⟨a,0,ak⟩)] 188 (0,0),aJ q.2.2<|aM #[an am (t.g.code.length:ab)] 3 (0,0)]) [] d:=by refine enter func284 O 11 O O ?_;refine CE c<|ai ?_;refine WL.box Y O O λf=>?_;refine ar O<|ag<|ai<|V0 (Yd 0 O O O ah)<|ad O<|V0 (Yb h1 iI O O)<|Lf 3 O<|Lf 3 O<|Lf 3 O ?_;refine gg (Af ⟨op,0,0⟩ 1 0) λi=>?_;refine Al Y O cw λj=>?_;refine aq 0 Y O O O ei O O O<|ag<|ai<|V0 (vC O)<|ar O<|ag<|bq ?_;refine R1 O O λd c=>?_;exact ⟨(i,f,j),O,by have h:=c;have h:=h.av 4 O;have h:=h.av 4 O;have h:=h.av 4 O;have h:=h.av 4 O;exact h⟩
def acB (a:Z) (c:q_) (t:ou) (p f n:Z) (x:c') (w:aL) (i:t.g.code[n]? = aa x) (j:Ws w (c5 bc.ids<|(i4 190 62 198 a c t)++[aJ p<|aM #[b0 (aa ⟨a,0,ak⟩)] 188 (0,0),aJ f<|aM #[an am (n:ab)] 3 (0,0)]) ((i4 190 62 198 a c t)++[aJ p<|aM #[b0 (aa ⟨a,0,ak⟩)] 188 (0,0),aJ f<|aM #[an am (n:ab)] 3 (0,0)]) [] w) :
   cr aB 333 #[b0 (aa ⟨p,0,ak⟩),b0 (aa ⟨f,0,ak⟩)] w λe k=>e = ax (cN #[])/\Ws w (c5 bc.ids<|(i4 190 62 198 a c t)++[aJ p<|aM #[b0 (aa ⟨a,0,ak⟩)] 188 (0,0),aJ f<|aM #[an am (n:ab)] 3 (0,0)]) ((i4 190 62 198 a c ⟨jh n t.g,t.ca,t.fa⟩)++[aJ p<|aM #[b0 (aa ⟨a,0,ak⟩)] 188 (0,0),aJ f<|aM #[an am (n:ab)] 3 (0,0)]) [] k:=by have m:=(c_.1 i).1;refine enter func333 O 16 O O ?_;refine CE j ?_;refine WC.r9 1 O aj λo l q r=>?_;refine WC.m6 1 [(0,ac),(1,ac),(2,ac),(3,ac),(4,ac),(5,ac),(6,ac),(7,ac),(8,ac),(9,ac),(10,ac),(11,ac),(12,ac),(13,ac),(14,au)] mixed ah (λ_ _ _ d _ h=>by cases d<;>exact h) ?_;refine D0 O (Wp 1) (Yd 2 O O O ah)<|D0 O (Wp 1) (bP O)<|D0 O (Wp 1) (Yf oM O)<|D0 O (Wp 1) (Yf p6 O)<|D0 O (Wp 1) (Yd 0 O O O ah)<|D0 O (Wp 1) (Yd 3 O O O ah)<|D0 O (Wp 1) (Yd 2 O O O ah)<|D0 O (Wp 1) (bP O) ?_;refine D0 O (Wp 1) (Yf oM O)<|D0 O (Wp 1) (Yf p6 O)<|D0 O (Wp 1) (Yd 0 O O O ah)<|D0 O (Wp 1) (Yn hr O)<|D0 O (Wp 1) (Yo hr O O l m)<|D0 O (Wp 1) (Yf kg O) ?_;refine De O (Wp 1) ?_;refine WL.storeT (y:=x) 1 n 1 (⟨x.op,(t.g.code.length:ab),x.b⟩:c') Y O O O l O c'.dA i ei O O a' O ?_;refine Ln<|Ed ?_;refine WD.nil (Wp 1) ?_;refine E0 O λk j=>?_;rw [Vn i];exact ⟨O,j.oW 0 O (show aJ a (tx 190 c t)=aJ a (tx 190 c ⟨{ t.g with code:=t.g.code.set n ⟨x.op,(t.g.code.length:ab),x.b⟩ },t.ca,t.fa⟩) by simp [tx])⟩
variable {aP:ab} {lO:bE ay} {mc:aO->aN->aL->Prop} {n0:I e'} {eb:I<|Z×aT} {cb:aL} {cJ:I Z} {di oD:I bc} {en:I View} {b6:I ay} {aH aK hQ lP:Z} {bs:b_} {gk:bg} {gU:bE fw} {gE:az<|Z×aQ} {f':bE dF} {iD:bE b_} {o9:q_} {iM:Gs} {hK:az a0}
def yf (a:∀q:(SP×SP)×Z×Z,WL aB lO mc ae n0 ((aH,.func (.func 333) #[] #[b0 (aa ⟨q.2.1,0,ak⟩),b0 (aa ⟨q.2.2,0,ak⟩)])::eb) (Ws cb cJ (((i4 190 62 198 aK o9 ⟨fy ⟨aP,0,0⟩ 1 0 iM,q.1.1,q.1.2⟩)++[aJ q.2.1<|aM #[b0 (aa ⟨aK,0,ak⟩)] 188 (0,0),aJ q.2.2<|aM #[an am (iM.code.length:ab)] 3 (0,0)])++oD) en) b6) (b:hF eb f'.toList=aa [b0<|aa ⟨aK,0,ak⟩,an am aP]:=by rfl) (hL:di=(i4 190 62 198 aK o9 (⟨iM,(b',hQ),(hK,lP)⟩:ou))++oD:=by rfl) (c:iM.code.length+1<=1000000000000:=by first|omega|(simp only [ra];omega)|(simp;omega)) (d:iM.fix.length+1<=1000000000000:=by first|omega|(simp only [ra];omega)|(simp;omega)) (f:eE lO eb gE:=by first|exact bA rfl|exact bl ⟨_,_,_,rfl,rfl,rfl⟩) (g:eB aH ae=ac:=by rfl):WL aB lO mc ae n0 eb (Ws cb cJ di en)<|⟨aa aH,.call ⟨.value<|.func 284,f',iD⟩,bs,gk,gU,gE⟩::b6:= Lw (ι:=(SP×SP)×Z×Z) (i4 190 62 198 aK o9 (⟨iM,(b',hQ),(hK,lP)⟩:ou)) oD f g bf b hL (λq=>.func (.func 333) #[] #[b0 (aa ⟨q.2.1,0,ak⟩),b0 (aa ⟨q.2.2,0,ak⟩)]) (λq=>(i4 190 62 198 aK o9 ⟨fy ⟨aP,0,0⟩ 1 0 iM,q.1.1,q.1.2⟩)++[aJ q.2.1<|aM #[b0 (aa ⟨aK,0,ak⟩)] 188 (0,0),aJ q.2.2<|aM #[an am (iM.code.length:ab)] 3 (0,0)]) (λ_=>True) [] aG (λw h=>(acA aK o9 (⟨iM,(b',hQ),(hK,lP)⟩:ou) aP w c d h).mono λe k ⟨q,i,j⟩=>⟨q,i,trivial,j⟩)<|λq _=>a q
def wF {b:dF} {p a m:Z}                       (c:WL aB lO mc ae n0 ((aH,cN #[])::eb) (Ws cb cJ (((i4 190 62 198 aK o9 ⟨jh m iM,(b',hQ),(hK,lP)⟩)++[aJ p<|aM #[b0 (aa ⟨aK,0,ak⟩)] 188 (0,0),aJ a<|aM #[an am (m:ab)] 3 (0,0)])++oD) en) b6) (d:b5 eb b=aa (.func (.func 333) #[] #[b0 (aa ⟨p,0,ak⟩),b0 (aa ⟨a,0,ak⟩)]):=by rfl) (f:hF eb f'.toList=aa []:=by rfl) (hL:di=((i4 190 62 198 aK o9 (⟨iM,(b',hQ),(hK,lP)⟩:ou))++[aJ p<|aM #[b0 (aa ⟨aK,0,ak⟩)] 188 (0,0),aJ a<|aM #[an am (m:ab)] 3 (0,0)])++oD:=by rfl) (g:m<iM.code.length:=by first|omega|(simp only [ra];omega)) (i:eE lO eb gE:=by first|exact bA rfl|exact bl ⟨_,_,_,rfl,rfl,rfl⟩) (j:eB aH ae=ac:=by rfl):WL aB lO mc ae n0 eb (Ws cb cJ di en)<|⟨aa aH,.call ⟨.value b,f',iD⟩,bs,gk,gU,gE⟩::b6:= WL.Vj (ι:=dT) ((i4 190 62 198 aK o9 (⟨iM,(b',hQ),(hK,lP)⟩:ou))++[aJ p<|aM #[b0 (aa ⟨aK,0,ak⟩)] 188 (0,0),aJ a<|aM #[an am (m:ab)] 3 (0,0)]) oD i j bf d f hL (λ_=>cN #[]) (λ_=>(i4 190 62 198 aK o9 ⟨jh m iM,(b',hQ),(hK,lP)⟩)++[aJ p<|aM #[b0 (aa ⟨aK,0,ak⟩)] 188 (0,0),aJ a<|aM #[an am (m:ab)] 3 (0,0)]) (λ_=>True) [] aG (λw k=>(acB aK o9 (⟨iM,(b',hQ),(hK,lP)⟩:ou) p a m _ w (dh g) k).mono λe l h=>⟨(),h.1,trivial,h.2⟩)<|λ_ _=>c
def Cz (H:View) (k:Z):Prop:=∀⦃x:e3⦄ ⦃a:az a0⦄ ⦃c:Z⦄,Sl (kQ k) 5 H a c x.args->zk x->fW 190 280 [bU (oe x a c).toArray] [H] (8*jK x) (8*jK x) (fz x) (λ_=>cN #[])
variable {bi:I e3} {dt:e3}
def yg (h:bi[ae]? = aa dt):jK dt<=iW bi:=by have:=zj h;omega
def Kh {x y:e3} (h:bi[0]? = aa x) (a:bi[1]? = aa y):jK x+jK y<=iW bi:=by have b:iW (bi.take 1)=iW (bi.take 0)+jK x:=(zj h).1;have c:iW (bi.take 2)=iW (bi.take 1)+jK y:=(zj a).1;have d:iW (bi.take 2)<=iW bi:=(zj a).2;omega
def RM (hN:∀a,a<ae->Cz bt a) (c:Sl (kQ ae) 5 bt b' aH bi) (m:zl bi):fW 190 332 [aC b' bi.length aH] [bt] (8*iW bi) (8*iW bi) (qz bi)<|λ_=>cN #[]:=by
 refine ⟨bf,λf i t w v y d=>?_⟩;have z:=c.cap;have A:=c.max;refine enter func332 O 16 O O ?_;refine CE d<|ai<|ad O<|V0 (Yn ij O)<|ad O<|ag<|Cb ?_;refine dZ (ι:=Z×SP×SP) (λg=>[(8,an am (g.1:ab))]) [(0,_),(6,_),(7,_)] (λg=>Ws w (c5 bc.ids<|i4 190 62 198 f i t) (i4 190 62 198 f i ⟨qz (bi.take g.1) t.g,g.2.1,g.2.2⟩) [bt]) (λg=>g.1<=bi.length) (λg=>bi.length-g.1) (0,t.ca,t.fa) (de _) aR ?_;intro g B;refine ai<|V0 (cP O O)<|ag<|Cs ?_;refine Cc O (λe=>?_)<|λe=>?_
 ·have j:g.1<bi.length:=by simpa using e
  obtain ⟨x,b⟩:=dO j;obtain ⟨C,D,n,k⟩:=c.b7 g.1 x b;obtain ⟨a,rfl⟩:∃a,ae=a+1:=by cases ae with| zero=>exact k.elim| succ a=>exact ⟨a,rfl⟩
  obtain ⟨o,p,q,r⟩:=k;have E:=zj b;have l:=Eo (bi.take g.1) t.g;have F:=l.hi;have G:=l.jt;refine bO<|Cs<|Cb<|ai<|V0 (Yo ij O O n j)<|V0 (dG 0 h3 O O O<|q) ?_;refine Al Y O z' λH=>?_;refine aq 0 Y O O O rY O O O<|ag<|gL 0 (aM (oe x o p).toArray 53 (0,0)) O O<|Cr<|ad O<|V0 (dv 0 O O h3 O)<|Lf 3 O<|Lf 3 O ?_;refine Lf 3 O ?_;refine gg (hN a aj r<|m.at_ b) λs=>?_;refine Ln<|Eb<|Et<|Cr<|V0 (Yi O O O aj)<|ad O<|Ln ?_;rw [<-Vf b];exact cU ((g.1+1,s):Z×SP×SP) (by show _-(g.1+1)<_;omega) (by show g.1+1<=_;omega)<|λ_ h=>(Wt 3 h:)
 have u:g.1=bi.length:=by simp at e;omega
 rw [u,gJ];refine Ce<|Ex<|Ex<|dy ?_;refine E0 O λJ d=>?_;exact ⟨g.2,O,d⟩
variable {cp:ab}
def Sn (hN:∀b,b<ae->Cz bt b) (d:Sl (kQ ae) 5 bt b' aH bi) (e:zl bi):fW 190 283 [an am aP,an am cp,aC b' bi.length aH] [bt] (8*(1+iW bi)) (8*(1+iW bi)) (λs=>fy ⟨13,cp,0⟩ 2 aP<|qz bi s)<|λ_=>cN #[]:=by refine ⟨bf,λh i t w j k a=>?_⟩;have c:=Eo bi t.g;have l:=c.hi;have m:=c.jt;refine enter func283 O 16 O O ?_;refine CE a<|ai<|ad O<|ad O ?_;refine gg (RM hN d e) λn=>?_;refine ag<|Cr<|ad O<|ad O<|V0 (Yb h1 iI O O)<|ad O ?_;refine gg (Af ⟨13,cp,0⟩ 2 aP) λf=>?_;refine Ln ?_;refine E0 O λo a=>?_;exact ⟨f,O,a⟩
variable {hZ:ab}
def So (hN:Cz bt ae) (c:Sl (kQ ae) 5 bt b' aH dt.args) (d:zk dt):fW 190 282 [an am aP,an am cp,an am hZ,bU (oe dt b' aH).toArray] [bt] (8*jK dt+1) (8*jK dt+1) (λs=>fy ⟨6,cp,hZ⟩ 3 aP<|fz dt s)<|λ_=>cN #[]:=by refine ⟨bf,λf h t w i j a=>?_⟩;have b:=ot dt t.g;have k:=b.hi;have l:=b.jt;refine enter func282 O 19 O O ?_;refine CE a<|ai ?_;refine WL.box Y O O λm=>?_;refine ag<|ai<|ad O<|V0 (dv 0 O O h3 O)<|Lf 3 O<|Lf 3 O<|Lf 3 O ?_;refine gg (hN c d) λn=>?_;refine ag<|Cr<|ad O<|ad O<|ad O<|V0 (Yb h1 iI O O)<|ad O ?_;refine gg (Af ⟨6,cp,hZ⟩ 3 aP) λe=>?_;refine Ln ?_;refine E0 O λo a=>?_;exact ⟨e,O,Wt 3 a⟩
def acC {k:Z}     (s:Sl (kQ k) 5 bt b' ae dt.args) (p:zk dt):fW 190 280 [bU (oe dt b' ae).toArray] [bt] (8*jK dt) (8*jK dt) (fz dt)<|λ_=>cN #[]:=by
 induction k using m1 generalizing dt b' ae;rename_i k a';have hN:∀a,a<k->Cz bt a:=λa h _ _ _ a_ ba=>a' a h a_ ba;refine ⟨bf,λbB bC t w bD bF b=>?_⟩;have bG:=s.cap;have bH:=s.max;have bI:=Vk dt;refine enter func280 O 143 O O ?_;refine CE b<|ai ?_;refine WL.box Y O O λbJ=>?_;refine ag<|ai<|V0 (Yf qK O)<|V0 (Yd 0 O O O ah)<|ag<|Cb<|ai<|V0 (bN O O)<|ar O<|ag ?_;refine Cc O (λS=>?_)<|λS=>?_
 ·have c:dt.op=1:=by simpa using S
  refine Cr<|ad O<|V0 (Yf oK O)<|V0 (Yd 0 O O O ah)<|V0 (Yb h1 iI O O) ?_;refine Lb Y O jQ O O O O λbK=>?_;refine WL.mh (rd:=kf) (f:=c'.cells) (k:=3) (m:=1) 0 [⟨1,dt.n,0⟩] O O c'.dA (λ_ _ _ _ h=>h) (by simp) (by decide) λbL bb=>?_;refine Lf 3 O<|Lf 3 O<|Lf 3 O ?_;refine gg (m0 bb) λaK=>?_;refine Ln<|Eb ?_;refine E0 O λu b=>?_;have j:fz dt t.g=gG [⟨1,dt.n,0⟩] t.g:=by rw [tv,qy,aU c]
  rw [j];exact ⟨(aK.1,aK.2),O,Wv 1<|Wt 3 b⟩
 have v:¬dt.op=1:=by simpa using S
 refine ai<|V0 (bN O O)<|ar O<|ag ?_;refine Cc O (λT=>?_)<|λT=>?_
 ·have c:dt.op=2:=by simpa using T
  refine Cr<|ad O<|V0 (Yb h1 iI O O) ?_;refine Lb Y O jQ O O O O λbM=>?_;refine WL.mh (rd:=kf) (f:=c'.cells) (k:=3) (m:=1) 0 [⟨18,0,0⟩] O O c'.dA (λ_ _ _ _ h=>h) (by simp) (by decide) λbP bc=>?_;refine Lf 3 O<|Lf 3 O<|Lf 3 O ?_;refine gg (m0 bc) λaP=>?_;refine Ln<|Eb ?_;refine E0 O λu b=>?_;have j:fz dt t.g=gG [⟨18,0,0⟩] t.g:=by rw [tv,qy,ao v,aU c]
  rw [j];exact ⟨(aP.1,aP.2),O,Wv 1<|Wt 3 b⟩
 have z:¬dt.op=2:=by simpa using T
 refine ai<|V0 (bN O O)<|ar O<|ag ?_;refine Cc O (λU=>?_)<|λU=>?_
 ·have c:dt.op=16:=by simpa using U
  refine Cr<|ad O<|V0 (Yf mH O)<|V0 (Yd 0 O O O ah)<|V0 (Yb h1 iI O O) ?_;refine Lb Y O jQ O O O O λbQ=>?_;refine WL.mh (rd:=kf) (f:=c'.cells) (k:=3) (m:=1) 0 [⟨2,dt.pl,0⟩] O O c'.dA (λ_ _ _ _ h=>h) (by simp) (by decide) λbR bd=>?_;refine Lf 3 O<|Lf 3 O<|Lf 3 O ?_;refine gg (m0 bd) λaR=>?_;refine Ln<|Eb ?_;refine E0 O λu b=>?_;have j:fz dt t.g=gG [⟨2,dt.pl,0⟩] t.g:=by rw [tv,qy,ao v,ao z,aU c]
  rw [j];exact ⟨(aR.1,aR.2),O,Wv 1<|Wt 3 b⟩
 have B:¬dt.op=16:=by simpa using U
 refine ai<|V0 (bN O O)<|ar O<|ag ?_;refine Cc O (λV=>?_)<|λV=>?_
 ·have c:dt.op=3:=by simpa using V
  refine Cr<|ad O<|V0 (Yf mH O)<|V0 (Yd 0 O O O ah)<|V0 (Yb h1 iI O O)<|V0 (Yf nS O)<|V0 (Yd 0 O O O ah)<|Lf 3 O ?_;refine Lf 3 O<|Lf 3 O ?_;refine gg (Af ⟨4,dt.pl,0⟩ 3 dt.m) λaS=>?_;refine Ln<|Eb ?_;refine E0 O λu b=>?_;have j:fz dt t.g=fy ⟨4,dt.pl,0⟩ 3 dt.m t.g:=by rw [tv,qy,ao v,ao z,ao B,aU c]
  rw [j];exact ⟨(aS.1,aS.2),O,Wt 3 b⟩
 have G:¬dt.op=3:=by simpa using V
 refine ai<|V0 (bN O O)<|ar O<|ag ?_;refine Cc O (λW=>?_)<|λW=>?_
 ·have c:dt.op=4:=by simpa using W
  refine Cs ?_;have bS:=p.args.2.1 (by omega);obtain ⟨y,l⟩:∃y,dt.args[0]? = aa y:=⟨_,dh (by omega)⟩;obtain ⟨aW,aX,H,A⟩:=s.b7 0 y l;obtain ⟨a,rfl⟩:∃a,k=a+1:=by cases k with| zero=>exact A.elim| succ a=>exact ⟨a,rfl⟩
  obtain ⟨aY,aZ,J,K⟩:=A;have C:=hN a (by omega);have L:=p.args.1.at_ l;have o:=ot y t.g;have X:=o.hi;have af:=o.jt;have a1:=o.lo;have bT:=yg l;refine CU (λ_=>ac) [1,1,1] [] (.q au 0<|.q au 1<|.q ac 2<|.q au 3<|.q ac 4<|.q au 5<|.q ac 6<|.q au 7<|.q ac 8<|.q au 9<|.q ac 10<|.e 11 .nil .stop) mixed (by kernel_rfl) (λ_ _ _ d _ _ h=>by cases d<;>exact h) ?_;refine U0 O (cn [1,1,1]) (Ym O)<|U0 O (cn [1,1,1]) (Yf nS O)<|U0 O (cn [1,1,1]) (Yd 0 O O O ah)<|U0 O (cn [1,1,1]) (Yf mH O)<|U0 O (cn [1,1,1]) (Yd 0 O O O ah)<|U0 O (cn [1,1,1]) (Yf oK O)<|U0 O (cn [1,1,1]) (Yd 0 O O O ah)<|U0 O (cn [1,1,1]) (Yf mX O) ?_;refine U0 O (cn [1,1,1]) (Yd 0 O O O ah)<|U0 O (cn [1,1,1]) (Yo (i:=0) ij O O H (by omega))<|U0 O (cn [1,1,1]) (dG 0 h3 O O O<|J) ?_;refine Ue O (cn [1,1,1]) ?_ WU.stop;refine Lf 3 O<|Lf 3 O<|Lf 3 O ?_;refine gg (So C K L) λbW=>?_;refine Ln<|Eu ?_;refine WU.nil (λ_ h=>(Wo 1<|Wo 1<|Wo 1<|h.f 3 O:)) ?_;refine WS.nil ?_;refine Et<|Cr<|ad O<|V0 (Yb h1 iI O O) ?_;refine Lb Y O jQ O O O O λbX=>?_;refine WL.mh (rd:=kf) (f:=c'.cells) (k:=3) (m:=1) 0 [⟨7,0,0⟩] O O c'.dA (λ_ _ _ _ h=>h) (by simp) (by decide) λbY be=>?_;refine gg (m0 be) λa2=>?_;refine Ln<|Eb ?_;refine E0 O λu b=>?_;have j:fz dt t.g=gG [⟨7,0,0⟩] (fy ⟨6,dt.pl,dt.n⟩ 3 dt.m<|fz y t.g):=by rw [tv,qy,ao v,ao z,ao B,ao G,aU c];rw [pc l]
  rw [j];exact ⟨(a2.1,a2.2),O,Wv 1<|Wt 3 b⟩
 have M:¬dt.op=4:=by simpa using W
 refine ai<|V0 (bN O O)<|ar O<|ag ?_;refine Cc O (λaj=>?_)<|λaj=>?_
 ·have c:dt.op=5:=by simpa using aj
  refine Cr<|ad O<|V0 (Yf nS O)<|V0 (Yd 0 O O O ah)<|V0 (Yf mH O)<|V0 (Yd 0 O O O ah)<|V0 (Yf mX O)<|V0 (Yd 0 O O O ah) ?_;refine Lf 3 O<|Lf 3 O<|Lf 3 O ?_;refine gg (Sn hN s p.args.1) λa3=>?_;refine Ln<|Eb ?_;refine E0 O λu b=>?_;have j:fz dt t.g=fy ⟨13,dt.pl,0⟩ 2 dt.m (qz dt.args t.g):=by rw [tv,qy,ao v,ao z,ao B,ao G,ao M,aU c];rw [Bh]
  rw [j];exact ⟨(a3.1,a3.2),O,Wt 3 b⟩
 have Q:¬dt.op=5:=by simpa using aj
 refine Cs<|ai<|V0 (bN O O)<|ar O<|ag ?_;refine Cc O (λR=>?_)<|λR=>?_
 ·have c:dt.op=7:=by simpa using R
  refine bO ?_;refine Cc O (λD=>?_)<|λD=>?_
  ·refine Cs ?_;have bh:=p.args.2.2.1 (by omega);obtain ⟨y,l⟩:∃y,dt.args[0]? = aa y:=⟨_,dh (by omega)⟩;obtain ⟨aW,aX,H,A⟩:=s.b7 0 y l;obtain ⟨r,x⟩:∃y,dt.args[1]? = aa y:=⟨_,dh (by omega)⟩;obtain ⟨bi,bj,al,ap⟩:=s.b7 1 r x;obtain ⟨a,rfl⟩:∃a,k=a+1:=by cases k with| zero=>exact A.elim| succ a=>exact ⟨a,rfl⟩
   obtain ⟨aY,aZ,J,K⟩:=A;have C:=hN a (by omega);have L:=p.args.1.at_ l;have o:=ot y t.g;have X:=o.hi;have af:=o.jt;have a1:=o.lo;obtain ⟨bk,bm,aq,av⟩:=ap;have aw:=p.args.1.at_ x;have bn:=Kh l x;have E:=ot r<|fy ⟨12,0,0⟩ 1 0<|fz y t.g;have aA:=E.hi;have aD:=E.jt;have aE:=E.lo;have F:=ot r<|jh ((fz y t.g).code.length)<|fy ⟨11,0,0⟩ 1 0<|gG [⟨1,1,0⟩]<|fy ⟨12,0,0⟩ 1 0<|fz y t.g;have aF:=F.hi;have aG:=F.jt;have aH:=F.lo;simp only [ra] at aA aD aE aF aG aH;refine Cr<|ad O<|V0 (Yf mX O)<|V0 (Yd 0 O O O ah)<|V0 (Yo (i:=0) ij O O H (by omega))<|V0 (dG 0 h3 O O O<|J)<|Lf 3 O<|Lf 3 O ?_;refine Lf 3 O ?_;refine gg (C K L) λbo=>?_;refine ag<|ai<|ad O ?_;refine yf λbp=>?_;refine ar O<|ag<|Cs<|ai<|V0 (Yf qK O)<|V0 (Yd 5 O O O ah)<|V0 (bN O O)<|ag ?_;refine Cc O (λN=>?_)<|λN=>?_;·exact absurd N (by rw [c];decide)
   refine bO<|Cs<|ai<|V0 (Yf qK O)<|V0 (Yd 5 O O O ah)<|V0 (bN O O)<|ag ?_;refine Cc O (λP=>?_)<|λP=>?_;·exact absurd P (by rw [c];decide)
   refine bO<|ai<|ad O<|V0 (Yf mX O)<|V0 (Yd 5 O O O ah)<|V0 (Yo (i:=1) ij O O al (by omega))<|V0 (dG 0 h3 O O O<|aq) ?_;refine gg (C av aw) λbZ=>?_;refine ag<|ai<|ad O<|V0 (Yb h1 iI O O) ?_;refine Lb Y O jQ O O O O λb1=>?_;refine WL.mh (rd:=kf) (f:=c'.cells) (k:=3) (m:=1) 0 [⟨22,0,0⟩] O O c'.dA (λ_ _ _ _ h=>h) (by simp) (by decide) λb2 br=>?_;refine gg (m0 br) λb3=>?_;refine ag<|ai<|ad O ?_;refine yf λb4=>?_;refine ar O<|ag<|ai<|ad O<|Lf 6 O<|Lf 6 O<|Lf 4 O<|Lf 4 O<|Lf 4 O ?_;refine wF ?_;refine ag<|ai<|ad O<|V0 (Yb h1 iI O O) ?_;refine Lb Y O jQ O O O O λb5=>?_;refine WL.mh (rd:=kf) (f:=c'.cells) (k:=3) (m:=1) 0 [⟨1,0,0⟩] O O c'.dA (λ_ _ _ _ h=>h) (by simp) (by decide) λb6 bs=>?_;refine gg (m0 bs) λa4=>?_;refine ag<|Cr<|ad O<|Lf 6 O<|Lf 6 O<|Lf 4 O<|Lf 4 O<|Lf 4 O ?_;refine wF ?_;refine Ln<|Eb ?_;refine E0 O λu b=>?_;have j:fz dt t.g=(jh ((gG [⟨22,0,0⟩]<|fz r<|fy ⟨12,0,0⟩ 1 0<|fz y t.g).code.length)<|gG [⟨1,0,0⟩]<|jh ((fz y t.g).code.length)<|fy ⟨11,0,0⟩ 1 0<|gG [⟨22,0,0⟩]<|fz r<|fy ⟨12,0,0⟩ 1 0<|fz y t.g):=by rw [tv,qy,ao v,ao z,ao B,ao G,ao M,ao Q,aU c];unfold H8;rw [pc l,pc x]
   rw [j];exact ⟨(a4.1,a4.2),O,Wv 2<|Wt 3 b⟩
  rw [R] at D;cases D
 have aI:¬dt.op=7:=by simpa using R
 refine Cr<|V0 (bN O O)<|ar O<|ag ?_;refine Cc O (λD=>?_)<|λD=>?_
 ·have c:dt.op=8:=by simpa using D
  refine Cs ?_;have bh:=p.args.2.2.1 (by omega);obtain ⟨y,l⟩:∃y,dt.args[0]? = aa y:=⟨_,dh (by omega)⟩;obtain ⟨aW,aX,H,A⟩:=s.b7 0 y l;obtain ⟨r,x⟩:∃y,dt.args[1]? = aa y:=⟨_,dh (by omega)⟩;obtain ⟨bi,bj,al,ap⟩:=s.b7 1 r x;obtain ⟨a,rfl⟩:∃a,k=a+1:=by cases k with| zero=>exact A.elim| succ a=>exact ⟨a,rfl⟩
  obtain ⟨aY,aZ,J,K⟩:=A;have C:=hN a (by omega);have L:=p.args.1.at_ l;have o:=ot y t.g;have X:=o.hi;have af:=o.jt;have a1:=o.lo;obtain ⟨bk,bm,aq,av⟩:=ap;have aw:=p.args.1.at_ x;have bn:=Kh l x;have E:=ot r<|fy ⟨12,0,0⟩ 1 0<|fz y t.g;have aA:=E.hi;have aD:=E.jt;have aE:=E.lo;have F:=ot r<|jh ((fz y t.g).code.length)<|fy ⟨11,0,0⟩ 1 0<|gG [⟨1,1,0⟩]<|fy ⟨12,0,0⟩ 1 0<|fz y t.g;have aF:=F.hi;have aG:=F.jt;have aH:=F.lo;simp only [ra] at aA aD aE aF aG aH;refine Cr<|ad O<|V0 (Yf mX O)<|V0 (Yd 0 O O O ah)<|V0 (Yo (i:=0) ij O O H (by omega))<|V0 (dG 0 h3 O O O<|J)<|Lf 3 O<|Lf 3 O ?_;refine Lf 3 O ?_;refine gg (C K L) λbo=>?_;refine ag<|ai<|ad O ?_;refine yf λbp=>?_;refine ar O<|ag<|Cs<|ai<|V0 (Yf qK O)<|V0 (Yd 5 O O O ah)<|V0 (bN O O)<|ag ?_;refine Cc O (λN=>?_)<|λN=>?_
  ·refine ai<|ad O<|V0 (Yb h1 iI O O) ?_;refine Lb Y O jQ O O O O λb8=>?_;refine WL.mh (rd:=kf) (f:=c'.cells) (k:=3) (m:=1) 0 [⟨1,1,0⟩] O O c'.dA (λ_ _ _ _ h=>h) (by simp) (by decide) λb9 bu=>?_;refine gg (m0 bu) λca=>?_;refine ag<|ai<|ad O ?_;refine yf λcb=>?_;refine ar O<|ag<|ai<|ad O<|Lf 6 O<|Lf 6 O<|Lf 4 O<|Lf 4 O<|Lf 4 O ?_;refine wF ?_;refine ag<|Cr<|ad O<|ar O<|ag<|Cs<|ai<|V0 (Yf qK O)<|V0 (Yd 7 O O O ah)<|V0 (bN O O)<|ag ?_;refine Cc O (λP=>?_)<|λP=>?_
   ·refine ai<|ad O<|V0 (Yf mX O)<|V0 (Yd 7 O O O ah)<|V0 (Yo (i:=1) ij O O al (by omega))<|V0 (dG 1 h3 O O O<|aq) ?_;refine gg (C av aw) λcc=>?_;refine ag<|ai<|ad O<|V0 (Yb h1 iI O O) ?_;refine Lb Y O jQ O O O O λcd=>?_;refine WL.mh (rd:=kf) (f:=c'.cells) (k:=3) (m:=1) 0 [⟨22,0,0⟩] O O c'.dA (λ_ _ _ _ h=>h) (by simp) (by decide) λce bv=>?_;refine gg (m0 bv) λa5=>?_;refine ag<|ai<|ad O<|Lf 6 O<|Lf 6 O<|Lf 4 O<|Lf 4 O<|Lf 4 O ?_;refine wF ?_;refine ag<|bq<|Er<|cZ ?_;refine WE.ul O λu b=>?_;have j:fz dt t.g=(jh ((gG [⟨1,1,0⟩]<|fy ⟨12,0,0⟩ 1 0<|fz y t.g).code.length)<|gG [⟨22,0,0⟩]<|fz r<|jh ((fz y t.g).code.length)<|fy ⟨11,0,0⟩ 1 0<|gG [⟨1,1,0⟩]<|fy ⟨12,0,0⟩ 1 0<|fz y t.g):=by rw [tv,qy,ao v,ao z,ao B,ao G,ao M,ao Q,ao aI,aU c];unfold H9;rw [pc l,pc x]
    rw [j];exact ⟨(a5.1,a5.2),O,Wv 2<|Wt 3 b⟩
   exact absurd P (by rw [c];decide)
  exact absurd N (by rw [c];decide)
 have a6:¬dt.op=8:=by simpa using D
 refine Cs ?_;have o:=Eo dt.args t.g;have X:=o.hi;have af:=o.jt;refine Cr<|ad O<|V0 (Yf mX O)<|V0 (Yd 0 O O O ah)<|Lf 3 O<|Lf 3 O<|Lf 3 O ?_;refine gg (RM hN s p.args.1) λcf=>?_;refine ag<|ai<|V0 (Yf qK O)<|V0 (Yd 3 O O O ah)<|V0 (bN O O)<|ag ?_;refine Cc O (λaJ=>?_)<|λaJ=>?_
 ·have c:dt.op=6:=by simpa using aJ
  refine Cr<|ad O<|V0 (Yb h1 iI O O) ?_;refine Lb Y O jQ O O O O λcg=>?_;refine WL.mh (rd:=kf) (f:=c'.cells) (k:=3) (m:=1) 0 [⟨9,0,0⟩] O O c'.dA (λ_ _ _ _ h=>h) (by simp) (by decide) λch bw=>?_;refine gg (m0 bw) λa8=>?_;refine Ln<|Eb ?_;refine E0 O λu b=>?_;have j:fz dt t.g=gG [⟨9,0,0⟩] (qz dt.args t.g):=by rw [tv,qy,ao v,ao z,ao B,ao G,ao M,ao Q,ao aI,ao a6,aU c];rw [Bh]
  rw [j];exact ⟨(a8.1,a8.2),O,Wv 1<|Wt 3 b⟩
 have bx:¬dt.op=6:=by simpa using aJ
 refine Cr<|ad O<|V0 (Yf qK O)<|V0 (Yd 3 O O O ah)<|V0 (Yb h1 iI O O) ?_;refine Lb Y O jQ O O O O λcj=>?_;refine WL.mh (rd:=kf) (f:=c'.cells) (k:=3) (m:=1) 0 [⟨10,dt.op,0⟩] O O c'.dA (λ_ _ _ _ h=>h) (by simp) (by decide) λck bz=>?_;refine gg (m0 bz) λa9=>?_;refine Ln<|Eb ?_;refine E0 O λu b=>?_;have j:fz dt t.g=gG [⟨10,dt.op,0⟩] (qz dt.args t.g):=by rw [tv,qy,ao v,ao z,ao B,ao G,ao M,ao Q,ao aI,ao a6,ao bx,Bh]
 rw [j];exact ⟨(a9.1,a9.2),O,Wv 1<|Wt 3 b⟩
def Sp (H:View) (ke k:Z):Prop:=∀⦃l:I ep⦄ ⦃a:az a0⦄ ⦃c:Z⦄,Sl (jd ke k) 7 H a c l->tz l->fW 190 166 [aC a l.length c] [H] (8*jL l) (8*jL l) (js l) (λ_=>cN #[])
def acD {x:ep} {r:vJ}  (V:Sp bt ae aH) (u:Sl (kQ ae) 5 bt r.s1.1 r.s1.2 x.args) (S:Sl (jd ae aH) 7 bt r.s2.1 r.s2.2 x.body) (W:Sl (jd ae aH) 7 bt r.s3.1 r.s3.2 x.other) (l:uJ x):fW 190 237 [bU (qs x r).toArray] [bt] (8*so x) (8*so x) (oq x)<|λ_=>cN #[]:=by
 refine ⟨bf,λbr bs t w bu bv j=>?_⟩;have hN:∀a,Cz bt a:=λa _ _ _ u S=>acC u S;have bw:=u.cap;have bx:=u.max;have bz:=W.cap;have bB:=W.max;have bC:=VS x;refine enter func237 O 155 O O ?_;refine CE j<|ai ?_;refine WL.box Y O O λbD=>?_;refine ag<|ai<|V0 (Yf Cq O)<|V0 (Yd 0 O O O ah)<|ag<|Cb<|ai<|V0 (bN O O)<|ar O<|ag ?_;refine Cc O (λX=>?_)<|λX=>?_
 ·have s:x.op=1:=by simpa using X
  refine Cs ?_;have T:=l.parts.2.2.2.1 (by omega);obtain ⟨y,b⟩:∃y,x.args[0]? = aa y:=⟨_,dh (by omega)⟩;obtain ⟨K,L,z,o⟩:=u.b7 0 y b;obtain ⟨a,rfl⟩:∃a,ae=a+1:=by cases ae with| zero=>exact o.elim| succ a=>exact ⟨a,rfl⟩
  obtain ⟨M,N,A,B⟩:=o;have v:=hN a;have C:=l.parts.1.at_ b;have P:=yg b;have c:=ot y t.g;have G:=c.hi;have H:=c.jt;have Q:=c.lo;refine Cr<|ad O<|V0 (Yf mY O)<|V0 (Yd 0 O O O ah)<|V0 (Yo (i:=0) ij O O z (by omega))<|V0 (dG 0 h3 O O O<|A)<|Lf 3 O<|Lf 3 O ?_;refine Lf 3 O ?_;refine gg (v B C) λbF=>?_;refine ag<|ai<|V0 (Yf nT O)<|V0 (Yd 3 O O O ah)<|V0 (cP O O)<|ag ?_;refine Cc O (λaf=>?_)<|λaf=>?_
  ·have aj:x.m<0:=by simpa using af
   refine Cr<|ad O<|V0 (Yf oL O)<|V0 (Yd 3 O O O ah)<|V0 (Yb h1 iI O O) ?_;refine Lb Y O jQ O O O O λbG=>?_;refine WL.mh (rd:=kf) (f:=c'.cells) (k:=3) (m:=1) 0 [⟨3,x.pl,0⟩] O O c'.dA (λ_ _ _ _ h=>h) (by simp) (by decide) λbH a8=>?_;refine gg (m0 a8) λaS=>?_;refine Ln<|Eb ?_;refine E0 O λD j=>?_;have p:oq x t.g=gG [⟨3,x.pl,0⟩] (fz y t.g):=by rw [uH,eo,aU s,aU aj,pc b]
   rw [p];exact ⟨(aS.1,aS.2),O,Wv 1<|Wt 3 j⟩
  have aj:¬x.m<0:=by simpa using af
  refine Cr<|ad O<|V0 (Yf oL O)<|V0 (Yd 3 O O O ah)<|V0 (Yb h1 iI O O)<|V0 (Yf nT O)<|V0 (Yd 3 O O O ah) ?_;refine gg (Af ⟨5,x.pl,0⟩ 3 x.m) λaW=>?_;refine Ln<|Eb ?_;refine E0 O λD j=>?_;have p:oq x t.g=fy ⟨5,x.pl,0⟩ 3 x.m (fz y t.g):=by rw [uH,eo,aU s,ao aj,pc b]
  rw [p];exact ⟨(aW.1,aW.2),O,Wt 3 j⟩
 have E:¬x.op=1:=by simpa using X
 refine ai<|V0 (bN O O)<|ar O<|ag ?_;refine Cc O (λal=>?_)<|λal=>?_
 ·have s:x.op=2:=by simpa using al
  refine Cs ?_;have bI:=l.parts.2.2.2.2.1 (by omega);obtain ⟨y,b⟩:∃y,x.args[0]? = aa y:=⟨_,dh (by omega)⟩;obtain ⟨K,L,z,o⟩:=u.b7 0 y b;obtain ⟨ap,U⟩:∃y,x.args[1]? = aa y:=⟨_,dh (by omega)⟩;obtain ⟨bJ,bK,a9,a'⟩:=u.b7 1 ap U;obtain ⟨a,rfl⟩:∃a,ae=a+1:=by cases ae with| zero=>exact o.elim| succ a=>exact ⟨a,rfl⟩
  obtain ⟨M,N,A,B⟩:=o;have v:=hN a;have C:=l.parts.1.at_ b;have P:=yg b;have c:=ot y t.g;have G:=c.hi;have H:=c.jt;have Q:=c.lo;obtain ⟨bL,bM,a_,ba⟩:=a';have bb:=l.parts.1.at_ U;have bQ:=Kh b U;have aq:=ot ap<|fy ⟨6,x.pl,x.n⟩ 3 x.m<|fz y t.g;have bc:=aq.hi;have bd:=aq.jt;have be:=aq.lo;try simp only [ra] at bc bd be
  refine CU (λ_=>ac) [1,1,1] [] (.q au 0<|.q au 1<|.q ac 2<|.q au 3<|.q ac 4<|.q au 5<|.q ac 6<|.q au 7<|.q ac 8<|.q au 9<|.q ac 10<|.e 11 .nil .stop) mixed (by kernel_rfl) (λ_ _ _ d _ _ h=>by cases d<;>exact h) ?_;refine U0 O (cn [1,1,1]) (Ym O)<|U0 O (cn [1,1,1]) (Yf nT O)<|U0 O (cn [1,1,1]) (Yd 0 O O O ah)<|U0 O (cn [1,1,1]) (Yf oL O)<|U0 O (cn [1,1,1]) (Yd 0 O O O ah)<|U0 O (cn [1,1,1]) (Yf wA O)<|U0 O (cn [1,1,1]) (Yd 0 O O O ah)<|U0 O (cn [1,1,1]) (Yf mY O) ?_;refine U0 O (cn [1,1,1]) (Yd 0 O O O ah)<|U0 O (cn [1,1,1]) (Yo (i:=0) ij O O z (by omega))<|U0 O (cn [1,1,1]) (dG 0 h3 O O O<|A) ?_;refine Ue O (cn [1,1,1]) ?_ WU.stop;refine Lf 3 O<|Lf 3 O<|Lf 3 O ?_;refine gg (So v B C) λbR=>?_;refine Ln<|Eu ?_;refine WU.nil (λ_ h=>(Wo 1<|Wo 1<|Wo 1<|h.f 3 O:)) ?_;refine WS.nil ?_;refine Et<|ai<|ad O<|V0 (Yf mY O)<|V0 (Yd 3 O O O ah)<|V0 (Yo (i:=1) ij O O a9 (by omega))<|V0 (dG 0 h3 O O O<|a_) ?_;refine gg (v ba bb) λbS=>?_;refine ag<|Cr<|ad O<|V0 (Yb h1 iI O O) ?_;refine Lb Y O jQ O O O O λbT=>?_;refine WL.mh (rd:=kf) (f:=c'.cells) (k:=3) (m:=1) 0 [⟨8,0,0⟩] O O c'.dA (λ_ _ _ _ h=>h) (by simp) (by decide) λbW bh=>?_;refine gg (m0 bh) λaX=>?_;refine Ln<|Eb ?_;refine E0 O λD j=>?_;have p:oq x t.g=gG [⟨8,0,0⟩] (fz ap<|fy ⟨6,x.pl,x.n⟩ 3 x.m<|fz y t.g):=by rw [uH,eo,ao E,aU s,pc b,pc U]
  rw [p];exact ⟨(aX.1,aX.2),O,Wv 1<|Wt 3 j⟩
 have J:¬x.op=2:=by simpa using al
 refine ai<|V0 (bN O O)<|ar O<|ag ?_;refine Cc O (λav=>?_)<|λav=>?_
 ·have s:x.op=3:=by simpa using av
  refine Cs ?_;have aY:=Eo x.args t.g;have G:=aY.hi;have H:=aY.jt;refine Cr<|ad O<|V0 (Yf nT O)<|V0 (Yd 0 O O O ah)<|V0 (Yf oL O)<|V0 (Yd 0 O O O ah)<|V0 (Yf mY O)<|V0 (Yd 0 O O O ah) ?_;refine Lf 3 O<|Lf 3 O<|Lf 3 O ?_;refine gg (Sn (λa _=>hN a) u l.parts.1) λbX=>?_;refine ag<|Cr<|ad O<|V0 (Yb h1 iI O O) ?_;refine Lb Y O jQ O O O O λbY=>?_;refine WL.mh (rd:=kf) (f:=c'.cells) (k:=3) (m:=1) 0 [⟨17,0,0⟩] O O c'.dA (λ_ _ _ _ h=>h) (by simp) (by decide) λbZ bi=>?_;refine gg (m0 bi) λaZ=>?_;refine Ln<|Eb ?_;refine E0 O λD j=>?_;have p:oq x t.g=gG [⟨17,0,0⟩] (fy ⟨13,x.pl,0⟩ 2 x.m<|qz x.args t.g):=by rw [uH,eo,ao E,ao J,aU s,Bh]
  rw [p];exact ⟨(aZ.1,aZ.2),O,Wv 1<|Wt 3 j⟩
 have R:¬x.op=3:=by simpa using av
 refine ai<|V0 (bN O O)<|ar O<|ag ?_;refine Cc O (λaw=>?_)<|λaw=>?_
 ·have s:x.op=4:=by simpa using aw
  refine Cs ?_;have T:=l.parts.2.2.2.1 (by omega);obtain ⟨y,b⟩:∃y,x.args[0]? = aa y:=⟨_,dh (by omega)⟩;obtain ⟨K,L,z,o⟩:=u.b7 0 y b;obtain ⟨a,rfl⟩:∃a,ae=a+1:=by cases ae with| zero=>exact o.elim| succ a=>exact ⟨a,rfl⟩
  obtain ⟨M,N,A,B⟩:=o;have v:=hN a;have C:=l.parts.1.at_ b;have P:=yg b;have c:=ot y t.g;have G:=c.hi;have H:=c.jt;have Q:=c.lo;have F:=k' x.body<|fy ⟨12,0,0⟩ 1 0<|fz y t.g;have aA:=F.hi;have aD:=F.jt;have aE:=F.lo;try simp only [ra] at aA aD aE
  have aF:=k' x.other<|jh ((fz y t.g).code.length)<|fy ⟨11,0,0⟩ 1 0<|js x.body<|fy ⟨12,0,0⟩ 1 0<|fz y t.g;have bj:=aF.hi;have bk:=aF.jt;have bm:=aF.lo;try simp only [ra] at bj bk bm
  refine Cr<|ad O<|V0 (Yf mY O)<|V0 (Yd 0 O O O ah)<|V0 (Yo (i:=0) ij O O z (by omega))<|V0 (dG 0 h3 O O O<|A)<|Lf 3 O<|Lf 3 O ?_;refine Lf 3 O ?_;refine gg (v B C) λb1=>?_;refine ag<|ai<|ad O ?_;refine yf λb2=>?_;refine ar O<|ag<|ai<|ad O<|V0 (Yf yc O)<|V0 (Yd 5 O O O ah) ?_;refine gg (V S<|l.parts.2.1 (by omega)) λa1=>?_;refine ag<|Cs<|ai<|V0 (Yf wB O)<|V0 (Yd 5 O O O ah)<|V0 (Yn fL O)<|V0 (ek O O)<|ag ?_;refine Cc O (λaG=>?_)<|λaG=>?_
  ·have aI:0<x.other.length:=by simpa using aG
   refine ai<|ad O ?_;refine yf λb3=>?_;refine ar O<|ag<|ai<|ad O<|Lf 6 O<|Lf 6 O<|Lf 4 O<|Lf 4 O<|Lf 4 O ?_;refine wF ?_;refine ag<|ai<|ad O<|V0 (Yf wB O)<|V0 (Yd 7 O O O ah) ?_;refine gg (V W l.parts.2.2.1) λa2=>?_;refine ag<|Cr<|ad O<|ar O<|ag<|Cr<|ad O<|Lf 6 O<|Lf 6 O<|Lf 4 O ?_;refine Lf 4 O<|Lf 4 O ?_;refine wF ?_;refine Ln<|Eb ?_;refine E0 O λD j=>?_;have p:oq x t.g=jh ((js x.body<|fy ⟨12,0,0⟩ 1 0<|fz y t.g).code.length) (js x.other<|jh ((fz y t.g).code.length)<|fy ⟨11,0,0⟩ 1 0<|js x.body<|fy ⟨12,0,0⟩ 1 0<|fz y t.g):=by rw [uH,eo,ao E,ao J,ao R,aU s,pc b];unfold Ek;rw [aU aI]
   rw [p];exact ⟨(a2.1,a2.2),O,Wt 3 j⟩
  have aI:¬0<x.other.length:=by simpa using aG
  refine bO<|Cr<|ad O ?_;refine wF ?_;refine Ln<|Eb ?_;refine E0 O λD j=>?_;have p:oq x t.g=jh ((fz y t.g).code.length) (js x.body<|fy ⟨12,0,0⟩ 1 0<|fz y t.g):=by rw [uH,eo,ao E,ao J,ao R,aU s,pc b];unfold Ek;rw [ao aI]
  rw [p];exact ⟨(a1.1,a1.2),O,Wt 3 j⟩
 have aJ:¬x.op=4:=by simpa using aw
 refine ai<|V0 (bN O O)<|ar O<|ag ?_;refine Cc O (λaK=>?_)<|λaK=>?_
 ·have s:x.op=5:=by simpa using aK
  refine ai<|ad O<|V0 (bP O)<|V0 (Yf oM O)<|V0 (Yf p6 O)<|V0 (Yd 1 O O O ah)<|V0 (Yn hr O)<|ar O ?_;refine ag<|Cs ?_;have T:=l.parts.2.2.2.1 (by omega);obtain ⟨y,b⟩:∃y,x.args[0]? = aa y:=⟨_,dh (by omega)⟩;obtain ⟨K,L,z,o⟩:=u.b7 0 y b;obtain ⟨a,rfl⟩:∃a,ae=a+1:=by cases ae with| zero=>exact o.elim| succ a=>exact ⟨a,rfl⟩
  obtain ⟨M,N,A,B⟩:=o;have v:=hN a;have C:=l.parts.1.at_ b;have P:=yg b;have c:=ot y t.g;have G:=c.hi;have H:=c.jt;have Q:=c.lo;have F:=k' x.body<|gG [⟨16,0,0⟩]<|fy ⟨12,0,0⟩ 1 0<|fz y t.g;have aA:=F.hi;have aD:=F.jt;have aE:=F.lo;try simp only [ra] at aA aD aE
  refine Cr<|ad O<|V0 (Yf mY O)<|V0 (Yd 0 O O O ah)<|V0 (Yo (i:=0) ij O O z (by omega))<|V0 (dG 0 h3 O O O<|A)<|Lf 3 O<|Lf 3 O ?_;refine Lf 3 O ?_;refine gg (v B C) λb4=>?_;refine ag<|ai<|ad O ?_;refine yf λb5=>?_;refine ar O<|ag<|ai<|ad O<|V0 (Yb h1 iI O O) ?_;refine Lb Y O jQ O O O O λb6=>?_;refine WL.mh (rd:=kf) (f:=c'.cells) (k:=3) (m:=1) 0 [⟨16,0,0⟩] O O c'.dA (λ_ _ _ _ h=>h) (by simp) (by decide) λb8 bn=>?_;refine gg (m0 bn) λb9=>?_;refine ag<|ai<|ad O<|V0 (Yf yc O)<|V0 (Yd 5 O O O ah) ?_;refine gg (V S<|l.parts.2.1 (by omega)) λb'=>?_;refine ag<|ai<|ad O<|ad O<|V0 (Yb h1 iI O O) ?_;refine gg (Af ⟨11,(t.g.code.length:ab),0⟩ 1 0) λa3=>?_;refine ag<|Cr<|ad O ?_;refine wF ?_;refine Ln<|Eb ?_;refine E0 O λD j=>?_;have p:oq x t.g=jh ((fz y t.g).code.length) (fy ⟨11,(t.g.code.length:ab),0⟩ 1 0<|js x.body<|gG [⟨16,0,0⟩]<|fy ⟨12,0,0⟩ 1 0<|fz y t.g):=by rw [uH,eo,ao E,ao J,ao R,ao aJ,aU s,pc b];rfl
  rw [p];exact ⟨(a3.1,a3.2),O,Wv 1<|Wt 3 j⟩
 have a4:¬x.op=5:=by simpa using aK
 refine ai<|V0 (bN O O)<|ar O<|ag ?_;refine Cc O (λaP=>?_)<|λaP=>?_
 ·have s:x.op=6:=by simpa using aP
  refine Cs ?_;have T:=l.parts.2.2.2.1 (by omega);obtain ⟨y,b⟩:∃y,x.args[0]? = aa y:=⟨_,dh (by omega)⟩;obtain ⟨K,L,z,o⟩:=u.b7 0 y b;obtain ⟨a,rfl⟩:∃a,ae=a+1:=by cases ae with| zero=>exact o.elim| succ a=>exact ⟨a,rfl⟩
  obtain ⟨M,N,A,B⟩:=o;have v:=hN a;have C:=l.parts.1.at_ b;have P:=yg b;have c:=ot y t.g;have G:=c.hi;have H:=c.jt;have Q:=c.lo;refine Cr<|ad O<|V0 (Yf mY O)<|V0 (Yd 0 O O O ah)<|V0 (Yo (i:=0) ij O O z (by omega))<|V0 (dG 0 h3 O O O<|A)<|Lf 3 O<|Lf 3 O ?_;refine Lf 3 O ?_;refine gg (v B C) λca=>?_;refine ag<|Cr<|ad O<|V0 (Yb h1 iI O O) ?_;refine Lb Y O jQ O O O O λcb=>?_;refine WL.mh (rd:=kf) (f:=c'.cells) (k:=3) (m:=1) 0 [⟨15,0,0⟩] O O c'.dA (λ_ _ _ _ h=>h) (by simp) (by decide) λcc bo=>?_;refine gg (m0 bo) λa5=>?_;refine Ln<|Eb ?_;refine E0 O λD j=>?_;have p:oq x t.g=gG [⟨15,0,0⟩] (fz y t.g):=by rw [uH,eo,ao E,ao J,ao R,ao aJ,ao a4,aU s,pc b]
  rw [p];exact ⟨(a5.1,a5.2),O,Wv 1<|Wt 3 j⟩
 have bp:¬x.op=6:=by simpa using aP
 refine ai<|V0 (bN O O)<|ar O<|ag ?_;refine Cc O (λaR=>?_)<|λaR=>?_
 ·have s:x.op=7:=by simpa using aR
  refine Cs ?_;have T:=l.parts.2.2.2.1 (by omega);obtain ⟨y,b⟩:∃y,x.args[0]? = aa y:=⟨_,dh (by omega)⟩;obtain ⟨K,L,z,o⟩:=u.b7 0 y b;obtain ⟨a,rfl⟩:∃a,ae=a+1:=by cases ae with| zero=>exact o.elim| succ a=>exact ⟨a,rfl⟩
  obtain ⟨M,N,A,B⟩:=o;have v:=hN a;have C:=l.parts.1.at_ b;have P:=yg b;have c:=ot y t.g;have G:=c.hi;have H:=c.jt;have Q:=c.lo;refine Cr<|ad O<|V0 (Yf mY O)<|V0 (Yd 0 O O O ah)<|V0 (Yo (i:=0) ij O O z (by omega))<|V0 (dG 0 h3 O O O<|A)<|Lf 3 O<|Lf 3 O ?_;refine Lf 3 O ?_;refine gg (v B C) λcd=>?_;refine ag<|Cr<|ad O<|V0 (Yb h1 iI O O) ?_;refine Lb Y O jQ O O O O λce=>?_;refine WL.mh (rd:=kf) (f:=c'.cells) (k:=3) (m:=1) 0 [⟨19,0,0⟩] O O c'.dA (λ_ _ _ _ h=>h) (by simp) (by decide) λcf bq=>?_;refine gg (m0 bq) λa6=>?_;refine Ln<|Eb ?_;refine E0 O λD j=>?_;have p:oq x t.g=gG [⟨19,0,0⟩] (fz y t.g):=by rw [uH,eo,ao E,ao J,ao R,ao aJ,ao a4,ao bp,aU s,pc b]
  rw [p];exact ⟨(a6.1,a6.2),O,Wv 1<|Wt 3 j⟩
 exfalso;have cg:¬x.op=7:=by simpa using aR
 have ch:=l.parts.2.2.2.2.2;omega
variable {gA:I ep}
def acE {ke k:Z}     (c:Sl (jd ke k) 7 bt b' ae gA) (p:tz gA):fW 190 166 [aC b' gA.length ae] [bt] (8*jL gA) (8*jL gA) (js gA)<|λ_=>cN #[]:=by
 induction k using m1 generalizing gA b' ae;rename_i k q;refine ⟨bf,λj l t w B C d=>?_⟩;have D:=c.cap;have E:=c.max;refine enter func166 O 16 O O ?_;refine CE d<|ai<|ad O<|V0 (Yn fL O)<|ad O<|ag<|Cb ?_;refine dZ (ι:=Z×SP×SP) (λg=>[(8,an am (g.1:ab))]) [(0,_),(6,_),(7,_)] (λg=>Ws w (c5 bc.ids<|i4 190 62 198 j l t) (i4 190 62 198 j l ⟨js (gA.take g.1) t.g,g.2.1,g.2.2⟩) [bt]) (λg=>g.1<=gA.length) (λg=>gA.length-g.1) (0,t.ca,t.fa) (de _) aR ?_;intro g F;refine ai<|V0 (cP O O)<|ag<|Cs ?_;refine Cc O (λe=>?_)<|λe=>?_
 ·have m:g.1<gA.length:=by simpa using e
  obtain ⟨x,b⟩:=dO m;obtain ⟨G,H,s,n⟩:=c.b7 g.1 x b;obtain ⟨a,rfl⟩:∃a,k=a+1:=by cases k with| zero=>exact n.elim| succ a=>exact ⟨a,rfl⟩
  obtain ⟨r,u,f,i,v⟩:=n;have J:=Np b;have o:=k' (gA.take g.1) t.g;have K:=o.hi;have L:=o.jt;have y:Sp bt ke a:=λ_ _ _ f i=>q a aj f i;refine bO<|Cs<|Cb<|ai<|V0 (Yo fL O O s m)<|V0 (dG 0 wC O O O<|u) ?_;refine Al Y O z_ λM=>?_;refine aq 0 Y O O O Cp O O O<|ag<|gL 0 (aM (qs x r).toArray 51 (0,0)) O O<|Cr<|ad O<|V0 (dv 0 O O wC O)<|Lf 3 O<|Lf 3 O ?_;refine Lf 3 O ?_;refine gg (acD y f i v<|p.at_ b) λz=>?_;refine Ln<|Eb<|Et<|Cr<|V0 (Yi O O O aj)<|ad O<|Ln ?_;rw [<-UE b];exact cU ((g.1+1,z):Z×SP×SP) (by show _-(g.1+1)<_;omega) (by show g.1+1<=_;omega)<|λ_ h=>(Wt 3 h:)
 have A:g.1=gA.length:=by simp at e;omega
 rw [A,gJ];refine Ce<|Ex<|Ex<|dy ?_;refine E0 O λN d=>?_;exact ⟨g.2,O,d⟩
def Ki (params locals:ab) (c:Sl (jd ae aH) 7 bt b' aK gA) (d:tz gA):fW 190 100 [bU (xo ⟨params,locals,gA⟩ (b',aK)).toArray] [bt] (8*(1+jL gA)) (8*(1+jL gA)) (qA params locals gA)<|λs=>an am (s.code.length:ab):=by refine ⟨bf,λn o t w p q a=>?_⟩;have b:=k' gA<|gG [⟨14,params,locals⟩] t.g;have e:=b.hi;have h:=b.jt;simp only [ra] at e h;refine enter func100 O 30 O O ?_;refine CE a<|ai ?_;refine WL.box Y O O λr=>?_;refine ar O<|ag<|ai<|ad O<|V0 (bP O)<|V0 (Yf oM O)<|V0 (Yf p6 O)<|V0 (Yd 1 O O O ah)<|V0 (Yn hr O) ?_;refine ar O<|ag<|ai<|ad O<|V0 (Yf Ae O)<|V0 (Yd 0 O O O ah)<|V0 (Yf sw O)<|V0 (Yd 0 O O O ah)<|V0 (Yb h1 iI O O) ?_;refine Lb Y O jQ O O O O λu=>?_;refine WL.mh (rd:=kf) (f:=c'.cells) (k:=3) (m:=1) 0 [⟨14,params,locals⟩] O O c'.dA fp aG a' λv i=>?_;refine Lf 3 O<|Lf 3 O<|Lf 3 O ?_;refine gg (m0 i) λx=>?_;refine ag<|ai<|ad O<|V0 (Yf Kd O)<|V0 (Yd 3 O O O ah) ?_;refine gg (acE c d) λy=>?_;refine ag<|ai<|ad O<|V0 (Yb h1 iI O O)<|V0 (Yb h1 iI O O) ?_;refine Lb Y O jQ O O O O λz=>?_;refine WL.mh (rd:=kf) (f:=c'.cells) (k:=3) (m:=2) 0 [⟨1,0,0⟩,⟨15,0,0⟩] O O c'.dA fp aG a' λA j=>?_;refine gg (m0 j) λl=>?_;refine ag<|ai<|ad O<|ar O<|ag<|bq ?_;refine R1 O O λB a=>?_;exact ⟨l,O,Wv 2<|Wt 3 a⟩
def CA:XK:=(ol,(ak,0))
def acF (h:Sl Ct 3 bt (aa ⟨ae,0,ak⟩) aH<|gI aH CA)  (hv:cV bt bX):Sl qu 3 bX (aa ⟨ae,0,ak⟩) aH<|gI aH ol:=by
 have a:=Kg h hv λe b=>by have c:e=CA:=I.eq_of_mem_replicate b;subst c;exact Sl.nil
 rw [I.map_replicate] at a;exact a
def acG (H:View) (ke k:Z) (u:cD) (r:o5) (w:aL) (i:Le H w) (b:og ke k H r u) (o:u.aI.length<=1048576) : cr aB 99 #[bU (hX u r).toArray] w λe c=>e = ax (bV<|sq u)/\Ext w c:=by have p:=b.aI.cap;have s:=b.aI.max;refine enter func99 O 9 O O ?_;refine CE (Vs:=[H]) (Ws.init (by simp [i]))<|ai ?_;refine WL.box Y O O λt=>?_;refine ar O<|ag<|Cs ?_;refine CU (λ_=>ac) [] [] (.q ac 0<|.q au 1<|.q ac 2<|.q au 3<|.e 4 (.e 5 (.q au 6 .nil) .stop) .stop) mixed ah (λ_ _ _ d _ _ h=>by cases d<;>exact h) ?_;refine U0 O aR (dv 0 O O l9 O)<|U0 O aR (Yf ye O)<|U0 O aR (Yd 0 O O O ah)<|U0 O aR (Yn e4 O) ?_;refine Ue O aR ?_ WU.stop;refine WL.make Y O Cv O O aj aj aj aj λj=>?_;refine dK 0 (aM ((gI u.aI.length CA).flatMap XK.cells).toArray 276 (0,0)) O (by rw [<-Lr (f:=XK.cells) (x:=CA) (zs:=(aT.agg #[bV au,an am 0,aC ak 0 0]).cells) O a'];rfl) ?_;refine WL.mh (rd:=Ct) (f:=XK.cells) (k:=3) (m:=u.aI.length) 0 (gI u.aI.length CA) O O XK.dA fp aG aj λl n=>?_;refine Ln<|Eu ?_;refine Ue O (λ_ h=>(Wv 1 h:)) ?_ WU.stop;refine Lp Y O bf O (λw a=>by have g:=Sf H (hv w) ke k u r (gI u.aI.length ol) (aa ⟨j,0,ak⟩) u.aI.length w (a.vs H aG) (b9 w) b (acF n<|n5<|a.vs l aG) (by simp;omega);rw [C5] at g;exact g) ?_;refine Ln<|Eu<|U0 O (λ_ h=>(Wv 1 h:)) (Ya O) ?_;refine WU.nil (λ_ h=>(Wv 1 h:)) ?_;refine WS.nil ?_;refine Et<|bq ?_;refine R1 O O λc a=>?_;exact ⟨O,a.fr⟩
def t_:zeroOf aB 77=aa (bU #[st [],aC ak 0 0,an am 0,aC ak 0 0,aC ak 0 0,aC ak 0 0,an am 0]):=ah
def Kj:hy aB 77=aa [(0,1),(1,1),(2,1),(3,1),(4,1),(5,1),(6,1)]:=ah
def vm:eP aB 77=aa 7:=ah
def hM:iC aB 77=aa 7:=ah
def acH:hy aB 190=aa [(0,7)]:=ah
def acI:zeroOf aB 190=aa (bU #[st [],aC ak 0 0,an am 0,aC ak 0 0,aC ak 0 0,aC ak 0 0,an am 0]):=ah
def wG:cX aB 77 5=aa 5:=ah
def FO:cX aB 77 6=aa 6:=ah
def acJ (H:View) (ke k:Z) (u:cD) (r:o5) (w:aL) (L:Le H w) (j:og ke k H r u) (aD:uG u<=1048576) :
   cr aB 27 #[bU (hX u r).toArray] w λe o=>∃q:rc,e = ax (cN #[bU (Ib (iu u).1 q).toArray,an am (iu u).2])/\Ext w o/\Ic (nv w o) q (iu u).1:=by
 have aE:=j.aI.cap;have aF:=j.aI.max;have aH:=j.parts.cap;have aK:=j.parts.max;have aP:=Nx u;have aS:=yZ u.aI;have aW:=Nw u.parts;refine enter func27 O 64 O O ?_;refine CE (Vs:=[H]) (Ws.init (by simp [L]))<|ai ?_;refine WL.box Y O O λM=>?_;refine Al Y O t_ λN=>?_;refine ar O<|ag<|Cs<|ai<|V0 (dv 1 O O l9 O)<|Lp Y O bf O (λw a=>acG H ke k u r w (a.vs H aG) j aj)<|V0 (hV O)<|ag ?_;refine Cc O (λy=>?_)<|λy=>?_
 ·have p:sq u=au:=by simpa using y
  refine ai<|V0 (Yb t_ Kj O O)<|aq 0 Y O O O vm O O O<|ar O<|ag<|bq<|Er ?_;refine WE.td 0 O O O O hM O λo a=>?_;rw [show iu u=(Bi,1) from by rw [iu,aU p]];exact ⟨Ie,O,a.fr,Nt _⟩
 have p:sq u=ac:=by simpa using y
 obtain ⟨P,Q⟩:=Vp p;refine bO<|Cs ?_;refine CU (λ_=>ac) [] [] (.q au 0<|.q ac 1<|.q au 2<|.q ac 3<|.q au 5<|.q ac 6<|.e 4 (.q au 7<|.q au 8<|.e 9 (.q au 10 .nil) .stop) .stop) mixed ah (λ_ _ _ d _ _ h=>by cases d<;>exact h) ?_;refine U0 O aR (Yf Ad O)<|U0 O aR (Yd 1 O O O ah)<|U0 O aR (Yf ye O)<|U0 O aR (Yd 1 O O O ah)<|U0 O aR (Yf t' O)<|U0 O aR (Yd 1 O O O ah) ?_;refine Ue O aR ?_ WU.stop;refine Ld Y O bf O (λr:SP=>aC r.1 u.aI.length r.2) (λR r=>Sl rdStr 1 R r.1 r.2 u.aI) (λw a=>RY H r.s1.1 r.s1.2 u.aI w (a.vs H aG) j.aI aj) ?_;intro S b T U;refine Ln<|Eu<|U0 O (λ_ h=>(Wv 1 h:)) (Yb t_ Kj O O)<|U0 O (λ_ h=>(Wv 1 h:)) (Yb acI acH O O) ?_;refine Ue O (λ_ h=>(Wv 1 h:)) ?_ WU.stop;refine WL.box Y O O λV=>?_;obtain ⟨W,X⟩:∃s,s=V:=⟨_,rfl⟩;subst X;refine dK 0 (tx 190 (⟨u.nm,aC b.1 u.aI.length b.2,u.data,aC ak 0 0,an am 0⟩:q_) ⟨⟨[],[]⟩,(ak,0),(ak,0)⟩) O O<|LW (λ_ h=>h.bJ 3 1)<|LW (λ_ h=>h.bJ 198 3)<|LW (λ_ h=>h.bJ 62 3)<|Ln<|Eu<|U0 O (λ_ h=>(Wv 1<|Wd 4 h:)) (Ya O) ?_;refine WU.nil (λ_ h=>(Wv 1<|Wd 4 h:)) ?_;refine WS.nil ?_;refine Et<|Cs<|ai<|V0 (Yf yd O)<|V0 (Yd 5 O O O ah)<|V0 (Yn mJ O)<|ad O<|ag<|Cb ?_;refine dZ (ι:=Z×(SP×SP)×SP) (λg=>[(24,an am (g.1:ab))]) [(1,_),(2,_),(3,_),(4,_),(22,_),(23,_)] (λg=>Ws w [] ((i4 190 62 198 W (⟨u.nm,aC b.1 u.aI.length b.2,u.data,aC g.2.2.1 (gN (u.parts.take g.1) ⟨[],[]⟩).1.length g.2.2.2,an am 0⟩:q_) ⟨(gN (u.parts.take g.1) ⟨[],[]⟩).2,g.2.1.1,g.2.1.2⟩)++[cO 3 1 kT g.2.2.1 g.2.2.2 (gN (u.parts.take g.1) ⟨[],[]⟩).1,aJ N<|aM (aT.cells<|bU #[st [],aC ak 0 0,an am 0,aC ak 0 0,aC ak 0 0,aC ak 0 0,an am 0]) 77 (0,0),aJ M<|aM (hX u r).toArray 37 (0,0)]) [S,H]) (λg=>g.1<=u.parts.length) (λg=>u.parts.length-g.1) (0,(((ak,0),(ak,0)),(ak,0))) (de _) (λ_ h=>by exact ((((((h.f 5 O).f 5 O).f 4 O).f 4 O).f 4 O).f 5 O:)) ?_;intro g aX;refine ai<|V0 (cP O O)<|ag<|Cs ?_;refine Cc O (λz=>?_)<|λz=>?_
 ·have E:g.1<u.parts.length:=by simpa using z
  obtain ⟨x,t⟩:=dO E;obtain ⟨aY,aZ,ae,af⟩:=j.parts.b7 g.1 x t;obtain ⟨al,ap,F⟩:=af;have a1:=Nu t;have n:=Ia (u.parts.take g.1) ⟨[],[]⟩;have av:(gN (u.parts.take g.1) ⟨[],[]⟩).2.code.length<=8*mO (u.parts.take g.1):=by have c:=n.1.hi;simpa using c
  have aw:(gN (u.parts.take g.1) ⟨[],[]⟩).2.fix.length<=8*mO (u.parts.take g.1):=by have c:=n.1.jt;simpa using c
  have a2:(gN (u.parts.take g.1) ⟨[],[]⟩).1.length=g.1:=by rw [n.2,lr];omega
  have a3:zh x=1+jL x.body:=rfl;have G:=P x<|dJ t;have J:=Vo t ⟨[],[]⟩;have A:(gN (u.parts.take<|g.1+1) ⟨[],[]⟩).1=(gN (u.parts.take g.1) ⟨[],[]⟩).1++[(gN (u.parts.take g.1) ⟨[],[]⟩).2.code.length]:=by rw [J]
  have B:(gN (u.parts.take<|g.1+1) ⟨[],[]⟩).2=(qA x.params x.locals x.body (gN (u.parts.take g.1) ⟨[],[]⟩).2):=by rw [J]
  refine bO<|Cs<|Cb<|ai<|V0 (Yo mJ O O ae E)<|V0 (dG 1 Cu O O O<|ap) ?_;refine Al Y O Ac λa4=>?_;refine aq 0 Y O O O FM O O O<|ag<|gL 0 (aM (xo x al).toArray 107 (0,0)) O O ?_;refine CU (λ_=>ac) [1,1,1,1] [14] (.q au 0<|.q au 1<|.q au 2<|.q au 3<|.q au 4<|.q au 6<|.q ac 7<|.e 5 (.e 8 (.e 9 (.e 10 (.q au 11<|.q au 12<|.q au 13 .nil) .stop) .stop) .stop)<|.e 8 (.e 5 (.e 9 (.e 10 (.q au 11<|.q au 12<|.q au 13 .nil) .stop) .stop)<|.e 9 (.e 5 (.e 10 (.q au 11<|.q au 12<|.q au 13 .nil) .stop) .stop) .stop) .stop) mixed ah (λ_ _ _ d _ _ h=>by cases d<;>exact h) ?_;refine U0 O (cn [1,1,1,1]) (Ym O)<|U0 O (cn [1,1,1,1]) (Ym O)<|U0 O (cn [1,1,1,1]) (bP O)<|U0 O (cn [1,1,1,1]) (Yf oM O)<|U0 O (cn [1,1,1,1]) (Yf wG O)<|U0 O (cn [1,1,1,1]) (Ym O)<|U0 O (cn [1,1,1,1]) (dv 0 O O Cu O) ?_;refine Ue O (cn [1,1,1,1]) ?_ ?_;·refine V0 (Yd 1 O O O ah)<|Ln<|Eu ?_;refine Ue O (cn [1,1,1,1]) ?_ WU.stop;refine Lf 3 O<|Lf 3 O<|Lf 3 O ?_;refine gg (Ki x.params x.locals F G) λi=>?_;refine Ln<|Eu ?_;refine Ue O (λ_ h=>by exact (Wo 1<|Wo 1<|Wo 1<|Wo 1<|((((((h.f 6 O).f 6 O).f 6 O).f 5 O).f 5 O).f 5 O).f 6 O:)) ?_ WU.stop;refine Lb Y O fY O O O O λK=>?_;refine dK 0 (aM (kT (gN (u.parts.take g.1) ⟨[],[]⟩).2.code.length).toArray 3 (0,0)) O O<|Ln<|Eu ?_;refine Ue O (λ_ h=>by exact (Wo 1<|Wo 1<|Wo 1<|Wo 1<|Wt 7<|((((((h.f 7 O).f 7 O).f 7 O).f 6 O).f 6 O).f 6 O).f 7 O:)) ?_ WU.stop;refine LA ((gN (u.parts.take g.1) ⟨[],[]⟩).2.code.length) 5 0 Y O fY O O O O O O aj aj λl m=>?_;refine Ln<|Eu<|U0 O (λ_ h=>by exact (Wo 1<|Wo 1<|Wo 1<|Wo 1<|Wt 7<|((((((h.f 7 O).f 7 O).f 7 O).f 6 O).f 6 O).f 6 O).f 7 O:)) (bP O)<|U0 O (λ_ h=>by exact (Wo 1<|Wo 1<|Wo 1<|Wo 1<|Wt 7<|((((((h.f 7 O).f 7 O).f 7 O).f 6 O).f 6 O).f 6 O).f 7 O:)) (Yf oM O)<|U0 O (λ_ h=>by exact (Wo 1<|Wo 1<|Wo 1<|Wo 1<|Wt 7<|((((((h.f 7 O).f 7 O).f 7 O).f 6 O).f 6 O).f 6 O).f 7 O:)) (Yf wG O) ?_;refine WU.nil (λ_ h=>by exact (Wo 1<|Wo 1<|Wo 1<|Wo 1<|Wt 7<|((((((h.f 7 O).f 7 O).f 7 O).f 6 O).f 6 O).f 6 O).f 7 O:)) ?_;refine WS.e O ?_;refine aq 1 Y O O O cq O O O<|Ln<|Es ?_;refine WS.nil ?_;refine Eb<|Et<|Cr<|V0 (Yi O O O aj)<|ad O<|Ln ?_;rw [<-A,<-B];refine WE.pI 1 (tx 190 (⟨u.nm,aC b.1 u.aI.length b.2,u.data,aC l (gN (u.parts.take<|g.1+1) ⟨[],[]⟩).1.length m,an am 0⟩:q_) ⟨(gN (u.parts.take<|g.1+1) ⟨[],[]⟩).2,i.1,i.2⟩) O O ?_;exact cU ((g.1+1,(i,(l,m))):Z×(SP×SP)×SP) (by show _-(g.1+1)<_;omega) (by show g.1+1<=_;omega) (λ_ h=>by exact (Wt 6<|(((((h.f 7 O).f 7 O).f 7 O).f 6 O).f 6 O).f 6 O:))
  refine Ue O (cn [1,1,1,1]) ?_ WU.stop;refine Lf 3 O<|Lf 3 O<|Lf 3 O ?_;refine gg (Ki x.params x.locals F G) λi=>?_;refine Ln<|Eu ?_;refine Ue O (λ_ h=>by exact (Wo 1<|Wo 1<|Wo 1<|Wo 1<|((((((h.f 6 O).f 6 O).f 6 O).f 5 O).f 5 O).f 5 O).f 6 O:)) ?_ ?_;·refine V0 (Yd 0 O O O ah)<|Ln<|Eu ?_;refine Ue O (λ_ h=>by exact (Wo 1<|Wo 1<|Wo 1<|Wo 1<|((((((h.f 6 O).f 6 O).f 6 O).f 5 O).f 5 O).f 5 O).f 6 O:)) ?_ WU.stop;refine Lb Y O fY O O O O λK=>?_;refine dK 0 (aM (kT (gN (u.parts.take g.1) ⟨[],[]⟩).2.code.length).toArray 3 (0,0)) O O<|Ln<|Eu ?_;refine Ue O (λ_ h=>by exact (Wo 1<|Wo 1<|Wo 1<|Wo 1<|Wt 7<|((((((h.f 7 O).f 7 O).f 7 O).f 6 O).f 6 O).f 6 O).f 7 O:)) ?_ WU.stop;refine LA ((gN (u.parts.take g.1) ⟨[],[]⟩).2.code.length) 5 0 Y O fY O O O O O O aj aj λl m=>?_;refine Ln<|Eu<|U0 O (λ_ h=>by exact (Wo 1<|Wo 1<|Wo 1<|Wo 1<|Wt 7<|((((((h.f 7 O).f 7 O).f 7 O).f 6 O).f 6 O).f 6 O).f 7 O:)) (bP O)<|U0 O (λ_ h=>by exact (Wo 1<|Wo 1<|Wo 1<|Wo 1<|Wt 7<|((((((h.f 7 O).f 7 O).f 7 O).f 6 O).f 6 O).f 6 O).f 7 O:)) (Yf oM O)<|U0 O (λ_ h=>by exact (Wo 1<|Wo 1<|Wo 1<|Wo 1<|Wt 7<|((((((h.f 7 O).f 7 O).f 7 O).f 6 O).f 6 O).f 6 O).f 7 O:)) (Yf wG O) ?_;refine WU.nil (λ_ h=>by exact (Wo 1<|Wo 1<|Wo 1<|Wo 1<|Wt 7<|((((((h.f 7 O).f 7 O).f 7 O).f 6 O).f 6 O).f 6 O).f 7 O:)) ?_;refine WS.e O ?_;refine aq 1 Y O O O cq O O O<|Ln<|Es ?_;refine WS.nil ?_;refine Eb<|Et<|Cr<|V0 (Yi O O O aj)<|ad O<|Ln ?_;rw [<-A,<-B];refine WE.pI 1 (tx 190 (⟨u.nm,aC b.1 u.aI.length b.2,u.data,aC l (gN (u.parts.take<|g.1+1) ⟨[],[]⟩).1.length m,an am 0⟩:q_) ⟨(gN (u.parts.take<|g.1+1) ⟨[],[]⟩).2,i.1,i.2⟩) O O ?_;exact cU ((g.1+1,(i,(l,m))):Z×(SP×SP)×SP) (by show _-(g.1+1)<_;omega) (by show g.1+1<=_;omega) (λ_ h=>by exact (Wt 6<|(((((h.f 7 O).f 7 O).f 7 O).f 6 O).f 6 O).f 6 O:))
  refine Ue O (λ_ h=>by exact (Wo 1<|Wo 1<|Wo 1<|Wo 1<|((((((h.f 6 O).f 6 O).f 6 O).f 5 O).f 5 O).f 5 O).f 6 O:)) ?_ WU.stop;refine Lb Y O fY O O O O λK=>?_;refine dK 0 (aM (kT (gN (u.parts.take g.1) ⟨[],[]⟩).2.code.length).toArray 3 (0,0)) O O<|Ln<|Eu ?_;refine Ue O (λ_ h=>by exact (Wo 1<|Wo 1<|Wo 1<|Wo 1<|Wt 7<|((((((h.f 7 O).f 7 O).f 7 O).f 6 O).f 6 O).f 6 O).f 7 O:)) ?_ WU.stop;refine V0 (Yd 1 O O O ah)<|Ln<|Eu ?_;refine Ue O (λ_ h=>by exact (Wo 1<|Wo 1<|Wo 1<|Wo 1<|Wt 7<|((((((h.f 7 O).f 7 O).f 7 O).f 6 O).f 6 O).f 6 O).f 7 O:)) ?_ WU.stop;refine LA ((gN (u.parts.take g.1) ⟨[],[]⟩).2.code.length) 5 0 Y O fY O O O O O O aj aj λl m=>?_;refine Ln<|Eu<|U0 O (λ_ h=>by exact (Wo 1<|Wo 1<|Wo 1<|Wo 1<|Wt 7<|((((((h.f 7 O).f 7 O).f 7 O).f 6 O).f 6 O).f 6 O).f 7 O:)) (bP O)<|U0 O (λ_ h=>by exact (Wo 1<|Wo 1<|Wo 1<|Wo 1<|Wt 7<|((((((h.f 7 O).f 7 O).f 7 O).f 6 O).f 6 O).f 6 O).f 7 O:)) (Yf oM O)<|U0 O (λ_ h=>by exact (Wo 1<|Wo 1<|Wo 1<|Wo 1<|Wt 7<|((((((h.f 7 O).f 7 O).f 7 O).f 6 O).f 6 O).f 6 O).f 7 O:)) (Yf wG O) ?_;refine WU.nil (λ_ h=>by exact (Wo 1<|Wo 1<|Wo 1<|Wo 1<|Wt 7<|((((((h.f 7 O).f 7 O).f 7 O).f 6 O).f 6 O).f 6 O).f 7 O:)) ?_;refine WS.e O ?_;refine aq 1 Y O O O cq O O O<|Ln<|Es ?_;refine WS.nil ?_;refine Eb<|Et<|Cr<|V0 (Yi O O O aj)<|ad O<|Ln ?_;rw [<-A,<-B];refine WE.pI 1 (tx 190 (⟨u.nm,aC b.1 u.aI.length b.2,u.data,aC l (gN (u.parts.take<|g.1+1) ⟨[],[]⟩).1.length m,an am 0⟩:q_) ⟨(gN (u.parts.take<|g.1+1) ⟨[],[]⟩).2,i.1,i.2⟩) O O ?_;exact cU ((g.1+1,(i,(l,m))):Z×(SP×SP)×SP) (by show _-(g.1+1)<_;omega) (by show g.1+1<=_;omega) (λ_ h=>by exact (Wt 6<|(((((h.f 7 O).f 7 O).f 7 O).f 6 O).f 6 O).f 6 O:))
 have aA:g.1=u.parts.length:=by simp at z;omega
 rw [aA,gJ];have n:=Ia u.parts ⟨[],[]⟩;have av:(gN u.parts ⟨[],[]⟩).2.code.length<=8*mO u.parts:=by have c:=n.1.hi;simpa using c
 have aw:(gN u.parts ⟨[],[]⟩).2.fix.length<=8*mO u.parts:=by have c:=n.1.jt;simpa using c
 refine Ce<|Ex<|Ex<|dy<|Et<|ai<|ad O<|ad O<|V0 (Yf FE O)<|V0 (Yd 5 O O O ah)<|V0 (Yb Ac R5 O O) ?_;refine gg (Ki 0 0 j.main Q) λv=>?_;refine V0 (bP O)<|V0 (Yf oM O)<|V0 (Yf FO O)<|aq 0 Y O O O ei O O O<|ag<|Cs<|Cs<|gL 0 (tx 190 (⟨u.nm,aC b.1 u.aI.length b.2,u.data,aC g.2.2.1 (gN u.parts ⟨[],[]⟩).1.length g.2.2.2,an am ((gN u.parts ⟨[],[]⟩).2.code.length:ab)⟩:q_) ⟨qA 0 0 u.main (gN u.parts ⟨[],[]⟩).2,v.1,v.2⟩) O O<|Cr<|ad O ?_;refine V0 (bP O)<|V0 (Yf oM O)<|V0 (Yf p6 O)<|V0 (Yd 0 O O O ah)<|V0 (Yn hr O)<|V0 (ek O O)<|ag ?_;refine Cc O (λC=>?_)<|λC=>?_
 ·have D:2048<(sr u).g.code.length:=by have c:=C;simp at c;show 2048<(qA 0 0 u.main (gN u.parts ⟨[],[]⟩).2).code.length;omega
  refine ai<|V0 (Yb t_ Kj O O)<|aq 4 Y O O O vm O O O<|ar O<|ag<|bq<|Er ?_;refine WE.td 4 O O O O hM O λo a=>?_;rw [show iu u=(Bi,2) from by rw [iu,ao (by rw [p];decide),aU D]];exact ⟨Ie,O,a.fr,Nt _⟩
 have D:¬2048<(sr u).g.code.length:=by have c:=C;simp at c;show ¬2048<(qA 0 0 u.main (gN u.parts ⟨[],[]⟩).2).code.length;omega
 refine bO<|ai<|ad O<|V0 (bP O)<|V0 (Yf oM O)<|V0 (dv 0 O O hM O)<|aq 4 Y O O O vm O O O<|ar O<|ag<|bq ?_;refine WE.td 4 O O O O hM O λo a=>?_;rw [show iu u=(sr u,0) from by rw [iu,ao (by rw [p];decide),ao D]];exact ⟨⟨b,v.1,v.2,g.2.2⟩,O,a.fr,U.imp<|λ_ _ _ h=>ct.mono (e7 a aG T) h,a.jF 1 O c'.dA fp,a.jF 2 O hT.dA fp,a.jF 3 O zm fp⟩
def Kk (ke k:Z) (H:View) (b o:Z) (u:cD):Prop:=∃r:o5,ct H b o (hX u r)/\og ke k H r u
structure agd (us:I cD) (nu:Z) (al:aQ) (kn:I e8):Prop where
 len:kn.length=nu+1
 uc:al=ac->∀mi,0<mi->mi<=nu->kn[mi]? = aa ol
 agf:∀mi,mi<=nu->(al=ac->mi=0)->∃u,us[mi]? = aa u/\kn[mi]? = aa (ey u)
abbrev XU:=cD×o5
def XU.cells (e:XU):I aT:=hX e.1 e.2
def XU.dA (e:XU):(XU.cells e).length=5:=rfl
def XU.one (e:XU):(XU.cells e).all (·.oneCell')=ac:=rfl
def Sr (H:View) (b o:Z) (e:XU):Prop:=ct H b o<|XU.cells e
def acK {es:I XU} (h:Sl Sr 5 bt b' aK es) (hv:cV bt bX) (d:∀e ∈ es,og ae aH bX e.2 e.1):Sl (Kk ae aH) 5 bX b' aK (es.map (·.1)):=by refine ⟨by rw [fK];exact h.cap,h.max,h.spot,λi x a=>?_⟩;rw [gh] at a;obtain ⟨y,c,rfl⟩:=eD.1 a;obtain ⟨b,o,f,g⟩:=h.b7 i y c;exact ⟨b,o,f,y.2,ct.mono hv g,d y<|dJ c⟩
def Ss:hW aB 71 37 (bU #[st [],aC ak 0 0,an am 0,aC ak 0 0,aC ak 0 0]) 5 96:=jD ah
def acL (nm s:I a7):hj s [((nm,an am 1,0):fe (I a7))] (an am 0) = an am ((([nm]:I (I a7)).count s:Z):ab):=by
 by_cases h:nm=s;·subst h;simp [hj,dU]
 ·have a:¬s=nm:=λe=>h e.symm;simp [hj,dU,h,a,zG]
def acM {M:I<|fe<|I a7} (h:∀s,hj s M (an am 0) = an am ((db.count s:Z):ab)) (x:I a7) (c:Z):∀s,hj s (bB x (an am<|((db.count x:Z):ab)+1) M c) (an am 0) = an am (((db++[x]).count s:Z):ab):=by
 intro s;by_cases e:s=x;·subst e;rw [xt,C9];simp
 ·rw [Be _ M c _ e,h s,C9];have a:¬x=s:=λk=>e k.symm;simp [zG,a]
def CB:cX aB 77 1=aa 1:=ah
def xL:cX aB 77 0=aa 0:=ah
def Km:cX aB 77 2=aa 2:=ah
def xA:eP aB 62=aa 3:=ah
def rk:cX aB 62 0=aa 0:=ah
def oU:g1 aB 75=aa 3:=ah
def Kn:iC aB 198=aa 3:=ah
def Ko:eP aB 198=aa 3:=ah
def Ah:cX aB 198 0=aa 0:=ah
def Ew:cX aB 198 1=aa 1:=ah
def yh:cX aB 198 2=aa 2:=ah
def xO (H:View) (b n:Z) (x:ab) (w:aL) (c:Le H w) (d:vc H b 0=aa (an am (n:ab))) : cr aB 238 #[an am x,b0 (aa ⟨b,0,ak⟩)] w λe a=>e = ax (bV<|jw n x)/\Ext w a:=by
 refine enter func238 O 11 O O ?_;refine CE (Vs:=[H]) (Ws.init (by simp [c]))<|ai<|ar O<|ag<|ai<|ad O<|V0 (hE O O)<|ad O ?_;apply La 3 O O O O Y O O O O O;·intro g;refine Vg (Ym O)<|Vg (dQ 0 ah O O<|d)<|Vg (cP O O) ?_;exact Gt 3 O O O
 refine ar O<|ag<|bq ?_;refine R1 O O λa f=>?_;exact ⟨O,f.fr⟩
def acN (H:View) (o:d_) (q:rc) (w:aL) (aF:Le H w) (j:lA H q o) :
   cr aB 167 #[bU (cW o q).toArray] w λe v=>e = ax (an am<|kE o)/\Ext w v:=by
 have a_:=j.aI.cap;have ba:=j.aI.max;have bb:=j.code.cap;have bc:=j.code.max;have bd:=j.fix.cap;have be:=j.fix.max;have bh:=j.g5.cap;have bi:=j.g5.max;refine enter func167 O 191 O O ?_;refine CE (Vs:=[H]) (Ws.init (by simp [aF]))<|ai ?_;refine WL.box Y O O λL=>?_;refine ar O<|ag<|ai<|V0 (Yf p6 O)<|V0 (Yd 0 O O O ah)<|V0 (Yn hr O) ?_;refine Al Y O cw λr=>?_;refine aq 0 Y O O O ei O O O<|ag<|Cs<|Cs<|gL 0 (aM ([an am (o.code.length:ab)]).toArray 3 (0,0)) O O<|Cr<|V0 (Yf CB O)<|V0 (Yd 1 O O O ah)<|V0 (Yn e4 O)<|V0 (ek O O) ?_;refine ad O ?_;apply Lo 4 O O O O Y O O O O O;·intro bj;refine Vg (Yf wG O)<|Vg (Yd 1 O O O ah)<|Vg (Yn eS O)<|Vg (ek O O) ?_;exact Gt 4 O O O
 refine ad O ?_;apply Lo 2 O O O O Y O O O O O;·intro bk;refine Vg (Yd 0 O O O ah)<|Vg (cP O O) ?_;exact Gt 2 O O O
 refine ad O ?_;apply Lo 2 O O O O Y O O O O O;·intro bm;refine Vg (Yd 0 O O O ah)<|Vg (ek O O) ?_;exact Gt 2 O O O
 refine ag ?_;refine Cc O (λR=>?_)<|λR=>?_;·refine ai<|ar O<|ag<|bq<|Er ?_;refine R1 O O λv i=>?_;exact ⟨by rw [kE,aU<|show iB o=ac from R],i.fr⟩
 have B:iB o=au:=R;have bn:o.aI.length<=3:=by unfold iB at B;simp only [lN,ny] at B;omega
 refine bO<|ai ?_;refine WL.oX st Y O λM=>?_;refine V0 (Yf xL O)<|V0 (Yd 2 O O O ah) ?_;refine WL.oY 0 i2 Y i0 ah O O O O ?_;refine ad O<|ar O<|ag<|ai<|V0 (Yf xL O)<|V0 (Yd 2 O O O ah)<|Lp Y O bf O (λw i=>rG _ w)<|ad O ?_;apply La 3 O O O O Y O O O O O;·intro bo;refine Vg (Yf Km O)<|Vg (Yd 2 O O O ah)<|Vg (hE O O) ?_;exact Gt 3 O O O
 refine ad O ?_;apply La 3 O O O O Y O O O O O;·intro bp;refine Vg (Yf Km O)<|Vg (Yd 2 O O O ah)<|Vg (kM O O) ?_;exact Gt 3 O O O
 refine ar O<|ag<|Cs<|ai<|V0 (Yf CB O)<|V0 (Yd 2 O O O ah)<|V0 (Yn e4 O)<|ad O<|ag<|Cb ?_;refine dZ (ι:=Z×I (fe<|I a7)×Z×aQ) (λg=>[(58,an am (g.1:ab)),(5,bV g.2.2.2)]) [(1,_),(2,_),(3,_),(4,_),(56,_),(57,_)] (λg=>Ws w [] [aJ M<|dH st g.2.1 g.2.2.1,aJ r<|aM #[an am (o.code.length:ab)] 3 (0,0),aJ L<|aM (cW o q).toArray 77 (0,0)] [H]) (λg=>g.1<=o.aI.length/\(∀s,hj s g.2.1 (an am 0) = an am (((o.nm::o.aI.take g.1).count s:Z):ab))/\ph (o.nm::o.aI.take g.1) (o.aI.drop g.1) g.2.2.2=ph [o.nm] o.aI (uY o)) (λg=>o.aI.length-g.1) (0,[((o.nm,an am 1,0):fe (I a7))],1,uY o) ⟨de _,acL o.nm,O⟩ aR ?_;intro g ⟨br,av,C⟩;refine ai<|V0 (cP O O)<|ag<|Cs ?_;refine Cc O (λS=>?_)<|λS=>?_
 ·have k:g.1<o.aI.length:=by simpa using S
  obtain ⟨s,T⟩:=dO k;obtain ⟨aH,pos,aK,V⟩:=j.aI.b7 g.1 s T;have V:ct H aH (pos+g.1*1)<|fV s:=V;have aP:(o.nm::o.aI.take g.1)++[s]=o.nm::o.aI.take (g.1+1):=by rw [hP,T];simp
  have bs:((o.nm::o.aI.take g.1).count s:Z)<=4:=by have N:(o.nm::o.aI.take g.1).count s<=(o.nm::o.aI.take g.1).length:=K_;simp at N;omega
  refine bO<|Cs<|Cb<|ai<|V0 (Yo e4 O O aK k)<|V0 (dQ 0 ah O O<|V 0 _ O)<|ar O<|ag<|ai<|ad O<|ad O<|V0 (qk 0 i2 i0 ah cw O O O) ?_;rw [av s];refine V0 (oQ O O aj) ?_;refine WL.ql 0 i2 Y i0 ah O O O O ?_;refine ag<|Cr<|ad O<|ad O ?_;apply La 2 (x:=gm s) O O O O Y O O O O O;·intro bt;refine Vg (Ym O)<|Lp (.g O O O) O bf O (λw i=>rG _ w) ?_;exact Gt 2 O O O
  refine ad O ?_;apply La 4 (x:=(((o.nm::o.aI.take g.1).count s:Z):ab)+1==1) O O O O Y O O O O O;·intro bu;refine Vg (Ym O)<|Vg (Ym O)<|Vg (qk 0 i2 i0 ah cw O O O) ?_;rw [xt];refine Vg (bN O O) ?_;exact Gt 4 O O O
  refine ar O<|Ln<|Eb<|Et<|Cr<|V0 (Yi O O O aj)<|ad O<|Ln ?_;exact cU ((g.1+1,_,_,(g.2.2.2&&gm s)&&((((o.nm::o.aI.take g.1).count s:Z):ab)+1==1)):Z×I (fe<|I a7)×Z×aQ) (by show _-(g.1+1)<_;omega) ⟨by show g.1+1<=_;omega,by rw [<-aP];exact acM av s _,(W3 (seen:=[o.nm]) T _).symm.trans C⟩ aR
 have aS:g.1=o.aI.length:=by simp at S;omega
 rw [aS,wW] at C;have C:g.2.2.2=ph [o.nm] o.aI (uY o):=C;refine Ce<|Ex<|Ex<|dy<|Et<|Cs<|ai<|V0 (Yf p6 O)<|V0 (Yd 2 O O O ah)<|V0 (Yn hr O)<|ad O<|ag<|Cb ?_;refine dZ (ι:=Z×aQ) (λf=>[(81,an am (f.1:ab)),(5,bV f.2)]) [(1,_),(2,_),(3,_),(79,_),(80,_)] (λf=>Ws w [] [aJ M<|dH st g.2.1 g.2.2.1,aJ r<|aM #[an am (o.code.length:ab)] 3 (0,0),aJ L<|aM (cW o q).toArray 77 (0,0)] [H]) (λf=>f.1<=o.code.length/\qF (o.code.drop f.1) f.2=qF o.code (ph [o.nm] o.aI<|uY o)) (λf=>o.code.length-f.1) (0,g.2.2.2) ⟨de _,by rw [C];rfl⟩ aR ?_;intro f ⟨bv,D⟩;refine ai<|V0 (cP O O)<|ag<|Cs ?_;refine Cc O (λW=>?_)<|λW=>?_
 ·have k:f.1<o.code.length:=by simpa using W
  obtain ⟨x,t⟩:=dO k;obtain ⟨E,F,G,l⟩:=j.code.b7 f.1 x t;have l:ct H E (F+f.1*3) x.cells:=l;refine bO<|Cs<|Cb<|ai<|V0 (Yo hr O O G k)<|V0 (dG 0 v3 O O O<|l) ?_;refine Al Y O h1 λbw=>?_;refine aq 0 Y O O O xA O O O<|ag<|gL 0 (aM (x.cells).toArray 62 (0,0)) O O<|Cr<|ad O<|ad O ?_;apply La 3 O O O O Y O O O O O;·intro bx;refine Vg (Yf rk O)<|Vg (Yd 0 O O O ah)<|Vg (hE O O) ?_;exact Gt 3 O O O
  refine ad O ?_;apply La 3 O O O O Y O O O O O;·intro bz;refine Vg (Yf rk O)<|Vg (Yd 0 O O O ah)<|Vg (kM O O) ?_;exact Gt 3 O O O
  refine ar O<|Ln<|Eb<|Et<|Cr<|V0 (Yi O O O aj)<|ad O<|Ln ?_;exact cU ((f.1+1,_):Z×aQ) (by show _-(f.1+1)<_;omega) ⟨by show f.1+1<=_;omega,(W4 t _).symm.trans D⟩<|λ_ h=>Wd 1 h
 have aW:f.1=o.code.length:=by simp at W;omega
 rw [aW,wW] at D;have D:f.2=qF o.code (ph [o.nm] o.aI<|uY o):=D;refine Ce<|Ex<|Ex<|dy<|Et<|ai<|V0 (vC O)<|ar O<|ag<|Cs<|ai<|V0 (Yf wG O)<|V0 (Yd 2 O O O ah)<|V0 (Yn eS O) ?_;refine ad O<|ag<|Cb ?_;refine dZ (ι:=Z×aQ) (λd=>[(101,an am (d.1:ab)),(5,bV d.2)]) [(1,_),(2,_),(3,_),(10,_),(99,_),(100,_)] (λd=>Ws w [] [aJ M<|dH st g.2.1 g.2.2.1,aJ r<|aM #[an am (o.code.length:ab)] 3 (0,0),aJ L<|aM (cW o q).toArray 77 (0,0)] [H]) (λd=>d.1<=o.g5.length/\sF o.code.length (o.g5.drop d.1) d.2=sF o.code.length o.g5 (qF o.code<|ph [o.nm] o.aI<|uY o)) (λd=>o.g5.length-d.1) (0,f.2) ⟨de _,by rw [D];rfl⟩ aR ?_;intro d ⟨bB,J⟩;refine ai<|V0 (cP O O)<|ag<|Cs ?_;refine Cc O (λX=>?_)<|λX=>?_
 ·have k:d.1<o.g5.length:=by simpa using X
  obtain ⟨x,t⟩:=dO k;obtain ⟨E,F,G,l⟩:=j.g5.b7 d.1 x t;have l:ct H E (F+d.1*1)<|hY x:=l;refine bO<|Cs<|Cb<|ai<|V0 (Yo eS O O G k)<|V0 (dQ 0 ah O O<|l 0 _ O)<|ar O<|ag<|Cr<|ad O<|ad O ?_;apply La 3 (x:=jw o.code.length x) O O O O Y O O O O O;·intro bC;refine Vg (Ym O)<|Vg (Ym O) ?_;refine WL.ur (.g O O O) O bf O O (λw i=>xO (hv w) r o.code.length x w (b9 w)<|gx (i.pJ 1 O) O) ?_;exact Gt 3 O O O
  refine ar O<|Ln<|Eb<|Et<|Cr<|V0 (Yi O O O aj)<|ad O<|Ln ?_;exact cU ((d.1+1,d.2&&jw o.code.length x):Z×aQ) (by show _-(d.1+1)<_;omega) ⟨by show d.1+1<=_;omega,(W5 t _).symm.trans J⟩ aR
 have aX:d.1=o.g5.length:=by simp at X;omega
 rw [aX,wW] at J;have J:d.2=sF o.code.length o.g5 (qF o.code<|ph [o.nm] o.aI<|uY o):=J;refine Ce<|Ex<|Ex<|dy<|Et<|ai<|ar O<|ag<|Cs<|ai<|V0 (Yf Cy O)<|V0 (Yd 2 O O O ah)<|V0 (Yn oU O)<|ad O ?_;refine ag<|Cb ?_;refine dZ (ι:=Z×ab×aQ) (λb=>[(115,an am (b.1:ab)),(13,an am b.2.1),(5,bV b.2.2)]) [(1,_),(2,_),(3,_),(10,_),(113,_),(114,_)] (λb=>Ws w [] [aJ M<|dH st g.2.1 g.2.2.1,aJ r<|aM #[an am (o.code.length:ab)] 3 (0,0),aJ L<|aM (cW o q).toArray 77 (0,0)] [H]) (λb=>b.1<=o.fix.length/\pU o.aI.length o.code (o.fix.drop b.1) b.2.1 b.2.2=zF o) (λb=>o.fix.length-b.1) (0,-1,d.2) ⟨de _,by rw [J];rfl⟩ aR ?_;intro b ⟨bD,z⟩;refine ai<|V0 (cP O O)<|ag<|Cs ?_;refine Cc O (λae=>?_)<|λae=>?_
 ·have k:b.1<o.fix.length:=by simpa using ae
  obtain ⟨x,t⟩:=dO k;obtain ⟨E,F,G,l⟩:=j.fix.b7 b.1 x t;have l:ct H E (F+b.1*3) x.cells:=l;have n:=W6 (U:=o.aI.length) (c:=o.code) t b.2.1 b.2.2;rw [z] at n;refine bO<|Cs<|Cb<|ai<|V0 (Yo oU O O G k)<|V0 (dG 0 Kn O O O<|l) ?_;refine Al Y O FN λbF=>?_;refine aq 0 Y O O O Ko O O O<|ag<|Cs<|gL 0 (aM (x.cells).toArray 198 (0,0)) O O<|Cr<|ad O<|ad O ?_;apply La 4 O O O O Y O O O O O;·intro bG;refine Vg (Yf Ah O)<|Vg (Yd 0 O O O ah)<|Vg (Ym O)<|Vg (ek O O) ?_;exact Gt 4 O O O
  refine ad O ?_;apply La 4 (x:=jw o.code.length x.at_) O O O O Y O O O O O;·intro bH;refine Vg (Ym O)<|Vg (Yf Ah O)<|Vg (Yd 0 O O O ah) ?_;refine WL.ur (.g O O O) O bf O O (λw i=>xO (hv w) r o.code.length x.at_ w (b9 w)<|gx (i.pJ 2 O) O) ?_;exact Gt 4 O O O
  refine ar O<|ag<|Cs<|ai<|ad O<|V0 (hV O)<|ag ?_;refine Cc O (λaf=>?_)<|λaf=>?_
  ·have aw:((b.2.2&&decide (b.2.1<x.at_))&&jw o.code.length x.at_)=au:=by have N:=af;cases aY:((b.2.2&&decide (b.2.1<x.at_))&&jw o.code.length x.at_) with| false=>rfl| true=>rw [aY] at N;cases N
   rw [aU aw] at n;refine Ce<|Ex<|AH O<|Ex<|Ex<|dy<|Et<|Cs<|ai<|ad O<|V0 (hV O)<|ad O ?_;apply Lo 5 (x:=!(jw o.code.length o.main)) O O O O Y O O O O O;·intro aZ;refine Vg (Ym O)<|Vg (Yf FO O)<|Vg (Yd 3 O O O ah) ?_;refine WL.ur (.g O O O) O bf O O (λw i=>xO (hv w) r o.code.length o.main w (b9 w)<|gx (i.pJ 2 O) O) ?_;refine Vg (hV O) ?_;exact Gt 5 O O O
   refine ag ?_;refine Cc O (λu=>?_)<|λu=>?_;·refine ai<|ar O<|ag<|bq<|Er ?_;refine R1 O O λv i=>?_;exact ⟨by rw [kE,B,ao a',aU (by rw [n];rfl)],i.fr⟩
   refine bO<|ai<|ar O<|ag<|bq ?_;refine R1 O O λv i=>?_;rw [aw] at u;exact absurd u aG
  have aA:((b.2.2&&decide (b.2.1<x.at_))&&jw o.code.length x.at_)=ac:=by simpa using af
  rw [ao (by rw [aA];decide)] at n;obtain ⟨p,bI,a1⟩:=uZ (gj.1 aA).2;have aD:x.at_.toNat=p:=aj;obtain ⟨y,aE⟩:=dO a1;obtain ⟨a2,a3,a4,P⟩:=j.code.b7 p y aE;have P:ct H a2 (a3+p*3) y.cells:=P;rw [<-aD] at P;have a5:nJ o.code x.at_=y.a:=by unfold nJ;rw [aD,aE];rfl
  rw [a5] at n;refine bO<|ai<|V0 (Yf Ah O)<|V0 (Yd 0 O O O ah)<|ar O<|ag<|ai<|V0 (Yf p6 O)<|V0 (Yd 3 O O O ah)<|V0 (Yf Ah O) ?_;refine V0 (Yd 0 O O O ah)<|V0 (uq hr O O a4 aj aj)<|V0 (Yf kg O)<|V0 (dQ 0 ah O O<|P 1 _ O)<|ar O<|ag<|ai<|ad O<|V0 (hE O O) ?_;refine ad O ?_;apply La 2 O O O O Y O O O O O;·intro bJ;refine Vg (Ym O)<|Vg (kM O O) ?_;exact Gt 2 O O O
  refine ar O<|ag<|ai<|V0 (Yf Ew O)<|V0 (Yd 0 O O O ah)<|ag<|Cb<|ai<|V0 (bN O O)<|ar O<|ag ?_;refine Cc O (λal=>?_)<|λal=>?_
  ·have K:x.kind=1:=by simpa using al
   refine Cr<|ad O<|ad O ?_;apply La 3 O O O O Y O O O O O;·intro bK;refine Vg (Yf yh O)<|Vg (Yd 0 O O O ah)<|Vg (bN O O) ?_;exact Gt 3 O O O
   refine ad O ?_;apply La 3 O O O O Y O O O O O;·intro bL;refine Vg (Ym O)<|Vg (Yd 2 O O O ah)<|Vg (kM O O) ?_;exact Gt 3 O O O
   refine ar O<|Ln<|Eb<|Eb<|Et<|Cr<|V0 (Yi O O O aj)<|ad O<|Ln ?_;exact cU ((b.1+1,x.at_,((decide (0<=y.a)&&decide (y.a<=2048))&&(x.m==0))&&decide (y.a<=(o.code.length:ab))):Z×ab×aQ) (by show _-(b.1+1)<_;omega) ⟨by show b.1+1<=_;omega,(congrArg (pU o.aI.length o.code (o.fix.drop<|b.1+1) x.at_)<|show (((decide (0<=y.a)&&decide (y.a<=2048))&&(x.m==0))&&decide (y.a<=(o.code.length:ab)))=mx o.aI.length o.code.length x.kind x.m y.a from (by unfold mx;rw [aU K])).trans n.symm⟩<|λ_ h=>Wd 1 h
  have K:¬x.kind=1:=by simpa using al
  refine Cs<|ai<|V0 (bN O O)<|ar O<|ag ?_;refine Cc O (λQ=>?_)<|λQ=>?_
  ·have ap:x.kind=2:=by simpa using Q
   refine bO ?_;refine Cc O (λA=>?_)<|λA=>?_
   ·refine Cr<|ad O<|ad O ?_;apply La 3 O O O O Y O O O O O;·intro a6;refine Vg (Yf yh O)<|Vg (Yd 0 O O O ah)<|Vg (hE O O) ?_;exact Gt 3 O O O
    refine ad O ?_;apply La 6 O O O O Y O O O O O;·intro a8;refine Vg (Yf yh O)<|Vg (Yd 0 O O O ah)<|Vg (Yf CB O)<|Vg (Yd 3 O O O ah)<|Vg (Yn e4 O)<|Vg (kM O O) ?_;exact Gt 6 O O O
    refine ar O<|Ln<|Eb<|Eb<|Et<|Cr<|V0 (Yi O O O aj)<|ad O<|Ln ?_;exact cU ((b.1+1,x.at_,((decide (0<=y.a)&&decide (y.a<=2048))&&decide (0<=x.m))&&decide (x.m<=(o.aI.length:ab))):Z×ab×aQ) (by show _-(b.1+1)<_;omega) ⟨by show b.1+1<=_;omega,(congrArg (pU o.aI.length o.code (o.fix.drop<|b.1+1) x.at_)<|show (((decide (0<=y.a)&&decide (y.a<=2048))&&decide (0<=x.m))&&decide (x.m<=(o.aI.length:ab)))=mx o.aI.length o.code.length x.kind x.m y.a from (by unfold mx;rw [ao K,aU<|bA ap])).trans n.symm⟩<|λ_ h=>Wd 1 h
   refine Cr<|ar O<|Ln<|Eb<|Eb<|Et<|Cr<|V0 (Yi O O O aj)<|ad O<|Ln ?_;exact cU ((b.1+1,x.at_,au):Z×ab×aQ) (by show _-(b.1+1)<_;omega) ⟨by show b.1+1<=_;omega,(congrArg (pU o.aI.length o.code (o.fix.drop<|b.1+1) x.at_)<|show au=mx o.aI.length o.code.length x.kind x.m y.a from (by exact absurd (Q.symm.trans A) a')).trans n.symm⟩<|λ_ h=>Wd 1 h
  have ap:¬x.kind=2:=by simpa using Q
  refine Cr<|V0 (bN O O)<|ar O<|ag ?_;refine Cc O (λA=>?_)<|λA=>?_
  ·refine Cr<|ad O<|ad O ?_;apply La 3 O O O O Y O O O O O;·intro a6;refine Vg (Yf yh O)<|Vg (Yd 0 O O O ah)<|Vg (hE O O) ?_;exact Gt 3 O O O
   refine ad O ?_;apply La 6 O O O O Y O O O O O;·intro a8;refine Vg (Yf yh O)<|Vg (Yd 0 O O O ah)<|Vg (Yf CB O)<|Vg (Yd 3 O O O ah)<|Vg (Yn e4 O)<|Vg (kM O O) ?_;exact Gt 6 O O O
   refine ar O<|Ln<|Eb<|Eb<|Et<|Cr<|V0 (Yi O O O aj)<|ad O<|Ln ?_;exact cU ((b.1+1,x.at_,((decide (0<=y.a)&&decide (y.a<=2048))&&decide (0<=x.m))&&decide (x.m<=(o.aI.length:ab))):Z×ab×aQ) (by show _-(b.1+1)<_;omega) ⟨by show b.1+1<=_;omega,(congrArg (pU o.aI.length o.code (o.fix.drop<|b.1+1) x.at_)<|show (((decide (0<=y.a)&&decide (y.a<=2048))&&decide (0<=x.m))&&decide (x.m<=(o.aI.length:ab)))=mx o.aI.length o.code.length x.kind x.m y.a from (by unfold mx;rw [ao K,aU<|bl (by simpa using A)])).trans n.symm⟩<|λ_ h=>Wd 1 h
  refine Cr<|ar O<|Ln<|Eb<|Eb<|Et<|Cr<|V0 (Yi O O O aj)<|ad O<|Ln ?_;exact cU ((b.1+1,x.at_,au):Z×ab×aQ) (by show _-(b.1+1)<_;omega) ⟨by show b.1+1<=_;omega,(congrArg (pU o.aI.length o.code (o.fix.drop<|b.1+1) x.at_)<|show au=mx o.aI.length o.code.length x.kind x.m y.a from (by unfold mx;rw [ao K,ao<|λh=>h.elim ap (by simpa using A)])).trans n.symm⟩<|λ_ h=>Wd 1 h
 have a9:b.1=o.fix.length:=by simp at ae;omega
 rw [a9,wW] at z;have z:b.2.2=zF o:=z;refine Ce<|Ex<|Ex<|dy<|Et<|Cs<|ai<|ad O<|V0 (hV O)<|ad O ?_;apply Lo 5 (x:=!(jw o.code.length o.main)) O O O O Y O O O O O;·intro aZ;refine Vg (Ym O)<|Vg (Yf FO O)<|Vg (Yd 2 O O O ah) ?_;refine WL.ur (.g O O O) O bf O O (λw i=>xO (hv w) r o.code.length o.main w (b9 w)<|gx (i.pJ 1 O) O) ?_;refine Vg (hV O) ?_;exact Gt 5 O O O
 refine ag ?_;refine Cc O (λu=>?_)<|λu=>?_;·refine ai<|ar O<|ag<|bq<|Er ?_;refine R1 O O λv i=>?_;exact ⟨by rw [kE,B,ao a',<-z,aU u],i.fr⟩
 refine bO<|ai<|ar O<|ag<|bq ?_;refine R1 O O λv i=>?_;exact ⟨by rw [kE,B,ao a',<-z,ao (by rw [u];decide)],i.fr⟩
def Oy (s:I a7):(EO s).length=s.length+1:=rfl
def R2 {y:c'} (h:aP.toNat=ae) (b:nL[ae]? = aa y):nJ nL aP=y.a:=by unfold nJ;rw [h,b];rfl
def Iu:cX aB 62 2=aa 2:=ah
abbrev XO:=d_×rc
def XO.cells (e:XO):I aT:=cW e.1 e.2
def XO.dA (e:XO):(XO.cells e).length=7:=rfl
def Kq (H:View) (b o:Z) (e:XO):Prop:=ct H b o<|XO.cells e
def sE (H:View) (b o:Z) (x:d_):Prop:=∃q,ct H b o (cW x q)/\lA H q x
variable {dz:d_}
def Kr {q:rc}  (h:lA bt q dz) (hv:cV bt bX):lA bX q dz:=⟨h.aI.imp λ_ _ _ r=>ct.mono hv r,h.code.imp λ_ _ _ r=>ct.mono hv r,h.fix.imp λ_ _ _ r=>ct.mono hv r,h.g5.imp λ_ _ _ r=>ct.mono hv r⟩
def acO {es:I XO} (h:Sl Kq 7 bt b' ae es) (hv:cV bt bX) (d:∀e ∈ es,lA bX e.2 e.1):Sl sE 7 bX b' ae (es.map (·.1)):=by refine ⟨by rw [fK];exact h.cap,h.max,h.spot,λi x a=>?_⟩;rw [gh] at a;obtain ⟨y,c,rfl⟩:=eD.1 a;obtain ⟨b,o,f,g⟩:=h.b7 i y c;exact ⟨b,o,f,y.2,ct.mono hv g,d y<|dJ c⟩
def Su:hW aB 74 77 (bU #[st [],aC ak 0 0,an am 0,aC ak 0 0,aC ak 0 0,aC ak 0 0,an am 0]) 7 128:=jD ah
def Sv (a b:View) (a1 a2:az a0) (c1 c2:Z) (l:I ab) (w:aL) (o:Le a w) (p:Le b w) (c:Sl hn 1 a a1 c1 l) (f:Sl hn 1 b a2 c2 l) : cr aB 24 #[aC a1 l.length c1,aC a2 l.length c2] w λe k=>e = ax (bV ac)/\Ext w k:=by
 have A:=c.cap;have B:=c.max;have C:=f.cap;have D:=f.max;refine enter func24 O 26 O O ?_;refine CE (Vs:=[a,b]) (Ws.init (by simp [o,p]))<|ai<|ar O<|ag<|Cs<|ai<|ad O<|V0 (Yn eS O)<|ad O<|V0 (Yn eS O) ?_;refine V0 (th O O O)<|ag ?_;refine WC.r6 O ?_;refine bO<|Cs<|ai<|ar O<|ag<|Cb ?_;refine dg (ι:=Z) (λi=>[(5,an am (i:ab))]) [(0,_),(1,_)] (λi=>i<=l.length) (λi=>l.length-i) 0 (de _) ?_;intro i hi;refine Cs<|ai<|ad O<|ad O<|V0 (Yn eS O)<|V0 (cP O O)<|ag ?_;refine Cc O (λm=>?_)<|λm=>?_
 ·have q:i<l.length:=by simpa using m
  obtain ⟨x,n⟩:=dO q;obtain ⟨r,s,t,g⟩:=c.b7 i x n;obtain ⟨u,v,y,j⟩:=f.b7 i x n;have g:ct a r (s+i*1)<|hY x:=g;have j:ct b u (v+i*1)<|hY x:=j;refine bO<|Cs<|Cb<|Cs ?_;refine WC.n6 [(0,ac),(1,ac),(2,ac),(3,ac),(4,ac),(5,ac),(6,ac),(7,ac),(8,ac)] mixed ah (λ_ _ _ d _ h=>by cases d<;>exact h) ?_;refine D0 O aR (Ym O)<|D0 O aR (Ym O)<|D0 O aR (Yo eS O O t aj)<|D0 O aR (dQ 0 ah O O<|g 0 _ O)<|D0 O aR (Ym O)<|D0 O aR (Ym O)<|D0 O aR (Yo eS O O y aj)<|D0 O aR (dQ 1 ah O O<|j 0 _ O) ?_;refine D0 O aR (th O O O) ?_;refine WD.nil aR ?_;refine Et ?_;refine WC.r6 O ?_;refine Ck<|Eb<|Et<|Cr<|ad O<|V0 (Yi O O O aj)<|ar O<|Ln ?_;exact cU (i+1) aj aj aR
 refine Ce<|Ex<|Ex<|dy<|Et<|ai<|ar O<|ag<|bq ?_;refine R1 O O λk z=>?_;exact ⟨O,z.fr⟩
def acP (H:View) (ke k:Z) (u:cD) (r:o5) (w:aL) (b:Le H w) (c:og ke k H r u) (d:uG u<=1048576):cr aB 27 #[bU (hX u r).toArray] w λe a=>∃r:rc,e = ax (cN #[bU (cW (iu u).1.to r).toArray,an am (iu u).2])/\Ext w a/\lA (nv w a) r (iu u).1.to:= (acJ H ke k u r w b c d).mono λe a ⟨r,f,g,h⟩=>⟨r,by rw [f,W1],g,W2 h⟩
def FR (p:Pl) (q:SP):I aT:=[an am p.code,an am p.data,aC q.1 p.kq.length q.2]
abbrev lI:=Pl×SP
def lI.cells (e:lI):I aT:=FR e.1 e.2
def lI.dA (e:lI):(lI.cells e).length=3:=rfl
def Sw (H:View) (b o:Z) (e:lI):Prop:=ct H b o<|lI.cells e
def yi (J:View) (e:lI):Prop:=Sl rb 1 J e.2.1 e.2.2 e.1.kq
def Ks {e:lI} (hv:cV bt bX) (h:yi bt e):yi bX e:=Sl.imp (λb o x h=>ct.mono hv h) h
def Sx (H:View) (b o:Z) (p:Pl):Prop:=∃q:SP,ct H b o (FR p q)/\Sl rb 1 H q.1 q.2 p.kq
def acQ {H J N:View}   {es:I lI} (h:Sl Sw 3 H b' ae es) (hv:cV H N) (a:cV J N) (c:Xs yi J es):Sl Sx 3 N b' ae (es.map (·.1)):= xp h c λb o e d f=>⟨e.2,ct.mono hv d,Ks a f⟩
def nI (l:I d_):I Pl:=if ld l=0 then pV l++[tK l] else []
variable {cC:I d_}
def CD (h:¬ld cC=0):nI cC=[]:=by rw [nI,ao h]
structure Sy where
 i:Z
 es:I lI
 oa:SP
 J:View
def acR (l:I d_):(pV l).take l.length=pV l:=i' (by rw [wc];exact eC _)
def acS {U n:Z}  (h:mx U n aP cp hZ=ac) (a:aP=2):0<=hZ/\hZ<=2048/\0<=cp/\cp<=(U:ab):=by subst a;unfold mx at h;rw [ao a',aU<|bA rfl] at h;simp only [eW,mb] at h;omega
def nV:g1 aB 74=aa 7:=ah
def Sz:hy aB 196=aa [(0,1),(1,1),(2,1)]:=ah
def sH:zeroOf aB 196=aa (bU #[an am 0,an am 0,aC ak 0 0]):=ah
def Kt:eP aB 196=aa 3:=ah
def wI:cX aB 196 0=aa 0:=ah
def Ai:cX aB 196 1=aa 1:=ah
def FT:cX aB 196 2=aa 2:=ah
def Ku:iC aB 196=aa 3:=ah
def FU:hW aB 192 196 (bU #[an am 0,an am 0,aC ak 0 0]) 3 40:=jD ah
def wJ:g1 aB 192=aa 3:=ah
def acT (H:View) (a:az a0) (c:Z) (l:I d_) (w:aL) (bF:Le H w) (M:Sl sE 7 H a c l) :
   cr aB 101 #[aC a l.length c] w λe F=>∃q:SP,e = ax (cN #[aC q.1 (nI l).length q.2,an am (ld l)])/\Ext w F/\Sl Sx 3 (nv w F) q.1 q.2 (nI l):=by
 have cK:=M.cap;have cL:=M.max;refine enter func101 O 163 O O ?_;refine CE (Vs:=[H]) (Ws.init (by simp [bF]))<|ai<|ar O<|ar O<|ag<|Cs<|ai<|ad O<|V0 (Yn nV O)<|V0 (cP O O) ?_;refine ad O ?_;apply Lo 3 O O O O Y O O O O O;·intro bG;refine Vg (Ym O)<|Vg (Yn nV O)<|Vg (ek O O) ?_;exact Gt 3 O O O
 refine ag ?_;refine Cc O (λaA=>?_)<|λaA=>?_
 ·have L:l.length<1\/4<l.length:=by simp at aA;omega
  have v:=OE L;refine ai<|ar O<|ar O<|ag<|bq<|Er ?_;refine WE.iA O O O λF z=>?_;rw [CD (by rw [v];decide),v];exact ⟨(ak,0),O,z.fr,Sl.nil⟩
 have L:¬(l.length<1\/4<l.length):=by simp at aA;omega
 refine bO<|ai ?_;refine WL.oX st Y O λbH=>?_;refine ar O<|ag<|Cs<|ai<|ad O<|V0 (Yn nV O)<|ad O<|ag<|Cb ?_;refine dZ (ι:=Z×I (fe<|I a7)×Z) (λt=>[(33,an am (t.1:ab))]) [(0,_),(4,_),(31,_),(32,_)] (λt=>Ws w [] [aJ bH<|dH st t.2.1 t.2.2] [H]) (λt=>t.1<=l.length/\(∀o ∈ l.take t.1,kE o=0)/\u2 (hs l) t.1 t.2.1) (λt=>l.length-t.1) (0,[],0) ⟨de _,by simp,u2.zero _⟩ (λ_ h=>h) ?_;intro t ⟨bG,E,U⟩;refine ai<|V0 (cP O O)<|ag<|Cs ?_;refine Cc O (λaD=>?_)<|λaD=>?_
 ·have B:t.1<l.length:=by simpa using aD
  obtain ⟨o,u⟩:∃q,l[t.1]? = aa q:=⟨_,dh B⟩;obtain ⟨a9,a',P,Q⟩:=M.b7 t.1 o u;obtain ⟨G,S,r⟩:=Q;have V:=dJ u;have a_:=r.aI.cap;have ba:=r.aI.max;have bb:=r.fix.cap;have bc:=r.fix.max;have bd:=r.code.cap;have be:=r.code.max;refine bO<|Cs<|Cb<|ai<|V0 (Yo nV O O P B)<|V0 (dG 0 hM O O O<|S) ?_;refine Al Y O t_ λcM=>?_;refine aq 0 Y O O O vm O O O<|ag<|Cs<|Cs<|gL 0 (aM (cW o G).toArray 77 (0,0)) O O<|Cr<|V0 (dv 0 O O hM O)<|Lp Y O bf O (λw z=>acN H o G w (z.vs _ (by simp)) r)<|ar O<|ag<|ai ?_;refine ad O<|V0 (g2 O O)<|ag ?_;refine Cc O (λaE=>?_)<|λaE=>?_
  ·have D:¬kE o=0:=by simpa using aE
   have v:=Xe L u E D;refine ai<|ad O<|ar O<|ar O<|ag<|bq<|Er<|cZ<|Er<|Er<|cZ<|Er ?_;refine WE.iA O O O λF z=>?_;rw [CD (by rw [v];exact D),v];exact ⟨(ak,0),O,z.fr,Sl.nil⟩
  have D:kE o=0:=by simpa using aE
  refine bO<|Cr<|ad O<|V0 (Yf xL O)<|V0 (Yd 0 O O O ah)<|V0 (qk 1 i2 i0 ah cw O O O) ?_;rw [U.1 o.nm];refine V0 (oQ O O (by have A:((hs l).take t.1).count o.nm<=((hs l).take t.1).length:=K_;rw [lr,zJ] at A;omega)) ?_;refine WL.ql 1 i2 Y i0 ah O O O O ?_;refine Ln<|Eb<|Et<|Cr<|V0 (Yi O O O (by omega))<|ad O<|Ln ?_;exact cU ((t.1+1,_,_):Z×I (fe<|I a7)×Z) (by show _-(t.1+1)<_;omega) ⟨by show t.1+1<=_;omega,OA u E D,U.step (OD u) _⟩<|λ_ h=>Wd 1 h
 have bh:t.1=l.length:=by simp at aD;omega
 rw [bh,gJ] at E;rw [bh,<-zJ l] at U;have bi:=U.gu;refine Ce<|Ex<|Ex<|dy<|Et<|Cs<|ai<|ad O<|V0 (Dz 0 i0 O O)<|ad O<|V0 (Yn nV O)<|V0 (cP O O)<|ag ?_;refine Cc O (λaF=>?_)<|λaF=>?_
 ·have W:gV (hs l)=ac:=bi.1 (by rw [zJ];simp at aF;omega);have v:ld l=6:=by rw [EQ L E,aU W]
  refine ai<|ar O<|ar O<|ag<|bq<|Er ?_;refine WE.iA O O O λF z=>?_;rw [CD (by rw [v];decide),v];exact ⟨(ak,0),O,z.fr,Sl.nil⟩
 have W:gV (hs l)=au:=by cases bI:gV (hs l) with| false=>rfl| true=>have:=bi.2 bI;rw [zJ] at this;simp at aF;omega
 have bK:=ku.2 W;have T:=EQ L E;rw [W,ao (by decide)] at T;refine bO<|ai ?_;refine WL.oX st Y O λX=>?_;refine ar O<|ag<|ai<|ad O<|V0 (Yn nV O)<|V0 (Yi O O O (by omega))<|V0 (Yb sH Sz O O) ?_;refine Al Y O sH λae=>?_;refine aq 0 Y O O O Kt O O O<|ag<|ai<|ar O<|ag<|Cs<|Cs<|gL 0 (aM #[an am ((l.length:ab)+1),an am 0,aC ak 0 0] 196 (0,0)) O O ?_;have bL:((l.length:ab)+1)=g6 l 0:=by simp [g6,u0]
 rw [bL];refine gL 0 (aM #[an am (g6 l 0),an am (jj l 0),aC ak 0 0] 196 (0,0)) O O ?_;refine oO (λ_ h=>h.bJ 196 3) ?_;refine oO (λ_ h=>h.v0) ?_;refine Cr<|ad O<|V0 (Yn nV O)<|ad O<|ag<|Cb ?_;refine dZ (ι:=Sy) (λg=>[(60,an am (g.i:ab)),(10,aC g.oa.1 g.es.length g.oa.2)]) [(0,_),(8,_),(9,_),(58,_),(59,_)] (λg=>Ws w [] [cO 196 3 lI.cells g.oa.1 g.oa.2 g.es,aJ X<|dH st (iV ((hs l).take g.i) 0) g.i,aJ ae<|aM #[an am (g6 l g.i),an am (jj l g.i),aC ak 0 0] 196 (0,0)] [g.J,H]) (λg=>g.i<=l.length/\g.es.map (·.1)=(pV l).take g.i/\(g8 w g.J/\Xs yi g.J g.es)/\∀n o,n<g.i->l[n]? = aa o->wb ((hs l).take n) o=ac) (λg=>l.length-g.i) ⟨0,[],(ak,0),v0⟩ ⟨de _,O,⟨ec _,Xs.nil _⟩,λn o h=>absurd h<|C_ _⟩ (λ_ h=>by have h:=h.av 1 O;have h:=h.av 2 O;have h:=h.av 2 O;have h:=Wt 3 h;have h:=Ws.dr h (cB:=[v0,H]) (by simp);exact h) ?_;intro g ⟨cQ,N,⟨bj,aG⟩,bk⟩;refine ai<|V0 (cP O O)<|ag<|Cs ?_;refine Cc O (λaH=>?_)<|λaH=>?_
 ·have B:g.i<l.length:=by simpa using aH
  obtain ⟨o,u⟩:∃q,l[g.i]? = aa q:=⟨_,dh B⟩;obtain ⟨a9,a',P,Q⟩:=M.b7 g.i o u;obtain ⟨G,S,r⟩:=Q;have V:=dJ u;have a_:=r.aI.cap;have ba:=r.aI.max;have bb:=r.fix.cap;have bc:=r.fix.max;have bd:=r.code.cap;have be:=r.code.max;have D:=E o V;have af:=BI D;have cR:=af.aI;have bM:=af.code;have cS:=OI D;have bm:=OD u;have bn:=NI bK bm;have bo:((hs l).take g.i).length=g.i:=by rw [lr,zJ];omega
  have bP:(hs l).take (g.i+1)=((hs l).take g.i)++[o.nm]:=by rw [hP,bm];rfl
  have cT:=ER L E (k:=g.i) (by omega);have cV:=ES L E (k:=g.i) (by omega);have bQ:g.es.length=g.i:=by rw [<-fK,N,lr,wc];omega
  refine bO<|Cs<|Cb<|ai<|ad O<|V0 (Yo nV O O P B)<|V0 (dG 1 hM O O O<|S) ?_;refine Al Y O t_ λbR=>?_;refine ar O<|aq 0 Y O O O vm O O O<|ag<|Cs<|gL 0 (aM (cW o G).toArray 77 (0,0)) O O<|Cr<|V0 (Yf wI O)<|V0 (Yd 3 O O O ah)<|V0 (Yf Ai O) ?_;refine V0 (Yd 3 O O O ah)<|ad O ?_;refine Lb Y O fY O O O O λbS=>?_;refine dK 0 (aM ((([g.i]:I Z)).flatMap kT).toArray 3 (0,0)) O O<|LW (λ_ h=>h.qZ (f:=kT) (xs:=([g.i]:I Z)) (c:=1) 0 O zm O (by decide))<|V0 (Yb sH Sz O O) ?_;refine Al Y O sH λbT=>?_;refine aq 0 Y O O O Kt O O O<|ag<|Cs<|ai<|V0 (Yf CB O)<|V0 (Yd 2 O O O ah)<|V0 (Yn e4 O)<|ad O<|ag<|Cb ?_;refine dZ (ι:=Z×SP) (λb=>[(75,an am (b.1:ab))]) [(0,_),(8,_),(9,_),(10,_),(11,_),(12,_),(13,_),(58,_),(59,_),(60,_),(73,_),(74,_)] (λb=>Ws w [] [cO 3 1 kT b.2.1 b.2.2<|g.i::(o.aI.take b.1).map (tJ<|(hs l).take g.i),aJ bT<|aM #[an am (g6 l g.i),an am (jj l g.i),aC b.2.1 (g.i::(o.aI.take b.1).map (tJ<|(hs l).take g.i)).length b.2.2] 196 (0,0),aJ bR<|aM (cW o G).toArray 77 (0,0),cO 196 3 lI.cells g.oa.1 g.oa.2 g.es,aJ X<|dH st (iV ((hs l).take g.i) 0) g.i,aJ ae<|aM #[an am (g6 l g.i),an am (jj l g.i),aC ak 0 0] 196 (0,0)] [g.J,H]) (λb=>b.1<=o.aI.length/\((o.aI.take b.1).all λs=>(idxOf s ((hs l).take g.i) 0).isSome)=ac) (λb=>o.aI.length-b.1) (0,(aa ⟨bS,0,ak⟩,1)) ⟨de _,O⟩ (λ_ h=>by exact ((((((h.f 5 O).f 5 O).f 5 O).f 5 O).f 4 O).f 5 O:)) ?_;intro b ⟨cX,aK⟩;refine ai<|V0 (cP O O)<|ag<|Cs ?_;refine Cc O (λaP=>?_)<|λaP=>?_
  ·have B:b.1<o.aI.length:=by simpa using aP
   obtain ⟨s,aj⟩:∃q,o.aI[b.1]? = aa q:=⟨_,dh B⟩;obtain ⟨bW,pos,bX,aR⟩:=r.aI.b7 b.1 s aj;have aR:ct H bW (pos+b.1*1)<|fV s:=aR;refine bO<|Cs<|Cb<|ai<|V0 (Yo e4 O O bX B)<|V0 (dQ 1 ah O O<|aR 0 _ O)<|ar O<|ag<|ai<|ad O<|ad O<|V0 (DL 4 i2 i0 ah cw O O O) ?_;rw [(zf _ _).1,(zf _ _).2];refine ad O<|V0 (Yx O O)<|V0 (Yx O O)<|ar O<|ar O<|ag<|Cs<|ai<|ad O<|V0 (hV O) ?_;refine ag ?_;refine Cc O (λaS=>?_)<|λaS=>?_
   ·have bY:(idxOf s ((hs l).take g.i) 0).isSome=au:=by simpa using aS
    have v:ld l=9:=by rw [T,aU<|ID u ?_];rw [C',wb,yv];exact ⟨s,dJ aj,by rw [bY];decide⟩
    refine ai<|ar O<|ar O<|ag<|bq<|Er<|cZ<|Er<|Er<|cZ<|Er<|cZ<|Er<|Er<|cZ<|Er ?_;refine WE.iA O O O λF z=>?_;rw [CD (by rw [v];decide),v];exact ⟨(ak,0),O,z.fr,Sl.nil⟩
   have bZ:(idxOf s ((hs l).take g.i) 0).isSome=ac:=by simpa using aS
   refine bO<|Cr<|V0 (Yf FT O)<|V0 (Yd 1 O O O ah)<|ad O ?_;refine Lb Y O fY O O O O λcY=>?_;refine dK 0 (aM (kT<|tJ ((hs l).take g.i) s).toArray 3 (0,0)) O O ?_;refine LA (tJ ((hs l).take g.i) s) 1 0 Y O fY O O O O O O (by simp;omega) (by simp;omega) λb1 b2=>?_;rw [show (g.i::(o.aI.take b.1).map (tJ<|(hs l).take g.i))++[tJ ((hs l).take g.i) s]=(g.i::(o.aI.take<|b.1+1).map (tJ<|(hs l).take g.i)) by rw [hP,aj];simp];refine V0 (Yf FT O)<|aq 2 Y O O O cq O O O<|Ln<|Eb<|Et<|Cr<|V0 (Yi O O O (by omega))<|ad O<|Ln ?_;exact cU ((b.1+1,(b1,b2)):Z×SP) (by show _-(b.1+1)<_;omega) ⟨by show b.1+1<=_;omega,zb aj aK bZ⟩<|λ_ h=>Wd 1 h
  have b3:b.1=o.aI.length:=by simp at aP;omega
  refine Ce<|Ex<|Ex<|dy<|Et<|Cs ?_;have b4:b.1=o.aI.length:=b3;rw [b4,gJ] at aK ⊢;refine WC.pH (rd:=rb) 0 O (by simp) zm (λ_ _ _ _ h=>h) λc0 b5 b6=>?_;refine WC.jJ λb8 b9 b' ca=>?_;refine Cr<|ad O<|V0 (Yf xL O)<|V0 (Yd 1 O O O ah)<|ad O ?_;refine WL.ql 3 i2 Y i0 ah O O O O ?_;refine ag<|Cs ?_;rw [(vH bn bo).1,(vH bn bo).2,<-bP];refine Cr<|V0 (Yf wI O)<|V0 (Yd 4 O O O ah)<|V0 (Yf p6 O)<|V0 (Yd 1 O O O ah)<|V0 (Yn hr O)<|V0 (oQ O O (by omega))<|V0 (Yf wI O) ?_;refine aq 4 Y O O O ei O O O<|ag<|Cs ?_;rw [<-IF u];refine Cr<|V0 (Yf Ai O)<|V0 (Yd 4 O O O ah)<|V0 (Yf Km O)<|V0 (Yd 1 O O O ah)<|V0 (oQ O O (by omega))<|V0 (Yf Ai O)<|aq 4 Y O O O ei O O O ?_;refine ag ?_;rw [<-Xh u];refine Cr<|ad O<|V0 (dv 0 O O Ku O) ?_;refine Lb Y O FU O O O O λc1=>?_;refine dK 0 (aM (lI.cells (sI l g.i o,b.2)).toArray 196 (0,0)) O O ?_;refine LA ((sI l g.i o,b.2):lI) 3 0 Y O FU O O O O O O (by omega) (by omega) λcb cc=>?_;refine ar O<|Ln<|Eb<|Et<|Cr<|V0 (Yi O O O (by omega))<|ad O<|Ln ?_;exact cU (⟨g.i+1,g.es++[(sI l g.i o,b.2)],(cb,cc),b8⟩:Sy) (by show _-(g.i+1)<_;omega) ⟨by show g.i+1<=_;omega,by show (g.es++[(sI l g.i o,b.2)]).map (·.1)=_;rw [nY,N,Xi u];rfl,⟨ca _ b5 bj,Xs.snoc (R:=yi) (λhv h=>Ks hv h) aG b' b9 b6⟩,λn aW C A=>by
   rcases dd.1 C with h | h;·exact bk n aW h A
   ·subst h;rw [u] at A;injection A with A;subst A;exact aK⟩<|λ_ h=>Wd 3 h
 have bp:g.i=l.length:=by simp at aH;omega
 rw [bp,acR] at N;rw [bp];have bQ:g.es.length=l.length:=by rw [<-fK,N,wc]
 have br:∀n o,l[n]? = aa o->wb ((hs l).take n) o=ac:=λn o C=>bk n o (by have:=(c_.1 C).1;omega) C;rw [EP (λn o C=>by rw [br n o C];rfl),ao (by decide)] at T;refine Ce<|Ex<|Ex<|dy<|Et<|Cs<|Cs ?_;refine WC.r9 0 O (by show 0<g.es.length;omega) λc2 bs c3 c4=>?_;refine Cr<|ad O<|V0 (Yn nV O)<|ad O<|ag<|Cb ?_;refine dZ (ι:=Z) (λj=>[(118,an am (j:ab))]) [(0,_),(9,_),(10,_),(116,_),(117,_)] (λj=>Ws w [] [cO 196 3 lI.cells g.oa.1 g.oa.2 g.es,aJ X<|dH st (iV ((hs l).take l.length) 0) l.length,aJ ae<|aM #[an am (g6 l l.length),an am (jj l l.length),aC ak 0 0] 196 (0,0)] [g.J,H]) (λj=>j<=l.length/\∀n o,n<j->l[n]? = aa o->∀f ∈ o.fix,tL l n o f=au) (λj=>l.length-j) 0 ⟨de _,λn o h=>absurd h<|C_ _⟩ (λ_ h=>h) ?_;intro j ⟨c6,bt⟩;refine ai<|V0 (cP O O)<|ag<|Cs ?_;refine Cc O (λaX=>?_)<|λaX=>?_
 ·have aY:j<l.length:=by simpa using aX
  obtain ⟨o,u⟩:∃q,l[j]? = aa q:=⟨_,dh aY⟩;obtain ⟨a9,a',P,Q⟩:=M.b7 j o u;obtain ⟨G,S,r⟩:=Q;have V:=dJ u;have a_:=r.aI.cap;have ba:=r.aI.max;have bb:=r.fix.cap;have bc:=r.fix.max;have bd:=r.code.cap;have be:=r.code.max;have D:=E o V;have cd:=(zH D).2;have af:=BI D;have bM:=af.code;refine bO<|Cs<|Cb<|ai<|ad O<|V0 (Yo nV O O P aY)<|V0 (dG 1 hM O O O<|S) ?_;refine Al Y O t_ λce=>?_;refine ar O<|aq 0 Y O O O vm O O O<|ag<|Cs<|gL 0 (aM (cW o G).toArray 77 (0,0)) O O<|Cr<|V0 (Yf Cy O)<|V0 (Yd 0 O O O ah)<|V0 (Yn oU O) ?_;refine ad O<|ag<|Cb ?_;refine dZ (ι:=Z) (λk=>[(126,an am (k:ab))]) [(0,_),(9,_),(10,_),(18,_),(19,_),(116,_),(117,_),(118,_),(124,_),(125,_)] (λk=>Ws w [] [aJ ce<|aM (cW o G).toArray 77 (0,0),cO 196 3 lI.cells g.oa.1 g.oa.2 g.es,aJ X<|dH st (iV ((hs l).take l.length) 0) l.length,aJ ae<|aM #[an am (g6 l l.length),an am (jj l l.length),aC ak 0 0] 196 (0,0)] [g.J,H]) (λk=>k<=o.fix.length/\∀f ∈ o.fix.take k,tL l j o f=au) (λk=>o.fix.length-k) 0 ⟨de _,by simp⟩ (λ_ h=>h) ?_;intro k ⟨c7,aZ⟩;refine ai<|V0 (cP O O)<|ag<|Cs ?_;refine Cc O (λa1=>?_)<|λa1=>?_
  ·have B:k<o.fix.length:=by simpa using a1
   obtain ⟨x,al⟩:∃q,o.fix[k]? = aa q:=⟨_,dh B⟩;obtain ⟨cf,cg,ch,a2⟩:=r.fix.b7 k x al;have a2:ct H cf (cg+k*3) x.cells:=a2;refine bO<|Cs<|Cb<|ai<|V0 (Yo oU O O ch B)<|V0 (dG 1 Kn O O O<|a2) ?_;refine Al Y O FN λc9=>?_;refine aq 0 Y O O O Ko O O O<|ag<|Cs<|gL 0 (aM (x.cells).toArray 198 (0,0)) O O ?_;refine WC.n6 [(0,ac),(1,ac),(2,ac),(3,ac),(4,ac),(5,ac),(6,ac),(7,ac),(8,ac),(9,ac),(10,ac),(11,ac),(12,ac),(13,ac),(14,ac),(15,ac),(16,ac),(17,ac),(18,ac),(19,ac),(20,ac),(21,ac),(22,ac),(23,ac),(24,ac),(25,ac),(26,ac)] mixed (by kernel_rfl) (λ_ _ _ d _ h=>by cases d<;>exact h) ?_;refine D0 O (λ_ h=>h) (Yf Ew O)<|D0 O (λ_ h=>h) (Yd 0 O O O ah)<|D0 O (λ_ h=>h) (bN O O)<|D0 O (λ_ h=>h) (Ym O) ?_;apply WD.and 22 (x:=decide<|(zI l<|jx l j o x.m:ab)<=nJ o.code x.at_) O O O O O Y O (λ_ h=>h) O O O O
   ·intro cj;have ck:x.kind=2:=by simpa using cj
    have bu:=cd.fix x<|dJ al;obtain ⟨p,c',cl⟩:=uZ bu.1;have bv:x.at_.toNat=p:=by omega
    obtain ⟨y,bw⟩:∃y,o.code[p]? = aa y:=⟨_,dh cl⟩;obtain ⟨bx,bz,cm,ap⟩:=r.code.b7 p y bw;have ap:ct H bx (bz+p*3) y.cells:=ap;rw [<-bv] at ap;have cn:=R2 bv bw;have co:vc H bx (bz+x.at_.toNat*3+1)=aa (an am<|nJ o.code x.at_):=by rw [cn];exact ap 1 _ O
    obtain ⟨da,db,cp,cs⟩:=acS bu.2 ck;obtain ⟨cu,bB⟩:=OJ aY (br j o u) cp cs;obtain ⟨e,a3⟩:∃e,g.es[j]? = aa e:=⟨_,dh (by omega)⟩;have bC:e.1=sI l j o:=by
     have K:(g.es.map (·.1))[j]? = aa e.1:=by rw [gh,a3];rfl
     rw [N,IG u] at K;injection K with K;exact K.symm
    have a4:Sl rb 1 g.J e.2.1 e.2.2<|qG l j o:=by have K:=aG e<|dJ a3;unfold yi at K;rw [bC] at K;exact K
    have dc:=a4.cap;have df:=a4.max;have cv:=II l j o;have dg:(sI l j o).kq.length=o.aI.length+1:=cv;obtain ⟨cx,cy,cz,a5⟩:=a4.b7 x.m.toNat _ cu;have a5:ct g.J cx (cy+x.m.toNat*1)<|kT<|jx l j o x.m:=a5;obtain ⟨aw,bD⟩:∃aw,l[jx l j o x.m]? = aa aw:=⟨_,dh bB⟩;obtain ⟨di,dj,cA,dk,cC,dl⟩:=M.b7 _ aw bD;have cD:zI l (jx l j o x.m)=aw.g5.length:=by unfold zI;rw [bD];rfl
    refine Dq O (.g O O O) O (λ_ h=>h) (Yf p6 O)<|Dq O (.g O O O) O (λ_ h=>h) (Yd 1 O O O ah)<|Dq O (.g O O O) O (λ_ h=>h) (Yf Ah O)<|Dq O (.g O O O) O (λ_ h=>h) (Yd 0 O O O ah)<|Dq O (.g O O O) O (λ_ h=>h) (uq hr O O cm (by omega) (by omega))<|Dq O (.g O O O) O (λ_ h=>h) (Yf kg O)<|Dq O (.g O O O) O (λ_ h=>h) (dQ 1 ah O O<|co)<|Dq O (.g O O O) O (λ_ h=>h) (Ym O) ?_;refine Dq O (.g O O O) O (λ_ h=>h) (Ym O)<|Dq O (.g O O O) O (λ_ h=>h) (Ym O)<|Dq O (.g O O O) O (λ_ h=>h) (Yo wJ O O bs (by omega))<|Dq O (.g O O O) O (λ_ h=>h) (Yf FT O)<|Dq O (.g O O O) O (λ_ h=>h) (m9 (y:=e) 2 j 2 O O bs O lI.dA a3 (by rw [show lI.cells e=FR e.1 e.2 from O,bC];rfl) ah)<|Dq O (.g O O O) O (λ_ h=>h) (Yf yh O)<|Dq O (.g O O O) O (λ_ h=>h) (Yd 0 O O O ah)<|Dq O (.g O O O) O (λ_ h=>h) (uq eS O O cz (by omega) (by omega)) ?_;refine Dq O (.g O O O) O (λ_ h=>h) (dQ 0 ah O O<|a5 0 _ O)<|Dq O (.g O O O) O (λ_ h=>h) (Yo nV O O cA bB)<|Dq O (.g O O O) O (λ_ h=>h) (Yf wG O)<|Dq O (.g O O O) O (λ_ h=>h) (dQ 1 ah O O<|cC 5 _ O)<|Dq O (.g O O O) O (λ_ h=>h) (Yn eS O) ?_;rw [<-cD];refine Dq O (.g O O O) O (λ_ h=>h) (hE O O) ?_;exact Gi 22 (λ_ h=>h) O O O
   refine WD.nil (λ_ h=>h) ?_;refine Et ?_;refine Cc O (λa6=>?_)<|λa6=>?_
   ·have a8:tL l j o x=ac:=a6;have v:ld l=5:=by rw [T,aU<|ID (p:=λn o=>o.fix.any<|tL l n o) u ?_];rw [s8];exact ⟨x,dJ al,a8⟩
    refine ai<|ar O<|ar O<|ag<|bq<|cZ<|Er<|Er<|cZ<|cZ<|Er<|Er<|cZ<|Er ?_;refine WE.iA O O O λF z=>?_;rw [CD (by rw [v];decide),v];exact ⟨(ak,0),O,z.fr,Sl.nil⟩
   have a8:tL l j o x=au:=a6;refine Ck<|Eb<|Et<|Cr<|V0 (Yi O O O (by omega))<|ad O<|Ln ?_;exact cU (k+1) (by omega) ⟨by omega,OA al aZ a8⟩<|λ_ h=>Wd 1 h
  have cE:k=o.fix.length:=by simp at a1;omega
  rw [cE,gJ] at aZ;refine Ce<|Ex<|Ex<|dy<|Eb<|Et<|Cr<|V0 (Yi O O O (by omega))<|ad O<|Ln ?_;exact cU (j+1) (by omega) ⟨by omega,λn aW C A=>by
   rcases dd.1 C with h | h;·exact bt n aW h A
   ·subst h;rw [u] at A;injection A with A;subst A;exact aZ⟩<|λ_ h=>Wd 1 h
 have dm:j=l.length:=by simp at aX;omega
 have v:ld l=0:=by rw [T,EP<|λn o C=>?_,ao (by decide)];rw [wV];intro f cF;rw [bt n o (by have:=(c_.1 C).1;omega) C f cF];decide
 refine Ce<|Ex<|Ex<|dy<|Et<|ai<|ad O<|V0 (dv 2 O O Ku O) ?_;refine Lb Y O FU O O O O λdn=>?_;refine dK 0 (aM (lI.cells (tK l,((ak,0):SP))).toArray 196 (0,0)) O O ?_;refine LA ((tK l,(ak,0)):lI) 1 0 Y O FU O O O O O O (by omega) (by omega) λcG cH=>?_;refine ar O<|ar O<|ag<|bq ?_;refine WE.iA O O O λF z=>?_;have cI:nI l=(g.es++[(tK l,((ak,0):SP))]).map (·.1):=by rw [nI,aU v,nY,N];rfl
 rw [v,cI];have cJ:=z.jF (rd:=Sw) 1 rfl lI.dA<|λ_ _ _ _ h=>h;exact ⟨(cG,cH),by rw [fK],z.fr,acQ (J:=g.J) cJ (λ_ _ h=>h) (e7 z (by simp) bj)<|Xs.snoc (R:=yi) (λhv h=>Ks hv h) aG (λ_ _ h=>h) (λ_ _ h=>h) Sl.nil⟩
def c'.acU (x:c'):x.cells.all (·.oneCell')=ac:=rfl
def acV (h:¬ld cC=0):eq cC=(([],0),ld cC):=by rw [eq,aU h]
def acW (h:ld cC=0) (a:2048<g6 cC cC.length\/512<jj cC cC.length):eq cC=(([],0),2):=by rw [eq,ao<|λe=>e h,aU a]
def acX (h:ld cC=0) (a:¬(2048<g6 cC cC.length\/512<jj cC cC.length)):eq cC=((OK cC,jj cC cC.length),0):=by rw [eq,ao<|λe=>e h,ao a]
def acY {U n:Z}  (h:mx U n aP cp hZ=ac):(aP=1\/aP=2\/aP=3)/\0<=hZ/\hZ<=2048/\0<=cp/\cp<=(U:ab):=by
 unfold mx at h;split at h;·simp only [eW,mb,j8] at h;omega
 ·split at h;·simp only [eW,mb] at h;omega
  ·cases h
def acZ (l:I d_):(ru l).take l.length=ru l:=i' (by rw [EU];exact eC _)
def ac0 (l:I d_):ru l++[(⟨20,0,0⟩:c')]=jk l 0:=by unfold jk;rw [OM,qd]
def SA (h:cC[ae]? = aa dz):g6 cC ae+(dz.code.length:ab)<=g6 cC cC.length:=by
 rw [<-IF h];have hi:=(c_.1 h).1;have a:∀k,ae+1+k<=cC.length->g6 cC (ae+1)<=g6 cC (ae+1+k):=λk=>by induction k with| zero=>intro _;exact zq _| succ k b=>intro d;obtain ⟨q,c⟩:∃q,cC[ae+1+k]? = aa q:=⟨_,dh (by omega)⟩;have:=b (by omega);have e:=IF c;show g6 cC (ae+1)<=g6 cC (ae+1+k+1);omega
 have:=a (cC.length-(ae+1)) (by omega);rwa [show ae+1+(cC.length-(ae+1))=cC.length by omega] at this
def qE:zeroOf aB 57=aa (bU #[aC ak 0 0,an am 0]):=ah
def wa:hy aB 57=aa [(0,1),(1,1)]:=ah
def rr:eP aB 57=aa 2:=ah
def ow:iC aB 57=aa 2:=ah
def cH:cX aB 57 0=aa 0:=ah
def ac1 (H:View) (a:az a0) (c:Z) (l:I d_) (w:aL) (bn:Le H w) (C:Sl sE 7 H a c l) : cr aB 28 #[aC a l.length c] w λe G=>∃q:SP,e = ax (cN #[bU #[aC q.1 (eq l).1.1.length q.2,an am (eq l).1.2],an am (eq l).2])/\Ext w G/\Sl kf 3 (nv w G) q.1 q.2 (eq l).1.1:=by
 have cx:=C.cap;have cy:=C.max;refine enter func28 O 160 O O ?_;refine CE (Vs:=[H]) (Ws.init (by simp [bn]))<|ai ?_;refine Al Y O qE λal=>?_;refine ar O<|ag<|ai<|ad O ?_;refine Ld Y O bf O (λq:SP=>cN #[aC q.1 (nI l).length q.2,an am (ld l)]) (λbo q=>Sl Sx 3 bo q.1 q.2<|nI l) (λw t=>acT H a c l w t.V C) ?_;intro v cz cA z;refine ad O<|V0 (Yx O O)<|V0 (Yx O O)<|ar O<|ar O<|ag<|Cs<|ai<|ad O<|V0 (g2 O O) ?_;refine ag ?_;refine Cc O (λap=>?_)<|λap=>?_
 ·have D:¬ld l=0:=by simpa using ap
  refine ai<|V0 (Yb qE wa O O)<|ad O<|aq 0 Y O O O rr O O O<|ar O<|ag<|bq<|Er ?_;refine WE.gt (hG O (e1 0 O O ow O)<|ja O) λG t=>?_;rw [acV D];exact ⟨(ak,0),O,t.fr,Sl.nil⟩
 have D:ld l=0:=by simpa using ap
 have j:=Xg.1 D;have bp:nI l=pV l++[tK l]:=by rw [nI,aU D]
 rw [bp] at z ⊢;have cB:=z.cap;have cC:=z.max;have cD:=wc l;have cE:=j.gu;obtain ⟨cG,cI,br,bs,bt,cJ⟩:=z.b7 l.length _<|Xj l;have cK:(pV l++[tK l]).length=l.length+1:=by simp [wc]
 refine bO<|ai<|ad O<|ad O<|V0 (Yn nV O)<|V0 (Yo (i:=l.length) wJ O O br aj)<|V0 (dG 0 Ku O O O<|bt) ?_;refine Al Y O sH λcL=>?_;refine aq 0 Y O O O Kt O O O<|ag<|Cs<|Cs<|gL 0 (aM (FR (tK l) bs).toArray 196 (0,0)) O O<|Cr<|V0 (Yf wI O)<|V0 (Yd 0 O O O ah)<|V0 (ek O O)<|ad O ?_;apply Lo 3 O O O O Y O O O O O;·intro cM;refine Vg (Yf Ai O)<|Vg (Yd 0 O O O ah)<|Vg (ek O O) ?_;exact Gt 3 O O O
 refine ag ?_;refine Cc O (λav=>?_)<|λav=>?_
 ·have aw:2048<g6 l l.length\/512<jj l l.length:=by have E:=av;simp only [s0,mb] at E;exact E
  refine ai<|V0 (Yb qE wa O O)<|aq 1 Y O O O rr O O O<|ar O<|ag<|bq<|Er ?_;refine WE.gt (hG O (e1 1 O O ow O)<|ja O) λG t=>?_;rw [acW D aw];exact ⟨(ak,0),O,t.fr,Sl.nil⟩
 have aw:¬(2048<g6 l l.length\/512<jj l l.length):=by have E:=av;simp only [lN,ny] at E;exact λh=>h.elim E.1 E.2
 refine bO<|ai<|V0 (Yf Ai O)<|V0 (Yd 0 O O O ah)<|V0 (Yb qE wa O O) ?_;refine Al Y O qE λaA=>?_;refine aq 0 Y O O O rr O O O<|ag<|Cs<|Cs<|gL 0 (aM #[aC ak 0 0,an am (jj l l.length)] 57 (0,0)) O O ?_;refine oO (λ_ h=>h.bJ 62 3) ?_;refine Cr<|ad O<|V0 (Yn nV O)<|ad O<|ag<|Cb ?_;refine dZ (ι:=Z×SP) (λg=>[(44,an am (g.1:ab))]) [(0,_),(2,_),(3,_),(4,_),(7,_),(42,_),(43,_)] (λg=>Ws w [] [cO 62 3 c'.cells g.2.1 g.2.2<|(ru l).take g.1,aJ aA<|aM #[aC g.2.1 ((ru l).take g.1).length g.2.2,an am (jj l l.length)] 57 (0,0),aJ al<|aM #[aC ak 0 0,an am 0] 57 (0,0)] [v,H]) (λg=>g.1<=l.length) (λg=>l.length-g.1) (0,(ak,0)) (de _) (λ_ h=>(Wt 3<|((h.f 3 O).f 2 O).f 2 O:)) ?_;intro g cQ;refine ai<|V0 (cP O O)<|ag<|Cs ?_;refine Cc O (λaD=>?_)<|λaD=>?_
 ·have J:g.1<l.length:=by simpa using aD
  obtain ⟨o,s⟩:=dO J;obtain ⟨bu,bv,aE,aF⟩:=C.b7 g.1 o s;obtain ⟨Q,aH,r⟩:=aF;have R:=dJ s;have bw:=r.aI.cap;have bx:=r.aI.max;have bz:=r.fix.cap;have bB:=r.fix.max;have bC:=r.code.cap;have bD:=r.code.max;obtain ⟨aK,aP,K,bF,S,T⟩:=z.b7 g.1 _<|IH s;have U:vc v aK (aP+g.1*3+0)=aa (an am<|g6 l g.1):=S 0 _ rfl;have bG:=ER j.gu j.rt (k:=g.1) aj;have bH:=ES j.gu j.rt (k:=g.1) aj;have bI:=SA s;have bK:=(zH<|j.rt o R).2.main;obtain ⟨cR,cS,cT⟩:=uZ bK;have bL:((ru l).take g.1).length=g.1:=by rw [lr,EU];omega
  refine bO<|Cs<|Cb<|ai<|ad O<|V0 (Yo nV O O aE J)<|V0 (dG 1 hM O O O<|aH) ?_;refine Al Y O t_ λcV=>?_;refine ar O<|aq 0 Y O O O vm O O O<|ag<|gL 0 (aM (cW o Q).toArray 77 (0,0)) O O ?_;refine CU (λ_=>ac) [1] [13,14] (.q au 0<|.q ac 1<|.q au 2<|.q au 3<|.q au 4<|.q au 5<|.q ac 6<|.q au 7<|.q ac 8<|.q au 9<|.q au 10<|.e 11 (.e 12 .nil .stop) .stop) mixed ah (λ_ _ _ d _ _ h=>by cases d<;>exact h) ?_;refine U0 O (Wp 1) (Yf cH O)<|U0 O (Wp 1) (Yd 1 O O O ah)<|U0 O (Wp 1) (Ym O)<|U0 O (Wp 1) (Ym O)<|U0 O (Wp 1) (Yo wJ O O K aj)<|U0 O (Wp 1) (Yf wI O)<|U0 O (Wp 1) (dQ 0 ah O O<|U)<|U0 O (Wp 1) (Yf FO O) ?_;refine U0 O (Wp 1) (Yd 0 O O O ah)<|U0 O (Wp 1) (oQ O O aj)<|U0 O (Wp 1) (Yb h1 iI O O) ?_;refine Ue O (Wp 1) ?_ WU.stop;refine Lb Y O jQ O O O O λcX=>?_;refine dK 0 (aM (c'.cells ⟨13,g6 l g.1+o.main,0⟩).toArray 62 (0,0)) O O<|Ln<|Eu ?_;refine Ue O (λ_ h=>(Wo 1<|Wd 1 h:)) ?_ WU.stop;refine LA (⟨13,g6 l g.1+o.main,0⟩:c') 2 0 Y O jQ O O O O O O aj aj λbM bQ=>?_;rw [<-Xp s];refine Ln<|Eu ?_;refine WU.nil (λ_ h=>(Wo 1<|Wd 1 h:)) ?_;refine WS.e O ?_;refine V0 (Yf cH O)<|Ln<|Es ?_;refine WS.e O ?_;refine aq 3 Y O O O BG O O O<|Ln<|Es ?_;refine WS.nil ?_;refine Eb<|Et<|Cr<|V0 (Yi O O O aj)<|ad O<|Ln ?_;exact cU ((g.1+1,(bM,bQ)):Z×SP) (by show _-(g.1+1)<_;omega) (by show g.1+1<=_;omega)<|λ_ h=>Wd 2 h
 have bR:g.1=l.length:=by simp at aD;omega
 rw [bR,acZ];have bL:=EU l;refine Ce<|Ex<|Ex<|dy<|Et<|ai<|V0 (Yf cH O)<|V0 (Yd 1 O O O ah)<|V0 (Yb h1 iI O O) ?_;refine Lb Y O jQ O O O O λcY=>?_;refine dK 0 (aM (c'.cells ⟨20,0,0⟩).toArray 62 (0,0)) O O ?_;refine LA (⟨20,0,0⟩:c') 1 0 Y O jQ O O O O O O aj aj λbS bT=>?_;rw [ac0];refine V0 (Yf cH O)<|aq 2 Y O O O BG O O O<|ag<|Cs<|ai<|ad O<|V0 (Yn nV O)<|ad O<|ag<|Cb ?_;refine dZ (ι:=Z×SP) (λe=>[(72,an am (e.1:ab))]) [(0,_),(2,_),(3,_),(4,_),(7,_),(70,_),(71,_)] (λe=>Ws w [] [cO 62 3 c'.cells e.2.1 e.2.2<|jk l e.1,aJ aA<|aM #[aC e.2.1 (jk l e.1).length e.2.2,an am (jj l l.length)] 57 (0,0),aJ al<|aM #[aC ak 0 0,an am 0] 57 (0,0)] [v,H]) (λe=>e.1<=l.length) (λe=>l.length-e.1) (0,(bS,bT)) (de _) (λ_ h=>(Wt 3<|((h.f 3 O).f 3 O).f 3 O:)) ?_;intro e cZ;refine ai<|V0 (cP O O)<|ag<|Cs ?_;refine Cc O (λaS=>?_)<|λaS=>?_
 ·have aW:e.1<l.length:=by simpa using aS
  obtain ⟨o,s⟩:=dO aW;obtain ⟨bu,bv,aE,aF⟩:=C.b7 e.1 o s;obtain ⟨Q,aH,r⟩:=aF;have R:=dJ s;have bw:=r.aI.cap;have bx:=r.aI.max;have bz:=r.fix.cap;have bB:=r.fix.max;have bC:=r.code.cap;have bD:=r.code.max;obtain ⟨aK,aP,K,bF,S,T⟩:=z.b7 e.1 _<|IH s;have U:vc v aK (aP+e.1*3+0)=aa (an am<|g6 l e.1):=S 0 _ rfl;have bG:=ER j.gu j.rt (k:=e.1) aj;have bH:=ES j.gu j.rt (k:=e.1) aj;have bI:=SA s;have bW:=Xq (l:=l) (i:=e.1) aj;have ba:=(zH<|j.rt o R).2;have bX:=BI<|j.rt o R;have c0:=bX.code;have c1:=T.cap;have c2:=T.max;have bY:=II l e.1 o;have c3:(sI l e.1 o).kq.length=o.aI.length+1:=bY;refine bO<|Cs<|Cb<|ai<|ad O<|V0 (Yo nV O O aE aW)<|V0 (dG 1 hM O O O<|aH) ?_;refine Al Y O t_ λbZ=>?_;refine ar O<|aq 0 Y O O O vm O O O<|ag<|Cs<|gL 0 (aM (cW o Q).toArray 77 (0,0)) O O<|Cr<|V0 (Yf cH O)<|V0 (Yd 2 O O O ah)<|V0 (Yf p6 O) ?_;refine V0 (Yd 0 O O O ah) ?_;refine WL.vF (f:=c'.cells) (rd:=kf) (xs:=jk l e.1) (ys:=o.code) 1 (λ_=>H) Y O jQ O O O (λw t=>⟨t.vs H aG,r.code⟩) fp c'.dA c'.acU aj aj λaX aY=>?_;refine V0 (Yf cH O)<|aq 2 Y O O O BG O O O<|ag<|ai<|V0 (Yf Cy O)<|V0 (Yd 0 O O O ah)<|V0 (Yn oU O)<|ad O<|ag<|Cb ?_;refine dZ (ι:=Z) (λk=>[(86,an am (k:ab))]) [(0,_),(2,_),(3,_),(4,_),(7,_),(10,_),(70,_),(71,_),(72,_),(84,_),(85,_)] (λk=>Ws w [] [cO 62 3 c'.cells aX aY<|jk l e.1++nK l e.1 o o.code (o.fix.take k),aJ bZ<|aM (cW o Q).toArray 77 (0,0),aJ aA<|aM #[aC aX (jk l e.1++o.code).length aY,an am (jj l l.length)] 57 (0,0),aJ al<|aM #[aC ak 0 0,an am 0] 57 (0,0)] [v,H]) (λk=>k<=o.fix.length) (λk=>o.fix.length-k) 0 (de _) (λ_ h=>((((h.f 3 O).f 3 O).f 2 O).f 3 O:)) ?_;intro k c4;refine ai<|V0 (cP O O)<|ag<|Cs ?_;refine Cc O (λaZ=>?_)<|λaZ=>?_
  ·have J:k<o.fix.length:=by simpa using aZ
   obtain ⟨x,A⟩:=dO J;obtain ⟨b1,b2,b3,a1⟩:=r.fix.b7 k x A;have a1:ct H b1 (b2+k*3) x.cells:=a1;have bb:=ba.fix x<|dJ A;obtain ⟨c6,b4,b5,b6,b8⟩:=acY bb.2;obtain ⟨p,b9,b'⟩:=uZ bb.1;have L:x.at_.toNat=p:=aj;obtain ⟨y,bc⟩:=dO b';have M:=R2 L bc;rw [M] at b4 b5;have W:(nK l e.1 o o.code<|o.fix.take k)[p]? = aa y:=by have bd:=Xo (l:=l) (n:=e.1) ba A;rw [L] at bd;rw [bd,bc]
   have F:(jk l e.1++nK l e.1 o o.code (o.fix.take k))[(jk l e.1).length+p]? = aa y:=by rw [r4 aj,sQ];exact W
   obtain ⟨ca,be⟩:=OJ aW (j.known e.1 o s) b6 b8;obtain ⟨cb,cc,cd,a2⟩:=T.b7 x.m.toNat _ ca;have a2:ct v cb (cc+x.m.toNat*1)<|kT<|jx l e.1 o x.m:=a2;obtain ⟨X,N⟩:=dO be;obtain ⟨c7,c9,ce,c_,cf,a3⟩:=C.b7 _ X N;obtain ⟨bh,bi,bj,da,bk,db⟩:=z.b7 _ _<|IH N;have cg:vc v bh (bi+jx l e.1 o x.m*3+0)=aa (an am<|g6 l<|jx l e.1 o x.m):=bk 0 _ rfl;have ch:vc v bh (bi+jx l e.1 o x.m*3+1)=aa (an am<|jj l<|jx l e.1 o x.m):=bk 1 _ rfl;have dc:=ER j.gu j.rt (k:=jx l e.1 o x.m) aj;have dd:=ES j.gu j.rt (k:=jx l e.1 o x.m) aj;have df:(nK l e.1 o o.code<|o.fix.take k).length=o.code.length:=ET _ _ _ _ _;refine bO<|Cs<|Cb<|ai<|V0 (Yo oU O O b3 J)<|V0 (dG 1 Kn O O O<|a1) ?_;refine Al Y O FN λdg=>?_;refine aq 0 Y O O O Ko O O O<|ag<|Cs<|gL 0 (aM (x.cells).toArray 198 (0,0)) O O ?_;refine WC.r9 1 O (by simp only [e_];omega) λdh B di dj=>?_;refine WC.n6 [(0,ac),(1,ac),(2,ac),(3,ac),(4,ac),(5,ac),(6,ac),(7,ac),(8,ac),(9,ac),(10,ac),(11,ac),(12,ac)] mixed ah (λ_ _ _ d _ h=>by cases d<;>exact h) ?_;refine D0 O aR (Yf cH O)<|D0 O aR (Yd 3 O O O ah)<|D0 O aR (Ym O)<|D0 O aR (Ym O)<|D0 O aR (Yo wJ O O K aj)<|D0 O aR (Yf wI O)<|D0 O aR (dQ 0 ah O O<|U)<|D0 O aR (Yf Ah O) ?_;refine D0 O aR (Yd 0 O O O ah)<|D0 O aR (n7 (a:=(jk l e.1).length) (b:=p) O O bW.symm b9 aj)<|D0 O aR (Yo (i:=(jk l e.1).length+p) hr O O B (by simp only [e_];omega))<|D0 O aR (Yf kg O)<|D0 O aR (Ya O) ?_;refine WD.nil aR ?_;refine Et<|Cs ?_;refine WC.n6 [(0,ac),(1,ac),(2,ac),(3,ac),(4,ac),(5,ac),(6,ac),(7,ac),(8,ac),(9,ac)] mixed ah (λ_ _ _ d _ h=>by cases d<;>exact h) ?_;refine D0 O aR (Ym O)<|D0 O aR (Ym O)<|D0 O aR (Yo wJ O O K aj)<|D0 O aR (Yf FT O)<|D0 O aR (dQ 0 ah O O<|S 2 _ O)<|D0 O aR (Yf yh O)<|D0 O aR (Yd 0 O O O ah)<|D0 O aR (uq eS O O cd aj aj) ?_;refine D0 O aR (dQ 0 ah O O<|a2 0 _ O)<|D0 O aR (Ya O) ?_;refine WD.nil aR ?_;refine Et<|ai<|V0 (Yf Ew O)<|V0 (Yd 0 O O O ah)<|ag<|Cb<|ai<|V0 (bN O O)<|ar O<|ag ?_;refine Cc O (λa4=>?_)<|λa4=>?_
   ·have ae:x.kind=1:=by simpa using a4
    refine CU (λ_=>ac) [] [9,10] (.q au 0<|.q au 1<|.q ac 2<|.q au 3<|.q au 4<|.q au 5<|.q au 6<|.q ac 7<|.q au 8 .nil) mixed ah (λ_ _ _ d _ _ h=>by cases d<;>exact h) ?_;refine U0 O aR (Ym O)<|U0 O aR (bP O)<|U0 O aR (m9 (y:=y) 1 ((jk l e.1).length+p) 1 O O B aj c'.dA F O ah)<|U0 O aR (Ym O)<|U0 O aR (Ym O)<|U0 O aR (Yo wJ O O K aj)<|U0 O aR (Yf wI O)<|U0 O aR (dQ 0 ah O O<|U) ?_;refine U0 O aR (oQ O O aj) ?_;refine WU.nil aR ?_;refine WS.e O ?_;refine V0 (bP O)<|Ln<|Es ?_;refine WS.e O ?_;refine WL.storeT (y:=y) 1 ((jk l e.1).length+p) 1 ⟨y.op,y.a+g6 l e.1,y.b⟩ Y O O O B aj c'.dA F ei O O a' O ?_;have P:iO l e.1 o x=y.a+g6 l e.1:=by unfold iO;rw [M];rw [aU ae]
    rw [IL (l:=l) (n:=e.1) (o:=o) (c:=nK l e.1 o o.code<|o.fix.take k) (p:=p) (x:=y) (y.a+g6 l e.1) W,<-P,<-L,<-IK A];refine Ln<|Es ?_;refine WS.nil ?_;refine Eb<|Eb<|Et<|Cr<|V0 (Yi O O O aj)<|ad O<|Ln ?_;exact cU (k+1) aj aj<|λ_ h=>Wd 1 h
   have ae:¬x.kind=1:=by simpa using a4
   refine ai<|V0 (bN O O)<|ar O<|ag ?_;refine Cc O (λa5=>?_)<|λa5=>?_
   ·have af:x.kind=2:=by simpa using a5
    have a6:=j.jP e.1 o s x<|dJ A;have cj:zI l (jx l e.1 o x.m)=X.g5.length:=by unfold zI;rw [N];rfl
    have ck:y.a.toNat<X.g5.length:=by unfold tL at a6;rw [af,cj,M] at a6;simp at a6;omega
    obtain ⟨u,a8⟩:=dO ck;obtain ⟨cl,cm,cn,a9⟩:=a3.g5.b7 _ u a8;have a9:ct H cl (cm+y.a.toNat*1)<|hY u:=a9;have dk:=a3.g5.cap;have dl:=a3.g5.max;have co:IJ l (jx l e.1 o x.m) y.a=u:=by unfold IJ;rw [N,cF,a8];rfl
    have dm:0<=u/\u<=2048:=by have bm:=j.rt X<|dJ N;obtain ⟨dn,dp,dq⟩:=uZ<|(zH bm).2.g5 u<|dJ a8;have:=(BI bm).code;omega
    refine CU (λ_=>ac) [] [17,18] (.q au 0<|.q au 1<|.q au 2<|.q au 3<|.q au 4<|.q ac 5<|.q au 6<|.q au 7<|.q au 8<|.q au 9<|.q ac 10<|.q au 11<|.q au 12<|.q ac 13<|.q au 14<|.q ac 15<|.q au 16 .nil) mixed ah (λ_ _ _ d _ _ h=>by cases d<;>exact h) ?_;refine U0 O aR (Ym O)<|U0 O aR (Ym O)<|U0 O aR (Ym O)<|U0 O aR (Yo wJ O O bj aj)<|U0 O aR (Yf wI O)<|U0 O aR (dQ 0 ah O O<|cg)<|U0 O aR (Ym O)<|U0 O aR (Ym O) ?_;refine U0 O aR (Yo nV O O ce be)<|U0 O aR (Yf wG O)<|U0 O aR (dQ 1 ah O O<|cf 5 _ O)<|U0 O aR (Ym O)<|U0 O aR (bP O)<|U0 O aR (m9 (y:=y) 1 ((jk l e.1).length+p) 1 O O B aj c'.dA F O ah)<|U0 O aR (uq eS O O cn aj aj)<|U0 O aR (dQ 1 ah O O<|a9 0 _ O) ?_;refine U0 O aR (oQ O O aj) ?_;refine WU.nil aR ?_;refine WS.e O ?_;refine V0 (bP O)<|Ln<|Es ?_;refine WS.e O ?_;refine WL.storeT (y:=y) 1 ((jk l e.1).length+p) 1 ⟨y.op,g6 l (jx l e.1 o x.m)+u,y.b⟩ Y O O O B aj c'.dA F ei O O a' O ?_;have P:iO l e.1 o x=g6 l (jx l e.1 o x.m)+u:=by unfold iO;rw [M];rw [ao ae,aU af,co]
    rw [IL (l:=l) (n:=e.1) (o:=o) (c:=nK l e.1 o o.code<|o.fix.take k) (p:=p) (x:=y) (g6 l (jx l e.1 o x.m)+u) W,<-P,<-L,<-IK A];refine Ln<|Es ?_;refine WS.nil ?_;refine Eb<|Eb<|Et<|Cr<|V0 (Yi O O O aj)<|ad O<|Ln ?_;exact cU (k+1) aj aj<|λ_ h=>Wd 1 h
   have af:¬x.kind=2:=by simpa using a5
   refine ai<|V0 (bN O O)<|ar O<|ag ?_;refine Cc O (λa_=>?_)<|λa_=>?_
   ·have cp:x.kind=3:=by simpa using a_
    refine CU (λ_=>ac) [] [9,10] (.q au 0<|.q au 1<|.q ac 2<|.q au 3<|.q au 4<|.q au 5<|.q au 6<|.q ac 7<|.q au 8 .nil) mixed ah (λ_ _ _ d _ _ h=>by cases d<;>exact h) ?_;refine U0 O aR (Ym O)<|U0 O aR (bP O)<|U0 O aR (m9 (y:=y) 1 ((jk l e.1).length+p) 1 O O B aj c'.dA F O ah)<|U0 O aR (Ym O)<|U0 O aR (Ym O)<|U0 O aR (Yo wJ O O bj aj)<|U0 O aR (Yf Ai O)<|U0 O aR (dQ 0 ah O O<|ch) ?_;refine U0 O aR (oQ O O aj) ?_;refine WU.nil aR ?_;refine WS.e O ?_;refine V0 (bP O)<|Ln<|Es ?_;refine WS.e O ?_;refine WL.storeT (y:=y) 1 ((jk l e.1).length+p) 1 ⟨y.op,y.a+jj l (jx l e.1 o x.m),y.b⟩ Y O O O B aj c'.dA F ei O O a' O ?_;have P:iO l e.1 o x=y.a+jj l (jx l e.1 o x.m):=by unfold iO;rw [M];rw [ao ae,ao af]
    rw [IL (l:=l) (n:=e.1) (o:=o) (c:=nK l e.1 o o.code<|o.fix.take k) (p:=p) (x:=y) (y.a+jj l (jx l e.1 o x.m)) W,<-P,<-L,<-IK A];refine Ln<|Es ?_;refine WS.nil ?_;refine Eb<|Eb<|Et<|Cr<|V0 (Yi O O O aj)<|ad O<|Ln ?_;exact cU (k+1) aj aj<|λ_ h=>Wd 1 h
   have cp:¬x.kind=3:=by simpa using a_
   omega
  have cq:k=o.fix.length:=by simp at aZ;omega
  rw [cq,gJ];have cs:jk l e.1++nK l e.1 o o.code o.fix=jk l (e.1+1):=(OP s).symm;rw [cs];have cu:(jk l e.1++o.code).length=(jk l<|e.1+1).length:=by rw [OP s,e_,e_];unfold BK;rw [ET]
  rw [cu];refine Ce<|Ex<|Ex<|dy<|Eb<|Et<|Cr<|V0 (Yi O O O aj)<|ad O<|Ln ?_;exact cU ((e.1+1,(aX,aY)):Z×SP) (by show _-(e.1+1)<_;omega) (by show e.1+1<=_;omega)<|λ_ h=>(Wt 3<|((h.f 3 O).f 3 O).f 2 O:)
 have cv:e.1=l.length:=by simp at aS;omega
 rw [cv];have cw:=acX D aw;refine Ce<|Ex<|Ex<|dy<|Et<|ai<|V0 (dv 1 O O ow O)<|aq 2 Y O O O rr O O O<|ar O<|ag<|bq ?_;refine WE.gt (hG O (e1 2 O O ow O)<|ja O) λG t=>?_;rw [cw];exact ⟨e.2,O,t.fr,t.jF 0 O c'.dA fp⟩
def toI (x:c'):Mch.cS:=⟨x.op,x.a,x.b⟩
def ac2 (h:Sl kf 3 bt b' ae nL):Sl Mch.pQ 3 bt b' ae<|nL.map toI:=by refine ⟨by rw [fK];exact h.cap,h.max,h.spot,λi x a=>?_⟩;rw [gh] at a;obtain ⟨y,b,rfl⟩:=eD.1 a;exact h.b7 i y b
variable {fo:I ab}
def ac3 (h:Sl hn 1 bt b' ae fo):Sl Mch.k_ 1 bt b' ae fo:=h.imp λb o x h=>h 0 _ rfl
def SB (h:Sl Mch.k_ 1 bt b' ae fo):Sl hn 1 bt b' ae fo:=h.imp λb o x h k v a=>by match k,a with| 0,a=>cases a;exact h
def Bz:cX aB 64 0=aa 0:=ah
def uR:cX aB 64 3=aa 3:=ah
def lv:cX aB 64 1=aa 1:=ah
def ix:cX aB 64 2=aa 2:=ah
def l1:zeroOf aB 64=aa (bU #[an am 0,aC ak 0 0,aC ak 0 0,an am 0]):=ah
def l0:eP aB 64=aa 4:=ah
def Bp:cX aB 57 1=aa 1:=ah
def j4:iC aB 64=aa 4:=ah
def sA:hy aB 64=aa [(0,1),(1,1),(2,1),(3,1)]:=ah
def Kv (d f:View) (R:Mch.jg) (a b:SP×SP) (w:aL) (k:Le d w) (l:Le f w) (h:Sl hn 1 d a.1.1 a.1.2 R.out/\Sl hn 1 d a.2.1 a.2.2 R.data) (i:Sl hn 1 f b.1.1 b.1.2 R.out/\Sl hn 1 f b.2.1 b.2.2 R.data) : cr aB 29 #[bU #[an am R.fin,aC a.1.1 R.out.length a.1.2,aC a.2.1 R.data.length a.2.2,an am R.bY],bU #[an am R.fin,aC b.1.1 R.out.length b.1.2,aC b.2.1 R.data.length b.2.2,an am R.bY]] w λe j=>e = ax (bV ac)/\Ext w j:=by
 refine enter func29 O 31 O O ?_;refine CE (Vs:=[d,f]) (Ws.init (by simp [k,l]))<|ai ?_;refine WL.box Y O O λm=>?_;refine WL.box Y O O λn=>?_;refine ar O<|ag<|ai<|V0 (Yf Bz O)<|V0 (Yd 1 O O O ah)<|V0 (Yf Bz O)<|V0 (Yd 0 O O O ah)<|V0 (y3 O O O)<|ad O ?_;apply La 5 (x:=ac) O O O O Y O O O O O;·intro o;refine Vg (Yf uR O)<|Vg (Yd 1 O O O ah)<|Vg (Yf uR O)<|Vg (Yd 0 O O O ah)<|Vg (y3 O O O) ?_;exact Gt 5 O O O
 refine ad O ?_;apply La 5 (x:=ac) O O O O Y O O O O O;·intro p;refine Vg (Yf lv O)<|Vg (Yd 1 O O O ah)<|Vg (Yf lv O)<|Vg (Yd 0 O O O ah)<|Lp (.g O O O) O bf O (λw c=>Sv d f a.1.1 b.1.1 a.1.2 b.1.2 R.out w c.V c.V h.1 i.1) ?_;exact Gt 5 O O O
 refine ad O ?_;apply La 5 (x:=ac) O O O O Y O O O O O;·intro q;refine Vg (Yf ix O)<|Vg (Yd 1 O O O ah)<|Vg (Yf ix O)<|Vg (Yd 0 O O O ah)<|Lp (.g O O O) O bf O (λw c=>Sv d f a.2.1 b.2.1 a.2.2 b.2.2 R.data w c.V c.V h.2 i.2) ?_;exact Gt 5 O O O
 refine ar O<|ag<|bq ?_;refine R1 O O λj c=>?_;exact ⟨O,c.fr⟩
def ac4:hy aB 182=aa [(0,1)]:=ah
def FV:zeroOf aB 182=aa (bU #[an am 0]):=ah
def ac5:aB.concrete 182=ac:=ah
def s5:cX aB 180 6=aa 6:=ah
def ac6:cX aB 180 4=aa 4:=ah
def p7:cX aB 281 0=aa 0:=ah
def CF:cX aB 180 2=aa 2:=ah
def Aj:cX aB 180 1=aa 1:=ah
def SC:cX aB 281 1=aa 1:=ah
def xF:g1 aB 178=aa 1:=ah
def CG (b:aQ) (e:ab) (w:aL) : cr aB 163 #[bV b,an am e] w λf a=>(∃_:dT,f = ax (cN #[])/\b=au/\Ext w a)\/(∃_:dT,f = .panicked (nH 182 e)/\b=ac/\Ext w a):=by
 refine enter func163 O 8 O O ?_;refine CE (Vs:=[]) (Ws.init aG)<|ai<|ad O<|ag ?_;refine Cc O (λc=>?_)<|λc=>?_;·refine Cr<|ad O<|V0 (Yb FV ac4 O O)<|V0 (qW ac5 O) ?_;refine WL.panic Y O ?_;refine b3 λa d=>?_;exact bl ⟨(),O,c,d.fr⟩
 refine Ck ?_;refine E0 O λa d=>?_;exact bA ⟨(),O,c,d.fr⟩
def yj (b:aQ) (w:aL) : cr aB 331 #[bV b] w λe a=>e = ax (an am<|o' b)/\Ext w a:=by
 refine enter func331 O 4 O O ?_;refine CE (Vs:=[]) (Ws.init aG)<|ai<|ar O<|ag<|Cs<|ai<|ad O<|ag ?_;refine Cc O (λc=>?_)<|λc=>?_;·refine ai<|ar O<|ag<|bq<|Er ?_;refine R1 O O λa d=>?_;exact ⟨by rw [c];rfl,d.fr⟩
 refine bO<|ai<|ar O<|ag<|bq ?_;refine R1 O O λa d=>?_;exact ⟨by rw [c];rfl,d.fr⟩
def SD (b:Z) (f:KW) (l:I cD) (a5 C:Z) (H:View) (s:fB)  (w:aL) (c:j3 H (bj l a5) (eF l) C s) (u:a5<=2000) (a:Ws w (c5 bc.ids<|ez 180 3 b f (bj l a5) s) (ez 180 3 b f (bj l a5) s) [H] w) :
   cr aB 162 #[b0 (aa ⟨b,0,ak⟩)] w λe g=>(∃r:dT×fB,e = ax (cN #[])/\(nc (bj l a5) s.w = .ok r.1 r.2.w/\j3 H (bj l a5) (eF l) C r.2)/\Ws w (c5 bc.ids<|ez 180 3 b f (bj l a5) s) (ez 180 3 b f (bj l a5) r.2) [H] g)\/(∃r:ab×fB,e = .panicked (nH 182 r.1)/\nc (bj l a5) s.w = .ov r.1 r.2.w/\Ws w (c5 bc.ids<|ez 180 3 b f (bj l a5) s) (ez 180 3 b f (bj l a5) r.2) [H] g):=by
 have v:=c.out;have p:=c.tk;have x:=c.hb;refine enter func162 O 22 O O ?_;refine CE a<|Cs ?_;refine WC.n6 [(0,ac),(1,ac),(2,ac),(3,ac),(4,ac),(5,ac),(6,ac),(7,ac),(8,ac),(9,ac),(10,au)] mixed ah (λ_ _ _ d _ h=>by cases d<;>exact h) ?_;refine D0 O aR (Ym O)<|D0 O aR (bP O)<|D0 O aR (Yf s5 O)<|D0 O aR (Yf uR O)<|D0 O aR (Yd 0 O O O ah)<|D0 O aR (Ym O)<|D0 O aR (bP O)<|D0 O aR (Yf ac6 O) ?_;refine D0 O aR (Yd 0 O O O ah)<|D0 O aR (bN O O) ?_;refine De O aR ?_;refine hR (ι:=dT) (κ:=dT) [] _ Y O bf O O (λ_=>cN #[]) (λ_=>[]) (λ_=>((s.w.bY:ab)==(a5:ab))=au) (λ_=>nH 182 3) (λ_=>[]) (λ_=>((s.w.bY:ab)==(a5:ab))=ac) [] aG (λw a=>(CG _ 3 w).mono λe g h=>by
  rcases h with ⟨_,k,m,n⟩ | ⟨_,k,m,n⟩;·exact bA ⟨(),k,m,a.ext n⟩
  ·exact bl ⟨(),k,m,a.ext n⟩) ?_ ?_;·intro _ j;refine Ep<|Ep ?_;refine b3 λg a=>?_;exact bl ⟨(3,s),O,by rw [nc,aU (show s.w.bY=(bj l a5).a5 from by have h:=j;simp at h;show s.w.bY=a5;omega)],a⟩
 intro _ j;refine Ln<|Ed ?_;refine WD.nil aR ?_;refine Et ?_;have q:¬s.w.bY=a5:=by intro h;rw [h] at j;simp at j
 have t:s.w.bY<a5:=by have:s.w.bY<=a5:=p;omega
 refine Cr<|ad O<|V0 (bP O)<|V0 (Yf s5 O)<|V0 (Yf uR O)<|V0 (Yd 0 O O O ah)<|V0 (Yi O O O aj)<|V0 (bP O) ?_;refine V0 (Yf s5 O)<|V0 (Yf uR O)<|aq 0 Y O O O ei O O O<|Ln ?_;refine E0 O λg a=>?_;exact bA ⟨((),⟨{ s.w with bY:=s.w.bY+1 },s.i,s.o,s.d⟩),O,⟨by rw [nc,ao<|show ¬s.w.bY=(bj l a5).a5 from q],⟨c.bI,c.out,t,c.hb,c.cl⟩⟩,a⟩
def FW (c:Z) (f:KW) (l:I cD) (a5 C:Z) (H:View) (s:fB) (n g u:Z) (x:SP) (i:Z) (v:ab) (z:cD) (k j b p:Z) (m pl:ab) (w:aL) (G:j3 H (bj l a5) (eF l) C s) (o:iq H n f l a5) (A:l[u]? = aa z) (B:(u::z.aI.map λs=>(idxOf s (bh l) 0).getD 0)[k]? = aa j) (D:(k9 l 0)[j]? = aa b) (ad:b+p<eF l) (J:m=(k:ab)) (K:pl=(p:ab)) (q:Ws w (c5 bc.ids<|(ez 180 3 c f (bj l a5) s)++[aJ g<|vY 281 c u x i v]) ((ez 180 3 c f (bj l a5) s)++[aJ g<|vY 281 c u x i v]) [H] w) : cr aB 277 #[b0 (aa ⟨g,0,ak⟩),an am m,an am pl] w λe E=>∃r:Z,e = ax (b0<|aa ⟨r,0+(b+p)*1,ak⟩)/\s.d.1=aa ⟨r,0,ak⟩/\Ws w (c5 bc.ids<|(ez 180 3 c f (bj l a5) s)++[aJ g<|vY 281 c u x i v]) ((ez 180 3 c f (bj l a5) s)++[aJ g<|vY 281 c u x i v]) [H] E:=by subst J K;have ae:=G.hb;have af:=zo o.ok;obtain ⟨pu,al,L,ao,M,N⟩:=o.aI.b7 u _<|xw A;obtain ⟨P,Q,R,t⟩:=N.b7 k j B;obtain ⟨S,T,U,y⟩:=o.kC.b7 j b D;have V:=(c_.1<|xw A).1;have W:=(c_.1 B).1;have X:=(c_.1 D).1;have t:ct H P (Q+k*1)<|kT j:=t;have y:ct H S (T+j*1)<|kT b:=y;refine enter func277 O 43 O O ?_;refine CE q<|ai<|ar O<|ag<|Cs ?_;refine WC.r9 2 O aj λY F ap aq=>?_;refine WC.n6 [(0,ac),(1,ac),(2,ac),(3,ac),(4,ac),(5,ac),(6,ac),(7,ac),(8,ac),(9,ac),(10,ac),(11,ac),(12,ac),(13,ac),(14,ac),(15,ac),(16,ac),(17,ac),(18,ac),(19,ac),(20,ac),(21,ac),(22,ac),(23,ac),(24,ac),(25,ac),(26,ac),(27,ac),(28,ac),(29,ac),(30,ac),(31,ac),(32,ac),(33,ac),(34,ac),(35,ac),(36,ac)] mixed ah (λ_ _ _ d _ h=>by cases d<;>exact h) ?_;refine D0 O aR (Ym O)<|D0 O aR (bP O)<|D0 O aR (Yf p7 O)<|D0 O aR (Yd 3 O O O ah)<|D0 O aR (bP O)<|D0 O aR (Yf s5 O)<|D0 O aR (Yf ix O)<|D0 O aR (Yd 0 O O O ah) ?_;refine D0 O aR (Ym O)<|D0 O aR (bP O)<|D0 O aR (Yf p7 O)<|D0 O aR (Yd 3 O O O ah)<|D0 O aR (bP O)<|D0 O aR (Yf CF O)<|D0 O aR (Yd 0 O O O ah)<|D0 O aR (Ym O) ?_;refine D0 O aR (bP O)<|D0 O aR (Yf p7 O)<|D0 O aR (Yd 3 O O O ah)<|D0 O aR (bP O)<|D0 O aR (Yf Aj O)<|D0 O aR (Yd 0 O O O ah)<|D0 O aR (Ym O)<|D0 O aR (bP O) ?_;refine D0 O aR (Yf SC O)<|D0 O aR (Yd 3 O O O ah)<|D0 O aR (Yo xF O O L V)<|D0 O aR (dQ 0 ah O O<|M 0 _ O)<|D0 O aR (Ym O)<|D0 O aR (Yo eS O O R W)<|D0 O aR (dQ 0 ah O O<|t 0 _ O)<|D0 O aR (Yo eS O O U X) ?_;refine D0 O aR (dQ 0 ah O O<|y 0 _ O)<|D0 O aR (Ym O)<|D0 O aR (n7 (a:=b) (b:=p) O O O O aj)<|D0 O aR (Yo eS O O F (by show b+p<s.w.data.length;omega))<|D0 O aR (Ya O) ?_;refine WD.nil aR ?_;refine Et<|bq ?_;refine R1 O O λE q=>?_;exact ⟨Y,O,F,q⟩
def FX (H:View) (n:Z) (f:KW) (l:I cD) (a5 b C d:Z) (k:Z):Prop:=∀(g u:Z) (h:cD) (x:SP) (loc:I ab) (v:ab) (y:e3) (a:az a0) (c j:Z) (s:fB) (w:aL),j3 H (bj l a5) (eF l) C s->l[u]? = aa h->Sl (kQ k) 5 H a c y.args->lV (ey h::gB l h) loc.length y j=ac->Ws w (c5 bc.ids<|(ez 180 3 b f (bj l a5) s)++(gY 281 3 g b u x loc v)) ((ez 180 3 b f (bj l a5) s)++(gY 281 3 g b u x loc v)) [H] w-> cr aB 276 #[b0 (aa ⟨g,0,ak⟩),bU (oe y a c).toArray] w λe i=>(∃r:ab×fB,e = ax (an am r.1)/\(gb (bj l a5) (dB (bj l a5) d) u y loc s.w = .ok r.1 r.2.w/\j3 H (bj l a5) (eF l) C r.2)/\Ws w (c5 bc.ids<|(ez 180 3 b f (bj l a5) s)++(gY 281 3 g b u x loc v)) ((ez 180 3 b f (bj l a5) r.2)++(gY 281 3 g b u x loc v)) [H] i)\/(∃r:ab×fB,e = .panicked (nH 182 r.1)/\gb (bj l a5) (dB (bj l a5) d) u y loc s.w = .ov r.1 r.2.w/\Ws w (c5 bc.ids<|(ez 180 3 b f (bj l a5) s)++(gY 281 3 g b u x loc v)) (ez 180 3 b f (bj l a5) r.2) [H] i)
def yk (H:View) (n:Z) (f:KW) (l:I cD) (a5 b C d:Z):Prop:=∀(u:Z) (g:cD) (x:SP) (loc:I ab) (body:I ep) (a:az a0) (c i j:Z) (s:fB) (w:aL),j3 H (bj l a5) (eF l) C s->l[u]? = aa g->Sl (jd i j) 7 H a c body->h8 (ey g::gB l g) loc.length body 1=ac->Ws w (c5 bc.ids<|(ez 180 3 b f (bj l a5) s)++[cO 3 1 hY x.1 x.2 loc]) ((ez 180 3 b f (bj l a5) s)++[cO 3 1 hY x.1 x.2 loc]) [H] w-> cr aB 96 #[b0 (aa ⟨b,0,ak⟩),an am (u:ab),aC x.1 loc.length x.2,aC a body.length c] w λe h=>(∃r:ab×fB,e = ax (an am r.1)/\(dB (bj l a5) d u loc body s.w = .ok r.1 r.2.w/\j3 H (bj l a5) (eF l) C r.2)/\Ws w (c5 bc.ids<|(ez 180 3 b f (bj l a5) s)++[cO 3 1 hY x.1 x.2 loc]) (ez 180 3 b f (bj l a5) r.2) [H] h)\/(∃r:ab×fB,e = .panicked (nH 182 r.1)/\dB (bj l a5) d u loc body s.w = .ov r.1 r.2.w/\Ws w (c5 bc.ids<|(ez 180 3 b f (bj l a5) s)++[cO 3 1 hY x.1 x.2 loc]) (ez 180 3 b f (bj l a5) r.2) [H] h)
def SE (k:Z):(madeCells (aT.int am 0).cells<|k*1)=((gI k (0:ab)).flatMap hY).toArray:=Lr (f:=hY) (x:=(0:ab)) (zs:=(aT.int am 0).cells) rfl a' k
def ac7:cX aB 180 0=aa 0:=ah
def R7 (H:View) (n:Z) (z:KW) (l:I cD) (a5 i C d:Z) (B u:Z) (E:cD) (x:SP) (loc:I ab) (v:ab) (m pl:ab) (args:I e3) (a:az a0) (c k aU:Z) (s:fB) (w:aL) (al:j3 H (bj l a5) (eF l) C s) (J:iq H n z l a5) (M:l[u]? = aa E) (hN:∀D,D<k->FX H n z l a5 i C d D) (hC:yk H n z l a5 i C d) (aW:mL (ey E::gB l E) m pl args.length=ac) (P:Sl (kQ k) 5 H a c args) (aX:iT (ey E::gB l E) loc.length args aU=ac) (A:Ws w (c5 bc.ids<|(ez 180 3 i z (bj l a5) s)++(gY 281 3 B i u x loc v)) ((ez 180 3 i z (bj l a5) s)++(gY 281 3 B i u x loc v)) [H] w) :
   cr aB 279 #[b0 (aa ⟨B,0,ak⟩),an am m,an am pl,aC a args.length c] w λe K=>(∃r:ab×fB,e = ax (an am r.1)/\(q8 (bj l a5) (dB (bj l a5) d) u m pl (iH (bj l a5) (dB (bj l a5) d) u args) loc s.w = .ok r.1 r.2.w/\j3 H (bj l a5) (eF l) C r.2)/\Ws w (c5 bc.ids<|(ez 180 3 i z (bj l a5) s)++(gY 281 3 B i u x loc v)) ((ez 180 3 i z (bj l a5) r.2)++(gY 281 3 B i u x loc v)) [H] K)\/(∃r:ab×fB,e = .panicked (nH 182 r.1)/\q8 (bj l a5) (dB (bj l a5) d) u m pl (iH (bj l a5) (dB (bj l a5) d) u args) loc s.w = .ov r.1 r.2.w/\Ws w (c5 bc.ids<|(ez 180 3 i z (bj l a5) s)++(gY 281 3 B i u x loc v)) (ez 180 3 i z (bj l a5) r.2) [H] K):=by
 have bC:=al.hb;have bD:=zo J.ok;obtain ⟨Q,j,q,R,p,rfl,rfl,ao,F,L,bF,ap⟩:=Ve J.ok a5 M aW;obtain ⟨pu,bG,aY,bH,aZ,a1⟩:=J.aI.b7 u _<|xw M;obtain ⟨a2,a3,a4,S⟩:=a1.b7 Q j ao;obtain ⟨bI,bJ,a6,bK,a8,a9⟩:=J.VM.b7 j R F;obtain ⟨bL,bM,a_,T,ba,bb⟩:=a9.parts.b7 q p L;have bd:=(c_.1<|xw M).1;have be:=(c_.1 ao).1;have bh:=(c_.1 F).1;have bi:=(c_.1 L).1;have S:ct H a2 (a3+Q*1)<|kT j:=S;have bk:=J.ok.hJ R<|dJ F;obtain ⟨bN,bQ,bR,bS,bm⟩:=H4<|(Ej bk).1 p<|dJ L;obtain ⟨o,bn⟩:∃o:Z,p.params=o:=⟨p.params.toNat,aj⟩;obtain ⟨t,bo⟩:∃t:Z,p.locals=t:=⟨p.locals.toNat,aj⟩;have bT:o=args.length:=aj;have bW:=P.cap;have bX:=P.max;refine enter func279 O 73 O O ?_;refine CE A<|ai<|ar O<|ag<|Cs ?_;refine WC.n6 [(0,ac),(1,ac),(2,ac),(3,ac),(4,ac),(5,ac),(6,ac),(7,ac),(8,ac),(9,ac),(10,ac),(11,ac),(12,ac),(13,ac),(14,ac),(15,ac),(16,ac)] mixed ah (λ_ _ _ d _ h=>by cases d<;>exact h) ?_;refine D0 O aR (Ym O)<|D0 O aR (bP O)<|D0 O aR (Yf p7 O)<|D0 O aR (Yd 3 O O O ah)<|D0 O aR (bP O)<|D0 O aR (Yf Aj O)<|D0 O aR (Yd 0 O O O ah)<|D0 O aR (Ym O) ?_;refine D0 O aR (bP O)<|D0 O aR (Yf SC O)<|D0 O aR (Yd 3 O O O ah)<|D0 O aR (Yo xF O O aY bd)<|D0 O aR (dQ 0 ah O O<|aZ 0 _ O)<|D0 O aR (Ym O)<|D0 O aR (Yo eS O O a4 be)<|D0 O aR (dQ 0 ah O O<|S 0 _ O) ?_;refine D0 O aR (Ya O) ?_;refine WD.nil aR ?_;refine Et<|ai<|ad O<|V0 (bP O)<|V0 (Yf p7 O)<|V0 (Yd 3 O O O ah)<|V0 (bP O)<|V0 (Yf ac7 O)<|V0 (Yd 0 O O O ah) ?_;refine ad O<|V0 (Yo nU O O a6 bh)<|V0 (Yf yd O)<|V0 (dQ 0 ah O O<|a8 3 _ O)<|ad O<|V0 (Yo mJ O O a_ bi)<|V0 (dG 0 Cu O O O<|ba) ?_;refine Al Y O Ac λbp=>?_;refine aq 0 Y O O O FM O O O<|ag<|ai<|V0 (Yf Ae O)<|V0 (Yd 0 O O O ah)<|V0 (Yf sw O)<|V0 (Yd 0 O O O ah)<|V0 (n7 (a:=o) (b:=t) O O bn bo aj) ?_;refine WL.make Y O fY O O aj aj aj aj λav=>?_;refine dK 0 (aM ((gI (o+t) (0:ab)).flatMap hY).toArray 3 (0,0)) O (by rw [m4,SE])<|LW (λ_ h=>h.qZ (f:=hY) (xs:=gI (o+t) 0) (c:=o+t) 0 O kS aG (by unfold maxLen;omega))<|ar O<|ag<|Cs<|Cs ?_;have br:nF loc (iH (bj l a5) (dB (bj l a5) d) u args) s.w=_:=VE;refine Cr<|ad O<|V0 (Yn ij O)<|ad O<|ag<|Cb ?_;refine dZ (ι:=Z×I ab×fB) (λg=>[(52,an am (g.1:ab))]) [(0,_),(8,_),(9,_),(10,_),(11,_),(50,_),(51,_)] (λg=>Ws w (c5 bc.ids<|(ez 180 3 i z (bj l a5) s)++(gY 281 3 B i u x loc v)) ((ez 180 3 i z (bj l a5) g.2.2)++(gY 281 3 B i u x loc v)++[cO 3 1 hY (aa ⟨av,0,ak⟩) (o+t)<|g.2.1++gI (o+t-g.1) 0,aJ bp<|aM (xo p T).toArray 107 (0,0)]) [H]) (λg=>g.1<=args.length/\g.2.1.length=g.1/\(j3 H (bj l a5) (eF l) C g.2.2)/\nF loc (iH (bj l a5) (dB (bj l a5) d) u args) s.w=(nF loc (iH (bj l a5) (dB (bj l a5) d) u<|args.drop g.1) g.2.2.w).bind λvs w=>.ok (g.2.1++vs) w) (λg=>args.length-g.1) (0,[],s) ⟨de _,O,al,br⟩ (λ_ h=>by exact (((((h.f 6 O).f 6 O).f 6 O).f 6 O).f 6 O:)) ?_;intro g ⟨bY,U,aw,V⟩;refine ai<|V0 (cP O O)<|ag<|Cs ?_;refine Cc O (λW=>?_)<|λW=>?_
 ·have aA:g.1<args.length:=by simpa using W
  obtain ⟨y,N⟩:=dO aA;obtain ⟨bZ,b1,bs,aD⟩:=P.b7 g.1 y N;obtain ⟨D,rfl⟩:∃D,k=D+1:=by cases k with| zero=>exact aD.elim| succ D=>exact ⟨D,rfl⟩
  obtain ⟨aE,aH,bt,bu⟩:=aD;have bv:=hN D aj;have bw:=dR aX N;refine bO<|Cs<|Cb<|ai<|ad O<|V0 (Yo ij O O bs aA)<|V0 (dG 0 h3 O O O<|bt) ?_;refine Al Y O z' λb2=>?_;refine ar O<|aq 0 Y O O O rY O O O<|ag<|gL 0 (aM (oe y aE aH).toArray 53 (0,0)) O O<|Cr<|ad O<|ad O<|ad O ?_;refine V0 (dv 0 O O h3 O)<|Lf 5 O<|Lf 5 O<|Lf 5 O<|Lf 5 O<|Lf 5 O ?_;refine hR [_,_,_,_,_] _ Y O bf O O _ _ _ _ _ _ [H] aG (λw A=>bv B u E x loc v y aE aH _ g.2.2 w aw M bu bw A) ?_ ?_;·intro G X;refine WE.aF<|Ep<|Ep<|WE.aF<|Ep ?_;refine b3 λK A=>?_;exact bl ⟨G,O,by rw [NG ap O F L];exact jM<|VC V N X,by have h:=A;have h:=Wt 3 h;exact h⟩
  intro G ⟨X,bx⟩;refine V0 (pz eS O O aj) ?_;refine WL.storeT (y:=0) 6 g.1 0 G.1 Y O O O O (by rw [Au];rfl) kS (VF U aj) ei O O a' O ?_;refine Ln<|Eb<|Et<|Cr<|V0 (Yi O O O aj)<|ad O<|Ln ?_;rw [VG _ U aj];exact cU ((g.1+1,g.2.1++[G.1],G.2):Z×I ab×fB) (by show _-(g.1+1)<_;omega) ⟨by show g.1+1<=_;omega,by show (g.2.1++[G.1]).length=g.1+1;simp [U],bx,VB V N X⟩ (λ_ h=>by exact (Wt 7<|((((((h.f 7 O).f 7 O).f 6 O).f 6 O).f 6 O).f 6 O).f 6 O:))
 have b4:args.length<=g.1:=by simp at W;omega
 have aK:(g.2.1++gI (o+t-g.1) 0).length=o+t:=by rw [e_,C5];omega
 have bz:=VD (pre:=g.2.1) V aj;have aP:q8 (bj l a5) (dB (bj l a5) d) u (Q:ab) (q:ab) (iH (bj l a5) (dB (bj l a5) d) u args) loc s.w=dB (bj l a5) d j (g.2.1++gI (o+t-g.1) 0) p.body g.2.2.w:=by rw [NG ap rfl F L,gO bz,show p.locals.toNat=o+t-g.1 by omega]
 refine Ce<|Ex<|Ex<|dy<|Et<|Cs ?_;refine CU (λ_=>ac) [0,0,0,2] [] (.q au 0<|.q au 1<|.q au 2<|.q ac 3<|.q au 4<|.q au 5<|.q au 6<|.q ac 7<|.e 8 (.q au 9 .nil) .stop) mixed ah (λ_ _ _ d _ _ h=>by cases d<;>exact h) ?_;refine U0 O (cn [0,0,0,2]) (Ym O)<|U0 O (cn [0,0,0,2]) (bP O)<|U0 O (cn [0,0,0,2]) (Yf p7 O)<|U0 O (cn [0,0,0,2]) (Yd 0 O O O ah)<|U0 O (cn [0,0,0,2]) (Ym O)<|U0 O (cn [0,0,0,2]) (Ym O)<|U0 O (cn [0,0,0,2]) (Yf Kd O)<|U0 O (cn [0,0,0,2]) (Yd 2 O O O ah) ?_;refine Ue O (cn [0,0,0,2]) ?_ WU.stop;refine Lf 5 O<|Lf 3 O<|Lf 3 O<|Lf 3 O ?_;refine hR (ι:=_) (κ:=_) [_,_,_,_] _ Y O bf O O _ _ _ _ _ _ [H] aG (λw A=>by have aS:=hC j R (aa ⟨av,0,ak⟩,o+t) (g.2.1++gI (o+t-g.1) 0) p.body T.1 T.2 n n g.2.2 w aw F bb (by rw [aK,show ((o+t:Z):ab)=p.params+p.locals by omega];exact bm) A;rw [aK] at aS;exact aS) ?_ ?_;·intro ae af;refine Ep<|Ep ?_;refine b3 λK A=>?_;exact bl ⟨ae,O,aP.trans af,by have h:=A;have h:=Wt 3 h;exact h⟩
 intro ae ⟨af,bB⟩;refine Ln<|Eu<|U0 O (λ_ h=>(Wd 3 h:)) (Ya O) ?_;refine WU.nil (λ_ h=>(Wd 3 h:)) ?_;refine WS.nil ?_;refine Et<|bq ?_;refine R1 O O λK A=>?_;exact bA ⟨ae,O,⟨aP.trans af,bB⟩,Wt 5 A⟩
def SG (H:View) (n:Z) (g:KW) (l:I cD) (a5 b C d:Z) (j u:Z) (p:cD) (x:SP) (loc:I ab) (v:ab) (y:e3) (o:ab) (a:az a0) (c k E:Z) (s:fB) (w:aL) (D:j3 H (bj l a5) (eF l) C s) (F:iq H n g l a5) (G:l[u]? = aa p) (J:FX H n g l a5 b C d k) (K:Sl (kQ k) 5 H a c y.args) (L:lV (ey p::gB l p) loc.length y E=ac) (f:Ws w (c5 bc.ids<|(ez 180 3 b g (bj l a5) s)++(gY 281 3 j b u x loc v)) ((ez 180 3 b g (bj l a5) s)++(gY 281 3 j b u x loc v)) [H] w) : cr aB 278 #[b0 (aa ⟨j,0,ak⟩),bU (oe y a c).toArray,an am o] w λe m=>(∃r:ab×fB,e = ax (an am r.1)/\(tu o (gb (bj l a5) (dB (bj l a5) d) u y) loc s.w = .ok r.1 r.2.w/\j3 H (bj l a5) (eF l) C r.2)/\Ws w (c5 bc.ids<|(ez 180 3 b g (bj l a5) s)++(gY 281 3 j b u x loc v)) ((ez 180 3 b g (bj l a5) r.2)++(gY 281 3 j b u x loc v)) [H] m)\/(∃r:ab×fB,e = .panicked (nH 182 r.1)/\tu o (gb (bj l a5) (dB (bj l a5) d) u y) loc s.w = .ov r.1 r.2.w/\Ws w (c5 bc.ids<|(ez 180 3 b g (bj l a5) s)++(gY 281 3 j b u x loc v)) (ez 180 3 b g (bj l a5) r.2) [H] m):=by
 have N:=D.hb;have P:=zo F.ok;refine enter func278 O 20 O O ?_;refine CE f<|ai ?_;refine WL.box Y O O λQ=>?_;refine ar O<|ag<|Cs<|gL 0 (aM (oe y a c).toArray 53 (0,0)) O O<|Cr<|ad O<|V0 (dv 0 O O h3 O)<|Lf 5 O<|Lf 5 O ?_;refine Lf 5 O<|Lf 5 O<|Lf 5 O ?_;refine hR [_,_,_,_,_] _ Y O bf O O _ _ _ _ _ _ [H] aG (λw f=>J j u p x loc v y a c _ s w D G K L f) ?_ ?_;·intro i q;refine Ep ?_;refine b3 λm f=>?_;exact bl ⟨i,O,jM q,by have h:=f;have h:=Wt 3 h;exact h⟩
 intro i ⟨q,M⟩;refine ar O<|ag<|ai<|ad O<|V0 (cP O O)<|ad O ?_;apply Lo 3 O O O O Y O O O O O;·intro R;refine Vg (Ym O)<|Vg (Ym O)<|Vg (hE O O) ?_;exact Gt 3 O O O
 refine hR (ι:=dT) (κ:=dT) [] _ Y O bf O O (λ_=>cN #[]) (λ_=>[]) (λ_=>(decide (i.1<0)||decide (o<=i.1))=au) (λ_=>nH 182 2) (λ_=>[]) (λ_=>(decide (i.1<0)||decide (o<=i.1))=ac) [] aG (λw f=>(CG _ 2 w).mono λe m h=>by
  rcases h with ⟨_,t,z,A⟩ | ⟨_,t,z,A⟩;·exact bA ⟨(),t,z,f.ext A⟩
  ·exact bl ⟨(),t,z,f.ext A⟩) ?_ ?_;·intro _ B;refine Ep ?_;refine b3 λm f=>?_;exact bl ⟨(2,i.2),O,(gO q).trans<|aU B,by have h:=f;have h:=Wt 3 h;exact h⟩
 intro _ B;refine ag<|ai<|ad O<|ar O<|ag<|bq ?_;refine R1 O O λm f=>?_;exact bA ⟨i,O,⟨(gO q).trans<|ao (by rw [B];simp),M⟩,Wt 5 f⟩
end Go.Proofs.YtgeahfjicmlocaaGreatDoor
end
