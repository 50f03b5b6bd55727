/- WholeShown: how a module is written changes nothing: shown anew, in another order, a program means the same. -/
import Derived.Test.YtgeahfjicmlocaaGreatDoorH2
set_option linter.unusedVariables false
set_option linter.unusedSimpArgs false
set_option linter.defProp false
open _root_ renaming List->I,Nat->Z,Int->ab,Option->az,Bool->aQ,UInt8->a7,Array->bE,Unit->dT,String->bg
open Option renaming some->aa,none->ak
open Bool renaming true->ac,false->au
open Go.Value renaming int->an,slice->aC,agg->bU,bool->bV,pointer->b0,tuple->cN
open Go.IntKind renaming i64->am
open Go.Proofs.Tryz renaming prog->aB
open Go renaming World->aL,Value->aT,Addr->a0,TypeId->b_,Calls->cr,Program->aV,Operand->dF,Edge->fw
open Go.Obj renaming cells->aM
open Or renaming inr->bl,inl->bA
open Go.Ending renaming returned->ax
open List renaming replicate->gI,range->kJ
open Go.Lib renaming itoa->hO,atoiAll->p'
open Go.Result renaming andThen_ok->ie
open Go.Sem renaming run_bind->iN,run_pure->kK
open Int renaming reduceEq->nw
section
namespace Go.Proofs.YtgeahfjicmlocaaGreatDoor.Mch
open Go.Bw Go.Proofs.Tryz
abbrev bp.aA (s:bp):bp:={ s with at_:=am.wrap<|s.at_+1 }
def Pm.aA (m:Pm):Pm:={ m with at_:=am.wrap<|m.at_+1 }
variable {bt:View} {v8:bp}
def bp.jP.at (h:v8.jP bt) (a:ab):bp.jP bt { v8 with at_:=a }:=⟨h.bI,h.bL,h.lC,h.out,h.hb⟩
def zu (m:Pm):I ab:=match m.dk with| []=>[]| f::_=>f.1
def Is (m:Pm) (k:Z) (n:ab):Pm:={ m with dk:=match m.dk with| []=>[]| f::r=>(f.1.set k n,f.2)::r }
def e9 (i:cS) (m:Pm):Rz dT:= if (i.op==1)=ac then lZ i.a m else if (i.op==2)=ac then (if gQ i.a (zu m).length=ac then .ov 6 m else lZ ((zu m)[i.a.toNat]?.getD 0) m) else if (i.op==3)=ac then (gP m).bind λn m=>if gQ i.a (zu m).length=ac then .ov 6 m else .ok () (Is m i.a.toNat n) else if (i.op==4)=ac then (if gQ i.a m.data.length=ac then .ov 6 m else lZ (m.data[i.a.toNat]?.getD 0) m) else if (i.op==5)=ac then (gP m).bind λn m=>if gQ i.a m.data.length=ac then .ov 6 m else .ok () { m with data:=m.data.set i.a.toNat n } else if (i.op==6)=ac then (gP m).bind λn m=>if (decide (n<0)||decide (i.b<=n))=ac then .ov 2 m else lZ (am.wrap<|i.a+n) m else if (i.op==7)=ac then (gP m).bind λn m=>if gQ n m.data.length=ac then .ov 6 m else lZ (m.data[n.toNat]?.getD 0) m else if (i.op==8)=ac then (gP m).bind λn m=>(gP m).bind λk m=>if gQ k m.data.length=ac then .ov 6 m else .ok () { m with data:=m.data.set k.toNat n } else if (i.op==9)=ac then (gP m).bind λn m=>lZ (nh<|n==0) m else if (i.op==22)=ac then (gP m).bind λn m=>lZ (nh<|n != 0) m else if (i.op==10)=ac then pS i.a m else if (i.op==11)=ac then .ok () { m with at_:=i.a } else if (i.op==12)=ac then (gP m).bind λn m=>if (n==0)=ac then .ok () { m with at_:=i.a } else .ok () m else if (i.op==13)=ac then xC i.a m else if (i.op==14)=ac then v4 i.a i.b m else if (i.op==15)=ac then zr m else if (i.op==16)=ac then xB m else if (i.op==17)=ac then (gP m).bind λ_ m=>.ok () m else if (i.op==18)=ac then lZ (rn m).1 (rn m).2 else if (i.op==19)=ac then (gP m).bind λn m=>if m.out.length=200 then .ov 5 m else .ok () { m with out:=m.out++[n] } else if (i.op==20)=ac then .ov 0 m else .ok () m
def eY (i:cS) (m:Pm):Rz dT:=e9 i m.aA
variable {xG:gc} {Bx:I gc}
def XJ {s:bp}   (a:s.dk=xG::Bx) (k:Z) (n:ab):s.obj=bp.obj { s with dk:={ xG with loc:=xG.loc.set k n }::Bx }/\cO 269 2 gc.cells s.fa s.fc s.dk.reverse=cO 269 2 gc.cells s.fa s.fc ({ xG with loc:=xG.loc.set k n }::Bx).reverse:=by
 constructor;·simp [bp.obj,a]
 ·simp [a,gc.cells,cO]
def It (s:bp) (k:Z) (n:ab):s.obj=bp.obj { s with data:=s.data.set k n }:=by simp [bp.obj]
def By {s:bp} {f:gc}  (a:s.dk=f::Bx):zu s.pu=f.loc:=by show (match s.dk.map gc.pu with| []=>[]| f::_=>f.1)=_;rw [a];rfl
def Wg {s:bp} {f:gc} {r:I gc} (a:s.dk=f::r) (k:Z) (n:ab):Is s.pu k n=bp.pu { s with dk:={ f with loc:=f.loc.set k n }::r }:=by show ({ s.pu with dk:=match s.dk.map gc.pu with| []=>[]| f::r=>(f.1.set k n,f.2)::r }:Pm)=_;rw [a];rfl
def N4 (h:v8.jP bt):∃f r,v8.dk=f::r:=by have:=h.lC.1;cases a:v8.dk with| nil=>rw [a] at this;simp at this| cons f r=>exact ⟨f,r,rfl⟩
def N5 (a:v8.dk=xG::Bx):v8.dk.reverse[v8.dk.length-1]? = aa xG:=by rw [a,yy,r4 aG];simp
def ir {i:ab} {n:Z} (h:gQ i n=au):0<=i/\i.toNat<n:=by unfold gQ at h;simp at h;omega
def kg:cX aB 62 1=aa 1:=ah
def ix:cX aB 64 2=aa 2:=ah
def Iu:cX aB 62 2=aa 2:=ah
def lv:cX aB 64 1=aa 1:=ah
set_option maxHeartbeats 4000000 in
def Wh (i:cS):ln 85 [.agg #[.int .i64 i.op,.int .i64 i.a,.int .i64 i.b]] (eY i)<|λi:Unit=>.tuple #[]:=by
 refine ⟨bf,λaX s cd w aK g=>?_⟩;have cT:s.stack.reverse.length=s.stack.length:=by simp
 have cU:s.dk.reverse.length=s.dk.length:=by simp
 have cV:=aK.bL;have cW:=aK.lC;have cX:=aK.out;have a':=aK.hb;refine enter func85 O 225 O O ?_;refine CE g<|ai ?_;refine WL.box Y O O λcY=>?_;refine ag<|ai<|ad O<|V0 (bP O)<|V0 (Yf sz O)<|V0 (Yd 1 O O O ah)<|V0 (s_ O O)<|V0 (bP O)<|V0 (Yf sz O) ?_;refine aq 1 Y O O O ei O O O<|dK 1 (bp.obj<|bp.aA s) O O ?_;have z:bp.jP cd<|bp.aA s:=aK.at _;refine ag<|ai<|V0 (Yf rk O)<|V0 (Yd 0 O O O ah)<|ag<|Cb<|ai<|V0 (bN O O)<|ar O<|ag ?_;refine Cc O (λj=>?_)<|λj=>?_
 ·refine Cr<|ad O<|V0 (Yf kg O)<|V0 (Yd 0 O O O ah)<|Lf 6 O<|Lf 6 O<|Lf 6 O<|Lf 6 O ?_;refine Lf 6 O<|Lf 6 O ?_;refine mw (rp i.a) z ?_ ?_;·intro a_ ba;refine WE.aF ?_;refine b3 λk g=>?_;have g:=Ws.ej (L:=[_,_,_,_,_,_]) g;refine .inr ⟨a_,O,?_,g⟩;unfold eY e9;rw [show s.pu.aA=(bp.aA s).pu from rfl];simp only [j,dP,dq,dp];exact ba
  intro a_ ⟨ba,ce⟩;refine Ln<|Eb ?_;refine E0 O λk g=>?_;have g:=Ws.ej (L:=[_,_,_,_,_,_]) g;refine .inl ⟨((),a_.2),O,⟨?_,ce⟩,g⟩;unfold eY e9;rw [show s.pu.aA=(bp.aA s).pu from rfl];simp only [j,dP,dq,dp];exact ba
 refine ai<|V0 (bN O O)<|ar O<|ag ?_;refine Cc O (λl=>?_)<|λl=>?_
 ·obtain ⟨f,r,P⟩:=N4 z;refine WC.fact (p:=0<f.loc.length->∃b o,f.la=some ⟨b,o,none⟩) (λw g T=>L3 (As:=(bp.aA s).dk.map gc.own) g 6 O (by rw [P];exact CO) T) λbb=>?_;have bc:=N5 P;refine CU (λ_=>true) [] [11] (.q false 0<|.q false 1<|.q false 6<|.q true 7<|.e 2 (.q false 3<|.q false 4<|.q true 5<|.e 8 (.q false 9<|.q true 10 .nil) .stop) .stop) mixed (by kernel_rfl) (λ_ _ _ d _ _ h=>by cases d<;>exact h) ?_;refine U0 O (λ_ h=>h) (Ym O)<|U0 O (λ_ h=>h) (Ym O)<|U0 O (λ_ h=>h) (Yf kg O)<|U0 O (λ_ h=>h) (Yd 0 O O O ah) ?_;refine Ue O (λ_ h=>h) ?_ WU.stop;refine Lf 6 O<|Lf 6 O<|Lf 6 O<|Lf 6 O<|Lf 6 O<|Lf 6 O ?_;refine zt z ?_;intro cZ cf;refine Ln<|Eu<|U0 O (λ_ h=>(h.f 6 O:)) (bP O)<|U0 O (λ_ h=>(h.f 6 O:)) (Yf Bv O)<|U0 O (λ_ h=>(h.f 6 O:)) (m9 (y:=f) 3 (s.dk.length-1) 0 O O cf O gc.dA bc O ah) ?_;refine Ue O (λ_ h=>(h.f 6 O:)) ?_ WU.stop;refine v7 bb ?_ ?_;·intro aP;refine Ep<|WE.aF ?_;refine b3 λk g=>?_;have g:=Ws.ej (L:=[_,_,_,_,_,_]) g;refine .inr ⟨(6,bp.aA s),O,?_,g⟩;unfold eY e9;rw [show s.pu.aA=(bp.aA s).pu from rfl];simp only [j,l,dP,dq,dp];rw [By (s:=bp.aA s) P,aU aP]
  intro c0 ⟨aP,cg⟩;obtain ⟨b8,bd⟩:∃x,f.loc[i.a.toNat]? = some x:=⟨_,dh (ir aP).2⟩;refine Ln<|Eu<|U0 O (λ_ h=>(h.f 6 O:)) (bP O)<|U0 O (λ_ h=>(h.f 6 O:)) (T1 (xs:=f.loc) (y:=b8) 6 i.a.toNat 0 O O (by rw [P];exact CO) cg O i5 bd O ah) ?_;refine WU.nil (λ_ h=>(h.f 6 O:)) ?_;refine WS.e O ?_;refine mw (rp b8) z ?_ ?_;·intro be bh;refine Ep<|WE.aF ?_;refine b3 λk g=>?_;have g:=Ws.ej (L:=[_,_,_,_,_,_]) g;refine .inr ⟨be,O,?_,g⟩;unfold eY e9;rw [show s.pu.aA=(bp.aA s).pu from rfl];simp only [j,l,dP,dq,dp];rw [By (s:=bp.aA s) P,aP,ao (by simp),bd];exact bh
  intro be ⟨bh,ch⟩;refine Ln<|Es ?_;refine WS.nil ?_;refine Eb ?_;refine E0 O λk g=>?_;have g:=Ws.ej (L:=[_,_,_,_,_,_]) g;refine .inl ⟨((),be.2),O,⟨?_,ch⟩,g⟩;unfold eY e9;rw [show s.pu.aA=(bp.aA s).pu from rfl];simp only [j,l,dP,dq,dp];rw [By (s:=bp.aA s) P,aP,ao (by simp),bd];exact bh
 refine ai<|V0 (bN O O)<|ar O<|ag ?_;refine Cc O (λm=>?_)<|λm=>?_
 ·refine ai<|ad O<|Lf 6 O<|Lf 6 O<|Lf 6 O<|Lf 6 O<|Lf 6 O<|Lf 6 O ?_;refine pf z ?_ ?_;·intro M aY;refine Ep<|WE.aF ?_;refine b3 λk g=>?_;have g:=Ws.ej (L:=[_,_,_,_,_,_]) g;refine .inr ⟨M,O,?_,g⟩;unfold eY e9;rw [show s.pu.aA=(bp.aA s).pu from rfl];simp only [j,l,m,dP,dq,dp];rw [aY];rfl
  intro M ⟨aY,bi⟩;refine ar O<|ag ?_;obtain ⟨f,r,P⟩:=N4 bi;refine WC.fact (p:=0<f.loc.length->∃b o,f.la=some ⟨b,o,none⟩) (λw g T=>L3 (As:=(bp.fu (bp.aA s) M.2).dk.map gc.own) g 5 O (by rw [P];exact CO) T) λbb=>?_;have bc:=N5 P;refine CU (λ_=>true) [] [10] (.q false 0<|.q false 5<|.q true 6<|.q false 8<|.e 1 (.q false 2<|.q false 3<|.q true 4<|.e 7 (.q false 9 .nil) .stop) .stop) mixed (by kernel_rfl) (λ_ _ _ d _ _ h=>by cases d<;>exact h) ?_;refine U0 O (λ_ h=>h) (Ym O)<|U0 O (λ_ h=>h) (Yf kg O)<|U0 O (λ_ h=>h) (Yd 6 O O O ah)<|U0 O (λ_ h=>h) (Ym O) ?_;refine Ue O (λ_ h=>h) ?_ WU.stop;refine zt bi ?_;intro c1 cj;refine Ln<|Eu<|U0 O (λ_ h=>h) (bP O)<|U0 O (λ_ h=>h) (Yf Bv O)<|U0 O (λ_ h=>h) (m9 (y:=f) 2 (s.dk.length-1) 0 O O cj O gc.dA bc O ah) ?_;refine Ue O (λ_ h=>h) ?_ WU.stop;refine v7 bb ?_ ?_;·intro aZ;refine Ep<|WE.aF ?_;refine b3 λk g=>?_;have g:=Ws.ej (L:=[_,_,_,_,_,_]) g;refine .inr ⟨(6,bp.fu (bp.aA s) M.2),O,?_,g⟩;unfold eY e9;rw [show s.pu.aA=(bp.aA s).pu from rfl];simp only [j,l,m,dP,dq,dp];rw [aY];show (if gQ i.a (zu (bp.fu (bp.aA s) M.2).pu).length=true then _ else _)=_;rw [By (s:=bp.fu (bp.aA s) M.2) P,aU aZ]
  intro c2 ⟨aZ,ck⟩;obtain ⟨cl,cm⟩:∃x,f.loc[i.a.toNat]? = some x:=⟨_,dh (ir aZ).2⟩;refine Ln<|Eu<|U0 O (λ_ h=>h) (bP O) ?_;refine WU.nil (λ_ h=>h) ?_;refine WS.e O ?_;refine WL.oW (A':=bH<|gc.own f::r.map gc.own) 5 O (by rw [P];rfl) ?_;refine Lf 5 O ?_;refine WL.LZ ?_;refine WL.storeT (y:=cl) 0 i.a.toNat 0 M.1 Y O O O ck O i5 cm ei O O (by decide) O ?_;refine WL.L0 ?_;refine Ln<|Es ?_;refine WS.nil ?_;refine Eb ?_;refine E0 O λk g=>?_;have g:=g.av 5 rfl;have g:=g.av 5 rfl;have g:=g.av 5 rfl;have g:=g.av 5 rfl;have g:=g.av 5 rfl;have g:=Ws.ej (L:=[_,_,_,_,_,_]) g;have e:=XJ (s:=bp.fu (bp.aA s) M.2) P i.a.toNat M.1;have g:=g.oW 0 rfl<|congrArg (aJ aX) e.1;have g:=g.oW 2 rfl e.2;refine .inl ⟨((),{ bp.fu (bp.aA s) M.2 with dk:={ f with loc:=f.loc.set i.a.toNat M.1 }::r }),O,⟨?_,⟨z.bI,bi.bL,by have:=z.lC;rw [show (bp.aA s).dk=f::r from P] at this;exact this,z.out,z.hb⟩⟩,g⟩;unfold eY e9;rw [show s.pu.aA=(bp.aA s).pu from rfl];simp only [j,l,m,dP,dq,dp];rw [aY];show (if gQ i.a (zu (bp.fu (bp.aA s) M.2).pu).length=true then _ else _)=_;rw [By (s:=bp.fu (bp.aA s) M.2) P,aZ,ao (by simp)];show Rz.ok () (Is (bp.fu (bp.aA s) M.2).pu i.a.toNat M.1)=_;rw [Wg (s:=bp.fu (bp.aA s) M.2) P]
 refine ai<|V0 (bN O O)<|ar O<|ag ?_;refine Cc O (λn=>?_)<|λn=>?_
 ·refine WC.fact (p:=0<s.data.length->∃b o,s.da=some ⟨b,o,none⟩) (λw g T=>DJ g 5 O T) λX=>?_;refine CU (λ_=>true) [] [11] (.q false 0<|.q false 1<|.q false 2<|.q false 3<|.q false 4<|.q true 5<|.q false 6<|.q true 7<|.e 8 (.q false 9<|.q true 10 .nil) .stop) mixed (by kernel_rfl) (λ_ _ _ d _ _ h=>by cases d<;>exact h) ?_;refine U0 O (λ_ h=>h) (Ym O)<|U0 O (λ_ h=>h) (Ym O)<|U0 O (λ_ h=>h) (bP O)<|U0 O (λ_ h=>h) (Yf qC O)<|U0 O (λ_ h=>h) (Yf ix O)<|U0 O (λ_ h=>h) (Yd 1 O O O ah)<|U0 O (λ_ h=>h) (Yf kg O)<|U0 O (λ_ h=>h) (Yd 0 O O O ah) ?_;refine Ue O (λ_ h=>h) ?_ WU.stop;refine v7 X ?_ ?_;·intro aR;refine Ep<|WE.aF ?_;refine b3 λk g=>?_;have g:=g.av 6 rfl;have g:=g.av 6 rfl;have g:=g.av 6 rfl;have g:=g.av 6 rfl;have g:=g.av 6 rfl;have g:=g.av 6 rfl;have g:=Ws.ej (L:=[_,_,_,_,_,_]) g;refine .inr ⟨(6,bp.aA s),O,?_,g⟩;unfold eY e9;rw [show s.pu.aA=(bp.aA s).pu from rfl];simp only [j,l,m,n,dP,dq,dp];show (if gQ i.a s.data.length=true then _ else _)=_;rw [aU aR]
  intro c3 ⟨aR,co⟩;obtain ⟨b9,bj⟩:∃x,s.data[i.a.toNat]? = some x:=⟨_,dh (ir aR).2⟩;refine Ln<|Eu<|U0 O (λ_ h=>h) (bP O)<|U0 O (λ_ h=>h) (m9 (y:=b9) 5 i.a.toNat 0 O O co O i5 bj O ah) ?_;refine WU.nil (λ_ h=>h) ?_;refine WS.e O ?_;refine Lf 6 O<|Lf 6 O<|Lf 6 O<|Lf 6 O<|Lf 6 O<|Lf 6 O ?_;refine mw (rp b9) z ?_ ?_;·intro bk bm;refine Ep<|WE.aF ?_;refine b3 λk g=>?_;have g:=Ws.ej (L:=[_,_,_,_,_,_]) g;refine .inr ⟨bk,O,?_,g⟩;unfold eY e9;rw [show s.pu.aA=(bp.aA s).pu from rfl];simp only [j,l,m,n,dP,dq,dp];show (if gQ i.a s.data.length=true then _ else _)=_;rw [aR,ao (by simp)];show lZ (s.data[i.a.toNat]?.getD 0) _=_;rw [bj];exact bm
  intro bk ⟨bm,cp⟩;refine Ln<|Es ?_;refine WS.nil ?_;refine Eb ?_;refine E0 O λk g=>?_;have g:=Ws.ej (L:=[_,_,_,_,_,_]) g;refine .inl ⟨((),bk.2),O,⟨?_,cp⟩,g⟩;unfold eY e9;rw [show s.pu.aA=(bp.aA s).pu from rfl];simp only [j,l,m,n,dP,dq,dp];show (if gQ i.a s.data.length=true then _ else _)=_;rw [aR,ao (by simp)];show lZ (s.data[i.a.toNat]?.getD 0) _=_;rw [bj];exact bm
 refine ai<|V0 (bN O O)<|ar O<|ag ?_;refine Cc O (λt=>?_)<|λt=>?_
 ·refine ai<|ad O<|Lf 6 O<|Lf 6 O<|Lf 6 O<|Lf 6 O<|Lf 6 O<|Lf 6 O ?_;refine pf z ?_ ?_;·intro ae a1;refine Ep<|WE.aF ?_;refine b3 λk g=>?_;have g:=Ws.ej (L:=[_,_,_,_,_,_]) g;refine .inr ⟨ae,O,?_,g⟩;unfold eY e9;rw [show s.pu.aA=(bp.aA s).pu from rfl];simp only [j,l,m,n,t,dP,dq,dp];rw [a1];rfl
  intro ae ⟨a1,cs⟩;refine ar O<|ag ?_;refine WC.fact (p:=0<s.data.length->∃b o,s.da=some ⟨b,o,none⟩) (λw g T=>DJ g 4 O T) λX=>?_;refine CU (λ_=>true) [] [10] (.q false 0<|.q false 1<|.q false 2<|.q false 3<|.q true 4<|.q false 5<|.q true 6<|.q false 8<|.e 7 (.q false 9 .nil) .stop) mixed (by kernel_rfl) (λ_ _ _ d _ _ h=>by cases d<;>exact h) ?_;refine U0 O (λ_ h=>h) (Ym O)<|U0 O (λ_ h=>h) (bP O)<|U0 O (λ_ h=>h) (Yf qC O)<|U0 O (λ_ h=>h) (Yf ix O)<|U0 O (λ_ h=>h) (Yd 0 O O O ah)<|U0 O (λ_ h=>h) (Yf kg O)<|U0 O (λ_ h=>h) (Yd 6 O O O ah)<|U0 O (λ_ h=>h) (Ym O) ?_;refine Ue O (λ_ h=>h) ?_ WU.stop;refine v7 X ?_ ?_;·intro a2;refine Ep<|WE.aF ?_;refine b3 λk g=>?_;have g:=Ws.ej (L:=[_,_,_,_,_,_]) g;refine .inr ⟨(6,bp.fu (bp.aA s) ae.2),O,?_,g⟩;unfold eY e9;rw [show s.pu.aA=(bp.aA s).pu from rfl];simp only [j,l,m,n,t,dP,dq,dp];rw [a1];show (if gQ i.a s.data.length=true then _ else _)=_;rw [aU a2]
  intro c4 ⟨a2,ct⟩;obtain ⟨cu,cv⟩:∃x,s.data[i.a.toNat]? = some x:=⟨_,dh (ir a2).2⟩;refine Ln<|Eu<|U0 O (λ_ h=>h) (bP O) ?_;refine WU.nil (λ_ h=>h) ?_;refine WS.e O ?_;refine WL.storeT (y:=cu) 4 i.a.toNat 0 ae.1 Y O O O ct O i5 cv ei O O (by decide) O ?_;refine Ln<|Es ?_;refine WS.nil ?_;refine Eb ?_;refine E0 O λk g=>?_;have g:=Ws.ej (L:=[_,_,_,_,_,_]) g;have g:=g.oW 0 rfl<|congrArg (aJ aX)<|It (bp.fu (bp.aA s) ae.2) i.a.toNat ae.1;refine .inl ⟨((),{ bp.fu (bp.aA s) ae.2 with data:=s.data.set i.a.toNat ae.1 }),O,⟨?_,⟨z.bI,cs.bL,z.lC,z.out,by show (s.data.set i.a.toNat ae.1).length<=512;simp;exact a'⟩⟩,g⟩;unfold eY e9;rw [show s.pu.aA=(bp.aA s).pu from rfl];simp only [j,l,m,n,t,dP,dq,dp];rw [a1];show (if gQ i.a s.data.length=true then _ else _)=_;rw [a2,ao (by simp)];rfl
 refine ai<|V0 (bN O O)<|ar O<|ag ?_;refine Cc O (λu=>?_)<|λu=>?_
 ·refine ai<|ad O<|Lf 6 O<|Lf 6 O<|Lf 6 O<|Lf 6 O<|Lf 6 O<|Lf 6 O ?_;refine pf z ?_ ?_;·intro R aS;refine Ep<|WE.aF ?_;refine b3 λk g=>?_;have g:=Ws.ej (L:=[_,_,_,_,_,_]) g;refine .inr ⟨R,O,?_,g⟩;unfold eY e9;rw [show s.pu.aA=(bp.aA s).pu from rfl];simp only [j,l,m,n,t,u,dP,dq,dp];rw [aS];rfl
  intro R ⟨aS,cw⟩;refine ar O<|ag<|ai<|ad O<|V0 (cP O O)<|ad O ?_;apply Lo 4 O O O O Y O O O O O;·intro c6;refine Vg (Ym O)<|Vg (Yf Iu O)<|Vg (Yd 6 O O O ah)<|Vg (hE O O) ?_;exact Gt 4 O O O
  refine d' (c:=decide (R.1<0)||decide (i.b<=R.1)) ?_ ?_;·intro a3;refine Ep<|WE.aF ?_;refine b3 λk g=>?_;have g:=Ws.ej (L:=[_,_,_,_,_,_]) g;refine .inr ⟨(2,bp.fu (bp.aA s) R.2),O,?_,g⟩;unfold eY e9;rw [show s.pu.aA=(bp.aA s).pu from rfl];simp only [j,l,m,n,t,u,dP,dq,dp];rw [aS];show (if (decide (R.1<0)||decide (i.b<=R.1))=true then _ else _)=_;rw [aU a3]
  intro a3;refine ag<|Cr<|ad O<|V0 (Yf kg O)<|V0 (Yd 6 O O O ah)<|ad O<|V0 (s_ O O) ?_;refine mw (rp<|IntKind.i64.wrap<|i.a+R.1) cw ?_ ?_;·intro bn bo;refine WE.aF ?_;refine b3 λk g=>?_;have g:=Ws.ej (L:=[_,_,_,_,_,_]) g;refine .inr ⟨bn,O,?_,g⟩;unfold eY e9;rw [show s.pu.aA=(bp.aA s).pu from rfl];simp only [j,l,m,n,t,u,dP,dq,dp];rw [aS];show (if (decide (R.1<0)||decide (i.b<=R.1))=true then _ else _)=_;rw [a3,ao (by simp)];exact bo
  intro bn ⟨bo,cx⟩;refine Ln<|Eb ?_;refine E0 O λk g=>?_;have g:=Ws.ej (L:=[_,_,_,_,_,_]) g;refine .inl ⟨((),bn.2),O,⟨?_,cx⟩,g⟩;unfold eY e9;rw [show s.pu.aA=(bp.aA s).pu from rfl];simp only [j,l,m,n,t,u,dP,dq,dp];rw [aS];show (if (decide (R.1<0)||decide (i.b<=R.1))=true then _ else _)=_;rw [a3,ao (by simp)];exact bo
 refine ai<|V0 (bN O O)<|ar O<|ag ?_;refine Cc O (λv=>?_)<|λv=>?_
 ·refine WC.fact (p:=0<s.data.length->∃b o,s.da=some ⟨b,o,none⟩) (λw g T=>DJ g 5 O T) λX=>?_;refine CU (λ_=>true) [1,1] [11] (.q false 0<|.q false 1<|.q false 2<|.q false 3<|.q false 4<|.q false 6<|.e 5 (.e 7 (.e 8 (.q false 9<|.q true 10 .nil) .stop) .stop)<|.e 7 (.e 5 (.e 8 (.q false 9<|.q true 10 .nil) .stop) .stop) .stop) mixed (by kernel_rfl) (λ_ _ _ d _ _ h=>by cases d<;>exact h) ?_;refine U0 O (cn [1,1]) (Ym O)<|U0 O (cn [1,1]) (Ym O)<|U0 O (cn [1,1]) (bP O)<|U0 O (cn [1,1]) (Yf qC O)<|U0 O (cn [1,1]) (Yf ix O)<|U0 O (cn [1,1]) (Ym O) ?_;refine Ue O (cn [1,1]) ?_ ?_
  ·refine V0 (Yd 1 O O O ah)<|Ln<|Eu ?_;refine Ue O (cn [1,1]) ?_ WU.stop;refine Lf 6 O<|Lf 6 O<|Lf 6 O<|Lf 6 O<|Lf 6 O<|Lf 6 O ?_;refine pf z ?_ ?_;·intro H U;refine Ep<|WE.aF ?_;refine b3 λk g=>?_;have g:=Ws.ej (L:=[_,_,_,_,_,_]) g;refine .inr ⟨H,O,?_,g⟩;unfold eY e9;rw [show s.pu.aA=(bp.aA s).pu from rfl];simp only [j,l,m,n,t,u,v,dP,dq,dp];rw [U];rfl
   intro H ⟨U,bq⟩;refine Ln<|Eu ?_;refine Ue O (λ_ h=>(Wo 1<|Wo 1<|h.f 6 O:)) ?_ WU.stop;refine v7 X ?_ ?_;·intro V;refine Ep<|WE.aF ?_;refine b3 λk g=>?_;have g:=Ws.ej (L:=[_,_,_,_,_,_]) g;refine .inr ⟨(6,bp.fu (bp.aA s) H.2),O,?_,g⟩;unfold eY e9;rw [show s.pu.aA=(bp.aA s).pu from rfl];simp only [j,l,m,n,t,u,v,dP,dq,dp];rw [U];show (if gQ H.1 s.data.length=true then _ else _)=_;rw [aU V]
   intro cy ⟨V,br⟩;obtain ⟨aW,aw⟩:∃x,s.data[H.1.toNat]? = some x:=⟨_,dh (ir V).2⟩;refine Ln<|Eu<|U0 O (λ_ h=>(Wo 1<|Wo 1<|h.f 6 O:)) (bP O)<|U0 O (λ_ h=>(Wo 1<|Wo 1<|h.f 6 O:)) (m9 (y:=aW) 3 H.1.toNat 0 O O br O i5 aw O ah) ?_;refine WU.nil (λ_ h=>(Wo 1<|Wo 1<|h.f 6 O:)) ?_;refine WS.e O ?_;refine mw (rp aW) bq ?_ ?_;·intro aD aE;refine Ep<|WE.aF ?_;refine b3 λk g=>?_;have g:=Ws.ej (L:=[_,_,_,_,_,_]) g;refine .inr ⟨aD,O,?_,g⟩;unfold eY e9;rw [show s.pu.aA=(bp.aA s).pu from rfl];simp only [j,l,m,n,t,u,v,dP,dq,dp];rw [U];show (if gQ H.1 s.data.length=true then _ else _)=_;rw [V,ao (by simp)];show lZ (s.data[H.1.toNat]?.getD 0) _=_;rw [aw];exact aE
   intro aD ⟨aE,bs⟩;refine Ln<|Es ?_;refine WS.nil ?_;refine Eb ?_;refine E0 O λk g=>?_;have g:=Ws.ej (L:=[_,_,_,_,_,_]) g;refine .inl ⟨((),aD.2),O,⟨?_,bs⟩,g⟩;unfold eY e9;rw [show s.pu.aA=(bp.aA s).pu from rfl];simp only [j,l,m,n,t,u,v,dP,dq,dp];rw [U];show (if gQ H.1 s.data.length=true then _ else _)=_;rw [V,ao (by simp)];show lZ (s.data[H.1.toNat]?.getD 0) _=_;rw [aw];exact aE
  refine Ue O (cn [1,1]) ?_ WU.stop;refine Lf 6 O<|Lf 6 O<|Lf 6 O<|Lf 6 O<|Lf 6 O<|Lf 6 O ?_;refine pf z ?_ ?_;·intro H U;refine Ep<|WE.aF ?_;refine b3 λk g=>?_;have g:=Ws.ej (L:=[_,_,_,_,_,_]) g;refine .inr ⟨H,O,?_,g⟩;unfold eY e9;rw [show s.pu.aA=(bp.aA s).pu from rfl];simp only [j,l,m,n,t,u,v,dP,dq,dp];rw [U];rfl
  intro H ⟨U,bq⟩;refine Ln<|Eu ?_;refine Ue O (λ_ h=>(Wo 1<|Wo 1<|h.f 6 O:)) ?_ WU.stop;refine V0 (Yd 0 O O O ah)<|Ln<|Eu ?_;refine Ue O (λ_ h=>(Wo 1<|Wo 1<|h.f 6 O:)) ?_ WU.stop;refine v7 X ?_ ?_;·intro V;refine Ep<|WE.aF ?_;refine b3 λk g=>?_;have g:=Ws.ej (L:=[_,_,_,_,_,_]) g;refine .inr ⟨(6,bp.fu (bp.aA s) H.2),O,?_,g⟩;unfold eY e9;rw [show s.pu.aA=(bp.aA s).pu from rfl];simp only [j,l,m,n,t,u,v,dP,dq,dp];rw [U];show (if gQ H.1 s.data.length=true then _ else _)=_;rw [aU V]
  intro cy ⟨V,br⟩;obtain ⟨aW,aw⟩:∃x,s.data[H.1.toNat]? = some x:=⟨_,dh (ir V).2⟩;refine Ln<|Eu<|U0 O (λ_ h=>(Wo 1<|Wo 1<|h.f 6 O:)) (bP O)<|U0 O (λ_ h=>(Wo 1<|Wo 1<|h.f 6 O:)) (m9 (y:=aW) 3 H.1.toNat 0 O O br O i5 aw O ah) ?_;refine WU.nil (λ_ h=>(Wo 1<|Wo 1<|h.f 6 O:)) ?_;refine WS.e O ?_;refine mw (rp aW) bq ?_ ?_;·intro aD aE;refine Ep<|WE.aF ?_;refine b3 λk g=>?_;have g:=Ws.ej (L:=[_,_,_,_,_,_]) g;refine .inr ⟨aD,O,?_,g⟩;unfold eY e9;rw [show s.pu.aA=(bp.aA s).pu from rfl];simp only [j,l,m,n,t,u,v,dP,dq,dp];rw [U];show (if gQ H.1 s.data.length=true then _ else _)=_;rw [V,ao (by simp)];show lZ (s.data[H.1.toNat]?.getD 0) _=_;rw [aw];exact aE
  intro aD ⟨aE,bs⟩;refine Ln<|Es ?_;refine WS.nil ?_;refine Eb ?_;refine E0 O λk g=>?_;have g:=Ws.ej (L:=[_,_,_,_,_,_]) g;refine .inl ⟨((),aD.2),O,⟨?_,bs⟩,g⟩;unfold eY e9;rw [show s.pu.aA=(bp.aA s).pu from rfl];simp only [j,l,m,n,t,u,v,dP,dq,dp];rw [U];show (if gQ H.1 s.data.length=true then _ else _)=_;rw [V,ao (by simp)];show lZ (s.data[H.1.toNat]?.getD 0) _=_;rw [aw];exact aE
 refine ai<|V0 (bN O O)<|ar O<|ag ?_;refine Cc O (λA=>?_)<|λA=>?_
 ·refine ai<|ad O<|Lf 6 O<|Lf 6 O<|Lf 6 O<|Lf 6 O<|Lf 6 O<|Lf 6 O ?_;refine pf z ?_ ?_;·intro F al;refine Ep<|WE.aF ?_;refine b3 λk g=>?_;have g:=Ws.ej (L:=[_,_,_,_,_,_]) g;refine .inr ⟨F,O,?_,g⟩;unfold eY e9;rw [show s.pu.aA=(bp.aA s).pu from rfl];simp only [j,l,m,n,t,u,v,A,dP,dq,dp];rw [al];rfl
  intro F ⟨al,b'⟩;refine ar O<|ag ?_;refine WC.fact (p:=0<s.data.length->∃b o,s.da=some ⟨b,o,none⟩) (λw g T=>DJ g 4 O T) λX=>?_;refine CU (λ_=>true) [0,0] [10] (.q false 0<|.q false 1<|.q false 2<|.q false 3<|.q false 5<|.q false 8<|.e 4 (.e 6 (.e 7 (.q false 9 .nil) .stop) .stop)<|.e 6 (.e 4 (.e 7 (.q false 9 .nil) .stop) .stop) .stop) mixed (by kernel_rfl) (λ_ _ _ d _ _ h=>by cases d<;>exact h) ?_;refine U0 O (cn [0,0]) (Ym O)<|U0 O (cn [0,0]) (bP O)<|U0 O (cn [0,0]) (Yf qC O)<|U0 O (cn [0,0]) (Yf ix O)<|U0 O (cn [0,0]) (Ym O)<|U0 O (cn [0,0]) (Ym O) ?_;refine Ue O (cn [0,0]) ?_ ?_
  ·refine V0 (Yd 0 O O O ah)<|Ln<|Eu ?_;refine Ue O (cn [0,0]) ?_ WU.stop;refine pf b' ?_ ?_;·intro D af;refine Ep<|WE.aF ?_;refine b3 λk g=>?_;have g:=Ws.ej (L:=[_,_,_,_,_,_]) g;refine .inr ⟨D,O,?_,g⟩;unfold eY e9;rw [show s.pu.aA=(bp.aA s).pu from rfl];simp only [j,l,m,n,t,u,v,A,dP,dq,dp];rw [al];show Rz.bind (gP (bp.fu (bp.aA s) F.2).pu) _=_;rw [af];rfl
   intro D ⟨af,bt⟩;refine Ln<|Eu ?_;refine Ue O (cn [0,0]) ?_ WU.stop;refine v7 X ?_ ?_;·intro aj;refine Ep<|WE.aF ?_;refine b3 λk g=>?_;have g:=Ws.ej (L:=[_,_,_,_,_,_]) g;refine .inr ⟨(6,bp.fu (bp.fu (bp.aA s) F.2) D.2),O,?_,g⟩;unfold eY e9;rw [show s.pu.aA=(bp.aA s).pu from rfl];simp only [j,l,m,n,t,u,v,A,dP,dq,dp];rw [al];show Rz.bind (gP (bp.fu (bp.aA s) F.2).pu) _=_;rw [af];show (if gQ D.1 s.data.length=true then _ else _)=_;rw [aU aj]
   intro cz ⟨aj,bu⟩;obtain ⟨bv,bw⟩:∃x,s.data[D.1.toNat]? = some x:=⟨_,dh (ir aj).2⟩;refine Ln<|Eu<|U0 O (cn [0,0]) (bP O) ?_;refine WU.nil (cn [0,0]) ?_;refine WS.e O ?_;refine WL.storeT (y:=bv) 4 D.1.toNat 0 F.1 Y O O O bu O i5 bw ei O O (by decide) O ?_;refine Ln<|Es ?_;refine WS.nil ?_;refine Eb ?_;refine E0 O λk g=>?_;have g:=Ws.ej (L:=[_,_,_,_,_,_]) g;have g:=g.oW 0 rfl<|congrArg (aJ aX)<|It (bp.fu (bp.fu (bp.aA s) F.2) D.2) D.1.toNat F.1;refine .inl ⟨((),{ bp.fu (bp.fu (bp.aA s) F.2) D.2 with data:=s.data.set D.1.toNat F.1 }),O,⟨?_,⟨z.bI,bt.bL,z.lC,z.out,by show (s.data.set D.1.toNat F.1).length<=512;simp;exact a'⟩⟩,g⟩;unfold eY e9;rw [show s.pu.aA=(bp.aA s).pu from rfl];simp only [j,l,m,n,t,u,v,A,dP,dq,dp];rw [al];show Rz.bind (gP (bp.fu (bp.aA s) F.2).pu) _=_;rw [af];show (if gQ D.1 s.data.length=true then _ else _)=_;rw [aj,ao (by simp)];rfl
  refine Ue O (cn [0,0]) ?_ WU.stop;refine pf b' ?_ ?_;·intro D af;refine Ep<|WE.aF ?_;refine b3 λk g=>?_;have g:=Ws.ej (L:=[_,_,_,_,_,_]) g;refine .inr ⟨D,O,?_,g⟩;unfold eY e9;rw [show s.pu.aA=(bp.aA s).pu from rfl];simp only [j,l,m,n,t,u,v,A,dP,dq,dp];rw [al];show Rz.bind (gP (bp.fu (bp.aA s) F.2).pu) _=_;rw [af];rfl
  intro D ⟨af,bt⟩;refine Ln<|Eu ?_;refine Ue O (cn [0,0]) ?_ WU.stop;refine V0 (Yd 0 O O O ah)<|Ln<|Eu ?_;refine Ue O (cn [0,0]) ?_ WU.stop;refine v7 X ?_ ?_;·intro aj;refine Ep<|WE.aF ?_;refine b3 λk g=>?_;have g:=Ws.ej (L:=[_,_,_,_,_,_]) g;refine .inr ⟨(6,bp.fu (bp.fu (bp.aA s) F.2) D.2),O,?_,g⟩;unfold eY e9;rw [show s.pu.aA=(bp.aA s).pu from rfl];simp only [j,l,m,n,t,u,v,A,dP,dq,dp];rw [al];show Rz.bind (gP (bp.fu (bp.aA s) F.2).pu) _=_;rw [af];show (if gQ D.1 s.data.length=true then _ else _)=_;rw [aU aj]
  intro cz ⟨aj,bu⟩;obtain ⟨bv,bw⟩:∃x,s.data[D.1.toNat]? = some x:=⟨_,dh (ir aj).2⟩;refine Ln<|Eu<|U0 O (cn [0,0]) (bP O) ?_;refine WU.nil (cn [0,0]) ?_;refine WS.e O ?_;refine WL.storeT (y:=bv) 4 D.1.toNat 0 F.1 Y O O O bu O i5 bw ei O O (by decide) O ?_;refine Ln<|Es ?_;refine WS.nil ?_;refine Eb ?_;refine E0 O λk g=>?_;have g:=Ws.ej (L:=[_,_,_,_,_,_]) g;have g:=g.oW 0 rfl<|congrArg (aJ aX)<|It (bp.fu (bp.fu (bp.aA s) F.2) D.2) D.1.toNat F.1;refine .inl ⟨((),{ bp.fu (bp.fu (bp.aA s) F.2) D.2 with data:=s.data.set D.1.toNat F.1 }),O,⟨?_,⟨z.bI,bt.bL,z.lC,z.out,by show (s.data.set D.1.toNat F.1).length<=512;simp;exact a'⟩⟩,g⟩;unfold eY e9;rw [show s.pu.aA=(bp.aA s).pu from rfl];simp only [j,l,m,n,t,u,v,A,dP,dq,dp];rw [al];show Rz.bind (gP (bp.fu (bp.aA s) F.2).pu) _=_;rw [af];show (if gQ D.1 s.data.length=true then _ else _)=_;rw [aj,ao (by simp)];rfl
 refine ai<|V0 (bN O O)<|ar O<|ag ?_;refine Cc O (λB=>?_)<|λB=>?_
 ·refine Cr<|ad O<|ad O<|Lf 6 O<|Lf 6 O<|Lf 6 O<|Lf 6 O<|Lf 6 O ?_;refine Lf 6 O ?_;refine pf z ?_ ?_;·intro bx a4;refine WE.aF ?_;refine b3 λk g=>?_;have g:=Ws.ej (L:=[_,_,_,_,_,_]) g;refine .inr ⟨bx,O,?_,g⟩;unfold eY e9;rw [show s.pu.aA=(bp.aA s).pu from rfl];simp only [j,l,m,n,t,u,v,A,B,dP,dq,dp];rw [a4];rfl
  intro bx ⟨a4,cA⟩;refine V0 (bN O O)<|Lp Y O bf O (λw g=>Ez _ w) ?_;refine mw (rp<|nh<|bx.1==0) cA ?_ ?_;·intro bz bB;refine WE.aF ?_;refine b3 λk g=>?_;have g:=Ws.ej (L:=[_,_,_,_,_,_]) g;refine .inr ⟨bz,O,?_,g⟩;unfold eY e9;rw [show s.pu.aA=(bp.aA s).pu from rfl];simp only [j,l,m,n,t,u,v,A,B,dP,dq,dp];rw [a4];exact bB
  intro bz ⟨bB,cB⟩;refine Ln<|Eb ?_;refine E0 O λk g=>?_;have g:=Ws.ej (L:=[_,_,_,_,_,_]) g;refine .inl ⟨((),bz.2),O,⟨?_,cB⟩,g⟩;unfold eY e9;rw [show s.pu.aA=(bp.aA s).pu from rfl];simp only [j,l,m,n,t,u,v,A,B,dP,dq,dp];rw [a4];exact bB
 refine ai<|V0 (bN O O)<|ar O<|ag ?_;refine Cc O (λC=>?_)<|λC=>?_
 ·refine Cr<|ad O<|ad O<|Lf 6 O<|Lf 6 O<|Lf 6 O<|Lf 6 O<|Lf 6 O ?_;refine Lf 6 O ?_;refine pf z ?_ ?_;·intro bC a5;refine WE.aF ?_;refine b3 λk g=>?_;have g:=Ws.ej (L:=[_,_,_,_,_,_]) g;refine .inr ⟨bC,O,?_,g⟩;unfold eY e9;rw [show s.pu.aA=(bp.aA s).pu from rfl];simp only [j,l,m,n,t,u,v,A,B,C,dP,dq,dp];rw [a5];rfl
  intro bC ⟨a5,cC⟩;refine V0 (g2 O O)<|Lp Y O bf O (λw g=>Ez _ w) ?_;refine mw (rp<|nh<|bC.1 != 0) cC ?_ ?_;·intro bD bF;refine WE.aF ?_;refine b3 λk g=>?_;have g:=Ws.ej (L:=[_,_,_,_,_,_]) g;refine .inr ⟨bD,O,?_,g⟩;unfold eY e9;rw [show s.pu.aA=(bp.aA s).pu from rfl];simp only [j,l,m,n,t,u,v,A,B,C,dP,dq,dp];rw [a5];exact bF
  intro bD ⟨bF,cD⟩;refine Ln<|Eb ?_;refine E0 O λk g=>?_;have g:=Ws.ej (L:=[_,_,_,_,_,_]) g;refine .inl ⟨((),bD.2),O,⟨?_,cD⟩,g⟩;unfold eY e9;rw [show s.pu.aA=(bp.aA s).pu from rfl];simp only [j,l,m,n,t,u,v,A,B,C,dP,dq,dp];rw [a5];exact bF
 refine ai<|V0 (bN O O)<|ar O<|ag ?_;refine Cc O (λE=>?_)<|λE=>?_
 ·refine Cr<|ad O<|V0 (Yf kg O)<|V0 (Yd 0 O O O ah)<|Lf 6 O<|Lf 6 O<|Lf 6 O<|Lf 6 O ?_;refine Lf 6 O<|Lf 6 O ?_;refine mw (V8 i.a) z ?_ ?_;·intro bG bJ;refine WE.aF ?_;refine b3 λk g=>?_;have g:=Ws.ej (L:=[_,_,_,_,_,_]) g;refine .inr ⟨bG,O,?_,g⟩;unfold eY e9;rw [show s.pu.aA=(bp.aA s).pu from rfl];simp only [j,l,m,n,t,u,v,A,B,C,E,dP,dq,dp];exact bJ
  intro bG ⟨bJ,cE⟩;refine Ln<|Eb ?_;refine E0 O λk g=>?_;have g:=Ws.ej (L:=[_,_,_,_,_,_]) g;refine .inl ⟨((),bG.2),O,⟨?_,cE⟩,g⟩;unfold eY e9;rw [show s.pu.aA=(bp.aA s).pu from rfl];simp only [j,l,m,n,t,u,v,A,B,C,E,dP,dq,dp];exact bJ
 refine ai<|V0 (bN O O)<|ar O<|ag ?_;refine Cc O (λG=>?_)<|λG=>?_;·refine Cr<|ad O<|V0 (Yf kg O)<|V0 (Yd 0 O O O ah)<|V0 (bP O)<|V0 (Yf sz O)<|aq 1 Y O O O ei O O O<|Ln<|Eb ?_;refine E0 O λk g=>?_;have g:=g.av 6 rfl;have g:=g.av 6 rfl;have g:=g.av 6 rfl;have g:=g.av 6 rfl;have g:=g.av 6 rfl;have g:=g.av 6 rfl;have g:=Ws.ej (L:=[_,_,_,_,_,_]) g;refine .inl ⟨((),{ bp.aA s with at_:=i.a }),O,⟨?_,z.at i.a⟩,g⟩;unfold eY e9;rw [show s.pu.aA=(bp.aA s).pu from rfl];simp only [j,l,m,n,t,u,v,A,B,C,E,G,dP,dq,dp];all_goals rfl
 refine ai<|V0 (bN O O)<|ar O<|ag ?_;refine Cc O (λJ=>?_)<|λJ=>?_
 ·refine ai<|ad O<|Lf 6 O<|Lf 6 O<|Lf 6 O<|Lf 6 O<|Lf 6 O<|Lf 6 O ?_;refine pf z ?_ ?_;·intro aH a6;refine Ep<|WE.aF ?_;refine b3 λk g=>?_;have g:=Ws.ej (L:=[_,_,_,_,_,_]) g;refine .inr ⟨aH,O,?_,g⟩;unfold eY e9;rw [show s.pu.aA=(bp.aA s).pu from rfl];simp only [j,l,m,n,t,u,v,A,B,C,E,G,J,dP,dq,dp];rw [a6];rfl
  intro aH ⟨a6,ca⟩;refine V0 (bN O O)<|ag ?_;refine Cc O (λbK=>?_)<|λbK=>?_;·refine Cr<|ad O<|V0 (Yf kg O)<|V0 (Yd 6 O O O ah)<|V0 (bP O)<|V0 (Yf sz O)<|aq 0 Y O O O ei O O O<|Ln<|Eb ?_;refine E0 O λk g=>?_;have g:=Ws.ej (L:=[_,_,_,_,_,_]) g;refine .inl ⟨((),{ bp.fu (bp.aA s) aH.2 with at_:=i.a }),O,⟨?_,ca.at _⟩,g⟩;unfold eY e9;rw [show s.pu.aA=(bp.aA s).pu from rfl];simp only [j,l,m,n,t,u,v,A,B,C,E,G,J,dP,dq,dp];rw [a6];show (if (aH.1==0)=true then _ else _)=_;rw [bK];rfl
  refine Ck<|Eb ?_;refine E0 O λk g=>?_;have g:=Ws.ej (L:=[_,_,_,_,_,_]) g;refine .inl ⟨((),bp.fu (bp.aA s) aH.2),O,⟨?_,ca⟩,g⟩;unfold eY e9;rw [show s.pu.aA=(bp.aA s).pu from rfl];simp only [j,l,m,n,t,u,v,A,B,C,E,G,J,dP,dq,dp];rw [a6];show (if (aH.1==0)=true then _ else _)=_;rw [bK];rfl
 refine ai<|V0 (bN O O)<|ar O<|ag ?_;refine Cc O (λK=>?_)<|λK=>?_
 ·refine Cr<|ad O<|V0 (Yf kg O)<|V0 (Yd 0 O O O ah)<|Lf 6 O<|Lf 6 O<|Lf 6 O<|Lf 6 O ?_;refine Lf 6 O<|Lf 6 O ?_;refine mw (Wc i.a) z ?_ ?_;·intro bM bO;refine WE.aF ?_;refine b3 λk g=>?_;have g:=Ws.ej (L:=[_,_,_,_,_,_]) g;refine .inr ⟨bM,O,?_,g⟩;unfold eY e9;rw [show s.pu.aA=(bp.aA s).pu from rfl];simp only [j,l,m,n,t,u,v,A,B,C,E,G,J,K,dP,dq,dp];exact bO
  intro bM ⟨bO,cF⟩;refine Ln<|Eb ?_;refine E0 O λk g=>?_;have g:=Ws.ej (L:=[_,_,_,_,_,_]) g;refine .inl ⟨((),bM.2),O,⟨?_,cF⟩,g⟩;unfold eY e9;rw [show s.pu.aA=(bp.aA s).pu from rfl];simp only [j,l,m,n,t,u,v,A,B,C,E,G,J,K,dP,dq,dp];exact bO
 refine ai<|V0 (bN O O)<|ar O<|ag ?_;refine Cc O (λN=>?_)<|λN=>?_
 ·refine Cr<|ad O<|V0 (Yf kg O)<|V0 (Yd 0 O O O ah)<|V0 (Yf Iu O)<|V0 (Yd 0 O O O ah)<|Lf 6 O<|Lf 6 O ?_;refine Lf 6 O<|Lf 6 O<|Lf 6 O<|Lf 6 O ?_;refine mw (We i.a i.b) z ?_ ?_;·intro bQ bR;refine WE.aF ?_;refine b3 λk g=>?_;have g:=Ws.ej (L:=[_,_,_,_,_,_]) g;refine .inr ⟨bQ,O,?_,g⟩;unfold eY e9;rw [show s.pu.aA=(bp.aA s).pu from rfl];simp only [j,l,m,n,t,u,v,A,B,C,E,G,J,K,N,dP,dq,dp];exact bR
  intro bQ ⟨bR,cG⟩;refine Ln<|Eb ?_;refine E0 O λk g=>?_;have g:=Ws.ej (L:=[_,_,_,_,_,_]) g;refine .inl ⟨((),bQ.2),O,⟨?_,cG⟩,g⟩;unfold eY e9;rw [show s.pu.aA=(bp.aA s).pu from rfl];simp only [j,l,m,n,t,u,v,A,B,C,E,G,J,K,N,dP,dq,dp];exact bR
 refine ai<|V0 (bN O O)<|ar O<|ag ?_;refine Cc O (λQ=>?_)<|λQ=>?_
 ·refine Cr<|ad O<|Lf 6 O<|Lf 6 O<|Lf 6 O<|Lf 6 O<|Lf 6 O<|Lf 6 O ?_;refine mw Wb z ?_ ?_;·intro bS bT;refine WE.aF ?_;refine b3 λk g=>?_;have g:=Ws.ej (L:=[_,_,_,_,_,_]) g;refine .inr ⟨bS,O,?_,g⟩;unfold eY e9;rw [show s.pu.aA=(bp.aA s).pu from rfl];simp only [j,l,m,n,t,u,v,A,B,C,E,G,J,K,N,Q,dP,dq,dp];exact bT
  intro bS ⟨bT,cH⟩;refine Ln<|Eb ?_;refine E0 O λk g=>?_;have g:=Ws.ej (L:=[_,_,_,_,_,_]) g;refine .inl ⟨((),bS.2),O,⟨?_,cH⟩,g⟩;unfold eY e9;rw [show s.pu.aA=(bp.aA s).pu from rfl];simp only [j,l,m,n,t,u,v,A,B,C,E,G,J,K,N,Q,dP,dq,dp];exact bT
 refine ai<|V0 (bN O O)<|ar O<|ag ?_;refine Cc O (λS=>?_)<|λS=>?_
 ·refine Cr<|ad O<|Lf 6 O<|Lf 6 O<|Lf 6 O<|Lf 6 O<|Lf 6 O<|Lf 6 O ?_;refine mw N0 z ?_ ?_;·intro bW bX;refine WE.aF ?_;refine b3 λk g=>?_;have g:=Ws.ej (L:=[_,_,_,_,_,_]) g;refine .inr ⟨bW,O,?_,g⟩;unfold eY e9;rw [show s.pu.aA=(bp.aA s).pu from rfl];simp only [j,l,m,n,t,u,v,A,B,C,E,G,J,K,N,Q,S,dP,dq,dp];exact bX
  intro bW ⟨bX,cI⟩;refine Ln<|Eb ?_;refine E0 O λk g=>?_;have g:=Ws.ej (L:=[_,_,_,_,_,_]) g;refine .inl ⟨((),bW.2),O,⟨?_,cI⟩,g⟩;unfold eY e9;rw [show s.pu.aA=(bp.aA s).pu from rfl];simp only [j,l,m,n,t,u,v,A,B,C,E,G,J,K,N,Q,S,dP,dq,dp];exact bX
 refine ai<|V0 (bN O O)<|ar O<|ag ?_;refine Cc O (λW=>?_)<|λW=>?_
 ·refine Cr<|ad O<|Lf 6 O<|Lf 6 O<|Lf 6 O<|Lf 6 O<|Lf 6 O<|Lf 6 O ?_;refine pf z ?_ ?_;·intro bY bZ;refine WE.aF ?_;refine b3 λk g=>?_;have g:=Ws.ej (L:=[_,_,_,_,_,_]) g;refine .inr ⟨bY,O,?_,g⟩;unfold eY e9;rw [show s.pu.aA=(bp.aA s).pu from rfl];simp only [j,l,m,n,t,u,v,A,B,C,E,G,J,K,N,Q,S,W,dP,dq,dp];rw [bZ];rfl
  intro bY ⟨bZ,cJ⟩;refine Ln<|Eb ?_;refine E0 O λk g=>?_;have g:=Ws.ej (L:=[_,_,_,_,_,_]) g;refine .inl ⟨((),bp.fu (bp.aA s) bY.2),O,⟨?_,cJ⟩,g⟩;unfold eY e9;rw [show s.pu.aA=(bp.aA s).pu from rfl];simp only [j,l,m,n,t,u,v,A,B,C,E,G,J,K,N,Q,S,W,dP,dq,dp];rw [bZ];rfl
 refine ai<|V0 (bN O O)<|ar O<|ag ?_;refine Cc O (λap=>?_)<|λap=>?_
 ·refine Cr<|ad O<|ad O<|Lf 6 O<|Lf 6 O<|Lf 6 O<|Lf 6 O<|Lf 6 O ?_;refine Lf 6 O ?_;refine mw V9 z ?_ ?_;·intro cb a8;refine WE.aF ?_;refine b3 λk g=>?_;cases a8
  intro cb ⟨a8,cK⟩;refine mw (rp cb.1) cK ?_ ?_;·intro b1 b2;refine WE.aF ?_;refine b3 λk g=>?_;have g:=Ws.ej (L:=[_,_,_,_,_,_]) g;refine .inr ⟨b1,O,?_,g⟩;unfold eY e9;rw [show s.pu.aA=(bp.aA s).pu from rfl];simp only [j,l,m,n,t,u,v,A,B,C,E,G,J,K,N,Q,S,W,ap,dP,dq,dp];injection a8 with b4 b5;rw [b4,b5];exact b2
  intro b1 ⟨b2,cL⟩;refine Ln<|Eb ?_;refine E0 O λk g=>?_;have g:=Ws.ej (L:=[_,_,_,_,_,_]) g;refine .inl ⟨((),b1.2),O,⟨?_,cL⟩,g⟩;unfold eY e9;rw [show s.pu.aA=(bp.aA s).pu from rfl];simp only [j,l,m,n,t,u,v,A,B,C,E,G,J,K,N,Q,S,W,ap,dP,dq,dp];injection a8 with b4 b5;rw [b4,b5];exact b2
 refine ai<|V0 (bN O O)<|ar O<|ag ?_;refine Cc O (λaI=>?_)<|λaI=>?_
 ·refine ai<|ad O<|Lf 6 O<|Lf 6 O<|Lf 6 O<|Lf 6 O<|Lf 6 O<|Lf 6 O ?_;refine pf z ?_ ?_;·intro aG a9;refine Ep<|WE.aF ?_;refine b3 λk g=>?_;have g:=Ws.ej (L:=[_,_,_,_,_,_]) g;refine .inr ⟨aG,O,?_,g⟩;unfold eY e9;rw [show s.pu.aA=(bp.aA s).pu from rfl];simp only [j,l,m,n,t,u,v,A,B,C,E,G,J,K,N,Q,S,W,ap,aI,dP,dq,dp];rw [a9];rfl
  intro aG ⟨a9,cM⟩;refine ar O<|ag<|ai<|ad O<|V0 (bP O)<|V0 (Yf qC O)<|V0 (Yf lv O)<|V0 (Yd 0 O O O ah)<|V0 (Yn eS O) ?_;refine V0 (bN O O) ?_;refine d' (c:=((s.out.length:Nat):Int)==200) ?_ ?_;·intro b6;refine Ep<|WE.aF ?_;refine b3 λk g=>?_;have g:=Ws.ej (L:=[_,_,_,_,_,_]) g;refine .inr ⟨(5,bp.fu (bp.aA s) aG.2),O,?_,g⟩;unfold eY e9;rw [show s.pu.aA=(bp.aA s).pu from rfl];simp only [j,l,m,n,t,u,v,A,B,C,E,G,J,K,N,Q,S,W,ap,aI,dP,dq,dp];rw [a9];show (if s.out.length=200 then _ else _)=_;rw [aU (by simp at b6;omega)]
  intro b6;refine ag ?_;have cO:¬s.out.length=200:=by simp at b6;omega
  refine Cr<|ad O<|ad O<|V0 (bP O)<|V0 (Yf qC O)<|V0 (Yf lv O)<|V0 (Yd 0 O O O ah)<|ad O ?_;refine Lb Y O fY O O O O λc7=>?_;refine LA (xs:=s.out) aG.1 4 0 Y O fY O O O O O O (by omega) (by omega) λcQ cR=>?_;refine V0 (bP O)<|V0 (Yf qC O)<|V0 (Yf lv O)<|aq 1 Y O O O cq O O O<|Ln<|Eb ?_;refine E0 O λk g=>?_;have g:=g.av 6 rfl;have g:=g.av 6 rfl;have g:=g.av 6 rfl;have g:=g.av 6 rfl;have g:=g.av 6 rfl;have g:=g.av 6 rfl;have g:=Ws.ej (L:=[_,_,_,_,_,_]) g;refine .inl ⟨((),{ bp.fu (bp.aA s) aG.2 with out:=s.out++[aG.1],oa:=cQ,oc:=cR }),O,⟨?_,⟨z.bI,cM.bL,z.lC,by show (s.out++[aG.1]).length<=200;simp;omega,z.hb⟩⟩,g⟩;unfold eY e9;rw [show s.pu.aA=(bp.aA s).pu from rfl];simp only [j,l,m,n,t,u,v,A,B,C,E,G,J,K,N,Q,S,W,ap,aI,dP,dq,dp];rw [a9];show (if s.out.length=200 then _ else _)=_;rw [ao cO];rfl
 refine ai<|V0 (bN O O)<|ar O<|ag ?_;refine Cc O (λb7=>?_)<|λb7=>?_
 ·refine Cr ?_;refine d' (c:=true) ?_ ?_;·intro cc;refine WE.aF ?_;refine b3 λk g=>?_;have g:=g.av 6 rfl;have g:=g.av 6 rfl;have g:=g.av 6 rfl;have g:=g.av 6 rfl;have g:=g.av 6 rfl;have g:=g.av 6 rfl;have g:=Ws.ej (L:=[_,_,_,_,_,_]) g;refine .inr ⟨(0,bp.aA s),O,?_,g⟩;unfold eY e9;rw [show s.pu.aA=(bp.aA s).pu from rfl];simp only [j,l,m,n,t,u,v,A,B,C,E,G,J,K,N,Q,S,W,ap,aI,b7,dP,dq,dp];all_goals rfl
  intro cc;refine Ln<|Eb ?_;refine E0 O λk g=>?_;cases cc
 refine Ck<|Eb ?_;refine E0 O λk g=>?_;have g:=g.av 6 rfl;have g:=g.av 6 rfl;have g:=g.av 6 rfl;have g:=g.av 6 rfl;have g:=g.av 6 rfl;have g:=g.av 6 rfl;have g:=Ws.ej (L:=[_,_,_,_,_,_]) g;refine .inl ⟨((),bp.aA s),O,⟨?_,z⟩,g⟩;unfold eY e9;rw [show s.pu.aA=(bp.aA s).pu from rfl];simp only [j,l,m,n,t,u,v,A,B,C,E,G,J,K,N,Q,S,W,ap,aI,b7,dP,dq,dp];all_goals rfl
end Go.Proofs.YtgeahfjicmlocaaGreatDoor.Mch
end
section
namespace Go.Proofs.YtgeahfjicmlocaaGreatDoor.Mch
open Go.Bw Go.Proofs.Tryz
def acc {P:aV} {l:I<|Z×aT} {W:aL->Prop} {d:az Tmp} {ty:b_} {pos:bg} {af:bE fw} {g:az<|Z×aQ} {x:dF} {t u:b_} {v:aT} (h:∀(w:aL) (v:aT),(Instr.typeAssert (.iface t v) u t ac).run P w = .ok (cN #[v,bV ac]) w) (a:b5 l x=aa (.iface t v)) : Yl P l W ⟨d,.typeAssert x u t ac,ty,pos,af,g⟩<|cN #[v,bV ac]:=λc w b _=>by simp only [execOp,b x _ a,iN,h w v,ie,kK]
def Wj (e:ab) (s:bp):Obj:=aM #[an am e,aC s.oa s.out.length s.oc,aC s.da s.data.length s.dc,an am s.bY] 64 (0,0)
def Wk:∀(w:aL) (v:aT),(Instr.typeAssert (.iface 165 v) 20 165 ac).run aB w = .ok (cN #[v,bV ac]) w:=λw v=>by kernel_rfl
def j4:iC aB 64=aa 4:=ah
def Wl:eP aB 165=aa 1:=ah
def adA:cX aB 165 0=aa 0:=ah
def Bz:cX aB 64 0=aa 0:=ah
def EB:cX aB 163 2=aa 2:=ah
def l0:eP aB 64=aa 4:=ah
def nj:eP aB 30=aa 1:=ah
def EC (b c f g a:Z) (s:bp) (x:ab) (k l m n o p:aT) (w:aL) (r:Ws w ([aJ b<|aM #[b0 (aa ⟨a,0,ak⟩)] 159 (0,0),aJ c<|aM #[k,l,m,n] 64 (0,0),aJ f<|aM #[o] 3 (0,0),aJ g<|aM #[p] 30 (0,0),aJ a s.obj].flatMap bc.ids) [aJ b<|aM #[b0 (aa ⟨a,0,ak⟩)] 159 (0,0),aJ c<|aM #[k,l,m,n] 64 (0,0),aJ f<|aM #[o] 3 (0,0),aJ g<|aM #[p] 30 (0,0),aJ a s.obj] [] w) : CallsD aB 83 #[b0 (aa ⟨b,0,ak⟩),b0 (aa ⟨c,0,ak⟩),b0 (aa ⟨f,0,ak⟩),b0 (aa ⟨g,0,ak⟩)] (.panicking [⟨.iface 165<|bU #[an am x],au,au⟩]) w λe u t=>u = .panicking [⟨.iface 165<|bU #[an am x],ac,au⟩]/\(e = ax (cN #[])/\Ws w ([aJ b<|aM #[b0 (aa ⟨a,0,ak⟩)] 159 (0,0),aJ c<|aM #[k,l,m,n] 64 (0,0),aJ f<|aM #[o] 3 (0,0),aJ g<|aM #[p] 30 (0,0),aJ a s.obj].flatMap bc.ids) [aJ b<|aM #[b0 (aa ⟨a,0,ak⟩)] 159 (0,0),aJ c<|Wj x s,aJ f<|aM #[an am s.steps] 3 (0,0),aJ g<|aM #[an am 0] 30 (0,0),aJ a<|lQ s.obj 6 [an am x]] [] t):=by refine w9 func83 O 31 O O O O O (λ_=>rfl) (bl ⟨_,O,O,O⟩) ?_;refine LW (W':=Ws w ([aJ b<|aM #[b0 (aa ⟨a,0,ak⟩)] 159 (0,0),aJ c<|aM #[k,l,m,n] 64 (0,0),aJ f<|aM #[o] 3 (0,0),aJ g<|aM #[p] 30 (0,0),aJ a s.obj].flatMap bc.ids) [aJ b<|aM #[b0 (aa ⟨a,0,ak⟩)] 159 (0,0),aJ c<|aM #[k,l,m,n] 64 (0,0),aJ f<|aM #[o] 3 (0,0),aJ g<|aM #[p] 30 (0,0),aJ a s.obj] []) (λ_ e=>by subst e;exact r) ?_;refine ar O<|ag<|ai<|ad O<|V0 (acc Wk O)<|ad O<|V0 (Yx O O)<|V0 (Yx O O) ?_;refine Al Y O NZ λy=>?_;refine aq 0 Y O O O Wl O O O<|ar O<|ag<|ai<|ad O<|ag ?_;refine WC.s6 O ?_;refine ai<|V0 (Yd 1 O O O ah)<|V0 (Yf adA O)<|V0 (Yd 0 O O (v:=an am x) O ah)<|V0 (bP O)<|V0 (Yf qC O)<|V0 (Yf Bz O)<|aq 5 Y O O O ei O O O ?_;refine dK 5 (lQ s.obj 6 [an am x]) O O<|ag ?_;refine CU (λ_=>ac) [] [8,9,10] (.q ac 0<|.q au 1<|.q au 2<|.q ac 3<|.q ac 4<|.q au 5<|.q au 6<|.q ac 7 .nil) mixed ah (λ_ _ _ d _ _ h=>by cases d<;>exact h) ?_;refine U0 O aR (Yd 1 O O O ah)<|U0 O aR (bP O)<|U0 O aR (Yf qC O) ?_;refine U0 O aR (Dj j4 O (cs:=[an am x,aC s.oa s.out.length s.oc,aC s.da s.data.length s.dc,an am s.bY]) O (λw r j v hv=>by refine cell_of_heap (r.kn _<|bu (i:=5) O) ?_;match j,hv with| 0,hv=>exact hv| 1,hv=>exact hv| 2,hv=>exact hv| 3,hv=>exact hv)) ?_;refine U0 O aR (Yd 1 O O O ah)<|U0 O aR (bP O)<|U0 O aR (Yf EB O)<|U0 O aR (Yd 5 O O O ah) ?_;refine WU.nil aR ?_;refine WS.e O ?_;refine aq 2 Y O O O l0 O O O<|Ln<|Es ?_;refine WS.e O ?_;refine aq 3 Y O O O ei O O O<|Ln<|Es ?_;refine WS.e O ?_;refine aq 4 Y O O O nj O O O<|Ln<|Es ?_;refine WS.nil ?_;refine E0 O λt r=>?_;exact ⟨O,Wd 1 r⟩
end Go.Proofs.YtgeahfjicmlocaaGreatDoor.Mch
end
section
namespace Go.Proofs.YtgeahfjicmlocaaGreatDoor.Mch
open Go.Bw Go.Proofs.Tryz
def Rz.st {α:Type} (r:Rz α):Pm:=match r with| .ok _ m=>m| .ov _ m=>m
def Pm.kp (m:Pm):ab×ab:=(m.rl,m.steps)
variable {xH:ab×ab}
def Rz.qH {α β:Type} {r:Rz α} {f:α->Pm->Rz β}  (b:r.st.kp=xH) (c:∀a m,m.kp=xH->(f a m).st.kp=xH):(r.bind f).st.kp=xH:=by cases r with| ok a m=>exact c a m b| ov e m=>exact b
def Iv {α:Type} {c:Prop} [Decidable c] {a b:Rz α}  (d:a.st.kp=xH) (e:b.st.kp=xH):(if c then a else b).st.kp=xH:=by
 split;·exact d
 ·exact e
def ED (m:Pm):(gP m).st.kp=m.kp:=by unfold gP;split<;>rfl
def BB (n:ab) (m:Pm):(lZ n m).st.kp=m.kp:=by unfold lZ;split<;>rfl
def N6 (m:Pm):(xB m).st.kp=m.kp:=by unfold xB;split<;>rfl
def Wn (op:ab) (m:Pm):(pS op m).st.kp=m.kp:=by
 unfold pS;split;·rfl
 ·refine Rz.qH (ED m) λb e d=>Rz.qH (by rw [ED,d]) λa f c=>?_;split;·rw [BB,c]
  ·split;·exact c
   ·rw [BB,c]
def adD (a b:ab) (m:Pm):(v4 a b m).st.kp=m.kp:=by unfold v4;split<;>rfl
def adH (to:ab) (m:Pm):(xC to m).st.kp=m.kp:=by
 unfold xC;refine Rz.qH (N6 m) λ_ b a=>?_;split;·exact a
 ·exact a
def Wq (m:Pm):(zr m).st.kp=m.kp:=by
 unfold zr;split;·rfl
 ·split<;>rfl
def N7 (m:Pm):(rn m).2.kp=m.kp:=by unfold rn;split<;>rfl
def Wr (i:cS) (m:Pm):(eY i m).st.kp=m.kp:=by
 have b:m.aA.kp=m.kp:=rfl;rw [<-b];unfold eY;generalize m.aA=m;unfold e9;repeat' apply Iv
 all_goals
  first
  |rfl|exact BB _ _|exact Wn _ _|exact adH _ _|exact adD _ _ _|exact Wq _|exact N6 _|(rw [BB,N7];done)|exact N7 _|(split<;>rfl)
  |
   (
    refine Rz.qH (ED m) λn d a=>?_;repeat' apply Iv
    all_goals
     first
     |exact a|(rw [BB,a];done)
     |
      (
       refine Rz.qH (by rw [ED,a]) λk e c=>?_;repeat' apply Iv
       all_goals exact c))
def Pm.tk (m:Pm):Pm:={ m with steps:=am.wrap<|m.steps+1 }
def iterM (code:I cS) (a5:ab) (m:Pm):Rz dT:=if (m.steps==a5)=ac then .ov 7 m else if gQ m.at_ code.length=ac then .ov 6 m.tk else eY (code[m.at_.toNat]?.getD ⟨0,0,0⟩) m.tk
def runK (code:I cS) (a5:ab):Z->Pm->ab×Pm| 0,m=>(7,m)| k+1,m=>match iterM code a5 m with| .ov e m'=>(e,m')| .ok _ m'=>runK code a5 k m'
def adI {code:I cS} {a5:ab} {m m':Pm} (d:a5<=134217728) (f:0<=m.steps) (g:m.steps<=a5) (h:iterM code a5 m = .ok () m'):m'.steps=m.steps+1/\m.steps<a5:=by
 unfold iterM at h;split at h;·cases h
 ·rename_i b;have c:m.steps<a5:=by simp at b;omega
  split at h;·cases h
  ·have a:=Wr (code[m.at_.toNat]?.getD ⟨0,0,0⟩) m.tk;rw [h] at a;have e:m'.steps=m.tk.steps:=congrArg Prod.snd a;refine ⟨?_,c⟩;rw [e];show am.wrap (m.steps+1)=_;rw [Dh aj]
structure jg where
 fin:ab
 out:I ab
 data:I ab
 bY:ab
deriving DecidableEq
def N8 (bY:ab) (bI:I ab) (data:ab):Pm:=⟨0,bY,0,[],[([],0)],bI,[],gI data.toNat 0,0⟩
def qD (code:I cS) (data:ab) (bI:I ab) (bY steps:ab):ab:= if kA code data=0 then if 64<bI.length then 2 else if (((decide (bY<0)||decide (2000<bY))||decide (steps<0))||decide (134217728<steps))=ac then 3 else 0 else kA code data
def bS (code:I cS) (data:ab) (bI:I ab) (bY steps:ab):jg×ab:=
 if qD code data bI bY steps=0 then
   let r:=runK code steps (steps.toNat+1)<|N8 bY bI data
   (⟨r.1,r.2.out,r.2.data,r.2.bY⟩,r.2.steps)
 else (⟨0,[],[],0⟩,0)
end Go.Proofs.YtgeahfjicmlocaaGreatDoor.Mch
end
section
namespace Go.Proofs.YtgeahfjicmlocaaGreatDoor.Mch
open Go.Bw Go.Proofs.Tryz
abbrev bp.tk (s:bp):bp:={ s with steps:=am.wrap<|s.steps+1 }
def bp.jP.tk {a:View} {s:bp} (h:s.jP a):bp.jP a<|bp.tk s:=⟨h.bI,h.bL,h.lC,h.out,h.hb⟩
variable {fC:I cS} {aP:ab}
def aff (h:kA fC aP=0):0<=aP/\aP<=512:=by
 unfold kA at h;split at h;·cases h
 ·split at h;·cases h
  ·split at h;·cases h
   ·rename_i a;simp at a;omega
def BC:madeCells (aT.agg #[aC ak 0 0,an am 0]).cells ((1:ab).toNat*2) = #[aC ak 0 0,an am 0]:=ah
variable {wH w5:Pm}
def EG {e:ab} (k:Z) (h:iterM fC aP wH = .ov e w5):runK fC aP (k+1) wH=(e,w5):=by simp [runK,h]
def Wu (k:Z) (h:iterM fC aP wH = .ok () w5):runK fC aP (k+1) wH=runK fC aP k w5:=by simp [runK,h]
def l1:zeroOf aB 64=aa (bU #[an am 0,aC ak 0 0,aC ak 0 0,an am 0]):=ah
def cw:zeroOf aB 3=aa (an am 0):=ah
def BD:zeroOf aB 30=aa (an am 0):=ah
def ow:iC aB 57=aa 2:=ah
def sA:hy aB 64=aa [(0,1),(1,1),(2,1),(3,1)]:=ah
def zv:hy aB 163=aa [(0,1),(1,1),(2,1),(3,1),(4,1),(5,1),(6,4)]:=ah
def zw:zeroOf aB 163=aa (bU #[an am 0,an am 0,an am 0,aC ak 0 0,aC ak 0 0,aC ak 0 0,an am 0,aC ak 0 0,aC ak 0 0,an am 0]):=ah
def xI:zeroOf aB 159=aa (b0 ak):=ah
def v9:eP aB 159=aa 1:=ah
set_option maxHeartbeats 4000000 in
def afg (H:View) (a:Option Addr) (c:Nat) (code:List cS) (data:Int) (z:View) (A:Option Addr) (B:Nat) (bI:List Int) (bY steps:Int) (w:World) (ap:Le H w) (N:Sl pQ 3 H a c code) (aw:Le z w) (C:Sl k_ 1 z A B bI) :
   Calls prog 20 #[.agg #[.slice a code.length c,.int .i64 data],.slice A bI.length B,.int .i64 bY,.int .i64 steps] w λe u=>∃r:(Option Addr×Nat)×(Option Addr×Nat),e = .returned (.tuple #[.agg #[.int .i64 (bS code data bI bY steps).1.fin,.slice r.1.1 (bS code data bI bY steps).1.out.length r.1.2,.slice r.2.1 (bS code data bI bY steps).1.data.length r.2.2,.int .i64 (bS code data bI bY steps).1.bY],.int .i64 (bS code data bI bY steps).2,.int .i64 (qD code data bI bY steps)])/\Ext w u/\Sl k_ 1 (nv w u) r.1.1 r.1.2 (bS code data bI bY steps).1.out/\Sl k_ 1 (nv w u) r.2.1 r.2.2 (bS code data bI bY steps).1.data:=by
 have aP:=N.cap;have aR:=N.max;have aS:=C.cap;have aW:=C.max;refine DA func20 O 92 O O ?_;refine CE (Vs:=[H,z]) (Ws.init (by simp [ap,aw]))<|ai ?_;refine WL.box Y O O λT=>?_;refine Al Y O l1 λD=>?_;refine Al Y O cw λE=>?_;refine Al Y O BD λF=>?_;refine ag<|Cs<|ai<|V0 (dv 3 O O ow O)<|Lp Y O bf O (λw b=>NX H a c code data w (b.vs _ (by simp)) N)<|ar O<|ag<|ai<|ad O<|V0 (g2 O O)<|ag ?_;refine Cc O (λU=>?_)<|λU=>?_
 ·have G:¬kA code data=0:=by simpa using U
  refine ai<|V0 (Yb l1 sA O O)<|ad O<|aq 2 Y O O O l0 O O O<|aq 1 Y O O O ei O O O<|aq 0 Y O O O nj O O O<|ag<|bq<|Er ?_;refine WE.uv (w8 O (e1 2 O O j4 O) (jb 1 O O O ah)<|jb 0 O O O ah) λu b=>?_;have k:(qD code data bI bY steps)=kA code data:=by unfold qD;rw [ao G]
  have o:(bS code data bI bY steps)=(⟨0,[],[],0⟩,0):=by unfold bS;rw [k];simp [G]
  rw [o,k];exact ⟨((none,0),(none,0)),O,b.fr,Sl.nil,Sl.nil⟩
 have G:kA code data=0:=by simpa using U
 have v:=aff G;refine bO<|Cs<|ai<|ad O<|V0 (Yn eS O)<|V0 (ek O O)<|ag ?_;refine Cc O (λV=>?_)<|λV=>?_
 ·have P:64<bI.length:=by simp at V;omega
  refine ai<|V0 (Yb l1 sA O O)<|aq 2 Y O O O l0 O O O<|aq 1 Y O O O ei O O O<|aq 0 Y O O O nj O O O<|ag<|bq<|Er ?_;refine WE.uv (w8 O (e1 2 O O j4 O) (jb 1 O O O ah)<|jb 0 O O O ah) λu b=>?_;have k:(qD code data bI bY steps)=2:=by unfold qD;rw [aU G,aU P]
  have o:(bS code data bI bY steps)=(⟨0,[],[],0⟩,0):=by unfold bS;rw [k];simp
  rw [o,k];exact ⟨((none,0),(none,0)),O,b.fr,Sl.nil,Sl.nil⟩
 have P:¬64<bI.length:=by simp at V;omega
 refine bO<|Cs<|ai<|ad O<|V0 (cP O O)<|ad O ?_;apply Lo 2 O O O O Y O O O O O;·intro af;refine Vg (Ym O)<|Vg (ek O O) ?_;exact Gt 2 O O O
 refine ad O ?_;apply Lo 2 O O O O Y O O O O O;·intro aX;refine Vg (Ym O)<|Vg (cP O O) ?_;exact Gt 2 O O O
 refine ad O ?_;apply Lo 2 O O O O Y O O O O O;·intro aY;refine Vg (Ym O)<|Vg (ek O O) ?_;exact Gt 2 O O O
 refine ag ?_;refine Cc O (λQ=>?_)<|λQ=>?_
 ·refine ai<|V0 (Yb l1 sA O O)<|aq 2 Y O O O l0 O O O<|aq 1 Y O O O ei O O O<|aq 0 Y O O O nj O O O<|ag<|bq<|Er ?_;refine WE.uv (w8 O (e1 2 O O j4 O) (jb 1 O O O ah)<|jb 0 O O O ah) λu b=>?_;have k:(qD code data bI bY steps)=3:=by unfold qD;rw [aU G,ao P,aU Q]
  have o:(bS code data bI bY steps)=(⟨0,[],[],0⟩,0):=by unfold bS;rw [k];simp
  rw [o,k];exact ⟨((none,0),(none,0)),O,b.fr,Sl.nil,Sl.nil⟩
 have k:(qD code data bI bY steps)=0:=by unfold qD;rw [aU G,ao P,Q];simp
 have aj:0<=bY/\bY<=2000/\0<=steps/\steps<=134217728:=by simp at Q;omega
 refine bO ?_;refine WC.A0 (ι:=(Nat×Nat×Nat)×(View×Option Addr×Nat)) (λq=>[(3,.int .i64 steps),(4,.pointer<|some ⟨T,0,none⟩),(8,.pointer<|some ⟨D,0,none⟩),(9,.pointer<|some ⟨E,0,none⟩),(10,.pointer<|some ⟨F,0,none⟩),(12,.pointer<|some ⟨q.1.2.2,0,none⟩)]) (λq=>Ws w [] [aJ q.1.2.2<|.cells #[.pointer (some ⟨q.1.2.1,0,none⟩)] 159 (0,0),aJ q.1.2.1<|.cells #[.int .i64 0,.int .i64 bY,.int .i64 0,.slice none 0 0,.slice (some ⟨q.1.1,0,none⟩) 1 1,.slice q.2.2.1 bI.length q.2.2.2,.int .i64 0,.slice none 0 0,.slice none 0 0,.int .i64 0] 163 (0,0),aJ q.1.1<|.cells #[.slice none 0 0,.int .i64 0] 269 (0,0),aJ F<|.cells (Value.cells<|.int .i64 0) 30 (0,0),aJ E<|.cells (Value.cells<|.int .i64 0) 3 (0,0),aJ D<|.cells (Value.cells<|.agg #[.int .i64 0,.slice none 0 0,.slice none 0 0,.int .i64 0]) 64 (0,0),aJ T<|.cells (Value.agg #[.slice a code.length c,.int .i64 data]).cells 57 (0,0)] [q.2.1,H]) (λq=>Sl k_ 1 q.2.1 q.2.2.1 q.2.2.2 bI) ?_ ?_
 ·refine CU (nB [.cell 8 64,.cell 9 3,.cell 10 30]) [] [7] (.q false 0<|.q false 2<|.e 1 (.e 3 (.q false 4<|.e 5 (.e 6 .nil .stop)<|.e 6 (.e 5 .nil .stop) .stop)<|.e 6 (.e 3 (.q false 4<|.e 5 .nil .stop) .stop) .stop)<|.e 3 (.e 1 (.q false 4<|.e 5 (.e 6 .nil .stop)<|.e 6 (.e 5 .nil .stop) .stop)<|.e 6 (.e 1 (.q false 4<|.e 5 .nil .stop) .stop) .stop)<|.e 6 (.e 1 (.e 3 (.q false 4<|.e 5 .nil .stop) .stop)<|.e 3 (.e 1 (.q false 4<|.e 5 .nil .stop) .stop) .stop) .stop) mixed (by kernel_rfl) (λ_ _ _ _ _ v h=>qh (fn:=f20) [.cell 8 64,.cell 9 3,.cell 10 30] O v h) ?_;refine U0 O (λ_ h=>h) (Ym O)<|U0 O (λ_ h=>h) (Ym O) ?_;refine Ue O (λ_ h=>h) ?_ ?_
  ·refine WL.make Y O xD O O (by omega) (by omega) (by omega) (by omega) λp=>?_;refine dK 0 (.cells #[.slice none 0 0,.int .i64 0] 269 (0,0)) O (by rw [BC])<|Ln<|Eu ?_;refine Ue O (λ_ h=>(Wd 1 h:)) ?_ ?_
   ·refine Ld Y O bf O (λr:Option Addr×Nat=>.slice r.1 bI.length r.2) (λy r=>Sl k_ 1 y r.1 r.2 bI) (λw b=>Bu z A B bI w (b.vs _ (by simp)) C (by omega)) ?_;intro d i R t;refine Ln<|Eu<|U0 O (λ_ h=>(Wv 1<|Wd 1 h:)) (Yb zw zv O O) ?_;refine Ue O (λ_ h=>(Wv 1<|Wd 1 h:)) ?_ ?_;·refine WL.box Y O O λl=>?_;refine Ln<|Eu ?_;refine Ue O (λ_ h=>(Wv 1<|Wd 2 h:)) ?_ WU.stop;refine Al Y O xI λn=>?_;refine Ln<|Eu ?_;refine WU.nil (λ_ h=>(Wv 1<|Wd 3 h:)) ?_;refine WS.e O ?_;refine aq 0 Y O O O v9 O O O<|Ln<|Es ?_;refine WS.nil ?_;exact jo ((p,l,n),d,i.1,i.2) t (λ_ h=>by have h:=h.av 6 rfl;have h:=h.av 6 rfl;have h:=h.av 6 rfl;have h:=h.av 6 rfl;have h:=h.av 6 rfl;have h:=h.av 6 rfl;have h:=h.av 6 rfl;have h:=Ws.dr h (cB:=[d,H]) (by simp);exact h)
    refine Ue O (λ_ h=>(Wv 1<|Wd 1 h:)) ?_ WU.stop;refine Al Y O xI λn=>?_;refine Ln<|Eu ?_;refine Ue O (λ_ h=>(Wv 1<|Wd 2 h:)) ?_ WU.stop;refine WL.box Y O O λl=>?_;refine Ln<|Eu ?_;refine WU.nil (λ_ h=>(Wv 1<|Wd 3 h:)) ?_;refine WS.e O ?_;refine aq 1 Y O O O v9 O O O<|Ln<|Es ?_;refine WS.nil ?_;exact jo ((p,l,n),d,i.1,i.2) t (λ_ h=>by have h:=h.av 6 rfl;have h:=h.av 6 rfl;have h:=h.av 6 rfl;have h:=h.av 6 rfl;have h:=h.av 6 rfl;have h:=h.av 5 rfl;have h:=h.av 6 rfl;have h:=Ws.dr h (cB:=[d,H]) (by simp);exact h)
   refine Ue O (λ_ h=>(Wd 1 h:)) ?_ WU.stop;refine Al Y O xI λn=>?_;refine Ln<|Eu ?_;refine Ue O (λ_ h=>(Wd 2 h:)) ?_ WU.stop;refine Ld Y O bf O (λr:Option Addr×Nat=>.slice r.1 bI.length r.2) (λy r=>Sl k_ 1 y r.1 r.2 bI) (λw b=>Bu z A B bI w (b.vs _ (by simp)) C (by omega)) ?_;intro d i R t;refine Ln<|Eu<|U0 O (λ_ h=>(Wv 1<|Wd 2 h:)) (Yb zw zv O O) ?_;refine Ue O (λ_ h=>(Wv 1<|Wd 2 h:)) ?_ WU.stop;refine WL.box Y O O λl=>?_;refine Ln<|Eu ?_;refine WU.nil (λ_ h=>(Wv 1<|Wd 3 h:)) ?_;refine WS.e O ?_;refine aq 1 Y O O O v9 O O O<|Ln<|Es ?_;refine WS.nil ?_;exact jo ((p,l,n),d,i.1,i.2) t (λ_ h=>by have h:=h.av 6 rfl;have h:=h.av 6 rfl;have h:=h.av 6 rfl;have h:=h.av 6 rfl;have h:=h.av 6 rfl;have h:=h.av 5 rfl;have h:=h.av 6 rfl;have h:=Ws.dr h (cB:=[d,H]) (by simp);exact h)
  refine Ue O (λ_ h=>h) ?_ ?_
  ·refine Ld Y O bf O (λr:Option Addr×Nat=>.slice r.1 bI.length r.2) (λy r=>Sl k_ 1 y r.1 r.2 bI) (λw b=>Bu z A B bI w (b.vs _ (by simp)) C (by omega)) ?_;intro d i R t;refine Ln<|Eu ?_;refine Ue O (λ_ h=>(Wv 1 h:)) ?_ ?_
   ·refine WL.make Y O xD O O (by omega) (by omega) (by omega) (by omega) λp=>?_;refine dK 0 (.cells #[.slice none 0 0,.int .i64 0] 269 (0,0)) O (by rw [BC])<|Ln<|Eu<|U0 O (λ_ h=>(Wv 1<|Wd 1 h:)) (Yb zw zv O O) ?_;refine Ue O (λ_ h=>(Wv 1<|Wd 1 h:)) ?_ ?_;·refine WL.box Y O O λl=>?_;refine Ln<|Eu ?_;refine Ue O (λ_ h=>(Wv 1<|Wd 2 h:)) ?_ WU.stop;refine Al Y O xI λn=>?_;refine Ln<|Eu ?_;refine WU.nil (λ_ h=>(Wv 1<|Wd 3 h:)) ?_;refine WS.e O ?_;refine aq 0 Y O O O v9 O O O<|Ln<|Es ?_;refine WS.nil ?_;exact jo ((p,l,n),d,i.1,i.2) t (λ_ h=>by have h:=h.av 6 rfl;have h:=h.av 6 rfl;have h:=h.av 6 rfl;have h:=h.av 6 rfl;have h:=h.av 6 rfl;have h:=h.av 6 rfl;have h:=h.av 6 rfl;have h:=Ws.dr h (cB:=[d,H]) (by simp);exact h)
    refine Ue O (λ_ h=>(Wv 1<|Wd 1 h:)) ?_ WU.stop;refine Al Y O xI λn=>?_;refine Ln<|Eu ?_;refine Ue O (λ_ h=>(Wv 1<|Wd 2 h:)) ?_ WU.stop;refine WL.box Y O O λl=>?_;refine Ln<|Eu ?_;refine WU.nil (λ_ h=>(Wv 1<|Wd 3 h:)) ?_;refine WS.e O ?_;refine aq 1 Y O O O v9 O O O<|Ln<|Es ?_;refine WS.nil ?_;exact jo ((p,l,n),d,i.1,i.2) t (λ_ h=>by have h:=h.av 6 rfl;have h:=h.av 6 rfl;have h:=h.av 6 rfl;have h:=h.av 6 rfl;have h:=h.av 6 rfl;have h:=h.av 5 rfl;have h:=h.av 6 rfl;have h:=Ws.dr h (cB:=[d,H]) (by simp);exact h)
   refine Ue O (λ_ h=>(Wv 1 h:)) ?_ WU.stop;refine Al Y O xI λn=>?_;refine Ln<|Eu ?_;refine Ue O (λ_ h=>(Wv 1<|Wd 1 h:)) ?_ WU.stop;refine WL.make Y O xD O O (by omega) (by omega) (by omega) (by omega) λp=>?_;refine dK 0 (.cells #[.slice none 0 0,.int .i64 0] 269 (0,0)) O (by rw [BC])<|Ln<|Eu<|U0 O (λ_ h=>(Wv 1<|Wd 2 h:)) (Yb zw zv O O) ?_;refine Ue O (λ_ h=>(Wv 1<|Wd 2 h:)) ?_ WU.stop;refine WL.box Y O O λl=>?_;refine Ln<|Eu ?_;refine WU.nil (λ_ h=>(Wv 1<|Wd 3 h:)) ?_;refine WS.e O ?_;refine aq 2 Y O O O v9 O O O<|Ln<|Es ?_;refine WS.nil ?_;exact jo ((p,l,n),d,i.1,i.2) t (λ_ h=>by have h:=h.av 6 rfl;have h:=h.av 6 rfl;have h:=h.av 6 rfl;have h:=h.av 6 rfl;have h:=h.av 5 rfl;have h:=h.av 5 rfl;have h:=h.av 6 rfl;have h:=Ws.dr h (cB:=[d,H]) (by simp);exact h)
  refine Ue O (λ_ h=>h) ?_ WU.stop;refine Al Y O xI λn=>?_;refine Ln<|Eu ?_;refine Ue O (λ_ h=>(Wd 1 h:)) ?_ ?_;·refine WL.make Y O xD O O (by omega) (by omega) (by omega) (by omega) λp=>?_;refine dK 0 (.cells #[.slice none 0 0,.int .i64 0] 269 (0,0)) O (by rw [BC])<|Ln<|Eu ?_;refine Ue O (λ_ h=>(Wd 2 h:)) ?_ WU.stop;refine Ld Y O bf O (λr:Option Addr×Nat=>.slice r.1 bI.length r.2) (λy r=>Sl k_ 1 y r.1 r.2 bI) (λw b=>Bu z A B bI w (b.vs _ (by simp)) C (by omega)) ?_;intro d i R t;refine Ln<|Eu<|U0 O (λ_ h=>(Wv 1<|Wd 2 h:)) (Yb zw zv O O) ?_;refine Ue O (λ_ h=>(Wv 1<|Wd 2 h:)) ?_ WU.stop;refine WL.box Y O O λl=>?_;refine Ln<|Eu ?_;refine WU.nil (λ_ h=>(Wv 1<|Wd 3 h:)) ?_;refine WS.e O ?_;refine aq 2 Y O O O v9 O O O<|Ln<|Es ?_;refine WS.nil ?_;exact jo ((p,l,n),d,i.1,i.2) t (λ_ h=>by have h:=h.av 6 rfl;have h:=h.av 6 rfl;have h:=h.av 6 rfl;have h:=h.av 6 rfl;have h:=h.av 5 rfl;have h:=h.av 5 rfl;have h:=h.av 6 rfl;have h:=Ws.dr h (cB:=[d,H]) (by simp);exact h)
  refine Ue O (λ_ h=>(Wd 1 h:)) ?_ WU.stop;refine Ld Y O bf O (λr:Option Addr×Nat=>.slice r.1 bI.length r.2) (λy r=>Sl k_ 1 y r.1 r.2 bI) (λw b=>Bu z A B bI w (b.vs _ (by simp)) C (by omega)) ?_;intro d i R t;refine Ln<|Eu ?_;refine Ue O (λ_ h=>(Wv 1<|Wd 1 h:)) ?_ WU.stop;refine WL.make Y O xD O O (by omega) (by omega) (by omega) (by omega) λp=>?_;refine dK 0 (.cells #[.slice none 0 0,.int .i64 0] 269 (0,0)) O (by rw [BC])<|Ln<|Eu<|U0 O (λ_ h=>(Wv 1<|Wd 2 h:)) (Yb zw zv O O) ?_;refine Ue O (λ_ h=>(Wv 1<|Wd 2 h:)) ?_ WU.stop;refine WL.box Y O O λl=>?_;refine Ln<|Eu ?_;refine WU.nil (λ_ h=>(Wv 1<|Wd 3 h:)) ?_;refine WS.e O ?_;refine aq 2 Y O O O v9 O O O<|Ln<|Es ?_;refine WS.nil ?_;exact jo ((p,l,n),d,i.1,i.2) t (λ_ h=>by have h:=h.av 6 rfl;have h:=h.av 6 rfl;have h:=h.av 6 rfl;have h:=h.av 6 rfl;have h:=h.av 5 rfl;have h:=h.av 5 rfl;have h:=h.av 6 rfl;have h:=Ws.dr h (cB:=[d,H]) (by simp);exact h)
 intro q aA;refine Cs ?_;refine CU (nB [.cell 8 64,.cell 9 3,.cell 10 30]) [] [7] (.q true 0<|.q false 1<|.q true 2<|.e 3 (.q false 4<|.q false 5<|.q false 6 .nil) .stop) mixed (by kernel_rfl) (λ_ _ _ _ _ v h=>qh (fn:=f20) [.cell 8 64,.cell 9 3,.cell 10 30] O v h) ?_;refine U0 O (λ_ h=>h) (Yd 0 O O O ah)<|U0 O (λ_ h=>h) (Yf Bp O)<|U0 O (λ_ h=>h) (Yd 6 O O O ah) ?_;refine Ue O (λ_ h=>h) ?_ WU.stop;refine WL.make Y O fY O O (by omega) (by omega) (by omega) (by omega) λal=>?_;refine dK 0 (.cells ((List.replicate data.toNat (0:Int)).flatMap iv).toArray 3 (0,0)) O (by rw [Ip])<|Ln<|Eu<|U0 O (λ_ h=>(Wd 1 h:)) (bP O)<|U0 O (λ_ h=>(Wd 1 h:)) (Yf qC O)<|U0 O (λ_ h=>(Wd 1 h:)) (Yf ix O) ?_;refine WU.nil (λ_ h=>(Wd 1 h:)) ?_;refine WS.e O ?_;refine aq 2 Y O O O cq O O O<|Ln<|Es ?_;refine WS.nil ?_;refine Et<|ai<|V0 (vC O) ?_;refine WL.defer Y O ?_;refine ag<|Cb ?_;refine dZ (ι:=bp) (λs=>[]) [(3,_),(4,_),(8,_),(9,_),(10,_),(12,_)] (λs=>Ws w [] (bp.own q.1.2.1 s++[aJ q.1.2.2<|.cells #[.pointer (some ⟨q.1.2.1,0,none⟩)] 159 (0,0),aJ F<|.cells (Value.cells<|.int .i64 0) 30 (0,0),aJ E<|.cells (Value.cells<|.int .i64 0) 3 (0,0),aJ D<|.cells (Value.cells<|.agg #[.int .i64 0,.slice none 0 0,.slice none 0 0,.int .i64 0]) 64 (0,0),aJ T<|.cells (Value.agg #[.slice a code.length c,.int .i64 data]).cells 57 (0,0)]) [q.2.1,H]) (λs=>s.jP q.2.1/\0<=s.steps/\s.steps<=steps/\runK code steps ((steps-s.steps).toNat+1) s.pu=runK code steps (steps.toNat+1) (N8 bY bI data)) (λs=>(steps-s.steps).toNat) ({ at_:=0,rl:=bY,steps:=0,stack:=[],dk:=[⟨none,0,[],0⟩],bI:=bI,out:=[],data:=List.replicate data.toNat 0,bY:=0,sa:=none,sc:=0,fa:=some ⟨q.1.1,0,none⟩,fc:=1,ia:=q.2.2.1,ic:=q.2.2.2,oa:=none,oc:=0,da:=some ⟨al,0,none⟩,dc:=data.toNat }:bp) ⟨⟨aA,by simp,by simp,by simp,by simp;omega⟩,zq _,aj.2.2.1,by simp;rfl⟩ (λ_ h=>by have h:=h.qZ (f:=iv) (c:=data.toNat) 0 rfl i5 (by simp) (by unfold maxLen;omega);have h:=h.qZ (f:=gc.cells) (xs:=[⟨none,0,[],0⟩]) (c:=1) 3 rfl gc.dA rfl (by decide);have h:=h.oW 2 rfl (show _=aJ q.1.2.1 (bp.obj ({ at_:=0,rl:=bY,steps:=0,stack:=[],dk:=[⟨none,0,[],0⟩],bI:=bI,out:=[],data:=List.replicate data.toNat 0,bY:=0,sa:=none,sc:=0,fa:=some ⟨q.1.1,0,none⟩,fc:=1,ia:=q.2.2.1,ic:=q.2.2.2,oa:=none,oc:=0,da:=some ⟨al,0,none⟩,dc:=data.toNat }:bp)) by simp [bp.obj,lQ,fh]);have h:=h.bJ 3 1;have h:=h.bJ 3 1;have h:=h.TR;have h:=h.Kz 0 rfl 3 1;have h:=h.av 0 rfl;have h:=h.av 3 rfl;have h:=h.av 2 rfl;have h:=h.av 6 rfl;have h:=h.av 4 rfl;have h:=h.av 6 rfl;exact h) ?_;intro s ⟨af,aD,aE,L⟩;refine Cb<|ai<|V0 (Yd 6 O O O ah)<|V0 (bP O)<|V0 (Yf EB O)<|V0 (Yd 0 O O O ah)<|ad O<|V0 (bN O O) ?_;refine d' (c:=s.steps==steps) ?_ ?_
 ·intro J;refine Ep<|WE.aF<|Ep<|WE.aF ?_;refine WE.front 0 O ?_;refine WE.front 7 O ?_;refine WE.front 8 O ?_;refine WE.front 9 O ?_;refine WE.front 9 O ?_;refine WE.r7 bf (pC [_,_,_,_,_] _ _ O<|λw b=>EC q.1.2.2 D E F q.1.2.1 s 7 _ _ _ _ _ _ w b) (w8 O (e1 1 O O j4 O) (jb 2 O O O ah)<|jb 3 O O O ah) λu b=>?_;have pg:iterM code steps s.pu = .ov 7 s.pu:=by unfold iterM;rw [aU<|show (s.pu.steps==steps)=true from J]
  have o:(bS code data bI bY steps)=(⟨7,s.out,s.data,s.bY⟩,s.steps):=by unfold bS;rw [aU k,<-L,EG _ pg];rfl
  rw [o,k];exact ⟨((s.oa,s.oc),(s.da,s.dc)),O,b.fr,b.jF 7 O i5 ro,b.jF 8 O i5 ro⟩
 intro J;refine ag<|ai<|V0 (Yd 6 O O O ah)<|V0 (bP O)<|V0 (Yf EB O)<|V0 (Yd 0 O O O ah)<|V0 (s_ O O)<|V0 (bP O)<|V0 (Yf EB O) ?_;refine aq 0 Y O O O ei O O O<|dK 0 (bp.obj<|bp.tk s) O O<|ag<|Cs ?_;rcases Int.lt_or_le s.at_ 0 with M | M
 ·skip;refine CU (nB [.cell 8 64,.cell 9 3,.cell 10 30]) [] [] (.q true 0<|.q false 1<|.q false 2<|.q true 3<|.q false 4<|.q false 5<|.q false 6<|.q false 7<|.q false 8<|.q false 9<|.q false 10<|.q false 11<|.q false 12<|.q false 13<|.q false 14<|.e 15 .nil .stop) mixed (by kernel_rfl) (λ_ _ _ _ _ v h=>qh (fn:=f20) [.cell 8 64,.cell 9 3,.cell 10 30] O v h) ?_;refine U0 O (λ_ h=>h) (Yd 6 O O O ah)<|U0 O (λ_ h=>h) (bP O)<|U0 O (λ_ h=>h) (Yf sz O)<|U0 O (λ_ h=>h) (Yd 0 O O O ah)<|U0 O (λ_ h=>h) (T2 O O M)<|U0 O (λ_ h=>h) (Ym O) ?_;refine WU.skip O O O O O O (λ_ h=>h) ?_;refine WU.skip O O O O O O (λ_ h=>h) ?_;refine WU.skip O O O O O O (λ_ h=>h) ?_;refine WU.skip O O O O O O (λ_ h=>h) ?_;refine WU.skip O O O O O O (λ_ h=>h) ?_;refine WU.skip O O O O O O (λ_ h=>h) ?_;refine WU.skip O O O O O O (λ_ h=>h) ?_;refine WU.skip O O O O O O (λ_ h=>h) ?_;refine U0 O (λ_ h=>h) (Lh O O O) ?_;refine Ue O (λ_ h=>h) ?_ WU.stop;refine d' (c:=true) ?_ ?_
  ·intro K;refine Ep<|Ep<|WE.aF<|Ep<|WE.aF ?_;refine WE.front 0 O ?_;refine WE.front 7 O ?_;refine WE.front 8 O ?_;refine WE.front 9 O ?_;refine WE.front 9 O ?_;refine WE.r7 bf (pC [_,_,_,_,_] _ _ O<|λw b=>EC q.1.2.2 D E F q.1.2.1 (bp.tk s) 6 _ _ _ _ _ _ w b) (w8 O (e1 1 O O j4 O) (jb 2 O O O ah)<|jb 3 O O O ah) λu b=>?_;have pg:iterM code steps s.pu = .ov 6 (bp.tk s).pu:=by unfold iterM;rw [ao (show ¬(s.pu.steps==steps)=true by rw [show s.pu.steps=s.steps from rfl,J];simp),aU (show gQ s.pu.at_ code.length=true by show gQ s.at_ code.length=true;unfold gQ;simp [M])];rfl
   have o:(bS code data bI bY steps)=(⟨6,(bp.tk s).out,(bp.tk s).data,(bp.tk s).bY⟩,(bp.tk s).steps):=by unfold bS;rw [aU k,<-L,EG _ pg];rfl
   rw [o,k];exact ⟨(((bp.tk s).oa,(bp.tk s).oc),((bp.tk s).da,(bp.tk s).dc)),O,b.fr,b.jF 7 O i5 ro,b.jF 8 O i5 ro⟩
  intro K;cases K
 skip;refine CU (nB [.cell 8 64,.cell 9 3,.cell 10 30]) [] [] (.q true 0<|.q false 1<|.q false 2<|.q true 3<|.q false 4<|.q false 5<|.q true 6<|.q false 7<|.q false 8<|.q true 9<|.q false 10<|.q true 11<|.q false 12<|.q false 13<|.q false 14<|.e 15 .nil .stop) mixed (by kernel_rfl) (λ_ _ _ _ _ v h=>qh (fn:=f20) [.cell 8 64,.cell 9 3,.cell 10 30] O v h) ?_;refine U0 O (λ_ h=>h) (Yd 6 O O O ah)<|U0 O (λ_ h=>h) (bP O)<|U0 O (λ_ h=>h) (Yf sz O)<|U0 O (λ_ h=>h) (Yd 0 O O O ah)<|U0 O (λ_ h=>h) (T3 O O M)<|U0 O (λ_ h=>h) (Ym O) ?_;refine Uq O (.g O O O) O (λ_ h=>h) (Yd 6 O O O ah) ?_;refine Uq O (.g O O O) O (λ_ h=>h) (bP O) ?_;refine Uq O (.g O O O) O (λ_ h=>h) (Yf sz O) ?_;refine Uq O (.g O O O) O (λ_ h=>h) (Yd 0 O O O ah) ?_;refine Uq O (.g O O O) O (λ_ h=>h) (Yf cH O) ?_;refine Uq O (.g O O O) O (λ_ h=>h) (Yd 10 O O O ah) ?_;refine Uq O (.g O O O) O (λ_ h=>h) (Yn hr O) ?_;refine Uq O (.g O O O) O (λ_ h=>h) (hE O O) ?_;refine U0 O (λ_ h=>h) (Lh O O O) ?_;refine Ue O (λ_ h=>h) ?_ WU.stop;refine d' (c:=decide<|(code.length:Int)<=s.at_) ?_ ?_
 ·intro K;refine Ep<|Ep<|WE.aF<|Ep<|WE.aF ?_;refine WE.front 0 O ?_;refine WE.front 7 O ?_;refine WE.front 8 O ?_;refine WE.front 9 O ?_;refine WE.front 9 O ?_;refine WE.r7 bf (pC [_,_,_,_,_] _ _ O<|λw b=>EC q.1.2.2 D E F q.1.2.1 (bp.tk s) 6 _ _ _ _ _ _ w b) (w8 O (e1 1 O O j4 O) (jb 2 O O O ah)<|jb 3 O O O ah) λu b=>?_;have pg:iterM code steps s.pu = .ov 6 (bp.tk s).pu:=by unfold iterM;rw [ao (show ¬(s.pu.steps==steps)=true by rw [show s.pu.steps=s.steps from rfl,J];simp),aU (show gQ s.pu.at_ code.length=true by show gQ s.at_ code.length=true;unfold gQ;simp;exact Or.inr (by simpa using K))];rfl
  have o:(bS code data bI bY steps)=(⟨6,(bp.tk s).out,(bp.tk s).data,(bp.tk s).bY⟩,(bp.tk s).steps):=by unfold bS;rw [aU k,<-L,EG _ pg];rfl
  rw [o,k];exact ⟨(((bp.tk s).oa,(bp.tk s).oc),((bp.tk s).da,(bp.tk s).dc)),O,b.fr,b.jF 7 O i5 ro,b.jF 8 O i5 ro⟩
 intro K;have S:gQ s.at_ code.length=false:=by unfold gQ;rw [K];simp;omega
 refine Ln<|Eu ?_;refine WU.nil (λ_ h=>h) ?_;refine WS.nil ?_;refine Et ?_;obtain ⟨x,W⟩:∃x,code[s.at_.toNat]? = some x:=⟨_,dh (ir S).2⟩;obtain ⟨aG,aH,aI,X⟩:=N.b7 _ x W;have X:ct H aG (aH+s.at_.toNat*3) x.cells:=X;have aZ:=(ir S).2;refine CU (nB [.cell 8 64,.cell 9 3,.cell 10 30]) [] [9] (.q true 0<|.q false 1<|.q true 2<|.q true 3<|.q false 4<|.q false 5<|.q true 6<|.q false 7<|.q true 8 .nil) mixed (by kernel_rfl) (λ_ _ _ _ _ v h=>qh (fn:=f20) [.cell 8 64,.cell 9 3,.cell 10 30] O v h) ?_;refine U0 O (λ_ h=>h) (Yd 6 O O O ah)<|U0 O (λ_ h=>h) (Yf cH O)<|U0 O (λ_ h=>h) (Yd 10 O O O ah)<|U0 O (λ_ h=>h) (Yd 6 O O O ah)<|U0 O (λ_ h=>h) (bP O)<|U0 O (λ_ h=>h) (Yf sz O)<|U0 O (λ_ h=>h) (Yd 0 O O O ah)<|U0 O (λ_ h=>h) (uq hr O O aI M (by show s.at_<(code.length:Int);omega)) ?_;refine U0 O (λ_ h=>h) (dG 1 v3 O O O<|X) ?_;refine WU.nil (λ_ h=>h) ?_;refine WS.e O ?_;refine mw (Wh x) af.tk ?_ ?_
 ·intro j ae;refine Ep<|WE.aF<|Ep<|WE.aF ?_;refine WE.front 0 O ?_;refine WE.front 7 O ?_;refine WE.front 8 O ?_;refine WE.front 9 O ?_;refine WE.front 9 O ?_;refine WE.r7 bf (pC [_,_,_,_,_] _ _ O<|λw b=>EC q.1.2.2 D E F q.1.2.1 j.2 j.1 _ _ _ _ _ _ w b) (w8 O (e1 1 O O j4 O) (jb 2 O O O ah)<|jb 3 O O O ah) λu b=>?_;have pg:iterM code steps s.pu = .ov j.1 j.2.pu:=by unfold iterM;rw [ao (show ¬(s.pu.steps==steps)=true by rw [show s.pu.steps=s.steps from rfl,J];simp),ao (show ¬gQ s.pu.at_ code.length=true by show ¬gQ s.at_ code.length=true;rw [S];simp),show code[s.pu.at_.toNat]? = some x from W];exact ae
  have o:(bS code data bI bY steps)=(⟨j.1,j.2.out,j.2.data,j.2.bY⟩,j.2.steps):=by unfold bS;rw [aU k,<-L,EG _ pg];rfl
  rw [o,k];exact ⟨((j.2.oa,j.2.oc),(j.2.da,j.2.dc)),O,b.fr,b.jF 7 O i5 ro,b.jF 8 O i5 ro⟩
 intro j ⟨ae,aK⟩;refine Ln<|Es ?_;refine WS.nil ?_;refine Eb ?_;have pg:iterM code steps s.pu = .ok () j.2.pu:=by unfold iterM;rw [ao (show ¬(s.pu.steps==steps)=true by rw [show s.pu.steps=s.steps from rfl,J];simp),ao (show ¬gQ s.pu.at_ code.length=true by show ¬gQ s.at_ code.length=true;rw [S];simp),show code[s.pu.at_.toNat]? = some x from W];exact ae
 have a1:j.2.steps=s.steps+1/\s.steps<steps:=adI (m:=s.pu) (m':=j.2.pu) aj.2.2.2 aD aE pg;exact cU j.2 (by omega) ⟨aK,by omega,by omega,by rw [<-L,Wu _ pg,show (steps-s.steps).toNat=(steps-j.2.steps).toNat+1 by omega]⟩<|λ_ h=>h
end Go.Proofs.YtgeahfjicmlocaaGreatDoor.Mch
end
section
namespace Go.Proofs.YtgeahfjicmlocaaGreatDoor.Mch
open Go.Bw Go.Proofs.Tryz
def Ww (op:ab) (w:aL) : cr aB 143 #[an am op] w λe a=>e = ax (bV<|goes op)/\Ext w a:=by
 refine enter func143 O 13 O O ?_;refine CE (Vs:=[]) (Ws.init aG)<|ai<|ar O<|ag<|ai<|ad O<|V0 (bN O O)<|ad O ?_;apply Lo 2 O O O O Y O O O O O;·intro c;refine Vg (Ym O)<|Vg (bN O O) ?_;exact Gt 2 O O O
 refine ad O ?_;apply Lo 2 O O O O Y O O O O O;·intro d;refine Vg (Ym O)<|Vg (bN O O) ?_;exact Gt 2 O O O
 refine ar O<|ag<|bq ?_;refine R1 O O λa b=>?_;exact ⟨O,b.fr⟩
end Go.Proofs.YtgeahfjicmlocaaGreatDoor.Mch
end
section
namespace Go.Proofs.YtgeahfjicmlocaaGreatDoor.Mch
open Go.Bw Go.Proofs.Tryz
def rdBool (H:View) (b o:Z) (x:aQ):Prop:=vc H b o=aa (bV x)
def pg (n:Z) (code:I cS) (m j:Z):aQ:= match code[m]? with| aa x=>(goes x.op&&decide (0<=x.a)&&decide (x.a<(n:ab))&&x.a.toNat==j)||(x.op==13&&m+1==j)| ak=>au
def mk (code:I cS) (N k:Z):I aQ:=(kJ N).map λj=>j==0||(kJ k).any λm=>pg code.length code m j
def marks (code:I cS):I aQ:=mk code code.length code.length
def ox (code:I cS) (data:ab):I aQ×ab:=if kA code data=0 then (marks code,0) else ([],kA code data)
def tG (code:I cS) (N k:Z):(mk code N k).length=N:=by simp [mk]
def mk_zero (code:I cS) (N:Z):mk code N 0=(gI N au).set 0 ac:=by
 apply r3;intro j;rw [yx];rcases m2 j N with h | h
 ·rcases Gu j with rfl | e;·simp [mk,h]
  ·have a:¬(0=j):=aj;have d:(j==0)=au:=by simp;omega
   simp [mk,h,a,d]
 ·have a:(gI N au)[j]? = ak:=by simp [h]
  have b:¬j<N:=aj;simp only [mk,C5];by_cases c:0=j;·subst c;simp [b]
  ·simp [c,b]
def Wx (l:I aQ) (a j:Z):(l.set a ac)[j]? = (l[j]?).map λb=>b||(a==j):=by
 rw [yx];by_cases h:a=j
 ·subst h;by_cases c:a<l.length;·simp [c]
  ·simp [c]
 ·have:(a==j)=au:=by simp [h]
  simp [h,this]
variable {fC:I cS}
def EH {N i:Z} {x:cS} (c:fC[i]? = aa x):mk fC N (i+1) = (if (x.op==13)=ac then (if (goes x.op&&decide (0<=x.a)&&decide (x.a<(fC.length:ab)))=ac then (mk fC N i).set x.a.toNat ac else mk fC N i).set (i+1) ac else if (goes x.op&&decide (0<=x.a)&&decide (x.a<(fC.length:ab)))=ac then (mk fC N i).set x.a.toNat ac else mk fC N i):=by
 apply r3;intro j;have d:pg fC.length fC i j=((goes x.op&&decide (0<=x.a)&&decide (x.a<(fC.length:ab))&&x.a.toNat==j)||(x.op==13&&i+1==j)):=by simp only [pg,c]
 have e:(mk fC N<|i+1)[j]? = ((mk fC N i)[j]?).map λb=>b||pg fC.length fC i j:=by
  simp only [mk,gh];by_cases h:j<N;·simp [h,C0,aQ.or_assoc]
  ·simp [h]
 rw [e,d];generalize (goes x.op&&decide (0<=x.a)&&decide (x.a<(fC.length:ab)))=B;generalize (x.op==13)=B2;cases B<;>cases B2<;>simp [Wx,uh,aQ.or_assoc]
def N9 {data:ab} (h:kA fC data=0):0<fC.length/\fC.length<=2048:=by
 unfold kA at h;split at h;·cases h
 ·rename_i a;simp at a;omega
def Wz (code:I cS) (j:Z) (x:aQ) (h:(marks code)[j]? = aa x):(mk code (code.length+1) code.length)[j]? = aa x:=by have a:=(c_.1 h).1;rw [marks,tG] at a;simp only [marks,mk,gh] at h ⊢;have b:j<code.length+1:=aj;simpa [a,b] using h
def v':g1 aB 132=aa 1:=ah
def zx:hW aB 132 4 (bV au) 1 1:=jD ah
def BE:eP aB 4=aa 1:=ah
def WA (H:View) (a:az a0) (c:Z) (code:I cS) (data:ab) (w:aL) (t:Le H w) (k:Sl pQ 3 H a c code) : cr aB 77 #[bU #[aC a code.length c,an am data]] w λe l=>∃r:az a0×Z,e = ax (cN #[aC r.1 (ox code data).1.length r.2,an am (ox code data).2])/\Ext w l/\Sl rdBool 1 (nv w l) r.1 r.2 (ox code data).1:=by
 have E:=k.cap;have F:=k.max;refine enter func77 O 61 O O ?_;refine CE (Vs:=[H]) (Ws.init (by simp [t]))<|ai ?_;refine WL.box Y O O λu=>?_;refine ar O<|ar O<|ag<|Cs<|ai<|V0 (dv 0 O O ow O)<|Lp Y O bf O (λw b=>NX H a c code data _ b.V k)<|ar O<|ag<|ai<|ad O ?_;refine V0 (g2 O O)<|ag ?_;refine Cc O (λm=>?_)<|λm=>?_
 ·have n:ox code data=([],kA code data):=by simp at m;simp [ox,m]
  refine ai<|ad O<|ar O<|ar O<|ag<|bq<|Er ?_;refine WE.iA O O O λl b=>?_;rw [n];exact ⟨(ak,0),O,b.fr,Sl.nil⟩
 have q:kA code data=0:=by simpa using m
 have n:ox code data=(marks code,0):=by simp [ox,q]
 obtain ⟨G,J⟩:=N9 q;refine bO<|ai<|V0 (Yf cH O)<|V0 (Yd 0 O O O ah)<|V0 (Yn hr O)<|V0 (Yi O O O aj) ?_;refine WL.make Y O zx O O aj aj aj aj λs=>?_;refine dK 0 (aM ((gI (code.length+1) au).map aT.bool).toArray 4 (0,0)) rfl (by rw [TB _ rfl];simp)<|V0 (Ya rfl)<|ag<|ai<|V0 (Ym rfl)<|V0 (pz (i:=0) v' rfl rfl aj) ?_;refine WL.yJ 0 (aM ((mk code (code.length+1) 0).map aT.bool).toArray 4 (0,0)) Y O O O BE O O (Dr _ _ _ _ aG) (by rw [mk_zero];exact Ds aT.bool _ 4 0 ac aG) ?_;refine ag<|Cs<|ai<|V0 (Yf cH O)<|V0 (Yd 1 O O O ah)<|V0 (Yn hr O)<|ad O<|ag<|Cb ?_;refine dZ (ι:=Z) (λi=>[(23,an am (i:ab))]) [(1,_),(2,_),(3,_),(5,_),(21,_),(22,_)] (λi=>Ws w [] [aJ s<|aM ((mk code (code.length+1) i).map aT.bool).toArray 4 (0,0),aJ u<|aM (aT.agg #[aC a code.length c,an am data]).cells 57 (0,0)] [H]) (λi=>i<=code.length) (λi=>code.length-i) 0 (de _) aR ?_;intro i hi;refine ai<|V0 (cP O O)<|ag<|Cs ?_;refine Cc O (λo=>?_)<|λo=>?_
 ·have v:i<code.length:=by simpa using o
  obtain ⟨x,g⟩:=dO v;obtain ⟨y,z,K,p⟩:=k.b7 i x g;have p:ct H y (z+i*3) x.cells:=p;refine bO<|Cs<|Cb<|ai<|ad O<|V0 (Yo hr O O mW aj)<|V0 (dG 0 v3 O O O<|p) ?_;refine Al Y O h1 λL=>?_;refine ar O<|aq 0 Y O O O xA O O O<|ag<|Cs<|ai<|V0 (Yf rk O)<|V0 (Yd 0 O O O ah)<|Lp Y O bf O (λw b=>Ww _ w)<|ad O ?_;apply La 3 O O O O Y O O O O O;·intro M;refine Vg (Yf kg O)<|Vg (Yd 0 O O O ah)<|Vg (hE O O) ?_;exact Gt 3 O O O
  refine ad O ?_;apply La 6 O O O O Y O O O O O;·intro P;refine Vg (Yf kg O)<|Vg (Yd 0 O O O ah)<|Vg (Yf cH O)<|Vg (Yd 2 O O O ah)<|Vg (Yn hr O)<|Vg (cP O O) ?_;exact Gt 6 O O O
  refine ag ?_;refine Cc O (λf=>?_)<|λf=>?_
  ·have A:(goes x.op=ac/\0<=x.a)/\x.a<code.length:=by simpa using f
   obtain ⟨⟨_,B⟩,Q⟩:=A;refine Cr<|ad O<|V0 (Yf kg O)<|V0 (Yd 0 O O O ah)<|V0 (Di v' O O B aj) ?_;refine WL.yJ 1 _ Y O O O BE O O (Dr _ _ _ _ (by simp [tG];omega)) (Ds aT.bool _ 4 _ ac (by simp [tG];omega)) ?_;refine ag<|ai<|V0 (Yf rk O)<|V0 (Yd 0 O O O ah)<|V0 (bN O O)<|ag ?_;refine Cc O (λd=>?_)<|λd=>?_;·refine Cr<|ad O<|ad O<|V0 (Yi O O O aj)<|V0 (pz v' O O aj) ?_;refine WL.yJ 1 _ Y O O O BE O O (Dr _ _ _ _ (by simp [tG];omega)) (Ds aT.bool _ 4 _ ac (by simp [tG];omega)) ?_;refine Ln<|Eb<|Et<|Cr<|V0 (Yi O O O aj)<|ad O<|Ln ?_;exact cU (i+1) aj aj (λ_ h=>by have e:=EH (N:=code.length+1) g;simp only [f,d,dp,dP,dq] at e;have h:=Wd 1 h;rw [e];exact h)
   refine Ck<|Eb<|Et<|Cr<|V0 (Yi O O O aj)<|ad O<|Ln ?_;exact cU (i+1) aj aj (λ_ h=>by have e:=EH (N:=code.length+1) g;simp only [f,d,dp,dP,dq] at e;have h:=Wd 1 h;rw [e];exact h)
  refine bO<|ai<|V0 (Yf rk O)<|V0 (Yd 0 O O O ah)<|V0 (bN O O)<|ag ?_;refine Cc O (λd=>?_)<|λd=>?_;·refine Cr<|ad O<|ad O<|V0 (Yi O O O aj)<|V0 (pz v' O O aj) ?_;refine WL.yJ 1 _ Y O O O BE O O (Dr _ _ _ _ (by simp [tG];omega)) (Ds aT.bool _ 4 _ ac (by simp [tG];omega)) ?_;refine Ln<|Eb<|Et<|Cr<|V0 (Yi O O O aj)<|ad O<|Ln ?_;exact cU (i+1) aj aj (λ_ h=>by have e:=EH (N:=code.length+1) g;simp only [f,d,dp,dP,dq] at e;have h:=Wd 1 h;rw [e];exact h)
  refine Ck<|Eb<|Et<|Cr<|V0 (Yi O O O aj)<|ad O<|Ln ?_;exact cU (i+1) aj aj (λ_ h=>by have e:=EH (N:=code.length+1) g;simp only [f,d,dp,dP,dq] at e;have h:=Wd 1 h;rw [e];exact h)
 have R:¬i<code.length:=by simpa using o
 have C:i=code.length:=aj;subst C;refine Ce<|Ex<|Ex<|dy<|Et<|ai<|ad O<|V0 (Yf cH O)<|V0 (Yd 1 O O O ah)<|V0 (Yn hr O)<|V0 (Lt v' O aG O aj aj)<|ar O ?_;refine ar O<|ag<|bq ?_;refine WE.iA O O O λl b=>?_;rw [n];refine ⟨(aa ⟨s,0,ak⟩,((code.length+1:Z):ab).toNat),?_,b.fr,?_⟩;·simp [marks,tG]
 ·exact b.TC 0 O fp (by simp [marks,tG]) aj<|λj x D=>Wz code j x D
end Go.Proofs.YtgeahfjicmlocaaGreatDoor.Mch
end
section
namespace Go.Proofs.YtgeahfjicmlocaaGreatDoor.Mch
open Go.Bw Go.Proofs.Tryz
def bool_split {a b:aQ} (h:(a&&b)=ac):a=ac/\b=ac:=by simpa using h
end Go.Proofs.YtgeahfjicmlocaaGreatDoor.Mch
end
section
namespace Go.Proofs.YtgeahfjicmlocaaGreatDoor.Mch
open Go.Bw Go.Proofs.Tryz
def jQ:hW aB 55 62 (bU #[an am 0,an am 0,an am 0]) 3 24:=jD ah
def N' (b:aQ) (w:aL) : cr aB 148 #[bV b] w λe a=>e = ax (an am<|nh b)/\Ext w a:=by
 refine enter func148 O 4 O O ?_;refine CE (Vs:=[]) (Ws.init aG)<|ai<|ar O<|ag<|Cs<|ai<|ad O<|ag ?_;refine Cc O (λd=>?_)<|λd=>?_;·refine ai<|ar O<|ag<|bq<|Er ?_;refine R1 O O λa c=>?_;exact ⟨by simp [nh, *],c.fr⟩
 refine bO<|ai<|ar O<|ag<|bq ?_;refine R1 O O λa c=>?_;exact ⟨by simp [nh, *],c.fr⟩
def afh (H:View) (a:az a0) (c:Z) (code:I cS) (w:aL) (m:Le H w) (f:Sl pQ 3 H a c code) (t:code.length*24<=140737488355328) (y:1<=code.length) : cr aB 78 #[aC a code.length c] w λe g=>∃v,e = ax v/\Ext w g/\g.ownsRow w.heap.size 62 3 v code.length (code.flatMap cS.cells):=by
 have z:=f.cap;have A:=f.max;refine enter func78 O 8 O O ?_;refine CE (Vs:=[H]) (Ws.init (by simp [m]))<|ai<|ar O<|ag<|Cs<|ai<|ad O<|V0 (Du hr O)<|ag ?_;refine Cc O (λi=>?_)<|λi=>?_
 ·have n:code=[]:=by cases code with| nil=>rfl| cons x r=>obtain ⟨b,o,h,_⟩:=f.b7 0 x rfl;rw [h] at i;cases i
  refine ai<|ar O<|ag<|bq<|Er ?_;refine R1 O O λg d=>?_;subst n;exact ⟨_,O,d.fr,TD _ _ _ _⟩
 obtain ⟨p,rfl⟩:∃p,a=aa p:=by cases a with| none=>cases i| some p=>exact ⟨p,rfl⟩
 obtain ⟨B,C,ps⟩:=p;obtain rfl:ps=ak:=f.spot _ rfl aj;have q:=f.flat cS.dA a'<|λ_ _ _ h=>h;refine bO<|ai ?_;refine WL.AQ Y O jQ O O O λD=>?_;refine WL.yM (size:=3) 0 O (eC 0) (de _) O ?_;refine ad O ?_;refine WL.append 0 Y O jQ O O O (hS cS.dA code) (λw d j u k=>by rw [qS];exact (d.vs H aG).cell<|q j u k) (λu k=>by obtain ⟨x,_,l⟩:=m3.1 k;simp [cS.cells] at l;rcases l with rfl | rfl | rfl<;>rfl) (by unfold maxLen;omega) aj<|λE F=>?_;refine ar O<|ag<|bq ?_;refine R1 O O λg d=>?_;have s:=d.Tz 0 rfl;exact ⟨_,O,d.fr,by simpa using s⟩
end Go.Proofs.YtgeahfjicmlocaaGreatDoor.Mch
end
section
namespace Go.Proofs.YtgeahfjicmlocaaGreatDoor.Mch
open Go.Bw Go.Proofs.Tryz
def eG (l:I cS) (k:Z):cS:=(l[k]?).getD ⟨0,0,0⟩
def sB {l:I cS} {k:Z} (h:k<l.length):l[k]? = aa (eG l k):=by unfold eG;rw [dh h];rfl
variable {fC:I cS} {ae:Z} {sC:cS}
def afi (h:fC[ae]? = aa sC):(fC.flatMap cS.cells)[0+ae*3+0]? = aa (an am sC.op):=by rw [k0];exact oR cS.dA h a'
def BF (h:fC[ae]? = aa sC):(fC.flatMap cS.cells)[0+ae*3+1]? = aa (an am sC.a):=by rw [k0];exact oR cS.dA h a'
def N_ {k j:Z}  (h:fC[k]? = aa sC) (a:j<=3):0+k*3+j<=(fC.flatMap cS.cells).length:=by rw [hS cS.dA];have:=(c_.1 h).1;omega
def afj (h:fC[ae]? = aa sC):0+ae*3+1+1<=(fC.flatMap cS.cells).length:=N_ h (j:=2) a'
def Oa (h:fC[ae]? = aa sC):0+ae*3+3<=(fC.flatMap cS.cells).length:=N_ h a'
def afk (h:fC[ae]? = aa sC) (v:ab) : (fC.flatMap cS.cells).take (0+ae*3+1)++fh (an am v)++(fC.flatMap cS.cells).drop (0+ae*3+1+(fh<|an am v).length)=(fC.set ae ⟨sC.op,v,sC.b⟩).flatMap cS.cells:=by rw [k0];exact GK cS.dA h (by simp [fh]) rfl
def Ob (h:fC[ae]? = aa sC) (a b c:ab) : (fC.flatMap cS.cells).take (0+ae*3)++fh (bU #[an am a,an am b,an am c])++(fC.flatMap cS.cells).drop (0+ae*3+(fh<|bU #[an am a,an am b,an am c]).length)=(fC.set ae ⟨a,b,c⟩).flatMap cS.cells:=by rw [k0];exact GK cS.dA h (j:=0) (by simp [fh]) rfl
def Oc (H:View) (b o:Z) (x:ab):Prop:=vc H b o=aa (an am x)
variable {cb eJ:aL} {cJ:I Z} {di:I bc} {en:I View} {aH aK hQ:Z}
def zy (h:Ws cb cJ di en eJ) (i:Z)   (hL:di[i]? = aa (eK hQ 3 (aC (aa ⟨aK,0,ak⟩) ae aH) ae<|fC.flatMap cS.cells)) (b:fC.length<=aH) (c:aH<=9223372036854775807):Sl pQ 3 (hv eJ) (aa ⟨aK,0,ak⟩) aH fC:= ⟨b,c,aG,λj x d=>⟨aK,0,rfl,λk v a=>h.TA i hL (by have:k<3:=(c_.1 a).1;rw [k0,oR cS.dA d this];exact a)⟩⟩
variable {fo:I ab}
def zz (h:Ws cb cJ di en eJ) (i:Z)  {a:Obj}  (hL:di[i]? = aa (aJ ae a)) (b:fo.length<=aH) (c:aH<=9223372036854775807) (d:∀j x,fo[j]? = aa x->jV a (0+j*1)=aa (an am x)):Sl Oc 1 (hv eJ) (aa ⟨ae,0,ak⟩) aH fo:= ⟨b,c,aG,λj x e=>⟨ae,0,rfl,h.i_ i hL<|d j x e⟩⟩
def WF (h:Ws cb [] di en eJ) (i:Z)   (hL:di[i]? = aa (eK hQ 3 (aC (aa ⟨aK,0,ak⟩) ae aH) ae<|fC.flatMap cS.cells)) (l:fC.length=ae):Sl pQ 3 (nv cb eJ) (aa ⟨aK,0,ak⟩) aH fC:=by
 rcases h.Lz i hL with ⟨b,_⟩ | ⟨m,n,b,o,d,e⟩;·cases b
 ·injection b with a _ f;injection a with a;injection a with a;subst a f;exact ⟨aj,by unfold maxLen at d;omega,aG,λj x g=>⟨_,0,O,λk v c=>e _ _ (by have:k<3:=(c_.1 c).1;rw [k0,oR cS.dA g this];exact c)⟩⟩
def zA (code c:I cS) (k:Z):I cS:= if (decide (0<=(eG c k).a)&&decide ((eG c k).a<(code.length:ab))&&((eG c k).a != (k:ab))&&((eG code (eG c k).a.toNat).op==11))=ac then c.set k ⟨(eG c k).op,(eG code (eG c k).a.toNat).a,(eG c k).b⟩ else c
def lz (mk:I aQ) (a:I cS) (m:Z) (o:ab):aQ:=decide (m<a.length)&&((eG a m).op==o&&!(mk[m]?.getD ac))
def mT (mk:I aQ) (a:I cS) (k:Z) (os:I ab):aQ:=(kJ os.length).all λi=>lz mk a (k+1+i)<|os[i]?.getD 0
def uV (a:I cS) (k:Z):Z->I cS| 0=>a| i+1=>(uV a k i).set (k+i) ⟨21,0,0⟩
def EI (a:I cS) (k:Z):∀i,(uV a k i).length=a.length| 0=>rfl| i+1=>by simp [uV,EI a k i]
def nI (a:I cS) (k n:Z) (x:cS):I cS:=(uV a k<|n-1).set (k+n-1) x
def WG (a:I cS) (k n:Z) (x:cS):(nI a k n x).length=a.length:=by simp [nI,EI]
def rq (mk:I aQ) (b:I cS) (k:Z):I cS:= if mT mk b k [1,10]=ac then (if (kB (eG b<|k+2).a (eG b k).a (eG b<|k+1).a).2=ac then nI b k 3 ⟨1,(kB (eG b<|k+2).a (eG b k).a (eG b<|k+1).a).1,0⟩ else b) else if (mT mk b k [12]&&(eG b k).a==0)=ac then nI b k 2 ⟨11,(eG b<|k+1).a,0⟩ else if mT mk b k [9]=ac then nI b k 2 ⟨1,nh<|(eG b k).a==0,0⟩ else if mT mk b k [22]=ac then nI b k 2 ⟨1,nh<|(eG b k).a != 0,0⟩ else if (mT mk b k [12]||mT mk b k [17])=ac then nI b k 2 ⟨21,0,0⟩ else b
def WH (code a:I cS) (k:Z):(zA code a k).length=a.length:=by unfold zA;split<;>simp
def WI (mk:I aQ) (a:I cS) (k:Z):(rq mk a k).length=a.length:=by
 unfold rq;repeat' split
 all_goals simp only [WG]
def Od (mk:I aQ) (a:I cS) (m:Z) (o:ab):((decide ((a.length:ab)<=(m:ab))||((eG a m).op != o))||(mk[m]?.getD ac)) = !(lz mk a m o):=by
 unfold lz;have e:decide ((a.length:ab)<=(m:ab)) = !(decide<|m<a.length):=by
  by_cases h:m<a.length;·simp [h]
  ·simp [h];omega
 rw [e];generalize (mk[m]?.getD ac)=b;simp only [bne];generalize ((eG a m).op==o)=c;generalize decide (m<a.length)=d;cases b<;>cases c<;>cases d<;>rfl
variable {sx:I aQ}
def WJ (hi:aH<fo.length) (h:lz sx fC (ae+1+aH) (fo[aH]?.getD 0)=au):mT sx fC ae fo=au:=by unfold mT;rw [yv];exact ⟨aH,by simp [hi],by simp [h]⟩
def WK (h:∀i,i<fo.length->lz sx fC (ae+1+i) (fo[i]?.getD 0)=ac):mT sx fC ae fo=ac:=by unfold mT;rw [gw];intro i hi;exact h i (by simpa using hi)
def zB (h:mT sx fC ae fo=ac) {i:Z} (hi:i<fo.length):ae+1+i<fC.length:=by unfold mT at h;have:=gw.1 h i (by simp [hi]);unfold lz at this;simp at this;exact this.1
def pT:cX aB 157 1=aa 2:=ah
def Oe:cX aB 157 0=aa 0:=ah
def iI:hy aB 62=aa [(0,1),(1,1),(2,1)]:=ah
def afl:cX aB 157 2=aa 3:=ah
def Of (i f:Z) (o p:az a0) (q g r:Z) (data:ab) (H s:View) (code b:I cS) (mk:I aQ) (k:Z) (w:aL) (n:Sl pQ 3 H o q code) (D:b.length=code.length) (E:mk.length=code.length) (F:Sl rdBool 1 s p r mk) (G:k<code.length) (J:code.length<=g) (K:g<=9223372036854775807) (j:Ws w [i,f] [aJ i<|aM #[aC o code.length q,an am data,aC (aa ⟨f,0,ak⟩) code.length g,aC p code.length r] 157 (0,0),eK 62 3 (aC (aa ⟨f,0,ak⟩) code.length g) code.length<|(b).flatMap cS.cells] [H,s] w) : cr aB 79 #[b0 (aa ⟨i,0,ak⟩),an am (k:ab)] w λe t=>e = ax (cN #[])/\Ws w [i,f] [aJ i<|aM #[aC o code.length q,an am data,aC (aa ⟨f,0,ak⟩) code.length g,aC p code.length r] 157 (0,0),eK 62 3 (aC (aa ⟨f,0,ak⟩) code.length g) code.length<|(zA code b k).flatMap cS.cells] [H,s] t:=by
 have u:b[k]? = aa (eG b k):=sB aj;have L:=n.cap;have M:=n.max;refine enter func79 O 57 O O ?_;refine CE j<|ai<|ad O<|V0 (bP O)<|V0 (Yf pT O)<|V0 (Yd 0 O O O ah)<|ad O<|V0 (pz hr O O aj) ?_;refine V0 (Yf kg O)<|V0 (yL 1 O O ah<|BF u)<|ar O<|ag<|ai<|ad O<|V0 (hE O O)<|ad O ?_;apply La 7 O O O O Y O O O O O;·intro N;refine Vg (Ym O)<|Vg (Ym O)<|Vg (bP O)<|Vg (Yf pT O)<|Vg (Yd 0 O O O ah)<|Vg (Yn hr O)<|Vg (cP O O) ?_;exact Gt 7 O O O
 refine ad O ?_;apply La 3 O O O O Y O O O O O;·intro P;refine Vg (Ym O)<|Vg (Ym O)<|Vg (g2 O O) ?_;exact Gt 3 O O O
 refine ad O ?_;apply La 10 O O O O Y O O O O O
 ·intro B;have v:((0<=(eG b k).a)/\(eG b k).a<(code.length:ab)):=by simp at B;exact B.1
  obtain ⟨x,C⟩:=v;obtain ⟨y,z,A,c⟩:=n.b7 _ _<|sB (l:=code) (k:=(eG b k).a.toNat) aj;have c:ct H y (z+(eG b k).a.toNat*3) (eG code (eG b k).a.toNat).cells:=c;refine Vg (Ym O)<|Vg (bP O)<|Vg (Yf Oe O)<|Vg (Yf cH O)<|Vg (Yd 0 O O O ah)<|Vg (Ym O)<|Vg (uq hr O O A x aj)<|Vg (Yf rk O) ?_;refine Vg (dQ 0 ah O O<|c 0 _ O)<|Vg (bN O O) ?_;exact Gt 10 O O O
 refine ag ?_;refine Cc O (λm=>?_)<|λm=>?_
 ·have v:((0<=(eG b k).a)/\(eG b k).a<(code.length:ab)):=by simp at m;exact m.1.1
  obtain ⟨x,C⟩:=v;obtain ⟨y,z,A,c⟩:=n.b7 _ _<|sB (l:=code) (k:=(eG b k).a.toNat) aj;have c:ct H y (z+(eG b k).a.toNat*3) (eG code (eG b k).a.toNat).cells:=c;refine WC.m6 1 [(0,ac),(1,ac),(2,ac),(3,ac),(4,ac),(5,ac),(6,ac),(7,ac),(8,ac),(9,ac),(10,ac),(11,ac),(12,ac),(13,ac),(14,ac),(15,ac),(16,au)] mixed ah (λ_ _ _ d _ h=>by cases d<;>exact h) ?_;refine D0 O (Wp 1) (Ym O)<|D0 O (Wp 1) (bP O)<|D0 O (Wp 1) (Yf pT O)<|D0 O (Wp 1) (Yd 0 O O O ah)<|D0 O (Wp 1) (Ym O)<|D0 O (Wp 1) (Ym O)<|D0 O (Wp 1) (bP O)<|D0 O (Wp 1) (Yf Oe O) ?_;refine D0 O (Wp 1) (Yf cH O)<|D0 O (Wp 1) (Yd 0 O O O ah)<|D0 O (Wp 1) (Ym O)<|D0 O (Wp 1) (uq hr O O A x aj)<|D0 O (Wp 1) (Yf kg O)<|D0 O (Wp 1) (dQ 0 ah O O<|c 1 _ O)<|D0 O (Wp 1) (pz hr O O aj)<|D0 O (Wp 1) (Yf kg O) ?_;refine De O (Wp 1) ?_;refine WL.Bn 1 _ Y O O O ei O O (afj u) (afk u _) ?_;refine Ln<|Ed ?_;refine WD.nil (Wp 1) ?_;refine E0 O λt j=>?_;rw [zA,aU m];exact ⟨O,j⟩
 refine Ck ?_;refine E0 O λt j=>?_;rw [zA,ao (by simp [m])];exact ⟨O,j⟩
def Iw (v:ab) (w:aL) : cr aB 144 #[an am v] w λe a=>e = ax (bU #[an am 1,an am v,an am 0])/\Ext w a:=by refine enter func144 O 5 O O ?_;refine CE (Vs:=[]) (Ws.init aG)<|ai ?_;refine Al Y O h1 λc=>?_;refine ag<|ai<|ad O<|V0 (Yb h1 iI O O)<|aq 0 Y O O O xA O O O<|ag<|bq ?_;refine WE.Ly 0 O O O v3 O λa b=>?_;exact ⟨O,b.fr⟩
def zC (a:View) (f N:Z) (t u v:az a0) (x y co:Z) (c:I cS) (mk:I aQ) (os:I ab) (k:Z) (w:aL) (F:Le a w) (hN:c.length=N) (ae:N<=2048) (z:vc a f (0+2)=aa (aC t N x)) (G:vc a f (0+3)=aa (aC u N y)) (H:Sl pQ 3 a t x c) (J:Sl rdBool 1 a u y mk) (af:mk.length=N) (K:Sl Oc 1 a v co os) (aj:os.length<=2) (al:k<N) : cr aB 145 #[b0 (aa ⟨f,0,ak⟩),an am (k:ab),aC v os.length co] w λe g=>e = ax (bV<|mT mk c k os)/\Ext w g:=by
 subst hN;refine enter func145 O 50 O O ?_;refine CE (Vs:=[a]) (Ws.init (by simp [F]))<|ai<|ar O<|ag<|Cs<|ai<|ad O<|V0 (Yn eS O)<|ad O<|ag<|Cb ?_;refine CW (ι:=Z) (λi=>[(12,an am (i:ab))]) [(0,_),(1,_),(10,_),(11,_)] (λi=>i<=os.length/\∀j,j<i->lz mk c (k+1+j) (os[j]?.getD 0)=ac) (λi=>os.length-i) 0 ⟨de _,by simp⟩ (sc O<|sc O<|sc O<|sc O<|sc O sn) ?_;intro i ⟨hi,A⟩;refine ai<|V0 (cP O O)<|ag<|Cs ?_;refine Cc O (λl=>?_)<|λl=>?_
 ·have B:i<os.length:=by simpa using l
  obtain ⟨o,m⟩:∃o,os[i]? = aa o:=⟨_,dh B⟩;obtain ⟨L,M,P,n⟩:=K.b7 i o m;have n:vc a L (M+i*1)=aa (an am o):=n;refine bO<|Cs<|Cb<|ai<|ad O<|V0 (Yo eS O O P (by omega))<|V0 (dQ 0 ah O O<|n)<|ar O<|ar O<|ag<|ai<|ad O ?_;refine V0 (Yi O O O (by omega))<|ad O<|V0 (n7 O O O O (by omega))<|ar O<|ag<|ai<|ad O<|ad O<|V0 (bP O) ?_;refine V0 (Yf pT O)<|V0 (dQ 0 ah O O<|z)<|V0 (Yn hr O)<|V0 (hE O O)<|ad O ?_;apply Lo 10 O O O O Y O O O O O
  ·intro Q;have C:k+1+i<c.length:=by simp at Q;omega
   obtain ⟨R,S,T,p⟩:=H.b7 _ _<|sB C;have p:ct a R (S+(k+1+i)*3) (eG c<|k+1+i).cells:=p;refine Vg (Ym O)<|Vg (bP O)<|Vg (Yf pT O)<|Vg (dQ 0 ah O O<|z)<|Vg (Ym O)<|Vg (Yo hr O O T (by omega))<|Vg (Yf rk O)<|Vg (dQ 0 ah O O<|p 0 _ O) ?_;refine Vg (Ym O)<|Vg (g2 O O) ?_;exact Gt 10 O O O
  refine ad O ?_;apply Lo 7 O O O O Y O O O O O
  ·intro U;have C:k+1+i<c.length:=by simp at U;omega
   obtain ⟨b,D⟩:∃b,mk[k+1+i]? = aa b:=⟨_,dh (by omega)⟩;obtain ⟨V,W,X,q⟩:=J.b7 _ _ D;have q:vc a V (W+(k+1+i)*1)=aa (bV<|mk[k+1+i]?.getD ac):=by rw [D];exact q
   refine Vg (Ym O)<|Vg (bP O)<|Vg (Yf afl O)<|Vg (dQ 0 ah O O<|G)<|Vg (Ym O)<|Vg (Yo v' O O X (by omega))<|Vg (dQ 0 ah O O<|q) ?_;exact Gt 7 O O O
  refine ag ?_;refine Cc O (λd=>?_)<|λd=>?_
  ·rw [Od] at d;have r:lz mk c (k+1+i) (os[i]?.getD 0)=au:=by rw [m];simpa using d
   refine ai<|ar O<|ag<|bq<|cZ<|Er<|Er<|cZ<|Er ?_;refine R1 O O λg s=>?_;exact ⟨by rw [WJ B r],s.fr⟩
  rw [Od] at d;have r:lz mk c (k+1+i) (os[i]?.getD 0)=ac:=by rw [m];simpa using d
  refine Ck<|Eb<|Et<|Cr<|V0 (Yi O O O (by omega))<|ad O<|Ln ?_;exact Ea (i+1) (by omega) ⟨by omega,λj E=>by rcases dd.1 E with h | rfl;exact A j h;exact r⟩ (sc rfl<|sc rfl<|sc rfl<|sc rfl<|sc rfl sn)<|λ_ h=>h
 have ao:¬i<os.length:=by simpa using l
 refine Ce<|Ex<|Ex<|dy<|Et<|ai<|ar O<|ag<|bq ?_;refine R1 O O λg s=>?_;exact ⟨by rw [WK λj E=>A j (by omega)],s.fr⟩
def zD (l f:Z) (n o:az a0) (p g q:Z) (data:ab) (H r:View) (code j:I cS) (mk:I aQ) (k:Z) (w:aL) (A:Sl pQ 3 H n p code) (B:j.length=code.length) (C:mk.length=code.length) (D:Sl rdBool 1 r o q mk) (E:k<code.length) (F:code.length<=g) (G:g<=9223372036854775807) (c:Z) (x:cS) (v:1<=c) (J:k+c<=code.length) (K:code.length<=2048) (s:Ws w [l,f] [aJ l<|aM #[aC n code.length p,an am data,aC (aa ⟨f,0,ak⟩) code.length g,aC o code.length q] 157 (0,0),eK 62 3 (aC (aa ⟨f,0,ak⟩) code.length g) code.length<|(j).flatMap cS.cells] [H,r] w) : cr aB 147 #[b0 (aa ⟨l,0,ak⟩),an am (k:ab),an am (c:ab),bU #[an am x.op,an am x.a,an am x.b]] w λe u=>e = ax (cN #[])/\Ws w [l,f] [aJ l<|aM #[aC n code.length p,an am data,aC (aa ⟨f,0,ak⟩) code.length g,aC o code.length q] 157 (0,0),eK 62 3 (aC (aa ⟨f,0,ak⟩) code.length g) code.length<|(nI j k c x).flatMap cS.cells] [H,r] u:=by
 refine enter func147 O 34 O O ?_;refine CE s<|ai ?_;refine WL.box Y O O λy=>?_;refine ag<|Cs<|ai<|ad O<|V0 (LI (a:=c) (b:=1) O O O O v aj)<|ad O<|ag<|Cb ?_;refine dZ (ι:=Z) (λi=>[(11,an am (i:ab))]) [(0,_),(1,_),(2,_),(7,_),(10,_)] (λi=>Ws w [l,f] (aJ y (aM (aT.agg #[an am x.op,an am x.a,an am x.b]).cells 62 (0,0))::[aJ l<|aM #[aC n code.length p,an am data,aC (aa ⟨f,0,ak⟩) code.length g,aC o code.length q] 157 (0,0),eK 62 3 (aC (aa ⟨f,0,ak⟩) code.length g) code.length<|(uV j k i).flatMap cS.cells]) [H,r]) (λi=>i<=c-1) (λi=>c-1-i) 0 (de _) aR ?_;intro i hi;refine ai<|V0 (cP O O)<|ag<|Cs ?_;refine Cc O (λt=>?_)<|λt=>?_
 ·have L:i<c-1:=by simp at t;omega
  have m:(uV j k i)[k+i]? = aa (eG (uV j k i)<|k+i):=sB (by rw [EI];omega);refine bO<|Cs<|Cb<|ai<|ad O<|ar O<|ag<|Cr<|ad O<|V0 (bP O)<|V0 (Yf pT O)<|V0 (Yd 1 O O O ah) ?_;refine ad O<|ad O<|V0 (n7 O O O O aj)<|V0 (Yb h1 iI O O)<|V0 (pz hr O O aj) ?_;refine WL.Bn 2 _ Y O O O xA O O (Oa m) (Ob m 21 0 0) ?_;refine Ln<|Eb<|Et<|Cr<|V0 (Yi O O O aj)<|ad O<|Ln ?_;exact cU (i+1) aj aj aR
 have z:i=c-1:=by simp at t;omega
 subst z;have m:(uV j k<|c-1)[k+c-1]? = aa (eG (uV j k<|c-1)<|k+c-1):=sB (by rw [EI];omega);refine Ce<|Ex<|Ex<|dy<|Et ?_;refine WC.m6 2 [(0,ac),(1,ac),(2,ac),(3,ac),(4,ac),(5,ac),(6,ac),(7,ac),(8,ac),(9,ac),(10,au)] mixed ah (λ_ _ _ d _ h=>by cases d<;>exact h) ?_;refine D0 O (Wp 2) (Ym O)<|D0 O (Wp 2) (bP O)<|D0 O (Wp 2) (Yf pT O)<|D0 O (Wp 2) (Yd 1 O O O ah)<|D0 O (Wp 2) (Ym O)<|D0 O (Wp 2) (Ym O)<|D0 O (Wp 2) (n7 O O O O aj)<|D0 O (Wp 2) (LI (a:=k+c) (b:=1) O O O O aj aj) ?_;refine D0 O (Wp 2) (dv 0 O O v3 O)<|D0 O (Wp 2) (pz hr O O aj) ?_;refine De O (Wp 2) ?_;refine WL.Bn 2 _ Y O O O xA O O (Oa m) (Ob m x.op x.a x.b) ?_;refine Ln<|Ed ?_;refine WD.nil (Wp 2) ?_;refine E0 O λu s=>?_;exact ⟨O,Wd 1 s⟩
end Go.Proofs.YtgeahfjicmlocaaGreatDoor.Mch
end
section
namespace Go.Proofs.YtgeahfjicmlocaaGreatDoor.Mch
open Go.Bw Go.Proofs.Tryz
def sD (mk:I aQ) (code a:I cS) (k:Z):I cS:= if ((eG a k).op==11||(eG a k).op==12)=ac then zA code a k else if ((eG a k).op==1)=ac then rq mk a k else a
def mU (mk:I aQ) (code:I cS):Z->I cS| 0=>code| i+1=>sD mk code (mU mk code i) i
def WM (mk:I aQ) (code a:I cS) (k:Z):(sD mk code a k).length=a.length:=by
 unfold sD;repeat' split
 all_goals simp only [WH,WI]
def v_ (mk:I aQ) (code:I cS):∀i,(mU mk code i).length=code.length| 0=>rfl| i+1=>by rw [mU,WM,v_ mk code i]
def Ix (code:I cS):I cS:=mU (marks code) code code.length
def uW (code:I cS) (data:ab):I cS×ab×ab:=if kA code data=0 then (Ix code,data,0) else ([],0,kA code data)
def qE:zeroOf aB 57=aa (bU #[aC ak 0 0,an am 0]):=ah
def wa:hy aB 57=aa [(0,1),(1,1)]:=ah
def rr:eP aB 57=aa 2:=ah
def WN:hy aB 157=aa [(0,2),(2,1),(3,1)]:=ah
def WO:zeroOf aB 157=aa (bU #[aC ak 0 0,an am 0,aC ak 0 0,aC ak 0 0]):=ah
def Og (n p:Z) (A B:az a0) (C m o:Z) (data:ab) (H l:View) (code f:I cS) (mk:I aQ) (k:Z) (w:aL) (G:Sl pQ 3 H A C code) (q:f.length=code.length) (r:mk.length=code.length) (s:Sl rdBool 1 l B o mk) (t:k<code.length) (J:code.length<=m) (u:m<=9223372036854775807) (v:code.length<=2048) (c:Ws w [n,p] [aJ n<|aM #[aC A code.length C,an am data,aC (aa ⟨p,0,ak⟩) code.length m,aC B code.length o] 157 (0,0),eK 62 3 (aC (aa ⟨p,0,ak⟩) code.length m) code.length<|(f).flatMap cS.cells] [H,l] w) : cr aB 80 #[b0 (aa ⟨n,0,ak⟩),an am (k:ab)] w λe y=>e = ax (cN #[])/\Ws w [n,p] [aJ n<|aM #[aC A code.length C,an am data,aC (aa ⟨p,0,ak⟩) code.length m,aC B code.length o] 157 (0,0),eK 62 3 (aC (aa ⟨p,0,ak⟩) code.length m) code.length<|(rq mk f k).flatMap cS.cells] [H,l] y:=by
 have Q:f[k]? = aa (eG f k):=sB aj;refine enter func80 O 111 O O ?_;refine CE c<|ai<|ad O<|V0 (bP O)<|V0 (Yf pT O)<|V0 (Yd 0 O O O ah)<|ad O<|V0 (pz hr O O aj) ?_;refine V0 (Yf kg O)<|V0 (yL 1 O O ah<|BF Q)<|ar O<|ag<|ai<|ar O<|ag<|Cs<|ai<|ad O<|ad O ?_;refine Lb Y O fY O O O O λT=>?_;refine Lp Y O bf O (λw c=>zC (hv w) n code.length _ _ _ m o 2 f mk [1,10] k w (b9 w) q v (c.i_ 1 O O) (c.i_ 1 O O) (zy c 2 O aj u) (s.mono λ_ _ _ h=>(n5<|c.vs l aG).cell h) r (zz c 0 O a' a' (by intro j x g;match j,g with| 0,g=>cases g;rfl| 1,g=>cases g;rfl)) a' t)<|ag ?_;refine Cc O (λz=>?_)<|λz=>?_
 ·have L:=zB z (i:=1) a';have N:f[k+1]? = aa (eG f<|k+1):=sB aj;have R:f[k+2]? = aa (eG f<|k+2):=sB aj;refine Cs<|Cs ?_;refine WC.n6 [(0,ac),(1,ac),(2,ac),(3,ac),(4,ac),(5,ac),(6,ac),(7,ac),(8,ac),(9,ac),(10,ac),(11,ac),(12,ac),(13,ac),(14,ac),(15,ac),(16,ac),(17,ac),(18,ac),(19,au),(20,ac),(21,ac),(22,ac),(23,ac),(24,ac)] mixed ah (λ_ _ _ d _ h=>by cases d<;>exact h) ?_;refine D0 O aR (Ym O)<|D0 O aR (bP O)<|D0 O aR (Yf pT O)<|D0 O aR (Yd 1 O O O ah)<|D0 O aR (Ym O)<|D0 O aR (n7 (a:=k) (b:=2) O O O O aj)<|D0 O aR (pz hr O O aj)<|D0 O aR (Yf kg O) ?_;refine D0 O aR (yL 2 O O ah<|BF R)<|D0 O aR (Ym O)<|D0 O aR (Ym O)<|D0 O aR (bP O)<|D0 O aR (Yf pT O)<|D0 O aR (Yd 1 O O O ah)<|D0 O aR (Ym O)<|D0 O aR (Yi O O O aj) ?_;refine D0 O aR (pz hr O O aj)<|D0 O aR (Yf kg O)<|D0 O aR (yL 2 O O ah<|BF N) ?_;refine De O aR ?_;refine Lp Y O bf O (λw c=>NY _ _ _ w)<|Ln<|Ed<|D0 O aR (Ym O)<|D0 O aR (Yx O O)<|D0 O aR (Yx O O)<|D0 O aR (Ya O)<|D0 O aR (Ya O) ?_;refine WD.nil aR ?_;refine Et<|ai<|ad O<|ag ?_;refine Cc O (λP=>?_)<|λP=>?_;·refine Cr<|ad O<|ad O<|ad O<|ad O ?_;refine WL.ur Y O bf O O (λw c=>Iw _ _) ?_;refine Lf 2 O<|Lf 2 O<|tf [_,_] _ [_,_] Y O bf O O [H,l] aG (λw c=>zD n p A B C m o data H l code f mk k w G q r s t J u 3 ⟨1,(kB (eG f<|k+2).a (eG f k).a (eG f<|k+1).a).1,0⟩ a' aj v c)<|ag<|bq<|Er ?_;refine WE.ul O λy c=>?_;refine ⟨O,?_⟩;simp only [rq,z,P,dP,dq,dp];exact Wt 2 c
  refine bO<|bq<|Er ?_;refine WE.ul O λy c=>?_;refine ⟨O,?_⟩;simp only [rq,z,P,dP,dq,dp];exact Wd 1 c
 refine bO<|Cb<|ai<|ad O<|ad O ?_;refine Lb Y O fY O O O O λU=>?_;refine Lp Y O bf O (λw c=>zC (hv w) n code.length _ _ _ m o 1 f mk [12] k w (b9 w) q v (c.i_ 2 O O) (c.i_ 2 O O) (zy c 3 O aj u) (s.mono λ_ _ _ h=>(n5<|c.vs l aG).cell h) r (zz c 0 O a' a' (by intro j x g;match j,g with| 0,g=>cases g;rfl)) a' t)<|ad O ?_;apply La 2 O O O O Y O O O O O;·intro V;refine Vg (Ym O)<|Vg (bN O O) ?_;exact Gt 2 O O O
 refine ar O<|ag ?_;refine Cc O (λD=>?_)<|λD=>?_;·have S:=(bool_split D).1;have L:=zB S (i:=0) a';have N:f[k+1]? = aa (eG f<|k+1):=sB aj;refine Cr<|ad O<|ad O<|ad O<|V0 (bP O)<|V0 (Yf pT O)<|V0 (Yd 2 O O O ah)<|ad O ?_;refine V0 (Yi O O O aj)<|V0 (pz hr O O aj)<|V0 (Yf kg O)<|V0 (yL 3 O O ah<|BF N)<|V0 (Yb h1 iI O O)<|Lf 3 O<|Lf 3 O<|tf [_,_] _ [_,_] Y O bf O O [H,l] aG (λw c=>zD n p A B C m o data H l code f mk k w G q r s t J u 2 ⟨11,(eG f<|k+1).a,0⟩ a' aj v c) ?_;refine Ln<|Eb ?_;refine E0 O λy c=>?_;refine ⟨O,?_⟩;simp only [rq,z,D,dP,dq,dp];exact Wt 2 c
 refine ai<|ad O<|ad O ?_;refine Lb Y O fY O O O O λW=>?_;refine Lp Y O bf O (λw c=>zC (hv w) n code.length _ _ _ m o 1 f mk [9] k w (b9 w) q v (c.i_ 3 O O) (c.i_ 3 O O) (zy c 4 O aj u) (s.mono λ_ _ _ h=>(n5<|c.vs l aG).cell h) r (zz c 0 O a' a' (by intro j x g;match j,g with| 0,g=>cases g;rfl)) a' t)<|ar O<|ag ?_;refine Cc O (λF=>?_)<|λF=>?_;·have L:=zB F (i:=0) a';refine Cr<|ad O<|ad O<|ad O<|ad O<|V0 (bN O O)<|Lp Y O bf O (λw c=>N' _ w) ?_;refine WL.ur Y O bf O O (λw c=>Iw _ _) ?_;refine Lf 4 O<|Lf 4 O<|tf [_,_] _ [_,_] Y O bf O O [H,l] aG (λw c=>zD n p A B C m o data H l code f mk k w G q r s t J u 2 ⟨1,nh<|(eG f k).a==0,0⟩ a' aj v c)<|Ln<|Eb ?_;refine E0 O λy c=>?_;refine ⟨O,?_⟩;simp only [rq,z,D,F,dP,dq,dp];exact Wt 2 c
 refine ai<|ad O<|ad O ?_;refine Lb Y O fY O O O O λX=>?_;refine Lp Y O bf O (λw c=>zC (hv w) n code.length _ _ _ m o 1 f mk [22] k w (b9 w) q v (c.i_ 4 O O) (c.i_ 4 O O) (zy c 5 O aj u) (s.mono λ_ _ _ h=>(n5<|c.vs l aG).cell h) r (zz c 0 O a' a' (by intro j x g;match j,g with| 0,g=>cases g;rfl)) a' t)<|ar O<|ag ?_;refine Cc O (λK=>?_)<|λK=>?_;·have L:=zB K (i:=0) a';refine Cr<|ad O<|ad O<|ad O<|ad O<|V0 (g2 O O)<|Lp Y O bf O (λw c=>N' _ w) ?_;refine WL.ur Y O bf O O (λw c=>Iw _ _) ?_;refine Lf 5 O<|Lf 5 O<|tf [_,_] _ [_,_] Y O bf O O [H,l] aG (λw c=>zD n p A B C m o data H l code f mk k w G q r s t J u 2 ⟨1,nh<|(eG f k).a != 0,0⟩ a' aj v c)<|Ln<|Eb ?_;refine E0 O λy c=>?_;refine ⟨O,?_⟩;simp only [rq,z,D,F,K,dP,dq,dp];exact Wt 2 c
 refine Cs<|ai<|ad O<|ad O ?_;refine Lb Y O fY O O O O λae=>?_;refine Lp Y O bf O (λw c=>zC (hv w) n code.length _ _ _ m o 1 f mk [12] k w (b9 w) q v (c.i_ 5 O O) (c.i_ 5 O O) (zy c 6 O aj u) (s.mono λ_ _ _ h=>(n5<|c.vs l aG).cell h) r (zz c 0 O a' a' (by intro j x g;match j,g with| 0,g=>cases g;rfl)) a' t)<|ar O<|ag ?_;refine Cc O (λM=>?_)<|λM=>?_
 ·refine bO ?_;refine Cc O (λE=>?_)<|λE=>?_
  ·have L:=zB E (i:=0) a';refine Cr<|ad O<|ad O<|V0 (Yb h1 iI O O)<|Lf 6 O<|Lf 6 O<|tf [_,_] _ [_,_] Y O bf O O [H,l] aG (λw c=>zD n p A B C m o data H l code f mk k w G q r s t J u 2 ⟨21,0,0⟩ a' aj v c)<|Ln<|Eb ?_;refine E0 O λy c=>?_;have e:(mT mk f k [12]||mT mk f k [17])=ac:=by simp [M]
   refine ⟨O,?_⟩;simp only [rq,z,D,F,K,e,dP,dq,dp];exact Wt 2 c
  refine Ck<|Eb ?_;refine E0 O λy c=>?_;simp [M] at E
 refine Cr<|ad O<|ad O ?_;refine Lb Y O fY O O O O λaf=>?_;refine Lp Y O bf O (λw c=>zC (hv w) n code.length _ _ _ m o 1 f mk [17] k w (b9 w) q v (c.i_ 6 O O) (c.i_ 6 O O) (zy c 7 O aj u) (s.mono λ_ _ _ h=>(n5<|c.vs l aG).cell h) r (zz c 0 O a' a' (by intro j x g;match j,g with| 0,g=>cases g;rfl)) a' t)<|ar O<|ag ?_;refine Cc O (λE=>?_)<|λE=>?_
 ·have L:=zB E (i:=0) a';refine Cr<|ad O<|ad O<|V0 (Yb h1 iI O O)<|Lf 7 O<|Lf 7 O<|tf [_,_] _ [_,_] Y O bf O O [H,l] aG (λw c=>zD n p A B C m o data H l code f mk k w G q r s t J u 2 ⟨21,0,0⟩ a' aj v c)<|Ln<|Eb ?_;refine E0 O λy c=>?_;have e:(mT mk f k [12]||mT mk f k [17])=ac:=by simp [E]
  refine ⟨O,?_⟩;simp only [rq,z,D,F,K,e,dP,dq,dp];exact Wt 2 c
 refine Ck<|Eb ?_;refine E0 O λy c=>?_;have e:(mT mk f k [12]||mT mk f k [17])=au:=by simp [M,E]
 refine ⟨O,?_⟩;simp only [rq,z,D,F,K,e,dP,dq,dp];exact Wd 6 c
def WP (H:View) (a:az a0) (c:Z) (code:I cS) (data:ab) (w:aL) (F:Le H w) (l:Sl pQ 3 H a c code) : cr aB 19 #[bU #[aC a code.length c,an am data]] w λe y=>∃r:az a0×Z,e = ax (cN #[bU #[aC r.1 (uW code data).1.length r.2,an am (uW code data).2.1],an am (uW code data).2.2])/\Ext w y/\Sl pQ 3 (nv w y) r.1 r.2 (uW code data).1:=by
 have P:=l.cap;have Q:=l.max;refine enter func19 O 59 O O ?_;refine CE (Vs:=[H]) (Ws.init (by simp [F]))<|ai ?_;refine WL.box Y O O λG=>?_;refine Al Y O qE λJ=>?_;refine ar O<|ag<|ai<|V0 (dv 1 O O ow O) ?_;refine Ld Y O bf O (λr:az a0×Z=>cN #[aC r.1 (ox code data).1.length r.2,an am (ox code data).2]) (λH r=>Sl rdBool 1 H r.1 r.2 (ox code data).1) (λw f=>WA H a c code data w (f.vs _ (by simp)) l) ?_;intro k j R s;refine ad O<|V0 (Yx O O)<|V0 (Yx O O)<|ar O<|ar O<|ag<|Cs<|ai<|ad O<|V0 (g2 O O) ?_;refine ag ?_;refine Cc O (λB=>?_)<|λB=>?_
 ·have p:¬kA code data=0:=λh=>by simp [ox,h] at B
  have z:ox code data=([],kA code data):=by simp [ox,p]
  have C:uW code data=([],0,kA code data):=by simp [uW,p]
  rw [z];refine ai<|V0 (Yb qE wa O O)<|ad O<|aq 0 Y O O O rr O O O<|ar O<|ag<|bq<|Er ?_;refine WE.td 0 O O O O ow O λy f=>?_;rw [C];exact ⟨(ak,0),O,f.fr,Sl.nil⟩
 have p:kA code data=0:=by
  by_cases h:kA code data=0;·exact h
  ·simp [ox,h] at B
 have z:ox code data=(marks code,0):=by simp [ox,p]
 have C:uW code data=(Ix code,data,0):=by simp [uW,p]
 obtain ⟨S,E⟩:=N9 p;have t:(marks code).length=code.length:=tG _ _ _;rw [z] at s;rw [z];simp only [t];refine bO<|Cs ?_;refine WC.n6 [(0,ac),(1,ac),(2,ac),(4,ac),(3,au),(5,ac),(6,au),(7,ac)] mixed (by kernel_rfl) (λ_ _ _ d _ h=>by cases d<;>exact h) ?_;refine D0 O (λ_ h=>h) (dv 1 O O ow O)<|D0 O (λ_ h=>h) (Yf cH O)<|D0 O (λ_ h=>h) (Yd 1 O O O ah)<|D0 O (λ_ h=>h) (Ym O) ?_;refine De O (λ_ h=>h) ?_;refine WL.Ty Y O bf O (λw f=>afh H a c code w (f.vs H (by simp)) l (by omega) (by omega)) ?_;intro K L;obtain ⟨n,m,rfl,A,q⟩:∃b c,K = aC (aa ⟨b,0,ak⟩) code.length c/\code.length<=c/\c<=maxLen:=by
  rcases L with ⟨_,h⟩ | h;·omega
  ·exact h
 have q:m<=9223372036854775807:=by unfold maxLen at q;omega
 refine Ln<|Ed<|D0 O (λ_ h=>(Wd 1 h:)) (Yb WO WN O O) ?_;refine De O (λ_ h=>(Wd 1 h:)) ?_;refine WL.box Y O O λu=>?_;refine Ln<|Ed<|D0 O (λ_ h=>(Wd 2 h:)) (Ya O) ?_;refine WD.nil (λ_ h=>(Wd 2 h:)) ?_;refine Et<|Cs<|ai<|ad O<|V0 (bP O)<|V0 (Yf pT O)<|V0 (Yd 0 O O O ah)<|V0 (Yn hr O)<|ad O<|ag<|Cb ?_;refine Lq (ι:=Z) (λi=>[(29,an am (i:ab))]) [(1,_),(2,_),(3,_),(6,_),(28,_)] (λi=>Ws w [] [aJ u<|aM (aT.agg #[aC a code.length c,an am data,aC (aa ⟨n,0,ak⟩) code.length m,aC j.1 code.length j.2]).cells 157 (0,0),eK 62 3 (aC (aa ⟨n,0,ak⟩) code.length m) code.length<|(mU (marks code) code i).flatMap cS.cells,aJ J<|aM (aT.agg #[aC ak 0 0,an am 0]).cells 57 (0,0),aJ G<|aM (aT.agg #[aC a code.length c,an am data]).cells 57 (0,0)] [k,H]) (λi=>i<=code.length) (λi=>code.length-i) 0 (de _) (sc O<|sc O<|sc O<|sc O<|sc O<|sc O sn) (λ_ h=>h) ?_;intro i hi;refine ai<|V0 (cP O O)<|ag<|Cs ?_;refine Cc O (λD=>?_)<|λD=>?_
 ·have v:i<code.length:=by simpa using D
  have M:(mU (marks code) code i)[i]? = aa (eG (mU (marks code) code i) i):=sB (by rw [v_];exact v);refine bO<|Cs<|Cb<|ai<|ad O<|ar O<|ag<|ai<|ad O<|V0 (bP O)<|V0 (Yf pT O)<|V0 (Yd 0 O O O ah) ?_;refine ad O<|V0 (pz hr O O (by omega))<|V0 (Yf rk O)<|V0 (yL 1 O O ah<|afi M)<|ag<|Cb<|Cs<|ai<|V0 (bN O O)<|ar O<|ag ?_;refine Cc O (λo=>?_)<|λo=>?_
  ·refine bO ?_;refine Cc O (λg=>?_)<|λg=>?_;·refine Cr<|ad O<|ad O<|tf [_,_] _ [_,_] Y O bf O O [H,k] (by simp) (λw f=>Of u n a j.1 c m j.2 data H k code (mU (marks code) code i) (marks code) i w l (v_ _ _ _) t s v A q f)<|Ln<|Eb<|Eb<|Et<|Cr<|V0 (Yi O O O (by omega))<|ad O<|Ln ?_;exact Ea (i+1) (by omega) (by omega) (sc O<|sc O<|sc O<|sc O<|sc O<|sc O sn) (λ_ h=>by have e:mU (marks code) code (i+1)=sD (marks code) code (mU (marks code) code i) i:=rfl;rw [e];simp only [sD,o,g,C6,Az,C7,yu,C8,dP,dp,dq];exact h)
   refine ai<|V0 (bN O O)<|ar O<|ag ?_;refine Cc O (λx=>?_)<|λx=>?_;·refine Cr<|ad O<|ad O<|tf [_,_] _ [_,_] Y O bf O O [H,k] (by simp) (λw f=>Og u n a j.1 c m j.2 data H k code (mU (marks code) code i) (marks code) i w l (v_ _ _ _) t s v A q E f)<|Ln<|Eb<|Eb<|Et<|Cr<|V0 (Yi O O O (by omega))<|ad O<|Ln ?_;exact Ea (i+1) (by omega) (by omega) (sc O<|sc O<|sc O<|sc O<|sc O<|sc O sn) (by rw [o] at g;cases g)
   refine Ck<|Eb<|Eb<|Et<|Cr<|V0 (Yi O O O (by omega))<|ad O<|Ln ?_;exact Ea (i+1) (by omega) (by omega) (sc O<|sc O<|sc O<|sc O<|sc O<|sc O sn) (by rw [o] at g;cases g)
  refine Cr<|V0 (bN O O)<|ar O<|ag ?_;refine Cc O (λg=>?_)<|λg=>?_;·refine Cr<|ad O<|ad O<|tf [_,_] _ [_,_] Y O bf O O [H,k] (by simp) (λw f=>Of u n a j.1 c m j.2 data H k code (mU (marks code) code i) (marks code) i w l (v_ _ _ _) t s v A q f)<|Ln<|Eb<|Eb<|Et<|Cr<|V0 (Yi O O O (by omega))<|ad O<|Ln ?_;exact Ea (i+1) (by omega) (by omega) (sc O<|sc O<|sc O<|sc O<|sc O<|sc O sn) (λ_ h=>by have e:mU (marks code) code (i+1)=sD (marks code) code (mU (marks code) code i) i:=rfl;rw [e];simp only [sD,o,g,C6,Az,C7,yu,C8,dP,dp,dq];exact h)
  refine ai<|V0 (bN O O)<|ar O<|ag ?_;refine Cc O (λx=>?_)<|λx=>?_;·refine Cr<|ad O<|ad O<|tf [_,_] _ [_,_] Y O bf O O [H,k] (by simp) (λw f=>Og u n a j.1 c m j.2 data H k code (mU (marks code) code i) (marks code) i w l (v_ _ _ _) t s v A q E f)<|Ln<|Eb<|Eb<|Et<|Cr<|V0 (Yi O O O (by omega))<|ad O<|Ln ?_;exact Ea (i+1) (by omega) (by omega) (sc O<|sc O<|sc O<|sc O<|sc O<|sc O sn) (λ_ h=>by have e:mU (marks code) code (i+1)=sD (marks code) code (mU (marks code) code i) i:=rfl;rw [e];simp only [sD,o,g,x,C6,Az,C7,yu,C8,dP,dp,dq];exact h)
  refine Ck<|Eb<|Eb<|Et<|Cr<|V0 (Yi O O O (by omega))<|ad O<|Ln ?_;exact Ea (i+1) (by omega) (by omega) (sc O<|sc O<|sc O<|sc O<|sc O<|sc O sn) (λ_ h=>by have e:mU (marks code) code (i+1)=sD (marks code) code (mU (marks code) code i) i:=rfl;rw [e];simp only [sD,o,g,x,C6,Az,C7,yu,C8,dP,dp,dq];exact h)
 have N:i=code.length:=by simp at D;omega
 subst N;refine Ce<|Ex<|Ex<|dy<|Et<|Cs ?_;refine WC.m6 2 [(0,ac),(1,ac),(2,ac),(3,ac),(4,ac),(5,ac),(6,ac),(7,au),(8,au)] mixed (by kernel_rfl) (λ_ _ _ d _ h=>by cases d<;>exact h) ?_;refine D0 O (Wp 2) (Ym O)<|D0 O (Wp 2) (bP O)<|D0 O (Wp 2) (Yf pT O)<|D0 O (Wp 2) (Yd 0 O O O ah)<|D0 O (Wp 2) (Yf Bp O)<|D0 O (Wp 2) (Yd 2 O O O ah)<|D0 O (Wp 2) (Yb qE wa O O) ?_;refine De O (Wp 2) ?_;refine aq 2 Y O O O rr O O O<|Ln<|Ed ?_;refine De O (Wp 2) ?_;refine ar O<|Ln<|Ed ?_;refine WD.nil (Wp 2) ?_;refine Et<|bq ?_;refine WE.td 2 O O O O ow O λy f=>?_;rw [C];exact ⟨(aa ⟨n,0,ak⟩,m),by simp [Ix,v_];rfl,f.fr,WF f 1 O<|v_ _ _ _⟩
end Go.Proofs.YtgeahfjicmlocaaGreatDoor.Mch
end
section
namespace Go.Proofs.YtgeahfjicmlocaaGreatDoor.Mch
open Go.Bw Go.Proofs.Tryz
def BG:eP aB 55=aa 1:=ah
end Go.Proofs.YtgeahfjicmlocaaGreatDoor.Mch
end
section
namespace Go.Bw
open Go
structure zE where
 w:Wm
 fin:ab
 i:az a0×Z
 o:az a0×Z
def l2 {α:Type} (r:Rz Wm α) (v:α) (t:zE):Prop:=(t.fin=0/\r = .ok v t.w)\/(t.fin≠0/\∃c,r = .ov t.fin { t.w with calls:=c })
def WQ {α:Type} (s:zE) (r:Rz Wm α) (v:α) (t:zE):Prop:=(s.fin≠0/\t=s)\/(s.fin=0/\l2 r v t)
variable {bW:Type} {jv:Rz Wm bW} {hg:bW} {l3:zE}
def l2.ok (a:l3.fin=0) (h:jv = .ok hg l3.w):l2 jv hg l3:=bA ⟨a,h⟩
def l2.ov {α:Type} {r:Rz Wm α} {v:α}  {c:Z} (a:l3.fin≠0) (h:r = .ov l3.fin { l3.w with calls:=c }):l2 r v l3:=bl ⟨a,c,h⟩
def l2.get (h:l2 jv hg l3) (a:l3.fin=0):jv = .ok hg l3.w:=by
 rcases h with ⟨_,h⟩ | ⟨h,_⟩;·exact h
 ·exact absurd a h
variable {ju:Type}
def l2.out (h:l2 jv hg l3) (a:l3.fin≠0) (f:bW->Wm->Rz Wm ju) (b:ju):l2 (jv.bind f) b l3:=by
 rcases h with ⟨h,_⟩ | ⟨_,c,h⟩;·exact absurd h a
 ·exact bl ⟨a,c,jM h⟩
def l2.same {v b:bW}  (h:l2 jv v l3) (a:l3.fin≠0):l2 jv b l3:=by
 rcases h with ⟨h,_⟩ | ⟨_,h⟩;·exact absurd h a
 ·exact bl ⟨a,h⟩
def l2.then {t c:zE} {f:bW->Wm->Rz Wm ju} {b:ju} (h:l2 jv hg t) (k:WQ t (f hg t.w) b c):l2 (jv.bind f) b c:=by
 rcases k with ⟨a,rfl⟩ | ⟨a,d⟩;·exact h.out a f b
 ·rw [gO<|h.get a];exact d
def l2.map {r:Rz Wm bW} {v:bW}  (f:bW->ju) (h:l2 r v l3):l2 (r.bind λv w=>.ok (f v) w) (f v) l3:=by
 rcases h with ⟨a,h⟩ | ⟨a,c,h⟩;·exact bA ⟨a,gO h⟩
 ·exact bl ⟨a,c,jM h⟩
def WR (r:Rz Fm aQ) (d:aQ) (loc:I ab) (v:ab) (t:zE):Prop:=(t.fin=0/\r = .ok d ⟨loc,v,t.w⟩)\/(t.fin≠0/\∃c,r = .ov t.fin { t.w with calls:=c })
def l2.fr {loc:I ab} {v:ab} {w:Wm} {f:bW->Fm->Rz Fm aQ} {d:aQ} {b:I ab} {e:ab} (h:l2 jv hg l3) (a:l3.fin≠0):WR ((Rz.fr ⟨loc,v,w⟩ jv).bind f) d b e l3:=by
 rcases h with ⟨h,_⟩ | ⟨_,c,h⟩;·exact absurd h a
 ·exact bl ⟨a,c,jM<|sv h⟩
end Go.Bw
end
section
namespace Go.Bw
open Go
structure tH (ks Oh:I e8):Prop where
 d:∀m pl n,k6 ks m pl n=ac->k6 Oh m pl n=ac
 p:∀m pl n,mL ks m pl n=ac->mL Oh m pl n=ac
variable {dM nk:I e8} {aP cp hZ mQ mq:ab} {ae:Z}
def afm (h:tH dM nk)   (c:node1 dM aP cp hZ mQ mq ae=ac):node1 nk aP cp hZ mQ mq ae=ac:=by
 unfold node1 at c ⊢;by_cases e:cp=1;·rw [aU e] at c ⊢;exact c
 rw [ao e] at c ⊢;by_cases f:cp=3;·rw [aU f] at c ⊢;obtain ⟨a,b⟩:=gj.1 c;exact gj.2 ⟨a,h.d _ _ _ b⟩
 rw [ao f] at c ⊢;by_cases g:cp=4;·rw [aU g] at c ⊢;obtain ⟨a,b⟩:=gj.1 c;exact gj.2 ⟨a,h.d _ _ _ b⟩
 rw [ao g] at c ⊢;by_cases i:cp=5;·rw [aU i] at c ⊢;obtain ⟨a,b⟩:=gj.1 c;exact gj.2 ⟨a,h.p _ _ _ b⟩
 rw [ao i] at c ⊢;exact c
def afn (h:tH dM nk)  {na e f:Z} (c:h7 dM aP cp hZ mQ mq na e f=ac):h7 nk aP cp hZ mQ mq na e f=ac:=by
 unfold h7 at c ⊢;by_cases g:cp=1;·rw [aU g] at c ⊢;obtain ⟨a,b⟩:=gj.1 c;exact gj.2 ⟨a,Gp.2<|(Gp.1 b).imp id<|h.d _ _ _⟩
 rw [ao g] at c ⊢;by_cases i:cp=2;·rw [aU i] at c ⊢;obtain ⟨a,b⟩:=gj.1 c;exact gj.2 ⟨a,h.d _ _ _ b⟩
 rw [ao i] at c ⊢;by_cases j:cp=3;·rw [aU j] at c ⊢;obtain ⟨a,b⟩:=gj.1 c;exact gj.2 ⟨a,h.p _ _ _ b⟩
 rw [ao j] at c ⊢;exact c
mutual
def afo (h:tH dM nk) (a6:ab):∀(x:e3) (d:Z),lV dM a6 x d=ac->lV nk a6 x d=ac| .mk op n m pl args,d,a=>by rw [lV] at a ⊢;simp only [eW] at a ⊢;exact ⟨a.1,afm h a.2.1,Iy h a6 args (d+1) a.2.2⟩
def Iy (h:tH dM nk) (a6:ab):∀(l:I e3) (d:Z),iT dM a6 l d=ac->iT nk a6 l d=ac| [],d,_=>by rw [iT]| x::r,d,a=>by rw [iT] at a ⊢;simp only [eW] at a ⊢;exact ⟨afo h a6 x d a.1,Iy h a6 r d a.2⟩
end
mutual
def afp (h:tH dM nk) (a6:ab):∀(x:ep) (d:Z),mm dM a6 x d=ac->mm nk a6 x d=ac| .mk op n m pl args body other,d,b=>by rw [mm] at b ⊢;simp only [eW,s0] at b ⊢;exact ⟨afn h b.1,Iy h a6 args 1 b.2.1,b.2.2.1.imp id λa=>⟨a.1,a.2.1,EJ h a6 body (d+1) a.2.2⟩,b.2.2.2.imp id λa=>⟨a.1,a.2.1,EJ h a6 other (d+1) a.2.2⟩⟩
def EJ (h:tH dM nk) (a6:ab):∀(l:I ep) (d:Z),je dM a6 l d=ac->je nk a6 l d=ac| [],d,_=>by rw [je]| x::r,d,a=>by rw [je] at a ⊢;simp only [eW] at a ⊢;exact ⟨afp h a6 x d a.1,EJ h a6 r d a.2⟩
end
def Oi (h:tH dM nk)  {l:I ep}  (a:h8 dM aP l ae=ac):h8 nk aP l ae=ac:=by unfold h8 at a ⊢;simp only [eW] at a ⊢;exact ⟨a.1,a.2.1,EJ h aP l ae a.2.2⟩
def WW (h:tH dM nk) {p:bT} (a:mM dM p=ac):mM nk p=ac:=by unfold mM at a ⊢;simp only [eW] at a ⊢;exact ⟨a.1,Oi h a.2⟩
variable {dS:cD}
def Oj (h:tH (ey dS::dM)<|ey dS::nk) (a:j1 dS dM=ac):j1 dS nk=ac:=by unfold j1 at a ⊢;simp only [eW,gw] at a ⊢;exact ⟨a.1,a.2.1,λp b=>WW h<|a.2.2.1 p b,Oi h a.2.2.2⟩
def w7 (k:e8):Prop:=k.q6=ac->k.data<=512/\k.parts.length<=6/\∀x ∈ k.parts,x<=3
def Ok {b:e8}  (h:∀k ∈ dM,w7 k):tH (b::dM)<|b::gI dM.length ol:=by
 have q:(b::gI dM.length ol).length=(b::dM).length:=aG;constructor
 ·intro m pl n a;have hC:om (b::dM) m pl=au:=by cases f:om (b::dM) m pl with| false=>rfl| true=>rw [tw n f] at a;cases a
  have d:om (b::gI dM.length ol) m pl=au:=by unfold om at hC ⊢;rw [q];exact hC
  obtain ⟨⟨g,rfl,i⟩,_,_⟩:=uk hC;obtain ⟨k,c⟩:=dO i;rw [vO hC c] at a;cases g with
  | zero=>
   have e:b=k:=by simpa using c
   subst e;rw [vO d (k:=b) rfl];exact a
  | succ j=>
   rw [lM] at c;have l:j<dM.length:=(c_.1 c).1;rw [vO d (k:=ol) (by rw [lM,Gq,aU l]),ao a'];have o:=h k<|dJ c;split at a;·rename_i hi;have:=(o hi).1;have a:=uj a;rw [kL (show pl+n<=512 by omega)];simp
   ·exact a
 ·intro m pl n a;have hC:o6 (b::dM) m pl=au:=by cases f:o6 (b::dM) m pl with| false=>rfl| true=>rw [HE n f] at a;cases a
  have d:o6 (b::gI dM.length ol) m pl=au:=by unfold o6 at hC ⊢;rw [q];exact hC
  obtain ⟨⟨g,rfl,i⟩,p,rfl⟩:=HF hC;obtain ⟨k,c⟩:=dO i;rw [vP hC c] at a;cases g with
  | zero=>
   have e:b=k:=by simpa using c
   subst e;rw [vP d (k:=b) rfl];exact a
  | succ j=>
   rw [lM] at c;have l:j<dM.length:=(c_.1 c).1;rw [vP d (k:=ol) (by rw [lM,Gq,aU l]),ao a'];have o:=h k<|dJ c;split at a;·rename_i hi;obtain ⟨_,t,r⟩:=o hi;simp only [eW,mb,j8,m4] at a;have s:p<k.parts.length:=aj;have r:=r _<|CX s;rw [dh s] at a;have e:=a.2;simp at e;simp only [eW,mb];omega
   ·exact a
def Iz (h:j1 dS dM=ac):w7<|ey dS:=by intro _;obtain ⟨b,e,a,f⟩:=Ej h;unfold pM at a;simp only [lN,ny] at a;refine ⟨by show dS.data<=512;omega,by show (dS.parts.map (·.params)).length<=6;rw [fK];omega,λx c=>?_⟩;obtain ⟨p,d,rfl⟩:=py.1 c;exact (H4<|b p d).2.1
variable {ck:I cD}
def WX (b:sm ck) (u:cD):∀k ∈ gB ck u,w7 k:=by
 intro k a;unfold gB at a;obtain ⟨s,_,rfl⟩:=py.1 a;split;·rename_i i hi;cases c:ck[i]? with| none=>intro h;cases h| some d=>exact Iz<|b.hJ d<|dJ c
 ·intro h;cases h
def WY (h:lW ck=0)  (b:dS ∈ ck):sq dS=ac:=by
 have a:=H2.1 h;have c:=a.hJ dS b;have e:(gB ck dS).length=dS.aI.length:=by simp [gB]
 unfold sq;rw [<-e];exact Oj (Ok<|WX a dS) c
end Go.Bw
end
section
namespace Go.Bw
open Go
def EL (i:c'):Prop:=1<=i.op/\i.op<=22
def WZ (U:Z) (d:ab->ab->Prop) (b:I Z) (lo:Z) (c:I c') (f:hT):Prop:= ∃(p:Z) (i:c'),f.at_=(p:ab)/\c[p]? = aa i/\lo<=p/\ ((f.kind=1/\f.m=0/\(p ∈ b\/((lo:ab)<=i.a/\i.a<=(c.length:ab))))\/((f.kind=2\/f.kind=3)/\p ∉ b/\0<=f.m/\f.m<=(U:ab)/\0<=i.a/\i.a<=2048/\(f.kind=2->d f.m i.a)))
structure Ap (U:Z) (Pk:ab->ab->Prop) (pd:I Z) (g g':Gs):Prop where
 Om:∀p ∈ pd,g.code.length<=p/\p<g'.code.length
 more:∃c fx,g'.code=g.code++c/\g'.fix=g.fix++fx/\(∀i ∈ c,EL i)/\(∀f ∈ fx,WZ U Pk pd g.code.length g'.code f)/\fx.Pairwise λa b=>a.at_<b.at_
def Ap.refl (U:Z) (a:ab->ab->Prop) (g:Gs):Ap U a [] g g:=⟨aG,[],[],aG,aG,aG,aG,.nil⟩
variable {ae:Z} {EM:ab->ab->Prop}
def Ap.lo {b:I Z} {g a:Gs} (h:Ap ae EM b g a):g.code.length<=a.code.length:=by obtain ⟨c,fx,d,_⟩:=h.more;rw [d];simp
def Ap.trans {pa s:I Z} {g r t:Gs} (h:Ap ae EM pa g r) (k:Ap ae EM s r t):Ap ae EM (pa++s) g t:=by
 have M:=h.lo;have N:=k.lo;have u:=h.Om;have v:=k.Om;obtain ⟨c,fx,A,B,C,w,D⟩:=h.more;obtain ⟨E,F,y,G,H,z,J⟩:=k.more;refine ⟨λp l=>?_,c++E,fx++F,by rw [y,A,ho],by rw [G,B,ho],?_,?_,?_⟩
 ·rcases bm.1 l with l | l;·have:=u p l;omega
  ·have:=v p l;omega
 ·intro i hi;rcases bm.1 hi with hi | hi;·exact C i hi
  ·exact H i hi
 ·intro f o;rcases bm.1 o with o | o
  ·obtain ⟨p,i,a1,a2,a3,a4⟩:=w f o;have l:p<r.code.length:=(c_.1 a2).1;refine ⟨p,i,a1,by rw [y,Aw l];exact a2,a3,?_⟩;rcases a4 with ⟨e,m,n⟩ | ⟨e,m,n⟩;·exact bA ⟨e,m,n.imp (λx=>Gn _ x) λx=>⟨x.1,aj⟩⟩
   ·refine bl ⟨e,λd=>?_,n⟩;rcases bm.1 d with d | d;·exact m d
    ·have:=(v p d).1;omega
  ·obtain ⟨p,i,a1,a2,a3,a4⟩:=z f o;refine ⟨p,i,a1,a2,aj,?_⟩;rcases a4 with ⟨e,m,n⟩ | ⟨e,m,n⟩;·exact bA ⟨e,m,n.imp (λx=>cG _ x) λx=>⟨aj,x.2⟩⟩
   ·refine bl ⟨e,λd=>?_,n⟩;rcases bm.1 d with d | d;·have:=(u p d).2;omega
    ·exact m d
 ·refine K5.2 ⟨D,J,λa K b L=>?_⟩;obtain ⟨p,i,a1,a2,a3,_⟩:=w a K;obtain ⟨q,j,e,m,n,_⟩:=z b L;have l:p<r.code.length:=(c_.1 a2).1;rw [a1,e];omega
end Go.Bw
end
section
namespace Go.Bw
open Go
structure afY (U:Z) (Pk:ab->ab->Prop) (ks:I e8):Prop where
 len:ks.length=U+1
 small:∀k ∈ ks,k.q6=ac->k.parts.length<=2048
 call:∀m a n,mL ks m a n=ac->Pk m a
structure W0 (g g':Gs) (S:I Z):Prop where
 at_:∀s ∈ S,g.code.length<=s/\s<g'.code.length
 stay:∃fx,g'.fix=g.fix++fx/\∀f ∈ fx,∀(p:Z) i,f.kind=1->f.at_=(p:ab)->g'.code[p]? = aa i->g.code.length<=p/\(g.code.length:ab)<=i.a/\∀s ∈ S,(p<s->i.a<(s:ab))/\(s<=p->(s:ab)<=i.a)
structure afZ (Pk:ab->ab->Prop) (u:cD) (o:sp):Prop where
 ap:Ap u.aI.length Pk [] ⟨[],[]⟩ o.g
 af':W0 ⟨[],[]⟩ o.g<|o.g5++[o.main]
 gu:o.g5.length=u.parts.length
end Go.Bw
end
section
namespace Go.Bw
open Go
structure d_ where
 nm:I a7
 aI:I<|I a7
 data:ab
 code:I c'
 fix:I hT
 g5:I ab
 main:ab
def cW (o:d_) (q:rc):I aT:=[st o.nm,aC q.s1.1 o.aI.length q.s1.2,an am o.data,aC q.s2.1 o.code.length q.s2.2,aC q.s3.1 o.fix.length q.s3.2,aC q.s4.1 o.g5.length q.s4.2,an am o.main]
structure lA (H:View) (q:rc) (o:d_):Prop where
 aI:Sl rdStr 1 H q.s1.1 q.s1.2 o.aI
 code:Sl kf 3 H q.s2.1 q.s2.2 o.code
 fix:Sl No 3 H q.s3.1 q.s3.2 o.fix
 g5:Sl hn 1 H q.s4.1 q.s4.2 o.g5
def sp.to (o:sp):d_:=⟨o.nm,o.aI,o.data,o.g.code,o.g.fix,o.g5.map λn:Z=>(n:ab),o.main⟩
def W1 (o:sp) (q:rc):cW o.to q=Ib o q:=by simp [cW,Ib,sp.to]
def W2 {H:View} {q:rc} {o:sp} (h:Ic H q o):lA H q o.to:=by
 refine ⟨h.aI,h.code,h.fix,⟨?_,h.g5.max,h.g5.spot,λi x a=>?_⟩⟩;·show (o.g5.map λn:Z=>(n:ab)).length<=_;rw [fK];exact h.g5.cap
 ·have a:(o.g5.map λn:Z=>(n:ab))[i]? = aa x:=a;rw [gh] at a;cases b:o.g5[i]? with| none=>rw [b] at a;cases a| some n=>rw [b] at a;injection a with a;subst a;exact h.g5.b7 i n b
def jw (n:Z) (at_:ab):aQ:=decide (0<=at_)&&decide (at_<(n:ab))
def ph (seen:I<|I a7):I (I a7)->aQ->aQ| [],f=>f| s::r,f=>ph (seen++[s]) r<|(f&&gm s)&&(((seen.count s:Z):ab)+1==1)
def qF:I c'->aQ->aQ| [],f=>f| x::r,f=>qF r<|(f&&decide (1<=x.op))&&decide (x.op<=22)
def sF (n:Z):I ab->aQ->aQ| [],f=>f| x::r,f=>sF n r<|f&&jw n x
def nJ (c:I c') (p:ab):ab:=((c[p.toNat]?).map (·.a)).getD 0
def mx (U n:Z) (kind m a:ab):aQ:= if kind=1 then ((decide (0<=a)&&decide (a<=2048))&&(m==0))&&decide (a<=(n:ab)) else if kind=2\/kind=3 then ((decide (0<=a)&&decide (a<=2048))&&decide (0<=m))&&decide (m<=(U:ab)) else au
def pU (U:Z) (c:I c'):I hT->ab->aQ->aQ| [],_,f=>f| x::r,last,f=>if ((f&&decide (last<x.at_))&&jw c.length x.at_)=au then au else pU U c r x.at_ (mx U c.length x.kind x.m<|nJ c x.at_)
def uY (o:d_):aQ:=(gm o.nm&&decide (0<=o.data))&&decide (o.data<=512)
def zF (o:d_):aQ:=pU o.aI.length o.code o.fix (-1)<|sF o.code.length o.g5<|qF o.code<|ph [o.nm] o.aI<|uY o
def iB (o:d_):aQ:=((decide (3<(o.aI.length:ab))||decide (6<(o.g5.length:ab)))||decide ((o.code.length:ab)<1))||decide (2048<(o.code.length:ab))
def kE (o:d_):ab:=if iB o=ac then 2 else if (!(zF o)||!(jw o.code.length o.main))=ac then 1 else 0
variable {ae:Z} {aP:ab}
def uZ (h:jw ae aP=ac):∃p:Z,aP=(p:ab)/\p<ae:=by unfold jw at h;simp only [eW,mb] at h;exact ⟨aP.toNat,aj,aj⟩
def W3 {seen us:I<|I a7}  {s:I a7} (h:us[ae]? = aa s) (f:aQ):ph (seen++us.take ae) (us.drop ae) f=ph (seen++us.take (ae+1)) (us.drop<|ae+1) ((f&&gm s)&&((((seen++us.take ae).count s:Z):ab)+1==1)):=by obtain ⟨a,b⟩:=c_.1 h;rw [nZ a,b,ph,hP,h,ho];rfl
def W4 {l:I c'}  {x:c'} (h:l[ae]? = aa x) (f:aQ):qF (l.drop ae) f=qF (l.drop<|ae+1) ((f&&decide (1<=x.op))&&decide (x.op<=22)):=by obtain ⟨a,b⟩:=c_.1 h;rw [nZ a,b,qF]
def W5 {l:I ab} {i:Z}  (h:l[i]? = aa aP) (f:aQ):sF ae (l.drop i) f=sF ae (l.drop<|i+1) (f&&jw ae aP):=by obtain ⟨a,b⟩:=c_.1 h;rw [nZ a,b,sF]
def W6 {U:Z} {c:I c'} {l:I hT}  {x:hT} (h:l[ae]? = aa x) (a:ab) (f:aQ):pU U c (l.drop ae) a f=if ((f&&decide (a<x.at_))&&jw c.length x.at_)=au then au else pU U c (l.drop<|ae+1) x.at_ (mx U c.length x.kind x.m<|nJ c x.at_):=by obtain ⟨b,d⟩:=c_.1 h;rw [nZ b,d,pU]
end Go.Bw
end
section
namespace Go.Bw
open Go
structure BH (o:d_):Prop where
 names:∀s ∈ o.nm::o.aI,gm s=ac
 nd:(o.nm::o.aI).Nodup
 data:0<=o.data/\o.data<=512
 main:jw o.code.length o.main=ac
 code:∀i ∈ o.code,EL i
 g5:∀e ∈ o.g5,jw o.code.length e=ac
 fix:∀f ∈ o.fix,jw o.code.length f.at_=ac/\mx o.aI.length o.code.length f.kind f.m (nJ o.code f.at_)=ac
 up:o.fix.Pairwise λa b=>a.at_<b.at_
def On:∀(us seen:I<|I a7) (f:aQ),ph seen us f=ac↔f=ac/\(∀s ∈ us,gm s=ac)/\us.Nodup/\∀s ∈ us,s ∉ seen
 | [],seen,f=>by simp [ph]
 | s::r,seen,f=>by
  rw [ph,On r];have j:((((seen.count s:Z):ab)+1==1)=ac)↔s ∉ seen:=by rw [j8,<-I.count_eq_zero];omega
  rw [eW,eW,j];have k:∀t,(t ∈ seen++[s])↔(t ∈ seen\/t=s):=λt=>by simp
  simp only [k,eZ,yw,Dc];constructor;·rintro ⟨⟨⟨d,e⟩,g⟩,h,i,b⟩;exact ⟨d,⟨e,h⟩,⟨λl=>b s l<|bl O,i⟩,g,λt c a=>b t c<|bA a⟩
  ·rintro ⟨d,⟨e,h⟩,⟨m,i⟩,g,b⟩;refine ⟨⟨⟨d,e⟩,g⟩,h,i,λt c a=>?_⟩;rcases a with a | a;·exact b t c a
   ·subst a;exact m c
def Oo:∀(l:I c') (f:aQ),qF l f=ac↔f=ac/\∀i ∈ l,EL i
 | [],f=>by simp [qF]
 | x::r,f=>by
  rw [qF,Oo r];simp only [eW,mb,eZ,Dc,EL];constructor;·rintro ⟨⟨⟨a,b⟩,c⟩,d⟩;exact ⟨a,⟨b,c⟩,d⟩
  ·rintro ⟨a,⟨b,c⟩,d⟩;exact ⟨⟨⟨a,b⟩,c⟩,d⟩
def Oq (n:Z):∀(l:I ab) (f:aQ),sF n l f=ac↔f=ac/\∀e ∈ l,jw n e=ac
 | [],f=>by simp [sF]
 | x::r,f=>by
  rw [sF,Oq n r];simp only [eW,eZ,Dc];constructor;·rintro ⟨⟨a,b⟩,c⟩;exact ⟨a,b,c⟩
  ·rintro ⟨a,b,c⟩;exact ⟨⟨a,b⟩,c⟩
def Ot (U:Z) (c:I c'):∀(l:I hT) (d:ab) (f:aQ),pU U c l d f=ac↔f=ac/\(∀x ∈ l,d<x.at_/\jw c.length x.at_=ac/\mx U c.length x.kind x.m (nJ c x.at_)=ac)/\l.Pairwise λa b=>a.at_<b.at_
 | [],d,f=>by simp [pU]
 | x::r,d,f=>by
  rw [pU];have q:((f&&decide (d<x.at_))&&jw c.length x.at_)=ac↔f=ac/\d<x.at_/\jw c.length x.at_=ac:=by simp only [eW,mb,and_assoc]
  cases j:((f&&decide (d<x.at_))&&jw c.length x.at_) with
  | false=>rw [aU rfl];refine ⟨λh=>(by cases h),λ⟨k,n,_⟩=>?_⟩;have i:=n x aG;rw [q.2 ⟨k,i.1,i.2.1⟩] at j;cases j
  | true=>
   rw [ao a',Ot U c r];obtain ⟨k,n,i⟩:=q.1 j;simp only [eZ,Dc,K6];constructor;·rintro ⟨o,g,p⟩;exact ⟨k,⟨⟨n,i,o⟩,λy e=>⟨by have:=(g y e).1;omega,(g y e).2⟩⟩,λy e=>(g y e).1,p⟩
   ·rintro ⟨_,⟨⟨_,_,o⟩,g⟩,p,s⟩;exact ⟨o,λy e=>⟨p y e,(g y e).2⟩,s⟩
def W7 (o:d_):(zF o=ac/\jw o.code.length o.main=ac)↔BH o:=by
 unfold zF;rw [Ot,Oq,Oo,On];unfold uY;simp only [eW,mb];constructor
 ·rintro ⟨⟨⟨⟨⟨⟨⟨e,g⟩,i⟩,j,k,l⟩,m⟩,n⟩,q,r⟩,t⟩;refine ⟨λs a=>?_,?_,⟨g,i⟩,t,m,n,λf b=>(q f b).2,r⟩
  ·rcases eZ.1 a with rfl | a;·exact e
   ·exact j s a
  ·rw [yw];exact ⟨λc=>l _ c aG,k⟩
 ·intro h;have d:=h.nd;rw [yw] at d;refine ⟨⟨⟨⟨⟨⟨⟨h.names _ aG,h.data.1⟩,h.data.2⟩,λs a=>h.names s (by simp [a]),d.2,λs a=>?_⟩,h.code⟩,h.g5⟩,λf b=>⟨?_,h.fix f b⟩,h.up⟩,h.main⟩;·intro c;rw [fq] at c;subst c;exact d.1 a
  ·obtain ⟨p,u,_⟩:=uZ (h.fix f b).1;omega
variable {dz:d_}
def W8 (h:iB dz=ac):kE dz=2:=by rw [kE,aU h]
def W9 (h:iB dz=au) (k:¬BH dz):kE dz=1:=by rw [kE,ao (by rw [h];decide),aU];cases a:zF dz with| false=>rfl| true=>cases b:jw dz.code.length dz.main with| false=>rfl| true=>exact absurd ((W7 dz).1 ⟨a,b⟩) k
end Go.Bw
end
section
namespace Go.Bw
open Go
def sG (n:ab):a7:=a7.ofNat (n % 256).toNat
def EN (n:ab):I a7:=[sG<|n.fdiv<|2 ^ 56,sG<|n.fdiv<|2 ^ 48,sG<|n.fdiv<|2 ^ 40,sG<|n.fdiv<|2 ^ 32,sG<|n.fdiv<|2 ^ 24,sG<|n.fdiv<|2 ^ 16,sG<|n.fdiv<|2 ^ 8,sG n]
def EO (s:I a7):I a7:=sG s.length::s
def Ou (n:ab):Prop:=-9223372036854775808<=n/\n<=9223372036854775807
def IA (i:c'):I a7:=sG i.op::(EN i.a++EN i.b)
def IB (f:hT):I a7:=EN f.at_++sG f.kind::EN f.m
structure af_ (o:d_):Prop where
 code:∀i ∈ o.code,Ou i.a/\Ou i.b
end Go.Bw
end
section
namespace Go.Bw
open Go
structure Ns {α:Type} (gl:I a7->az (α×I a7)) (no:I a7×aQ->α×(I a7×aQ)):Prop where
 some_:∀s r,gl s=aa r->no (s,au)=(r.1,(r.2,au))
 none_:∀s,gl s=ak->(no (s,au)).2.2=ac
 bad:∀p,p.2=ac->(no p).2.2=ac
def Ns.pure {α:Type} (x:α):Ns (λs=>aa (x,s))<|λp=>(x,p):=⟨λs r h=>by injection h with h;subst h;rfl,λs h=>(by cases h),λp h=>h⟩
def Ns.bind {α β:Type} {c:I a7->az (α×I a7)} {n1:I a7×aQ->α×(I a7×aQ)} {f:α->I a7->az (β×I a7)} {n2:α->I a7×aQ->β×(I a7×aQ)} (d:Ns c n1) (e:∀a,Ns (f a) (n2 a)):Ns (λs=>(c s).bind λp=>f p.1 p.2)<|λp=>n2 (n1 p).1 (n1 p).2:=by
 refine ⟨λs r h=>?_,λs h=>?_,λp h=>(e _).bad _<|d.bad p h⟩;·obtain ⟨a,b,g⟩:=dl.1 h;show n2 (n1 (s,au)).1 (n1 (s,au)).2=_;rw [d.some_ s a b];exact (e _).some_ _ _ g
 ·show (n2 (n1 (s,au)).1 (n1 (s,au)).2).2.2=ac;cases b:c s with| none=>exact (e _).bad _<|d.none_ s b| some a=>have h:(c s).bind (λp=>f p.1 p.2)=ak:=h;rw [b] at h;rw [d.some_ s a b];exact (e _).none_ _ h
end Go.Bw
end
section
namespace Go.Bw
open Go
def Ow {n:ab}:∀(l:I hT) (lo:ab),lo<=n->(∀f ∈ l,lo<=f.at_/\f.at_<n)->(l.Pairwise λa b=>a.at_<b.at_)->(l.length:ab)<=n-lo| [],lo,h,_,_=>by simp;omega| x::r,lo,h,d,c=>by rw [K6] at c;have g:=d x aG;have i:=Ow r (x.at_+1) aj (λf e=>⟨by have:=c.1 f e;omega,(d f (by simp [e])).2⟩) c.2;simp only [eL];omega
variable {dz:d_}
def afq (h:BH dz):dz.fix.length<=dz.code.length:=by have:=Ow (n:=(dz.code.length:ab)) dz.fix 0 aj (λf a=>by obtain ⟨p,b,c⟩:=uZ (h.fix f a).1;omega) h.up;omega
def zH (h:kE dz=0):iB dz=au/\BH dz:=by
 have a:iB dz=au:=by cases a:iB dz with| false=>rfl| true=>rw [W8 a] at h;cases h
 refine ⟨a,?_⟩;refine Gv λb=>?_;rw [W9 a b] at h;cases h
end Go.Bw
end
section
namespace Go.Bw
open Go
variable {bW:Type} {ae:Z}
def Ox {f:bW->I a7} :∀(l:I bW) (h:∀x ∈ l,(f x).length<=ae),(l.flatMap f).length<=ae*l.length| [],_=>by simp| x::r,h=>by have b:=h x aG;have c:=Ox r λy a=>h y (by simp [a]);simp only [jm,e_,eL];rw [Gw];omega
def IC {f:bW->I a7} {k:Z} {l:I bW} (h:∀x ∈ l,(f x).length<=k) (i:Z):((l.take i).flatMap f).length<=k*l.length:=by
 have a:=Ox (l.take i) λx b=>h x<|pR b;have c:(l.take i).length<=l.length:=by simp;omega
 exact qa a<|K7 _ c
def W_ (i:c'):(IA i).length=17:=rfl
def Xa (f:hT):(IB f).length=17:=rfl
def Oy (s:I a7):(EO s).length=s.length+1:=rfl
structure xK (o:d_):Prop where
 nm:o.nm.length<=8
 un:∀s ∈ o.aI,s.length<=8
 aI:o.aI.length<=3
 code:o.code.length<=2048
 g5:o.g5.length<=6
 fix:o.fix.length<=2048
def Oz {s:I a7} (h:gm s=ac):s.length<=8:=by unfold gm at h;simp only [eW,mb] at h;omega
variable {dz:d_}
def BI (h:kE dz=0):xK dz:=by obtain ⟨b,a⟩:=zH h;have d:=afq a;unfold iB at b;simp only [lN,ny] at b;exact ⟨Oz<|a.names _ aG,λs c=>Oz<|a.names s (by simp [c]),aj,aj,aj,aj⟩
def xK.us (h:xK dz) (i:Z):((dz.aI.take i).flatMap EO).length<=27:=by have b:=IC (f:=EO) (k:=9) (l:=dz.aI) (λx a=>by have:=h.un x a;rw [Oy];omega) i;have:=h.aI;omega
def xK.co (h:xK dz) (i:Z):((dz.code.take i).flatMap IA).length<=34816:=by have a:=IC (f:=IA) (k:=17) (l:=dz.code) (λx b=>Z.le_of_eq<|W_ x) i;have:=h.code;omega
def xK.fx (h:xK dz) (i:Z):((dz.fix.take i).flatMap IB).length<=34816:=by have a:=IC (f:=IB) (k:=17) (l:=dz.fix) (λx b=>Z.le_of_eq<|Xa x) i;have:=h.fix;omega
def Xb (n:Z) (x:ab):fm x 0 ((n:ab)-1)=jw n x:=by unfold fm jw;rw [lK];simp;omega
def OA {p:bW->Prop} {l:I bW}  {x:bW} (h:l[ae]? = aa x) (b:∀y ∈ l.take ae,p y) (c:p x):∀y ∈ l.take (ae+1),p y:=λy a=>by
 rw [hP,h] at a;rcases bm.1 a with a | a;·exact b y a
 ·have a:y ∈ [x]:=a;rw [fq] at a;subst a;exact c
def OB (o:d_) (i:Z) (x:hT):aQ:= ((((!(fm x.at_ 0<|(o.code.length:ab)-1)||(decide ((0:ab)<(i:ab))&&decide (x.at_<=((o.fix[i-1]?).map (·.at_)).getD 0)))||!(fm x.kind 1 3))||!(fm x.m 0 (o.aI.length:ab)))||!(fm (nJ o.code x.at_) 0 2048))||(x.kind==1&&(!(x.m==0)||decide ((o.code.length:ab)<nJ o.code x.at_)))
def Xc (U n:Z) (k m a:ab):(!(!(fm k 1 3))&&(!(!(fm m 0 (U:ab)))&&(!(!(fm a 0 2048))&&!(k==1&&(!(m==0)||decide ((n:ab)<a))))))=mx U n k m a:=by
 unfold mx fm;by_cases b:k=1
 ·subst b;rw [aU rfl,lK];by_cases c:m=0;·subst c;simp
  ·simp [c]
 ·rw [ao b];by_cases d:k=2\/k=3
  ·rw [aU d,lK];have e:(k==1)=au:=by simpa using b
   rw [e];simp;omega
  ·rw [ao d,lK];simp;omega
variable {pi:hT}
def Xd {l:I hT}   (f:l[ae]? = aa pi) (g:(l.take ae).Pairwise λa b=>a.at_<b.at_) (c:0<ae->((l[ae-1]?).map (·.at_)).getD 0<pi.at_):(l.take<|ae+1).Pairwise λa b=>a.at_<b.at_:=by
 rw [hP,f];show (l.take ae++[pi]).Pairwise _;rw [K5];refine ⟨g,by simp,λy i k h=>?_⟩;rw [fq] at h;subst h;obtain ⟨j,e⟩:=ls i;have m:j<ae:=by have:=(c_.1 e).1;simp at this;omega
 have n:l[j]? = aa y:=by rw [K8 m] at e;exact e
 have v:ae<l.length:=(c_.1 f).1;have c:=c (by omega);obtain ⟨u,d⟩:∃u,l[ae-1]? = aa u:=⟨_,dh (by omega)⟩;rw [d] at c;have c:u.at_<k.at_:=c;by_cases o:j=ae-1;·subst o;rw [n] at d;injection d with d;subst d;exact c
 ·have p:(l.take ae)[ae-1]? = aa u:=by rw [b8,aU (by omega)];exact d
  obtain ⟨q,r⟩:=c_.1 e;obtain ⟨s,t⟩:=c_.1 p;have:=CY.1 g j (ae-1) q s (by omega);rw [r,t] at this;omega
def BJ (o:d_) (i:Z):Prop:=(∀f ∈ o.fix.take i,jw o.code.length f.at_=ac/\mx o.aI.length o.code.length f.kind f.m (nJ o.code f.at_)=ac)/\(o.fix.take i).Pairwise λa b=>a.at_<b.at_
def BJ.zero (o:d_):BJ o 0:=⟨aG,aG⟩
def BJ.next {i:Z}  (h:BJ dz i) (d:dz.fix[i]? = aa pi) (c:OB dz i pi=au):BJ dz<|i+1:=by
 unfold OB at c;simp only [lN] at c;obtain ⟨⟨⟨⟨⟨e,b⟩,g⟩,j⟩,k⟩,l⟩:=c;refine ⟨λf a=>?_,Xd d h.2 λm=>?_⟩
 ·rw [hP,d] at a;rcases bm.1 a with a | a;·exact h.1 f a
  ·have a:f ∈ [pi]:=a;rw [fq] at a;subst a;refine ⟨(Xb _ _).symm.trans (by simpa using e),?_⟩;rw [<-Xc,g,j,k,l];rfl
 ·rw [kL (show (0:ab)<(i:ab) by omega)] at b;have b:decide (pi.at_<=((dz.fix[i-1]?).map (·.at_)).getD 0)=au:=b;have:=Gz b;omega
end Go.Bw
end
section
namespace Go.Bw
open Go
def hs (l:I d_):I<|I a7:=l.map (·.nm)
structure Pl where
 code:ab
 data:ab
 kq:I Z
def u0 (l:I d_):Z:=(l.map (·.code.length)).sum
def xM (l:I d_):ab:=(l.map (·.data)).sum
def g6 (l:I d_) (k:Z):ab:=((l.length+1+u0 (l.take k):Z):ab)
def jj (l:I d_) (k:Z):ab:=xM<|l.take k
def wb (ns:I<|I a7) (o:d_):aQ:=o.aI.all λs=>(idxOf s ns 0).isSome
def tJ (ns:I<|I a7) (s:I a7):Z:=(idxOf s ns 0).getD 0
def qG (l:I d_) (n:Z) (o:d_):I Z:=n::o.aI.map (tJ<|(hs l).take n)
def sI (l:I d_) (n:Z) (o:d_):Pl:=⟨g6 l n,jj l n,qG l n o⟩
def pV (l:I d_):I Pl:=l.mapIdx λn o=>sI l n o
def tK (l:I d_):Pl:=⟨g6 l l.length,jj l l.length,[]⟩
def zI (l:I d_) (k:Z):Z:=((l[k]?).map (·.g5.length)).getD 0
def jx (l:I d_) (n:Z) (o:d_) (m:ab):Z:=((qG l n o)[m.toNat]?).getD 0
def tL (l:I d_) (n:Z) (o:d_) (f:hT):aQ:=f.kind==2&&decide ((zI l<|jx l n o f.m:ab)<=nJ o.code f.at_)
def u1 (p:Z->d_->aQ) (l:I d_):aQ:=(l.mapIdx p).any id
def ld (l:I d_):ab:=if l.length<1\/4<l.length then 2 else er (iS kE l) (if gV (hs l)=ac then 6 else if u1 (λn o=>!(wb ((hs l).take n) o)) l=ac then 9 else if u1 (λn o=>o.fix.any<|tL l n o) l=ac then 5 else 0)
variable {cC:I d_} {ae:Z} {dz:d_}
def ID {p:Z->d_->aQ}    (h:cC[ae]? = aa dz) (a:p ae dz=ac):u1 p cC=ac:=by unfold u1;rw [s8];exact ⟨ac,dJ (i:=ae) (by rw [AD,h,eI,a]),O⟩
def EP {p:Z->d_->aQ}  (h:∀n o,cC[n]? = aa o->p n o=au):u1 p cC=au:=by unfold u1;rw [wV];intro x b;obtain ⟨n,a⟩:=ls b;rw [AD] at a;obtain ⟨o,c,rfl⟩:=eD.1 a;simp [h n o c]
def OC {p:Z->d_->aQ}  (h:u1 p cC=au)   (a:cC[ae]? = aa dz):p ae dz=au:=by cases b:p ae dz with| false=>rfl| true=>rw [ID a b] at h;cases h
def zJ (l:I d_):(hs l).length=l.length:=by simp [hs]
def OD (h:cC[ae]? = aa dz):(hs cC)[ae]? = aa dz.nm:=by unfold hs;rw [gh,h];rfl
def OE (h:cC.length<1\/4<cC.length):ld cC=2:=by rw [ld,aU h]
def Xe (a:¬(cC.length<1\/4<cC.length)) (hi:cC[ae]? = aa dz) (b:∀x ∈ cC.take ae,kE x=0) (h:¬kE dz=0):ld cC=kE dz:=by rw [ld,ao a,y_ kE hi (sh.2 b) h,tm h]
def EQ (a:¬(cC.length<1\/4<cC.length)) (b:∀x ∈ cC,kE x=0):ld cC=if gV (hs cC)=ac then 6 else if u1 (λn o=>!(wb ((hs cC).take n) o)) cC=ac then 9 else if u1 (λn o=>o.fix.any<|tL cC n o) cC=ac then 5 else 0:=by rw [ld,ao a,sh.2 b,nD]
structure Xf (l:I d_):Prop where
 gu:¬(l.length<1\/4<l.length)
 rt:∀o ∈ l,kE o=0
 nd:(hs l).Nodup
 known:∀n o,l[n]? = aa o->wb ((hs l).take n) o=ac
 jP:∀n o,l[n]? = aa o->∀f ∈ o.fix,tL l n o f=au
def Xg:ld cC=0↔Xf cC:=by
 constructor
 ·intro h;have b:¬(cC.length<1\/4<cC.length):=λb=>by rw [OE b] at h;cases h
  have d:∀x ∈ cC,kE x=0:=by rw [ld,ao b,ml] at h;exact sh.1 h.1
  rw [EQ b d] at h;split at h;·cases h
  ·rename_i e;split at h;·cases h
   ·rename_i g;split at h;·cases h
    ·rename_i i;refine ⟨b,d,ku.2 (by simpa using e),λn o a=>?_,λn o a f c=>?_⟩;·have:=OC (by simpa using g) a;simpa using this
     ·have:=OC (p:=λn o=>o.fix.any<|tL cC n o) (by simpa using i) a;rw [wV] at this;simpa using this f c
 ·intro h;rw [EQ h.gu h.rt,ku.1 h.nd,ao a',EP (λn o a=>by rw [h.known n o a];rfl),ao a',EP (λn o a=>by rw [wV];intro f c;rw [h.jP n o a f c];decide),ao a']
def IE (h:cC[ae]? = aa dz):u0 (cC.take<|ae+1)=u0 (cC.take ae)+dz.code.length:=by unfold u0;rw [hP,h];simp
def OF (h:cC[ae]? = aa dz):xM (cC.take<|ae+1)=xM (cC.take ae)+dz.data:=by unfold xM;rw [hP,h];simp
def OG (h:∀o ∈ cC,o.code.length<=2048):∀i,i<=cC.length->u0 (cC.take i)<=2048*i| 0,_=>by simp [u0]| i+1,hi=>by obtain ⟨o,a⟩:∃o,cC[i]? = aa o:=⟨_,dh (by omega)⟩;have b:=OG h i (by omega);have c:=h o<|dJ a;rw [IE a];omega
def OH (h:∀o ∈ cC,0<=o.data/\o.data<=512):∀i,i<=cC.length->0<=xM (cC.take i)/\xM (cC.take i)<=512*i| 0,_=>by simp [xM]| i+1,hi=>by obtain ⟨o,a⟩:∃o,cC[i]? = aa o:=⟨_,dh (by omega)⟩;have b:=OH h i (by omega);have c:=h o<|dJ a;rw [OF a];omega
def OI (h:kE dz=0):0<=dz.data/\dz.data<=512:=(zH h).2.data
def ER (c:¬(cC.length<1\/4<cC.length)) (h:∀o ∈ cC,kE o=0) {k:Z} (a:k<=cC.length):0<=g6 cC k/\g6 cC k<=9000:=by have d:=OG (λo b=>(BI<|h o b).code) k a;unfold g6;omega
def ES (c:¬(cC.length<1\/4<cC.length)) (h:∀o ∈ cC,kE o=0) {k:Z} (a:k<=cC.length):0<=jj cC k/\jj cC k<=2048:=by have d:=OH (λo b=>OI<|h o b) k a;unfold jj;omega
def IF (h:cC[ae]? = aa dz):g6 cC (ae+1)=g6 cC ae+(dz.code.length:ab):=by unfold g6;rw [IE h];omega
def Xh (h:cC[ae]? = aa dz):jj cC (ae+1)=jj cC ae+dz.data:=by unfold jj;rw [OF h]
def IG (h:cC[ae]? = aa dz):(pV cC)[ae]? = aa (sI cC ae dz):=by unfold pV;rw [AD,h];rfl
def wc (l:I d_):(pV l).length=l.length:=by simp [pV]
def Xi (h:cC[ae]? = aa dz):(pV cC).take (ae+1)=(pV cC).take ae++[sI cC ae dz]:=by rw [hP,IG h];rfl
def IH (h:cC[ae]? = aa dz):(pV cC++[tK cC])[ae]? = aa (sI cC ae dz):=by have hi:=(c_.1 h).1;rw [Aw (by rw [wc];exact hi),IG h]
def Xj (l:I d_):(pV l++[tK l])[l.length]? = aa (tK l):=by rw [r4 (by rw [wc];exact eC _),wc,Ay];rfl
def II (l:I d_) (n:Z) (o:d_):(qG l n o).length=o.aI.length+1:=by simp [qG]
def Xk (c:ae<cC.length) (d:wb ((hs cC).take ae) dz=ac):∀k ∈ qG cC ae dz,k<cC.length:=by
 intro k a;unfold qG at a;rcases eZ.1 a with rfl | a;·exact c
 ·obtain ⟨s,e,rfl⟩:=py.1 a;have b:=gw.1 d s e;unfold tJ;cases hi:idxOf s ((hs cC).take ae) 0 with| none=>rw [hi] at b;cases b| some k=>have:=(c_.1 (sd hi).2).1;rw [lr,zJ] at this;show k<cC.length;omega
def OJ (c:ae<cC.length) (d:wb ((hs cC).take ae) dz=ac) {m:ab} (f:0<=m) (g:m<=(dz.aI.length:ab)):(qG cC ae dz)[m.toNat]? = aa (jx cC ae dz m)/\jx cC ae dz m<cC.length:=by
 have a:m.toNat<(qG cC ae dz).length:=by rw [II];omega
 have b:(qG cC ae dz)[m.toNat]? = aa (qG cC ae dz)[m.toNat]:=dh a;have e:jx cC ae dz m=(qG cC ae dz)[m.toNat]:=by unfold jx;rw [b];rfl
 rw [e];exact ⟨b,Xk c d _<|CX a⟩
def sJ (c:I c') (p:Z) (v:ab):I c':=match c[p]? with| aa x=>c.set p ⟨x.op,v,x.b⟩| ak=>c
def IJ (l:I d_) (k:Z) (a:ab):ab:=((l[k]?).bind λo=>o.g5[a.toNat]?).getD 0
def iO (l:I d_) (n:Z) (o:d_) (f:hT):ab:= if f.kind=1 then nJ o.code f.at_+g6 l n else if f.kind=2 then g6 l (jx l n o f.m)+IJ l (jx l n o f.m) (nJ o.code f.at_) else nJ o.code f.at_+jj l (jx l n o f.m)
def nK (l:I d_) (n:Z) (o:d_) (c:I c') (fs:I hT):I c':=fs.foldl (λc f=>sJ c f.at_.toNat<|iO l n o f) c
def ru (l:I d_):I c':=l.mapIdx λn o=>(⟨13,g6 l n+o.main,0⟩:c')
def BK (l:I d_) (n:Z) (o:d_):I c':=nK l n o o.code o.fix
def zK (l:I d_) (n:Z):I c':=((l.mapIdx λn o=>BK l n o).take n).flatten
def jk (l:I d_) (n:Z):I c':=ru l++[⟨20,0,0⟩]++zK l n
def OK (l:I d_):I c':=jk l l.length
def eq (l:I d_):(I c'×ab)×ab:=if ld l≠0 then (([],0),ld l) else if 2048<g6 l l.length\/512<jj l l.length then (([],0),2) else ((OK l,jj l l.length),0)
def Xl (c:I c') (p:Z) (v:ab):(sJ c p v).length=c.length:=by unfold sJ;split<;>simp
variable {nL:I c'}
def Xm {x:c'} (h:nL[ae]? = aa x) (v:ab):sJ nL ae v=nL.set ae ⟨x.op,v,x.b⟩:=by unfold sJ;rw [h]
variable {aH:Z}
def Xn (v:ab) (h:ae≠aH):(sJ nL ae v)[aH]? = nL[aH]?:=by
 unfold sJ;split;·rw [K9 h]
 ·rfl
def ET (l:I d_) (n:Z) (o:d_):∀(fs:I hT) (c:I c'),(nK l n o c fs).length=c.length| [],c=>rfl| f::r,c=>by show (nK l n o (sJ c f.at_.toNat<|iO l n o f) r).length=_;rw [ET l n o r,Xl]
variable {pi:hT}
def IK {fs:I hT}   (h:fs[aH]? = aa pi):nK cC ae dz nL (fs.take<|aH+1)=sJ (nK cC ae dz nL<|fs.take aH) pi.at_.toNat (iO cC ae dz pi):=by unfold nK;rw [hP,h];simp
def OL:∀(fs:I hT) (c:I c'),(∀f ∈ fs,f.at_.toNat≠aH)->(nK cC ae dz c fs)[aH]? = c[aH]?| [],c,_=>rfl| f::r,c,h=>by show (nK cC ae dz (sJ c f.at_.toNat<|iO cC ae dz f) r)[aH]? = _;rw [OL r _ λg a=>h g (by simp [a]),Xn _<|h f aG]
def Xo {l:I d_} {n:Z}  (a:BH dz)   (h:dz.fix[ae]? = aa pi):(nK l n dz dz.code<|dz.fix.take ae)[pi.at_.toNat]? = dz.code[pi.at_.toNat]?:=by
 refine OL _ _ λg c e=>?_;obtain ⟨i,hi⟩:=ls c;have b:i<ae:=by have:=(c_.1 hi).1;rw [lr] at this;omega
 rw [K8 b] at hi;obtain ⟨a1,a2⟩:=c_.1 hi;obtain ⟨d,f⟩:=c_.1 h;have:=CY.1 a.up i ae a1 d b;rw [a2,f] at this;obtain ⟨p,j,_⟩:=uZ (a.fix g<|dJ hi).1;obtain ⟨k,m,_⟩:=uZ (a.fix pi<|dJ h).1;omega
def EU (l:I d_):(ru l).length=l.length:=by simp [ru]
def Xp (h:cC[ae]? = aa dz):(ru cC).take (ae+1)=(ru cC).take ae++[⟨13,g6 cC ae+dz.main,0⟩]:=by rw [hP];unfold ru;rw [AD,h];rfl
def OM (l:I d_):zK l 0=[]:=rfl
def ON (h:cC[ae]? = aa dz):zK cC (ae+1)=zK cC ae++BK cC ae dz:=by unfold zK;rw [hP,AD,h];simp
def OO:∀{i:Z},i<=cC.length->(zK cC i).length=u0 (cC.take i)| 0,_=>by simp [OM,u0]| i+1,hi=>by obtain ⟨o,a⟩:∃o,cC[i]? = aa o:=⟨_,dh (by omega)⟩;rw [ON a,e_,OO (i:=i) (by omega),IE a];unfold BK;rw [ET]
def Xq {l:I d_} {i:Z} (hi:i<=l.length):((jk l i).length:ab)=g6 l i:=by unfold jk g6;rw [e_,e_,EU,OO hi,n_]
def OP (h:cC[ae]? = aa dz):jk cC (ae+1)=jk cC ae++BK cC ae dz:=by unfold jk;rw [ON h,ho,ho,ho]
def IL {l:I d_} {n:Z} {o:d_} {c:I c'} {p:Z} {x:c'} (v:ab) (h:c[p]? = aa x):(jk l n++c).set ((jk l n).length+p) ⟨x.op,v,x.b⟩=jk l n++sJ c p v:=by rw [CZ _ _ aj,sQ,Xm h]
variable {be:I a7}
def IM:∀(m:I<|fe<|I a7) (i:Z),(dU be m i).isSome=ac↔be ∈ m.map (·.1)
 | [],i=>by simp [dU]
 | e::r,i=>by
  rw [dU,l_,eZ];by_cases h:be=e.1;·simp [h]
  ·rw [ao (by simpa using h),IM r<|i+1];simp [h]
variable {j2:I<|fe<|I a7}
def OQ {v:aT}  :(be ∈ j2.map (·.1)->(bB be v j2 ae).length=j2.length)/\(be ∉ j2.map (·.1)->(bB be v j2 ae).map (·.1)=j2.map (·.1)++[be]):=by
 constructor;·intro h;have a:=(IM j2 0).2 h;unfold bB;cases b:dU be j2 0 with| none=>rw [b] at a;cases a| some r=>simp
 ·intro h;have a:dU be j2 0=ak:=by cases b:dU be j2 0 with| none=>rfl| some r=>exact absurd ((IM j2 0).1 (by rw [b];rfl)) h
  unfold bB;rw [a];simp
def u2 (ns:I<|I a7) (i:Z) (M:I<|fe<|I a7):Prop:= (∀s,hj s M (an am 0) = an am (((ns.take i).count s:Z):ab))/\(((ns.take i).Nodup/\M.map (·.1)=ns.take i)\/(¬(ns.take i).Nodup/\M.length<i))
def u2.zero (ns:I<|I a7):u2 ns 0 []:=⟨λs=>by simp [hj,dU],bA ⟨aG,aG⟩⟩
variable {db:I<|I a7}
def u2.step (h:u2 db ae j2) (m:db[ae]? = aa be) (c:Z):u2 db (ae+1)<|bB be (an am<|((db.take ae).count be:Z)+1) j2 c:=by
 have r:=(c_.1 m).1;have o:(db.take ae).length=ae:=by simp;omega
 have d:db.take (ae+1)=db.take ae++[be]:=by rw [hP,m];rfl
 refine ⟨λs=>?_,?_⟩
 ·by_cases e:s=be;·subst e;rw [xt,d,C9];simp
  ·rw [Be _ j2 c _ e,h.1 s,d,C9];have p:¬be=s:=λk=>e k.symm;simp [zG,p]
 ·rcases h.2 with ⟨l,g⟩ | ⟨l,g⟩
  ·by_cases j:be ∈ db.take ae
   ·right;refine ⟨λi=>?_,?_⟩;·rw [d,lJ] at i;exact i.2.2 be j be aG O
    ·rw [OQ.1 (by rw [g];exact j),<-fK (f:=(·.1)),g,o];omega
   ·left;refine ⟨?_,?_⟩;·rw [d,lJ];exact ⟨l,aG,λa q b n e=>by rw [fq] at n;subst n;subst e;exact j q⟩
    ·rw [OQ.2 (by rw [g];exact j),g,d]
  ·right;refine ⟨λi=>l ?_,?_⟩;·rw [d,lJ] at i;exact i.1
   ·have:=HT be (an am<|((db.take ae).count be:Z)+1) j2 c;omega
def u2.gu (h:u2 db db.length j2):j2.length<db.length↔gV db=ac:=by
 have a:=h.2;rw [gJ] at a;rcases a with ⟨b,a⟩ | ⟨b,a⟩
 ·rw [ku] at b;have:j2.length=db.length:=by rw [<-fK (f:=(·.1)),a]
  rw [b];constructor;·intro;omega
  ·intro e;cases e
 ·rw [ku] at b;exact ⟨λ_=>by simpa using b,λ_=>a⟩
end Go.Bw
end
section
namespace Go.Bw
open Go
abbrev Tx:=I a7
def np:I a7:=[109,111,100,117,108,101]
def lD:I a7:=[117,115,101]
def nM:I a7:=[112,117,98]
def lf:I a7:=[99,111,110,115,116]
def lg:I a7:=[118,97,114]
def lh:I a7:=[97,114,114,97,121]
def li:I a7:=[112,114,111,99]
def my:I a7:=[108,111,99,97,108]
def h2:I a7:=[109,97,105,110]
def fQ:I a7:=[105,102]
def gn:I a7:=[101,108,115,101]
def fZ:I a7:=[119,104,105,108,101]
def bF:I a7:=[114,101,116,117,114,110]
def gq:I a7:=[111,117,116]
def wd:I a7:=[105,110]
def J (l:I Tx):Tx:=Lib.join l [32]
def gZ (mod nm:Tx):I Tx:=if (mod==[])=ac then [nm] else [mod,[46],nm]
def opsL:I Tx:=[[38],[124],[43],[45],[42],[47],[37],[61],[60]]
def rx (op:ab):Tx:=(opsL[(op-7).toNat]?).getD []
def eH:I (I Tx)->I Tx| []=>[]| [x]=>x| x::y::r=>x++[[44]]++eH (y::r)
def mz (l:I<|I Tx):I Tx:=[[40]]++eH l++[[41]]
def at_ (l:I<|I Tx) (i:Z):I Tx:=(l[i]?).getD []
def kU (op n:ab) (mod nm:Tx) (a:I<|I Tx):I Tx:= if op=1 then [hO n] else if op=2 then [wd] else if op=3 then gZ mod nm else if op=4 then gZ mod nm++[[91]]++at_ a 0++[[93]] else if op=5 then gZ mod nm++mz a else if op=6 then [[33]]++at_ a 0 else [[40]]++at_ a 0++[rx op]++at_ a 1++[[41]]
mutual
def dW:cu->I Tx| .mk op n mod nm args=>kU op n mod nm<|aX args
def aX:I cu->I (I Tx)| []=>[]| x::r=>dW x::aX r
end
def pW (l:I Tx):I Tx:=[[123]]++l++[[125]]
def j5 (op:ab) (mod nm:Tx) (a:I<|I Tx) (b:I Tx) (c:Z) (o:I Tx):I Tx:= if op=4\/op=5 then [if op=5 then fZ else fQ]++at_ a 0++pW b++(if 0<c then [gn]++pW o else []) else (if op=6 then [bF]++at_ a 0 else if op=7 then [gq]++at_ a 0 else if op=3 then gZ mod nm++mz a else if op=1 then gZ mod nm++[[61]]++at_ a 0 else if op=2 then gZ mod nm++[[91]]++at_ a 0++[[93],[61]]++at_ a 1 else [])++[[59]]
mutual
def hc:cv->I Tx| .mk op mod nm args body other=>j5 op mod nm (aX args) (fv body) other.length<|fv other
def fv:I cv->I Tx| []=>[]| x::r=>hc x++fv r
end
def hd (l:I cv):I Tx:=pW<|fv l
def g7 (b:aQ):I Tx:=if b=ac then [nM] else []
def ge (u:Tx):I Tx:=[lD,u,[59]]
def iJ (u:Tx):I Tx:=[my,u,[59]]
def pj (d:eQ):I Tx:=if d.kind=1 then [lf,d.nm,[61],hO d.n] else if d.kind=2 then [lg,d.nm] else if d.kind=3 then [lh,d.nm,[91],hO d.n,[93]] else []
def fO (d:eQ):I Tx:=g7 d.cz++pj d++[[59]]
def gv (p:bz):I Tx:=g7 p.cz++[li,p.nm,[40]]++eH (p.params.map λs=>[s])++[[41]]++p.a6.flatMap iJ++hd p.body
def hf (m:cM):I Tx:=[np,m.nm,[123]]++m.aI.flatMap ge++m.decls.flatMap fO++m.procs.flatMap gv++[h2]++hd m.main++[[125]]
def bR {a b:ci} (h:(a+b).cy=0):a.cy=0/\b.cy=0:=by rw [ci.fG] at h;omega
variable {dE:aQ}
def iP (h:(hq dE).cy=0):dE=au:=by cases dE;rfl;cases h
def zL (h:(a9 dE).cy=0):dE=au:=by cases dE;rfl;cases h
def OR (h:(iF dE).cy=0):dE=au:=by cases dE;rfl;cases h
structure tO (op n:ab) (mod nm:Tx) (args:I cu) (d:Z):Prop where
 deep:d<=6
 kind:1<=op/\op<=15
 name:jH (fm op 3 5) mod nm=au
 sK:n9 (kO op) args.length=au
 gu:args.length<=3
 num:k3 op n=au
 sub:(fH args<|d+1).cy=0
variable {aP cp:ab} {bw aS:Tx} {dw:I cu} {ae:Z}
def zM (h:(ka (.mk aP cp bw aS dw) ae).cy=0):tO aP cp bw aS dw ae:=by
 unfold ka at h;split at h;·cases h
 ·rename_i m;obtain ⟨h,c⟩:=bR h;obtain ⟨h,d⟩:=bR h;obtain ⟨e,a⟩:=bR h;have b:=OR e;obtain ⟨f,g⟩:=Ug b;unfold ip at a;obtain ⟨a,i⟩:=bR a;obtain ⟨j,k⟩:=bR a;rw [Mm] at b;have l:=zL i;exact ⟨aj,by simp [fm] at b;omega,by rw [<-f];exact iP j,by rw [<-g];exact iP k,by simp at l;omega,iP d,c⟩
def IN {x:cu}   (h:(fH (x::dw) ae).cy=0):(ka x ae).cy=0/\(fH dw ae).cy=0:=by unfold fH at h;exact bR h
def tO.EV (h:tO aP cp bw aS dw ae) (a:aP=4\/aP=6):dw.length=1:=by have:=h.sK;rcases a with rfl | rfl<;>simp [n9,kO] at this<;>omega
def tO.OS (h:tO aP cp bw aS dw ae) (a:7<=aP):dw.length=2:=by have:=h.sK;unfold n9 kO at this;rw [ao aj,ao aj,ao aj] at this;simp at this;omega
def IP:∀l:I cu,(aX l).length=l.length| []=>rfl| x::r=>by unfold aX;simp [IP r]
def Xr (mod nm:Tx):gZ mod nm≠[]:=by unfold gZ;split<;>simp
def OT:∀x:cu,dW x≠[]
 | .mk op n mod nm args=>by
  unfold dW kU mz;have:=Xr mod nm;repeat' split
  all_goals simp_all
def OU:∀(l:I cu),∀x ∈ aX l,x≠[]
 | [],_,h=>by simp [aX] at h
 | y::r,x,h=>by
  unfold aX at h;rcases eZ.1 h with rfl | h;·exact OT y
  ·exact OU r x h
structure pX (op:ab) (mod nm:Tx) (args:I cu) (body other:I cv) (d:Z):Prop where
 kind:1<=op/\op<=7
 name:jH (fm op 1 3) mod nm=au
 sK:n9 (qp op) args.length=au
 gu:args.length<=3
 exprs:(fH args 1).cy=0
 form:n' op body.length other.length=au
 body:(inner op||decide (0<body.length))=ac->(o2 (d+1) body.length<|e2 body<|d+1).cy=0
 other:0<other.length->(o2 (d+1) other.length<|e2 other<|d+1).cy=0
variable {c7 nq:I cv}
def zN (h:(ih (.mk aP bw aS dw c7 nq) ae).cy=0):pX aP bw aS dw c7 nq ae:=by
 unfold ih at h;obtain ⟨h,d⟩:=bR h;obtain ⟨h,e⟩:=bR h;obtain ⟨h,f⟩:=bR h;obtain ⟨h,g⟩:=bR h;obtain ⟨i,a⟩:=bR h;have b:=OR i;obtain ⟨j,k⟩:=Uh b;unfold ip at a;obtain ⟨a,l⟩:=bR a;obtain ⟨m,n⟩:=bR a;rw [Mn] at b;have o:=zL l;refine ⟨by simp [fm] at b;omega,by rw [<-j];exact iP m,by rw [<-k];exact iP n,by simp at o;omega,g,iP f,λc=>?_,λc=>?_⟩;·rw [aU c] at e;exact e
 ·rw [aU c] at d;exact d
variable {j6:ci}
def zO {d len:Z}  (h:(o2 d len j6).cy=0):d<=6/\len<=10/\j6.cy=0:=by
 unfold o2 at h;split at h;·cases h
 ·obtain ⟨a,b⟩:=bR h;have:=zL a;simp at this;exact ⟨aj,aj,b⟩
def EW {x:cv}   (h:(e2 (x::c7) ae).cy=0):(ih x ae).cy=0/\(e2 c7 ae).cy=0:=by unfold e2 at h;exact bR h
def pX.len (h:pX aP bw aS dw c7 nq ae) (b:aP≠3):dw.length=if aP=2 then 2 else 1:=by
 have:=h.sK;unfold n9 qp at this;by_cases a:aP=2;·rw [aU a] at this ⊢;simp at this;omega
 ·rw [ao a,ao b] at this;rw [ao a];simp at this;omega
def pX.OV (h:pX aP bw aS dw c7 nq ae):((aP≠4/\aP≠5)->c7=[])/\(aP≠4->nq=[]):=by
 have:=h.form;unfold n' inner at this;rw [lN] at this;refine ⟨λ⟨a,b⟩=>?_,λa=>?_⟩;·have c:=this.1;simpa [a,b] using c
 ·have c:=this.2;simpa [a] using c
def OW:∀x:cv,hc x≠[]| .mk op mod nm args body other=>by unfold hc j5;split<;>simp
def afr {d:eQ} (h:(jZ d).cy=0):d.kind=1\/d.kind=2\/d.kind=3:=by
 unfold jZ at h;obtain ⟨_,h⟩:=bR h;by_cases a:d.kind=1;·exact bA a
 ·rw [ao a] at h;by_cases b:d.kind=2;·exact bl<|bA b
  ·rw [ao b] at h;by_cases c:d.kind=3;·exact bl<|bl c
   ·rw [ao c] at h;cases h
def OX:∀{l:I eQ},(g_ l).cy=0->∀d ∈ l,(jZ d).cy=0
 | [],_,d,a=>by simp at a
 | x::r,h,d,a=>by
  unfold g_ at h;obtain ⟨b,c⟩:=bR h;rcases eZ.1 a with rfl | a;·exact b
  ·exact OX c d a
def OY:∀{l:I bz},(h5 l).cy=0->∀d ∈ l,(qn d).cy=0
 | [],_,d,a=>by simp at a
 | x::r,h,d,a=>by
  unfold h5 at h;obtain ⟨b,c⟩:=bR h;rcases eZ.1 a with rfl | a;·exact b
  ·exact OY c d a
def Xt:kc j6=0↔j6.cy=0:=by
 unfold kc ci.cy;split;·omega
 ·split;·omega
  ·split<;>omega
end Go.Bw
end
section
namespace Go.Bw
open Go
def df (s:Tx):Tok:=match p' s with| .ok v=>⟨2,v,[]⟩| _=>if gm s=ac then ⟨1,0,s⟩ else ⟨3,0,s⟩
def EX (t:Tok):Prop:=qm t=ac/\jW t=ac
def EY:∀u ∈ uz,df [u]=⟨3,0,[u]⟩:=a'
variable {bw:Tx}
def BL (h:gm bw=ac):df bw=⟨1,0,bw⟩:=by
 cases bw with
 | nil=>simp [gm] at h
 | cons c r=>
  have a:oZ (c.toNat:ab)=ac:=by simp only [gm,eW] at h;simpa using h.1.2
  have e:97<=c.toNat:=by simp [oZ] at a;omega
  have b:∀v,p' (c::r)≠.ok v:=by intro v hv;rw [Lib.atoiAll_plain c r aj aj] at hv;unfold Lib.parseMag Lib.parseUint10 at hv;rw [ao aG,ao aj] at hv;cases hv
  unfold df;cases d:p' (c::r) with| ok v=>exact absurd d<|b v| _=>simp [h]
variable {aP:ab}
def BM (a:0<=aP) (b:aP<=1099511627775):df (hO aP)=⟨2,aP,[]⟩:=by unfold df;rw [DQ a,Me aj];simp;omega
def EZ {t:Tok} (h:EX t):df (cj t)=t:=by
 obtain ⟨b,a⟩:=h;obtain ⟨k,n,s⟩:=t;have d:k=1\/k=2\/k=3:=by simp [qm] at b;omega
 rcases d with rfl | rfl | rfl;·simp only [jW,aU,eW,j8] at a;obtain ⟨rfl,e⟩:=a;exact BL e
 ·have:s=[]/\0<=n/\n<=1099511627775:=by simpa [jW] using a
  obtain ⟨rfl,f,g⟩:=this;exact BM f g
 ·have:n=0/\s.length=1/\o0 (s[0]?.getD 0)=ac:=by simpa [jW] using a
  obtain ⟨rfl,i,j⟩:=this;match s,i with| [c],_=>exact EY c (by simpa [o0] using j)
def i6 (w:Tx):Prop:=EX (df w)/\cj (df w)=w
def kh (h:gm bw=ac):i6 bw:=by unfold i6;rw [BL h];exact ⟨⟨O,by simp [jW,h]⟩,O⟩
def i7 {u:a7} (h:u ∈ uz):i6 [u]:=by unfold i6;rw [EY u h];exact ⟨⟨O,by simp [jW,o0,h]⟩,O⟩
def xa (a:0<=aP) (b:aP<=1099511627775):i6<|hO aP:=by unfold i6;rw [BM a b];exact ⟨⟨O,by simp [jW];omega⟩,O⟩
variable {cI:I Tx}
def IQ (h:∀w ∈ cI,i6 w):jX (cI.map df)=J cI:=by
 unfold jX J
 congr 1
 rw [CV]
 conv=>rhs; rw [<-I.map_id cI]
 exact Av λw a=>(h w a).2
def mA (h:gy bw=ac):gm bw=ac:=by simp only [gy,eW] at h;exact h.1
variable {aS:Tx}
def E1 (h:jH ac bw aS=au):(bw=[]\/gy bw=ac)/\gy aS=ac:=by unfold jH at h;cases a:(bw==[]) with| true=>simp [a] at h;simp at a;exact ⟨bA a,by simpa using h⟩| false=>simp [a] at h;exact ⟨bl h.1,h.2⟩
def OZ (h:jH au bw aS=au):bw=[]/\aS=[]:=by unfold jH at h;rw [Uf] at h;simpa using h
def zP (h:jH ac bw aS=au):∀w ∈ gZ bw aS,i6 w:=by
 obtain ⟨c,b⟩:=E1 h;intro w a;unfold gZ at a;split at a;·rw [fq] at a;subst a;exact kh<|mA b
 ·rename_i d;have:gy bw=ac:=c.resolve_left (by simpa using d);simp only [eZ,ui,qQ] at a;rcases a with rfl | rfl | rfl;·exact kh<|mA this
  ·exact i7 a'
  ·exact kh<|mA b
variable {oy:I<|I Tx}
def O0 (h:∀x ∈ oy,∀w ∈ x,i6 w):∀w ∈ eH oy,i6 w:=by
 induction oy with
 | nil=>intro w a;simp [eH] at a
 | cons x r b=>
  cases r with
  | nil=>intro w a;exact h x aG w a
  | cons y r=>
   intro w a;simp only [eH,bm,fq] at a;rcases a with (a | rfl) | a;·exact h x aG w a
   ·exact i7 a'
   ·exact b (λc d=>h c<|mI _ d) w a
def O1 (h:∀x ∈ oy,∀w ∈ x,i6 w):∀w ∈ mz oy,i6 w:=by
 intro w a;simp only [mz,bm,fq] at a;rcases a with (rfl | a) | rfl;·exact i7 a'
 ·exact O0 h w a
 ·exact i7 a'
variable {ae:Z}
def at_mem (h:bw ∈ at_ oy ae):∃x ∈ oy,bw ∈ x:=by unfold at_ at h;cases a:oy[ae]? with| none=>simp [a] at h| some x=>rw [a] at h;exact ⟨x,dJ a,h⟩
def O2 (h:7<=aP/\aP<=15):i6<|rx aP:=by have:aP=7\/aP=8\/aP=9\/aP=10\/aP=11\/aP=12\/aP=13\/aP=14\/aP=15:=aj;rcases this with rfl | rfl | rfl | rfl | rfl | rfl | rfl | rfl | rfl<;>exact i7 a'
def E2 {n:ab} (h:k3 1 n=au):0<=n/\n<=1099511627775:=by simp [k3] at h;omega
variable {dw:I cu}
def Xu {op n:ab}    (h:tO op n bw aS dw ae) (f:∀x ∈ aX dw,∀w ∈ x,i6 w):∀w ∈ kU op n bw aS (aX dw),i6 w:=by
 have p:=h.kind;have d:∀i w,w ∈ at_ (aX dw) i->i6 w:=λi w c=>by obtain ⟨x,q,r⟩:=at_mem c;exact f x q w r
 intro w c;unfold kU at c;have e:=h.name;by_cases g:op=1;·subst g;rw [aU rfl,fq] at c;subst c;obtain ⟨a,b⟩:=E2 h.num;exact xa a b
 rw [ao g] at c;by_cases j:op=2;·rw [aU j,fq] at c;subst c;exact kh a'
 rw [ao j] at c;by_cases k:op=3;·subst k;rw [aU rfl] at c;exact zP e w c
 rw [ao k] at c;by_cases l:op=4
 ·subst l;rw [aU rfl] at c;simp only [bm,fq] at c;rcases c with ((c | rfl) | c) | rfl;·exact zP e w c
  ·exact i7 a'
  ·exact d _ _ c
  ·exact i7 a'
 rw [ao l] at c;by_cases m:op=5
 ·subst m;rw [aU rfl,bm] at c;rcases c with c | c;·exact zP e w c
  ·exact O1 f w c
 rw [ao m] at c;by_cases o:op=6
 ·rw [aU o,bm,fq] at c;rcases c with rfl | c;·exact i7 a'
  ·exact d _ _ c
 rw [ao o] at c;simp only [bm,fq] at c;rcases c with (((rfl | c) | rfl) | c) | rfl;·exact i7 a'
 ·exact d _ _ c
 ·exact O2 ⟨aj,p.2⟩
 ·exact d _ _ c
 ·exact i7 a'
mutual
def Xv:∀(x:cu) (d:Z),(ka x d).cy=0->∀w ∈ dW x,i6 w| .mk op n mod nm args,d,h=>by have a:=zM h;unfold dW;exact Xu a<|IR args (d+1) a.sub
def IR:∀(l:I cu) (d:Z),(fH l d).cy=0->∀x ∈ aX l,∀w ∈ x,i6 w
 | [],_,_=>by intro x a;simp [aX] at a
 | y::r,d,h=>by
  obtain ⟨b,c⟩:=IN h;intro x a;unfold aX at a;rcases eZ.1 a with rfl | a;·exact Xv y d b
  ·exact IR r d c x a
end
def BN (h:∀w ∈ cI,i6 w):∀w ∈ pW cI,i6 w:=by
 intro w a;simp only [pW,bm,fq] at a;rcases a with (rfl | a) | rfl;·exact i7 a'
 ·exact h w a
 ·exact i7 a'
variable {c7 nq:I cv}
def Xw (h:pX aP bw aS dw c7 nq ae) (d:∀w ∈ fv c7,i6 w) (e:∀w ∈ fv nq,i6 w) : ∀w ∈ j5 aP bw aS (aX dw) (fv c7) nq.length (fv nq),i6 w:=by
 have k:=h.kind;have f:=IR dw 1 h.exprs;have b:∀i w,w ∈ at_ (aX dw) i->i6 w:=λi w a=>by obtain ⟨x,g,j⟩:=at_mem a;exact f x g w j
 have c:=h.name;intro w a;unfold j5 at a;rcases (by omega:aP=1\/aP=2\/aP=3\/aP=4\/aP=5\/aP=6\/aP=7) with rfl | rfl | rfl | rfl | rfl | rfl | rfl
 ·simp only [dp,dq,reduceCtorEq,nw,s',bm,fq] at a;rcases a with ((a | rfl) | a) | rfl;·exact zP c w a
  ·exact i7 a'
  ·exact b _ _ a
  ·exact i7 a'
 ·simp only [dp,dq,reduceCtorEq,nw,s',bm,fq,eZ,ui,qQ] at a;rcases a with ((((a | rfl) | a) | (rfl | rfl)) | a) | rfl;·exact zP c w a
  ·exact i7 a'
  ·exact b _ _ a
  ·exact i7 a'
  ·exact i7 a'
  ·exact b _ _ a
  ·exact i7 a'
 ·simp only [dp,dq,reduceCtorEq,nw,s',bm,fq] at a;rcases a with (a | a) | rfl;·exact zP c w a
  ·exact O1 f w a
  ·exact i7 a'
 ·simp only [dp,dq,reduceCtorEq,nw,qQ,AF,bm,fq] at a;rcases a with ((rfl | a) | a) | a;·exact kh a'
  ·exact b _ _ a
  ·exact BN d w a
  ·split at a
   ·simp only [bm,fq] at a;rcases a with rfl | a;·exact kh a'
    ·exact BN e w a
   ·simp at a
 ·simp only [dp,dq,reduceCtorEq,nw,or_true,bm,fq] at a;rcases a with ((rfl | a) | a) | a;·exact kh a'
  ·exact b _ _ a
  ·exact BN d w a
  ·split at a
   ·simp only [bm,fq] at a;rcases a with rfl | a;·exact kh a'
    ·exact BN e w a
   ·simp at a
 ·simp only [dp,dq,reduceCtorEq,nw,s',bm,fq] at a;rcases a with (rfl | a) | rfl;·exact kh a'
  ·exact b _ _ a
  ·exact i7 a'
 ·simp only [dp,dq,reduceCtorEq,nw,s',bm,fq] at a;rcases a with (rfl | a) | rfl;·exact kh a'
  ·exact b _ _ a
  ·exact i7 a'
def pX.O3 (b:pX aP bw aS dw c7 nq ae):(e2 c7<|ae+1).cy=0/\(e2 nq<|ae+1).cy=0:=by
 constructor
 ·by_cases a:(inner aP||decide (0<c7.length))=ac;·exact (zO<|b.body a).2.2
  ·have:c7=[]:=by simp at a;exact a.2
   subst this;rfl
 ·by_cases a:0<nq.length;·exact (zO<|b.other a).2.2
  ·have:nq=[]:=r5 aj;subst this;rfl
mutual
def afs:∀(x:cv) (d:Z),(ih x d).cy=0->∀w ∈ hc x,i6 w| .mk op mod nm args body other,d,h=>by have a:=zN h;unfold hc;exact Xw a (E3 body (d+1) a.O3.1)<|E3 other (d+1) a.O3.2
def E3:∀(l:I cv) (d:Z),(e2 l d).cy=0->∀w ∈ fv l,i6 w
 | [],_,_=>by intro x b;simp [fv] at b
 | y::r,d,h=>by
  obtain ⟨c,e⟩:=EW h;intro w a;unfold fv at a;rcases bm.1 a with a | a;·exact afs y d c w a
  ·exact E3 r d e w a
end
def xN:∀{l:I Tx},(dj l).cy=0->∀s ∈ l,gy s=ac
 | [],_,s,a=>by simp at a
 | x::r,h,s,a=>by
  unfold dj at h;obtain ⟨b,c⟩:=bR h;rcases eZ.1 a with rfl | a;·simpa using iP b
  ·exact xN c s a
structure E4 (d:eQ):Prop where
 name:gy d.nm=ac
 kind:d.kind=1\/d.kind=2\/d.kind=3
 n1:d.kind=1->0<=d.n/\d.n<=1099511627775
 n2:d.kind=2->d.n=0
 n3:d.kind=3->1<=d.n/\d.n<=32
variable {fI:eQ}
def we (h:(jZ fI).cy=0):E4 fI:=by
 have b:=afr h;unfold jZ at h;obtain ⟨c,a⟩:=bR h;refine ⟨xN c fI.nm aG,b,λe=>?_,λe=>?_,λe=>?_⟩;·rw [aU e] at a;have:=iP a;simp at this;omega
 ·rw [ao aj,aU e] at a;have:=iP a;simpa using this
 ·rw [ao aj,ao aj,aU e] at a;have:=iP a;simp at this;omega
def Xy (h:(jZ fI).cy=0):∀w ∈ fO fI,i6 w:=by
 have d:=we h;have f:=kh<|mA d.name;intro w c;simp only [fO,bm,fq] at c;rcases c with (c | c) | rfl
 ·unfold g7 at c;split at c;·rw [fq] at c;subst c;exact kh a'
  ·simp at c
 ·unfold pj at c;rcases d.kind with e | e | e
  ·obtain ⟨a,b⟩:=d.n1 e;rw [aU e] at c;simp only [eZ,ui,qQ] at c;rcases c with rfl | rfl | rfl | rfl;·exact kh a'
   ·exact f
   ·exact i7 a'
   ·exact xa a b
  ·rw [ao aj,aU e] at c;simp only [eZ,ui,qQ] at c;rcases c with rfl | rfl;·exact kh a'
   ·exact f
  ·obtain ⟨a,b⟩:=d.n3 e;rw [ao aj,ao aj,aU e] at c;simp only [eZ,ui,qQ] at c;rcases c with rfl | rfl | rfl | rfl | rfl;·exact kh a'
   ·exact f
   ·exact i7 a'
   ·exact xa aj aj
   ·exact i7 a'
 ·exact i7 a'
structure O4 (p:bz):Prop where
 name:gy p.nm=ac
 params:∀s ∈ p.params,gy s=ac
 a6:∀s ∈ p.a6,gy s=ac
 gu:p.params.length<=3/\p.a6.length<=4
 body:(gz p.body 1).cy=0
variable {iw:bz}
def wg (h:(qn iw).cy=0):O4 iw:=by unfold qn at h;obtain ⟨h,a⟩:=bR h;obtain ⟨h,b⟩:=bR h;obtain ⟨h,c⟩:=bR h;obtain ⟨d,e⟩:=bR h;have:=zL b;simp at this;exact ⟨xN d iw.nm aG,xN e,xN c,aj,a⟩
def O5 (h:(gz c7 ae).cy=0):∀w ∈ hd c7,i6 w:=by unfold gz at h;exact BN<|E3 c7 ae (zO h).2.2
def Xz (h:(qn iw).cy=0):∀w ∈ gv iw,i6 w:=by
 have b:=wg h;intro w a;simp only [gv,bm,fq,eZ,ui,qQ,m3] at a;rcases a with ((((a | (rfl | rfl | rfl)) | a) | rfl) | ⟨s,c,a⟩) | a
 ·unfold g7 at a;split at a;·rw [fq] at a;subst a;exact kh a'
  ·simp at a
 ·exact kh a'
 ·exact kh<|mA b.name
 ·exact i7 a'
 ·refine O0 (λx d w a=>?_) w a;obtain ⟨s,c,rfl⟩:=py.1 d;rw [fq] at a;subst a;exact kh<|mA<|b.params _ c
 ·exact i7 a'
 ·simp only [iJ,eZ,ui,qQ] at a;rcases a with rfl | rfl | rfl;·exact kh a'
  ·exact kh<|mA<|b.a6 _ c
  ·exact i7 a'
 ·exact O5 b.body w a
structure mV (m:cM):Prop where
 name:gy m.nm=ac
 aI:∀s ∈ m.aI,gy s=ac
 gu:m.aI.length<=3/\m.decls.length<=10/\m.procs.length<=6
 decls:∀d ∈ m.decls,(jZ d).cy=0
 procs:∀p ∈ m.procs,(qn p).cy=0
 main:(gz m.main 1).cy=0
variable {a8:cM}
def BO (h:(qo a8).cy=0):mV a8:=by unfold qo at h;obtain ⟨h,a⟩:=bR h;obtain ⟨h,b⟩:=bR h;obtain ⟨h,c⟩:=bR h;obtain ⟨h,d⟩:=bR h;obtain ⟨e,f⟩:=bR h;have:=zL d;simp at this;exact ⟨xN e a8.nm aG,xN f,aj,OX c,OY b,a⟩
def E5 (h:(qo a8).cy=0):∀w ∈ hf a8,i6 w:=by
 have b:=BO h;intro w a;simp only [hf,bm,fq,eZ,ui,qQ,m3] at a;rcases a with ((((((rfl | rfl | rfl) | ⟨s,c,a⟩) | ⟨d,e,a⟩) | ⟨p,f,a⟩) | rfl) | a) | rfl;·exact kh a'
 ·exact kh<|mA b.name
 ·exact i7 a'
 ·simp only [ge,eZ,ui,qQ] at a;rcases a with rfl | rfl | rfl;·exact kh a'
  ·exact kh<|mA<|b.aI _ c
  ·exact i7 a'
 ·exact Xy (b.decls d e) w a
 ·exact Xz (b.procs p f) w a
 ·exact kh a'
 ·exact O5 b.main w a
 ·exact i7 a'
def wh (m:cM):Tx×ab:=if hI m=0 then (J<|hf m,0) else ([],hI m)
end Go.Bw
end
section
namespace Go.Bw
open Go
abbrev Tk:=I Tok
def bD (s:Tx):Tk->az Tk| []=>ak| t::r=>if (t.text==s)=ac then aa r else ak
def nN (k:ab):Tk->az (Tok×Tk)| []=>ak| t::r=>if t.kind=k then aa (t,r) else ak
def hU (l:Tk):az<|Tx×Tk:=(nN 1 l).bind λp=>if gy p.1.text=ac then aa (p.1.text,p.2) else ak
def nO (l:Tk):az<|ab×Tk:=(nN 2 l).map λp=>(p.1.n,p.2)
def l4 (l:Tk):az<|(Tx×Tx)×Tk:=(hU l).bind λa=>match bD [46] a.2 with| aa r=>(hU r).map λb=>((a.1,b.1),b.2)| ak=>aa (([],a.1),a.2)
def mB (a:Tk->az (cu×Tk)):Z->Tk->az (I cu×Tk)| 0,_=>ak| n+1,l=>(a l).bind λx=>match bD [41] x.2 with| aa r=>aa ([x.1],r)| ak=>match bD [44] x.2 with| aa r=>(mB a n r).map λq=>(x.1::q.1,q.2)| ak=>ak
def l5 (a:Tk->az (cu×Tk)) (l:Tk):az<|I cu×Tk:=match bD [41] l with| aa r=>aa ([],r)| ak=>mB a (l.length+1) l
def pk:I Tx->Z->Tk->az (Z×Tk)| [],_,_=>ak| w::ws,i,l=>match bD w l with| aa r=>aa (i,r)| ak=>pk ws (i+1) l
def nP (c:Tk->az (cu×Tk)) (l:Tk):az<|cu×Tk:=(c l).bind λa=>(pk opsL 0 a.2).bind λo=>(c o.2).bind λb=>(bD [41] b.2).map λr=>(cu.mk (7+(o.1:ab)) 0 [] [] [a.1,b.1],r)
def oz (a:Tk->az (cu×Tk)) (mod nm:Tx) (l:Tk):az<|cu×Tk:=match bD [91] l with| aa r=>(a r).bind λx=>(bD [93] x.2).map λr=>(cu.mk 4 0 mod nm [x.1],r)| ak=>match bD [40] l with| aa r=>(l5 a r).map λq=>(cu.mk 5 0 mod nm q.1,q.2)| ak=>aa (cu.mk 3 0 mod nm [],l)
def mC (a:Tk->az (cu×Tk)) (l:Tk):az<|cu×Tk:=match bD wd l with| aa r=>aa (cu.mk 2 0 [] [] [],r)| ak=>match bD [33] l with| aa r=>(a r).map λx=>(cu.mk 6 0 [] [] [x.1],x.2)| ak=>match bD [40] l with| aa r=>nP a r| ak=>(l4 l).bind λp=>oz a p.1.1 p.1.2 p.2
def fg:Z->Tk->az (cu×Tk)| 0,_=>ak| f+1,l=>match l with| []=>ak| t::r=>if t.kind=2 then aa (cu.mk 1 t.n [] [] [],r) else mC (fg f) (t::r)
def ht (l:Tk):az<|cv×Tk:=match bD bF l with| aa r=>(fg 6 r).map λx=>(cv.mk 6 [] [] [x.1] [] [],x.2)| ak=>match bD gq l with| aa r=>(fg 6 r).map λx=>(cv.mk 7 [] [] [x.1] [] [],x.2)| ak=>(l4 l).bind λp=>match bD [40] p.2 with| aa r=>(l5 (fg 6) r).map λq=>(cv.mk 3 p.1.1 p.1.2 q.1 [] [],q.2)| ak=>match bD [91] p.2 with| aa r=>(fg 6 r).bind λi=>(bD [93] i.2).bind λr=>(bD [61] r).bind λr=>(fg 6 r).map λx=>(cv.mk 2 p.1.1 p.1.2 [i.1,x.1] [] [],x.2)| ak=>(bD [61] p.2).bind λr=>(fg 6 r).map λx=>(cv.mk 1 p.1.1 p.1.2 [x.1] [] [],x.2)
def gC (a:Tk->az (I cv×Tk)) (l:Tk):az<|cv×Tk:=match bD fQ l with
 | aa r=>(fg 6 r).bind λx=>(a x.2).bind λb=>match bD gn b.2 with| aa r=>(a r).bind λo=>if o.1.length=0 then ak else aa (cv.mk 4 [] [] [x.1] b.1 o.1,o.2)| ak=>aa (cv.mk 4 [] [] [x.1] b.1 [],b.2)
 | ak=>match bD fZ l with| aa r=>(fg 6 r).bind λx=>(a x.2).map λb=>(cv.mk 5 [] [] [x.1] b.1 [],b.2)| ak=>(ht l).bind λs=>(bD [59] s.2).map λr=>(s.1,r)
def oA (ps:Tk->az (cv×Tk)):Z->Tk->az (I cv×Tk)| 0,_=>ak| n+1,l=>match bD [125] l with| aa r=>aa ([],r)| ak=>(ps l).bind λs=>(oA ps n s.2).map λq=>(s.1::q.1,q.2)
def ib:Z->Tk->az (I cv×Tk)| 0,_=>ak| f+1,l=>(bD [123] l).bind λr=>oA (gC<|ib f) (r.length+1) r
def hD (cz:aQ) (l:Tk):az<|az eQ×Tk:=match bD lf l with| aa r=>(hU r).bind λa=>(bD [61] a.2).bind λr=>(nO r).bind λn=>(bD [59] n.2).map λr=>(aa ⟨1,a.1,cz,n.1⟩,r)| ak=>match bD lg l with| aa r=>(hU r).bind λa=>(bD [59] a.2).map λr=>(aa ⟨2,a.1,cz,0⟩,r)| ak=>match bD lh l with| aa r=>(hU r).bind λa=>(bD [91] a.2).bind λr=>(nO r).bind λn=>(bD [93] n.2).bind λr=>(bD [59] r).map λr=>(aa ⟨3,a.1,cz,n.1⟩,r)| ak=>aa (ak,l)
def bx (l:Tk):aQ×Tk:=((bD nM l).isSome,(bD nM l).getD l)
def mD:Z->aQ->Tk->az ((I eQ×aQ)×Tk)| 0,_,_=>ak| n+1,cz,l=>(hD cz l).bind λd=>match d.1 with| ak=>aa (([],cz),d.2)| aa x=>(mD n (bx d.2).1 (bx d.2).2).map λq=>((x::q.1.1,q.1.2),q.2)
def kF:Z->aQ->Tk->az (I Tx×Tk)| 0,_,_=>ak| n+1,first,l=>match bD [41] l with| aa r=>aa ([],r)| ak=>(if first=ac then aa l else bD [44] l).bind λl=>(hU l).bind λa=>(kF n au a.2).map λq=>(a.1::q.1,q.2)
def lE:Z->Tk->az (I Tx×Tk)| 0,_=>ak| n+1,l=>match bD my l with| aa r=>(hU r).bind λa=>(bD [59] a.2).bind λr=>(lE n r).map λq=>(a.1::q.1,q.2)| ak=>aa ([],l)
def kV (cz:aQ) (l:Tk):az<|bz×Tk:=(hU l).bind λa=>(bD [40] a.2).bind λr=>(kF (r.length+1) ac r).bind λps=>(lE (ps.2.length+1) ps.2).bind λc=>(ib 6 c.2).map λb=>(⟨a.1,cz,ps.1,c.1,b.1⟩,b.2)
def mE:Z->aQ->Tk->az ((I bz×aQ)×Tk)| 0,_,_=>ak| n+1,cz,l=>match bD li l with| aa r=>(kV cz r).bind λp=>(mE n (bx p.2).1 (bx p.2).2).map λq=>((p.1::q.1.1,q.1.2),q.2)| ak=>aa (([],cz),l)
def lj:Z->Tk->az (I Tx×Tk)| 0,_=>ak| n+1,l=>match bD lD l with| aa r=>(hU r).bind λa=>(bD [59] a.2).bind λr=>(lj n r).map λq=>(a.1::q.1,q.2)| ak=>aa ([],l)
def lF (l:Tk):az<|cM×Tk:=(bD np l).bind λr=>(hU r).bind λa=>(bD [123] a.2).bind λr=>(lj (r.length+1) r).bind λu=> (mD ((bx u.2).2.length+1) (bx u.2).1 (bx u.2).2).bind λd=>(mE (d.2.length+1) d.1.2 d.2).bind λp=>if p.1.2=ac then ak else (bD h2 p.2).bind λr=>(ib 6 r).bind λb=>(bD [125] b.2).map λr=>(⟨a.1,u.1,d.1.1,p.1.1,b.1⟩,r)
def iK (l:Tk):Prop:=∀t ∈ l,EX t
def gR (l:Tk) (a:I Tx) (r:Tk):Prop:=iK l/\l=a.map df++r
variable {a_ cm:Tk} {cI:I Tx}
def gR.ok (h:gR a_ cI cm):iK cm:=λt a=>h.1 t (by rw [h.2];exact cG _ a)
variable {iZ:Tk} {E6:I Tx}
def gR.trans (h:gR a_ cI cm) (k:gR cm E6 iZ):gR a_ (cI++E6) iZ:=⟨h.1,by rw [h.2,k.2];simp⟩
def gR.nil (h:iK a_):gR a_ [] a_:=⟨h,rfl⟩
def gR.cast (h:gR a_ cI cm) (e:cI=E6):gR a_ E6 cm:=e▸h
variable {bw:Tx}
def gS (b:iK a_) (d:bw≠[]) (h:bD bw a_=aa cm):gR a_ [bw] cm:=by
 cases a_ with
 | nil=>cases h
 | cons t q=>
  simp only [bD] at h;split at h
  ·rename_i a;injection h with h;subst h;simp only [j8] at a;refine ⟨b,?_⟩;have c:=b t aG;have e:cj t=bw:=by
    unfold cj;rw [ao];·exact a
    ·intro f;have:=c.2;unfold jW at this;rw [ao aj,aU f] at this;simp [a,d] at this
   simp [<-e,EZ c]
  ·cases h
def ry (a:iK a_) (h:hU a_=aa (bw,cm)):gR a_ [bw] cm/\gy bw=ac:=by
 cases a_ with
 | nil=>cases h
 | cons t q=>
  unfold hU nN at h;dsimp only at h;by_cases b:t.kind=1
  ·rw [aU b] at h;simp only [cF] at h;split at h
   ·rename_i c;injection h with h;injection h with d f;subst d f;refine ⟨⟨a,?_⟩,c⟩;have g:=a t aG;have e:cj t=t.text:=by rw [cj,ao aj]
    rw [<-e];simp [EZ g]
   ·cases h
  ·rw [ao b] at h;cases h
def IS {n:ab} (b:iK a_) (h:nO a_=aa (n,cm)):gR a_ [hO n] cm:=by
 cases a_ with
 | nil=>cases h
 | cons t q=>
  unfold nO nN at h;dsimp only at h;by_cases a:t.kind=2
  ·rw [aU a] at h;simp only [eI] at h;injection h with h;injection h with c d;subst c d;refine ⟨b,?_⟩;have f:=b t aG;have e:cj t=hO t.n:=by rw [cj,aU a]
   rw [<-e];simp [EZ f]
  ·rw [ao a] at h;cases h
def IT {mod nm:Tx} (j:iK a_) (h:l4 a_=aa ((mod,nm),cm)):gR a_ (gZ mod nm) cm:=by
 unfold l4 at h;obtain ⟨⟨a,q⟩,k,c⟩:=dl.1 h;obtain ⟨d,n1⟩:=ry j k;simp only at c;cases e:bD [46] q with
 | none=>rw [e] at c;simp only [gi,dY] at c;obtain ⟨⟨rfl,rfl⟩,rfl⟩:=c;exact d
 | some n=>
  rw [e] at c;obtain ⟨⟨b,o⟩,l,f⟩:=eD.1 c;simp only [dY] at f;obtain ⟨⟨rfl,rfl⟩,rfl⟩:=f;have g:=gS d.ok aG e;obtain ⟨m,n3⟩:=ry g.ok l;refine ((d.trans g).trans m).cast ?_;unfold gZ;rw [ao];·rfl
  ·intro i;simp only [j8] at i;subst i;simp [gy,gm] at n1
def Sound (a:Tk->az (cu×Tk)):Prop:=∀l x r,iK l->a l=aa (x,r)->gR l (dW x) r
variable {gD:Tk->az (cu×Tk)}
def IU (g:Sound gD):∀(n:Z) (l:Tk) (xs:I cu) (r:Tk),iK l->mB gD n l=aa (xs,r)->gR l (eH (aX xs)++[[41]]) r
 | 0,_,_,_,_,h=>by cases h
 | n+1,l,xs,r,m,h=>by
  unfold mB at h;obtain ⟨⟨x,q⟩,o,a⟩:=dl.1 h;have c:=g l x q m o;simp only at a;cases e:bD [41] q with
  | some i=>rw [e] at a;simp only [gi,dY] at a;obtain ⟨rfl,rfl⟩:=a;exact c.trans<|gS c.ok aG e
  | none=>
   rw [e] at a;simp only at a;cases f:bD [44] q with
   | none=>rw [f] at a;cases a
   | some i=>
    rw [f] at a;obtain ⟨⟨ys,p⟩,d,j⟩:=eD.1 a;simp only [dY] at j;obtain ⟨rfl,rfl⟩:=j;have k:=gS c.ok aG f;have s:=IU g n i ys p k.ok d;refine ((c.trans k).trans s).cast ?_;cases ys with
    | nil=>
     exfalso;cases n with
     | zero=>cases d
     | succ n=>
      unfold mB at d;obtain ⟨⟨y,u⟩,_,b⟩:=dl.1 d;simp only at b;split at b;·simp at b
      ·split at b;·obtain ⟨v,_,t⟩:=eD.1 b;simp at t
       ·cases b
    | cons y ys=>simp [aX,eH]
def O6 (c:Sound gD)  {xs:I cu} (d:iK a_) (e:bD [40] a_=aa iZ) (h:l5 gD iZ=aa (xs,cm)):gR a_ (mz<|aX xs) cm:=by have a:=gS d aG e;unfold l5 at h;cases b:bD [41] iZ with| some f=>rw [b] at h;simp only [gi,dY] at h;obtain ⟨rfl,rfl⟩:=h;exact a.trans<|gS a.ok aG b| none=>rw [b] at h;exact (a.trans<|IU c _ iZ xs cm a.ok h).cast (by simp [mz])
def O7:∀(a:I Tx) (i:Z) (l r:Tk) (k:Z),iK l->(∀w ∈ a,w≠[])->pk a i l=aa (k,r)->∃j,k=i+j/\∃w,a[j]? = aa w/\gR l [w] r| [],_,_,_,_,_,_,h=>by cases h| w::a,i,l,r,k,c,hw,h=>by unfold pk at h;cases b:bD w l with| some q=>rw [b] at h;simp only [gi,dY] at h;obtain ⟨rfl,rfl⟩:=h;exact ⟨0,O,w,O,gS c (hw w aG) b⟩| none=>rw [b] at h;obtain ⟨j,f,v,d,e⟩:=O7 a (i+1) l r k c (λv hv=>hw v<|mI _ hv) h;exact ⟨j+1,aj,v,by simpa using d,e⟩
def IV (op n:ab) (mod nm:Tx) (args:I cu):dW (.mk op n mod nm args)=kU op n mod nm (aX args):=by rw [dW]
variable {aw:cu}
def afv (c:Sound gD)   (n:iK a_) (p:bD [40] a_=aa iZ) (h:nP gD iZ=aa (aw,cm)):gR a_ (dW aw) cm:=by
 have d:=gS n aG p;unfold nP at h;obtain ⟨⟨a,e⟩,q,r⟩:=dl.1 h;obtain ⟨⟨o,f⟩,s,t⟩:=dl.1 r;obtain ⟨⟨b,u⟩,v,x⟩:=dl.1 t;obtain ⟨B,y,g⟩:=eD.1 x;simp only [dY] at g;obtain ⟨rfl,rfl⟩:=g;have i:=c iZ a e d.ok q;obtain ⟨j,C,w,k,l⟩:=O7 opsL 0 e f o i.ok a' s;have m:=c f b u l.ok v;have z:=gS m.ok aG y;refine ((((d.trans i).trans l).trans m).trans z).cast ?_;obtain rfl:o=j:=aj;have D:o<9:=(c_.1 k).1;have A:rx (7+(o:ab))=w:=by unfold rx;rw [show ((7+(o:ab))-7).toNat=o by omega,k];rfl
 rw [IV,kU,ao aj,ao aj,ao aj,ao aj,ao aj,ao aj,A];simp [aX,at_]
def XB (f:Sound gD)  {mod nm:Tx}  (a:gR cm (gZ mod nm) a_) (h:oz gD mod nm a_=aa (aw,iZ)):gR cm (dW aw) iZ:=by unfold oz at h;cases c:bD [91] a_ with| some q=>rw [c] at h;obtain ⟨⟨y,g⟩,d,b⟩:=dl.1 h;obtain ⟨n,l,i⟩:=eD.1 b;simp only [dY] at i;obtain ⟨rfl,rfl⟩:=i;have j:=gS a.ok aG c;have k:=f q y g j.ok d;have m:=gS k.ok aG l;exact (((a.trans j).trans k).trans m).cast (by simp [dW,kU,aX,at_])| none=>rw [c] at h;simp only at h;cases e:bD [40] a_ with| some q=>rw [e] at h;obtain ⟨⟨xs,g⟩,d,b⟩:=eD.1 h;simp only [dY] at b;obtain ⟨rfl,rfl⟩:=b;exact (a.trans<|O6 f a.ok e d).cast (by simp [dW,kU])| none=>rw [e] at h;simp only [gi,dY] at h;obtain ⟨rfl,rfl⟩:=h;exact a.cast (by simp [dW,kU])
def XC (c:Sound gD):Sound<|mC gD:=by intro l x r a h;unfold mC at h;cases d:bD wd l with| some q=>rw [d] at h;simp only [gi,dY] at h;obtain ⟨rfl,rfl⟩:=h;exact (gS a a' d).cast (by simp [dW,kU])| none=>rw [d] at h;simp only at h;cases e:bD [33] l with| some q=>rw [e] at h;obtain ⟨⟨y,j⟩,f,b⟩:=eD.1 h;simp only [dY] at b;obtain ⟨rfl,rfl⟩:=b;have i:=gS a aG e;exact (i.trans<|c q y j i.ok f).cast (by simp [dW,kU,aX,at_])| none=>rw [e] at h;simp only at h;cases g:bD [40] l with| some q=>rw [g] at h;exact afv c a g h| none=>rw [g] at h;obtain ⟨⟨⟨mod,nm⟩,q⟩,f,b⟩:=dl.1 h;exact XB c (IT a f) b
def zQ:∀f,Sound (fg f)
 | 0=>λ_ _ _ _ h=>by cases h
 | f+1=>by
  intro l x r a h;cases l with
  | nil=>cases h
  | cons t q=>
   unfold fg at h;by_cases b:t.kind=2
   ·simp only [aU b,gi,dY] at h;obtain ⟨rfl,rfl⟩:=h;refine ⟨a,?_⟩;have c:=a t aG;have e:cj t=hO t.n:=by rw [cj,aU b]
    have d:dW (cu.mk 1 t.n [] [] [])=[hO t.n]:=by simp [dW,kU]
    rw [d,<-e];simp [EZ c]
   ·simp only [ao b] at h;exact XC (zQ f) _ x r a h
end Go.Bw
end
section
namespace Go.Bw
open Go
def sL (op:ab) (mod nm:Tx) (args:I cu) (body other:I cv):hc (.mk op mod nm args body other)=j5 op mod nm (aX args) (fv body) other.length (fv other):=by rw [hc]
variable {a_ cm:Tk} {cL:cv}
def XD (n:iK a_) (h:ht a_=aa (cL,cm)):∃t,hc cL=t++[[59]]/\gR a_ t cm:=by have c:=zQ 6;unfold ht at h;cases o:bD bF a_ with| some q=>rw [o] at h;obtain ⟨⟨x,d⟩,j,e⟩:=eD.1 h;simp only [dY] at e;obtain ⟨rfl,rfl⟩:=e;have b:=gS n a' o;exact ⟨[bF]++dW x,by simp [sL,j5,aX,at_],b.trans<|c q x d b.ok j⟩| none=>rw [o] at h;simp only at h;cases j:bD gq a_ with| some q=>rw [j] at h;obtain ⟨⟨x,d⟩,e,a⟩:=eD.1 h;simp only [dY] at a;obtain ⟨rfl,rfl⟩:=a;have b:=gS n a' j;exact ⟨[gq]++dW x,by simp [sL,j5,aX,at_],b.trans<|c q x d b.ok e⟩| none=>rw [j] at h;obtain ⟨⟨⟨mod,nm⟩,q⟩,e,a⟩:=dl.1 h;have f:=IT n e;simp only at a;cases p:bD [40] q with| some d=>rw [p] at a;obtain ⟨⟨xs,u⟩,k,g⟩:=eD.1 a;simp only [dY] at g;obtain ⟨rfl,rfl⟩:=g;exact ⟨gZ mod nm++mz (aX xs),by simp [sL,j5],f.trans<|O6 c f.ok p k⟩| none=>rw [p] at a;simp only at a;cases k:bD [91] q with| some d=>rw [k] at a;obtain ⟨⟨i,u⟩,g,r⟩:=dl.1 a;obtain ⟨D,s,l⟩:=dl.1 r;obtain ⟨E,z,A⟩:=dl.1 l;obtain ⟨⟨x,F⟩,B,v⟩:=eD.1 A;simp only [dY] at v;obtain ⟨rfl,rfl⟩:=v;have b:=gS f.ok aG k;have m:=c _ _ _ b.ok g;have w:=gS m.ok aG s;have y:=gS w.ok aG z;have C:=c _ _ _ y.ok B;exact ⟨gZ mod nm++[[91]]++dW i++[[93],[61]]++dW x,by simp [sL,j5,aX,at_],(((((f.trans b).trans m).trans w).trans y).trans C).cast aG⟩| none=>rw [k] at a;obtain ⟨d,g,r⟩:=dl.1 a;obtain ⟨⟨x,u⟩,s,l⟩:=eD.1 r;simp only [dY] at l;obtain ⟨rfl,rfl⟩:=l;have b:=gS f.ok aG g;have m:=c _ _ _ b.ok s;exact ⟨gZ mod nm++[[61]]++dW x,by simp [sL,j5,aX,at_],(f.trans b).trans m⟩
def IW (a:Tk->az (I cv×Tk)):Prop:=∀l x r,iK l->a l=aa (x,r)->gR l (hd x) r
def IX {p:Tk->az (I cv×Tk)} (l:IW p)   (m:iK a_) (h:gC p a_=aa (cL,cm)):gR a_ (hc cL) cm:=by
 have r:=zQ 6;unfold gC at h;cases n:bD fQ a_ with
 | some q=>
  rw [n] at h;obtain ⟨⟨x,s⟩,f,g⟩:=dl.1 h;obtain ⟨⟨b,t⟩,i,a⟩:=dl.1 g;have e:=gS m a' n;have c:=r _ _ _ e.ok f;have j:=l _ _ _ c.ok i;simp only at a;cases d:bD gn t with
  | some y=>
   rw [d] at a;obtain ⟨⟨o,z⟩,v,k⟩:=dl.1 a;simp only at k;split at k;·cases k
   ·rename_i A;simp only [gi,dY] at k;obtain ⟨rfl,rfl⟩:=k;have u:=gS j.ok a' d;have w:=l _ _ _ u.ok v;refine ((((e.trans c).trans j).trans u).trans w).cast ?_;rw [sL];simp only [j5,nw,qQ,AF,dp,dq];rw [aU aj];simp [aX,at_,hd]| none=>rw [d] at a;simp only [gi,dY] at a;obtain ⟨rfl,rfl⟩:=a;exact ((e.trans c).trans j).cast (by simp [sL,j5,aX,at_,hd])
 | none=>rw [n] at h;simp only at h;cases f:bD fZ a_ with| some q=>rw [f] at h;obtain ⟨⟨x,s⟩,g,i⟩:=dl.1 h;obtain ⟨⟨b,t⟩,a,d⟩:=eD.1 i;simp only [dY] at d;obtain ⟨rfl,rfl⟩:=d;have e:=gS m a' f;have c:=r _ _ _ e.ok g;have j:=l _ _ _ c.ok a;exact ((e.trans c).trans j).cast (by simp [sL,j5,aX,at_,hd])| none=>rw [f] at h;obtain ⟨⟨B,q⟩,g,i⟩:=dl.1 h;obtain ⟨s,a,d⟩:=eD.1 i;simp only [dY] at d;obtain ⟨rfl,rfl⟩:=d;obtain ⟨C,e,c⟩:=XD m g;exact (c.trans<|gS c.ok aG a).cast e.symm
def O8 {ps:Tk->az (cv×Tk)} (b:∀l x r,iK l->ps l=aa (x,r)->gR l (hc x) r):∀(n:Z) (l:Tk) (xs:I cv) (r:Tk),iK l->oA ps n l=aa (xs,r)->gR l (fv xs++[[125]]) r| 0,_,_,_,_,h=>by cases h| n+1,l,xs,r,c,h=>by unfold oA at h;cases a:bD [125] l with| some q=>rw [a] at h;simp only [gi,dY] at h;obtain ⟨rfl,rfl⟩:=h;exact (gS c aG a).cast (by simp [fv])| none=>rw [a] at h;obtain ⟨⟨s,q⟩,f,g⟩:=dl.1 h;obtain ⟨⟨ys,i⟩,j,d⟩:=eD.1 g;simp only [dY] at d;obtain ⟨rfl,rfl⟩:=d;have e:=b l s q c f;exact (e.trans<|O8 b n q ys i e.ok j).cast (by simp [fv])
def zR:∀f,IW (ib f)| 0=>λ_ _ _ _ h=>by cases h| f+1=>by intro l x r a h;unfold ib at h;obtain ⟨q,c,d⟩:=dl.1 h;have b:=gS a aG c;exact (b.trans<|O8 (λl x r a h=>IX (zR f) a h) _ q x r b.ok d).cast (by simp [hd,pW])
def IY (a:iK a_):gR a_ (g7 (bx a_).1) (bx a_).2:=by unfold bx;cases h:bD nM a_ with| some q=>exact gS a a' h| none=>exact gR.nil a
def rz (d:eQ):I Tx:=pj d++[[59]]
variable {dE:aQ}
def IZ {d:eQ} (p:iK a_) (h:hD dE a_=aa (aa d,cm)):gR a_ (rz d) cm/\d.cz=dE:=by unfold hD at h;cases r:bD lf a_ with| some q=>rw [r] at h;obtain ⟨⟨a,u⟩,i,e⟩:=dl.1 h;obtain ⟨v,j,k⟩:=dl.1 e;obtain ⟨⟨n,x⟩,g,s⟩:=dl.1 k;obtain ⟨y,t,m⟩:=eD.1 s;simp only [dY,gi] at m;obtain ⟨rfl,rfl⟩:=m;have b:=gS p a' r;have c:=(ry b.ok i).1;have f:=gS c.ok aG j;have l:=IS f.ok g;have o:=gS l.ok aG t;exact ⟨((((b.trans c).trans f).trans l).trans o).cast (by simp [rz,pj]),O⟩| none=>rw [r] at h;simp only at h;cases i:bD lg a_ with| some q=>rw [i] at h;obtain ⟨⟨a,u⟩,e,j⟩:=dl.1 h;obtain ⟨v,k,g⟩:=eD.1 j;simp only [dY,gi] at g;obtain ⟨rfl,rfl⟩:=g;have b:=gS p a' i;have c:=(ry b.ok e).1;have f:=gS c.ok aG k;exact ⟨((b.trans c).trans f).cast (by simp [rz,pj]),O⟩| none=>rw [i] at h;simp only at h;cases e:bD lh a_ with| some q=>rw [e] at h;obtain ⟨⟨a,u⟩,j,k⟩:=dl.1 h;obtain ⟨v,g,s⟩:=dl.1 k;obtain ⟨⟨n,x⟩,t,m⟩:=dl.1 s;obtain ⟨y,z,A⟩:=dl.1 m;obtain ⟨D,B,w⟩:=eD.1 A;simp only [dY,gi] at w;obtain ⟨rfl,rfl⟩:=w;have b:=gS p a' e;have c:=(ry b.ok j).1;have f:=gS c.ok aG g;have l:=IS f.ok t;have o:=gS l.ok aG z;have C:=gS o.ok aG B;exact ⟨(((((b.trans c).trans f).trans l).trans o).trans C).cast (by simp [rz,pj]),O⟩| none=>rw [e] at h;simp at h
def E7 (h:hD dE a_=aa (ak,cm)):cm=a_:=by
 unfold hD at h;split at h;·obtain ⟨_,_,h⟩:=dl.1 h;obtain ⟨_,_,h⟩:=dl.1 h;obtain ⟨_,_,h⟩:=dl.1 h;obtain ⟨_,_,h⟩:=eD.1 h;simp at h
 ·split at h;·obtain ⟨_,_,h⟩:=dl.1 h;obtain ⟨_,_,h⟩:=eD.1 h;simp at h
  ·split at h;·obtain ⟨_,_,h⟩:=dl.1 h;obtain ⟨_,_,h⟩:=dl.1 h;obtain ⟨_,_,h⟩:=dl.1 h;obtain ⟨_,_,h⟩:=dl.1 h;obtain ⟨_,_,h⟩:=eD.1 h;simp at h
   ·simp at h;exact h.symm
def O9:∀(n:Z) (cz:aQ) (a l:Tk) (ds:I eQ) (b:aQ) (r:Tk),gR a (g7 cz) l->mD n cz l=aa ((ds,b),r)->gR a (ds.flatMap fO++g7 b) r| 0,_,_,_,_,_,_,_,h=>by cases h| n+1,cz,a,l,ds,b,r,c,h=>by unfold mD at h;obtain ⟨⟨o,q⟩,e,d⟩:=dl.1 h;cases o with| none=>simp only [gi,dY] at d;obtain ⟨⟨rfl,rfl⟩,rfl⟩:=d;obtain rfl:=E7 e;exact c| some x=>obtain ⟨⟨⟨ys,i⟩,j⟩,k,f⟩:=eD.1 d;simp only [dY] at f;obtain ⟨⟨rfl,rfl⟩,rfl⟩:=f;obtain ⟨g,m⟩:=IZ c.ok e;have p:=O9 n _ q _ ys i j (IY g.ok) k;refine ((c.trans g).trans p).cast ?_;rw [jm,fO,m,rz];simp
def O':∀(n:Z) (first:aQ) (l:Tk) (xs:I Tx) (r:Tk),iK l->kF n first l=aa (xs,r)->gR l ((if first=ac\/xs=[] then [] else [[44]])++eH (xs.map λs=>[s])++[[41]]) r
 | 0,_,_,_,_,_,h=>by cases h
 | n+1,first,l,xs,r,b,h=>by
  unfold kF at h;cases c:bD [41] l with
  | some q=>rw [c] at h;simp only [gi,dY] at h;obtain ⟨rfl,rfl⟩:=h;exact (gS b aG c).cast (by simp [eH])
  | none=>
   rw [c] at h;obtain ⟨i,d,j⟩:=dl.1 h;obtain ⟨⟨a,q⟩,k,m⟩:=dl.1 j;obtain ⟨⟨ys,o⟩,p,e⟩:=eD.1 m;simp only [dY] at e;obtain ⟨rfl,rfl⟩:=e;have f:gR l (if first=ac then [] else [[44]]) i:=by cases first with| true=>simp only [dp,gi] at d;subst d;exact gR.nil b| false=>exact gS b aG d
   have g:=(ry f.ok k).1;have t:=O' n au q ys o g.ok p;refine ((f.trans g).trans t).cast ?_;cases ys with| nil=>cases first<;>simp [eH]| cons y ys=>cases first<;>simp [eH]
def O_:∀(n:Z) (l:Tk) (xs:I Tx) (r:Tk),iK l->lE n l=aa (xs,r)->gR l (xs.flatMap iJ) r| 0,_,_,_,_,h=>by cases h| n+1,l,xs,r,c,h=>by unfold lE at h;cases b:bD my l with| none=>rw [b] at h;simp only [gi,dY] at h;obtain ⟨rfl,rfl⟩:=h;exact gR.nil c| some q=>rw [b] at h;obtain ⟨⟨a,t⟩,i,j⟩:=dl.1 h;obtain ⟨k,m,o⟩:=dl.1 j;obtain ⟨⟨ys,p⟩,s,d⟩:=eD.1 o;simp only [dY] at d;obtain ⟨rfl,rfl⟩:=d;have e:=gS c a' b;have f:=(ry e.ok i).1;have g:=gS f.ok aG m;exact (((e.trans f).trans g).trans<|O_ n k ys p g.ok s).cast (by simp [iJ])
def Pa:∀(n:Z) (l:Tk) (xs:I Tx) (r:Tk),iK l->lj n l=aa (xs,r)->gR l (xs.flatMap ge) r| 0,_,_,_,_,h=>by cases h| n+1,l,xs,r,c,h=>by unfold lj at h;cases b:bD lD l with| none=>rw [b] at h;simp only [gi,dY] at h;obtain ⟨rfl,rfl⟩:=h;exact gR.nil c| some q=>rw [b] at h;obtain ⟨⟨a,t⟩,i,j⟩:=dl.1 h;obtain ⟨k,m,o⟩:=dl.1 j;obtain ⟨⟨ys,p⟩,s,d⟩:=eD.1 o;simp only [dY] at d;obtain ⟨rfl,rfl⟩:=d;have e:=gS c a' b;have f:=(ry e.ok i).1;have g:=gS f.ok aG m;exact (((e.trans f).trans g).trans<|Pa n k ys p g.ok s).cast (by simp [ge])
def iX (p:bz):I Tx:=[p.nm,[40]]++eH (p.params.map λs=>[s])++[[41]]++p.a6.flatMap iJ++hd p.body
def I0 {p:bz} (i:iK a_) (h:kV dE a_=aa (p,cm)):gR a_ (iX p) cm/\p.cz=dE:=by unfold kV at h;obtain ⟨⟨a,u⟩,j,k⟩:=dl.1 h;obtain ⟨v,l,m⟩:=dl.1 k;obtain ⟨⟨ps,w⟩,n,o⟩:=dl.1 m;obtain ⟨⟨x,y⟩,q,r⟩:=dl.1 o;obtain ⟨⟨b,z⟩,s,c⟩:=eD.1 r;simp only [dY] at c;obtain ⟨rfl,rfl⟩:=c;have d:=(ry i j).1;have e:=gS d.ok aG l;have f:=O' _ _ _ _ _ e.ok n;have g:=O_ _ _ _ _ f.ok q;have t:=zR 6 _ _ _ g.ok s;exact ⟨((((d.trans e).trans f).trans g).trans t).cast (by simp [iX]),O⟩
def Pb:∀(n:Z) (cz:aQ) (a l:Tk) (ds:I bz) (b:aQ) (r:Tk),gR a (g7 cz) l->mE n cz l=aa ((ds,b),r)->gR a (ds.flatMap gv++g7 b) r| 0,_,_,_,_,_,_,_,h=>by cases h| n+1,cz,a,l,ds,b,r,c,h=>by unfold mE at h;cases d:bD li l with| none=>rw [d] at h;simp only [gi,dY] at h;obtain ⟨⟨rfl,rfl⟩,rfl⟩:=h;exact c| some q=>rw [d] at h;obtain ⟨⟨p,i⟩,j,k⟩:=dl.1 h;obtain ⟨⟨⟨ys,m⟩,o⟩,s,e⟩:=eD.1 k;simp only [dY] at e;obtain ⟨⟨rfl,rfl⟩,rfl⟩:=e;have f:=gS c.ok a' d;obtain ⟨g,t⟩:=I0 f.ok j;have u:=Pb n _ i _ ys m o (IY g.ok) s;refine (((c.trans f).trans g).trans u).cast ?_;rw [jm,gv,t,iX];simp
def afw {m:cM} (r:iK a_) (h:lF a_=aa (m,cm)):gR a_ (hf m) cm:=by
 unfold lF at h;obtain ⟨N,s,h⟩:=dl.1 h;obtain ⟨⟨a,P⟩,u,h⟩:=dl.1 h;obtain ⟨Q,v,h⟩:=dl.1 h;obtain ⟨⟨us,f⟩,w,h⟩:=dl.1 h;obtain ⟨⟨⟨ds,d⟩,e⟩,x,h⟩:=dl.1 h;obtain ⟨⟨⟨ps,y⟩,z⟩,A,h⟩:=dl.1 h;simp only at h;split at h;·cases h
 ·rename_i B;obtain ⟨R,C,h⟩:=dl.1 h;obtain ⟨⟨b,S⟩,D,h⟩:=dl.1 h;obtain ⟨T,E,g⟩:=eD.1 h;simp only [dY] at g;obtain ⟨rfl,rfl⟩:=g;have i:=gS r a' s;have j:=(ry i.ok u).1;have k:=gS j.ok aG v;have l:=Pa _ _ _ _ k.ok w;have c:=O9 _ _ f _ ds d e (IY l.ok) x;have F:y=au:=by simpa using B
  subst F;have G:∃q,gR f (ds.flatMap fO) q/\gR q (g7 d) e:=by refine ⟨(g7 d).map df++e,⟨c.1,by rw [c.2];simp⟩,⟨λt H=>c.1 t (by rw [c.2];simp only [nY,ho];exact cG _ H),O⟩⟩
  obtain ⟨J,K,L⟩:=G;have n:=Pb _ _ J _ ps au z L A;have o:=gS n.ok a' C;have p:=zR 6 _ _ _ o.ok D;have M:=gS p.ok aG E;exact ((((((((i.trans j).trans k).trans l).trans K).trans n).trans o).trans p).trans M).cast (by simp [hf,g7])
end Go.Bw
end
section
namespace Go.Bw
open Go
def TW (l:I Tx):Tk:=l.map df
def BP:TW []=[]:=rfl
def jy (a b:I Tx):TW (a++b)=TW a++TW b:=nY
def XF (x:Tx) (b:I Tx):TW (x::b)=df x::TW b:=rfl
variable {bw aS:Tx} {a_:Tk}
def Pc (h:gm aS=ac):bD bw (df aS::a_)=if (aS==bw)=ac then aa a_ else ak:=by rw [BL h];rfl
variable {g3:a7}
def tQ (h:g3 ∈ uz):bD bw (df [g3]::a_)=if ([g3]==bw)=ac then aa a_ else ak:=by rw [EY g3 h];rfl
variable {aP:ab}
def XG (a:0<=aP) (b:aP<=1099511627775) (c:bw≠[]):bD bw (df (hO aP)::a_)=ak:=by rw [BM a b];simp only [bD];rw [ao];intro h;simp only [j8] at h;exact c h.symm
def eO (h:gy bw=ac):hU (df bw::a_)=aa (bw,a_):=by rw [BL<|mA h];simp [hU,nN,h]
def Pd (a:0<=aP) (b:aP<=1099511627775):nO (df (hO aP)::a_)=aa (aP,a_):=by rw [BM a b];simp [nO,nN]
def XH (h:gy bw=ac) (a:aS ∈ gd):(bw==aS)=au:=by rw [ug];intro e;simp only [j8] at e;subst e;simp only [gy,eW,C',I.contains_eq_mem,ny] at h;exact h.2 a
def afx (h:gm bw=ac) (a:oZ (g3.toNat:ab)=au):(bw==[g3])=au:=by rw [ug];intro e;simp only [j8] at e;subst e;simp only [gm,eW] at h;have:=h.1.2;simp at this;rw [this] at a;cases a
def Pe (h:gy bw=ac) (a:aS ∈ gd):bD aS (df bw::a_)=ak:=by rw [Pc<|mA h,XH h a];rfl
def I1 (h:gy bw=ac) (a:oZ (g3.toNat:ab)=au):bD [g3] (df bw::a_)=ak:=by rw [Pc<|mA h,afx (mA h) a];rfl
structure Stop (q:Tk):Prop where
 dot:bD [46] q=ak
 br:bD [91] q=ak
 pa:bD [40] q=ak
def Pf (h:g3 ∈ uz) (a:g3≠46) (b:g3≠91) (c:g3≠40):Stop<|df [g3]::a_:= ⟨by rw [tQ h,ao (by simpa using a)],by rw [tQ h,ao (by simpa using b)],by rw [tQ h,ao (by simpa using c)]⟩
def Pg (h:jH ac bw aS=au) (c:bD [46] a_=ak):l4 (TW (gZ bw aS)++a_)=aa ((bw,aS),a_):=by
 obtain ⟨d,b⟩:=E1 h;unfold gZ;split;·rename_i a;simp only [j8] at a;subst a;show l4 (df aS::a_)=_;unfold l4;rw [eO b];simp only [cF];rw [c]
 ·rename_i a;have e:gy bw=ac:=d.resolve_left (by simpa using a);show l4 (df bw::df [46]::df aS::a_)=_;unfold l4;rw [eO e];simp only [cF];rw [tQ a'];simp only [Hk,dp];rw [eO b];rfl
def I2 (h:jH ac bw aS=au):∃w r,gZ bw aS=w::r/\gy w=ac:=by
 obtain ⟨a,b⟩:=E1 h;unfold gZ;split;·exact ⟨aS,[],O,b⟩
 ·rename_i c;exact ⟨bw,_,O,a.resolve_left (by simpa using c)⟩
def rB {mod nm s:Tx} {q:Tk} (h:jH ac mod nm=au) (a:s ∈ gd\/∃u,s=[u]/\oZ (u.toNat:ab)=au):bD s (TW (gZ mod nm)++q)=ak:=by
 obtain ⟨w,r,e,b⟩:=I2 h;rw [e];rcases a with a | ⟨u,rfl,c⟩;·exact Pe b a
 ·exact I1 b c
variable {ae:Z}
def I3 (h:jH ac bw aS=au) (f:bD [46] a_=ak):fg (ae+1) (TW (gZ bw aS)++a_)=oz (fg ae) bw aS a_:=by
 have a:=Pg h f;have b:=rB (s:=wd) (q:=a_) h<|bA a';have c:=rB (s:=[33]) (q:=a_) h<|bl ⟨33,rfl,a'⟩;have d:=rB (s:=[40]) (q:=a_) h<|bl ⟨40,rfl,a'⟩;obtain ⟨w,r,e,g⟩:=I2 h;rw [e] at a b c d ⊢;rw [XF,hx] at a b c d ⊢;have i:(df w).kind=1:=by rw [BL<|mA g]
 unfold fg;simp only [];rw [ao aj];unfold mC;rw [b,c,d];simp only [];rw [a];rfl
def Ph (a:(df bw).kind≠2):fg (ae+1) (df bw::a_)=mC (fg ae) (df bw::a_):=by rw [fg,ao a]
def Pj (h:g3 ∈ uz):(df [g3]).kind≠2:=by rw [EY g3 h];show (3:ab)≠2;decide
def I4 (u:a7):aQ:=uz.contains u&&(!(u==46)&&(!(u==91)&&!(u==40)))
def u3 (u:a7) (q:Tk) (h:I4 u=ac):Stop<|TW [[u]]++q:=by simp [I4] at h;exact Pf h.1 h.2.1 h.2.2.1 h.2.2.2
def I5 (u:a7) (q:Tk) (h:I4 u=ac):Stop<|df [u]::q:=u3 u q h
variable {gD:Tk->az (cu×Tk)}
def afy:mC gD (df [33]::a_)=(gD a_).map λx=>(cu.mk 6 0 [] [] [x.1],x.2):=by unfold mC;rw [tQ a',tQ a'];rfl
def XL:mC gD (df [40]::a_)=nP gD a_:=by unfold mC;rw [tQ a',tQ a',tQ a'];rfl
def afz:∀(j:Z),j<9->pk opsL 0 (df ((opsL[j]?).getD [])::a_)=aa (j,a_)| 0,_=>rfl| 1,_=>rfl| 2,_=>rfl| 3,_=>rfl| 4,_=>rfl| 5,_=>rfl| 6,_=>rfl| 7,_=>rfl| 8,_=>rfl| n+9,h=>absurd h aj
def afA (op:ab)  (h:7<=op/\op<=15):Stop<|df (rx op)::a_:=by have:op=7\/op=8\/op=9\/op=10\/op=11\/op=12\/op=13\/op=14\/op=15:=aj;rcases this with rfl | rfl | rfl | rfl | rfl | rfl | rfl | rfl | rfl<;>exact Pf a' a' a' a'
def I6 (h:jH (fm aP 3 5) bw aS=au):(3<=aP/\aP<=5->jH ac bw aS=au)/\(¬(3<=aP/\aP<=5)->bw=[]/\aS=[]):=by
 refine ⟨λa=>?_,λa=>?_⟩;·rw [show fm aP 3 5=ac by simp [fm];omega] at h;exact h
 ·rw [show fm aP 3 5=au by rw [ug];simp [fm];omega] at h;exact OZ h
def afB {op n:ab} (h:k3 op n=au) (a:op≠1):n=0:=by simp [k3,a] at h;exact h
def afC {l:I<|I Tx}:l.length<=(eH l).length\/∃x ∈ l,x=[]:=by
 induction l with
 | nil=>exact bA<|de _
 | cons x r a=>
  by_cases b:x=[];·exact bl ⟨x,aG,b⟩
  have c:1<=x.length:=by cases x;exact absurd rfl b;simp
  rcases a with a | ⟨y,d,e⟩;·cases r with| nil=>left;simpa [eH] using c| cons y r=>left;simp only [eH,e_,eL] at a ⊢;omega
  ·exact bl ⟨y,mI _ d,e⟩
def XQ (l:I cu):l.length<=(eH<|aX l).length:=by
 rcases afC (l:=aX l) with h | ⟨x,a,e⟩;·rwa [IP] at h
 ·exact absurd e<|OU l x a
def MT:∀(x:cu) (d:Z) (q:Tk),(ka x d).cy=0->bD [41] (TW (dW x)++q)=ak
 | .mk op n mod nm args,d,q,h=>by
  have c:=zM h;have l:=c.kind;obtain ⟨i,m⟩:=I6 c.name;unfold dW kU;by_cases f:op=1;·subst f;obtain ⟨a,b⟩:=E2 c.num;exact XG a b aG
  rw [ao f];by_cases g:op=2;·rw [aU g];rfl
  rw [ao g];by_cases j:op<=5
  ·have k:=i ⟨aj,j⟩;have e:∀q,bD [41] (TW (gZ mod nm)++q)=ak:=λq=>rB k<|bl ⟨41,rfl,a'⟩;split;·exact e _
   ·split;·rw [ho,ho,jy,ho];exact e _
    ·rw [aU aj,jy,ho];exact e _
  ·rw [ao aj,ao aj,ao aj];split<;>rfl
mutual
def XR:∀(x:cu) (d:Z),(ka x d).cy=0->∀(f:Z),f+d=7->∀(q:Tk),Stop q->fg f (TW (dW x)++q)=aa (x,q)
 | .mk op n mod nm args,d,h,f,B,q,k=>by
  have c:=zM h;have w:=c.kind;have C:=c.deep;obtain ⟨f,rfl⟩:∃g,f=g+1:=⟨f-1,aj⟩;obtain ⟨l,m⟩:=I6 c.name;have e:=I7 args (d+1) c.sub f aj;have z:=IV op n mod nm args;rw [z];unfold kU;by_cases o:op=1
  ·subst o;obtain ⟨a,b⟩:=E2 c.num;obtain ⟨rfl,rfl⟩:=m aj;have i:args=[]:=by have:=c.sK;simp [n9,kO] at this;exact this
   subst i;show fg (f+1) (df (hO n)::q)=_;rw [BM a b,fg];rfl
  rw [ao o];have A:=afB c.num o;subst A;by_cases p:op=2
  ·subst p;obtain ⟨rfl,rfl⟩:=m aj;have i:args=[]:=by have:=c.sK;simp [n9,kO] at this;exact this
   subst i;rfl
  rw [ao p];by_cases s:op=3
  ·subst s;have i:args=[]:=by have:=c.sK;simp [n9,kO] at this;exact this
   subst i;rw [aU rfl,I3 (l aj) k.dot];unfold oz;rw [k.br,k.pa]
  rw [ao s];by_cases t:op=4;·subst t;have j:=c.EV<|bA rfl;match args,j,e with| [x],_,e=>rw [aU rfl];simp only [aX,at_,lL,px,jy,ho];rw [I3 (l aj) (by rfl)];unfold oz;rw [show bD [91] (TW [[91]]++(TW (dW x)++(TW [[93]]++q)))=aa (TW (dW x)++(TW [[93]]++q)) from rfl];simp only [];rw [e.1 0 x rfl _<|u3 93 _ a'];rfl
  rw [ao t];by_cases u:op=5;·subst u;rw [aU rfl];simp only [mz,jy,ho];rw [I3 (l aj) (by rfl)];unfold oz;rw [show ∀r,bD [91] (TW [[40]]++r)=ak from λr=>rfl,show ∀r,bD [40] (TW [[40]]++r)=aa r from λr=>rfl];simp only [];rw [e.2 q];rfl
  rw [ao u];obtain ⟨rfl,rfl⟩:=m aj;by_cases v:op=6;·subst v;have j:=c.EV<|bl rfl;match args,j,e with| [x],_,e=>rw [aU rfl];simp only [aX,at_,lL,px,jy,ho];show fg (f+1) (df [33]::(TW (dW x)++q))=_;rw [Ph<|Pj a',afy,e.1 0 x rfl _ k];rfl
  rw [ao v];have j:=c.OS aj;match args,j,e with| [x,y],_,e=>simp only [aX,at_,lL,lM,px,jy,ho];show fg (f+1) (df [40]::(TW (dW x)++(df (rx op)::(TW (dW y)++(df [41]::q)))))=_;rw [Ph<|Pj a',XL,nP,e.1 0 x rfl _<|afA op ⟨aj,w.2⟩];simp only [cF];rw [show pk opsL 0 (df (rx op)::(TW (dW y)++(df [41]::q)))=aa ((op-7).toNat,TW (dW y)++(df [41]::q)) from afz _ aj];simp only [cF];rw [e.1 1 y rfl _<|I5 41 _ a'];simp only [cF];rw [tQ a'];simp only [Hk,dp,eI];rw [show (7:ab)+((op-7).toNat:ab)=op by omega]
def I7:∀(l:I cu) (d:Z),(fH l d).cy=0->∀(f:Z),f+d=7->
   (∀(i:Z) (x:cu),l[i]? = aa x->∀(q:Tk),Stop q->fg f (TW (dW x)++q)=aa (x,q))/\
   (∀(q:Tk),l5 (fg f) (TW (eH<|aX l)++(TW [[41]]++q))=aa (l,q))
 | [],_,_,_,_=>⟨aG,λq=>rfl⟩
 | x::r,d,h,f,e=>by
  obtain ⟨a,o⟩:=IN h;have p:=XR x d a f e;have s:=I7 r d o f e;have g:∀(i:Z) (y:cu),(x::r)[i]? = aa y->∀(q:Tk),Stop q->fg f (TW (dW y)++q)=aa (y,q):=by intro i y b;cases i with| zero=>simp at b;subst b;exact p| succ i=>exact s.1 i y (by simpa using b)
  refine ⟨g,λq=>?_⟩;have v:∀(l:I cu),(∀(i:Z) (y:cu),l[i]? = aa y->∀(q:Tk),Stop q->fg f (TW (dW y)++q)=aa (y,q))->l≠[]->∀n,l.length<=n->mB (fg f) n (TW (eH<|aX l)++(TW [[41]]++q))=aa (l,q):=by intro l;induction l with| nil=>intro _ h;exact absurd rfl h| cons j t w=>intro c _ n k;obtain ⟨n,rfl⟩:∃m,n=m+1:=⟨n-1,by simp at k;omega⟩;cases t with| nil=>simp only [aX,eH];unfold mB;rw [c 0 j rfl _<|u3 41 _ a'];rfl| cons y t=>simp only [aX,eH,jy,ho];unfold mB;rw [c 0 j rfl _<|u3 44 _ a'];simp only [cF];rw [show ∀r,bD [41] (TW [[44]]++r)=ak from λr=>rfl,show ∀r,bD [44] (TW [[44]]++r)=aa r from λr=>rfl];simp only [];have:=w (λi u z=>c (i+1) u (by simpa using z)) aG n (by simp at k ⊢;omega);simp only [aX] at this;rw [this];rfl
  have A:bD [41] (TW (eH<|aX<|x::r)++(TW [[41]]++q))=ak:=by cases r with| nil=>simp only [aX,eH];exact MT x d _ a| cons y r=>simp only [aX,eH,jy,ho];exact MT x d _ a
  unfold l5;rw [A];simp only [];refine v (x::r) g aG _ ?_;have:=XQ<|x::r;simp only [e_,TW,fK];omega
end
def I8 (h:jH (fm aP 1 3) bw aS=au):(1<=aP/\aP<=3->jH ac bw aS=au)/\(¬(1<=aP/\aP<=3)->bw=[]/\aS=[]):=by
 refine ⟨λa=>?_,λa=>?_⟩;·rw [show fm aP 1 3=ac by simp [fm];omega] at h;exact h
 ·rw [show fm aP 1 3=au by rw [ug];simp [fm];omega] at h;exact OZ h
def I9 {q:Tk} (h:jH ac bw aS=au) (a:bD [46] q=ak):ht (TW (gZ bw aS)++q)=(match bD [40] q with| aa r=>(l5 (fg 6) r).map λq=>(cv.mk 3 bw aS q.1 [] [],q.2)| ak=>match bD [91] q with| aa r=>(fg 6 r).bind λi=>(bD [93] i.2).bind λr=>(bD [61] r).bind λr=>(fg 6 r).map λx=>(cv.mk 2 bw aS [i.1,x.1] [] [],x.2)| ak=>(bD [61] q).bind λr=>(fg 6 r).map λx=>(cv.mk 1 bw aS [x.1] [] [],x.2)):=by unfold ht;rw [rB (s:=bF) h<|bA a',rB (s:=gq) h<|bA a'];simp only [];rw [Pg h a];rfl
variable {zS:Tk->az (I cv×Tk)}
def BQ (a:bD fQ a_=ak) (b:bD fZ a_=ak):gC zS a_=(ht a_).bind λs=>(bD [59] s.2).map λr=>(s.1,r):=by unfold gC;rw [a,b]
def M7 (a:Tk->az (I cv×Tk)) (d:Z):Prop:=∀(l:I cv),(gz l d).cy=0->∀q,a (TW (hd l)++q)=aa (l,q)
def XS {d:Z} (j:M7 zS<|d+1) (x:cv) (h:(ih x d).cy=0) (q:Tk) (o:bD gn q=ak):gC zS (TW (hc x)++q)=aa (x,q):=by
 obtain ⟨op,mod,nm,args,body,other⟩:=x;have b:=zN h;have t:=b.kind;have a:=I7 args 1 b.exprs 6 rfl;obtain ⟨k,i⟩:=I8 b.name;obtain ⟨g,f⟩:=b.OV;rw [sL];unfold j5;rcases (by omega:op=1\/op=2\/op=3\/op=4\/op=5\/op=6\/op=7) with rfl | rfl | rfl | rfl | rfl | rfl | rfl;·have c:=b.len a';obtain rfl:=g a';obtain rfl:=f a';have e:=k aj;match args,c,a with| [x],_,a=>simp only [dp,dq,reduceCtorEq,nw,s',aX,at_,lL,px,jy,ho];rw [BQ (rB e<|bA a')<|rB e<|bA a',I9 e (by rfl),show ∀r,bD [40] (TW [[61]]++r)=ak from λr=>rfl,show ∀r,bD [91] (TW [[61]]++r)=ak from λr=>rfl,show ∀r,bD [61] (TW [[61]]++r)=aa r from λr=>rfl];simp only [cF];rw [a.1 0 x rfl _<|u3 59 _ a'];rfl
 ·have c:=b.len a';obtain rfl:=g a';obtain rfl:=f a';have e:=k aj;match args,c,a with| [x,y],_,a=>simp only [dp,dq,nw,s',aX,at_,lL,lM,px,jy,ho];rw [BQ (rB e<|bA a')<|rB e<|bA a',I9 e (by rfl),show ∀r,bD [40] (TW [[91]]++r)=ak from λr=>rfl,show ∀r,bD [91] (TW [[91]]++r)=aa r from λr=>rfl];simp only [];rw [show ∀r,TW [[93],[61]]++r=TW [[93]]++(TW [[61]]++r) from λr=>rfl,a.1 0 x rfl _<|u3 93 _ a'];simp only [cF];rw [show ∀r,bD [93] (TW [[93]]++r)=aa r from λr=>rfl];simp only [cF];rw [show ∀r,bD [61] (TW [[61]]++r)=aa r from λr=>rfl];simp only [cF];rw [a.1 1 y rfl _<|u3 59 _ a'];rfl
 ·obtain rfl:=g a';obtain rfl:=f a';have e:=k aj;simp only [dp,dq,nw,s',mz,jy,ho];rw [BQ (rB e<|bA a')<|rB e<|bA a',I9 e (by rfl),show ∀r,bD [40] (TW [[40]]++r)=aa r from λr=>rfl];simp only [];rw [a.2];rfl
 ·have c:=b.len a';have l:=j body<|b.body rfl;obtain ⟨rfl,rfl⟩:=i aj;match args,c,a with
  | [x],_,a=>
   simp only [dp,dq,nw,qQ,AF,aX,at_,lL,px,jy,ho];unfold gC;rw [show ∀r,bD fQ (TW [fQ]++r)=aa r from λr=>rfl];simp only [];have m:∀r,Stop (TW (pW<|fv body)++r):=λr=>I5 123 _ a';rw [a.1 0 x rfl _<|m _];simp only [cF];have p:∀q,zS (TW (pW<|fv body)++q)=aa (body,q):=l;rw [p];simp only [cF];by_cases n:0<other.length;·rw [aU n];have s:∀q,zS (TW (pW<|fv other)++q)=aa (other,q):=j other<|b.other n;simp only [jy,ho];rw [show ∀r,bD gn (TW [gn]++r)=aa r from λr=>rfl];simp only [];rw [s];simp only [cF];rw [ao aj]
   ·rw [ao n];have:other=[]:=r5 aj;subst this;rw [BP,s7,o]
 ·have c:=b.len a';have l:∀q,zS (TW (pW<|fv body)++q)=aa (body,q):=j body<|b.body rfl;obtain ⟨rfl,rfl⟩:=i aj;obtain rfl:=f a';match args,c,a with| [x],_,a=>simp only [dp,dq,nw,or_true,aX,at_,lL,px,jy,ho,fT,Z.lt_irrefl,BP,s7];unfold gC;rw [show ∀r,bD fQ (TW [fZ]++r)=ak from λr=>rfl,show ∀r,bD fZ (TW [fZ]++r)=aa r from λr=>rfl];simp only [];have m:∀r,Stop (TW (pW<|fv body)++r):=λr=>I5 123 _ a';rw [a.1 0 x rfl _<|m _];simp only [cF];rw [l];rfl
 ·have c:=b.len a';obtain rfl:=g a';obtain rfl:=f a';obtain ⟨rfl,rfl⟩:=i aj;match args,c,a with| [x],_,a=>simp only [dp,dq,nw,s',aX,at_,lL,px,jy,ho];rw [BQ (by rfl) (by rfl)];unfold ht;rw [show ∀r,bD bF (TW [bF]++r)=aa r from λr=>rfl];simp only [];rw [a.1 0 x rfl _<|u3 59 _ a'];rfl
 ·have c:=b.len a';obtain rfl:=g a';obtain rfl:=f a';obtain ⟨rfl,rfl⟩:=i aj;match args,c,a with| [x],_,a=>simp only [dp,dq,nw,s',aX,at_,lL,px,jy,ho];rw [BQ (by rfl) (by rfl)];unfold ht;rw [show ∀r,bD bF (TW [gq]++r)=ak from λr=>rfl,show ∀r,bD gq (TW [gq]++r)=aa r from λr=>rfl];simp only [];rw [a.1 0 x rfl _<|u3 59 _ a'];rfl
variable {cL:cv}
def XT (h:(ih cL ae).cy=0):∃w r,hc cL=w::r/\(gy w=ac\/w=fQ\/w=fZ\/w=bF\/w=gq):=by
 obtain ⟨op,mod,nm,args,body,other⟩:=cL;have b:=zN h;have k:=b.kind;obtain ⟨j,l⟩:=I8 b.name;rw [sL];unfold j5;by_cases c:op=4\/op=5;·rw [aU c];refine ⟨_,_,O,?_⟩;split<;>simp
 rw [ao c];by_cases d:op=6;·rw [aU d];exact ⟨_,_,rfl,aG⟩
 rw [ao d];by_cases f:op=7;·rw [aU f];exact ⟨_,_,rfl,aG⟩
 rw [ao f];obtain ⟨w,r,e,a⟩:=I2<|j aj;rw [e];by_cases g:op=3;·rw [aU g];exact ⟨_,_,rfl,bA a⟩
 rw [ao g];by_cases i:op=1;·rw [aU i];exact ⟨_,_,rfl,bA a⟩
 rw [ao i,aU aj];exact ⟨_,_,O,bA a⟩
def afF (h:gy bw=ac\/bw=fQ\/bw=fZ\/bw=bF\/bw=gq) (a:aS=gn\/aS=[125]):bD aS (df bw::a_)=ak:=by
 rcases h with h | rfl | rfl | rfl | rfl
 ·rcases a with rfl | rfl;·exact Pe h a'
  ·exact I1 h a'
 all_goals rcases a with rfl | rfl<;>rfl
def Ni (h:(ih cL ae).cy=0) (a:bw=gn\/bw=[125]):bD bw (TW (hc cL)++a_)=ak:=by obtain ⟨w,r,e,b⟩:=XT h;rw [e];exact afF b a
def Pn {ps:Tk->az (cv×Tk)} {d:Z} (b:∀(x:cv),(ih x d).cy=0->∀q,bD gn q=ak->ps (TW (hc x)++q)=aa (x,q)) (q:Tk):∀(l:I cv),(e2 l d).cy=0->∀n,l.length<n->oA ps n (TW (fv l)++(TW [[125]]++q))=aa (l,q)
 | [],_,n,a=>by obtain ⟨n,rfl⟩:∃m,n=m+1:=⟨n-1,by simp at a;omega⟩;rfl
 | x::r,h,n,a=>by
  obtain ⟨n,rfl⟩:∃m,n=m+1:=⟨n-1,by simp at a;omega⟩;obtain ⟨c,e⟩:=EW h;have f:=Pn b q r e n (by simp at a;omega);have g:bD gn (TW (fv r)++(TW [[125]]++q))=ak:=by cases r with| nil=>rfl| cons y t=>unfold fv;rw [jy,ho];exact Ni (EW e).1 Y
  unfold fv oA;rw [jy,ho,Ni c<|bl rfl];simp only [];rw [b x c _ g];simp only [cF];rw [f];rfl
def Po:∀l:I cv,l.length<=(fv l).length
 | []=>de _
 | x::r=>by
  have:=Po r;have b:1<=(hc x).length:=by have:=OW x;cases a:hc x with| nil=>exact absurd a this| cons _ _=>simp
  unfold fv;simp only [eL,e_];omega
def I':∀(f d:Z),f+d=7->M7 (ib f) d| 0,d,a=>λl h=>by unfold gz at h;have:=zO h;omega| f+1,d,a=>λl h q=>by unfold gz at h;obtain ⟨g,i,b⟩:=zO h;unfold ib hd pW;simp only [jy,ho];rw [show ∀r,bD [123] (TW [[123]]++r)=aa r from λr=>rfl];simp only [cF];refine Pn (d:=d) (λx c q e=>XS (d:=d) (I' f (d+1) aj) x c q e) q l b _ ?_;have:=Po l;simp only [e_,TW,fK];omega
def I_ {b:aQ}  (h:bD nM a_=ak):bx (TW (g7 b)++a_)=(b,a_):=by cases b with| true=>rfl| false=>show bx a_=_;unfold bx;rw [h];rfl
variable {fI:eQ}
def XV (h:E4 fI):bD nM (TW (rz fI)++a_)=ak:=by
 unfold rz pj;rcases h.kind with e | e | e;·rw [aU e];rfl
 ·rw [ao aj,aU e];rfl
 ·rw [ao aj,ao aj,aU e];rfl
def XW (h:E4 fI):hD fI.cz (TW (rz fI)++a_)=aa (aa fI,a_):=by
 have c:=h.name;obtain ⟨kind,nm,cz,n⟩:=fI;unfold rz pj;rcases h.kind with e | e | e;·obtain ⟨a,b⟩:=h.n1 e;simp only at e a b c;subst e;simp only [dp];show hD cz (df lf::df nm::df [61]::df (hO n)::df [59]::a_)=_;unfold hD;rw [show ∀r,bD lf (df lf::r)=aa r from λr=>rfl];simp only [];rw [eO c];simp only [cF];rw [show ∀r,bD [61] (df [61]::r)=aa r from λr=>rfl];simp only [cF];rw [Pd a b];rfl
 ·have d:=h.n2 e;simp only at e d c;subst e d;simp only [dp,dq,nw];show hD cz (df lg::df nm::df [59]::a_)=_;unfold hD;rw [show ∀r,bD lf (df lg::r)=ak from λr=>rfl,show ∀r,bD lg (df lg::r)=aa r from λr=>rfl];simp only [];rw [eO c];rfl
 ·obtain ⟨a,b⟩:=h.n3 e;simp only at e a b c;subst e;simp only [dp,dq,nw];show hD cz (df lh::df nm::df [91]::df (hO n)::df [93]::df [59]::a_)=_;unfold hD;rw [show ∀r,bD lf (df lh::r)=ak from λr=>rfl,show ∀r,bD lg (df lh::r)=ak from λr=>rfl,show ∀r,bD lh (df lh::r)=aa r from λr=>rfl];simp only [];rw [eO c];simp only [cF];rw [show ∀r,bD [91] (df [91]::r)=aa r from λr=>rfl];simp only [cF];rw [Pd aj aj];rfl
def Pp (b:∀cz,hD cz (bx a_).2=aa (ak,(bx a_).2)):∀(ds:I eQ),(∀d ∈ ds,(jZ d).cy=0)->∀n,ds.length<n-> mD n (bx<|TW (ds.flatMap fO)++a_).1 (bx<|TW (ds.flatMap fO)++a_).2=aa ((ds,(bx a_).1),(bx a_).2)
 | [],_,n,a=>by obtain ⟨n,rfl⟩:∃m,n=m+1:=⟨n-1,by simp at a;omega⟩;show mD (n+1) (bx a_).1 (bx a_).2=_;unfold mD;rw [b];rfl
 | d::r,h,n,a=>by
  obtain ⟨n,rfl⟩:∃m,n=m+1:=⟨n-1,by simp at a;omega⟩;have c:=we<|h d aG;have f:=Pp b r (λx g=>h x<|mI _ g) n (by simp at a;omega);have e:TW ((d::r).flatMap fO)++a_=TW (g7 d.cz)++(TW (rz d)++(TW (r.flatMap fO)++a_)):=by rw [jm,fO];simp only [rz,jy,ho]
  rw [e,I_<|XV c];simp only [];unfold mD;rw [XW c];simp only [cF];rw [f];rfl
def Pq {q:Tk}:∀(l:I Tx),(∀s ∈ l,gy s=ac)->∀(n:Z) (first:aQ),l.length<n->
   kF n first (TW (if first=ac\/l=[] then [] else [[44]])++(TW (eH<|l.map λs=>[s])++(TW [[41]]++q)))=aa (l,q)
 | [],_,n,first,a=>by obtain ⟨n,rfl⟩:∃m,n=m+1:=⟨n-1,by simp at a;omega⟩;rw [aU<|bl rfl];rfl
 | x::r,h,n,first,a=>by
  obtain ⟨n,rfl⟩:∃m,n=m+1:=⟨n-1,by simp at a;omega⟩;have b:=h x aG;have c:=Pq (q:=q) r (λs d=>h s<|mI _ d) n au (by simp at a;omega);have e:TW (eH<|(x::r).map λs=>[s])++(TW [[41]]++q)=df x::(TW (if au=ac\/r=[] then [] else [[44]])++(TW (eH<|r.map λs=>[s])++(TW [[41]]++q))):=by cases r with| nil=>rfl| cons y t=>rfl
  rw [e];cases first with| true=>simp only [AF,dp,BP,s7];unfold kF;rw [I1 b a'];simp only [dp,cF];rw [eO b];simp only [cF];rw [c];rfl| false=>have f:(if au=ac\/x::r=[] then ([]:I Tx) else [[44]])=[[44]]:=aG;rw [f];unfold kF;rw [show ∀r,bD [41] (TW [[44]]++r)=ak from λr=>rfl,show ∀r,bD [44] (TW [[44]]++r)=aa r from λr=>rfl];rw [ao aG];simp only [cF];rw [eO b];simp only [cF];rw [c];rfl
def Pr (b:bD my a_=ak):∀(l:I Tx),(∀s ∈ l,gy s=ac)->∀n,l.length<n->lE n (TW (l.flatMap iJ)++a_)=aa (l,a_)| [],_,n,a=>by obtain ⟨n,rfl⟩:∃m,n=m+1:=⟨n-1,by simp at a;omega⟩;show lE (n+1) a_=_;unfold lE;rw [b]| x::r,h,n,a=>by obtain ⟨n,rfl⟩:∃m,n=m+1:=⟨n-1,by simp at a;omega⟩;have c:=Pr b r (λs d=>h s<|mI _ d) n (by simp at a;omega);show lE (n+1) (df my::df x::df [59]::(TW (r.flatMap iJ)++a_))=_;unfold lE;rw [show ∀r,bD my (df my::r)=aa r from λr=>rfl];simp only [];rw [eO<|h x aG];simp only [cF];rw [show ∀r,bD [59] (df [59]::r)=aa r from λr=>rfl];simp only [cF];rw [c];rfl
def Ps (b:bD lD a_=ak):∀(l:I Tx),(∀s ∈ l,gy s=ac)->∀n,l.length<n->lj n (TW (l.flatMap ge)++a_)=aa (l,a_)| [],_,n,a=>by obtain ⟨n,rfl⟩:∃m,n=m+1:=⟨n-1,by simp at a;omega⟩;show lj (n+1) a_=_;unfold lj;rw [b]| x::r,h,n,a=>by obtain ⟨n,rfl⟩:∃m,n=m+1:=⟨n-1,by simp at a;omega⟩;have c:=Ps b r (λs d=>h s<|mI _ d) n (by simp at a;omega);show lj (n+1) (df lD::df x::df [59]::(TW (r.flatMap ge)++a_))=_;unfold lj;rw [show ∀r,bD lD (df lD::r)=aa r from λr=>rfl];simp only [];rw [eO<|h x aG];simp only [cF];rw [show ∀r,bD [59] (df [59]::r)=aa r from λr=>rfl];simp only [cF];rw [c];rfl
def Pt {f:Tx->I Tx} (a:∀x,1<=(f x).length):∀l:I Tx,l.length<=(l.flatMap f).length| []=>de _| x::r=>by have:=Pt a r;have:=a x;rw [jm,e_,eL];omega
def Pu:∀l:I Tx,l.length<=(eH<|l.map λs=>[s]).length| []=>de _| [x]=>eC _| x::y::r=>by have:=Pu<|y::r;show _<=([x]++[[44]]++eH ((y::r).map λs=>[s])).length;simp only [e_,eL,fT] at this ⊢;omega
def XX {p:bz}  (h:O4 p):kV p.cz (TW (iX p)++a_)=aa (p,a_):=by obtain ⟨nm,cz,params,a6,body⟩:=p;unfold kV iX;simp only [jy,ho];rw [show ∀r,TW [nm,[40]]++r=df nm::(TW [[40]]++r) from λr=>rfl,eO h.name];simp only [cF];rw [show ∀r,bD [40] (TW [[40]]++r)=aa r from λr=>rfl];simp only [cF];have a:=Pq (q:=TW (a6.flatMap iJ)++(TW (hd body)++a_)) params h.params ((TW (eH<|params.map λs=>[s])++(TW [[41]]++(TW (a6.flatMap iJ)++(TW (hd body)++a_)))).length+1) ac (by have:=Pu params;simp only [e_,TW,fK] at this ⊢;omega);simp only [AF,dp,BP,s7] at a;rw [a];simp only [cF];rw [Pr (by rfl) a6 h.a6 _ (by have:=Pt (f:=iJ) (λx=>by simp [iJ]) a6;simp only [e_,TW,fK];omega)];simp only [cF];rw [I' 6 1 rfl body h.body a_];rfl
def Pv (b:bD li (bx a_).2=ak):∀(ds:I bz),(∀d ∈ ds,(qn d).cy=0)->∀n,ds.length<n->
   mE n (bx<|TW (ds.flatMap gv)++a_).1 (bx<|TW (ds.flatMap gv)++a_).2=aa ((ds,(bx a_).1),(bx a_).2)
 | [],_,n,a=>by obtain ⟨n,rfl⟩:∃m,n=m+1:=⟨n-1,by simp at a;omega⟩;show mE (n+1) (bx a_).1 (bx a_).2=_;unfold mE;rw [b]
 | d::r,h,n,a=>by
  obtain ⟨n,rfl⟩:∃m,n=m+1:=⟨n-1,by simp at a;omega⟩;have c:=wg<|h d aG;have f:=Pv b r (λx g=>h x<|mI _ g) n (by simp at a;omega);have e:TW ((d::r).flatMap gv)++a_=TW (g7 d.cz)++(df li::(TW (iX d)++(TW (r.flatMap gv)++a_))):=by rw [jm,gv,iX];simp only [jy,ho];rfl
  rw [e,I_ (by rfl)];simp only [];unfold mE;rw [show ∀r,bD li (df li::r)=aa r from λr=>rfl];simp only [];rw [XX c];simp only [cF];rw [f];rfl
def E8 {α:Type} {f:α->I Tx} (a:∀x,1<=(f x).length):∀l:I α,l.length<=(l.flatMap f).length| []=>de _| x::r=>by have:=E8 a r;have:=a x;rw [jm,e_,eL];omega
def XY {ps:I bz}  (a:∃r,a_=df h2::r):∃r,(bx<|TW (ps.flatMap gv)++a_).2=df li::r\/(bx<|TW (ps.flatMap gv)++a_).2=df h2::r:=by
 obtain ⟨r,rfl⟩:=a;cases ps with
 | nil=>exact ⟨r,bl rfl⟩
 | cons d t=>
  have e:TW ((d::t).flatMap gv)++(df h2::r)=TW (g7 d.cz)++(df li::(TW (iX d)++(TW (t.flatMap gv)++(df h2::r)))):=by rw [jm,gv,iX];simp only [jy,ho];rfl
  rw [e,I_ (by rfl)];exact ⟨_,bA O⟩
def Pw (l:Tk):l.length<=(bx l).2.length+1:=by
 unfold bx;cases l with
 | nil=>simp
 | cons t r=>
  simp only [bD];split;·simp
  ·simp
def XZ {m:cM} (h:(qo m).cy=0):lF (TW<|hf m)=aa (m,[]):=by
 have b:=BO h;obtain ⟨nm,aI,decls,procs,main⟩:=m;have l:∀q,ib 6 (TW (hd main)++q)=aa (main,q):=I' 6 1 rfl main b.main;unfold hf;simp only [jy,ho];have c:(∃r,(TW [h2]++(TW (hd main)++TW [[125]]))=df h2::r):=⟨_,rfl⟩;generalize n:TW [h2]++(TW (hd main)++TW [[125]])=a at c;obtain ⟨y,o⟩:=XY (ps:=procs) c;show lF (df np::df nm::df [123]::(TW (aI.flatMap ge)++(TW (decls.flatMap fO)++(TW (procs.flatMap gv)++a))))=_;have s:bD lD (TW (decls.flatMap fO)++(TW (procs.flatMap gv)++a))=ak:=by
  cases decls with
  | cons d t=>
   have i:=we<|b.decls d aG;rw [jm,fO,jy,jy,jy];cases d.cz with
   | true=>rfl
   | false=>
    show bD lD (TW (pj d)++TW [[59]]++TW (t.flatMap fO)++_)=ak;unfold pj;rcases i.kind with e | e | e;·rw [aU e];rfl
    ·rw [ao aj,aU e];rfl
    ·rw [ao aj,ao aj,aU e];rfl
  | nil=>cases procs with| cons p t=>rw [C4,BP,s7,jm,gv];simp only [jy,ho];cases p.cz<;>rfl| nil=>obtain ⟨r,rfl⟩:=c;rfl
 have i:∀cz,hD cz (bx<|TW (procs.flatMap gv)++a).2=aa (ak,(bx<|TW (procs.flatMap gv)++a).2):=by intro cz;rcases o with e | e<;>rw [e]<;>rfl
 have u:bD li (bx a).2=ak:=by obtain ⟨r,rfl⟩:=c;rfl
 unfold lF;rw [show ∀r,bD np (df np::r)=aa r from λr=>rfl];simp only [cF];rw [eO b.name];simp only [cF];rw [show ∀r,bD [123] (df [123]::r)=aa r from λr=>rfl];simp only [cF];rw [Ps s aI b.aI _ (by have:=E8 (f:=ge) (λx=>by simp [ge]) aI;simp only [e_,TW,fK];omega)];simp only [cF];have v:decls.length<(bx<|TW (decls.flatMap fO)++(TW (procs.flatMap gv)++a)).2.length+1:=by have g:=Pw<|TW (decls.flatMap fO)++(TW (procs.flatMap gv)++a);have j:=E8 (f:=fO) (λx=>by simp [fO];omega) decls;obtain ⟨r,k⟩:=c;rw [k] at g ⊢;simp only [e_,TW,fK,eL] at g j ⊢;omega
 rw [Pp i decls b.decls _ v];simp only [cF];have w:procs.length<(bx<|TW (procs.flatMap gv)++a).2.length+1:=by have g:=Pw<|TW (procs.flatMap gv)++a;have j:=E8 (f:=gv) (λx=>by simp [gv];omega) procs;obtain ⟨r,k⟩:=c;rw [k] at g ⊢;simp only [e_,TW,fK,eL] at g j ⊢;omega
 rw [Pv u procs b.procs _ w];simp only [cF];subst n;show (if (bx<|df h2::(TW (hd main)++TW [[125]])).1=ac then ak else _)=_;rw [show ∀r,bx (df h2::r)=(au,df h2::r) from λr=>rfl];simp only [dP,dq];show (bD h2 (bx<|df h2::(TW (hd main)++TW [[125]])).2).bind _=_;rw [show ∀r,bx (df h2::r)=(au,df h2::r) from λr=>rfl];simp only [];rw [show ∀r,bD h2 (df h2::r)=aa r from λr=>rfl];simp only [cF];rw [l];rfl
end Go.Bw
end
section
namespace Go.Bw
open Go
variable {bw:Tx} {a_ cm:Tk}
def Px (a:iK a_) (h:bD bw a_=aa cm):iK cm:=by
 cases a_ with
 | nil=>cases h
 | cons t q=>
  simp only [bD] at h;split at h;·injection h with h;subst h;exact λx b=>a x<|mI _ b
  ·cases h
def X0 {a:Tk->az (I cv×Tk)} (b:IW a)  {x:cv} (c:iK a_) (h:gC a a_=aa (x,cm)):cm.length<a_.length:=by have e:=(IX b c h).2;have d:=OW x;rw [e];cases f:hc x with| nil=>exact absurd f d| cons w g=>simp;omega
def tR:cM:=⟨[],[],[],[],[]⟩
def fJ (s:Tx):cM×ab:=if (g4 s).2≠0 then (tR,(g4 s).2) else match lF (g4 s).1 with| aa (m,[])=>if hI m=0 then (m,0) else (tR,1)| _=>(tR,1)
def Py (h:(g4 bw).2=0):iK (g4 bw).1:=(Mg<|Mh h).1
variable {a8:cM}
def Pz (h:(qo a8).cy=0):iK<|TW<|hf a8:=by intro t a;obtain ⟨w,b,rfl⟩:=py.1 a;exact (E5 h w b).1
def BR:hI a8=0↔(qo a8).cy=0:=Xt
def PA (h:hI a8=0) (d:(J<|hf a8).length<=4096):fJ (J<|hf a8)=(a8,0):=by
 have a:=BR.1 h;have b:=IQ<|E5 a;have c:g4 (J<|hf a8)=(TW<|hf a8,0):=by unfold g4;rw [ao aj,<-b,show iE (jX<|I.map df<|hf a8)=aa (TW<|hf a8) from Mj (TW<|hf a8)<|Pz a]
 unfold fJ;rw [c];simp only [ne_eq,not_true_eq_false,dq];rw [XZ a];simp only;rw [aU h]
def PB (h:(fJ bw).2=0):(g4 bw).2=0/\hI (fJ bw).1=0/\J (hf (fJ bw).1)=jX (g4 bw).1:=by
 unfold fJ at h ⊢;by_cases a:(g4 bw).2=0
 ·rw [ao (by simpa using a)] at h ⊢;have d:=Py a;refine ⟨a,?_⟩;generalize (g4 bw).1=l at h d ⊢;cases c:lF l with
  | none=>rw [c] at h;cases h
  | some p=>
   obtain ⟨m,r⟩:=p;rw [c] at h;cases r with
   | cons t r=>cases h
   | nil=>
    simp only at h ⊢;by_cases b:hI m=0;·rw [aU b];have e:=(afw d c).2;rw [qd] at e;refine ⟨b,?_⟩;rw [<-IQ<|E5<|BR.1 b,<-e]
    ·rw [ao b] at h;cases h
 ·rw [aU (by simpa using a)] at h;exact absurd h a
end Go.Bw
end
