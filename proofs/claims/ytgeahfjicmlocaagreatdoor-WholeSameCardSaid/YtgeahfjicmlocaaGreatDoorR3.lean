/- WholeSame: Exec tells what Mean tells: the same numbers, the same end, the same data, as many ticks; and what is executed is never Broken, nor out of steps. -/
import Derived.Test.YtgeahfjicmlocaaGreatDoorR2
set_option linter.unusedVariables false
set_option linter.unusedSimpArgs false
set_option linter.defProp false
open _root_ renaming List->I,Nat->Z,Int->ac,Option->aA,Bool->aS,UInt8->ar,Array->bH,Unit->ef,String->fO
open Option renaming some->aa,none->ao
open Bool renaming true->ad,false->aq
open Go.Value renaming int->am,slice->aE,bool->bW,agg->b0,pointer->b8,tuple->cO
open Go.IntKind renaming i64->an
open Go.Proofs.Tryz renaming prog->aC
open Go renaming World->aP,Value->aR,Addr->a6,TypeId->cn,Calls->cx,Program->dJ,Operand->ei,Edge->fY
open Go.Obj renaming cells->aY
open Or renaming inr->be,inl->bB
open Go.Ending renaming returned->cf
open List renaming replicate->gb,range->lf
open Go.Result renaming andThen_ok->jc
open Go.Sem renaming run_bind->j7,run_pure->lG
open Go.Lib renaming itoa->lg
open Int renaming reduceEq->oo
section
namespace Go.Proofs.YtgeahfjicmlocaaGreatDoor.Mch
open Go.Bw Go.Proofs.Tryz
abbrev ax.bj (s:ax):ax:={ s with at_:=an.wrap<|s.at_+1 }
def Pm.bj (m:Pm):Pm:={ m with at_:=an.wrap<|m.at_+1 }
variable {bN:View} {Pv:ax}
def ax.km.at (h:Pv.km bN) (a:ac):ax.km bN { Pv with at_:=a }:=⟨h.bn,h.bF,h.ml,h.out,h.hr⟩
def xn (m:Pm):I ac:=match m.de with| []=>[]| f::_=>f.1
def AQ (m:Pm) (k:Z) (n:ac):Pm:={ m with de:=match m.de with| []=>[]| f::r=>(f.1.set k n,f.2)::r }
def dA (i:ce) (m:Pm):Rz ef:= if (i.op==1)=ad then gh i.a m else if (i.op==2)=ad then (if bq i.a (xn m).length=ad then .ov 6 m else gh ((xn m)[i.a.toNat]?.getD 0) m) else if (i.op==3)=ad then (eH m).bind λn m=>if bq i.a (xn m).length=ad then .ov 6 m else .ok () (AQ m i.a.toNat n) else if (i.op==4)=ad then (if bq i.a m.data.length=ad then .ov 6 m else gh (m.data[i.a.toNat]?.getD 0) m) else if (i.op==5)=ad then (eH m).bind λn m=>if bq i.a m.data.length=ad then .ov 6 m else .ok () { m with data:=m.data.set i.a.toNat n } else if (i.op==6)=ad then (eH m).bind λn m=>if (decide (n<0)||decide (i.b<=n))=ad then .ov 2 m else gh (an.wrap<|i.a+n) m else if (i.op==7)=ad then (eH m).bind λn m=>if bq n m.data.length=ad then .ov 6 m else gh (m.data[n.toNat]?.getD 0) m else if (i.op==8)=ad then (eH m).bind λn m=>(eH m).bind λk m=>if bq k m.data.length=ad then .ov 6 m else .ok () { m with data:=m.data.set k.toNat n } else if (i.op==9)=ad then (eH m).bind λn m=>gh (iC<|n==0) m else if (i.op==22)=ad then (eH m).bind λn m=>gh (iC<|n != 0) m else if (i.op==10)=ad then k9 i.a m else if (i.op==11)=ad then .ok () { m with at_:=i.a } else if (i.op==12)=ad then (eH m).bind λn m=>if (n==0)=ad then .ok () { m with at_:=i.a } else .ok () m else if (i.op==13)=ad then qa i.a m else if (i.op==14)=ad then p_ i.a i.b m else if (i.op==15)=ad then f' m else if (i.op==16)=ad then n6 m else if (i.op==17)=ad then (eH m).bind λ_ m=>.ok () m else if (i.op==18)=ad then gh (oJ m).1 (oJ m).2 else if (i.op==19)=ad then (eH m).bind λn m=>if m.out.length=200 then .ov 5 m else .ok () { m with out:=m.out++[n] } else if (i.op==20)=ad then .ov 0 m else .ok () m
def dN (i:ce) (m:Pm):Rz ef:=dA i m.bj
variable {zw:gv} {HK:I gv}
def ahW {s:ax}   (a:s.de=zw::HK) (k:Z) (n:ac):s.obj=ax.obj { s with de:={ zw with loc:=zw.loc.set k n }::HK }/\cQ 269 2 gv.cells s.fa s.fc s.de.reverse=cQ 269 2 gv.cells s.fa s.fc ({ zw with loc:=zw.loc.set k n }::HK).reverse:=by
 constructor;·simp [ax.obj,a]
 ·simp [a,gv.cells,cQ]
def J1 (s:ax) (k:Z) (n:ac):s.obj=ax.obj { s with data:=s.data.set k n }:=by simp [ax.obj]
def CZ {s:ax} {f:gv}  (a:s.de=f::HK):xn s.pu=f.loc:=by show (match s.de.map gv.pu with| []=>[]| f::_=>f.1)=_;rw [a];rfl
def Yg {s:ax} {f:gv} {r:I gv} (a:s.de=f::r) (k:Z) (n:ac):AQ s.pu k n=ax.pu { s with de:={ f with loc:=f.loc.set k n }::r }:=by show ({ s.pu with de:=match s.de.map gv.pu with| []=>[]| f::r=>(f.1.set k n,f.2)::r }:Pm)=_;rw [a];rfl
def PE (h:Pv.km bN):∃f r,Pv.de=f::r:=by have:=h.ml.1;cases a:Pv.de with| nil=>rw [a] at this;simp at this| cons f r=>exact ⟨f,r,rfl⟩
def PF (a:Pv.de=zw::HK):Pv.de.reverse[Pv.de.length-1]? = aa zw:=by rw [a,ye,pH aK];simp
def eL {i:ac} {n:Z} (h:bq i n=aq):0<=i/\i.toNat<n:=by unfold bq at h;simp at h;omega
def kN:aT aC 62 1=aa 1:=ah
def uK:aT aC 64 2=aa 2:=ah
def J2:aT aC 62 2=aa 2:=ah
def v3:aT aC 64 1=aa 1:=ah
set_option maxHeartbeats 4000000 in
def Yh (i:ce):vW 85 [.agg #[.int .i64 i.op,.int .i64 i.a,.int .i64 i.b]] (dN i)<|λi:Unit=>.tuple #[]:=by
 refine ⟨bp,λaN s b6 w aH g=>?_⟩;have cM:s.stack.reverse.length=s.stack.length:=by simp
 have cN:s.de.reverse.length=s.de.length:=by simp
 have cP:=aH.bF;have cQ:=aH.ml;have cR:=aH.out;have a3:=aH.hr;refine enter func85 O 225 O O<|CE g<|ak ?_;refine WL.box Y O O λcS=>ag<|ak<|ab O<|V0 (bS O)<|V0 (Yf g3 O)<|V0 (Yd 1 O O O ah)<|V0 (ud O O)<|V0 (bS O)<|V0 (Yf g3 O) ?_;refine aw 1 Y O O O eE O O O<|eb 1 (ax.obj<|ax.bj s) O O ?_;have z:ax.km b6<|ax.bj s:=aH.at _;refine ag<|ak<|V0 (Yf sp O)<|V0 (Yd 0 O O O ah)<|ag<|Cb<|ak<|V0 (bY O O)<|au O<|ag ?_;refine Cc O (λj=>?_)<|λj=>?_
 ·refine Cr<|ab O<|V0 (Yf kN O)<|V0 (Yd 0 O O O ah)<|Lf 6 O<|Lf 6 O<|Lf 6 O<|Lf 6 O ?_;refine Lf 6 O<|Lf 6 O ?_;refine ng (sv i.a) z ?_ ?_;·intro a4 a5;refine WE.cp<|b_ λk g=>?_;have g:=Ws.eD (L:=[_,_,_,_,_,_]) g;refine .inr ⟨a4,O,?_,g⟩;unfold dN dA;rw [show s.pu.bj=(ax.bj s).pu from rfl];simp only [j,en,dF,dD];exact a5
  intro a4 ⟨a5,b7⟩;refine Ln<|Eb ?_;refine E0 O λk g=>?_;have g:=Ws.eD (L:=[_,_,_,_,_,_]) g;refine .inl ⟨((),a4.2),O,⟨?_,b7⟩,g⟩;unfold dN dA;rw [show s.pu.bj=(ax.bj s).pu from rfl];simp only [j,en,dF,dD];exact a5
 refine ak<|V0 (bY O O)<|au O<|ag ?_;refine Cc O (λl=>?_)<|λl=>?_
 ·obtain ⟨f,r,P⟩:=PE z;refine WC.fact (p:=0<f.loc.length->∃b o,f.la=some ⟨b,o,none⟩) (λw g T=>I_ (As:=(ax.bj s).de.map gv.own) g 6 O (by rw [P];exact rp) T) λa7=>?_;have a8:=PF P;refine CU (λ_=>true) [] [11] (.q false 0<|.q false 1<|.q false 6<|.q true 7<|.e 2 (.q false 3<|.q false 4<|.q true 5<|.e 8 (.q false 9<|.q true 10 .nil) .stop) .stop) mixed (by kernel_rfl) (λ_ _ _ d _ _ h=>by cases d<;>exact h)<|U0 O (λ_ h=>h) (Ym O)<|U0 O (λ_ h=>h) (Ym O)<|U0 O (λ_ h=>h) (Yf kN O)<|U0 O (λ_ h=>h) (Yd 0 O O O ah) ?_;refine Ue O (λ_ h=>h) ?_ WU.stop;refine Lf 6 O<|Lf 6 O<|Lf 6 O<|Lf 6 O<|Lf 6 O<|Lf 6 O ?_;refine AP z ?_;intro cT b9;refine Ln<|Eu<|U0 O (λ_ h=>(h.f 6 O:)) (bS O)<|U0 O (λ_ h=>(h.f 6 O:)) (Yf CX O)<|U0 O (λ_ h=>(h.f 6 O:)) (nU (y:=f) 3 (s.de.length-1) 0 O O b9 O gv.dR a8 O ah) ?_;refine Ue O (λ_ h=>(h.f 6 O:)) ?_ WU.stop;refine xl a7 ?_ ?_;·intro aI;refine Ep<|WE.cp ?_;refine b_ λk g=>?_;have g:=Ws.eD (L:=[_,_,_,_,_,_]) g;refine .inr ⟨(6,ax.bj s),O,?_,g⟩;unfold dN dA;rw [show s.pu.bj=(ax.bj s).pu from rfl];simp only [j,l,en,dF,dD];rw [CZ (s:=ax.bj s) P,aD aI]
  intro cU ⟨aI,b'⟩;obtain ⟨bZ,a9⟩:∃x,f.loc[i.a.toNat]? = some x:=⟨_,cy (eL aI).2⟩;refine Ln<|Eu<|U0 O (λ_ h=>(h.f 6 O:)) (bS O)<|U0 O (λ_ h=>(h.f 6 O:)) (V3 (xs:=f.loc) (y:=bZ) 6 i.a.toNat 0 O O (by rw [P];exact rp) b' O jA a9 O ah) ?_;refine WU.nil (λ_ h=>(h.f 6 O:))<|WS.e O<|ng (sv bZ) z ?_ ?_;·intro a' a_;refine Ep<|WE.cp ?_;refine b_ λk g=>?_;have g:=Ws.eD (L:=[_,_,_,_,_,_]) g;refine .inr ⟨a',O,?_,g⟩;unfold dN dA;rw [show s.pu.bj=(ax.bj s).pu from rfl];simp only [j,l,en,dF,dD];rw [CZ (s:=ax.bj s) P,aI,aj (by simp),a9];exact a_
  intro a' ⟨a_,ca⟩;refine Ln<|Es ?_;refine WS.nil<|Eb<|E0 O λk g=>?_;have g:=Ws.eD (L:=[_,_,_,_,_,_]) g;refine .inl ⟨((),a'.2),O,⟨?_,ca⟩,g⟩;unfold dN dA;rw [show s.pu.bj=(ax.bj s).pu from rfl];simp only [j,l,en,dF,dD];rw [CZ (s:=ax.bj s) P,aI,aj (by simp),a9];exact a_
 refine ak<|V0 (bY O O)<|au O<|ag ?_;refine Cc O (λm=>?_)<|λm=>?_
 ·refine ak<|ab O<|Lf 6 O<|Lf 6 O<|Lf 6 O<|Lf 6 O<|Lf 6 O<|Lf 6 O ?_;refine qc z ?_ ?_;·intro M aO;refine Ep<|WE.cp ?_;refine b_ λk g=>?_;have g:=Ws.eD (L:=[_,_,_,_,_,_]) g;refine .inr ⟨M,O,?_,g⟩;unfold dN dA;rw [show s.pu.bj=(ax.bj s).pu from rfl];simp only [j,l,m,en,dF,dD];rw [aO];rfl
  intro M ⟨aO,ba⟩;refine au O<|ag ?_;obtain ⟨f,r,P⟩:=PE ba;refine WC.fact (p:=0<f.loc.length->∃b o,f.la=some ⟨b,o,none⟩) (λw g T=>I_ (As:=(ax.fT (ax.bj s) M.2).de.map gv.own) g 5 O (by rw [P];exact rp) T) λa7=>?_;have a8:=PF P;refine CU (λ_=>true) [] [10] (.q false 0<|.q false 5<|.q true 6<|.q false 8<|.e 1 (.q false 2<|.q false 3<|.q true 4<|.e 7 (.q false 9 .nil) .stop) .stop) mixed (by kernel_rfl) (λ_ _ _ d _ _ h=>by cases d<;>exact h)<|U0 O (λ_ h=>h) (Ym O)<|U0 O (λ_ h=>h) (Yf kN O)<|U0 O (λ_ h=>h) (Yd 6 O O O ah)<|U0 O (λ_ h=>h) (Ym O) ?_;refine Ue O (λ_ h=>h) ?_ WU.stop;refine AP ba λcV cb=>Ln<|Eu<|U0 O (λ_ h=>h) (bS O)<|U0 O (λ_ h=>h) (Yf CX O)<|U0 O (λ_ h=>h) (nU (y:=f) 2 (s.de.length-1) 0 O O cb O gv.dR a8 O ah) ?_;refine Ue O (λ_ h=>h) ?_ WU.stop;refine xl a7 ?_ ?_;·intro aT;refine Ep<|WE.cp ?_;refine b_ λk g=>?_;have g:=Ws.eD (L:=[_,_,_,_,_,_]) g;refine .inr ⟨(6,ax.fT (ax.bj s) M.2),O,?_,g⟩;unfold dN dA;rw [show s.pu.bj=(ax.bj s).pu from rfl];simp only [j,l,m,en,dF,dD];rw [aO];show (if bq i.a (xn (ax.fT (ax.bj s) M.2).pu).length=true then _ else _)=_;rw [CZ (s:=ax.fT (ax.bj s) M.2) P,aD aT]
  intro cW ⟨aT,cc⟩;obtain ⟨cd,ch⟩:∃x,f.loc[i.a.toNat]? = some x:=⟨_,cy (eL aT).2⟩;refine Ln<|Eu<|U0 O (λ_ h=>h) (bS O) ?_;refine WU.nil (λ_ h=>h)<|WS.e O<|WL.pS (A':=hg<|gv.own f::r.map gv.own) 5 O (by rw [P];rfl)<|Lf 5 O<|WL.NE<|WL.storeT (y:=cd) 0 i.a.toNat 0 M.1 Y O O O cc O jA ch eE O O (by decide) O<|WL.NF<|Ln<|Es ?_;refine WS.nil<|Eb<|E0 O λk g=>?_;have g:=g.bs 5 rfl;have g:=g.bs 5 rfl;have g:=g.bs 5 rfl;have g:=g.bs 5 rfl;have g:=g.bs 5 rfl;have g:=Ws.eD (L:=[_,_,_,_,_,_]) g;have e:=ahW (s:=ax.fT (ax.bj s) M.2) P i.a.toNat M.1;have g:=g.pS 0 rfl<|congrArg (aQ aN) e.1;have g:=g.pS 2 rfl e.2;refine .inl ⟨((),{ ax.fT (ax.bj s) M.2 with de:={ f with loc:=f.loc.set i.a.toNat M.1 }::r }),O,⟨?_,⟨z.bn,ba.bF,by have:=z.ml;rw [show (ax.bj s).de=f::r from P] at this;exact this,z.out,z.hr⟩⟩,g⟩;unfold dN dA;rw [show s.pu.bj=(ax.bj s).pu from rfl];simp only [j,l,m,en,dF,dD];rw [aO];show (if bq i.a (xn (ax.fT (ax.bj s) M.2).pu).length=true then _ else _)=_;rw [CZ (s:=ax.fT (ax.bj s) M.2) P,aT,aj (by simp)];show Rz.ok () (AQ (ax.fT (ax.bj s) M.2).pu i.a.toNat M.1)=_;rw [Yg (s:=ax.fT (ax.bj s) M.2) P]
 refine ak<|V0 (bY O O)<|au O<|ag ?_;refine Cc O (λn=>?_)<|λn=>?_
 ·refine WC.fact (p:=0<s.data.length->∃b o,s.da=some ⟨b,o,none⟩) (λw g T=>Fj g 5 O T) λX=>CU (λ_=>true) [] [11] (.q false 0<|.q false 1<|.q false 2<|.q false 3<|.q false 4<|.q true 5<|.q false 6<|.q true 7<|.e 8 (.q false 9<|.q true 10 .nil) .stop) mixed (by kernel_rfl) (λ_ _ _ d _ _ h=>by cases d<;>exact h)<|U0 O (λ_ h=>h) (Ym O)<|U0 O (λ_ h=>h) (Ym O)<|U0 O (λ_ h=>h) (bS O)<|U0 O (λ_ h=>h) (Yf rC O)<|U0 O (λ_ h=>h) (Yf uK O)<|U0 O (λ_ h=>h) (Yd 1 O O O ah)<|U0 O (λ_ h=>h) (Yf kN O)<|U0 O (λ_ h=>h) (Yd 0 O O O ah) ?_;refine Ue O (λ_ h=>h) ?_ WU.stop;refine xl X ?_ ?_;·intro aK;refine Ep<|WE.cp ?_;refine b_ λk g=>?_;have g:=g.bs 6 rfl;have g:=g.bs 6 rfl;have g:=g.bs 6 rfl;have g:=g.bs 6 rfl;have g:=g.bs 6 rfl;have g:=g.bs 6 rfl;have g:=Ws.eD (L:=[_,_,_,_,_,_]) g;refine .inr ⟨(6,ax.bj s),O,?_,g⟩;unfold dN dA;rw [show s.pu.bj=(ax.bj s).pu from rfl];simp only [j,l,m,n,en,dF,dD];show (if bq i.a s.data.length=true then _ else _)=_;rw [aD aK]
  intro cX ⟨aK,ci⟩;obtain ⟨b1,bb⟩:∃x,s.data[i.a.toNat]? = some x:=⟨_,cy (eL aK).2⟩;refine Ln<|Eu<|U0 O (λ_ h=>h) (bS O)<|U0 O (λ_ h=>h) (nU (y:=b1) 5 i.a.toNat 0 O O ci O jA bb O ah) ?_;refine WU.nil (λ_ h=>h)<|WS.e O<|Lf 6 O<|Lf 6 O<|Lf 6 O<|Lf 6 O<|Lf 6 O<|Lf 6 O ?_;refine ng (sv b1) z ?_ ?_;·intro bc bd;refine Ep<|WE.cp ?_;refine b_ λk g=>?_;have g:=Ws.eD (L:=[_,_,_,_,_,_]) g;refine .inr ⟨bc,O,?_,g⟩;unfold dN dA;rw [show s.pu.bj=(ax.bj s).pu from rfl];simp only [j,l,m,n,en,dF,dD];show (if bq i.a s.data.length=true then _ else _)=_;rw [aK,aj (by simp)];show gh (s.data[i.a.toNat]?.getD 0) _=_;rw [bb];exact bd
  intro bc ⟨bd,cj⟩;refine Ln<|Es ?_;refine WS.nil<|Eb<|E0 O λk g=>?_;have g:=Ws.eD (L:=[_,_,_,_,_,_]) g;refine .inl ⟨((),bc.2),O,⟨?_,cj⟩,g⟩;unfold dN dA;rw [show s.pu.bj=(ax.bj s).pu from rfl];simp only [j,l,m,n,en,dF,dD];show (if bq i.a s.data.length=true then _ else _)=_;rw [aK,aj (by simp)];show gh (s.data[i.a.toNat]?.getD 0) _=_;rw [bb];exact bd
 refine ak<|V0 (bY O O)<|au O<|ag ?_;refine Cc O (λt=>?_)<|λt=>?_
 ·refine ak<|ab O<|Lf 6 O<|Lf 6 O<|Lf 6 O<|Lf 6 O<|Lf 6 O<|Lf 6 O ?_;refine qc z ?_ ?_;·intro ae aU;refine Ep<|WE.cp ?_;refine b_ λk g=>?_;have g:=Ws.eD (L:=[_,_,_,_,_,_]) g;refine .inr ⟨ae,O,?_,g⟩;unfold dN dA;rw [show s.pu.bj=(ax.bj s).pu from rfl];simp only [j,l,m,n,t,en,dF,dD];rw [aU];rfl
  intro ae ⟨aU,ck⟩;refine au O<|ag ?_;refine WC.fact (p:=0<s.data.length->∃b o,s.da=some ⟨b,o,none⟩) (λw g T=>Fj g 4 O T) λX=>CU (λ_=>true) [] [10] (.q false 0<|.q false 1<|.q false 2<|.q false 3<|.q true 4<|.q false 5<|.q true 6<|.q false 8<|.e 7 (.q false 9 .nil) .stop) mixed (by kernel_rfl) (λ_ _ _ d _ _ h=>by cases d<;>exact h)<|U0 O (λ_ h=>h) (Ym O)<|U0 O (λ_ h=>h) (bS O)<|U0 O (λ_ h=>h) (Yf rC O)<|U0 O (λ_ h=>h) (Yf uK O)<|U0 O (λ_ h=>h) (Yd 0 O O O ah)<|U0 O (λ_ h=>h) (Yf kN O)<|U0 O (λ_ h=>h) (Yd 6 O O O ah)<|U0 O (λ_ h=>h) (Ym O) ?_;refine Ue O (λ_ h=>h) ?_ WU.stop;refine xl X ?_ ?_;·intro aV;refine Ep<|WE.cp ?_;refine b_ λk g=>?_;have g:=Ws.eD (L:=[_,_,_,_,_,_]) g;refine .inr ⟨(6,ax.fT (ax.bj s) ae.2),O,?_,g⟩;unfold dN dA;rw [show s.pu.bj=(ax.bj s).pu from rfl];simp only [j,l,m,n,t,en,dF,dD];rw [aU];show (if bq i.a s.data.length=true then _ else _)=_;rw [aD aV]
  intro cZ ⟨aV,cl⟩;obtain ⟨cm,co⟩:∃x,s.data[i.a.toNat]? = some x:=⟨_,cy (eL aV).2⟩;refine Ln<|Eu<|U0 O (λ_ h=>h) (bS O) ?_;refine WU.nil (λ_ h=>h)<|WS.e O<|WL.storeT (y:=cm) 4 i.a.toNat 0 ae.1 Y O O O cl O jA co eE O O (by decide) O<|Ln<|Es ?_;refine WS.nil<|Eb<|E0 O λk g=>?_;have g:=Ws.eD (L:=[_,_,_,_,_,_]) g;have g:=g.pS 0 rfl<|congrArg (aQ aN)<|J1 (ax.fT (ax.bj s) ae.2) i.a.toNat ae.1;refine .inl ⟨((),{ ax.fT (ax.bj s) ae.2 with data:=s.data.set i.a.toNat ae.1 }),O,⟨?_,⟨z.bn,ck.bF,z.ml,z.out,by show (s.data.set i.a.toNat ae.1).length<=512;simp;exact a3⟩⟩,g⟩;unfold dN dA;rw [show s.pu.bj=(ax.bj s).pu from rfl];simp only [j,l,m,n,t,en,dF,dD];rw [aU];show (if bq i.a s.data.length=true then _ else _)=_;rw [aV,aj (by simp)];rfl
 refine ak<|V0 (bY O O)<|au O<|ag ?_;refine Cc O (λu=>?_)<|λu=>?_
 ·refine ak<|ab O<|Lf 6 O<|Lf 6 O<|Lf 6 O<|Lf 6 O<|Lf 6 O<|Lf 6 O ?_;refine qc z ?_ ?_;·intro R aL;refine Ep<|WE.cp ?_;refine b_ λk g=>?_;have g:=Ws.eD (L:=[_,_,_,_,_,_]) g;refine .inr ⟨R,O,?_,g⟩;unfold dN dA;rw [show s.pu.bj=(ax.bj s).pu from rfl];simp only [j,l,m,n,t,u,en,dF,dD];rw [aL];rfl
  intro R ⟨aL,cq⟩;refine au O<|ag<|ak<|ab O<|V0 (c8 O O)<|ab O ?_;apply Lo 4 O O O O Y O O O O O;·intro c0;refine Vg (Ym O)<|Vg (Yf J2 O)<|Vg (Yd 6 O O O ah)<|Vg (h9 O O) ?_;exact Gt 4 O O O
  refine qb (c:=decide (R.1<0)||decide (i.b<=R.1)) ?_ ?_;·intro aW;refine Ep<|WE.cp ?_;refine b_ λk g=>?_;have g:=Ws.eD (L:=[_,_,_,_,_,_]) g;refine .inr ⟨(2,ax.fT (ax.bj s) R.2),O,?_,g⟩;unfold dN dA;rw [show s.pu.bj=(ax.bj s).pu from rfl];simp only [j,l,m,n,t,u,en,dF,dD];rw [aL];show (if (decide (R.1<0)||decide (i.b<=R.1))=true then _ else _)=_;rw [aD aW]
  intro aW;refine ag<|Cr<|ab O<|V0 (Yf kN O)<|V0 (Yd 6 O O O ah)<|ab O<|V0 (ud O O) ?_;refine ng (sv<|IntKind.i64.wrap<|i.a+R.1) cq ?_ ?_;·intro bf bg;refine WE.cp<|b_ λk g=>?_;have g:=Ws.eD (L:=[_,_,_,_,_,_]) g;refine .inr ⟨bf,O,?_,g⟩;unfold dN dA;rw [show s.pu.bj=(ax.bj s).pu from rfl];simp only [j,l,m,n,t,u,en,dF,dD];rw [aL];show (if (decide (R.1<0)||decide (i.b<=R.1))=true then _ else _)=_;rw [aW,aj (by simp)];exact bg
  intro bf ⟨bg,cr⟩;refine Ln<|Eb ?_;refine E0 O λk g=>?_;have g:=Ws.eD (L:=[_,_,_,_,_,_]) g;refine .inl ⟨((),bf.2),O,⟨?_,cr⟩,g⟩;unfold dN dA;rw [show s.pu.bj=(ax.bj s).pu from rfl];simp only [j,l,m,n,t,u,en,dF,dD];rw [aL];show (if (decide (R.1<0)||decide (i.b<=R.1))=true then _ else _)=_;rw [aW,aj (by simp)];exact bg
 refine ak<|V0 (bY O O)<|au O<|ag ?_;refine Cc O (λv=>?_)<|λv=>?_
 ·refine WC.fact (p:=0<s.data.length->∃b o,s.da=some ⟨b,o,none⟩) (λw g T=>Fj g 5 O T) λX=>CU (λ_=>true) [1,1] [11] (.q false 0<|.q false 1<|.q false 2<|.q false 3<|.q false 4<|.q false 6<|.e 5 (.e 7 (.e 8 (.q false 9<|.q true 10 .nil) .stop) .stop)<|.e 7 (.e 5 (.e 8 (.q false 9<|.q true 10 .nil) .stop) .stop) .stop) mixed (by kernel_rfl) (λ_ _ _ d _ _ h=>by cases d<;>exact h)<|U0 O (dn [1,1]) (Ym O)<|U0 O (dn [1,1]) (Ym O)<|U0 O (dn [1,1]) (bS O)<|U0 O (dn [1,1]) (Yf rC O)<|U0 O (dn [1,1]) (Yf uK O)<|U0 O (dn [1,1]) (Ym O) ?_;refine Ue O (dn [1,1]) ?_ ?_
  ·refine V0 (Yd 1 O O O ah)<|Ln<|Eu ?_;refine Ue O (dn [1,1]) ?_ WU.stop;refine Lf 6 O<|Lf 6 O<|Lf 6 O<|Lf 6 O<|Lf 6 O<|Lf 6 O ?_;refine qc z ?_ ?_;·intro H U;refine Ep<|WE.cp ?_;refine b_ λk g=>?_;have g:=Ws.eD (L:=[_,_,_,_,_,_]) g;refine .inr ⟨H,O,?_,g⟩;unfold dN dA;rw [show s.pu.bj=(ax.bj s).pu from rfl];simp only [j,l,m,n,t,u,v,en,dF,dD];rw [U];rfl
   intro H ⟨U,bh⟩;refine Ln<|Eu ?_;refine Ue O (λ_ h=>(Wo 1<|Wo 1<|h.f 6 O:)) ?_ WU.stop;refine xl X ?_ ?_;·intro V;refine Ep<|WE.cp ?_;refine b_ λk g=>?_;have g:=Ws.eD (L:=[_,_,_,_,_,_]) g;refine .inr ⟨(6,ax.fT (ax.bj s) H.2),O,?_,g⟩;unfold dN dA;rw [show s.pu.bj=(ax.bj s).pu from rfl];simp only [j,l,m,n,t,u,v,en,dF,dD];rw [U];show (if bq H.1 s.data.length=true then _ else _)=_;rw [aD V]
   intro cs ⟨V,bi⟩;obtain ⟨aM,av⟩:∃x,s.data[H.1.toNat]? = some x:=⟨_,cy (eL V).2⟩;refine Ln<|Eu<|U0 O (λ_ h=>(Wo 1<|Wo 1<|h.f 6 O:)) (bS O)<|U0 O (λ_ h=>(Wo 1<|Wo 1<|h.f 6 O:)) (nU (y:=aM) 3 H.1.toNat 0 O O bi O jA av O ah) ?_;refine WU.nil (λ_ h=>(Wo 1<|Wo 1<|h.f 6 O:))<|WS.e O<|ng (sv aM) bh ?_ ?_;·intro ay az;refine Ep<|WE.cp ?_;refine b_ λk g=>?_;have g:=Ws.eD (L:=[_,_,_,_,_,_]) g;refine .inr ⟨ay,O,?_,g⟩;unfold dN dA;rw [show s.pu.bj=(ax.bj s).pu from rfl];simp only [j,l,m,n,t,u,v,en,dF,dD];rw [U];show (if bq H.1 s.data.length=true then _ else _)=_;rw [V,aj (by simp)];show gh (s.data[H.1.toNat]?.getD 0) _=_;rw [av];exact az
   intro ay ⟨az,bk⟩;refine Ln<|Es ?_;refine WS.nil<|Eb<|E0 O λk g=>?_;have g:=Ws.eD (L:=[_,_,_,_,_,_]) g;refine .inl ⟨((),ay.2),O,⟨?_,bk⟩,g⟩;unfold dN dA;rw [show s.pu.bj=(ax.bj s).pu from rfl];simp only [j,l,m,n,t,u,v,en,dF,dD];rw [U];show (if bq H.1 s.data.length=true then _ else _)=_;rw [V,aj (by simp)];show gh (s.data[H.1.toNat]?.getD 0) _=_;rw [av];exact az
  refine Ue O (dn [1,1]) ?_ WU.stop;refine Lf 6 O<|Lf 6 O<|Lf 6 O<|Lf 6 O<|Lf 6 O<|Lf 6 O ?_;refine qc z ?_ ?_;·intro H U;refine Ep<|WE.cp ?_;refine b_ λk g=>?_;have g:=Ws.eD (L:=[_,_,_,_,_,_]) g;refine .inr ⟨H,O,?_,g⟩;unfold dN dA;rw [show s.pu.bj=(ax.bj s).pu from rfl];simp only [j,l,m,n,t,u,v,en,dF,dD];rw [U];rfl
  intro H ⟨U,bh⟩;refine Ln<|Eu ?_;refine Ue O (λ_ h=>(Wo 1<|Wo 1<|h.f 6 O:)) ?_ WU.stop;refine V0 (Yd 0 O O O ah)<|Ln<|Eu ?_;refine Ue O (λ_ h=>(Wo 1<|Wo 1<|h.f 6 O:)) ?_ WU.stop;refine xl X ?_ ?_;·intro V;refine Ep<|WE.cp ?_;refine b_ λk g=>?_;have g:=Ws.eD (L:=[_,_,_,_,_,_]) g;refine .inr ⟨(6,ax.fT (ax.bj s) H.2),O,?_,g⟩;unfold dN dA;rw [show s.pu.bj=(ax.bj s).pu from rfl];simp only [j,l,m,n,t,u,v,en,dF,dD];rw [U];show (if bq H.1 s.data.length=true then _ else _)=_;rw [aD V]
  intro cs ⟨V,bi⟩;obtain ⟨aM,av⟩:∃x,s.data[H.1.toNat]? = some x:=⟨_,cy (eL V).2⟩;refine Ln<|Eu<|U0 O (λ_ h=>(Wo 1<|Wo 1<|h.f 6 O:)) (bS O)<|U0 O (λ_ h=>(Wo 1<|Wo 1<|h.f 6 O:)) (nU (y:=aM) 3 H.1.toNat 0 O O bi O jA av O ah) ?_;refine WU.nil (λ_ h=>(Wo 1<|Wo 1<|h.f 6 O:))<|WS.e O<|ng (sv aM) bh ?_ ?_;·intro ay az;refine Ep<|WE.cp ?_;refine b_ λk g=>?_;have g:=Ws.eD (L:=[_,_,_,_,_,_]) g;refine .inr ⟨ay,O,?_,g⟩;unfold dN dA;rw [show s.pu.bj=(ax.bj s).pu from rfl];simp only [j,l,m,n,t,u,v,en,dF,dD];rw [U];show (if bq H.1 s.data.length=true then _ else _)=_;rw [V,aj (by simp)];show gh (s.data[H.1.toNat]?.getD 0) _=_;rw [av];exact az
  intro ay ⟨az,bk⟩;refine Ln<|Es ?_;refine WS.nil<|Eb<|E0 O λk g=>?_;have g:=Ws.eD (L:=[_,_,_,_,_,_]) g;refine .inl ⟨((),ay.2),O,⟨?_,bk⟩,g⟩;unfold dN dA;rw [show s.pu.bj=(ax.bj s).pu from rfl];simp only [j,l,m,n,t,u,v,en,dF,dD];rw [U];show (if bq H.1 s.data.length=true then _ else _)=_;rw [V,aj (by simp)];show gh (s.data[H.1.toNat]?.getD 0) _=_;rw [av];exact az
 refine ak<|V0 (bY O O)<|au O<|ag ?_;refine Cc O (λA=>?_)<|λA=>?_
 ·refine ak<|ab O<|Lf 6 O<|Lf 6 O<|Lf 6 O<|Lf 6 O<|Lf 6 O<|Lf 6 O ?_;refine qc z ?_ ?_;·intro F al;refine Ep<|WE.cp ?_;refine b_ λk g=>?_;have g:=Ws.eD (L:=[_,_,_,_,_,_]) g;refine .inr ⟨F,O,?_,g⟩;unfold dN dA;rw [show s.pu.bj=(ax.bj s).pu from rfl];simp only [j,l,m,n,t,u,v,A,en,dF,dD];rw [al];rfl
  intro F ⟨al,b2⟩;refine au O<|ag ?_;refine WC.fact (p:=0<s.data.length->∃b o,s.da=some ⟨b,o,none⟩) (λw g T=>Fj g 4 O T) λX=>CU (λ_=>true) [0,0] [10] (.q false 0<|.q false 1<|.q false 2<|.q false 3<|.q false 5<|.q false 8<|.e 4 (.e 6 (.e 7 (.q false 9 .nil) .stop) .stop)<|.e 6 (.e 4 (.e 7 (.q false 9 .nil) .stop) .stop) .stop) mixed (by kernel_rfl) (λ_ _ _ d _ _ h=>by cases d<;>exact h)<|U0 O (dn [0,0]) (Ym O)<|U0 O (dn [0,0]) (bS O)<|U0 O (dn [0,0]) (Yf rC O)<|U0 O (dn [0,0]) (Yf uK O)<|U0 O (dn [0,0]) (Ym O)<|U0 O (dn [0,0]) (Ym O) ?_;refine Ue O (dn [0,0]) ?_ ?_
  ·refine V0 (Yd 0 O O O ah)<|Ln<|Eu ?_;refine Ue O (dn [0,0]) ?_ WU.stop;refine qc b2 ?_ ?_;·intro D af;refine Ep<|WE.cp ?_;refine b_ λk g=>?_;have g:=Ws.eD (L:=[_,_,_,_,_,_]) g;refine .inr ⟨D,O,?_,g⟩;unfold dN dA;rw [show s.pu.bj=(ax.bj s).pu from rfl];simp only [j,l,m,n,t,u,v,A,en,dF,dD];rw [al];show Rz.bind (eH (ax.fT (ax.bj s) F.2).pu) _=_;rw [af];rfl
   intro D ⟨af,bl⟩;refine Ln<|Eu ?_;refine Ue O (dn [0,0]) ?_ WU.stop;refine xl X ?_ ?_;·intro ai;refine Ep<|WE.cp ?_;refine b_ λk g=>?_;have g:=Ws.eD (L:=[_,_,_,_,_,_]) g;refine .inr ⟨(6,ax.fT (ax.fT (ax.bj s) F.2) D.2),O,?_,g⟩;unfold dN dA;rw [show s.pu.bj=(ax.bj s).pu from rfl];simp only [j,l,m,n,t,u,v,A,en,dF,dD];rw [al];show Rz.bind (eH (ax.fT (ax.bj s) F.2).pu) _=_;rw [af];show (if bq D.1 s.data.length=true then _ else _)=_;rw [aD ai]
   intro ct ⟨ai,bm⟩;obtain ⟨bo,br⟩:∃x,s.data[D.1.toNat]? = some x:=⟨_,cy (eL ai).2⟩;refine Ln<|Eu<|U0 O (dn [0,0]) (bS O) ?_;refine WU.nil (dn [0,0])<|WS.e O<|WL.storeT (y:=bo) 4 D.1.toNat 0 F.1 Y O O O bm O jA br eE O O (by decide) O<|Ln<|Es ?_;refine WS.nil<|Eb<|E0 O λk g=>?_;have g:=Ws.eD (L:=[_,_,_,_,_,_]) g;have g:=g.pS 0 rfl<|congrArg (aQ aN)<|J1 (ax.fT (ax.fT (ax.bj s) F.2) D.2) D.1.toNat F.1;refine .inl ⟨((),{ ax.fT (ax.fT (ax.bj s) F.2) D.2 with data:=s.data.set D.1.toNat F.1 }),O,⟨?_,⟨z.bn,bl.bF,z.ml,z.out,by show (s.data.set D.1.toNat F.1).length<=512;simp;exact a3⟩⟩,g⟩;unfold dN dA;rw [show s.pu.bj=(ax.bj s).pu from rfl];simp only [j,l,m,n,t,u,v,A,en,dF,dD];rw [al];show Rz.bind (eH (ax.fT (ax.bj s) F.2).pu) _=_;rw [af];show (if bq D.1 s.data.length=true then _ else _)=_;rw [ai,aj (by simp)];rfl
  refine Ue O (dn [0,0]) ?_ WU.stop;refine qc b2 ?_ ?_;·intro D af;refine Ep<|WE.cp ?_;refine b_ λk g=>?_;have g:=Ws.eD (L:=[_,_,_,_,_,_]) g;refine .inr ⟨D,O,?_,g⟩;unfold dN dA;rw [show s.pu.bj=(ax.bj s).pu from rfl];simp only [j,l,m,n,t,u,v,A,en,dF,dD];rw [al];show Rz.bind (eH (ax.fT (ax.bj s) F.2).pu) _=_;rw [af];rfl
  intro D ⟨af,bl⟩;refine Ln<|Eu ?_;refine Ue O (dn [0,0]) ?_ WU.stop;refine V0 (Yd 0 O O O ah)<|Ln<|Eu ?_;refine Ue O (dn [0,0]) ?_ WU.stop;refine xl X ?_ ?_;·intro ai;refine Ep<|WE.cp ?_;refine b_ λk g=>?_;have g:=Ws.eD (L:=[_,_,_,_,_,_]) g;refine .inr ⟨(6,ax.fT (ax.fT (ax.bj s) F.2) D.2),O,?_,g⟩;unfold dN dA;rw [show s.pu.bj=(ax.bj s).pu from rfl];simp only [j,l,m,n,t,u,v,A,en,dF,dD];rw [al];show Rz.bind (eH (ax.fT (ax.bj s) F.2).pu) _=_;rw [af];show (if bq D.1 s.data.length=true then _ else _)=_;rw [aD ai]
  intro ct ⟨ai,bm⟩;obtain ⟨bo,br⟩:∃x,s.data[D.1.toNat]? = some x:=⟨_,cy (eL ai).2⟩;refine Ln<|Eu<|U0 O (dn [0,0]) (bS O) ?_;refine WU.nil (dn [0,0])<|WS.e O<|WL.storeT (y:=bo) 4 D.1.toNat 0 F.1 Y O O O bm O jA br eE O O (by decide) O<|Ln<|Es ?_;refine WS.nil<|Eb<|E0 O λk g=>?_;have g:=Ws.eD (L:=[_,_,_,_,_,_]) g;have g:=g.pS 0 rfl<|congrArg (aQ aN)<|J1 (ax.fT (ax.fT (ax.bj s) F.2) D.2) D.1.toNat F.1;refine .inl ⟨((),{ ax.fT (ax.fT (ax.bj s) F.2) D.2 with data:=s.data.set D.1.toNat F.1 }),O,⟨?_,⟨z.bn,bl.bF,z.ml,z.out,by show (s.data.set D.1.toNat F.1).length<=512;simp;exact a3⟩⟩,g⟩;unfold dN dA;rw [show s.pu.bj=(ax.bj s).pu from rfl];simp only [j,l,m,n,t,u,v,A,en,dF,dD];rw [al];show Rz.bind (eH (ax.fT (ax.bj s) F.2).pu) _=_;rw [af];show (if bq D.1 s.data.length=true then _ else _)=_;rw [ai,aj (by simp)];rfl
 refine ak<|V0 (bY O O)<|au O<|ag ?_;refine Cc O (λB=>?_)<|λB=>?_
 ·refine Cr<|ab O<|ab O<|Lf 6 O<|Lf 6 O<|Lf 6 O<|Lf 6 O<|Lf 6 O ?_;refine Lf 6 O<|qc z ?_ ?_;·intro bt aX;refine WE.cp<|b_ λk g=>?_;have g:=Ws.eD (L:=[_,_,_,_,_,_]) g;refine .inr ⟨bt,O,?_,g⟩;unfold dN dA;rw [show s.pu.bj=(ax.bj s).pu from rfl];simp only [j,l,m,n,t,u,v,A,B,en,dF,dD];rw [aX];rfl
  intro bt ⟨aX,cu⟩;refine V0 (bY O O)<|Lp Y O bp O (λw g=>Ga _ w) ?_;refine ng (sv<|iC<|bt.1==0) cu ?_ ?_;·intro bu bv;refine WE.cp<|b_ λk g=>?_;have g:=Ws.eD (L:=[_,_,_,_,_,_]) g;refine .inr ⟨bu,O,?_,g⟩;unfold dN dA;rw [show s.pu.bj=(ax.bj s).pu from rfl];simp only [j,l,m,n,t,u,v,A,B,en,dF,dD];rw [aX];exact bv
  intro bu ⟨bv,cv⟩;refine Ln<|Eb ?_;refine E0 O λk g=>?_;have g:=Ws.eD (L:=[_,_,_,_,_,_]) g;refine .inl ⟨((),bu.2),O,⟨?_,cv⟩,g⟩;unfold dN dA;rw [show s.pu.bj=(ax.bj s).pu from rfl];simp only [j,l,m,n,t,u,v,A,B,en,dF,dD];rw [aX];exact bv
 refine ak<|V0 (bY O O)<|au O<|ag ?_;refine Cc O (λC=>?_)<|λC=>?_
 ·refine Cr<|ab O<|ab O<|Lf 6 O<|Lf 6 O<|Lf 6 O<|Lf 6 O<|Lf 6 O ?_;refine Lf 6 O<|qc z ?_ ?_;·intro bw aZ;refine WE.cp<|b_ λk g=>?_;have g:=Ws.eD (L:=[_,_,_,_,_,_]) g;refine .inr ⟨bw,O,?_,g⟩;unfold dN dA;rw [show s.pu.bj=(ax.bj s).pu from rfl];simp only [j,l,m,n,t,u,v,A,B,C,en,dF,dD];rw [aZ];rfl
  intro bw ⟨aZ,cw⟩;refine V0 (ha O O)<|Lp Y O bp O (λw g=>Ga _ w) ?_;refine ng (sv<|iC<|bw.1 != 0) cw ?_ ?_;·intro bx bz;refine WE.cp<|b_ λk g=>?_;have g:=Ws.eD (L:=[_,_,_,_,_,_]) g;refine .inr ⟨bx,O,?_,g⟩;unfold dN dA;rw [show s.pu.bj=(ax.bj s).pu from rfl];simp only [j,l,m,n,t,u,v,A,B,C,en,dF,dD];rw [aZ];exact bz
  intro bx ⟨bz,cz⟩;refine Ln<|Eb ?_;refine E0 O λk g=>?_;have g:=Ws.eD (L:=[_,_,_,_,_,_]) g;refine .inl ⟨((),bx.2),O,⟨?_,cz⟩,g⟩;unfold dN dA;rw [show s.pu.bj=(ax.bj s).pu from rfl];simp only [j,l,m,n,t,u,v,A,B,C,en,dF,dD];rw [aZ];exact bz
 refine ak<|V0 (bY O O)<|au O<|ag ?_;refine Cc O (λE=>?_)<|λE=>?_
 ·refine Cr<|ab O<|V0 (Yf kN O)<|V0 (Yd 0 O O O ah)<|Lf 6 O<|Lf 6 O<|Lf 6 O<|Lf 6 O ?_;refine Lf 6 O<|Lf 6 O ?_;refine ng (X8 i.a) z ?_ ?_;·intro bA bC;refine WE.cp<|b_ λk g=>?_;have g:=Ws.eD (L:=[_,_,_,_,_,_]) g;refine .inr ⟨bA,O,?_,g⟩;unfold dN dA;rw [show s.pu.bj=(ax.bj s).pu from rfl];simp only [j,l,m,n,t,u,v,A,B,C,E,en,dF,dD];exact bC
  intro bA ⟨bC,cA⟩;refine Ln<|Eb ?_;refine E0 O λk g=>?_;have g:=Ws.eD (L:=[_,_,_,_,_,_]) g;refine .inl ⟨((),bA.2),O,⟨?_,cA⟩,g⟩;unfold dN dA;rw [show s.pu.bj=(ax.bj s).pu from rfl];simp only [j,l,m,n,t,u,v,A,B,C,E,en,dF,dD];exact bC
 refine ak<|V0 (bY O O)<|au O<|ag ?_;refine Cc O (λG=>?_)<|λG=>?_;·refine Cr<|ab O<|V0 (Yf kN O)<|V0 (Yd 0 O O O ah)<|V0 (bS O)<|V0 (Yf g3 O)<|aw 1 Y O O O eE O O O<|Ln<|Eb ?_;refine E0 O λk g=>?_;have g:=g.bs 6 rfl;have g:=g.bs 6 rfl;have g:=g.bs 6 rfl;have g:=g.bs 6 rfl;have g:=g.bs 6 rfl;have g:=g.bs 6 rfl;have g:=Ws.eD (L:=[_,_,_,_,_,_]) g;refine .inl ⟨((),{ ax.bj s with at_:=i.a }),O,⟨?_,z.at i.a⟩,g⟩;unfold dN dA;rw [show s.pu.bj=(ax.bj s).pu from rfl];simp only [j,l,m,n,t,u,v,A,B,C,E,G,en,dF,dD];all_goals rfl
 refine ak<|V0 (bY O O)<|au O<|ag ?_;refine Cc O (λJ=>?_)<|λJ=>?_
 ·refine ak<|ab O<|Lf 6 O<|Lf 6 O<|Lf 6 O<|Lf 6 O<|Lf 6 O<|Lf 6 O ?_;refine qc z ?_ ?_;·intro aF a0;refine Ep<|WE.cp ?_;refine b_ λk g=>?_;have g:=Ws.eD (L:=[_,_,_,_,_,_]) g;refine .inr ⟨aF,O,?_,g⟩;unfold dN dA;rw [show s.pu.bj=(ax.bj s).pu from rfl];simp only [j,l,m,n,t,u,v,A,B,C,E,G,J,en,dF,dD];rw [a0];rfl
  intro aF ⟨a0,b3⟩;refine V0 (bY O O)<|ag ?_;refine Cc O (λbD=>?_)<|λbD=>?_;·refine Cr<|ab O<|V0 (Yf kN O)<|V0 (Yd 6 O O O ah)<|V0 (bS O)<|V0 (Yf g3 O)<|aw 0 Y O O O eE O O O<|Ln<|Eb ?_;refine E0 O λk g=>?_;have g:=Ws.eD (L:=[_,_,_,_,_,_]) g;refine .inl ⟨((),{ ax.fT (ax.bj s) aF.2 with at_:=i.a }),O,⟨?_,b3.at _⟩,g⟩;unfold dN dA;rw [show s.pu.bj=(ax.bj s).pu from rfl];simp only [j,l,m,n,t,u,v,A,B,C,E,G,J,en,dF,dD];rw [a0];show (if (aF.1==0)=true then _ else _)=_;rw [bD];rfl
  refine Ck<|Eb ?_;refine E0 O λk g=>?_;have g:=Ws.eD (L:=[_,_,_,_,_,_]) g;refine .inl ⟨((),ax.fT (ax.bj s) aF.2),O,⟨?_,b3⟩,g⟩;unfold dN dA;rw [show s.pu.bj=(ax.bj s).pu from rfl];simp only [j,l,m,n,t,u,v,A,B,C,E,G,J,en,dF,dD];rw [a0];show (if (aF.1==0)=true then _ else _)=_;rw [bD];rfl
 refine ak<|V0 (bY O O)<|au O<|ag ?_;refine Cc O (λK=>?_)<|λK=>?_
 ·refine Cr<|ab O<|V0 (Yf kN O)<|V0 (Yd 0 O O O ah)<|Lf 6 O<|Lf 6 O<|Lf 6 O<|Lf 6 O ?_;refine Lf 6 O<|Lf 6 O ?_;refine ng (Yc i.a) z ?_ ?_;·intro bE bG;refine WE.cp<|b_ λk g=>?_;have g:=Ws.eD (L:=[_,_,_,_,_,_]) g;refine .inr ⟨bE,O,?_,g⟩;unfold dN dA;rw [show s.pu.bj=(ax.bj s).pu from rfl];simp only [j,l,m,n,t,u,v,A,B,C,E,G,J,K,en,dF,dD];exact bG
  intro bE ⟨bG,cB⟩;refine Ln<|Eb ?_;refine E0 O λk g=>?_;have g:=Ws.eD (L:=[_,_,_,_,_,_]) g;refine .inl ⟨((),bE.2),O,⟨?_,cB⟩,g⟩;unfold dN dA;rw [show s.pu.bj=(ax.bj s).pu from rfl];simp only [j,l,m,n,t,u,v,A,B,C,E,G,J,K,en,dF,dD];exact bG
 refine ak<|V0 (bY O O)<|au O<|ag ?_;refine Cc O (λN=>?_)<|λN=>?_
 ·refine Cr<|ab O<|V0 (Yf kN O)<|V0 (Yd 0 O O O ah)<|V0 (Yf J2 O)<|V0 (Yd 0 O O O ah)<|Lf 6 O<|Lf 6 O ?_;refine Lf 6 O<|Lf 6 O<|Lf 6 O<|Lf 6 O ?_;refine ng (Ye i.a i.b) z ?_ ?_;·intro bI bJ;refine WE.cp<|b_ λk g=>?_;have g:=Ws.eD (L:=[_,_,_,_,_,_]) g;refine .inr ⟨bI,O,?_,g⟩;unfold dN dA;rw [show s.pu.bj=(ax.bj s).pu from rfl];simp only [j,l,m,n,t,u,v,A,B,C,E,G,J,K,N,en,dF,dD];exact bJ
  intro bI ⟨bJ,cC⟩;refine Ln<|Eb ?_;refine E0 O λk g=>?_;have g:=Ws.eD (L:=[_,_,_,_,_,_]) g;refine .inl ⟨((),bI.2),O,⟨?_,cC⟩,g⟩;unfold dN dA;rw [show s.pu.bj=(ax.bj s).pu from rfl];simp only [j,l,m,n,t,u,v,A,B,C,E,G,J,K,N,en,dF,dD];exact bJ
 refine ak<|V0 (bY O O)<|au O<|ag ?_;refine Cc O (λQ=>?_)<|λQ=>?_
 ·refine Cr<|ab O<|Lf 6 O<|Lf 6 O<|Lf 6 O<|Lf 6 O<|Lf 6 O<|Lf 6 O ?_;refine ng ahS z ?_ ?_;·intro bK bL;refine WE.cp<|b_ λk g=>?_;have g:=Ws.eD (L:=[_,_,_,_,_,_]) g;refine .inr ⟨bK,O,?_,g⟩;unfold dN dA;rw [show s.pu.bj=(ax.bj s).pu from rfl];simp only [j,l,m,n,t,u,v,A,B,C,E,G,J,K,N,Q,en,dF,dD];exact bL
  intro bK ⟨bL,cD⟩;refine Ln<|Eb ?_;refine E0 O λk g=>?_;have g:=Ws.eD (L:=[_,_,_,_,_,_]) g;refine .inl ⟨((),bK.2),O,⟨?_,cD⟩,g⟩;unfold dN dA;rw [show s.pu.bj=(ax.bj s).pu from rfl];simp only [j,l,m,n,t,u,v,A,B,C,E,G,J,K,N,Q,en,dF,dD];exact bL
 refine ak<|V0 (bY O O)<|au O<|ag ?_;refine Cc O (λS=>?_)<|λS=>?_
 ·refine Cr<|ab O<|Lf 6 O<|Lf 6 O<|Lf 6 O<|Lf 6 O<|Lf 6 O<|Lf 6 O ?_;refine ng PA z ?_ ?_;·intro bM bN;refine WE.cp<|b_ λk g=>?_;have g:=Ws.eD (L:=[_,_,_,_,_,_]) g;refine .inr ⟨bM,O,?_,g⟩;unfold dN dA;rw [show s.pu.bj=(ax.bj s).pu from rfl];simp only [j,l,m,n,t,u,v,A,B,C,E,G,J,K,N,Q,S,en,dF,dD];exact bN
  intro bM ⟨bN,cE⟩;refine Ln<|Eb ?_;refine E0 O λk g=>?_;have g:=Ws.eD (L:=[_,_,_,_,_,_]) g;refine .inl ⟨((),bM.2),O,⟨?_,cE⟩,g⟩;unfold dN dA;rw [show s.pu.bj=(ax.bj s).pu from rfl];simp only [j,l,m,n,t,u,v,A,B,C,E,G,J,K,N,Q,S,en,dF,dD];exact bN
 refine ak<|V0 (bY O O)<|au O<|ag ?_;refine Cc O (λW=>?_)<|λW=>?_
 ·refine Cr<|ab O<|Lf 6 O<|Lf 6 O<|Lf 6 O<|Lf 6 O<|Lf 6 O<|Lf 6 O ?_;refine qc z ?_ ?_;·intro bO bP;refine WE.cp<|b_ λk g=>?_;have g:=Ws.eD (L:=[_,_,_,_,_,_]) g;refine .inr ⟨bO,O,?_,g⟩;unfold dN dA;rw [show s.pu.bj=(ax.bj s).pu from rfl];simp only [j,l,m,n,t,u,v,A,B,C,E,G,J,K,N,Q,S,W,en,dF,dD];rw [bP];rfl
  intro bO ⟨bP,cF⟩;refine Ln<|Eb ?_;refine E0 O λk g=>?_;have g:=Ws.eD (L:=[_,_,_,_,_,_]) g;refine .inl ⟨((),ax.fT (ax.bj s) bO.2),O,⟨?_,cF⟩,g⟩;unfold dN dA;rw [show s.pu.bj=(ax.bj s).pu from rfl];simp only [j,l,m,n,t,u,v,A,B,C,E,G,J,K,N,Q,S,W,en,dF,dD];rw [bP];rfl
 refine ak<|V0 (bY O O)<|au O<|ag ?_;refine Cc O (λap=>?_)<|λap=>?_
 ·refine Cr<|ab O<|ab O<|Lf 6 O<|Lf 6 O<|Lf 6 O<|Lf 6 O<|Lf 6 O ?_;refine Lf 6 O<|ng X9 z ?_ ?_;·intro b4 a1;refine WE.cp<|b_ λk g=>?_;cases a1
  intro b4 ⟨a1,cG⟩;refine ng (sv b4.1) cG ?_ ?_;·intro bQ bR;refine WE.cp<|b_ λk g=>?_;have g:=Ws.eD (L:=[_,_,_,_,_,_]) g;refine .inr ⟨bQ,O,?_,g⟩;unfold dN dA;rw [show s.pu.bj=(ax.bj s).pu from rfl];simp only [j,l,m,n,t,u,v,A,B,C,E,G,J,K,N,Q,S,W,ap,en,dF,dD];injection a1 with bT bU;rw [bT,bU];exact bR
  intro bQ ⟨bR,cH⟩;refine Ln<|Eb ?_;refine E0 O λk g=>?_;have g:=Ws.eD (L:=[_,_,_,_,_,_]) g;refine .inl ⟨((),bQ.2),O,⟨?_,cH⟩,g⟩;unfold dN dA;rw [show s.pu.bj=(ax.bj s).pu from rfl];simp only [j,l,m,n,t,u,v,A,B,C,E,G,J,K,N,Q,S,W,ap,en,dF,dD];injection a1 with bT bU;rw [bT,bU];exact bR
 refine ak<|V0 (bY O O)<|au O<|ag ?_;refine Cc O (λaG=>?_)<|λaG=>?_
 ·refine ak<|ab O<|Lf 6 O<|Lf 6 O<|Lf 6 O<|Lf 6 O<|Lf 6 O<|Lf 6 O ?_;refine qc z ?_ ?_;·intro aB a2;refine Ep<|WE.cp ?_;refine b_ λk g=>?_;have g:=Ws.eD (L:=[_,_,_,_,_,_]) g;refine .inr ⟨aB,O,?_,g⟩;unfold dN dA;rw [show s.pu.bj=(ax.bj s).pu from rfl];simp only [j,l,m,n,t,u,v,A,B,C,E,G,J,K,N,Q,S,W,ap,aG,en,dF,dD];rw [a2];rfl
  intro aB ⟨a2,cI⟩;refine au O<|ag<|ak<|ab O<|V0 (bS O)<|V0 (Yf rC O)<|V0 (Yf v3 O)<|V0 (Yd 0 O O O ah)<|V0 (Yn e8 O) ?_;refine V0 (bY O O)<|qb (c:=((s.out.length:Nat):Int)==200) ?_ ?_;·intro bV;refine Ep<|WE.cp ?_;refine b_ λk g=>?_;have g:=Ws.eD (L:=[_,_,_,_,_,_]) g;refine .inr ⟨(5,ax.fT (ax.bj s) aB.2),O,?_,g⟩;unfold dN dA;rw [show s.pu.bj=(ax.bj s).pu from rfl];simp only [j,l,m,n,t,u,v,A,B,C,E,G,J,K,N,Q,S,W,ap,aG,en,dF,dD];rw [a2];show (if s.out.length=200 then _ else _)=_;rw [aD (by simp at bV;omega)]
  intro bV;refine ag ?_;have cJ:¬s.out.length=200:=by simp at bV;omega
  refine Cr<|ab O<|ab O<|V0 (bS O)<|V0 (Yf rC O)<|V0 (Yf v3 O)<|V0 (Yd 0 O O O ah)<|ab O ?_;refine Lb Y O gn O O O O λc1=>LA (xs:=s.out) aB.1 4 0 Y O gn O O O O O O (by omega) (by omega) λcK cL=>V0 (bS O)<|V0 (Yf rC O)<|V0 (Yf v3 O)<|aw 1 Y O O O lX O O O<|Ln<|Eb ?_;refine E0 O λk g=>?_;have g:=g.bs 6 rfl;have g:=g.bs 6 rfl;have g:=g.bs 6 rfl;have g:=g.bs 6 rfl;have g:=g.bs 6 rfl;have g:=g.bs 6 rfl;have g:=Ws.eD (L:=[_,_,_,_,_,_]) g;refine .inl ⟨((),{ ax.fT (ax.bj s) aB.2 with out:=s.out++[aB.1],oa:=cK,oc:=cL }),O,⟨?_,⟨z.bn,cI.bF,z.ml,by show (s.out++[aB.1]).length<=200;simp;omega,z.hr⟩⟩,g⟩;unfold dN dA;rw [show s.pu.bj=(ax.bj s).pu from rfl];simp only [j,l,m,n,t,u,v,A,B,C,E,G,J,K,N,Q,S,W,ap,aG,en,dF,dD];rw [a2];show (if s.out.length=200 then _ else _)=_;rw [aj cJ];rfl
 refine ak<|V0 (bY O O)<|au O<|ag ?_;refine Cc O (λbX=>?_)<|λbX=>?_
 ·refine Cr<|qb (c:=true) ?_ ?_;·intro b5;refine WE.cp<|b_ λk g=>?_;have g:=g.bs 6 rfl;have g:=g.bs 6 rfl;have g:=g.bs 6 rfl;have g:=g.bs 6 rfl;have g:=g.bs 6 rfl;have g:=g.bs 6 rfl;have g:=Ws.eD (L:=[_,_,_,_,_,_]) g;refine .inr ⟨(0,ax.bj s),O,?_,g⟩;unfold dN dA;rw [show s.pu.bj=(ax.bj s).pu from rfl];simp only [j,l,m,n,t,u,v,A,B,C,E,G,J,K,N,Q,S,W,ap,aG,bX,en,dF,dD];all_goals rfl
  intro b5;refine Ln<|Eb ?_;refine E0 O λk g=>?_;cases b5
 refine Ck<|Eb ?_;refine E0 O λk g=>?_;have g:=g.bs 6 rfl;have g:=g.bs 6 rfl;have g:=g.bs 6 rfl;have g:=g.bs 6 rfl;have g:=g.bs 6 rfl;have g:=g.bs 6 rfl;have g:=Ws.eD (L:=[_,_,_,_,_,_]) g;refine .inl ⟨((),ax.bj s),O,⟨?_,z⟩,g⟩;unfold dN dA;rw [show s.pu.bj=(ax.bj s).pu from rfl];simp only [j,l,m,n,t,u,v,A,B,C,E,G,J,K,N,Q,S,W,ap,aG,bX,en,dF,dD];all_goals rfl
end Go.Proofs.YtgeahfjicmlocaaGreatDoor.Mch
end
section
namespace Go.Proofs.YtgeahfjicmlocaaGreatDoor.Mch
open Go.Bw Go.Proofs.Tryz
def ahX {P:dJ} {l:I<|Z×aR} {W:aP->Prop} {d:aA Tmp} {ty:cn} {pos:fO} {af:bH fY} {g:aA<|Z×aS} {x:ei} {t u:cn} {v:aR} (h:∀(w:aP) (v:aR),(Instr.typeAssert (.iface t v) u t ad).run P w = .ok (cO #[v,bW ad]) w) (a:b9 l x=aa (.iface t v)) : Yl P l W ⟨d,.typeAssert x u t ad,ty,pos,af,g⟩<|cO #[v,bW ad]:=λc w b _=>by simp only [execOp,b x _ a,j7,h w v,jc,lG]
def Yj (e:ac) (s:ax):Obj:=aY #[am an e,aE s.oa s.out.length s.oc,aE s.da s.data.length s.dc,am an s.a0] 64 (0,0)
def Yk:∀(w:aP) (v:aR),(Instr.typeAssert (.iface 165 v) 20 165 ad).run aC w = .ok (cO #[v,bW ad]) w:=λw v=>by kernel_rfl
def kD:i2 aC 64=aa 4:=ah
def ahY:e2 aC 165=aa 1:=ah
def ahZ:aT aC 165 0=aa 0:=ah
def yY:aT aC 64 0=aa 0:=ah
def ve:aT aC 163 2=aa 2:=ah
def mO:e2 aC 64=aa 4:=ah
def n8:e2 aC 30=aa 1:=ah
def Gd (b c f g a:Z) (s:ax) (x:ac) (k l m n o p:aR) (w:aP) (r:Ws w ([aQ b<|aY #[b8 (aa ⟨a,0,ao⟩)] 159 (0,0),aQ c<|aY #[k,l,m,n] 64 (0,0),aQ f<|aY #[o] 3 (0,0),aQ g<|aY #[p] 30 (0,0),aQ a s.obj].flatMap bh.ids) [aQ b<|aY #[b8 (aa ⟨a,0,ao⟩)] 159 (0,0),aQ c<|aY #[k,l,m,n] 64 (0,0),aQ f<|aY #[o] 3 (0,0),aQ g<|aY #[p] 30 (0,0),aQ a s.obj] [] w) : CallsD aC 83 #[b8 (aa ⟨b,0,ao⟩),b8 (aa ⟨c,0,ao⟩),b8 (aa ⟨f,0,ao⟩),b8 (aa ⟨g,0,ao⟩)] (.panicking [⟨.iface 165<|b0 #[am an x],aq,aq⟩]) w λe u t=>u = .panicking [⟨.iface 165<|b0 #[am an x],ad,aq⟩]/\(e = cf (cO #[])/\Ws w ([aQ b<|aY #[b8 (aa ⟨a,0,ao⟩)] 159 (0,0),aQ c<|aY #[k,l,m,n] 64 (0,0),aQ f<|aY #[o] 3 (0,0),aQ g<|aY #[p] 30 (0,0),aQ a s.obj].flatMap bh.ids) [aQ b<|aY #[b8 (aa ⟨a,0,ao⟩)] 159 (0,0),aQ c<|Yj x s,aQ f<|aY #[am an s.steps] 3 (0,0),aQ g<|aY #[am an 0] 30 (0,0),aQ a<|mD s.obj 6 [am an x]] [] t):=by refine lx func83 O 31 O O O O O (λ_=>rfl) (be ⟨_,O,O,O⟩)<|LW (W':=Ws w ([aQ b<|aY #[b8 (aa ⟨a,0,ao⟩)] 159 (0,0),aQ c<|aY #[k,l,m,n] 64 (0,0),aQ f<|aY #[o] 3 (0,0),aQ g<|aY #[p] 30 (0,0),aQ a s.obj].flatMap bh.ids) [aQ b<|aY #[b8 (aa ⟨a,0,ao⟩)] 159 (0,0),aQ c<|aY #[k,l,m,n] 64 (0,0),aQ f<|aY #[o] 3 (0,0),aQ g<|aY #[p] 30 (0,0),aQ a s.obj] []) (λ_ e=>by subst e;exact r)<|au O<|ag<|ak<|ab O<|V0 (ahX Yk O)<|ab O<|V0 (Yx O O)<|V0 (Yx O O) ?_;refine Al Y O Pz λy=>aw 0 Y O O O ahY O O O<|au O<|ag<|ak<|ab O<|ag ?_;refine WC.EN O<|ak<|V0 (Yd 1 O O O ah)<|V0 (Yf ahZ O)<|V0 (Yd 0 O O (v:=am an x) O ah)<|V0 (bS O)<|V0 (Yf rC O)<|V0 (Yf yY O)<|aw 5 Y O O O eE O O O ?_;refine eb 5 (mD s.obj 6 [am an x]) O O<|ag ?_;refine CU (λ_=>ad) [] [8,9,10] (.q ad 0<|.q aq 1<|.q aq 2<|.q ad 3<|.q ad 4<|.q aq 5<|.q aq 6<|.q ad 7 .nil) mixed ah (λ_ _ _ d _ _ h=>by cases d<;>exact h)<|U0 O a' (Yd 1 O O O ah)<|U0 O a' (bS O)<|U0 O a' (Yf rC O) ?_;refine U0 O a' (ET kD O (cs:=[am an x,aE s.oa s.out.length s.oc,aE s.da s.data.length s.dc,am an s.a0]) O (λw r j v hv=>by refine cell_of_heap (r.kn _<|gd (i:=5) O) ?_;match j,hv with| 0,hv=>exact hv| 1,hv=>exact hv| 2,hv=>exact hv| 3,hv=>exact hv))<|U0 O a' (Yd 1 O O O ah)<|U0 O a' (bS O)<|U0 O a' (Yf ve O)<|U0 O a' (Yd 5 O O O ah) ?_;refine WU.nil a'<|WS.e O<|aw 2 Y O O O mO O O O<|Ln<|Es ?_;refine WS.e O<|aw 3 Y O O O eE O O O<|Ln<|Es ?_;refine WS.e O<|aw 4 Y O O O n8 O O O<|Ln<|Es ?_;refine WS.nil<|E0 O λt r=>⟨O,Wd 1 r⟩
end Go.Proofs.YtgeahfjicmlocaaGreatDoor.Mch
end
section
namespace Go.Proofs.YtgeahfjicmlocaaGreatDoor.Mch
open Go.Bw Go.Proofs.Tryz
def Rz.st {α:Type} (r:Rz α):Pm:=match r with| .ok _ m=>m| .ov _ m=>m
def Pm.kp (m:Pm):ac×ac:=(m.sq,m.steps)
variable {zG:ac×ac}
def Rz.C0 {α β:Type} {r:Rz α} {f:α->Pm->Rz β}  (b:r.st.kp=zG) (c:∀a m,m.kp=zG->(f a m).st.kp=zG):(r.bind f).st.kp=zG:=by cases r with| ok a m=>exact c a m b| ov e m=>exact b
def J3 {α:Type} {c:Prop} [Decidable c] {a b:Rz α}  (d:a.st.kp=zG) (e:b.st.kp=zG):(if c then a else b).st.kp=zG:=by
 split;·exact d
 ·exact e
def Ge (m:Pm):(eH m).st.kp=m.kp:=by unfold eH;split<;>rfl
def C1 (n:ac) (m:Pm):(gh n m).st.kp=m.kp:=by unfold gh;split<;>rfl
def PG (m:Pm):(n6 m).st.kp=m.kp:=by unfold n6;split<;>rfl
def ah0 (op:ac) (m:Pm):(k9 op m).st.kp=m.kp:=by
 unfold k9;split;·rfl
 ·refine Rz.C0 (Ge m) λb e d=>Rz.C0 (by rw [Ge,d]) λa f c=>?_;split;·rw [C1,c]
  ·split;·exact c
   ·rw [C1,c]
def ah1 (a b:ac) (m:Pm):(p_ a b m).st.kp=m.kp:=by unfold p_;split<;>rfl
def Yp (to:ac) (m:Pm):(qa to m).st.kp=m.kp:=by
 unfold qa;refine Rz.C0 (PG m) λ_ b a=>?_;split;·exact a
 ·exact a
def Yq (m:Pm):(f' m).st.kp=m.kp:=by
 unfold f';split;·rfl
 ·split<;>rfl
def PH (m:Pm):(oJ m).2.kp=m.kp:=by unfold oJ;split<;>rfl
def PI (i:ce) (m:Pm):(dN i m).st.kp=m.kp:=by
 have b:m.bj.kp=m.kp:=rfl;rw [<-b];unfold dN;generalize m.bj=m;unfold dA;repeat' apply J3
 all_goals
  first
  |rfl|exact C1 _ _|exact ah0 _ _|exact Yp _ _|exact ah1 _ _ _|exact Yq _|exact PG _|(rw [C1,PH];done)|exact PH _|(split<;>rfl)
  |
   (
    refine Rz.C0 (Ge m) λn d a=>?_;repeat' apply J3
    all_goals
     first
     |exact a|(rw [C1,a];done)
     |
      (
       refine Rz.C0 (by rw [Ge,a]) λk e c=>?_;repeat' apply J3
       all_goals exact c))
def Pm.tk (m:Pm):Pm:={ m with steps:=an.wrap<|m.steps+1 }
def iterM (code:I ce) (aO:ac) (m:Pm):Rz ef:=if (m.steps==aO)=ad then .ov 7 m else if bq m.at_ code.length=ad then .ov 6 m.tk else dN (code[m.at_.toNat]?.getD ⟨0,0,0⟩) m.tk
def runK (code:I ce) (aO:ac):Z->Pm->ac×Pm| 0,m=>(7,m)| k+1,m=>match iterM code aO m with| .ov e m'=>(e,m')| .ok _ m'=>runK code aO k m'
def Yr {code:I ce} {aO:ac} {m m':Pm} (d:aO<=134217728) (f:0<=m.steps) (g:m.steps<=aO) (h:iterM code aO m = .ok () m'):m'.steps=m.steps+1/\m.steps<aO:=by
 unfold iterM at h;split at h;·cases h
 ·rename_i b;have c:m.steps<aO:=by simp at b;omega
  split at h;·cases h
  ·have a:=PI (code[m.at_.toNat]?.getD ⟨0,0,0⟩) m.tk;rw [h] at a;have e:m'.steps=m.tk.steps:=congrArg Prod.snd a;refine ⟨?_,c⟩;rw [e];show an.wrap (m.steps+1)=_;rw [qt ai]
structure jM where
 fin:ac
 out:I ac
 data:I ac
 a0:ac
deriving DecidableEq
def uL (a0:ac) (bn:I ac) (data:ac):Pm:=⟨0,a0,0,[],[([],0)],bn,[],gb data.toNat 0,0⟩
def k_ (code:I ce) (data:ac) (bn:I ac) (a0 steps:ac):ac:= if h1 code data=0 then if 64<bn.length then 2 else if (((decide (a0<0)||decide (2000<a0))||decide (steps<0))||decide (134217728<steps))=ad then 3 else 0 else h1 code data
def gY (code:I ce) (data:ac) (bn:I ac) (a0 steps:ac):jM×ac:=
 if k_ code data bn a0 steps=0 then
   let r:=runK code steps (steps.toNat+1)<|uL a0 bn data
   (⟨r.1,r.2.out,r.2.data,r.2.a0⟩,r.2.steps)
 else (⟨0,[],[],0⟩,0)
end Go.Proofs.YtgeahfjicmlocaaGreatDoor.Mch
end
section
namespace Go.Proofs.YtgeahfjicmlocaaGreatDoor.Mch
open Go.Bw Go.Proofs.Tryz
abbrev ax.tk (s:ax):ax:={ s with steps:=an.wrap<|s.steps+1 }
def ax.km.tk {a:View} {s:ax} (h:s.km a):ax.km a<|ax.tk s:=⟨h.bn,h.bF,h.ml,h.out,h.hr⟩
variable {yZ:I ce} {az:ac}
def Ys (h:h1 yZ az=0):0<=az/\az<=512:=by
 unfold h1 at h;split at h;·cases h
 ·split at h;·cases h
  ·split at h;·cases h
   ·rename_i a;simp at a;omega
def C2:madeCells (aR.agg #[aE ao 0 0,am an 0]).cells ((1:ac).toNat*2) = #[aE ao 0 0,am an 0]:=ah
variable {jB bt:Pm}
def Gf {e:ac} (k:Z) (h:iterM yZ az jB = .ov e bt):runK yZ az (k+1) jB=(e,bt):=by simp [runK,h]
def PJ (k:Z) (h:iterM yZ az jB = .ok () bt):runK yZ az (k+1) jB=runK yZ az k bt:=by simp [runK,h]
def mP:zeroOf aC 64=aa (b0 #[am an 0,aE ao 0 0,aE ao 0 0,am an 0]):=ah
def lY:zeroOf aC 3=aa (am an 0):=ah
def C3:zeroOf aC 30=aa (am an 0):=ah
def pn:i2 aC 57=aa 2:=ah
def tC:hW aC 64=aa [(0,1),(1,1),(2,1),(3,1)]:=ah
def AR:hW aC 163=aa [(0,1),(1,1),(2,1),(3,1),(4,1),(5,1),(6,4)]:=ah
def AS:zeroOf aC 163=aa (b0 #[am an 0,am an 0,am an 0,aE ao 0 0,aE ao 0 0,aE ao 0 0,am an 0,aE ao 0 0,aE ao 0 0,am an 0]):=ah
def y0:zeroOf aC 159=aa (b8 ao):=ah
def xo:e2 aC 159=aa 1:=ah
set_option maxHeartbeats 4000000 in
def Yt (l:View) (a:Option Addr) (c:Nat) (code:List ce) (data:Int) (A:View) (B:Option Addr) (C:Nat) (bn:List Int) (a0 steps:Int) (w:World) (ap:Le l w) (N:Sl qN 3 l a c code) (av:Le A w) (D:Sl lW 1 A B C bn) :
   Calls prog 20 #[.agg #[.slice a code.length c,.int .i64 data],.slice B bn.length C,.int .i64 a0,.int .i64 steps] w λe v=>∃r:(Option Addr×Nat)×(Option Addr×Nat),e = .returned (.tuple #[.agg #[.int .i64 (gY code data bn a0 steps).1.fin,.slice r.1.1 (gY code data bn a0 steps).1.out.length r.1.2,.slice r.2.1 (gY code data bn a0 steps).1.data.length r.2.2,.int .i64 (gY code data bn a0 steps).1.a0],.int .i64 (gY code data bn a0 steps).2,.int .i64 (k_ code data bn a0 steps)])/\Ext w v/\Sl lW 1 (nv w v) r.1.1 r.1.2 (gY code data bn a0 steps).1.out/\Sl lW 1 (nv w v) r.2.1 r.2.2 (gY code data bn a0 steps).1.data:=by
 have aK:=N.cap;have aL:=N.max;have aM:=D.cap;have aN:=D.max;refine E' func20 O 92 O O<|CE (Vs:=[l,A]) (Ws.init (by simp [ap,av]))<|ak ?_;refine WL.box Y O O λT=>Al Y O mP λE=>Al Y O lY λF=>Al Y O C3 λG=>ag<|Cs<|ak<|V0 (dW 3 O O pn O)<|Lp Y O bp O (λw b=>Px l a c code data w (b.vs _ (by simp)) N)<|au O<|ag<|ak<|ab O<|V0 (ha O O)<|ag ?_;refine Cc O (λU=>?_)<|λU=>?_
 ·have H:¬h1 code data=0:=by simpa using U
  refine ak<|V0 (Yb mP tC O O)<|ab O<|aw 2 Y O O O mO O O O<|aw 1 Y O O O eE O O O<|aw 0 Y O O O n8 O O O<|ag<|bu<|Er ?_;refine WE.vB (yr O (fj 2 O O kD O) (jJ 1 O O O ah)<|jJ 0 O O O ah) λv b=>?_;have k:(k_ code data bn a0 steps)=h1 code data:=by unfold k_;rw [aj H]
  have p:(gY code data bn a0 steps)=(⟨0,[],[],0⟩,0):=by unfold gY;rw [k];simp [H]
  rw [p,k];exact ⟨((none,0),(none,0)),O,b.fr,Sl.nil,Sl.nil⟩
 have H:h1 code data=0:=by simpa using U
 have y:=Ys H;refine ay<|Cs<|ak<|ab O<|V0 (Yn e8 O)<|V0 (eZ O O)<|ag ?_;refine Cc O (λV=>?_)<|λV=>?_
 ·have P:64<bn.length:=by simp at V;omega
  refine ak<|V0 (Yb mP tC O O)<|aw 2 Y O O O mO O O O<|aw 1 Y O O O eE O O O<|aw 0 Y O O O n8 O O O<|ag<|bu<|Er ?_;refine WE.vB (yr O (fj 2 O O kD O) (jJ 1 O O O ah)<|jJ 0 O O O ah) λv b=>?_;have k:(k_ code data bn a0 steps)=2:=by unfold k_;rw [aD H,aD P]
  have p:(gY code data bn a0 steps)=(⟨0,[],[],0⟩,0):=by unfold gY;rw [k];simp
  rw [p,k];exact ⟨((none,0),(none,0)),O,b.fr,Sl.nil,Sl.nil⟩
 have P:¬64<bn.length:=by simp at V;omega
 refine ay<|Cs<|ak<|ab O<|V0 (c8 O O)<|ab O ?_;apply Lo 2 O O O O Y O O O O O;·intro af;refine Vg (Ym O)<|Vg (eZ O O) ?_;exact Gt 2 O O O
 refine ab O ?_;apply Lo 2 O O O O Y O O O O O;·intro aO;refine Vg (Ym O)<|Vg (c8 O O) ?_;exact Gt 2 O O O
 refine ab O ?_;apply Lo 2 O O O O Y O O O O O;·intro aT;refine Vg (Ym O)<|Vg (eZ O O) ?_;exact Gt 2 O O O
 refine ag<|Cc O (λQ=>?_)<|λQ=>?_
 ·refine ak<|V0 (Yb mP tC O O)<|aw 2 Y O O O mO O O O<|aw 1 Y O O O eE O O O<|aw 0 Y O O O n8 O O O<|ag<|bu<|Er ?_;refine WE.vB (yr O (fj 2 O O kD O) (jJ 1 O O O ah)<|jJ 0 O O O ah) λv b=>?_;have k:(k_ code data bn a0 steps)=3:=by unfold k_;rw [aD H,aj P,aD Q]
  have p:(gY code data bn a0 steps)=(⟨0,[],[],0⟩,0):=by unfold gY;rw [k];simp
  rw [p,k];exact ⟨((none,0),(none,0)),O,b.fr,Sl.nil,Sl.nil⟩
 have k:(k_ code data bn a0 steps)=0:=by unfold k_;rw [aD H,aj P,Q];simp
 have ai:0<=a0/\a0<=2000/\0<=steps/\steps<=134217728:=by simp at Q;omega
 refine ay<|WC.nI (ι:=(Nat×Nat×Nat)×(View×Option Addr×Nat)) (λq=>[(3,.int .i64 steps),(4,.pointer<|some ⟨T,0,none⟩),(8,.pointer<|some ⟨E,0,none⟩),(9,.pointer<|some ⟨F,0,none⟩),(10,.pointer<|some ⟨G,0,none⟩),(12,.pointer<|some ⟨q.1.2.2,0,none⟩)]) (λq=>Ws w [] [aQ q.1.2.2<|.cells #[.pointer (some ⟨q.1.2.1,0,none⟩)] 159 (0,0),aQ q.1.2.1<|.cells #[.int .i64 0,.int .i64 a0,.int .i64 0,.slice none 0 0,.slice (some ⟨q.1.1,0,none⟩) 1 1,.slice q.2.2.1 bn.length q.2.2.2,.int .i64 0,.slice none 0 0,.slice none 0 0,.int .i64 0] 163 (0,0),aQ q.1.1<|.cells #[.slice none 0 0,.int .i64 0] 269 (0,0),aQ G<|.cells (Value.cells<|.int .i64 0) 30 (0,0),aQ F<|.cells (Value.cells<|.int .i64 0) 3 (0,0),aQ E<|.cells (Value.cells<|.agg #[.int .i64 0,.slice none 0 0,.slice none 0 0,.int .i64 0]) 64 (0,0),aQ T<|.cells (Value.agg #[.slice a code.length c,.int .i64 data]).cells 57 (0,0)] [q.2.1,l]) (λq=>Sl lW 1 q.2.1 q.2.2.1 q.2.2.2 bn) ?_ ?_
 ·refine CU (ow [.cell 8 64,.cell 9 3,.cell 10 30]) [] [7] (.q false 0<|.q false 2<|.e 1 (.e 3 (.q false 4<|.e 5 (.e 6 .nil .stop)<|.e 6 (.e 5 .nil .stop) .stop)<|.e 6 (.e 3 (.q false 4<|.e 5 .nil .stop) .stop) .stop)<|.e 3 (.e 1 (.q false 4<|.e 5 (.e 6 .nil .stop)<|.e 6 (.e 5 .nil .stop) .stop)<|.e 6 (.e 1 (.q false 4<|.e 5 .nil .stop) .stop) .stop)<|.e 6 (.e 1 (.e 3 (.q false 4<|.e 5 .nil .stop) .stop)<|.e 3 (.e 1 (.q false 4<|.e 5 .nil .stop) .stop) .stop) .stop) mixed (by kernel_rfl) (λ_ _ _ _ _ y h=>rf (fn:=f20) [.cell 8 64,.cell 9 3,.cell 10 30] O y h)<|U0 O (λ_ h=>h) (Ym O)<|U0 O (λ_ h=>h) (Ym O) ?_;refine Ue O (λ_ h=>h) ?_ ?_
  ·refine WL.make Y O yU O O (by omega) (by omega) (by omega) (by omega) λt=>eb 0 (.cells #[.slice none 0 0,.int .i64 0] 269 (0,0)) O (by rw [C2])<|Ln<|Eu ?_;refine Ue O (λ_ h=>(Wd 1 h:)) ?_ ?_
   ·refine Ld Y O bp O (λr:Option Addr×Nat=>.slice r.1 bn.length r.2) (λz r=>Sl lW 1 z r.1 r.2 bn) (λw b=>pQ A B C bn w (b.vs _ (by simp)) D (by omega)) λd i R u=>Ln<|Eu<|U0 O (λ_ h=>(Wv 1<|Wd 1 h:)) (Yb AS AR O O) ?_;refine Ue O (λ_ h=>(Wv 1<|Wd 1 h:)) ?_ ?_;·refine WL.box Y O O λn=>Ln<|Eu ?_;refine Ue O (λ_ h=>(Wv 1<|Wd 2 h:)) ?_ WU.stop;refine Al Y O y0 λo=>Ln<|Eu ?_;refine WU.nil (λ_ h=>(Wv 1<|Wd 3 h:))<|WS.e O<|aw 0 Y O O O xo O O O<|Ln<|Es ?_;refine WS.nil<|lL ((t,n,o),d,i.1,i.2) u (λ_ h=>by have h:=h.bs 6 rfl;have h:=h.bs 6 rfl;have h:=h.bs 6 rfl;have h:=h.bs 6 rfl;have h:=h.bs 6 rfl;have h:=h.bs 6 rfl;have h:=h.bs 6 rfl;have h:=Ws.aZ h (cI:=[d,l]) (by simp);exact h)
    refine Ue O (λ_ h=>(Wv 1<|Wd 1 h:)) ?_ WU.stop;refine Al Y O y0 λo=>Ln<|Eu ?_;refine Ue O (λ_ h=>(Wv 1<|Wd 2 h:)) ?_ WU.stop;refine WL.box Y O O λn=>Ln<|Eu ?_;refine WU.nil (λ_ h=>(Wv 1<|Wd 3 h:))<|WS.e O<|aw 1 Y O O O xo O O O<|Ln<|Es ?_;refine WS.nil<|lL ((t,n,o),d,i.1,i.2) u (λ_ h=>by have h:=h.bs 6 rfl;have h:=h.bs 6 rfl;have h:=h.bs 6 rfl;have h:=h.bs 6 rfl;have h:=h.bs 6 rfl;have h:=h.bs 5 rfl;have h:=h.bs 6 rfl;have h:=Ws.aZ h (cI:=[d,l]) (by simp);exact h)
   refine Ue O (λ_ h=>(Wd 1 h:)) ?_ WU.stop;refine Al Y O y0 λo=>Ln<|Eu ?_;refine Ue O (λ_ h=>(Wd 2 h:)) ?_ WU.stop;refine Ld Y O bp O (λr:Option Addr×Nat=>.slice r.1 bn.length r.2) (λz r=>Sl lW 1 z r.1 r.2 bn) (λw b=>pQ A B C bn w (b.vs _ (by simp)) D (by omega)) λd i R u=>Ln<|Eu<|U0 O (λ_ h=>(Wv 1<|Wd 2 h:)) (Yb AS AR O O) ?_;refine Ue O (λ_ h=>(Wv 1<|Wd 2 h:)) ?_ WU.stop;refine WL.box Y O O λn=>Ln<|Eu ?_;refine WU.nil (λ_ h=>(Wv 1<|Wd 3 h:))<|WS.e O<|aw 1 Y O O O xo O O O<|Ln<|Es ?_;refine WS.nil<|lL ((t,n,o),d,i.1,i.2) u (λ_ h=>by have h:=h.bs 6 rfl;have h:=h.bs 6 rfl;have h:=h.bs 6 rfl;have h:=h.bs 6 rfl;have h:=h.bs 6 rfl;have h:=h.bs 5 rfl;have h:=h.bs 6 rfl;have h:=Ws.aZ h (cI:=[d,l]) (by simp);exact h)
  refine Ue O (λ_ h=>h) ?_ ?_
  ·refine Ld Y O bp O (λr:Option Addr×Nat=>.slice r.1 bn.length r.2) (λz r=>Sl lW 1 z r.1 r.2 bn) (λw b=>pQ A B C bn w (b.vs _ (by simp)) D (by omega)) λd i R u=>Ln<|Eu ?_;refine Ue O (λ_ h=>(Wv 1 h:)) ?_ ?_
   ·refine WL.make Y O yU O O (by omega) (by omega) (by omega) (by omega) λt=>eb 0 (.cells #[.slice none 0 0,.int .i64 0] 269 (0,0)) O (by rw [C2])<|Ln<|Eu<|U0 O (λ_ h=>(Wv 1<|Wd 1 h:)) (Yb AS AR O O) ?_;refine Ue O (λ_ h=>(Wv 1<|Wd 1 h:)) ?_ ?_;·refine WL.box Y O O λn=>Ln<|Eu ?_;refine Ue O (λ_ h=>(Wv 1<|Wd 2 h:)) ?_ WU.stop;refine Al Y O y0 λo=>Ln<|Eu ?_;refine WU.nil (λ_ h=>(Wv 1<|Wd 3 h:))<|WS.e O<|aw 0 Y O O O xo O O O<|Ln<|Es ?_;refine WS.nil<|lL ((t,n,o),d,i.1,i.2) u (λ_ h=>by have h:=h.bs 6 rfl;have h:=h.bs 6 rfl;have h:=h.bs 6 rfl;have h:=h.bs 6 rfl;have h:=h.bs 6 rfl;have h:=h.bs 6 rfl;have h:=h.bs 6 rfl;have h:=Ws.aZ h (cI:=[d,l]) (by simp);exact h)
    refine Ue O (λ_ h=>(Wv 1<|Wd 1 h:)) ?_ WU.stop;refine Al Y O y0 λo=>Ln<|Eu ?_;refine Ue O (λ_ h=>(Wv 1<|Wd 2 h:)) ?_ WU.stop;refine WL.box Y O O λn=>Ln<|Eu ?_;refine WU.nil (λ_ h=>(Wv 1<|Wd 3 h:))<|WS.e O<|aw 1 Y O O O xo O O O<|Ln<|Es ?_;refine WS.nil<|lL ((t,n,o),d,i.1,i.2) u (λ_ h=>by have h:=h.bs 6 rfl;have h:=h.bs 6 rfl;have h:=h.bs 6 rfl;have h:=h.bs 6 rfl;have h:=h.bs 6 rfl;have h:=h.bs 5 rfl;have h:=h.bs 6 rfl;have h:=Ws.aZ h (cI:=[d,l]) (by simp);exact h)
   refine Ue O (λ_ h=>(Wv 1 h:)) ?_ WU.stop;refine Al Y O y0 λo=>Ln<|Eu ?_;refine Ue O (λ_ h=>(Wv 1<|Wd 1 h:)) ?_ WU.stop;refine WL.make Y O yU O O (by omega) (by omega) (by omega) (by omega) λt=>eb 0 (.cells #[.slice none 0 0,.int .i64 0] 269 (0,0)) O (by rw [C2])<|Ln<|Eu<|U0 O (λ_ h=>(Wv 1<|Wd 2 h:)) (Yb AS AR O O) ?_;refine Ue O (λ_ h=>(Wv 1<|Wd 2 h:)) ?_ WU.stop;refine WL.box Y O O λn=>Ln<|Eu ?_;refine WU.nil (λ_ h=>(Wv 1<|Wd 3 h:))<|WS.e O<|aw 2 Y O O O xo O O O<|Ln<|Es ?_;refine WS.nil<|lL ((t,n,o),d,i.1,i.2) u (λ_ h=>by have h:=h.bs 6 rfl;have h:=h.bs 6 rfl;have h:=h.bs 6 rfl;have h:=h.bs 6 rfl;have h:=h.bs 5 rfl;have h:=h.bs 5 rfl;have h:=h.bs 6 rfl;have h:=Ws.aZ h (cI:=[d,l]) (by simp);exact h)
  refine Ue O (λ_ h=>h) ?_ WU.stop;refine Al Y O y0 λo=>Ln<|Eu ?_;refine Ue O (λ_ h=>(Wd 1 h:)) ?_ ?_;·refine WL.make Y O yU O O (by omega) (by omega) (by omega) (by omega) λt=>eb 0 (.cells #[.slice none 0 0,.int .i64 0] 269 (0,0)) O (by rw [C2])<|Ln<|Eu ?_;refine Ue O (λ_ h=>(Wd 2 h:)) ?_ WU.stop;refine Ld Y O bp O (λr:Option Addr×Nat=>.slice r.1 bn.length r.2) (λz r=>Sl lW 1 z r.1 r.2 bn) (λw b=>pQ A B C bn w (b.vs _ (by simp)) D (by omega)) λd i R u=>Ln<|Eu<|U0 O (λ_ h=>(Wv 1<|Wd 2 h:)) (Yb AS AR O O) ?_;refine Ue O (λ_ h=>(Wv 1<|Wd 2 h:)) ?_ WU.stop;refine WL.box Y O O λn=>Ln<|Eu ?_;refine WU.nil (λ_ h=>(Wv 1<|Wd 3 h:))<|WS.e O<|aw 2 Y O O O xo O O O<|Ln<|Es ?_;refine WS.nil<|lL ((t,n,o),d,i.1,i.2) u (λ_ h=>by have h:=h.bs 6 rfl;have h:=h.bs 6 rfl;have h:=h.bs 6 rfl;have h:=h.bs 6 rfl;have h:=h.bs 5 rfl;have h:=h.bs 5 rfl;have h:=h.bs 6 rfl;have h:=Ws.aZ h (cI:=[d,l]) (by simp);exact h)
  refine Ue O (λ_ h=>(Wd 1 h:)) ?_ WU.stop;refine Ld Y O bp O (λr:Option Addr×Nat=>.slice r.1 bn.length r.2) (λz r=>Sl lW 1 z r.1 r.2 bn) (λw b=>pQ A B C bn w (b.vs _ (by simp)) D (by omega)) λd i R u=>Ln<|Eu ?_;refine Ue O (λ_ h=>(Wv 1<|Wd 1 h:)) ?_ WU.stop;refine WL.make Y O yU O O (by omega) (by omega) (by omega) (by omega) λt=>eb 0 (.cells #[.slice none 0 0,.int .i64 0] 269 (0,0)) O (by rw [C2])<|Ln<|Eu<|U0 O (λ_ h=>(Wv 1<|Wd 2 h:)) (Yb AS AR O O) ?_;refine Ue O (λ_ h=>(Wv 1<|Wd 2 h:)) ?_ WU.stop;refine WL.box Y O O λn=>Ln<|Eu ?_;refine WU.nil (λ_ h=>(Wv 1<|Wd 3 h:))<|WS.e O<|aw 2 Y O O O xo O O O<|Ln<|Es ?_;refine WS.nil<|lL ((t,n,o),d,i.1,i.2) u (λ_ h=>by have h:=h.bs 6 rfl;have h:=h.bs 6 rfl;have h:=h.bs 6 rfl;have h:=h.bs 6 rfl;have h:=h.bs 5 rfl;have h:=h.bs 5 rfl;have h:=h.bs 6 rfl;have h:=Ws.aZ h (cI:=[d,l]) (by simp);exact h)
 intro q az;refine Cs<|CU (ow [.cell 8 64,.cell 9 3,.cell 10 30]) [] [7] (.q true 0<|.q false 1<|.q true 2<|.e 3 (.q false 4<|.q false 5<|.q false 6 .nil) .stop) mixed (by kernel_rfl) (λ_ _ _ _ _ y h=>rf (fn:=f20) [.cell 8 64,.cell 9 3,.cell 10 30] O y h)<|U0 O (λ_ h=>h) (Yd 0 O O O ah)<|U0 O (λ_ h=>h) (Yf CR O)<|U0 O (λ_ h=>h) (Yd 6 O O O ah) ?_;refine Ue O (λ_ h=>h) ?_ WU.stop;refine WL.make Y O gn O O (by omega) (by omega) (by omega) (by omega) λal=>eb 0 (.cells ((List.replicate data.toNat (0:Int)).flatMap iv).toArray 3 (0,0)) O (by rw [JY])<|Ln<|Eu<|U0 O (λ_ h=>(Wd 1 h:)) (bS O)<|U0 O (λ_ h=>(Wd 1 h:)) (Yf rC O)<|U0 O (λ_ h=>(Wd 1 h:)) (Yf uK O) ?_;refine WU.nil (λ_ h=>(Wd 1 h:))<|WS.e O<|aw 2 Y O O O lX O O O<|Ln<|Es ?_;refine WS.nil<|Et<|ak<|V0 (wW O) ?_;refine WL.defer Y O<|ag<|Cb ?_;refine f_ (ι:=ax) (λs=>[]) [(3,_),(4,_),(8,_),(9,_),(10,_),(12,_)] (λs=>Ws w [] (ax.own q.1.2.1 s++[aQ q.1.2.2<|.cells #[.pointer (some ⟨q.1.2.1,0,none⟩)] 159 (0,0),aQ G<|.cells (Value.cells<|.int .i64 0) 30 (0,0),aQ F<|.cells (Value.cells<|.int .i64 0) 3 (0,0),aQ E<|.cells (Value.cells<|.agg #[.int .i64 0,.slice none 0 0,.slice none 0 0,.int .i64 0]) 64 (0,0),aQ T<|.cells (Value.agg #[.slice a code.length c,.int .i64 data]).cells 57 (0,0)]) [q.2.1,l]) (λs=>s.km q.2.1/\0<=s.steps/\s.steps<=steps/\runK code steps ((steps-s.steps).toNat+1) s.pu=runK code steps (steps.toNat+1) (uL a0 bn data)) (λs=>(steps-s.steps).toNat) ({ at_:=0,sq:=a0,steps:=0,stack:=[],de:=[⟨none,0,[],0⟩],bn:=bn,out:=[],data:=List.replicate data.toNat 0,a0:=0,sa:=none,sc:=0,fa:=some ⟨q.1.1,0,none⟩,fc:=1,ia:=q.2.2.1,ic:=q.2.2.2,oa:=none,oc:=0,da:=some ⟨al,0,none⟩,dc:=data.toNat }:ax) ⟨⟨az,by simp,by simp,by simp,by simp;omega⟩,zZ _,ai.2.2.1,by simp;rfl⟩ (λ_ h=>by have h:=h.r9 (f:=iv) (c:=data.toNat) 0 rfl jA (by simp) (by unfold maxLen;omega);have h:=h.r9 (f:=gv.cells) (xs:=[⟨none,0,[],0⟩]) (c:=1) 3 rfl gv.dR rfl (by decide);have h:=h.pS 2 rfl (show _=aQ q.1.2.1 (ax.obj ({ at_:=0,sq:=a0,steps:=0,stack:=[],de:=[⟨none,0,[],0⟩],bn:=bn,out:=[],data:=List.replicate data.toNat 0,a0:=0,sa:=none,sc:=0,fa:=some ⟨q.1.1,0,none⟩,fc:=1,ia:=q.2.2.1,ic:=q.2.2.2,oa:=none,oc:=0,da:=some ⟨al,0,none⟩,dc:=data.toNat }:ax)) by simp [ax.obj,mD,bm]);have h:=h.hM 3 1;have h:=h.hM 3 1;have h:=h.VU;have h:=h.NG 0 rfl 3 1;have h:=h.bs 0 rfl;have h:=h.bs 3 rfl;have h:=h.bs 2 rfl;have h:=h.bs 6 rfl;have h:=h.bs 4 rfl;have h:=h.bs 6 rfl;exact h) λs ⟨af,aB,aF,L⟩=>Cb<|ak<|V0 (Yd 6 O O O ah)<|V0 (bS O)<|V0 (Yf ve O)<|V0 (Yd 0 O O O ah)<|ab O<|V0 (bY O O) ?_;refine qb (c:=s.steps==steps) ?_ ?_
 ·intro J;refine Ep<|WE.cp<|Ep<|WE.cp ?_;refine WE.front 0 O<|WE.front 7 O<|WE.front 8 O<|WE.front 9 O<|WE.front 9 O<|WE.td bp (qx [_,_,_,_,_] _ _ O<|λw b=>Gd q.1.2.2 E F G q.1.2.1 s 7 _ _ _ _ _ _ w b) (yr O (fj 1 O O kD O) (jJ 2 O O O ah)<|jJ 3 O O O ah) λv b=>?_;have po:iterM code steps s.pu = .ov 7 s.pu:=by unfold iterM;rw [aD<|show (s.pu.steps==steps)=true from J]
  have p:(gY code data bn a0 steps)=(⟨7,s.out,s.data,s.a0⟩,s.steps):=by unfold gY;rw [aD k,<-L,Gf _ po];rfl
  rw [p,k];exact ⟨((s.oa,s.oc),(s.da,s.dc)),O,b.fr,b.kb 7 O jA su,b.kb 8 O jA su⟩
 intro J;refine ag<|ak<|V0 (Yd 6 O O O ah)<|V0 (bS O)<|V0 (Yf ve O)<|V0 (Yd 0 O O O ah)<|V0 (ud O O)<|V0 (bS O)<|V0 (Yf ve O) ?_;refine aw 0 Y O O O eE O O O<|eb 0 (ax.obj<|ax.tk s) O O<|ag<|Cs ?_;rcases Int.lt_or_le s.at_ 0 with M | M
 ·skip;refine CU (ow [.cell 8 64,.cell 9 3,.cell 10 30]) [] [] (.q true 0<|.q false 1<|.q false 2<|.q true 3<|.q false 4<|.q false 5<|.q false 6<|.q false 7<|.q false 8<|.q false 9<|.q false 10<|.q false 11<|.q false 12<|.q false 13<|.q false 14<|.e 15 .nil .stop) mixed (by kernel_rfl) (λ_ _ _ _ _ y h=>rf (fn:=f20) [.cell 8 64,.cell 9 3,.cell 10 30] O y h)<|U0 O (λ_ h=>h) (Yd 6 O O O ah)<|U0 O (λ_ h=>h) (bS O)<|U0 O (λ_ h=>h) (Yf g3 O)<|U0 O (λ_ h=>h) (Yd 0 O O O ah)<|U0 O (λ_ h=>h) (V4 O O M)<|U0 O (λ_ h=>h) (Ym O) ?_;refine WU.skip O O O O O O (λ_ h=>h)<|WU.skip O O O O O O (λ_ h=>h)<|WU.skip O O O O O O (λ_ h=>h)<|WU.skip O O O O O O (λ_ h=>h)<|WU.skip O O O O O O (λ_ h=>h)<|WU.skip O O O O O O (λ_ h=>h)<|WU.skip O O O O O O (λ_ h=>h)<|WU.skip O O O O O O (λ_ h=>h)<|U0 O (λ_ h=>h) (M0 O O O)<|Ue O (λ_ h=>h) ?_ WU.stop;refine qb (c:=true) ?_ ?_
  ·intro K;refine Ep<|Ep<|WE.cp<|Ep<|WE.cp ?_;refine WE.front 0 O<|WE.front 7 O<|WE.front 8 O<|WE.front 9 O<|WE.front 9 O<|WE.td bp (qx [_,_,_,_,_] _ _ O<|λw b=>Gd q.1.2.2 E F G q.1.2.1 (ax.tk s) 6 _ _ _ _ _ _ w b) (yr O (fj 1 O O kD O) (jJ 2 O O O ah)<|jJ 3 O O O ah) λv b=>?_;have po:iterM code steps s.pu = .ov 6 (ax.tk s).pu:=by unfold iterM;rw [aj (show ¬(s.pu.steps==steps)=true by rw [show s.pu.steps=s.steps from rfl,J];simp),aD (show bq s.pu.at_ code.length=true by show bq s.at_ code.length=true;unfold bq;simp [M])];rfl
   have p:(gY code data bn a0 steps)=(⟨6,(ax.tk s).out,(ax.tk s).data,(ax.tk s).a0⟩,(ax.tk s).steps):=by unfold gY;rw [aD k,<-L,Gf _ po];rfl
   rw [p,k];exact ⟨(((ax.tk s).oa,(ax.tk s).oc),((ax.tk s).da,(ax.tk s).dc)),O,b.fr,b.kb 7 O jA su,b.kb 8 O jA su⟩
  intro K;cases K
 skip;refine CU (ow [.cell 8 64,.cell 9 3,.cell 10 30]) [] [] (.q true 0<|.q false 1<|.q false 2<|.q true 3<|.q false 4<|.q false 5<|.q true 6<|.q false 7<|.q false 8<|.q true 9<|.q false 10<|.q true 11<|.q false 12<|.q false 13<|.q false 14<|.e 15 .nil .stop) mixed (by kernel_rfl) (λ_ _ _ _ _ y h=>rf (fn:=f20) [.cell 8 64,.cell 9 3,.cell 10 30] O y h)<|U0 O (λ_ h=>h) (Yd 6 O O O ah)<|U0 O (λ_ h=>h) (bS O)<|U0 O (λ_ h=>h) (Yf g3 O)<|U0 O (λ_ h=>h) (Yd 0 O O O ah)<|U0 O (λ_ h=>h) (V5 O O M)<|U0 O (λ_ h=>h) (Ym O) ?_;refine Uq O (.g O O O) O (λ_ h=>h) (Yd 6 O O O ah)<|Uq O (.g O O O) O (λ_ h=>h) (bS O)<|Uq O (.g O O O) O (λ_ h=>h) (Yf g3 O)<|Uq O (.g O O O) O (λ_ h=>h) (Yd 0 O O O ah)<|Uq O (.g O O O) O (λ_ h=>h) (Yf nf O)<|Uq O (.g O O O) O (λ_ h=>h) (Yd 10 O O O ah)<|Uq O (.g O O O) O (λ_ h=>h) (Yn hE O)<|Uq O (.g O O O) O (λ_ h=>h) (h9 O O)<|U0 O (λ_ h=>h) (M0 O O O)<|Ue O (λ_ h=>h) ?_ WU.stop;refine qb (c:=decide<|(code.length:Int)<=s.at_) ?_ ?_
 ·intro K;refine Ep<|Ep<|WE.cp<|Ep<|WE.cp ?_;refine WE.front 0 O<|WE.front 7 O<|WE.front 8 O<|WE.front 9 O<|WE.front 9 O<|WE.td bp (qx [_,_,_,_,_] _ _ O<|λw b=>Gd q.1.2.2 E F G q.1.2.1 (ax.tk s) 6 _ _ _ _ _ _ w b) (yr O (fj 1 O O kD O) (jJ 2 O O O ah)<|jJ 3 O O O ah) λv b=>?_;have po:iterM code steps s.pu = .ov 6 (ax.tk s).pu:=by unfold iterM;rw [aj (show ¬(s.pu.steps==steps)=true by rw [show s.pu.steps=s.steps from rfl,J];simp),aD (show bq s.pu.at_ code.length=true by show bq s.at_ code.length=true;unfold bq;simp;exact Or.inr (by simpa using K))];rfl
  have p:(gY code data bn a0 steps)=(⟨6,(ax.tk s).out,(ax.tk s).data,(ax.tk s).a0⟩,(ax.tk s).steps):=by unfold gY;rw [aD k,<-L,Gf _ po];rfl
  rw [p,k];exact ⟨(((ax.tk s).oa,(ax.tk s).oc),((ax.tk s).da,(ax.tk s).dc)),O,b.fr,b.kb 7 O jA su,b.kb 8 O jA su⟩
 intro K;have S:bq s.at_ code.length=false:=by unfold bq;rw [K];simp;omega
 refine Ln<|Eu ?_;refine WU.nil (λ_ h=>h)<|WS.nil<|Et ?_;obtain ⟨x,W⟩:∃x,code[s.at_.toNat]? = some x:=⟨_,cy (eL S).2⟩;obtain ⟨pb,aG,aH,X⟩:=N.ct _ x W;have X:cB l pb (aG+s.at_.toNat*3) x.cells:=X;have aU:=(eL S).2;refine CU (ow [.cell 8 64,.cell 9 3,.cell 10 30]) [] [9] (.q true 0<|.q false 1<|.q true 2<|.q true 3<|.q false 4<|.q false 5<|.q true 6<|.q false 7<|.q true 8 .nil) mixed (by kernel_rfl) (λ_ _ _ _ _ y h=>rf (fn:=f20) [.cell 8 64,.cell 9 3,.cell 10 30] O y h)<|U0 O (λ_ h=>h) (Yd 6 O O O ah)<|U0 O (λ_ h=>h) (Yf nf O)<|U0 O (λ_ h=>h) (Yd 10 O O O ah)<|U0 O (λ_ h=>h) (Yd 6 O O O ah)<|U0 O (λ_ h=>h) (bS O)<|U0 O (λ_ h=>h) (Yf g3 O)<|U0 O (λ_ h=>h) (Yd 0 O O O ah)<|U0 O (λ_ h=>h) (k8 hE O O aH M (by show s.at_<(code.length:Int);omega)) ?_;refine U0 O (λ_ h=>h) (eB 1 xk O O O<|X)<|WU.nil (λ_ h=>h)<|WS.e O<|ng (Yh x) af.tk ?_ ?_
 ·intro j ae;refine Ep<|WE.cp<|Ep<|WE.cp ?_;refine WE.front 0 O<|WE.front 7 O<|WE.front 8 O<|WE.front 9 O<|WE.front 9 O<|WE.td bp (qx [_,_,_,_,_] _ _ O<|λw b=>Gd q.1.2.2 E F G q.1.2.1 j.2 j.1 _ _ _ _ _ _ w b) (yr O (fj 1 O O kD O) (jJ 2 O O O ah)<|jJ 3 O O O ah) λv b=>?_;have po:iterM code steps s.pu = .ov j.1 j.2.pu:=by unfold iterM;rw [aj (show ¬(s.pu.steps==steps)=true by rw [show s.pu.steps=s.steps from rfl,J];simp),aj (show ¬bq s.pu.at_ code.length=true by show ¬bq s.at_ code.length=true;rw [S];simp),show code[s.pu.at_.toNat]? = some x from W];exact ae
  have p:(gY code data bn a0 steps)=(⟨j.1,j.2.out,j.2.data,j.2.a0⟩,j.2.steps):=by unfold gY;rw [aD k,<-L,Gf _ po];rfl
  rw [p,k];exact ⟨((j.2.oa,j.2.oc),(j.2.da,j.2.dc)),O,b.fr,b.kb 7 O jA su,b.kb 8 O jA su⟩
 intro j ⟨ae,aI⟩;refine Ln<|Es ?_;refine WS.nil<|Eb ?_;have po:iterM code steps s.pu = .ok () j.2.pu:=by unfold iterM;rw [aj (show ¬(s.pu.steps==steps)=true by rw [show s.pu.steps=s.steps from rfl,J];simp),aj (show ¬bq s.pu.at_ code.length=true by show ¬bq s.at_ code.length=true;rw [S];simp),show code[s.pu.at_.toNat]? = some x from W];exact ae
 have aV:j.2.steps=s.steps+1/\s.steps<steps:=Yr (m:=s.pu) (m':=j.2.pu) ai.2.2.2 aB aF po;exact ep j.2 (by omega) ⟨aI,by omega,by omega,by rw [<-L,PJ _ po,show (steps-s.steps).toNat=(steps-j.2.steps).toNat+1 by omega]⟩<|λ_ h=>h
end Go.Proofs.YtgeahfjicmlocaaGreatDoor.Mch
end
section
namespace Go.Proofs.YtgeahfjicmlocaaGreatDoor.Mch
open Go.Bw Go.Proofs.Tryz
def Yu (op:ac) (w:aP) : cx aC 143 #[am an op] w λe a=>e = cf (bW<|goes op)/\Ext w a:=by
 refine enter func143 O 13 O O<|CE (Vs:=[]) (Ws.init aK)<|ak<|au O<|ag<|ak<|ab O<|V0 (bY O O)<|ab O ?_;apply Lo 2 O O O O Y O O O O O;·intro c;refine Vg (Ym O)<|Vg (bY O O) ?_;exact Gt 2 O O O
 refine ab O ?_;apply Lo 2 O O O O Y O O O O O;·intro d;refine Vg (Ym O)<|Vg (bY O O) ?_;exact Gt 2 O O O
 refine au O<|ag<|bu ?_;refine R1 O O λa b=>⟨O,b.fr⟩
end Go.Proofs.YtgeahfjicmlocaaGreatDoor.Mch
end
section
namespace Go.Proofs.YtgeahfjicmlocaaGreatDoor.Mch
open Go.Bw Go.Proofs.Tryz
def rdBool (a:View) (b o:Z) (x:aS):Prop:=vc a b o=aa (bW x)
def po (n:Z) (code:I ce) (m j:Z):aS:= match code[m]? with| aa x=>(goes x.op&&decide (0<=x.a)&&decide (x.a<(n:ac))&&x.a.toNat==j)||(x.op==13&&m+1==j)| ao=>aq
def mk (code:I ce) (N k:Z):I aS:=(lf N).map λj=>j==0||(lf k).any λm=>po code.length code m j
def marks (code:I ce):I aS:=mk code code.length code.length
def pp (code:I ce) (data:ac):I aS×ac:=if h1 code data=0 then (marks code,0) else ([],h1 code data)
def iY (code:I ce) (N k:Z):(mk code N k).length=N:=by simp [mk]
def mk_zero (code:I ce) (N:Z):mk code N 0=(gb N aq).set 0 ad:=by
 apply r0;intro j;rw [eu];rcases m2 j N with h | h
 ·rcases H_ j with rfl | e;·simp [mk,h]
  ·have a:¬(0=j):=ai;have d:(j==0)=aq:=by simp;omega
   simp [mk,h,a,d]
 ·have a:(gb N aq)[j]? = ao:=by simp [h]
  have b:¬j<N:=ai;simp only [mk,ED];by_cases c:0=j;·subst c;simp [b]
  ·simp [c,b]
def Yv (l:I aS) (a j:Z):(l.set a ad)[j]? = (l[j]?).map λb=>b||(a==j):=by
 rw [eu];by_cases h:a=j
 ·subst h;by_cases c:a<l.length;·simp [c]
  ·simp [c]
 ·have:(a==j)=aq:=by simp [h]
  simp [h,this]
variable {yZ:I ce}
def Gg {N i:Z} {x:ce} (c:yZ[i]? = aa x):mk yZ N (i+1) = (if (x.op==13)=ad then (if (goes x.op&&decide (0<=x.a)&&decide (x.a<(yZ.length:ac)))=ad then (mk yZ N i).set x.a.toNat ad else mk yZ N i).set (i+1) ad else if (goes x.op&&decide (0<=x.a)&&decide (x.a<(yZ.length:ac)))=ad then (mk yZ N i).set x.a.toNat ad else mk yZ N i):=by
 apply r0;intro j;have d:po yZ.length yZ i j=((goes x.op&&decide (0<=x.a)&&decide (x.a<(yZ.length:ac))&&x.a.toNat==j)||(x.op==13&&i+1==j)):=by simp only [po,c]
 have e:(mk yZ N<|i+1)[j]? = ((mk yZ N i)[j]?).map λb=>b||po yZ.length yZ i j:=by
  simp only [mk,fp];by_cases h:j<N;·simp [h,zX,aS.or_assoc]
  ·simp [h]
 rw [e,d];generalize (goes x.op&&decide (0<=x.a)&&decide (x.a<(yZ.length:ac)))=B;generalize (x.op==13)=B2;cases B<;>cases B2<;>simp [Yv,kl,aS.or_assoc]
def J4 {data:ac} (h:h1 yZ data=0):0<yZ.length/\yZ.length<=2048:=by
 unfold h1 at h;split at h;·cases h
 ·rename_i a;simp at a;omega
def Yw (code:I ce) (j:Z) (x:aS) (h:(marks code)[j]? = aa x):(mk code (code.length+1) code.length)[j]? = aa x:=by have a:=(cN.1 h).1;rw [marks,iY] at a;simp only [marks,mk,fp] at h ⊢;have b:j<code.length+1:=ai;simpa [a,b] using h
def xp:g_ aC 132=aa 1:=ah
def AT:ii aC 132 4 (bW aq) 1 1:=j_ ah
def C4:e2 aC 4=aa 1:=ah
def ah2 (f:View) (a:aA a6) (c:Z) (code:I ce) (data:ac) (w:aP) (u:Le f w) (l:Sl qN 3 f a c code) : cx aC 77 #[b0 #[aE a code.length c,am an data]] w λe m=>∃r:aA a6×Z,e = cf (cO #[aE r.1 (pp code data).1.length r.2,am an (pp code data).2])/\Ext w m/\Sl rdBool 1 (nv w m) r.1 r.2 (pp code data).1:=by
 have E:=l.cap;have F:=l.max;refine enter func77 O 61 O O<|CE (Vs:=[f]) (Ws.init (by simp [u]))<|ak ?_;refine WL.box Y O O λv=>au O<|au O<|ag<|Cs<|ak<|V0 (dW 0 O O pn O)<|Lp Y O bp O (λw b=>Px f a c code data _ b.V l)<|au O<|ag<|ak<|ab O ?_;refine V0 (ha O O)<|ag ?_;refine Cc O (λn=>?_)<|λn=>?_
 ·have o:pp code data=([],h1 code data):=by simp at n;simp [pp,n]
  refine ak<|ab O<|au O<|au O<|ag<|bu<|Er ?_;refine WE.jv O O O λm b=>?_;rw [o];exact ⟨(ao,0),O,b.fr,Sl.nil⟩
 have s:h1 code data=0:=by simpa using n
 have o:pp code data=(marks code,0):=by simp [pp,s]
 obtain ⟨G,H⟩:=J4 s;refine ay<|ak<|V0 (Yf nf O)<|V0 (Yd 0 O O O ah)<|V0 (Yn hE O)<|V0 (Yi O O O ai) ?_;refine WL.make Y O AT O O ai ai ai ai λt=>eb 0 (aY ((gb (code.length+1) aq).map aR.bool).toArray 4 (0,0)) rfl (by rw [VE _ rfl];simp)<|V0 (Ya rfl)<|ag<|ak<|V0 (Ym rfl)<|V0 (qu (i:=0) xp rfl rfl ai) ?_;refine WL.z8 0 (aY ((mk code (code.length+1) 0).map aR.bool).toArray 4 (0,0)) Y O O O C4 O O (E1 _ _ _ _ aK) (by rw [mk_zero];exact E2 aR.bool _ 4 0 ad aK)<|ag<|Cs<|ak<|V0 (Yf nf O)<|V0 (Yd 1 O O O ah)<|V0 (Yn hE O)<|ab O<|ag<|Cb ?_;refine f_ (ι:=Z) (λi=>[(23,am an (i:ac))]) [(1,_),(2,_),(3,_),(5,_),(21,_),(22,_)] (λi=>Ws w [] [aQ t<|aY ((mk code (code.length+1) i).map aR.bool).toArray 4 (0,0),aQ v<|aY (aR.agg #[aE a code.length c,am an data]).cells 57 (0,0)] [f]) (λi=>i<=code.length) (λi=>code.length-i) 0 (dw _) a' λi hi=>ak<|V0 (c8 O O)<|ag<|Cs ?_;refine Cc O (λp=>?_)<|λp=>?_
 ·have y:i<code.length:=by simpa using p
  obtain ⟨x,k⟩:=bk y;obtain ⟨pb,z,J,q⟩:=l.ct i x k;have q:cB f pb (z+i*3) x.cells:=q;refine ay<|Cs<|Cb<|ak<|ab O<|V0 (Yo hE O O zM ai)<|V0 (eB 0 xk O O O<|q) ?_;refine Al Y O iq λK=>au O<|aw 0 Y O O O yT O O O<|ag<|Cs<|ak<|V0 (Yf sp O)<|V0 (Yd 0 O O O ah)<|Lp Y O bp O (λw b=>Yu _ w)<|ab O ?_;apply La 3 O O O O Y O O O O O;·intro L;refine Vg (Yf kN O)<|Vg (Yd 0 O O O ah)<|Vg (h9 O O) ?_;exact Gt 3 O O O
  refine ab O ?_;apply La 6 O O O O Y O O O O O;·intro M;refine Vg (Yf kN O)<|Vg (Yd 0 O O O ah)<|Vg (Yf nf O)<|Vg (Yd 2 O O O ah)<|Vg (Yn hE O)<|Vg (c8 O O) ?_;exact Gt 6 O O O
  refine ag<|Cc O (λg=>?_)<|λg=>?_
  ·have A:(goes x.op=ad/\0<=x.a)/\x.a<code.length:=by simpa using g
   obtain ⟨⟨_,B⟩,P⟩:=A;refine Cr<|ab O<|V0 (Yf kN O)<|V0 (Yd 0 O O O ah)<|V0 (ES xp O O B ai) ?_;refine WL.z8 1 _ Y O O O C4 O O (E1 _ _ _ _ (by simp [iY];omega)) (E2 aR.bool _ 4 _ ad (by simp [iY];omega))<|ag<|ak<|V0 (Yf sp O)<|V0 (Yd 0 O O O ah)<|V0 (bY O O)<|ag ?_;refine Cc O (λd=>?_)<|λd=>?_;·refine Cr<|ab O<|ab O<|V0 (Yi O O O ai)<|V0 (qu xp O O ai) ?_;refine WL.z8 1 _ Y O O O C4 O O (E1 _ _ _ _ (by simp [iY];omega)) (E2 aR.bool _ 4 _ ad (by simp [iY];omega))<|Ln<|Eb<|Et<|Cr<|V0 (Yi O O O ai)<|ab O<|Ln ?_;exact ep (i+1) ai ai (λ_ h=>by have e:=Gg (N:=code.length+1) k;simp only [g,d,dD,en,dF] at e;have h:=Wd 1 h;rw [e];exact h)
   refine Ck<|Eb<|Et<|Cr<|V0 (Yi O O O ai)<|ab O<|Ln ?_;exact ep (i+1) ai ai (λ_ h=>by have e:=Gg (N:=code.length+1) k;simp only [g,d,dD,en,dF] at e;have h:=Wd 1 h;rw [e];exact h)
  refine ay<|ak<|V0 (Yf sp O)<|V0 (Yd 0 O O O ah)<|V0 (bY O O)<|ag ?_;refine Cc O (λd=>?_)<|λd=>?_;·refine Cr<|ab O<|ab O<|V0 (Yi O O O ai)<|V0 (qu xp O O ai) ?_;refine WL.z8 1 _ Y O O O C4 O O (E1 _ _ _ _ (by simp [iY];omega)) (E2 aR.bool _ 4 _ ad (by simp [iY];omega))<|Ln<|Eb<|Et<|Cr<|V0 (Yi O O O ai)<|ab O<|Ln ?_;exact ep (i+1) ai ai (λ_ h=>by have e:=Gg (N:=code.length+1) k;simp only [g,d,dD,en,dF] at e;have h:=Wd 1 h;rw [e];exact h)
  refine Ck<|Eb<|Et<|Cr<|V0 (Yi O O O ai)<|ab O<|Ln ?_;exact ep (i+1) ai ai (λ_ h=>by have e:=Gg (N:=code.length+1) k;simp only [g,d,dD,en,dF] at e;have h:=Wd 1 h;rw [e];exact h)
 have Q:¬i<code.length:=by simpa using p
 have C:i=code.length:=ai;subst C;refine Ce<|Ex<|Ex<|ee<|Et<|ak<|ab O<|V0 (Yf nf O)<|V0 (Yd 1 O O O ah)<|V0 (Yn hE O)<|V0 (M' xp O aK O ai ai)<|au O ?_;refine au O<|ag<|bu ?_;refine WE.jv O O O λm b=>?_;rw [o];refine ⟨(aa ⟨t,0,ao⟩,((code.length+1:Z):ac).toNat),?_,b.fr,?_⟩;·simp [marks,iY]
 ·exact b.VF 0 O iH (by simp [marks,iY]) ai<|λj x D=>Yw code j x D
end Go.Proofs.YtgeahfjicmlocaaGreatDoor.Mch
end
section
namespace Go.Proofs.YtgeahfjicmlocaaGreatDoor.Mch
open Go.Bw Go.Proofs.Tryz
def bool_split {a b:aS} (h:(a&&b)=ad):a=ad/\b=ad:=by simpa using h
end Go.Proofs.YtgeahfjicmlocaaGreatDoor.Mch
end
section
namespace Go.Proofs.YtgeahfjicmlocaaGreatDoor.Mch
open Go.Bw Go.Proofs.Tryz
def ci:ii aC 55 62 (b0 #[am an 0,am an 0,am an 0]) 3 24:=j_ ah
def PK (b:aS) (w:aP) : cx aC 148 #[bW b] w λe a=>e = cf (am an<|iC b)/\Ext w a:=by
 refine enter func148 O 4 O O<|CE (Vs:=[]) (Ws.init aK)<|ak<|au O<|ag<|Cs<|ak<|ab O<|ag ?_;refine Cc O (λd=>?_)<|λd=>?_;·refine ak<|au O<|ag<|bu<|Er ?_;refine R1 O O λa c=>⟨by simp [iC, *],c.fr⟩
 refine ay<|ak<|au O<|ag<|bu ?_;refine R1 O O λa c=>⟨by simp [iC, *],c.fr⟩
def Yy (g:View) (a:aA a6) (c:Z) (code:I ce) (w:aP) (n:Le g w) (f:Sl qN 3 g a c code) (y:code.length*24<=140737488355328) (z:1<=code.length) : cx aC 78 #[aE a code.length c] w λe i=>∃v,e = cf v/\Ext w i/\i.ownsRow w.heap.size 62 3 v code.length (code.flatMap ce.cells):=by
 have A:=f.cap;have B:=f.max;refine enter func78 O 8 O O<|CE (Vs:=[g]) (Ws.init (by simp [n]))<|ak<|au O<|ag<|Cs<|ak<|ab O<|V0 (E4 hE O)<|ag ?_;refine Cc O (λk=>?_)<|λk=>?_
 ·have q:code=[]:=by cases code with| nil=>rfl| cons x r=>obtain ⟨b,o,h,_⟩:=f.ct 0 x rfl;rw [h] at k;cases k
  refine ak<|au O<|ag<|bu<|Er ?_;refine R1 O O λi d=>?_;subst q;exact ⟨_,O,d.fr,VG _ _ _ _⟩
 obtain ⟨p,rfl⟩:∃p,a=aa p:=by cases a with| none=>cases k| some p=>exact ⟨p,rfl⟩
 obtain ⟨pb,C,ps⟩:=p;obtain rfl:ps=ao:=f.spot _ rfl ai;have s:=f.flat ce.dR a8<|λ_ _ _ h=>h;refine ay<|ak ?_;refine WL.Ca Y O ci O O O λD=>WL.z_ (size:=3) 0 O (c7 0) (dw _) O<|ab O<|WL.append 0 Y O ci O O O (ui ce.dR code) (λw d j u l=>by rw [r3];exact (d.vs g aK).cell<|s j u l) (λu l=>by obtain ⟨x,_,m⟩:=nO.1 l;simp [ce.cells] at m;rcases m with rfl | rfl | rfl<;>rfl) (by unfold maxLen;omega) ai<|λE F=>?_;refine au O<|ag<|bu ?_;refine R1 O O λi d=>?_;have t:=d.VC 0 rfl;exact ⟨_,O,d.fr,by simpa using t⟩
end Go.Proofs.YtgeahfjicmlocaaGreatDoor.Mch
end
section
namespace Go.Proofs.YtgeahfjicmlocaaGreatDoor.Mch
open Go.Bw Go.Proofs.Tryz
def aG (l:I ce) (k:Z):ce:=(l[k]?).getD ⟨0,0,0⟩
def oK {l:I ce} {k:Z} (h:k<l.length):l[k]? = aa (aG l k):=by unfold aG;rw [cy h];rfl
variable {yZ:I ce} {bE:Z} {fv:ce}
def Yz (h:yZ[bE]? = aa fv):(yZ.flatMap ce.cells)[0+bE*3+0]? = aa (am an fv.op):=by rw [lJ];exact pM ce.dR h a8
def C5 (h:yZ[bE]? = aa fv):(yZ.flatMap ce.cells)[0+bE*3+1]? = aa (am an fv.a):=by rw [lJ];exact pM ce.dR h a8
def PL {k j:Z}  (h:yZ[k]? = aa fv) (a:j<=3):0+k*3+j<=(yZ.flatMap ce.cells).length:=by rw [ui ce.dR];have:=(cN.1 h).1;omega
def YA (h:yZ[bE]? = aa fv):0+bE*3+1+1<=(yZ.flatMap ce.cells).length:=PL h (j:=2) a8
def PM (h:yZ[bE]? = aa fv):0+bE*3+3<=(yZ.flatMap ce.cells).length:=PL h a8
def YB (h:yZ[bE]? = aa fv) (v:ac) : (yZ.flatMap ce.cells).take (0+bE*3+1)++bm (am an v)++(yZ.flatMap ce.cells).drop (0+bE*3+1+(bm<|am an v).length)=(yZ.set bE ⟨fv.op,v,fv.b⟩).flatMap ce.cells:=by rw [lJ];exact Is ce.dR h (by simp [bm]) rfl
def PN (h:yZ[bE]? = aa fv) (a b c:ac) : (yZ.flatMap ce.cells).take (0+bE*3)++bm (b0 #[am an a,am an b,am an c])++(yZ.flatMap ce.cells).drop (0+bE*3+(bm<|b0 #[am an a,am an b,am an c]).length)=(yZ.set bE ⟨a,b,c⟩).flatMap ce.cells:=by rw [lJ];exact Is ce.dR h (j:=0) (by simp [bm]) rfl
def PO (a:View) (b o:Z) (x:ac):Prop:=vc a b o=aa (am an x)
variable {cm eU:aP} {cS:I Z} {dG:I bh} {fh:I View} {aL dl j':Z}
def AU (h:Ws cm cS dG fh eU) (i:Z)   (hL:dG[i]? = aa (eV j' 3 (aE (aa ⟨dl,0,ao⟩) bE aL) bE<|yZ.flatMap ce.cells)) (b:yZ.length<=aL) (c:aL<=9223372036854775807):Sl qN 3 (hv eU) (aa ⟨dl,0,ao⟩) aL yZ:= ⟨b,c,aK,λj x d=>⟨dl,0,rfl,λk v a=>h.VD i hL (by have:k<3:=(cN.1 a).1;rw [lJ,pM ce.dR d this];exact a)⟩⟩
variable {gO:I ac}
def AV (h:Ws cm cS dG fh eU) (i:Z)  {a:Obj}  (hL:dG[i]? = aa (aQ bE a)) (b:gO.length<=aL) (c:aL<=9223372036854775807) (d:∀j x,gO[j]? = aa x->cz a (0+j*1)=aa (am an x)):Sl PO 1 (hv eU) (aa ⟨bE,0,ao⟩) aL gO:= ⟨b,c,aK,λj x e=>⟨bE,0,rfl,h.jH i hL<|d j x e⟩⟩
def YC (h:Ws cm [] dG fh eU) (i:Z)   (hL:dG[i]? = aa (eV j' 3 (aE (aa ⟨dl,0,ao⟩) bE aL) bE<|yZ.flatMap ce.cells)) (l:yZ.length=bE):Sl qN 3 (nv cm eU) (aa ⟨dl,0,ao⟩) aL yZ:=by
 rcases h.Nf i hL with ⟨b,_⟩ | ⟨m,n,b,o,d,e⟩;·cases b
 ·injection b with a _ f;injection a with a;injection a with a;subst a f;exact ⟨ai,by unfold maxLen at d;omega,aK,λj x g=>⟨_,0,O,λk v c=>e _ _ (by have:k<3:=(cN.1 c).1;rw [lJ,pM ce.dR g this];exact c)⟩⟩
def xq (code cur:I ce) (k:Z):I ce:= if (decide (0<=(aG cur k).a)&&decide ((aG cur k).a<(code.length:ac))&&((aG cur k).a != (k:ac))&&((aG code (aG cur k).a.toNat).op==11))=ad then cur.set k ⟨(aG cur k).op,(aG code (aG cur k).a.toNat).a,(aG cur k).b⟩ else cur
def pq (mk:I aS) (cur:I ce) (m:Z) (o:ac):aS:=decide (m<cur.length)&&((aG cur m).op==o&&!(mk[m]?.getD ad))
def iW (mk:I aS) (cur:I ce) (k:Z) (os:I ac):aS:=(lf os.length).all λi=>pq mk cur (k+1+i)<|os[i]?.getD 0
def v7 (cur:I ce) (k:Z):Z->I ce| 0=>cur| i+1=>(v7 cur k i).set (k+i) ⟨21,0,0⟩
def Gh (cur:I ce) (k:Z):∀i,(v7 cur k i).length=cur.length| 0=>rfl| i+1=>by simp [v7,Gh cur k i]
def hS (cur:I ce) (k n:Z) (x:ce):I ce:=(v7 cur k<|n-1).set (k+n-1) x
def J5 (cur:I ce) (k n:Z) (x:ce):(hS cur k n x).length=cur.length:=by simp [hS,Gh]
def qd (mk:I aS) (cur:I ce) (k:Z):I ce:= if iW mk cur k [1,10]=ad then (if (iV (aG cur<|k+2).a (aG cur k).a (aG cur<|k+1).a).2=ad then hS cur k 3 ⟨1,(iV (aG cur<|k+2).a (aG cur k).a (aG cur<|k+1).a).1,0⟩ else cur) else if (iW mk cur k [12]&&(aG cur k).a==0)=ad then hS cur k 2 ⟨11,(aG cur<|k+1).a,0⟩ else if iW mk cur k [9]=ad then hS cur k 2 ⟨1,iC<|(aG cur k).a==0,0⟩ else if iW mk cur k [22]=ad then hS cur k 2 ⟨1,iC<|(aG cur k).a != 0,0⟩ else if (iW mk cur k [12]||iW mk cur k [17])=ad then hS cur k 2 ⟨21,0,0⟩ else cur
def YD (code cur:I ce) (k:Z):(xq code cur k).length=cur.length:=by unfold xq;split<;>simp
def PP (mk:I aS) (cur:I ce) (k:Z):(qd mk cur k).length=cur.length:=by
 unfold qd;repeat' split
 all_goals simp only [J5]
def PQ (mk:I aS) (cur:I ce) (m:Z) (o:ac):((decide ((cur.length:ac)<=(m:ac))||((aG cur m).op != o))||(mk[m]?.getD ad)) = !(pq mk cur m o):=by
 unfold pq;have e:decide ((cur.length:ac)<=(m:ac)) = !(decide<|m<cur.length):=by
  by_cases h:m<cur.length;·simp [h]
  ·simp [h];omega
 rw [e];generalize (mk[m]?.getD ad)=b;simp only [bne];generalize ((aG cur m).op==o)=c;generalize decide (m<cur.length)=d;cases b<;>cases c<;>cases d<;>rfl
variable {dr:I aS}
def YE (hi:aL<gO.length) (h:pq dr yZ (bE+1+aL) (gO[aL]?.getD 0)=aq):iW dr yZ bE gO=aq:=by unfold iW;rw [zU];exact ⟨aL,by simp [hi],by simp [h]⟩
def YF (h:∀i,i<gO.length->pq dr yZ (bE+1+i) (gO[i]?.getD 0)=ad):iW dr yZ bE gO=ad:=by unfold iW;rw [gA];intro i hi;exact h i (by simpa using hi)
def AW (h:iW dr yZ bE gO=ad) {i:Z} (hi:i<gO.length):bE+1+i<yZ.length:=by unfold iW at h;have:=gA.1 h i (by simp [hi]);unfold pq at this;simp at this;exact this.1
def qP:aT aC 157 1=aa 2:=ah
def PR:aT aC 157 0=aa 0:=ah
def i6:hW aC 62=aa [(0,1),(1,1),(2,1)]:=ah
def YG:aT aC 157 2=aa 3:=ah
def PS (f c:Z) (n o:aA a6) (p cc q:Z) (data:ac) (g r:View) (code cur:I ce) (mk:I aS) (k:Z) (w:aP) (m:Sl qN 3 g n p code) (B:cur.length=code.length) (C:mk.length=code.length) (D:Sl rdBool 1 r o q mk) (E:k<code.length) (F:code.length<=cc) (G:cc<=9223372036854775807) (i:Ws w [f,c] [aQ f<|aY #[aE n code.length p,am an data,aE (aa ⟨c,0,ao⟩) code.length cc,aE o code.length q] 157 (0,0),eV 62 3 (aE (aa ⟨c,0,ao⟩) code.length cc) code.length<|(cur).flatMap ce.cells] [g,r] w) : cx aC 79 #[b8 (aa ⟨f,0,ao⟩),am an (k:ac)] w λe s=>e = cf (cO #[])/\Ws w [f,c] [aQ f<|aY #[aE n code.length p,am an data,aE (aa ⟨c,0,ao⟩) code.length cc,aE o code.length q] 157 (0,0),eV 62 3 (aE (aa ⟨c,0,ao⟩) code.length cc) code.length<|(xq code cur k).flatMap ce.cells] [g,r] s:=by
 have t:cur[k]? = aa (aG cur k):=oK ai;have H:=m.cap;have J:=m.max;refine enter func79 O 57 O O<|CE i<|ak<|ab O<|V0 (bS O)<|V0 (Yf qP O)<|V0 (Yd 0 O O O ah)<|ab O<|V0 (qu hE O O ai) ?_;refine V0 (Yf kN O)<|V0 (z' 1 O O ah<|C5 t)<|au O<|ag<|ak<|ab O<|V0 (h9 O O)<|ab O ?_;apply La 7 O O O O Y O O O O O;·intro K;refine Vg (Ym O)<|Vg (Ym O)<|Vg (bS O)<|Vg (Yf qP O)<|Vg (Yd 0 O O O ah)<|Vg (Yn hE O)<|Vg (c8 O O) ?_;exact Gt 7 O O O
 refine ab O ?_;apply La 3 O O O O Y O O O O O;·intro L;refine Vg (Ym O)<|Vg (Ym O)<|Vg (ha O O) ?_;exact Gt 3 O O O
 refine ab O ?_;apply La 10 O O O O Y O O O O O
 ·intro z;have u:((0<=(aG cur k).a)/\(aG cur k).a<(code.length:ac)):=by simp at z;exact z.1
  obtain ⟨v,A⟩:=u;obtain ⟨pb,x,y,b⟩:=m.ct _ _<|oK (l:=code) (k:=(aG cur k).a.toNat) ai;have b:cB g pb (x+(aG cur k).a.toNat*3) (aG code (aG cur k).a.toNat).cells:=b;refine Vg (Ym O)<|Vg (bS O)<|Vg (Yf PR O)<|Vg (Yf nf O)<|Vg (Yd 0 O O O ah)<|Vg (Ym O)<|Vg (k8 hE O O y v ai)<|Vg (Yf sp O) ?_;refine Vg (ew 0 ah O O<|b 0 _ O)<|Vg (bY O O) ?_;exact Gt 10 O O O
 refine ag<|Cc O (λj=>?_)<|λj=>?_
 ·have u:((0<=(aG cur k).a)/\(aG cur k).a<(code.length:ac)):=by simp at j;exact j.1.1
  obtain ⟨v,A⟩:=u;obtain ⟨pb,x,y,b⟩:=m.ct _ _<|oK (l:=code) (k:=(aG cur k).a.toNat) ai;have b:cB g pb (x+(aG cur k).a.toNat*3) (aG code (aG cur k).a.toNat).cells:=b;refine WC.nS 1 [(0,ad),(1,ad),(2,ad),(3,ad),(4,ad),(5,ad),(6,ad),(7,ad),(8,ad),(9,ad),(10,ad),(11,ad),(12,ad),(13,ad),(14,ad),(15,ad),(16,aq)] mixed ah (λ_ _ _ d _ h=>by cases d<;>exact h)<|D0 O (Wp 1) (Ym O)<|D0 O (Wp 1) (bS O)<|D0 O (Wp 1) (Yf qP O)<|D0 O (Wp 1) (Yd 0 O O O ah)<|D0 O (Wp 1) (Ym O)<|D0 O (Wp 1) (Ym O)<|D0 O (Wp 1) (bS O)<|D0 O (Wp 1) (Yf PR O) ?_;refine D0 O (Wp 1) (Yf nf O)<|D0 O (Wp 1) (Yd 0 O O O ah)<|D0 O (Wp 1) (Ym O)<|D0 O (Wp 1) (k8 hE O O y v ai)<|D0 O (Wp 1) (Yf kN O)<|D0 O (Wp 1) (ew 0 ah O O<|b 1 _ O)<|D0 O (Wp 1) (qu hE O O ai)<|D0 O (Wp 1) (Yf kN O) ?_;refine De O (Wp 1)<|WL.Iu 1 _ Y O O O eE O O (YA t) (YB t _)<|Ln<|Ed ?_;refine WD.nil (Wp 1)<|E0 O λs i=>?_;rw [xq,aD j];exact ⟨O,i⟩
 refine Ck<|E0 O λs i=>?_;rw [xq,aj (by simp [j])];exact ⟨O,i⟩
def J6 (v:ac) (w:aP) : cx aC 144 #[am an v] w λe a=>e = cf (b0 #[am an 1,am an v,am an 0])/\Ext w a:=by refine enter func144 O 5 O O<|CE (Vs:=[]) (Ws.init aK)<|ak ?_;refine Al Y O iq λc=>ag<|ak<|ab O<|V0 (Yb iq i6 O O)<|aw 0 Y O O O yT O O O<|ag<|bu ?_;refine WE.Nd 0 O O O xk O λa b=>⟨O,b.fr⟩
def AX (a:View) (d N:Z) (s t u:aA a6) (cc v co:Z) (cur:I ce) (mk:I aS) (os:I ac) (k:Z) (w:aP) (D:Le a w) (hN:cur.length=N) (V:N<=2048) (x:vc a d (0+2)=aa (aE s N cc)) (E:vc a d (0+3)=aa (aE t N v)) (F:Sl qN 3 a s cc cur) (G:Sl rdBool 1 a t v mk) (W:mk.length=N) (H:Sl PO 1 a u co os) (X:os.length<=2) (ae:k<N) : cx aC 145 #[b8 (aa ⟨d,0,ao⟩),am an (k:ac),aE u os.length co] w λe f=>e = cf (bW<|iW mk cur k os)/\Ext w f:=by
 subst hN;refine enter func145 O 50 O O<|CE (Vs:=[a]) (Ws.init (by simp [D]))<|ak<|au O<|ag<|Cs<|ak<|ab O<|V0 (Yn e8 O)<|ab O<|ag<|Cb ?_;refine CW (ι:=Z) (λi=>[(12,am an (i:ac))]) [(0,_),(1,_),(10,_),(11,_)] (λi=>i<=os.length/\∀j,j<i->pq mk cur (k+1+j) (os[j]?.getD 0)=ad) (λi=>os.length-i) 0 ⟨dw _,by simp⟩ (sc O<|sc O<|sc O<|sc O<|sc O sn) λi ⟨hi,y⟩=>ak<|V0 (c8 O O)<|ag<|Cs ?_;refine Cc O (λg=>?_)<|λg=>?_
 ·have z:i<os.length:=by simpa using g
  obtain ⟨o,l⟩:∃o,os[i]? = aa o:=⟨_,cy z⟩;obtain ⟨J,K,L,m⟩:=H.ct i o l;have m:vc a J (K+i*1)=aa (am an o):=m;refine ay<|Cs<|Cb<|ak<|ab O<|V0 (Yo e8 O O L (by omega))<|V0 (ew 0 ah O O<|m)<|au O<|au O<|ag<|ak<|ab O ?_;refine V0 (Yi O O O (by omega))<|ab O<|V0 (o7 O O O O (by omega))<|au O<|ag<|ak<|ab O<|ab O<|V0 (bS O) ?_;refine V0 (Yf qP O)<|V0 (ew 0 ah O O<|x)<|V0 (Yn hE O)<|V0 (h9 O O)<|ab O ?_;apply Lo 10 O O O O Y O O O O O
  ·intro M;have A:k+1+i<cur.length:=by simp at M;omega
   obtain ⟨pb,P,Q,n⟩:=F.ct _ _<|oK A;have n:cB a pb (P+(k+1+i)*3) (aG cur<|k+1+i).cells:=n;refine Vg (Ym O)<|Vg (bS O)<|Vg (Yf qP O)<|Vg (ew 0 ah O O<|x)<|Vg (Ym O)<|Vg (Yo hE O O Q (by omega))<|Vg (Yf sp O)<|Vg (ew 0 ah O O<|n 0 _ O) ?_;refine Vg (Ym O)<|Vg (ha O O) ?_;exact Gt 10 O O O
  refine ab O ?_;apply Lo 7 O O O O Y O O O O O
  ·intro R;have A:k+1+i<cur.length:=by simp at R;omega
   obtain ⟨b,B⟩:∃b,mk[k+1+i]? = aa b:=⟨_,cy (by omega)⟩;obtain ⟨S,T,U,p⟩:=G.ct _ _ B;have p:vc a S (T+(k+1+i)*1)=aa (bW<|mk[k+1+i]?.getD ad):=by rw [B];exact p
   refine Vg (Ym O)<|Vg (bS O)<|Vg (Yf YG O)<|Vg (ew 0 ah O O<|E)<|Vg (Ym O)<|Vg (Yo xp O O U (by omega))<|Vg (ew 0 ah O O<|p) ?_;exact Gt 7 O O O
  refine ag<|Cc O (λc=>?_)<|λc=>?_
  ·rw [PQ] at c;have q:pq mk cur (k+1+i) (os[i]?.getD 0)=aq:=by rw [l];simpa using c
   refine ak<|au O<|ag<|bu<|aU<|Er<|Er<|aU<|Er ?_;refine R1 O O λf r=>⟨by rw [YE z q],r.fr⟩
  rw [PQ] at c;have q:pq mk cur (k+1+i) (os[i]?.getD 0)=ad:=by rw [l];simpa using c
  refine Ck<|Eb<|Et<|Cr<|V0 (Yi O O O (by omega))<|ab O<|Ln ?_;exact Ea (i+1) (by omega) ⟨by omega,λj C=>by rcases oq.1 C with h | rfl;exact y j h;exact q⟩ (sc rfl<|sc rfl<|sc rfl<|sc rfl<|sc rfl sn)<|λ_ h=>h
 have af:¬i<os.length:=by simpa using g
 refine Ce<|Ex<|Ex<|ee<|Et<|ak<|au O<|ag<|bu ?_;refine R1 O O λf r=>⟨by rw [YF λj C=>y j (by omega)],r.fr⟩
def AY (g f:Z) (l m:aA a6) (n cc o:Z) (data:ac) (p q:View) (code cur:I ce) (mk:I aS) (k:Z) (w:aP) (z:Sl qN 3 p l n code) (A:cur.length=code.length) (B:mk.length=code.length) (C:Sl rdBool 1 q m o mk) (D:k<code.length) (E:code.length<=cc) (F:cc<=9223372036854775807) (c:Z) (x:ce) (u:1<=c) (G:k+c<=code.length) (H:code.length<=2048) (r:Ws w [g,f] [aQ g<|aY #[aE l code.length n,am an data,aE (aa ⟨f,0,ao⟩) code.length cc,aE m code.length o] 157 (0,0),eV 62 3 (aE (aa ⟨f,0,ao⟩) code.length cc) code.length<|(cur).flatMap ce.cells] [p,q] w) : cx aC 147 #[b8 (aa ⟨g,0,ao⟩),am an (k:ac),am an (c:ac),b0 #[am an x.op,am an x.a,am an x.b]] w λe t=>e = cf (cO #[])/\Ws w [g,f] [aQ g<|aY #[aE l code.length n,am an data,aE (aa ⟨f,0,ao⟩) code.length cc,aE m code.length o] 157 (0,0),eV 62 3 (aE (aa ⟨f,0,ao⟩) code.length cc) code.length<|(hS cur k c x).flatMap ce.cells] [p,q] t:=by
 refine enter func147 O 34 O O<|CE r<|ak ?_;refine WL.box Y O O λv=>ag<|Cs<|ak<|ab O<|V0 (No (a:=c) (b:=1) O O O O u ai)<|ab O<|ag<|Cb ?_;refine f_ (ι:=Z) (λi=>[(11,am an (i:ac))]) [(0,_),(1,_),(2,_),(7,_),(10,_)] (λi=>Ws w [g,f] (aQ v (aY (aR.agg #[am an x.op,am an x.a,am an x.b]).cells 62 (0,0))::[aQ g<|aY #[aE l code.length n,am an data,aE (aa ⟨f,0,ao⟩) code.length cc,aE m code.length o] 157 (0,0),eV 62 3 (aE (aa ⟨f,0,ao⟩) code.length cc) code.length<|(v7 cur k i).flatMap ce.cells]) [p,q]) (λi=>i<=c-1) (λi=>c-1-i) 0 (dw _) a' λi hi=>ak<|V0 (c8 O O)<|ag<|Cs ?_;refine Cc O (λs=>?_)<|λs=>?_
 ·have J:i<c-1:=by simp at s;omega
  have j:(v7 cur k i)[k+i]? = aa (aG (v7 cur k i)<|k+i):=oK (by rw [Gh];omega);refine ay<|Cs<|Cb<|ak<|ab O<|au O<|ag<|Cr<|ab O<|V0 (bS O)<|V0 (Yf qP O)<|V0 (Yd 1 O O O ah) ?_;refine ab O<|ab O<|V0 (o7 O O O O ai)<|V0 (Yb iq i6 O O)<|V0 (qu hE O O ai) ?_;refine WL.Iu 2 _ Y O O O yT O O (PM j) (PN j 21 0 0)<|Ln<|Eb<|Et<|Cr<|V0 (Yi O O O ai)<|ab O<|Ln ?_;exact ep (i+1) ai ai a'
 have y:i=c-1:=by simp at s;omega
 subst y;have j:(v7 cur k<|c-1)[k+c-1]? = aa (aG (v7 cur k<|c-1)<|k+c-1):=oK (by rw [Gh];omega);refine Ce<|Ex<|Ex<|ee<|Et ?_;refine WC.nS 2 [(0,ad),(1,ad),(2,ad),(3,ad),(4,ad),(5,ad),(6,ad),(7,ad),(8,ad),(9,ad),(10,aq)] mixed ah (λ_ _ _ d _ h=>by cases d<;>exact h)<|D0 O (Wp 2) (Ym O)<|D0 O (Wp 2) (bS O)<|D0 O (Wp 2) (Yf qP O)<|D0 O (Wp 2) (Yd 1 O O O ah)<|D0 O (Wp 2) (Ym O)<|D0 O (Wp 2) (Ym O)<|D0 O (Wp 2) (o7 O O O O ai)<|D0 O (Wp 2) (No (a:=k+c) (b:=1) O O O O ai ai) ?_;refine D0 O (Wp 2) (dW 0 O O xk O)<|D0 O (Wp 2) (qu hE O O ai) ?_;refine De O (Wp 2)<|WL.Iu 2 _ Y O O O yT O O (PM j) (PN j x.op x.a x.b)<|Ln<|Ed ?_;refine WD.nil (Wp 2)<|E0 O λt r=>⟨O,Wd 1 r⟩
end Go.Proofs.YtgeahfjicmlocaaGreatDoor.Mch
end
section
namespace Go.Proofs.YtgeahfjicmlocaaGreatDoor.Mch
open Go.Bw Go.Proofs.Tryz
def sw (mk:I aS) (code cur:I ce) (k:Z):I ce:= if ((aG cur k).op==11||(aG cur k).op==12)=ad then xq code cur k else if ((aG cur k).op==1)=ad then qd mk cur k else cur
def lZ (mk:I aS) (code:I ce):Z->I ce| 0=>code| i+1=>sw mk code (lZ mk code i) i
def YH (mk:I aS) (code cur:I ce) (k:Z):(sw mk code cur k).length=cur.length:=by
 unfold sw;repeat' split
 all_goals simp only [YD,PP]
def ja (mk:I aS) (code:I ce):∀i,(lZ mk code i).length=code.length| 0=>rfl| i+1=>by rw [lZ,YH,ja mk code i]
def n9 (code:I ce):I ce:=lZ (marks code) code code.length
def hd (code:I ce) (data:ac):I ce×ac×ac:=if h1 code data=0 then (n9 code,data,0) else ([],0,h1 code data)
def eM:zeroOf aC 57=aa (b0 #[aE ao 0 0,am an 0]):=ah
def xr:hW aC 57=aa [(0,1),(1,1)]:=ah
def sx:e2 aC 57=aa 2:=ah
def YI:hW aC 157=aa [(0,2),(2,1),(3,1)]:=ah
def YJ:zeroOf aC 157=aa (b0 #[aE ao 0 0,am an 0,aE ao 0 0,aE ao 0 0]):=ah
def PT (l o:Z) (z A:aA a6) (B cc m:Z) (data:ac) (n g:View) (code cur:I ce) (mk:I aS) (k:Z) (w:aP) (F:Sl qN 3 n z B code) (p:cur.length=code.length) (q:mk.length=code.length) (r:Sl rdBool 1 g A m mk) (s:k<code.length) (G:code.length<=cc) (t:cc<=9223372036854775807) (u:code.length<=2048) (c:Ws w [l,o] [aQ l<|aY #[aE z code.length B,am an data,aE (aa ⟨o,0,ao⟩) code.length cc,aE A code.length m] 157 (0,0),eV 62 3 (aE (aa ⟨o,0,ao⟩) code.length cc) code.length<|(cur).flatMap ce.cells] [n,g] w) : cx aC 80 #[b8 (aa ⟨l,0,ao⟩),am an (k:ac)] w λe v=>e = cf (cO #[])/\Ws w [l,o] [aQ l<|aY #[aE z code.length B,am an data,aE (aa ⟨o,0,ao⟩) code.length cc,aE A code.length m] 157 (0,0),eV 62 3 (aE (aa ⟨o,0,ao⟩) code.length cc) code.length<|(qd mk cur k).flatMap ce.cells] [n,g] v:=by
 have N:cur[k]? = aa (aG cur k):=oK ai;refine enter func80 O 111 O O<|CE c<|ak<|ab O<|V0 (bS O)<|V0 (Yf qP O)<|V0 (Yd 0 O O O ah)<|ab O<|V0 (qu hE O O ai) ?_;refine V0 (Yf kN O)<|V0 (z' 1 O O ah<|C5 N)<|au O<|ag<|ak<|au O<|ag<|Cs<|ak<|ab O<|ab O ?_;refine Lb Y O gn O O O O λR=>Lp Y O bp O (λw c=>AX (hv w) l code.length _ _ _ cc m 2 cur mk [1,10] k w (kZ w) p u (c.jH 1 O O) (c.jH 1 O O) (AU c 2 O ai t) (r.mono λ_ _ _ h=>(o5<|c.vs g aK).cell h) q (AV c 0 O a8 a8 (by intro j x f;match j,f with| 0,f=>cases f;rfl| 1,f=>cases f;rfl)) a8 s)<|ag ?_;refine Cc O (λy=>?_)<|λy=>?_
 ·have J:=AW y (i:=1) a8;have L:cur[k+1]? = aa (aG cur<|k+1):=oK ai;have P:cur[k+2]? = aa (aG cur<|k+2):=oK ai;refine Cs<|Cs ?_;refine WC.o6 [(0,ad),(1,ad),(2,ad),(3,ad),(4,ad),(5,ad),(6,ad),(7,ad),(8,ad),(9,ad),(10,ad),(11,ad),(12,ad),(13,ad),(14,ad),(15,ad),(16,ad),(17,ad),(18,ad),(19,aq),(20,ad),(21,ad),(22,ad),(23,ad),(24,ad)] mixed ah (λ_ _ _ d _ h=>by cases d<;>exact h)<|D0 O a' (Ym O)<|D0 O a' (bS O)<|D0 O a' (Yf qP O)<|D0 O a' (Yd 1 O O O ah)<|D0 O a' (Ym O)<|D0 O a' (o7 (a:=k) (b:=2) O O O O ai)<|D0 O a' (qu hE O O ai)<|D0 O a' (Yf kN O) ?_;refine D0 O a' (z' 2 O O ah<|C5 P)<|D0 O a' (Ym O)<|D0 O a' (Ym O)<|D0 O a' (bS O)<|D0 O a' (Yf qP O)<|D0 O a' (Yd 1 O O O ah)<|D0 O a' (Ym O)<|D0 O a' (Yi O O O ai) ?_;refine D0 O a' (qu hE O O ai)<|D0 O a' (Yf kN O)<|D0 O a' (z' 2 O O ah<|C5 L) ?_;refine De O a'<|Lp Y O bp O (λw c=>Py _ _ _ w)<|Ln<|Ed<|D0 O a' (Ym O)<|D0 O a' (Yx O O)<|D0 O a' (Yx O O)<|D0 O a' (Ya O)<|D0 O a' (Ya O) ?_;refine WD.nil a'<|Et<|ak<|ab O<|ag ?_;refine Cc O (λM=>?_)<|λM=>?_;·refine Cr<|ab O<|ab O<|ab O<|ab O ?_;refine WL.vy Y O bp O O (λw c=>J6 _ _)<|Lf 2 O<|Lf 2 O<|uj [_,_] _ [_,_] Y O bp O O [n,g] aK (λw c=>AY l o z A B cc m data n g code cur mk k w F p q r s G t 3 ⟨1,(iV (aG cur<|k+2).a (aG cur k).a (aG cur<|k+1).a).1,0⟩ a8 ai u c)<|ag<|bu<|Er ?_;refine WE.z3 O λv c=>⟨O,?_⟩;simp only [qd,y,M,en,dF,dD];exact Wt 2 c
  refine ay<|bu<|Er ?_;refine WE.z3 O λv c=>⟨O,?_⟩;simp only [qd,y,M,en,dF,dD];exact Wd 1 c
 refine ay<|Cb<|ak<|ab O<|ab O ?_;refine Lb Y O gn O O O O λS=>Lp Y O bp O (λw c=>AX (hv w) l code.length _ _ _ cc m 1 cur mk [12] k w (kZ w) p u (c.jH 2 O O) (c.jH 2 O O) (AU c 3 O ai t) (r.mono λ_ _ _ h=>(o5<|c.vs g aK).cell h) q (AV c 0 O a8 a8 (by intro j x f;match j,f with| 0,f=>cases f;rfl)) a8 s)<|ab O ?_;apply La 2 O O O O Y O O O O O;·intro T;refine Vg (Ym O)<|Vg (bY O O) ?_;exact Gt 2 O O O
 refine au O<|ag ?_;refine Cc O (λC=>?_)<|λC=>?_;·have Q:=(bool_split C).1;have J:=AW Q (i:=0) a8;have L:cur[k+1]? = aa (aG cur<|k+1):=oK ai;refine Cr<|ab O<|ab O<|ab O<|V0 (bS O)<|V0 (Yf qP O)<|V0 (Yd 2 O O O ah)<|ab O ?_;refine V0 (Yi O O O ai)<|V0 (qu hE O O ai)<|V0 (Yf kN O)<|V0 (z' 3 O O ah<|C5 L)<|V0 (Yb iq i6 O O)<|Lf 3 O<|Lf 3 O<|uj [_,_] _ [_,_] Y O bp O O [n,g] aK (λw c=>AY l o z A B cc m data n g code cur mk k w F p q r s G t 2 ⟨11,(aG cur<|k+1).a,0⟩ a8 ai u c) ?_;refine Ln<|Eb ?_;refine E0 O λv c=>⟨O,?_⟩;simp only [qd,y,C,en,dF,dD];exact Wt 2 c
 refine ak<|ab O<|ab O ?_;refine Lb Y O gn O O O O λU=>Lp Y O bp O (λw c=>AX (hv w) l code.length _ _ _ cc m 1 cur mk [9] k w (kZ w) p u (c.jH 3 O O) (c.jH 3 O O) (AU c 4 O ai t) (r.mono λ_ _ _ h=>(o5<|c.vs g aK).cell h) q (AV c 0 O a8 a8 (by intro j x f;match j,f with| 0,f=>cases f;rfl)) a8 s)<|au O<|ag ?_;refine Cc O (λE=>?_)<|λE=>?_;·have J:=AW E (i:=0) a8;refine Cr<|ab O<|ab O<|ab O<|ab O<|V0 (bY O O)<|Lp Y O bp O (λw c=>PK _ w) ?_;refine WL.vy Y O bp O O (λw c=>J6 _ _)<|Lf 4 O<|Lf 4 O<|uj [_,_] _ [_,_] Y O bp O O [n,g] aK (λw c=>AY l o z A B cc m data n g code cur mk k w F p q r s G t 2 ⟨1,iC<|(aG cur k).a==0,0⟩ a8 ai u c)<|Ln<|Eb ?_;refine E0 O λv c=>⟨O,?_⟩;simp only [qd,y,C,E,en,dF,dD];exact Wt 2 c
 refine ak<|ab O<|ab O ?_;refine Lb Y O gn O O O O λV=>Lp Y O bp O (λw c=>AX (hv w) l code.length _ _ _ cc m 1 cur mk [22] k w (kZ w) p u (c.jH 4 O O) (c.jH 4 O O) (AU c 5 O ai t) (r.mono λ_ _ _ h=>(o5<|c.vs g aK).cell h) q (AV c 0 O a8 a8 (by intro j x f;match j,f with| 0,f=>cases f;rfl)) a8 s)<|au O<|ag ?_;refine Cc O (λH=>?_)<|λH=>?_;·have J:=AW H (i:=0) a8;refine Cr<|ab O<|ab O<|ab O<|ab O<|V0 (ha O O)<|Lp Y O bp O (λw c=>PK _ w) ?_;refine WL.vy Y O bp O O (λw c=>J6 _ _)<|Lf 5 O<|Lf 5 O<|uj [_,_] _ [_,_] Y O bp O O [n,g] aK (λw c=>AY l o z A B cc m data n g code cur mk k w F p q r s G t 2 ⟨1,iC<|(aG cur k).a != 0,0⟩ a8 ai u c)<|Ln<|Eb ?_;refine E0 O λv c=>⟨O,?_⟩;simp only [qd,y,C,E,H,en,dF,dD];exact Wt 2 c
 refine Cs<|ak<|ab O<|ab O ?_;refine Lb Y O gn O O O O λW=>Lp Y O bp O (λw c=>AX (hv w) l code.length _ _ _ cc m 1 cur mk [12] k w (kZ w) p u (c.jH 5 O O) (c.jH 5 O O) (AU c 6 O ai t) (r.mono λ_ _ _ h=>(o5<|c.vs g aK).cell h) q (AV c 0 O a8 a8 (by intro j x f;match j,f with| 0,f=>cases f;rfl)) a8 s)<|au O<|ag ?_;refine Cc O (λK=>?_)<|λK=>?_
 ·refine ay<|Cc O (λD=>?_)<|λD=>?_
  ·have J:=AW D (i:=0) a8;refine Cr<|ab O<|ab O<|V0 (Yb iq i6 O O)<|Lf 6 O<|Lf 6 O<|uj [_,_] _ [_,_] Y O bp O O [n,g] aK (λw c=>AY l o z A B cc m data n g code cur mk k w F p q r s G t 2 ⟨21,0,0⟩ a8 ai u c)<|Ln<|Eb ?_;refine E0 O λv c=>?_;have e:(iW mk cur k [12]||iW mk cur k [17])=ad:=by simp [K]
   refine ⟨O,?_⟩;simp only [qd,y,C,E,H,e,en,dF,dD];exact Wt 2 c
  refine Ck<|Eb ?_;refine E0 O λv c=>?_;simp [K] at D
 refine Cr<|ab O<|ab O ?_;refine Lb Y O gn O O O O λX=>Lp Y O bp O (λw c=>AX (hv w) l code.length _ _ _ cc m 1 cur mk [17] k w (kZ w) p u (c.jH 6 O O) (c.jH 6 O O) (AU c 7 O ai t) (r.mono λ_ _ _ h=>(o5<|c.vs g aK).cell h) q (AV c 0 O a8 a8 (by intro j x f;match j,f with| 0,f=>cases f;rfl)) a8 s)<|au O<|ag ?_;refine Cc O (λD=>?_)<|λD=>?_
 ·have J:=AW D (i:=0) a8;refine Cr<|ab O<|ab O<|V0 (Yb iq i6 O O)<|Lf 7 O<|Lf 7 O<|uj [_,_] _ [_,_] Y O bp O O [n,g] aK (λw c=>AY l o z A B cc m data n g code cur mk k w F p q r s G t 2 ⟨21,0,0⟩ a8 ai u c)<|Ln<|Eb ?_;refine E0 O λv c=>?_;have e:(iW mk cur k [12]||iW mk cur k [17])=ad:=by simp [D]
  refine ⟨O,?_⟩;simp only [qd,y,C,E,H,e,en,dF,dD];exact Wt 2 c
 refine Ck<|Eb ?_;refine E0 O λv c=>?_;have e:(iW mk cur k [12]||iW mk cur k [17])=aq:=by simp [K,D]
 refine ⟨O,?_⟩;simp only [qd,y,C,E,H,e,en,dF,dD];exact Wd 6 c
def YK (f:View) (a:aA a6) (c:Z) (code:I ce) (data:ac) (w:aP) (F:Le f w) (m:Sl qN 3 f a c code) : cx aC 19 #[b0 #[aE a code.length c,am an data]] w λe y=>∃r:aA a6×Z,e = cf (cO #[b0 #[aE r.1 (hd code data).1.length r.2,am an (hd code data).2.1],am an (hd code data).2.2])/\Ext w y/\Sl qN 3 (nv w y) r.1 r.2 (hd code data).1:=by
 have N:=m.cap;have P:=m.max;refine enter func19 O 59 O O<|CE (Vs:=[f]) (Ws.init (by simp [F]))<|ak ?_;refine WL.box Y O O λG=>Al Y O eM λH=>au O<|ag<|ak<|V0 (dW 1 O O pn O) ?_;refine Ld Y O bp O (λr:aA a6×Z=>cO #[aE r.1 (pp code data).1.length r.2,am an (pp code data).2]) (λf r=>Sl rdBool 1 f r.1 r.2 (pp code data).1) (λw g=>ah2 f a c code data w (g.vs _ (by simp)) m) λl k Q s=>ab O<|V0 (Yx O O)<|V0 (Yx O O)<|au O<|au O<|ag<|Cs<|ak<|ab O<|V0 (ha O O) ?_;refine ag<|Cc O (λB=>?_)<|λB=>?_
 ·have p:¬h1 code data=0:=λh=>by simp [pp,h] at B
  have z:pp code data=([],h1 code data):=by simp [pp,p]
  have C:hd code data=([],0,h1 code data):=by simp [hd,p]
  rw [z];refine ak<|V0 (Yb eM xr O O)<|ab O<|aw 0 Y O O O sx O O O<|au O<|ag<|bu<|Er ?_;refine WE.uh 0 O O O O pn O λy g=>?_;rw [C];exact ⟨(ao,0),O,g.fr,Sl.nil⟩
 have p:h1 code data=0:=by
  by_cases h:h1 code data=0;·exact h
  ·simp [pp,h] at B
 have z:pp code data=(marks code,0):=by simp [pp,p]
 have C:hd code data=(n9 code,data,0):=by simp [hd,p]
 obtain ⟨R,E⟩:=J4 p;have t:(marks code).length=code.length:=iY _ _ _;rw [z] at s;rw [z];simp only [t];refine ay<|Cs ?_;refine WC.o6 [(0,ad),(1,ad),(2,ad),(4,ad),(3,aq),(5,ad),(6,aq),(7,ad)] mixed (by kernel_rfl) (λ_ _ _ d _ h=>by cases d<;>exact h)<|D0 O (λ_ h=>h) (dW 1 O O pn O)<|D0 O (λ_ h=>h) (Yf nf O)<|D0 O (λ_ h=>h) (Yd 1 O O O ah)<|D0 O (λ_ h=>h) (Ym O) ?_;refine De O (λ_ h=>h)<|WL.VB Y O bp O (λw g=>Yy f a c code w (g.vs f (by simp)) m (by omega) (by omega)) ?_;intro J K;obtain ⟨n,cc,rfl,A,q⟩:∃b c,J = aE (aa ⟨b,0,ao⟩) code.length c/\code.length<=c/\c<=maxLen:=by
  rcases K with ⟨_,h⟩ | h;·omega
  ·exact h
 have q:cc<=9223372036854775807:=by unfold maxLen at q;omega
 refine Ln<|Ed<|D0 O (λ_ h=>(Wd 1 h:)) (Yb YJ YI O O) ?_;refine De O (λ_ h=>(Wd 1 h:))<|WL.box Y O O λu=>Ln<|Ed<|D0 O (λ_ h=>(Wd 2 h:)) (Ya O) ?_;refine WD.nil (λ_ h=>(Wd 2 h:))<|Et<|Cs<|ak<|ab O<|V0 (bS O)<|V0 (Yf qP O)<|V0 (Yd 0 O O O ah)<|V0 (Yn hE O)<|ab O<|ag<|Cb ?_;refine nQ (ι:=Z) (λi=>[(29,am an (i:ac))]) [(1,_),(2,_),(3,_),(6,_),(28,_)] (λi=>Ws w [] [aQ u<|aY (aR.agg #[aE a code.length c,am an data,aE (aa ⟨n,0,ao⟩) code.length cc,aE k.1 code.length k.2]).cells 157 (0,0),eV 62 3 (aE (aa ⟨n,0,ao⟩) code.length cc) code.length<|(lZ (marks code) code i).flatMap ce.cells,aQ H<|aY (aR.agg #[aE ao 0 0,am an 0]).cells 57 (0,0),aQ G<|aY (aR.agg #[aE a code.length c,am an data]).cells 57 (0,0)] [l,f]) (λi=>i<=code.length) (λi=>code.length-i) 0 (dw _) (sc O<|sc O<|sc O<|sc O<|sc O<|sc O sn) (λ_ h=>h) λi hi=>ak<|V0 (c8 O O)<|ag<|Cs ?_;refine Cc O (λD=>?_)<|λD=>?_
 ·have v:i<code.length:=by simpa using D
  have L:(lZ (marks code) code i)[i]? = aa (aG (lZ (marks code) code i) i):=oK (by rw [ja];exact v);refine ay<|Cs<|Cb<|ak<|ab O<|au O<|ag<|ak<|ab O<|V0 (bS O)<|V0 (Yf qP O)<|V0 (Yd 0 O O O ah) ?_;refine ab O<|V0 (qu hE O O (by omega))<|V0 (Yf sp O)<|V0 (z' 1 O O ah<|Yz L)<|ag<|Cb<|Cs<|ak<|V0 (bY O O)<|au O<|ag ?_;refine Cc O (λo=>?_)<|λo=>?_
  ·refine ay<|Cc O (λj=>?_)<|λj=>?_;·refine Cr<|ab O<|ab O<|uj [_,_] _ [_,_] Y O bp O O [f,l] (by simp) (λw g=>PS u n a k.1 c cc k.2 data f l code (lZ (marks code) code i) (marks code) i w m (ja _ _ _) t s v A q g)<|Ln<|Eb<|Eb<|Et<|Cr<|V0 (Yi O O O (by omega))<|ab O<|Ln ?_;exact Ea (i+1) (by omega) (by omega) (sc O<|sc O<|sc O<|sc O<|sc O<|sc O sn) (λ_ h=>by have e:lZ (marks code) code (i+1)=sw (marks code) code (lZ (marks code) code i) i:=rfl;rw [e];simp only [sw,o,j,s5,BW,tv,zT,EG,en,dD,dF];exact h)
   refine ak<|V0 (bY O O)<|au O<|ag ?_;refine Cc O (λx=>?_)<|λx=>?_;·refine Cr<|ab O<|ab O<|uj [_,_] _ [_,_] Y O bp O O [f,l] (by simp) (λw g=>PT u n a k.1 c cc k.2 data f l code (lZ (marks code) code i) (marks code) i w m (ja _ _ _) t s v A q E g)<|Ln<|Eb<|Eb<|Et<|Cr<|V0 (Yi O O O (by omega))<|ab O<|Ln ?_;exact Ea (i+1) (by omega) (by omega) (sc O<|sc O<|sc O<|sc O<|sc O<|sc O sn) (by rw [o] at j;cases j)
   refine Ck<|Eb<|Eb<|Et<|Cr<|V0 (Yi O O O (by omega))<|ab O<|Ln ?_;exact Ea (i+1) (by omega) (by omega) (sc O<|sc O<|sc O<|sc O<|sc O<|sc O sn) (by rw [o] at j;cases j)
  refine Cr<|V0 (bY O O)<|au O<|ag ?_;refine Cc O (λj=>?_)<|λj=>?_;·refine Cr<|ab O<|ab O<|uj [_,_] _ [_,_] Y O bp O O [f,l] (by simp) (λw g=>PS u n a k.1 c cc k.2 data f l code (lZ (marks code) code i) (marks code) i w m (ja _ _ _) t s v A q g)<|Ln<|Eb<|Eb<|Et<|Cr<|V0 (Yi O O O (by omega))<|ab O<|Ln ?_;exact Ea (i+1) (by omega) (by omega) (sc O<|sc O<|sc O<|sc O<|sc O<|sc O sn) (λ_ h=>by have e:lZ (marks code) code (i+1)=sw (marks code) code (lZ (marks code) code i) i:=rfl;rw [e];simp only [sw,o,j,s5,BW,tv,zT,EG,en,dD,dF];exact h)
  refine ak<|V0 (bY O O)<|au O<|ag ?_;refine Cc O (λx=>?_)<|λx=>?_;·refine Cr<|ab O<|ab O<|uj [_,_] _ [_,_] Y O bp O O [f,l] (by simp) (λw g=>PT u n a k.1 c cc k.2 data f l code (lZ (marks code) code i) (marks code) i w m (ja _ _ _) t s v A q E g)<|Ln<|Eb<|Eb<|Et<|Cr<|V0 (Yi O O O (by omega))<|ab O<|Ln ?_;exact Ea (i+1) (by omega) (by omega) (sc O<|sc O<|sc O<|sc O<|sc O<|sc O sn) (λ_ h=>by have e:lZ (marks code) code (i+1)=sw (marks code) code (lZ (marks code) code i) i:=rfl;rw [e];simp only [sw,o,j,x,s5,BW,tv,zT,EG,en,dD,dF];exact h)
  refine Ck<|Eb<|Eb<|Et<|Cr<|V0 (Yi O O O (by omega))<|ab O<|Ln ?_;exact Ea (i+1) (by omega) (by omega) (sc O<|sc O<|sc O<|sc O<|sc O<|sc O sn) (λ_ h=>by have e:lZ (marks code) code (i+1)=sw (marks code) code (lZ (marks code) code i) i:=rfl;rw [e];simp only [sw,o,j,x,s5,BW,tv,zT,EG,en,dD,dF];exact h)
 have M:i=code.length:=by simp at D;omega
 subst M;refine Ce<|Ex<|Ex<|ee<|Et<|Cs ?_;refine WC.nS 2 [(0,ad),(1,ad),(2,ad),(3,ad),(4,ad),(5,ad),(6,ad),(7,aq),(8,aq)] mixed (by kernel_rfl) (λ_ _ _ d _ h=>by cases d<;>exact h)<|D0 O (Wp 2) (Ym O)<|D0 O (Wp 2) (bS O)<|D0 O (Wp 2) (Yf qP O)<|D0 O (Wp 2) (Yd 0 O O O ah)<|D0 O (Wp 2) (Yf CR O)<|D0 O (Wp 2) (Yd 2 O O O ah)<|D0 O (Wp 2) (Yb eM xr O O) ?_;refine De O (Wp 2)<|aw 2 Y O O O sx O O O<|Ln<|Ed ?_;refine De O (Wp 2)<|au O<|Ln<|Ed ?_;refine WD.nil (Wp 2)<|Et<|bu ?_;refine WE.uh 2 O O O O pn O λy g=>?_;rw [C];exact ⟨(aa ⟨n,0,ao⟩,cc),by simp [n9,ja];rfl,g.fr,YC g 1 O<|ja _ _ _⟩
end Go.Proofs.YtgeahfjicmlocaaGreatDoor.Mch
end
section
namespace Go.Proofs.YtgeahfjicmlocaaGreatDoor.Mch
open Go.Bw Go.Proofs.Tryz
def C6:e2 aC 55=aa 1:=ah
end Go.Proofs.YtgeahfjicmlocaaGreatDoor.Mch
end
section
namespace Go.Bw
open Go
structure AZ where
 w:Wm
 fin:ac
 i:aA a6×Z
 o:aA a6×Z
def mQ {α:Type} (r:Rz Wm α) (v:α) (t:AZ):Prop:=(t.fin=0/\r = .ok v t.w)\/(t.fin≠0/\∃c,r = .ov t.fin { t.w with calls:=c })
def YL {α:Type} (s:AZ) (r:Rz Wm α) (v:α) (t:AZ):Prop:=(s.fin≠0/\t=s)\/(s.fin=0/\mQ r v t)
variable {aB:Type} {pr:Rz Wm aB} {h8:aB} {v4:AZ}
def mQ.ok (a:v4.fin=0) (h:pr = .ok h8 v4.w):mQ pr h8 v4:=bB ⟨a,h⟩
def mQ.ov {α:Type} {r:Rz Wm α} {v:α}  {c:Z} (a:v4.fin≠0) (h:r = .ov v4.fin { v4.w with calls:=c }):mQ r v v4:=be ⟨a,c,h⟩
def mQ.get (h:mQ pr h8 v4) (a:v4.fin=0):pr = .ok h8 v4.w:=by
 rcases h with ⟨_,h⟩ | ⟨h,_⟩;·exact h
 ·exact absurd a h
variable {qe:Type}
def mQ.out (h:mQ pr h8 v4) (a:v4.fin≠0) (f:aB->Wm->Rz Wm qe) (b:qe):mQ (pr.bind f) b v4:=by
 rcases h with ⟨h,_⟩ | ⟨_,c,h⟩;·exact absurd h a
 ·exact be ⟨a,c,kk h⟩
def mQ.same {v b:aB}  (h:mQ pr v v4) (a:v4.fin≠0):mQ pr b v4:=by
 rcases h with ⟨h,_⟩ | ⟨_,h⟩;·exact absurd h a
 ·exact be ⟨a,h⟩
def mQ.then {t c:AZ} {f:aB->Wm->Rz Wm qe} {b:qe} (h:mQ pr h8 t) (k:YL t (f h8 t.w) b c):mQ (pr.bind f) b c:=by
 rcases k with ⟨a,rfl⟩ | ⟨a,d⟩;·exact h.out a f b
 ·rw [gX<|h.get a];exact d
def mQ.map {r:Rz Wm aB} {v:aB}  (f:aB->qe) (h:mQ r v v4):mQ (r.bind λv w=>.ok (f v) w) (f v) v4:=by
 rcases h with ⟨a,h⟩ | ⟨a,c,h⟩;·exact bB ⟨a,gX h⟩
 ·exact be ⟨a,c,kk h⟩
def YM (r:Rz Fm aS) (d:aS) (loc:I ac) (v:ac) (t:AZ):Prop:=(t.fin=0/\r = .ok d ⟨loc,v,t.w⟩)\/(t.fin≠0/\∃c,r = .ov t.fin { t.w with calls:=c })
def mQ.fr {loc:I ac} {v:ac} {w:Wm} {f:aB->Fm->Rz Fm aS} {d:aS} {b:I ac} {v2:ac} (h:mQ pr h8 v4) (a:v4.fin≠0):YM ((Rz.fr ⟨loc,v,w⟩ pr).bind f) d b v2 v4:=by
 rcases h with ⟨h,_⟩ | ⟨_,c,h⟩;·exact absurd h a
 ·exact be ⟨a,c,kk<|tx h⟩
end Go.Bw
end
section
namespace Go.Bw
open Go
structure uO (ks PU:I e7):Prop where
 d:∀m pl n,ls ks m pl n=ad->ls PU m pl n=ad
 p:∀m pl n,k4 ks m pl n=ad->k4 PU m pl n=ad
variable {kM mR:I e7} {az b' j1 bV iQ:ac} {bE:Z}
def YN (h:uO kM mR)   (c:node1 kM az b' j1 bV iQ bE=ad):node1 mR az b' j1 bV iQ bE=ad:=by
 unfold node1 at c ⊢;by_cases e:b'=1;·rw [aD e] at c ⊢;exact c
 rw [aj e] at c ⊢;by_cases f:b'=3;·rw [aD f] at c ⊢;obtain ⟨a,b⟩:=bz.1 c;exact bz.2 ⟨a,h.d _ _ _ b⟩
 rw [aj f] at c ⊢;by_cases g:b'=4;·rw [aD g] at c ⊢;obtain ⟨a,b⟩:=bz.1 c;exact bz.2 ⟨a,h.d _ _ _ b⟩
 rw [aj g] at c ⊢;by_cases i:b'=5;·rw [aD i] at c ⊢;obtain ⟨a,b⟩:=bz.1 c;exact bz.2 ⟨a,h.p _ _ _ b⟩
 rw [aj i] at c ⊢;exact c
def YO (h:uO kM mR)  {na e f:Z} (c:gC kM az b' j1 bV iQ na e f=ad):gC mR az b' j1 bV iQ na e f=ad:=by
 unfold gC at c ⊢;by_cases g:b'=1;·rw [aD g] at c ⊢;obtain ⟨a,b⟩:=bz.1 c;exact bz.2 ⟨a,H6.2<|(H6.1 b).imp id<|h.d _ _ _⟩
 rw [aj g] at c ⊢;by_cases i:b'=2;·rw [aD i] at c ⊢;obtain ⟨a,b⟩:=bz.1 c;exact bz.2 ⟨a,h.d _ _ _ b⟩
 rw [aj i] at c ⊢;by_cases j:b'=3;·rw [aD j] at c ⊢;obtain ⟨a,b⟩:=bz.1 c;exact bz.2 ⟨a,h.p _ _ _ b⟩
 rw [aj j] at c ⊢;exact c
mutual
def YP (h:uO kM mR) (aX:ac):∀(x:eC) (d:Z),k5 kM aX x d=ad->k5 mR aX x d=ad| .mk op n m pl args,d,a=>by rw [k5] at a ⊢;simp only [eI] at a ⊢;exact ⟨a.1,YN h a.2.1,J7 h aX args (d+1) a.2.2⟩
def J7 (h:uO kM mR) (aX:ac):∀(l:I eC) (d:Z),hZ kM aX l d=ad->hZ mR aX l d=ad| [],d,_=>by rw [hZ]| x::r,d,a=>by rw [hZ] at a ⊢;simp only [eI] at a ⊢;exact ⟨YP h aX x d a.1,J7 h aX r d a.2⟩
end
mutual
def YQ (h:uO kM mR) (aX:ac):∀(x:et) (d:Z),lR kM aX x d=ad->lR mR aX x d=ad| .mk op n m pl args body other,d,b=>by rw [lR] at b ⊢;simp only [eI,zS] at b ⊢;exact ⟨YO h b.1,J7 h aX args 1 b.2.1,b.2.2.1.imp id λa=>⟨a.1,a.2.1,vD h aX body (d+1) a.2.2⟩,b.2.2.2.imp id λa=>⟨a.1,a.2.1,vD h aX other (d+1) a.2.2⟩⟩
def vD (h:uO kM mR) (aX:ac):∀(l:I et) (d:Z),g8 kM aX l d=ad->g8 mR aX l d=ad| [],d,_=>by rw [g8]| x::r,d,a=>by rw [g8] at a ⊢;simp only [eI] at a ⊢;exact ⟨YQ h aX x d a.1,vD h aX r d a.2⟩
end
def PV (h:uO kM mR)  {l:I et}  (a:bX kM az l bE=ad):bX mR az l bE=ad:=by unfold bX at a ⊢;simp only [eI] at a ⊢;exact ⟨a.1,a.2.1,vD h az l bE a.2.2⟩
def YR (h:uO kM mR) {p:b3} (a:nw kM p=ad):nw mR p=ad:=by unfold nw at a ⊢;simp only [eI] at a ⊢;exact ⟨a.1,PV h a.2⟩
variable {eA:aI}
def PW (h:uO (ec eA::kM)<|ec eA::mR) (a:jY eA kM=ad):jY eA mR=ad:=by unfold jY at a ⊢;simp only [eI,gA] at a ⊢;exact ⟨a.1,a.2.1,λp b=>YR h<|a.2.2.1 p b,PV h a.2.2.2⟩
def Gj (k:e7):Prop:=k.p1=ad->k.data<=512/\k.parts.length<=6/\∀x ∈ k.parts,x<=3
def JI {b:e7}  (h:∀k ∈ kM,Gj k):uO (b::kM)<|b::gb kM.length nZ:=by
 have q:(b::gb kM.length nZ).length=(b::kM).length:=aK;constructor
 ·intro m pl n a;have hC:oD (b::kM) m pl=aq:=by cases f:oD (b::kM) m pl with| false=>rfl| true=>rw [Cx n f] at a;cases a
  have d:oD (b::gb kM.length nZ) m pl=aq:=by unfold oD at hC ⊢;rw [q];exact hC
  obtain ⟨⟨g,rfl,i⟩,_,_⟩:=Cy hC;obtain ⟨k,c⟩:=bk i;rw [w9 hC c] at a;cases g with
  | zero=>
   have e:b=k:=by simpa using c
   subst e;rw [w9 d (k:=b) rfl];exact a
  | succ j=>
   rw [lh] at c;have l:j<kM.length:=(cN.1 c).1;rw [w9 d (k:=nZ) (by rw [lh,H7,aD l]),aj a8];have o:=h k<|aW c;split at a;·rename_i hi;have:=(o hi).1;have a:=vu a;rw [jG (show pl+n<=512 by omega)];simp
   ·exact a
 ·intro m pl n a;have hC:n0 (b::kM) m pl=aq:=by cases f:n0 (b::kM) m pl with| false=>rfl| true=>rw [Cz n f] at a;cases a
  have d:n0 (b::gb kM.length nZ) m pl=aq:=by unfold n0 at hC ⊢;rw [q];exact hC
  obtain ⟨⟨g,rfl,i⟩,p,rfl⟩:=CA hC;obtain ⟨k,c⟩:=bk i;rw [ux hC c] at a;cases g with
  | zero=>
   have e:b=k:=by simpa using c
   subst e;rw [ux d (k:=b) rfl];exact a
  | succ j=>
   rw [lh] at c;have l:j<kM.length:=(cN.1 c).1;rw [ux d (k:=nZ) (by rw [lh,H7,aD l]),aj a8];have o:=h k<|aW c;split at a;·rename_i hi;obtain ⟨_,t,r⟩:=o hi;simp only [eI,cw,j8,ku] at a;have s:p<k.parts.length:=ai;have r:=r _<|sD s;rw [cy s] at a;have e:=a.2;simp at e;simp only [eI,cw];omega
   ·exact a
def vE (h:jY eA kM=ad):Gj<|ec eA:=by intro _;obtain ⟨b,e,a,f⟩:=iD h;unfold p2 at a;simp only [kG,mC] at a;refine ⟨by show eA.data<=512;omega,by show (eA.parts.map (·.params)).length<=6;rw [fB];omega,λx c=>?_⟩;obtain ⟨p,d,rfl⟩:=o2.1 c;exact (yQ<|b p d).2.1
variable {df:I aI}
def PY (b:lw df) (u:aI):∀k ∈ fV df u,Gj k:=by
 intro k a;unfold fV at a;obtain ⟨s,_,rfl⟩:=o2.1 a;split;·rename_i i hi;cases c:df[i]? with| none=>intro h;cases h| some z=>exact vE<|b.oF z<|aW c
 ·intro h;cases h
def YS (h:lS df=0)  (b:eA ∈ df):ry eA=ad:=by
 have a:=uJ.1 h;have c:=a.oF eA b;have e:(fV df eA).length=eA.aN.length:=by simp [fV]
 unfold ry;rw [<-e];exact PW (JI<|PY a eA) c
end Go.Bw
end
section
namespace Go.Bw
open Go
def nh (i:cK):Prop:=1<=i.op/\i.op<=22
def PZ (U:Z) (Pk:ac->ac->Prop) (b:I Z) (lo:Z) (c:I cK) (f:ho):Prop:= ∃(p:Z) (i:cK),f.at_=(p:ac)/\c[p]? = aa i/\lo<=p/\ ((f.kind=1/\f.m=0/\(p ∈ b\/((lo:ac)<=i.a/\i.a<=(c.length:ac))))\/((f.kind=2\/f.kind=3)/\p ∉ b/\0<=f.m/\f.m<=(U:ac)/\0<=i.a/\i.a<=2048/\(f.kind=2->Pk f.m i.a)))
structure Ap (U:Z) (Pk:ac->ac->Prop) (pd:I Z) (g g':Gs):Prop where
 Gl:∀p ∈ pd,g.code.length<=p/\p<g'.code.length
 more:∃c fx,g'.code=g.code++c/\g'.fix=g.fix++fx/\(∀i ∈ c,nh i)/\(∀f ∈ fx,PZ U Pk pd g.code.length g'.code f)/\fx.Pairwise λa b=>a.at_<b.at_
def Ap.refl (U:Z) (Pk:ac->ac->Prop) (g:Gs):Ap U Pk [] g g:=⟨aK,[],[],aK,aK,aK,aK,.nil⟩
variable {bE:Z} {ip:ac->ac->Prop} {cS:I Z} {dH dq:Gs}
def Ap.lo (h:Ap bE ip cS dH dq):dH.code.length<=dq.code.length:=by obtain ⟨c,fx,a,_⟩:=h.more;rw [a];simp
def Ap.trans {pa pb:I Z} {g r s:Gs} (h:Ap bE ip pa g r) (k:Ap bE ip pb r s):Ap bE ip (pa++pb) g s:=by
 have J:=h.lo;have K:=k.lo;have t:=h.Gl;have u:=k.Gl;obtain ⟨c,fx,y,z,A,v,B⟩:=h.more;obtain ⟨C,D,k1,k2,E,w,F⟩:=k.more;refine ⟨λp l=>?_,c++C,fx++D,by rw [k1,y,g2],by rw [k2,z,g2],?_,?_,?_⟩
 ·rcases fe.1 l with l | l;·have:=t p l;omega
  ·have:=u p l;omega
 ·intro i hi;rcases fe.1 hi with hi | hi;·exact A i hi
  ·exact E i hi
 ·intro f o;rcases fe.1 o with o | o
  ·obtain ⟨p,i,a1,a2,a3,a4⟩:=v f o;have l:p<r.code.length:=(cN.1 a2).1;refine ⟨p,i,a1,by rw [k1,q9 l];exact a2,a3,?_⟩;rcases a4 with ⟨e,m,n⟩ | ⟨e,m,n⟩;·exact bB ⟨e,m,n.imp (λx=>zY _ x) λx=>⟨x.1,ai⟩⟩
   ·refine be ⟨e,λd=>?_,n⟩;rcases fe.1 d with d | d;·exact m d
    ·have:=(u p d).1;omega
  ·obtain ⟨p,i,a1,a2,a3,a4⟩:=w f o;refine ⟨p,i,a1,a2,ai,?_⟩;rcases a4 with ⟨e,m,n⟩ | ⟨e,m,n⟩;·exact bB ⟨e,m,n.imp (λx=>s_ _ x) λx=>⟨ai,x.2⟩⟩
   ·refine be ⟨e,λd=>?_,n⟩;rcases fe.1 d with d | d;·have:=(t p d).2;omega
    ·exact m d
 ·refine Ia.2 ⟨B,F,λa G b H=>?_⟩;obtain ⟨p,i,a1,a2,a3,_⟩:=v a G;obtain ⟨q,j,e,m,n,_⟩:=w b H;have l:p<r.code.length:=(cN.1 a2).1;rw [a1,e];omega
def Lq (U:Z) (Pk:ac->ac->Prop) (l:I cK) (g:Gs) (a:∀i ∈ l,nh i):Ap U Pk [] g<|dg l g:=⟨aK,l,[],rfl,by simp [dg],a,aK,.nil⟩
def oL (U:Z) (Pk:ac->ac->Prop) (i:cK) (g:Gs) (a:nh i):Ap U Pk [] g<|dg [i] g:=Lq U Pk [i] g (by simpa using a)
def eX (i:cK) (k m:ac) (g:Gs):(dk i k m g).code.length=g.code.length+1:=by simp [dk]
def y1 (U:Z) (Pk:ac->ac->Prop) (i:cK) (g:Gs) (hi:nh i):Ap U Pk [g.code.length] g<|dk i 1 0 g:=by
 refine ⟨λp a=>?_,[i],[⟨(g.code.length:ac),1,0⟩],O,O,by simpa using hi,λf b=>?_,Ib _ _⟩;·have:=e_.1 a;subst this;rw [eX];omega
 ·have:=e_.1 b;subst this;exact ⟨g.code.length,i,O,by simp [dk],c7 _,bB ⟨O,O,bB aK⟩⟩
def YT (U:Z) (Pk:ac->ac->Prop) {i:cK}   (h:Ap U Pk cS dH dq) (hi:nh i) (y:i.a=(dH.code.length:ac)):Ap U Pk cS dH<|dk i 1 0 dq:=by
 have o:=h.lo;have q:=h.Gl;obtain ⟨c,fx,r,s,t,n,u⟩:=h.more;refine ⟨λp g=>?_,c++[i],fx++[⟨(dq.code.length:ac),1,0⟩],by show dq.code++[i]=_;rw [r,g2],by show dq.fix++_=_;rw [s,g2],?_,λf d=>?_,?_⟩;·rw [eX];have:=q p g;omega
 ·intro j e;rcases fe.1 e with e | e;·exact t j e
  ·have:=e_.1 e;subst this;exact hi
 ·rcases fe.1 d with d | d
  ·obtain ⟨p,j,a1,a2,a3,a4⟩:=n f d;have g:p<dq.code.length:=(cN.1 a2).1;refine ⟨p,j,a1,by show (dq.code++[i])[p]? = _;rw [q9 g];exact a2,a3,?_⟩;rcases a4 with ⟨k,l,m⟩ | ⟨k,l,m⟩;·exact bB ⟨k,l,m.imp id λx=>⟨x.1,by rw [eX];omega⟩⟩
   ·exact be ⟨k,l,m⟩
  ·have:=e_.1 d;subst this;exact ⟨dq.code.length,i,O,by simp [dk],o,bB ⟨O,O,be ⟨ai,by rw [eX];omega⟩⟩⟩
 ·refine Ia.2 ⟨u,Ib _ _,λa v b w=>?_⟩;obtain ⟨p,j,a1,a2,a3,_⟩:=n a v;have g:p<dq.code.length:=(cN.1 a2).1;have:=e_.1 w;subst this;rw [a1];show (p:ac)<(dq.code.length:ac);omega
def A0 {U:Z}  {i:cK} {k m:ac} (g:Gs) (hi:nh i) (d:k=2\/k=3) (b:0<=m/\m<=(U:ac)) (c:0<=i.a/\i.a<=2048) (e:k=2->ip m i.a):Ap U ip [] g<|dk i k m g:=by refine ⟨aK,[i],[⟨(g.code.length:ac),k,m⟩],O,O,by simpa using hi,λf h=>?_,Ib _ _⟩;have:=e_.1 h;subst this;exact ⟨g.code.length,i,O,by simp [dk],c7 _,be ⟨d,aK,b.1,b.2,c.1,c.2,e⟩⟩
def hl (n:Z) (g:Gs):(eT n g).code.length=g.code.length:=by simp [eT]
def xt {pa pb:I Z} {n:Z}  (h:Ap bE ip (pa++n::pb) dH dq):Ap bE ip (pa++pb) dH<|eT n dq:=by
 have B:=h.lo;have s:=h.Gl;obtain ⟨c,fx,o,u,v,w,y⟩:=h.more;obtain ⟨C,D⟩:=s n aK;have m (p:Z):(eT n dq).code[p]? = if n=p then (dq.code[p]?).map (λi=>{ i with a:=(dq.code.length:ac) }) else dq.code[p]?:=by
  show (dq.code.modify n _)[p]? = _;rw [vp];by_cases e:n=p;·subst e;simp
  ·rw [aj e];simp [e]
 have q:(eT n dq).code.length=dq.code.length:=hl n dq;have E:dq.code.length=dH.code.length+c.length:=by rw [o];simp
 refine ⟨λp b=>?_,(eT n dq).code.drop dH.code.length,fx,?_,u,?_,λf z=>?_,y⟩
 ·have:p ∈ pa++n::pb:=by
   rcases fe.1 b with b | b;·exact zY _ b
   ·exact s_ _<|m1 _ b
  rw [q];exact s p this
 ·have A:(eT n dq).code.take dH.code.length=dH.code:=by
   refine r0 λp=>?_;rw [jF];split;·rename_i b;rw [m p,aj ai,o,q9 b]
   ·rename_i b;rw [x7 ai]
  rw [<-rZ dH.code.length (eT n dq).code,A];rw [MA<|c7 _,wL,t_]
 ·intro i hi;obtain ⟨j,d⟩:=jd hi;rw [H0,m] at d;have t:∀x,dq.code[dH.code.length+j]? = aa x->nh x:=λx k=>by rw [o,pH ai] at k;exact v x<|aW k
  split at d;·cases k:dq.code[dH.code.length+j]? with| none=>rw [k] at d;cases d| some x=>rw [k] at d;simp at d;subst d;exact t x k
  ·exact t i d
 ·obtain ⟨p,i,a1,a2,a3,a4⟩:=w f z;by_cases e:n=p
  ·subst e;refine ⟨n,{ i with a:=(dq.code.length:ac) },a1,by rw [m,aD O,a2];rfl,a3,?_⟩;rcases a4 with ⟨l,g,_⟩ | ⟨_,g,_⟩;·exact bB ⟨l,g,be ⟨by show (dH.code.length:ac)<=(dq.code.length:ac);omega,by rw [q];exact zZ _⟩⟩
   ·exact absurd aK g
  ·refine ⟨p,i,a1,by rw [m,aj e];exact a2,a3,?_⟩;rw [q];rcases a4 with ⟨l,g,r⟩ | ⟨l,g,r⟩
   ·refine bB ⟨l,g,r.imp (λx=>?_) id⟩;rcases fe.1 x with x | x;·exact zY _ x
    ·rcases eR.1 x with x | x;·exact absurd x.symm e
     ·exact s_ _ x
   ·refine be ⟨l,λx=>g ?_,r⟩;rcases fe.1 x with x | x;·exact zY _ x
    ·exact s_ _<|m1 _ x
end Go.Bw
end
section
namespace Go.Bw
open Go
variable {az b' j1:ac}
def jq (a:1<=az) (b:az<=22):nh ⟨az,b',j1⟩:=⟨a,b⟩
structure v8 (U:Z) (Pk:ac->ac->Prop) (ks:I e7):Prop where
 len:ks.length=U+1
 small:∀k ∈ ks,k.p1=ad->k.parts.length<=2048
 call:∀m a n,k4 ks m a n=ad->Pk m a
variable {ip:ac->ac->Prop} {kM:I e7}
def Gm {U:Z}   (b:v8 U ip kM)  (h:ls kM az b' j1=ad):(0<=az/\az<=(U:ac))/\0<=b'/\b'<=2048:=by cases a:oD kM az b' with| true=>rw [Cx j1 a] at h;cases h| false=>obtain ⟨⟨d,rfl,e⟩,c,f⟩:=Cy a;have:=b.len;exact ⟨⟨ai,ai⟩,c,ai⟩
def LQ {U:Z}   (b:v8 U ip kM)  (h:k4 kM az b' j1=ad):(0<=az/\az<=(U:ac))/\0<=b'/\b'<=2048:=by
 cases a:n0 kM az b' with
 | true=>rw [Cz j1 a] at h;cases h
 | false=>
  obtain ⟨⟨e,rfl,d⟩,p,rfl⟩:=CA a;have f:=b.len;obtain ⟨k,c⟩:=bk d;rw [ux a c] at h;refine ⟨⟨ai,ai⟩,ai,?_⟩;split at h;·rename_i hi;have:=b.small k (aW c) hi;simp only [eI,cw] at h;omega
  ·simp only [eI,cw] at h;omega
variable {bE:Z}
def C7:∀{ks:I Gk} (h:∀(i:Z) k,ks[i]? = aa k->∀g,Ap bE ip [] g (k g)) (g:Gs),Ap bE ip [] g (oG ks g)| [],h,g=>.refl bE ip g| k::r,h,g=>(h 0 k rfl g).trans<|C7 (ks:=r) (λi a b=>h (i+1) a (by simpa using b))<|k g
def rG {ks:I Gk} (h:∀(i:Z) k,ks[i]? = aa k->∀g,Ap bE ip [] g (k g)) (i:Z) (g:Gs):Ap bE ip [] g<|hQ ks i g:=by unfold hQ;cases hi:ks[i]? with| none=>exact .refl bE ip g| some k=>exact h i k hi g
variable {n' ek:Gk}
def YU (c:∀g,Ap bE ip [] g (n' g)) (d:∀g,Ap bE ip [] g (ek g)) (g:Gs):Ap bE ip [] g<|xc n' ek g:=by unfold xc;dsimp only;generalize e:n' g=a;generalize f:dg [⟨22,0,0⟩] (ek<|dk ⟨12,0,0⟩ 1 0 a)=b;have a1:Ap bE ip [] g a:=e▸c g;have a2:Ap bE ip [a.code.length] a b:=f▸((y1 bE ip ⟨12,0,0⟩ a<|jq a8 a8).trans<|d _).trans (oL bE ip ⟨22,0,0⟩ _<|jq a8 a8);have a3:Ap bE ip [a.code.length,b.code.length] g<|dk ⟨11,0,0⟩ 1 0 b:=(a1.trans a2).trans<|y1 bE ip ⟨11,0,0⟩ b<|jq a8 a8;have a4:Ap bE ip [b.code.length] g _:=xt (pa:=[]) a3;have h:Ap bE ip [b.code.length] g _:=a4.trans<|oL bE ip ⟨1,0,0⟩ _<|jq a8 a8;exact xt (pa:=[]) (pb:=[]) h
def ah3 (c:∀g,Ap bE ip [] g (n' g)) (d:∀g,Ap bE ip [] g (ek g)) (g:Gs):Ap bE ip [] g<|xd n' ek g:=by unfold xd;dsimp only;generalize e:n' g=a;generalize f:dg [⟨1,1,0⟩] (dk ⟨12,0,0⟩ 1 0 a)=b;have a1:Ap bE ip [] g a:=e▸c g;have a2:Ap bE ip [a.code.length] a b:=f▸(y1 bE ip ⟨12,0,0⟩ a<|jq a8 a8).trans (oL bE ip ⟨1,1,0⟩ _<|jq a8 a8);have a3:Ap bE ip [a.code.length,b.code.length] g<|dk ⟨11,0,0⟩ 1 0 b:=(a1.trans a2).trans<|y1 bE ip ⟨11,0,0⟩ b<|jq a8 a8;have a4:Ap bE ip [b.code.length] g _:=xt (pa:=[]) a3;have h:Ap bE ip [b.code.length] g _:=(a4.trans<|d _).trans<|oL bE ip ⟨22,0,0⟩ _<|jq a8 a8;exact xt (pa:=[]) (pb:=[]) h
mutual
def YW (b:v8 bE ip kM) (aX:ac):∀(x:eC) (d:Z),k5 kM aX x d=ad->∀g,Ap bE ip [] g (fk x g)
 | .mk op n m pl args,d,h,g=>by
  obtain ⟨j,k⟩:=F4 h;have a:=J8 b aX args (d+1) k;have f:=F1 j;rw [fk];unfold im;split;·exact oL bE ip _ g<|jq a8 a8
  ·split;·exact oL bE ip _ g<|jq a8 a8
   ·split;·exact oL bE ip _ g<|jq a8 a8
    ·split;·rename_i e;obtain ⟨c,i⟩:=Gm b<|f.1 e;exact A0 g (jq a8 a8) (be O) c i<|λe=>absurd e a8
     ·split;·rename_i e;obtain ⟨c,i⟩:=Gm b (f.2.1 e).2;exact ((rG a 0 g).trans<|A0 _ (jq a8 a8) (be O) c i<|λe=>absurd e a8).trans<|oL bE ip _ _<|jq a8 a8
      ·split;·rename_i e;obtain ⟨c,i⟩:=LQ b<|f.2.2.1 e;exact (C7 a g).trans<|A0 _ (jq a8 a8) Y c i<|λ_=>b.call _ _ _<|f.2.2.1 e
       ·split;·exact YU (rG a 0) (rG a 1) g
        ·split;·exact ah3 (rG a 0) (rG a 1) g
         ·split;·exact (C7 a g).trans<|oL bE ip _ _<|jq a8 a8
          ·exact (C7 a g).trans<|oL bE ip _ _<|jq a8 a8
def J8 (b:v8 bE ip kM) (aX:ac):∀(l:I eC) (d:Z),hZ kM aX l d=ad->∀(i:Z) k,(e4 l)[i]? = aa k->∀g,Ap bE ip [] g (k g)| [],d,_,i,k,h,g=>by rw [e4] at h;simp at h| x::r,d,a,0,k,h,g=>by rw [hZ] at a;rw [e4] at h;simp at h;subst h;exact YW b aX x d (bz.1 a).1 g| x::r,d,a,i+1,k,h,g=>by rw [hZ] at a;rw [e4] at h;exact J8 b aX r d (bz.1 a).2 i k (by simpa using h) g
end
variable {aL:Z}
def YX {c body other:Gk}  (d:∀g,Ap bE ip [] g (c g)) (e:∀g,Ap bE ip [] g (body g)) (f:∀g,Ap bE ip [] g (other g)) (g:Gs):Ap bE ip [] g<|vM c body other aL g:=by
 unfold vM;dsimp only;generalize h:c g=a;generalize i:body (dk ⟨12,0,0⟩ 1 0 a)=b;have a1:Ap bE ip [] g a:=h▸d g;have a2:Ap bE ip [a.code.length] a b:=i▸(y1 bE ip ⟨12,0,0⟩ a<|jq a8 a8).trans (e _);split;·have a3:Ap bE ip [a.code.length,b.code.length] g<|dk ⟨11,0,0⟩ 1 0 b:=(a1.trans a2).trans<|y1 bE ip ⟨11,0,0⟩ b<|jq a8 a8;have a4:Ap bE ip [b.code.length] g _:=xt (pa:=[]) a3;have j:Ap bE ip [b.code.length] g _:=a4.trans<|f _;exact xt (pa:=[]) (pb:=[]) j
 ·exact xt (pa:=[]) (pb:=[])<|a1.trans a2
def YY (b:∀g,Ap bE ip [] g (n' g)) (c:∀g,Ap bE ip [] g (ek g)) (g:Gs):Ap bE ip [] g<|yR n' ek g:=by unfold yR;dsimp only;generalize d:n' g=a;have a1:Ap bE ip [] g a:=d▸b g;have a2:Ap bE ip [a.code.length] g _:=((a1.trans<|y1 bE ip ⟨12,0,0⟩ a<|jq a8 a8).trans<|oL bE ip ⟨16,0,0⟩ _<|jq a8 a8).trans<|c _;exact xt (pa:=[]) (pb:=[])<|YT bE ip a2 (i:=⟨11,(g.code.length:ac),0⟩) (jq a8 a8) O
mutual
def YZ (b:v8 bE ip kM) (aX:ac):∀(x:et) (d:Z),lR kM aX x d=ad->∀g,Ap bE ip [] g (mf x g)
 | .mk op n m pl args body other,d,h,g=>by
  obtain ⟨k,l,j,o⟩:=F5 h;have a:=J8 b aX args 1 l;have f:=F2 k;have p:=A1 b aX other (d+1) o;rw [mf];unfold jo;split
  ·rename_i e;split;·exact (rG a 0 g).trans<|oL bE ip _ _<|jq a8 a8
   ·rename_i c;obtain ⟨c,i⟩:=Gm b<|(f.1 e).2 c;exact (rG a 0 g).trans<|A0 _ (jq a8 a8) (be O) c i<|λe=>absurd e a8
  ·split;·rename_i e;obtain ⟨c,i⟩:=Gm b (f.2.1 e).2;exact (((rG a 0 g).trans<|A0 _ (jq a8 a8) (be O) c i<|λe=>absurd e a8).trans<|rG a 1 _).trans<|oL bE ip _ _<|jq a8 a8
   ·split;·rename_i e;obtain ⟨c,i⟩:=LQ b<|f.2.2 e;exact ((C7 a g).trans<|A0 _ (jq a8 a8) Y c i<|λ_=>b.call _ _ _<|f.2.2 e).trans<|oL bE ip _ _<|jq a8 a8
    ·split;·rename_i e;exact YX (rG a 0) (A1 b aX body (d+1)<|j<|bB e) p g
     ·split;·rename_i e;exact YY (rG a 0) (A1 b aX body (d+1)<|j<|be e) g
      ·split;·exact (rG a 0 g).trans<|oL bE ip _ _<|jq a8 a8
       ·split;·exact (rG a 0 g).trans<|oL bE ip _ _<|jq a8 a8
        ·exact .refl bE ip g
def A1 (a:v8 bE ip kM) (aX:ac):∀(l:I et) (d:Z),g8 kM aX l d=ad->∀g,Ap bE ip [] g (ff l g)| [],d,_,g=>by rw [ff];exact .refl bE ip g| x::r,d,h,g=>by rw [g8] at h;rw [ff];exact (YZ a aX x d (bz.1 h).1 g).trans<|A1 a aX r d (bz.1 h).2 _
end
def Y0 (lo hi:Z) (c:I cK) (f:ho):Prop:=∀(p:Z) i,f.kind=1->f.at_=(p:ac)->c[p]? = aa i->lo<=p/\p<hi/\(lo:ac)<=i.a/\i.a<(hi:ac)
def Y1 (k:v8 bE ip kM)  {b:I et}  (h:g8 kM az b aL=ad) (pa lo:ac) (g:Gs) : Ap bE ip [] g (kL pa lo b g)/\g.code.length+3<=(kL pa lo b g).code.length/\∃fx,(kL pa lo b g).fix=g.fix++fx/\∀f ∈ fx,Y0 g.code.length (kL pa lo b g).code.length (kL pa lo b g).code f:=by
 have a1:Ap bE ip [] g<|ff b<|dg [⟨14,pa,lo⟩] g:=(oL bE ip ⟨14,pa,lo⟩ g<|jq a8 a8).trans<|A1 k az b aL h _;have l:=(A1 k az b aL h<|dg [⟨14,pa,lo⟩] g).lo;unfold kL;generalize ff b (dg [⟨14,pa,lo⟩] g)=a at a1 l;have u:(dg [⟨14,pa,lo⟩] g).code.length=g.code.length+1:=by simp [dg]
 have m:(dg [⟨1,0,0⟩,⟨15,0,0⟩] a).code.length=a.code.length+2:=by simp [dg]
 refine ⟨a1.trans<|Lq bE ip _ a (by intro i hi;simp at hi;rcases hi with rfl | rfl<;>exact jq a8 a8),ai,?_⟩;obtain ⟨c,fx,v,n,w,o,y⟩:=a1.more;refine ⟨fx,n,λf q p i k1 k2 r=>?_⟩;obtain ⟨d,j,c1,c2,c3,c4⟩:=o f q;have s:d=p:=ai;subst s;have t:d<a.code.length:=(cN.1 c2).1;have e:a.code[d]? = aa i:=by have:(a.code++[⟨1,0,0⟩,⟨15,0,0⟩])[d]? = aa i:=r;rwa [q9 t] at this
 rw [c2] at e;injection e with e;subst e;rw [m];rcases c4 with ⟨_,_,x | x⟩ | ⟨x,_⟩;·cases x
 ·exact ⟨c3,ai,x.1,ai⟩
 ·omega
structure P3 (g g':Gs) (S:I Z):Prop where
 at_:∀s ∈ S,g.code.length<=s/\s<g'.code.length
 stay:∃fx,g'.fix=g.fix++fx/\∀f ∈ fx,∀(p:Z) i,f.kind=1->f.at_=(p:ac)->g'.code[p]? = aa i->g.code.length<=p/\(g.code.length:ac)<=i.a/\∀s ∈ S,(p<s->i.a<(s:ac))/\(s<=p->(s:ac)<=i.a)
def P4 (w:v8 bE ip kM):∀{l:I b3} (k:∀p ∈ l,∃aX d,g8 kM aX p.body d=ad) (g:Gs),Ap bE ip [] g (fC l g).2/\P3 g (fC l g).2 (fC l g).1
 | [],k,g=>⟨.refl bE ip g,⟨(by intro s a;cases a),[],(by show g.fix=_;simp),(by intro f b;cases b)⟩⟩
 | q::r,k,g=>by
  obtain ⟨aX,d,h⟩:=k q aK;obtain ⟨a1,a2,fx,a3,a4⟩:=Y1 w h q.params q.locals g;obtain ⟨o,x⟩:=P4 w (l:=r) (λp t=>k p (by simp [t]))<|kL q.params q.locals q.body g;obtain ⟨B,C,D⟩:=x.stay;have y:=x.at_;rw [fC];dsimp only;generalize kL q.params q.locals q.body g=u at *;generalize fC r u=z at *;have N:=o.lo;obtain ⟨c,_,E,_⟩:=o.more;refine ⟨a1.trans o,λs a=>?_,fx++B,by rw [C,a3,g2],λf b p i k1 k2 v=>?_⟩
  ·rcases eR.1 a with rfl | a;·omega
   ·have:=y s a;omega
  ·rcases fe.1 b with b | b
   ·obtain ⟨_,F,O,G,P,H,Q⟩:=a1.more;have e:F=fx:=I.append_cancel_left<|G.symm.trans a3;subst e;obtain ⟨m,j,R,J,_⟩:=H f b;have t:m=p:=ai;subst t;have K:m<u.code.length:=(cN.1 J).1;have L:u.code[m]? = aa i:=by rw [E,q9 K] at v;exact v
    obtain ⟨A,M,n,S⟩:=a4 f b m i k1 k2 L;refine ⟨A,n,λs a=>?_⟩;rcases eR.1 a with rfl | a;·exact ⟨λ_=>by omega,λ_=>n⟩
    ·have:=y s a;exact ⟨λ_=>by omega,λ_=>by omega⟩
   ·obtain ⟨A,M,n⟩:=D f b p i k1 k2 v;refine ⟨ai,ai,λs a=>?_⟩;rcases eR.1 a with rfl | a;·exact ⟨λ_=>by omega,λ_=>by omega⟩
    ·exact n s a
structure P5 (Pk:ac->ac->Prop) (u:aI) (o:tu):Prop where
 ap:Ap u.aN.length Pk [] ⟨[],[]⟩ o.g
 P6:P3 ⟨[],[]⟩ o.g<|o.ge++[o.main]
 fH:o.ge.length=u.parts.length
variable {eA:aI}
def Y2 (h:jY eA kM=ad) (c:kM.length=eA.aN.length) (d:∀k ∈ kM,k.p1=ad->k.parts.length<=2048):v8 eA.aN.length (λm a=>∃n,k4 (ec eA::kM) m a n=ad)<|ec eA::kM:=by
 refine ⟨by simp [c],λk b hi=>?_,λm a n e=>⟨n,e⟩⟩;rcases eR.1 b with rfl | b;·have:=(vE h hi).2.1;omega
 ·exact d k b hi
def J9 (h:jY eA kM=ad) (e:kM.length=eA.aN.length) (f:∀k ∈ kM,k.p1=ad->k.parts.length<=2048):P5 (λm a=>∃n,k4 (ec eA::kM) m a n=ad) eA<|fo eA:=by
 have g:=Y2 h e f;obtain ⟨i,j,l,o⟩:=iD h;have e:∀p ∈ eA.parts++[(⟨0,0,eA.main⟩:b3)],∃aX d,g8 (ec eA::kM) aX p.body d=ad:=by
  intro p c;rcases fe.1 c with c | c;·exact ⟨_,1,xf (yQ<|i p c).2.2.2.2⟩
  ·have:=e_.1 c;subst this;exact ⟨_,1,xf j⟩
 obtain ⟨a,b⟩:=P4 g e ⟨[],[]⟩;rw [JK] at a b;exact ⟨a,b,(FW eA.parts ⟨[],[]⟩).2⟩
def Gn (h:ry eA=ad):P5 (λm a=>∃n,k4 (ec eA::gb eA.aN.length nZ) m a n=ad) eA<|fo eA:= J9 h aK λk b hi=>by rw [(I.mem_replicate.1 b).2] at hi;cases hi
end Go.Bw
end
section
namespace Go.Bw
open Go
structure dU where
 nm:I ar
 aN:I<|I ar
 data:ac
 code:I cK
 fix:I ho
 ge:I ac
 main:ac
def nD (o:dU) (q:eG):I aR:=[st o.nm,aE q.s1.1 o.aN.length q.s1.2,am an o.data,aE q.s2.1 o.code.length q.s2.2,aE q.s3.1 o.fix.length q.s3.2,aE q.s4.1 o.ge.length q.s4.2,am an o.main]
structure jb (H:View) (q:eG) (o:dU):Prop where
 aN:Sl rdStr 1 H q.s1.1 q.s1.2 o.aN
 code:Sl kj 3 H q.s2.1 q.s2.2 o.code
 fix:Sl O0 3 H q.s3.1 q.s3.2 o.fix
 ge:Sl gW 1 H q.s4.1 q.s4.2 o.ge
def tu.to (o:tu):dU:=⟨o.nm,o.aN,o.data,o.g.code,o.g.fix,o.ge.map λn:Z=>(n:ac),o.main⟩
def Y3 (o:tu) (q:eG):nD o.to q=JN o q:=by simp [nD,JN,tu.to]
def Y4 {c:View} {q:eG} {o:tu} (h:JO c q o):jb c q o.to:=by
 refine ⟨h.aN,h.code,h.fix,⟨?_,h.ge.max,h.ge.spot,λi x a=>?_⟩⟩;·show (o.ge.map λn:Z=>(n:ac)).length<=_;rw [fB];exact h.ge.cap
 ·have a:(o.ge.map λn:Z=>(n:ac))[i]? = aa x:=a;rw [fp] at a;cases b:o.ge[i]? with| none=>rw [b] at a;cases a| some n=>rw [b] at a;injection a with a;subst a;exact h.ge.ct i n b
def jr (n:Z) (at_:ac):aS:=decide (0<=at_)&&decide (at_<(n:ac))
def n_ (seen:I<|I ar):I (I ar)->aS->aS| [],f=>f| s::r,f=>n_ (seen++[s]) r<|(f&&gG s)&&(((seen.count s:Z):ac)+1==1)
def dZ:I cK->aS->aS| [],f=>f| x::r,f=>dZ r<|(f&&decide (1<=x.op))&&decide (x.op<=22)
def qR (n:Z):I ac->aS->aS| [],f=>f| x::r,f=>qR n r<|f&&jr n x
def ko (c:I cK) (p:ac):ac:=((c[p.toNat]?).map (·.a)).getD 0
def mm (U n:Z) (kind m a:ac):aS:= if kind=1 then ((decide (0<=a)&&decide (a<=2048))&&(m==0))&&decide (a<=(n:ac)) else if kind=2\/kind=3 then ((decide (0<=a)&&decide (a<=2048))&&decide (0<=m))&&decide (m<=(U:ac)) else aq
def oM (U:Z) (c:I cK):I ho->ac->aS->aS| [],_,f=>f| x::r,last,f=>if ((f&&decide (last<x.at_))&&jr c.length x.at_)=aq then aq else oM U c r x.at_ (mm U c.length x.kind x.m<|ko c x.at_)
def ht (o:dU):aS:=(gG o.nm&&decide (0<=o.data))&&decide (o.data<=512)
def xu (o:dU):aS:=oM o.aN.length o.code o.fix (-1)<|qR o.code.length o.ge<|dZ o.code<|n_ [o.nm] o.aN<|ht o
def sy (o:dU):aS:=((decide (3<(o.aN.length:ac))||decide (6<(o.ge.length:ac)))||decide ((o.code.length:ac)<1))||decide (2048<(o.code.length:ac))
def j2 (o:dU):ac:=if sy o=ad then 2 else if (!(xu o)||!(jr o.code.length o.main))=ad then 1 else 0
variable {bE:Z} {az:ac}
def uQ (h:jr bE az=ad):∃p:Z,az=(p:ac)/\p<bE:=by unfold jr at h;simp only [eI,cw] at h;exact ⟨az.toNat,ai,ai⟩
def J' {n p:Z} (h:p<n):jr n (p:ac)=ad:=by unfold jr;simp only [eI,cw];omega
def Y5 {seen us:I<|I ar}  {s:I ar} (h:us[bE]? = aa s) (f:aS):n_ (seen++us.take bE) (us.drop bE) f=n_ (seen++us.take (bE+1)) (us.drop<|bE+1) ((f&&gG s)&&((((seen++us.take bE).count s:Z):ac)+1==1)):=by obtain ⟨a,b⟩:=cN.1 h;rw [qr a,b,n_,h7,h,g2];rfl
variable {l7:I cK}
def Y6 {x:cK} (h:l7[bE]? = aa x) (f:aS):dZ (l7.drop bE) f=dZ (l7.drop<|bE+1) ((f&&decide (1<=x.op))&&decide (x.op<=22)):=by obtain ⟨a,b⟩:=cN.1 h;rw [qr a,b,dZ]
def Y7 {l:I ac} {i:Z}  (h:l[i]? = aa az) (f:aS):qR bE (l.drop i) f=qR bE (l.drop<|i+1) (f&&jr bE az):=by obtain ⟨a,b⟩:=cN.1 h;rw [qr a,b,qR]
def Y8 {U:Z} {c:I cK} {l:I ho}  {x:ho} (h:l[bE]? = aa x) (a:ac) (f:aS):oM U c (l.drop bE) a f=if ((f&&decide (a<x.at_))&&jr c.length x.at_)=aq then aq else oM U c (l.drop<|bE+1) x.at_ (mm U c.length x.kind x.m<|ko c x.at_):=by obtain ⟨b,d⟩:=cN.1 h;rw [qr b,d,oM]
def P7:∀{us seen:I<|I ar} (a:(seen++us).Nodup) (b:us.all gG=ad),n_ seen us ad=ad
 | [],_,_,_=>rfl
 | s::r,seen,a,b=>by
  rw [n_];rw [x'] at b;obtain ⟨c,d⟩:=bz.1 b;have e:seen.count s=0:=by rw [MH];intro f;exact (l9.1 a).2.2 s f s aK O
  rw [c,e];exact P7 (us:=r) (by rw [g2];exact a) d
def P8:∀{l:I cK} (h:∀i ∈ l,nh i),dZ l ad=ad| [],_=>rfl| x::r,h=>by have:=h x aK;rw [dZ,jG this.1,jG this.2];exact P8 λi hi=>h i (by simp [hi])
def P9 {n:Z}:∀{l:I Z} (h:∀s ∈ l,s<n),qR n (l.map λn:Z=>(n:ac)) ad=ad| [],_=>rfl| x::r,h=>by rw [nt,qR,J'<|h x aK];exact P9 λs a=>h s (by simp [a])
def P' {Pk:ac->ac->Prop}  (n:l7.length<=2048):∀{l:I ho} {e:ac} (h:∀f ∈ l,e<f.at_/\PZ bE Pk [] 0 l7 f) (c:l.Pairwise λa b=>a.at_<b.at_),oM bE l7 l e ad=ad
 | [],_,_,_=>rfl
 | x::r,e,h,c=>by
  obtain ⟨s,p,i,a1,a2,a3,a4⟩:=h x aK;have o:p<l7.length:=(cN.1 a2).1;rw [oM,a1,J' o,jG ai];rw [aj a8];have q:ko l7 (p:ac)=i.a:=by unfold ko;rw [ku,a2];rfl
  have d:mm bE l7.length x.kind x.m (ko l7 (p:ac))=ad:=by
   rw [q];unfold mm;rcases a4 with ⟨g,k,j | j⟩ | ⟨g,_,k,j,t,u,_⟩;·cases j
   ·rw [aD g,k,jG (show 0<=i.a by omega),jG (show i.a<=2048 by omega),jG (show i.a<=(l7.length:ac) by omega)];rfl
   ·rw [aj ai,aD g];simp only [eI,cw];omega
  rw [d];rw [EH] at c;exact P' n (λf d=>⟨by have:=c.1 f d;omega,(h f (by simp [d])).2⟩) c.2
def P_ {u:aI} (h:ry u=ad) (k:(fo u).g.code.length<=2048):j2 (fo u).to=0:=by
 have b:=Gn h;obtain ⟨F,G,d,j⟩:=iD h;unfold p2 at d;simp only [kG,mC] at d;have l:gG u.nm=ad:=by simpa using d.1.1.1.1
 unfold tp at j;obtain ⟨o,q⟩:=bz.1 j;have r:(u.nm::u.aN).Nodup:=kK.2 (by simpa using o);have t:(fo u).main<(fo u).g.code.length:=(b.P6.at_ _ aK).2;obtain ⟨c,fx,a1,a2,a3,a4,v⟩:=b.ap.more;have a1:(fo u).g.code=c:=by simpa using a1
 have a2:(fo u).g.fix=fx:=by simpa using a2
 unfold j2;have w:sy (fo u).to=aq:=by
  unfold sy;simp only [kG,mC];refine ⟨⟨⟨?_,?_⟩,?_⟩,?_⟩;·show ¬3<(u.aN.length:ac);omega
  ·show ¬6<((((fo u).ge.map λn:Z=>(n:ac)).length:Z):ac);rw [fB,b.fH];omega
  ·show ¬(((fo u).g.code.length:Z):ac)<1;omega
  ·show ¬2048<(((fo u).g.code.length:Z):ac);omega
 rw [w,aj a8];have x:ht (fo u).to=ad:=by unfold ht;simp only [eI,cw];exact ⟨⟨l,by show 0<=u.data;omega⟩,by show u.data<=512;omega⟩
 have y:xu (fo u).to=ad:=by unfold xu;rw [x];have z:n_ [(fo u).to.nm] (fo u).to.aN ad=ad:=P7 r q;have A:dZ (fo u).to.code ad=ad:=P8 (by show ∀i ∈ (fo u).g.code,nh i;rw [a1];exact a3);have B:qR (fo u).to.code.length (fo u).to.ge ad=ad:=P9 λs C=>(b.P6.at_ s (by simp [C])).2;rw [z,A,B];show oM u.aN.length (fo u).g.code (fo u).g.fix (-1) ad=ad;refine P' (Pk:=λm a=>∃n,k4 (ec u::gb u.aN.length nZ) m a n=ad) k (λf e=>?_) (by rw [a2];exact v);rw [a2] at e;have D:=a4 f e;obtain ⟨p,i,k1,_⟩:=D;exact ⟨ai,a4 f e⟩
 rw [y];have E:jr (fo u).to.code.length (fo u).to.main=ad:=J' t;rw [E];rfl
end Go.Bw
end
section
namespace Go.Bw
open Go
structure A2 (o:dU):Prop where
 names:∀s ∈ o.nm::o.aN,gG s=ad
 nd:(o.nm::o.aN).Nodup
 data:0<=o.data/\o.data<=512
 main:jr o.code.length o.main=ad
 code:∀i ∈ o.code,nh i
 ge:∀e ∈ o.ge,jr o.code.length e=ad
 fix:∀f ∈ o.fix,jr o.code.length f.at_=ad/\mm o.aN.length o.code.length f.kind f.m (ko o.code f.at_)=ad
 up:o.fix.Pairwise λa b=>a.at_<b.at_
def Qa:∀(us seen:I<|I ar) (f:aS),n_ seen us f=ad↔f=ad/\(∀s ∈ us,gG s=ad)/\us.Nodup/\∀s ∈ us,s ∉ seen
 | [],seen,f=>by simp [n_]
 | s::r,seen,f=>by
  rw [n_,Qa r];have j:((((seen.count s:Z):ac)+1==1)=ad)↔s ∉ seen:=by rw [j8,<-MH];omega
  rw [eI,eI,j];have k:∀t,(t ∈ seen++[s])↔(t ∈ seen\/t=s):=λt=>by simp
  simp only [k,eR,kX,EL];constructor;·rintro ⟨⟨⟨d,e⟩,g⟩,h,i,b⟩;exact ⟨d,⟨e,h⟩,⟨λl=>b s l<|be O,i⟩,g,λt c a=>b t c<|bB a⟩
  ·rintro ⟨d,⟨e,h⟩,⟨m,i⟩,g,b⟩;refine ⟨⟨⟨d,e⟩,g⟩,h,i,λt c a=>?_⟩;rcases a with a | a;·exact b t c a
   ·subst a;exact m c
def Qb:∀(l:I cK) (f:aS),dZ l f=ad↔f=ad/\∀i ∈ l,nh i
 | [],f=>by simp [dZ]
 | x::r,f=>by
  rw [dZ,Qb r];simp only [eI,cw,eR,EL,nh];constructor;·rintro ⟨⟨⟨a,b⟩,c⟩,d⟩;exact ⟨a,⟨b,c⟩,d⟩
  ·rintro ⟨a,⟨b,c⟩,d⟩;exact ⟨⟨⟨a,b⟩,c⟩,d⟩
def Qc (n:Z):∀(l:I ac) (f:aS),qR n l f=ad↔f=ad/\∀e ∈ l,jr n e=ad
 | [],f=>by simp [qR]
 | x::r,f=>by
  rw [qR,Qc n r];simp only [eI,eR,EL];constructor;·rintro ⟨⟨a,b⟩,c⟩;exact ⟨a,b,c⟩
  ·rintro ⟨a,b,c⟩;exact ⟨⟨a,b⟩,c⟩
def Qd (U:Z) (c:I cK):∀(l:I ho) (d:ac) (f:aS),oM U c l d f=ad↔f=ad/\(∀x ∈ l,d<x.at_/\jr c.length x.at_=ad/\mm U c.length x.kind x.m (ko c x.at_)=ad)/\l.Pairwise λa b=>a.at_<b.at_
 | [],d,f=>by simp [oM]
 | x::r,d,f=>by
  rw [oM];have o:((f&&decide (d<x.at_))&&jr c.length x.at_)=ad↔f=ad/\d<x.at_/\jr c.length x.at_=ad:=by simp only [eI,cw,and_assoc]
  cases i:((f&&decide (d<x.at_))&&jr c.length x.at_) with
  | false=>rw [aD rfl];refine ⟨λh=>(by cases h),λ⟨j,k,_⟩=>?_⟩;have g:=k x aK;rw [o.2 ⟨j,g.1,g.2.1⟩] at i;cases i
  | true=>
   rw [aj a8,Qd U c r];obtain ⟨j,k,g⟩:=o.1 i;simp only [eR,EL,EH];constructor;·rintro ⟨k1,k2,n⟩;exact ⟨j,⟨⟨k,g,k1⟩,λy e=>⟨by have:=(k2 y e).1;omega,(k2 y e).2⟩⟩,λy e=>(k2 y e).1,n⟩
   ·rintro ⟨_,⟨⟨_,_,k1⟩,k2⟩,n,p⟩;exact ⟨k1,λy e=>⟨n y e,(k2 y e).2⟩,p⟩
def Y9 (o:dU):(xu o=ad/\jr o.code.length o.main=ad)↔A2 o:=by
 unfold xu;rw [Qd,Qc,Qb,Qa];unfold ht;simp only [eI,cw];constructor
 ·rintro ⟨⟨⟨⟨⟨⟨⟨e,g⟩,i⟩,j,k,l⟩,m⟩,n⟩,q,r⟩,t⟩;refine ⟨λs a=>?_,?_,⟨g,i⟩,t,m,n,λf b=>(q f b).2,r⟩
  ·rcases eR.1 a with rfl | a;·exact e
   ·exact j s a
  ·rw [kX];exact ⟨λc=>l _ c aK,k⟩
 ·intro h;have d:=h.nd;rw [kX] at d;refine ⟨⟨⟨⟨⟨⟨⟨h.names _ aK,h.data.1⟩,h.data.2⟩,λs a=>h.names s (by simp [a]),d.2,λs a=>?_⟩,h.code⟩,h.ge⟩,λf b=>⟨?_,h.fix f b⟩,h.up⟩,h.main⟩;·intro c;rw [e_] at c;subst c;exact d.1 a
  ·obtain ⟨p,u,_⟩:=uQ (h.fix f b).1;omega
variable {dv:dU}
def Y' (h:sy dv=ad):j2 dv=2:=by rw [j2,aD h]
def Y_ (h:sy dv=aq) (k:¬A2 dv):j2 dv=1:=by rw [j2,aj (by rw [h];decide),aD];cases a:xu dv with| false=>rfl| true=>cases b:jr dv.code.length dv.main with| false=>rfl| true=>exact absurd ((Y9 dv).1 ⟨a,b⟩) k
end Go.Bw
end
section
namespace Go.Bw
open Go
def tG (n:ac):ar:=ar.ofNat (n % 256).toNat
def Gp (n:ac):I ar:=[tG<|n.fdiv<|2 ^ 56,tG<|n.fdiv<|2 ^ 48,tG<|n.fdiv<|2 ^ 40,tG<|n.fdiv<|2 ^ 32,tG<|n.fdiv<|2 ^ 24,tG<|n.fdiv<|2 ^ 16,tG<|n.fdiv<|2 ^ 8,tG n]
def Gq (s:I ar):I ar:=tG s.length::s
def Qe (n:ac):Prop:=-9223372036854775808<=n/\n<=9223372036854775807
def J_ (i:cK):I ar:=tG i.op::(Gp i.a++Gp i.b)
def Ka (f:ho):I ar:=Gp f.at_++tG f.kind::Gp f.m
structure aih (o:dU):Prop where
 code:∀i ∈ o.code,Qe i.a/\Qe i.b
end Go.Bw
end
section
namespace Go.Bw
open Go
structure Ns {α:Type} (gl:I ar->aA (α×I ar)) (no:I ar×aS->α×(I ar×aS)):Prop where
 some_:∀s r,gl s=aa r->no (s,aq)=(r.1,(r.2,aq))
 none_:∀s,gl s=ao->(no (s,aq)).2.2=ad
 bad:∀p,p.2=ad->(no p).2.2=ad
def Ns.pure {α:Type} (x:α):Ns (λs=>aa (x,s))<|λp=>(x,p):=⟨λs r h=>by injection h with h;subst h;rfl,λs h=>(by cases h),λp h=>h⟩
def Ns.bind {α β:Type} {c:I ar->aA (α×I ar)} {n1:I ar×aS->α×(I ar×aS)} {f:α->I ar->aA (β×I ar)} {n2:α->I ar×aS->β×(I ar×aS)} (d:Ns c n1) (e:∀a,Ns (f a) (n2 a)):Ns (λs=>(c s).bind λp=>f p.1 p.2)<|λp=>n2 (n1 p).1 (n1 p).2:=by
 refine ⟨λs r h=>?_,λs h=>?_,λp h=>(e _).bad _<|d.bad p h⟩;·obtain ⟨a,b,g⟩:=dL.1 h;show n2 (n1 (s,aq)).1 (n1 (s,aq)).2=_;rw [d.some_ s a b];exact (e _).some_ _ _ g
 ·show (n2 (n1 (s,aq)).1 (n1 (s,aq)).2).2.2=ad;cases b:c s with| none=>exact (e _).bad _<|d.none_ s b| some a=>have h:(c s).bind (λp=>f p.1 p.2)=ao:=h;rw [b] at h;rw [d.some_ s a b];exact (e _).none_ _ h
end Go.Bw
end
section
namespace Go.Bw
open Go
def Qg {n:ac}:∀(l:I ho) (lo:ac),lo<=n->(∀f ∈ l,lo<=f.at_/\f.at_<n)->(l.Pairwise λa b=>a.at_<b.at_)->(l.length:ac)<=n-lo| [],lo,h,_,_=>by simp;omega| x::r,lo,h,d,c=>by rw [EH] at c;have g:=d x aK;have i:=Qg r (x.at_+1) ai (λf e=>⟨by have:=c.1 f e;omega,(d f (by simp [e])).2⟩) c.2;simp only [gj];omega
variable {dv:dU}
def Za (h:A2 dv):dv.fix.length<=dv.code.length:=by have:=Qg (n:=(dv.code.length:ac)) dv.fix 0 ai (λf a=>by obtain ⟨p,b,c⟩:=uQ (h.fix f a).1;omega) h.up;omega
def xv (h:j2 dv=0):sy dv=aq/\A2 dv:=by
 have a:sy dv=aq:=by cases a:sy dv with| false=>rfl| true=>rw [Y' a] at h;cases h
 refine ⟨a,?_⟩;refine Ic λb=>?_;rw [Y_ a b] at h;cases h
end Go.Bw
end
section
namespace Go.Bw
open Go
variable {aB:Type} {bE:Z}
def Qh {f:aB->I ar} :∀(l:I aB) (h:∀x ∈ l,(f x).length<=bE),(l.flatMap f).length<=bE*l.length| [],_=>by simp| x::r,h=>by have b:=h x aK;have c:=Qh r λy a=>h y (by simp [a]);simp only [lK,iy,gj];rw [yf];omega
def Kb {f:aB->I ar} {k:Z} {l:I aB} (h:∀x ∈ l,(f x).length<=k) (i:Z):((l.take i).flatMap f).length<=k*l.length:=by
 have a:=Qh (l.take i) λx b=>h x<|BX b;have c:(l.take i).length<=l.length:=by simp;omega
 exact pG a<|MI _ c
def Zb (i:cK):(J_ i).length=17:=rfl
def Zc (f:ho):(Ka f).length=17:=rfl
def Qi (s:I ar):(Gq s).length=s.length+1:=rfl
structure y2 (o:dU):Prop where
 nm:o.nm.length<=8
 un:∀s ∈ o.aN,s.length<=8
 aN:o.aN.length<=3
 code:o.code.length<=2048
 ge:o.ge.length<=6
 fix:o.fix.length<=2048
def Qj {s:I ar} (h:gG s=ad):s.length<=8:=by unfold gG at h;simp only [eI,cw] at h;omega
variable {dv:dU}
def C8 (h:j2 dv=0):y2 dv:=by obtain ⟨b,a⟩:=xv h;have d:=Za a;unfold sy at b;simp only [kG,mC] at b;exact ⟨Qj<|a.names _ aK,λs c=>Qj<|a.names s (by simp [c]),ai,ai,ai,ai⟩
def y2.us (h:y2 dv) (i:Z):((dv.aN.take i).flatMap Gq).length<=27:=by have b:=Kb (f:=Gq) (k:=9) (l:=dv.aN) (λx a=>by have:=h.un x a;rw [Qi];omega) i;have:=h.aN;omega
def y2.co (h:y2 dv) (i:Z):((dv.code.take i).flatMap J_).length<=34816:=by have a:=Kb (f:=J_) (k:=17) (l:=dv.code) (λx b=>Z.le_of_eq<|Zb x) i;have:=h.code;omega
def y2.fx (h:y2 dv) (i:Z):((dv.fix.take i).flatMap Ka).length<=34816:=by have a:=Kb (f:=Ka) (k:=17) (l:=dv.fix) (λx b=>Z.le_of_eq<|Zc x) i;have:=h.fix;omega
def Zd (n:Z) (x:ac):fL x 0 ((n:ac)-1)=jr n x:=by unfold fL jr;rw [mA];simp;omega
def Qk {p:aB->Prop} {l:I aB}  {x:aB} (h:l[bE]? = aa x) (b:∀y ∈ l.take bE,p y) (c:p x):∀y ∈ l.take (bE+1),p y:=λy a=>by
 rw [h7,h] at a;rcases fe.1 a with a | a;·exact b y a
 ·have a:y ∈ [x]:=a;rw [e_] at a;subst a;exact c
def Ql (o:dU) (i:Z) (x:ho):aS:= ((((!(fL x.at_ 0<|(o.code.length:ac)-1)||(decide ((0:ac)<(i:ac))&&decide (x.at_<=((o.fix[i-1]?).map (·.at_)).getD 0)))||!(fL x.kind 1 3))||!(fL x.m 0 (o.aN.length:ac)))||!(fL (ko o.code x.at_) 0 2048))||(x.kind==1&&(!(x.m==0)||decide ((o.code.length:ac)<ko o.code x.at_)))
def Ze (U n:Z) (k m a:ac):(!(!(fL k 1 3))&&(!(!(fL m 0 (U:ac)))&&(!(!(fL a 0 2048))&&!(k==1&&(!(m==0)||decide ((n:ac)<a))))))=mm U n k m a:=by
 unfold mm fL;by_cases b:k=1
 ·subst b;rw [aD rfl,mA];by_cases c:m=0;·subst c;simp
  ·simp [c]
 ·rw [aj b];by_cases d:k=2\/k=3
  ·rw [aD d,mA];have e:(k==1)=aq:=by simpa using b
   rw [e];simp;omega
  ·rw [aj d,mA];simp;omega
variable {BK:ho}
def Zf {l:I ho}   (f:l[bE]? = aa BK) (g:(l.take bE).Pairwise λa b=>a.at_<b.at_) (c:0<bE->((l[bE-1]?).map (·.at_)).getD 0<BK.at_):(l.take<|bE+1).Pairwise λa b=>a.at_<b.at_:=by
 rw [h7,f];show (l.take bE++[BK]).Pairwise _;rw [Ia];refine ⟨g,by simp,λy i z h=>?_⟩;rw [e_] at h;subst h;obtain ⟨j,e⟩:=jd i;have k:j<bE:=by have:=(cN.1 e).1;simp at this;omega
 have m:l[j]? = aa y:=by rw [MJ k] at e;exact e
 have t:bE<l.length:=(cN.1 f).1;have c:=c (by omega);obtain ⟨u,d⟩:∃u,l[bE-1]? = aa u:=⟨_,cy (by omega)⟩;rw [d] at c;have c:u.at_<z.at_:=c;by_cases n:j=bE-1;·subst n;rw [m] at d;injection d with d;subst d;exact c
 ·have o:(l.take bE)[bE-1]? = aa u:=by rw [jF,aD (by omega)];exact d
  obtain ⟨p,q⟩:=cN.1 e;obtain ⟨r,s⟩:=cN.1 o;have:=Ew.1 g j (bE-1) p r (by omega);rw [q,s] at this;omega
def C9 (o:dU) (i:Z):Prop:=(∀f ∈ o.fix.take i,jr o.code.length f.at_=ad/\mm o.aN.length o.code.length f.kind f.m (ko o.code f.at_)=ad)/\(o.fix.take i).Pairwise λa b=>a.at_<b.at_
def C9.zero (o:dU):C9 o 0:=⟨aK,aK⟩
def C9.next {i:Z}  (h:C9 dv i) (d:dv.fix[i]? = aa BK) (c:Ql dv i BK=aq):C9 dv<|i+1:=by
 unfold Ql at c;simp only [kG] at c;obtain ⟨⟨⟨⟨⟨e,b⟩,g⟩,j⟩,k⟩,l⟩:=c;refine ⟨λf a=>?_,Zf d h.2 λm=>?_⟩
 ·rw [h7,d] at a;rcases fe.1 a with a | a;·exact h.1 f a
  ·have a:f ∈ [BK]:=a;rw [e_] at a;subst a;refine ⟨(Zd _ _).symm.trans (by simpa using e),?_⟩;rw [<-Ze,g,j,k,l];rfl
 ·rw [jG (show (0:ac)<(i:ac) by omega)] at b;have b:decide (BK.at_<=((dv.fix[i-1]?).map (·.at_)).getD 0)=aq:=b;have:=Ih b;omega
end Go.Bw
end
section
namespace Go.Bw
open Go
def g0 (l:I dU):I<|I ar:=l.map (·.nm)
structure Pl where
 code:ac
 data:ac
 vI:I Z
def rH (l:I dU):Z:=(l.map (·.code.length)).sum
def v9 (l:I dU):ac:=(l.map (·.data)).sum
def bw (l:I dU) (k:Z):ac:=((l.length+1+rH (l.take k):Z):ac)
def bK (l:I dU) (k:Z):ac:=v9<|l.take k
def uR (ns:I<|I ar) (o:dU):aS:=o.aN.all λs=>(idxOf s ns 0).isSome
def hA (ns:I<|I ar) (s:I ar):Z:=(idxOf s ns 0).getD 0
def qf (l:I dU) (n:Z) (o:dU):I Z:=n::o.aN.map (hA<|(g0 l).take n)
def tJ (l:I dU) (n:Z) (o:dU):Pl:=⟨bw l n,bK l n,qf l n o⟩
def qS (l:I dU):I Pl:=l.mapIdx λn o=>tJ l n o
def je (l:I dU):Pl:=⟨bw l l.length,bK l l.length,[]⟩
def jf (l:I dU) (k:Z):Z:=((l[k]?).map (·.ge.length)).getD 0
def h3 (l:I dU) (n:Z) (o:dU) (m:ac):Z:=((qf l n o)[m.toNat]?).getD 0
def sz (l:I dU) (n:Z) (o:dU) (f:ho):aS:=f.kind==2&&decide ((jf l<|h3 l n o f.m:ac)<=ko o.code f.at_)
def v' (p:Z->dU->aS) (l:I dU):aS:=(l.mapIdx p).any id
def kP (l:I dU):ac:=if l.length<1\/4<l.length then 2 else er (jk j2 l) (if g6 (g0 l)=ad then 6 else if v' (λn o=>!(uR ((g0 l).take n) o)) l=ad then 9 else if v' (λn o=>o.fix.any<|sz l n o) l=ad then 5 else 0)
variable {gw:I dU} {bE:Z} {dv:dU}
def Kc {p:Z->dU->aS}    (h:gw[bE]? = aa dv) (a:p bE dv=ad):v' p gw=ad:=by unfold v';rw [ta];exact ⟨ad,aW (i:=bE) (by rw [yg,h,a5,a]),O⟩
def Gr {p:Z->dU->aS}  (h:∀n o,gw[n]? = aa o->p n o=aq):v' p gw=aq:=by unfold v';rw [vq];intro x b;obtain ⟨n,a⟩:=jd b;rw [yg] at a;obtain ⟨o,c,rfl⟩:=eQ.1 a;simp [h n o c]
def Qm {p:Z->dU->aS}  (h:v' p gw=aq)   (a:gw[bE]? = aa dv):p bE dv=aq:=by cases b:p bE dv with| false=>rfl| true=>rw [Kc a b] at h;cases h
def A4 (l:I dU):(g0 l).length=l.length:=by simp [g0]
def Qn (h:gw[bE]? = aa dv):(g0 gw)[bE]? = aa dv.nm:=by unfold g0;rw [fp,h];rfl
def Qo (h:gw.length<1\/4<gw.length):kP gw=2:=by rw [kP,aD h]
def Zg (a:¬(gw.length<1\/4<gw.length)) (hi:gw[bE]? = aa dv) (b:∀x ∈ gw.take bE,j2 x=0) (h:¬j2 dv=0):kP gw=j2 dv:=by rw [kP,aj a,Ay j2 hi (sf.2 b) h,uu h]
def vP (a:¬(gw.length<1\/4<gw.length)) (b:∀x ∈ gw,j2 x=0):kP gw=if g6 (g0 gw)=ad then 6 else if v' (λn o=>!(uR ((g0 gw).take n) o)) gw=ad then 9 else if v' (λn o=>o.fix.any<|sz gw n o) gw=ad then 5 else 0:=by rw [kP,aj a,sf.2 b,oB]
structure Kd (l:I dU):Prop where
 fH:¬(l.length<1\/4<l.length)
 dt:∀o ∈ l,j2 o=0
 nd:(g0 l).Nodup
 known:∀n o,l[n]? = aa o->uR ((g0 l).take n) o=ad
 km:∀n o,l[n]? = aa o->∀f ∈ o.fix,sz l n o f=aq
def Ke:kP gw=0↔Kd gw:=by
 constructor
 ·intro h;have b:¬(gw.length<1\/4<gw.length):=λb=>by rw [Qo b] at h;cases h
  have d:∀x ∈ gw,j2 x=0:=by rw [kP,aj b,m9] at h;exact sf.1 h.1
  rw [vP b d] at h;split at h;·cases h
  ·rename_i e;split at h;·cases h
   ·rename_i g;split at h;·cases h
    ·rename_i i;refine ⟨b,d,kK.2 (by simpa using e),λn o a=>?_,λn o a f c=>?_⟩;·have:=Qm (by simpa using g) a;simpa using this
     ·have:=Qm (p:=λn o=>o.fix.any<|sz gw n o) (by simpa using i) a;rw [vq] at this;simpa using this f c
 ·intro h;rw [vP h.fH h.dt,kK.1 h.nd,aj a8,Gr (λn o a=>by rw [h.known n o a];rfl),aj a8,Gr (λn o a=>by rw [vq];intro f c;rw [h.km n o a f c];decide),aj a8]
def vT (h:gw[bE]? = aa dv):rH (gw.take<|bE+1)=rH (gw.take bE)+dv.code.length:=by unfold rH;rw [h7,h];simp
def Qp (h:gw[bE]? = aa dv):v9 (gw.take<|bE+1)=v9 (gw.take bE)+dv.data:=by unfold v9;rw [h7,h];simp
def Qq (h:∀o ∈ gw,o.code.length<=2048):∀i,i<=gw.length->rH (gw.take i)<=2048*i| 0,_=>by simp [rH]| i+1,hi=>by obtain ⟨o,a⟩:∃o,gw[i]? = aa o:=⟨_,cy (by omega)⟩;have b:=Qq h i (by omega);have c:=h o<|aW a;rw [vT a];omega
def Qr (h:∀o ∈ gw,0<=o.data/\o.data<=512):∀i,i<=gw.length->0<=v9 (gw.take i)/\v9 (gw.take i)<=512*i| 0,_=>by simp [v9]| i+1,hi=>by obtain ⟨o,a⟩:∃o,gw[i]? = aa o:=⟨_,cy (by omega)⟩;have b:=Qr h i (by omega);have c:=h o<|aW a;rw [Qp a];omega
def Qs (h:j2 dv=0):0<=dv.data/\dv.data<=512:=(xv h).2.data
def C' (c:¬(gw.length<1\/4<gw.length)) (h:∀o ∈ gw,j2 o=0) {k:Z} (a:k<=gw.length):0<=bw gw k/\bw gw k<=9000:=by have d:=Qq (λo b=>(C8<|h o b).code) k a;unfold bw;omega
def C_ (c:¬(gw.length<1\/4<gw.length)) (h:∀o ∈ gw,j2 o=0) {k:Z} (a:k<=gw.length):0<=bK gw k/\bK gw k<=2048:=by have d:=Qr (λo b=>Qs<|h o b) k a;unfold bK;omega
def Kf (h:gw[bE]? = aa dv):bw gw (bE+1)=bw gw bE+(dv.code.length:ac):=by unfold bw;rw [vT h];omega
def Zh (h:gw[bE]? = aa dv):bK gw (bE+1)=bK gw bE+dv.data:=by unfold bK;rw [Qp h]
def Kg (h:gw[bE]? = aa dv):(qS gw)[bE]? = aa (tJ gw bE dv):=by unfold qS;rw [yg,h];rfl
def xw (l:I dU):(qS l).length=l.length:=by simp [qS]
def Zi (h:gw[bE]? = aa dv):(qS gw).take (bE+1)=(qS gw).take bE++[tJ gw bE dv]:=by rw [h7,Kg h];rfl
def Kh (h:gw[bE]? = aa dv):(qS gw++[je gw])[bE]? = aa (tJ gw bE dv):=by have hi:=(cN.1 h).1;rw [q9 (by rw [xw];exact hi),Kg h]
def Zj (l:I dU):(qS l++[je l])[l.length]? = aa (je l):=by rw [pH (by rw [xw];exact c7 _),xw,zV];rfl
def Ki (l:I dU) (n:Z) (o:dU):(qf l n o).length=o.aN.length+1:=by simp [qf]
def Zk (c:bE<gw.length) (d:uR ((g0 gw).take bE) dv=ad):∀k ∈ qf gw bE dv,k<gw.length:=by
 intro k a;unfold qf at a;rcases eR.1 a with rfl | a;·exact c
 ·obtain ⟨s,e,rfl⟩:=o2.1 a;have b:=gA.1 d s e;unfold hA;cases hi:idxOf s ((g0 gw).take bE) 0 with| none=>rw [hi] at b;cases b| some k=>have:=(cN.1 (se hi).2).1;rw [m3,A4] at this;show k<gw.length;omega
variable {az:ac}
def Qt (c:bE<gw.length) (d:uR ((g0 gw).take bE) dv=ad)  (f:0<=az) (g:az<=(dv.aN.length:ac)):(qf gw bE dv)[az.toNat]? = aa (h3 gw bE dv az)/\h3 gw bE dv az<gw.length:=by
 have a:az.toNat<(qf gw bE dv).length:=by rw [Ki];omega
 have b:(qf gw bE dv)[az.toNat]? = aa (qf gw bE dv)[az.toNat]:=cy a;have e:h3 gw bE dv az=(qf gw bE dv)[az.toNat]:=by unfold h3;rw [b];rfl
 rw [e];exact ⟨b,Zk c d _<|sD a⟩
def qg (c:I cK) (p:Z) (v:ac):I cK:=match c[p]? with| aa x=>c.set p ⟨x.op,v,x.b⟩| ao=>c
def A5 (l:I dU) (k:Z) (a:ac):ac:=((l[k]?).bind λo=>o.ge[a.toNat]?).getD 0
def rI (l:I dU) (n:Z) (o:dU) (f:ho):ac:= if f.kind=1 then ko o.code f.at_+bw l n else if f.kind=2 then bw l (h3 l n o f.m)+A5 l (h3 l n o f.m) (ko o.code f.at_) else ko o.code f.at_+bK l (h3 l n o f.m)
def ni (l:I dU) (n:Z) (o:dU) (c:I cK) (fs:I ho):I cK:=fs.foldl (λc f=>qg c f.at_.toNat<|rI l n o f) c
def qT (l:I dU):I cK:=l.mapIdx λn o=>(⟨13,bw l n+o.main,0⟩:cK)
def v_ (l:I dU) (n:Z) (o:dU):I cK:=ni l n o o.code o.fix
def y4 (l:I dU) (n:Z):I cK:=((l.mapIdx λn o=>v_ l n o).take n).flatten
def iL (l:I dU) (n:Z):I cK:=qT l++[⟨20,0,0⟩]++y4 l n
def jN (l:I dU):I cK:=iL l l.length
def iu (l:I dU):(I cK×ac)×ac:=if kP l≠0 then (([],0),kP l) else if 2048<bw l l.length\/512<bK l l.length then (([],0),2) else ((jN l,bK l l.length),0)
def Zl (c:I cK) (p:Z) (v:ac):(qg c p v).length=c.length:=by unfold qg;split<;>simp
variable {l7:I cK}
def Qu {x:cK} (h:l7[bE]? = aa x) (v:ac):qg l7 bE v=l7.set bE ⟨x.op,v,x.b⟩:=by unfold qg;rw [h]
variable {aL:Z}
def Qv (v:ac) (h:bE≠aL):(qg l7 bE v)[aL]? = l7[aL]?:=by
 unfold qg;split;·rw [MK h]
 ·rfl
def Gu (l:I dU) (n:Z) (o:dU):∀(fs:I ho) (c:I cK),(ni l n o c fs).length=c.length| [],c=>rfl| f::r,c=>by show (ni l n o (qg c f.at_.toNat<|rI l n o f) r).length=_;rw [Gu l n o r,Zl]
variable {BK:ho}
def Kj {fs:I ho}   (h:fs[aL]? = aa BK):ni gw bE dv l7 (fs.take<|aL+1)=qg (ni gw bE dv l7<|fs.take aL) BK.at_.toNat (rI gw bE dv BK):=by unfold ni;rw [h7,h];simp
def Qw:∀(fs:I ho) (c:I cK),(∀f ∈ fs,f.at_.toNat≠aL)->(ni gw bE dv c fs)[aL]? = c[aL]?| [],c,_=>rfl| f::r,c,h=>by show (ni gw bE dv (qg c f.at_.toNat<|rI gw bE dv f) r)[aL]? = _;rw [Qw r _ λg a=>h g (by simp [a]),Qv _<|h f aK]
def Zm {l:I dU} {n:Z}  (a:A2 dv)   (h:dv.fix[bE]? = aa BK):(ni l n dv dv.code<|dv.fix.take bE)[BK.at_.toNat]? = dv.code[BK.at_.toNat]?:=by
 refine Qw _ _ λg c e=>?_;obtain ⟨i,hi⟩:=jd c;have b:i<bE:=by have:=(cN.1 hi).1;rw [m3] at this;omega
 rw [MJ b] at hi;obtain ⟨a1,a2⟩:=cN.1 hi;obtain ⟨d,f⟩:=cN.1 h;have:=Ew.1 a.up i bE a1 d b;rw [a2,f] at this;obtain ⟨p,j,_⟩:=uQ (a.fix g<|aW hi).1;obtain ⟨k,m,_⟩:=uQ (a.fix BK<|aW h).1;omega
def y5 (l:I dU):(qT l).length=l.length:=by simp [qT]
def Zn (h:gw[bE]? = aa dv):(qT gw).take (bE+1)=(qT gw).take bE++[⟨13,bw gw bE+dv.main,0⟩]:=by rw [h7];unfold qT;rw [yg,h];rfl
def Kk (l:I dU):y4 l 0=[]:=rfl
def Kl (h:gw[bE]? = aa dv):y4 gw (bE+1)=y4 gw bE++v_ gw bE dv:=by unfold y4;rw [h7,yg,h];simp
def Qx:∀{i:Z},i<=gw.length->(y4 gw i).length=rH (gw.take i)| 0,_=>by simp [Kk,rH]| i+1,hi=>by obtain ⟨o,a⟩:∃o,gw[i]? = aa o:=⟨_,cy (by omega)⟩;rw [Kl a,iy,Qx (i:=i) (by omega),vT a];unfold v_;rw [Gu]
def Km {l:I dU} {i:Z} (hi:i<=l.length):((iL l i).length:ac)=bw l i:=by unfold iL bw;rw [iy,iy,y5,Qx hi,zP]
def Kn (h:gw[bE]? = aa dv):iL gw (bE+1)=iL gw bE++v_ gw bE dv:=by unfold iL;rw [Kl h,g2,g2,g2]
def Ko {l:I dU} {n:Z} {o:dU} {c:I cK} {p:Z} {x:cK} (v:ac) (h:c[p]? = aa x):(iL l n++c).set ((iL l n).length+p) ⟨x.op,v,x.b⟩=iL l n++qg c p v:=by rw [sJ _ _ ai,zQ,Qu h]
def Zo (h:∀i ∈ l7,nh i):∀i ∈ qg l7 bE az,nh i:=by
 unfold qg;split
 ·rename_i x a;intro i hi;rcases I.mem_or_eq_of_mem_set hi with hi | rfl;·exact h i hi
  ·exact h x<|aW a
 ·exact h
def Qy (l:I dU) (n:Z) (o:dU):∀(fs:I ho) (c:I cK),(∀i ∈ c,nh i)->∀i ∈ ni l n o c fs,nh i| [],c,h=>h| f::r,c,h=>Qy l n o r _<|Zo h
def Qz (h:∀o ∈ gw,j2 o=0):∀{i:Z},i<=gw.length->∀x ∈ y4 gw i,nh x
 | 0,_=>by simp [Kk]
 | i+1,hi=>by
  obtain ⟨o,b⟩:∃o,gw[i]? = aa o:=⟨_,cy (by omega)⟩;rw [Kl b];intro x a;rcases fe.1 a with a | a;·exact Qz h (i:=i) (by omega) x a
  ·exact Qy gw i o _ _ (xv<|h o<|aW b).2.code x a
def Zp (h:∀o ∈ gw,j2 o=0):∀x ∈ jN gw,nh x:=by
 intro x a;unfold jN iL at a;rcases fe.1 a with a | a
 ·rcases fe.1 a with a | a;·unfold qT at a;obtain ⟨n,b⟩:=jd a;rw [yg] at b;obtain ⟨o,_,rfl⟩:=eQ.1 b;exact ⟨show (1:ac)<=13 by decide,show (13:ac)<=22 by decide⟩
  ·rw [e_] at a;subst a;exact ⟨a8,a8⟩
 ·exact Qz h (c7 _) x a
def QA (l:I dU):((jN l).length:ac)=bw l l.length:=Km<|c7 _
variable {bc:I ar}
def Bb:∀(m:I<|fz<|I ar) (i:Z),(eq bc m i).isSome=ad↔bc ∈ m.map (·.1)
 | [],i=>by simp [eq]
 | e::r,i=>by
  rw [eq,nt,eR];by_cases h:bc=e.1;·simp [h]
  ·rw [aj (by simpa using h),Bb r<|i+1];simp [h]
variable {aF:I<|fz<|I ar}
def QB {v:aR}  :(bc ∈ aF.map (·.1)->(gB bc v aF bE).length=aF.length)/\(bc ∉ aF.map (·.1)->(gB bc v aF bE).map (·.1)=aF.map (·.1)++[bc]):=by
 constructor;·intro h;have a:=(Bb aF 0).2 h;unfold gB;cases b:eq bc aF 0 with| none=>rw [b] at a;cases a| some r=>simp
 ·intro h;have a:eq bc aF 0=ao:=by cases b:eq bc aF 0 with| none=>rfl| some r=>exact absurd ((Bb aF 0).1 (by rw [b];rfl)) h
  unfold gB;rw [a];simp
def wa (ns:I<|I ar) (i:Z) (M:I<|fz<|I ar):Prop:= (∀s,bO s M (am an 0) = am an (((ns.take i).count s:Z):ac))/\(((ns.take i).Nodup/\M.map (·.1)=ns.take i)\/(¬(ns.take i).Nodup/\M.length<i))
def wa.zero (ns:I<|I ar):wa ns 0 []:=⟨λs=>by simp [bO,eq],bB ⟨aK,aK⟩⟩
variable {bg:I<|I ar}
def wa.step (h:wa bg bE aF) (m:bg[bE]? = aa bc) (c:Z):wa bg (bE+1)<|gB bc (am an<|((bg.take bE).count bc:Z)+1) aF c:=by
 have r:=(cN.1 m).1;have o:(bg.take bE).length=bE:=by simp;omega
 have d:bg.take (bE+1)=bg.take bE++[bc]:=by rw [h7,m];rfl
 refine ⟨λs=>?_,?_⟩
 ·by_cases e:s=bc;·subst e;rw [yM,d,EI];simp
  ·rw [CF _ aF c _ e,h.1 s,d,EI];have p:¬bc=s:=λk=>e k.symm;simp [Ie,p]
 ·rcases h.2 with ⟨l,g⟩ | ⟨l,g⟩
  ·by_cases j:bc ∈ bg.take bE
   ·right;refine ⟨λi=>?_,?_⟩;·rw [d,l9] at i;exact i.2.2 bc j bc aK O
    ·rw [QB.1 (by rw [g];exact j),<-fB (f:=(·.1)),g,o];omega
   ·left;refine ⟨?_,?_⟩;·rw [d,l9];exact ⟨l,aK,λa q b n e=>by rw [e_] at n;subst n;subst e;exact j q⟩
    ·rw [QB.2 (by rw [g];exact j),g,d]
  ·right;refine ⟨λi=>l ?_,?_⟩;·rw [d,l9] at i;exact i.1
   ·have:=Jx bc (am an<|((bg.take bE).count bc:Z)+1) aF c;omega
def wa.fH (h:wa bg bg.length aF):aF.length<bg.length↔g6 bg=ad:=by
 have a:=h.2;rw [gH] at a;rcases a with ⟨b,a⟩ | ⟨b,a⟩
 ·rw [kK] at b;have:aF.length=bg.length:=by rw [<-fB (f:=(·.1)),a]
  rw [b];constructor;·intro;omega
  ·intro e;cases e
 ·rw [kK] at b;exact ⟨λ_=>by simpa using b,λ_=>a⟩
end Go.Bw
end
section
namespace Go.Bw
open Go
abbrev Tx:=I ar
def wb:I ar:=[109,111,100,117,108,101]
def sA:I ar:=[117,115,101]
def y6:I ar:=[112,117,98]
def l0:I ar:=[99,111,110,115,116]
def l1:I ar:=[118,97,114]
def l2:I ar:=[97,114,114,97,121]
def sB:I ar:=[112,114,111,99]
def tK:I ar:=[108,111,99,97,108]
def cj:I ar:=[109,97,105,110]
def hT:I ar:=[105,102]
def hF:I ar:=[101,108,115,101]
def hU:I ar:=[119,104,105,108,101]
def hG:I ar:=[114,101,116,117,114,110]
def hH:I ar:=[111,117,116]
def xx:I ar:=[105,110]
def J (l:I Tx):Tx:=Lib.join l [32]
def lA (mod nm:Tx):I Tx:=if (mod==[])=ad then [nm] else [mod,[46],nm]
def opsL:I Tx:=[[38],[124],[43],[45],[42],[47],[37],[61],[60]]
def y7 (op:ac):Tx:=(opsL[(op-7).toNat]?).getD []
def jO:I (I Tx)->I Tx| []=>[]| [x]=>x| x::y::r=>x++[[44]]++jO (y::r)
def jp (l:I<|I Tx):I Tx:=[[40]]++jO l++[[41]]
def at_ (l:I<|I Tx) (i:Z):I Tx:=(l[i]?).getD []
def qU (op n:ac) (mod nm:Tx) (a:I<|I Tx):I Tx:= if op=1 then [lg n] else if op=2 then [xx] else if op=3 then lA mod nm else if op=4 then lA mod nm++[[91]]++at_ a 0++[[93]] else if op=5 then lA mod nm++jp a else if op=6 then [[33]]++at_ a 0 else [[40]]++at_ a 0++[y7 op]++at_ a 1++[[41]]
mutual
def iE:cF->I Tx| .mk op n mod nm args=>qU op n mod nm<|gx args
def gx:I cF->I (I Tx)| []=>[]| x::r=>iE x::gx r
end
def sC (l:I Tx):I Tx:=[[123]]++l++[[125]]
def qh (op:ac) (mod nm:Tx) (a:I<|I Tx) (b:I Tx) (c:Z) (o:I Tx):I Tx:= if op=4\/op=5 then [if op=5 then hU else hT]++at_ a 0++sC b++(if 0<c then [hF]++sC o else []) else (if op=6 then [hG]++at_ a 0 else if op=7 then [hH]++at_ a 0 else if op=3 then lA mod nm++jp a else if op=1 then lA mod nm++[[61]]++at_ a 0 else if op=2 then lA mod nm++[[91]]++at_ a 0++[[93],[61]]++at_ a 1 else [])++[[59]]
mutual
def oN:cG->I Tx| .mk op mod nm args body other=>qh op mod nm (gx args) (kF body) other.length<|kF other
def kF:I cG->I Tx| []=>[]| x::r=>oN x++kF r
end
def dy (l:I cG):I Tx:=sC<|kF l
def xy (b:aS):I Tx:=if b=ad then [y6] else []
def y8 (u:Tx):I Tx:=[sA,u,[59]]
def tL (u:Tx):I Tx:=[tK,u,[59]]
def uV (d:fd):I Tx:=if d.kind=1 then [l0,d.nm,[61],lg d.n] else if d.kind=2 then [l1,d.nm] else if d.kind=3 then [l2,d.nm,[91],lg d.n,[93]] else []
def pt (d:fd):I Tx:=xy d.dp++uV d++[[59]]
def lB (p:gU):I Tx:=xy p.dp++[sB,p.nm,[40]]++jO (p.params.map λs=>[s])++[[41]]++p.aX.flatMap tL++dy p.body
def rJ (m:cV):I Tx:=[wb,m.nm,[123]]++m.aN.flatMap y8++m.decls.flatMap pt++m.procs.flatMap lB++[cj]++dy m.main++[[125]]
def iX {a b:aJ} (h:(a+b).aM=0):a.aM=0/\b.aM=0:=by rw [aJ.ga] at h;omega
variable {dS:aS}
def uW (h:(hB dS).aM=0):dS=aq:=by cases dS;rfl;cases h
def A6 (h:(fq dS).aM=0):dS=aq:=by cases dS;rfl;cases h
def QC (h:(i4 dS).aM=0):dS=aq:=by cases dS;rfl;cases h
structure xz (op n:ac) (mod nm:Tx) (args:I cF) (d:Z):Prop where
 deep:d<=6
 kind:1<=op/\op<=15
 name:cJ (fL op 3 5) mod nm=aq
 hD:o9 (ll op) args.length=aq
 fH:args.length<=3
 num:lN op n=aq
 sub:(gg args<|d+1).aM=0
variable {az b':ac} {bR dK:Tx} {e9:I cF} {bE:Z}
def Da (h:(cM (.mk az b' bR dK e9) bE).aM=0):xz az b' bR dK e9 bE:=by
 unfold cM at h;split at h;·cases h
 ·rename_i m;obtain ⟨h,c⟩:=iX h;obtain ⟨h,d⟩:=iX h;obtain ⟨e,a⟩:=iX h;have b:=QC e;obtain ⟨f,g⟩:=Wl b;unfold iS at a;obtain ⟨a,i⟩:=iX a;obtain ⟨j,k⟩:=iX a;rw [N0] at b;have l:=A6 i;exact ⟨ai,by simp [fL] at b;omega,by rw [<-f];exact uW j,by rw [<-g];exact uW k,by simp at l;omega,uW d,c⟩
def QD {x:cF}   (h:(gg (x::e9) bE).aM=0):(cM x bE).aM=0/\(gg e9 bE).aM=0:=by unfold gg at h;exact iX h
def xz.QE (h:xz az b' bR dK e9 bE) (a:az=4\/az=6):e9.length=1:=by have:=h.hD;rcases a with rfl | rfl<;>simp [o9,ll] at this<;>omega
def xz.Zq (h:xz az b' bR dK e9 bE) (a:7<=az):e9.length=2:=by have:=h.hD;unfold o9 ll at this;rw [aj ai,aj ai,aj ai] at this;simp at this;omega
def QF:∀l:I cF,(gx l).length=l.length| []=>rfl| x::r=>by unfold gx;simp [QF r]
def Zr (mod nm:Tx):lA mod nm≠[]:=by unfold lA;split<;>simp
def QG:∀x:cF,iE x≠[]
 | .mk op n mod nm args=>by
  unfold iE qU jp;have:=Zr mod nm;repeat' split
  all_goals simp_all
def QH:∀(l:I cF),∀x ∈ gx l,x≠[]
 | [],_,h=>by simp [gx] at h
 | y::r,x,h=>by
  unfold gx at h;rcases eR.1 h with rfl | h;·exact QG y
  ·exact QH r x h
structure jw (op:ac) (mod nm:Tx) (args:I cF) (body other:I cG) (d:Z):Prop where
 kind:1<=op/\op<=7
 name:cJ (fL op 1 3) mod nm=aq
 hD:o9 (rm op) args.length=aq
 fH:args.length<=3
 exprs:(gg args 1).aM=0
 form:o' op body.length other.length=aq
 body:(inner op||decide (0<body.length))=ad->(pY (d+1) body.length<|bf body<|d+1).aM=0
 other:0<other.length->(pY (d+1) other.length<|bf other<|d+1).aM=0
variable {dV qV:I cG}
def Db (h:(jg (.mk az bR dK e9 dV qV) bE).aM=0):jw az bR dK e9 dV qV bE:=by
 unfold jg at h;obtain ⟨h,d⟩:=iX h;obtain ⟨h,e⟩:=iX h;obtain ⟨h,f⟩:=iX h;obtain ⟨h,g⟩:=iX h;obtain ⟨i,a⟩:=iX h;have b:=QC i;obtain ⟨j,k⟩:=ZL b;unfold iS at a;obtain ⟨a,l⟩:=iX a;obtain ⟨m,n⟩:=iX a;rw [N1] at b;have o:=A6 l;refine ⟨by simp [fL] at b;omega,by rw [<-j];exact uW m,by rw [<-k];exact uW n,by simp at o;omega,g,uW f,λc=>?_,λc=>?_⟩;·rw [aD c] at e;exact e
 ·rw [aD c] at d;exact d
variable {b6:aJ}
def Dc {d len:Z}  (h:(pY d len b6).aM=0):d<=6/\len<=10/\b6.aM=0:=by
 unfold pY at h;split at h;·cases h
 ·obtain ⟨a,b⟩:=iX h;have:=A6 a;simp at this;exact ⟨ai,ai,b⟩
def Kq {x:cG}   (h:(bf (x::dV) bE).aM=0):(jg x bE).aM=0/\(bf dV bE).aM=0:=by unfold bf at h;exact iX h
def jw.len (h:jw az bR dK e9 dV qV bE) (b:az≠3):e9.length=if az=2 then 2 else 1:=by
 have:=h.hD;unfold o9 rm at this;by_cases a:az=2;·rw [aD a] at this ⊢;simp at this;omega
 ·rw [aj a,aj b] at this;rw [aj a];simp at this;omega
def jw.Zs (h:jw az bR dK e9 dV qV bE):((az≠4/\az≠5)->dV=[])/\(az≠4->qV=[]):=by
 have:=h.form;unfold o' inner at this;rw [kG] at this;refine ⟨λ⟨a,b⟩=>?_,λa=>?_⟩;·have c:=this.1;simpa [a,b] using c
 ·have c:=this.2;simpa [a] using c
def Mc:∀x:cG,oN x≠[]| .mk op mod nm args body other=>by unfold oN qh;split<;>simp
def Zt {d:fd} (h:(kz d).aM=0):d.kind=1\/d.kind=2\/d.kind=3:=by
 unfold kz at h;obtain ⟨_,h⟩:=iX h;by_cases a:d.kind=1;·exact bB a
 ·rw [aj a] at h;by_cases b:d.kind=2;·exact be<|bB b
  ·rw [aj b] at h;by_cases c:d.kind=3;·exact be<|be c
   ·rw [aj c] at h;cases h
def QJ:∀{l:I fd},(hj l).aM=0->∀d ∈ l,(kz d).aM=0
 | [],_,d,a=>by simp at a
 | x::r,h,d,a=>by
  unfold hj at h;obtain ⟨b,c⟩:=iX h;rcases eR.1 a with rfl | a;·exact b
  ·exact QJ c d a
def QK:∀{l:I gU},(iz l).aM=0->∀d ∈ l,(rl d).aM=0
 | [],_,d,a=>by simp at a
 | x::r,h,d,a=>by
  unfold iz at h;obtain ⟨b,c⟩:=iX h;rcases eR.1 a with rfl | a;·exact b
  ·exact QK c d a
def Zu:vH b6=0↔b6.aM=0:=by
 unfold vH aJ.aM;split;·omega
 ·split;·omega
  ·split<;>omega
end Go.Bw
end
section
namespace Go.Bw
open Go
def dO (s:Tx):Tok:=match Lib.atoiAll s with| .ok v=>⟨2,v,[]⟩| _=>if gG s=ad then ⟨1,0,s⟩ else ⟨3,0,s⟩
def Kr (t:Tok):Prop:=uq t=ad/\mG t=ad
def Gv:∀u ∈ vF,dO [u]=⟨3,0,[u]⟩:=a8
variable {bR:Tx}
def Dd (h:gG bR=ad):dO bR=⟨1,0,bR⟩:=by
 cases bR with
 | nil=>simp [gG] at h
 | cons c r=>
  have a:pV (c.toNat:ac)=ad:=by simp only [gG,eI] at h;simpa using h.1.2
  have e:97<=c.toNat:=by simp [pV] at a;omega
  have b:∀v,Lib.atoiAll (c::r)≠.ok v:=by intro v hv;rw [Lib.atoiAll_plain c r ai ai] at hv;unfold Lib.parseMag Lib.parseUint10 at hv;rw [aj aK,aj ai] at hv;cases hv
  unfold dO;cases d:Lib.atoiAll (c::r) with| ok v=>exact absurd d<|b v| _=>simp [h]
variable {az:ac}
def p6 (a:0<=az) (b:az<=1099511627775):dO (lg az)=⟨2,az,[]⟩:=by unfold dO;rw [IU a,NU ai];simp;omega
def Gw {t:Tok} (h:Kr t):dO (qB t)=t:=by
 obtain ⟨b,a⟩:=h;obtain ⟨k,n,s⟩:=t;have d:k=1\/k=2\/k=3:=by simp [uq] at b;omega
 rcases d with rfl | rfl | rfl;·simp only [mG,aD,eI,j8] at a;obtain ⟨rfl,e⟩:=a;exact Dd e
 ·have:s=[]/\0<=n/\n<=1099511627775:=by simpa [mG] using a
  obtain ⟨rfl,f,g⟩:=this;exact p6 f g
 ·have:n=0/\s.length=1/\pW (s[0]?.getD 0)=ad:=by simpa [mG] using a
  obtain ⟨rfl,i,j⟩:=this;match s,i with| [c],_=>exact Gv c (by simpa [pW] using j)
def jP (w:Tx):Prop:=Kr (dO w)/\qB (dO w)=w
def kQ (h:gG bR=ad):jP bR:=by unfold jP;rw [Dd h];exact ⟨⟨O,by simp [mG,h]⟩,O⟩
def jC {u:ar} (h:u ∈ vF):jP [u]:=by unfold jP;rw [Gv u h];exact ⟨⟨O,by simp [mG,pW,h]⟩,O⟩
def Ks (a:0<=az) (b:az<=1099511627775):jP<|lg az:=by unfold jP;rw [p6 a b];exact ⟨⟨O,by simp [mG];omega⟩,O⟩
variable {eh:I Tx}
def Zv (h:∀w ∈ eh,jP w):vG (eh.map dO)=J eh:=by
 unfold vG J
 congr 1
 rw [zR]
 conv=>rhs; rw [<-I.map_id eh]
 exact ya λw a=>(h w a).2
def nF (h:gN bR=ad):gG bR=ad:=by simp only [gN,eI] at h;exact h.1
variable {dK:Tx}
def Kt (h:cJ ad bR dK=aq):(bR=[]\/gN bR=ad)/\gN dK=ad:=by unfold cJ at h;cases a:(bR==[]) with| true=>simp [a] at h;simp at a;exact ⟨bB a,by simpa using h⟩| false=>simp [a] at h;exact ⟨be h.1,h.2⟩
def QL (h:cJ aq bR dK=aq):bR=[]/\dK=[]:=by unfold cJ at h;rw [Wk] at h;simpa using h
def A7 (h:cJ ad bR dK=aq):∀w ∈ lA bR dK,jP w:=by
 obtain ⟨c,b⟩:=Kt h;intro w a;unfold lA at a;split at a;·rw [e_] at a;subst a;exact kQ<|nF b
 ·rename_i d;have:gN bR=ad:=c.resolve_left (by simpa using d);simp only [eR,vt,fI] at a;rcases a with rfl | rfl | rfl;·exact kQ<|nF this
  ·exact jC a8
  ·exact kQ<|nF b
variable {xA:I<|I Tx}
def QM (h:∀x ∈ xA,∀w ∈ x,jP w):∀w ∈ jO xA,jP w:=by
 induction xA with
 | nil=>intro w a;simp [jO] at a
 | cons x r b=>
  cases r with
  | nil=>intro w a;exact h x aK w a
  | cons y r=>
   intro w a;simp only [jO,fe,e_] at a;rcases a with (a | rfl) | a;·exact h x aK w a
   ·exact jC a8
   ·exact b (λz c=>h z<|m1 _ c) w a
def QN (h:∀x ∈ xA,∀w ∈ x,jP w):∀w ∈ jp xA,jP w:=by
 intro w a;simp only [jp,fe,e_] at a;rcases a with (rfl | a) | rfl;·exact jC a8
 ·exact QM h w a
 ·exact jC a8
variable {bE:Z}
def at_mem (h:bR ∈ at_ xA bE):∃x ∈ xA,bR ∈ x:=by unfold at_ at h;cases a:xA[bE]? with| none=>simp [a] at h| some x=>rw [a] at h;exact ⟨x,aW a,h⟩
def Zw (h:7<=az/\az<=15):jP<|y7 az:=by have:az=7\/az=8\/az=9\/az=10\/az=11\/az=12\/az=13\/az=14\/az=15:=ai;rcases this with rfl | rfl | rfl | rfl | rfl | rfl | rfl | rfl | rfl<;>exact jC a8
def Ku (h:lN 1 az=aq):0<=az/\az<=1099511627775:=by simp [lN] at h;omega
variable {e9:I cF}
def Zx {op n:ac}    (h:xz op n bR dK e9 bE) (f:∀x ∈ gx e9,∀w ∈ x,jP w):∀w ∈ qU op n bR dK (gx e9),jP w:=by
 have p:=h.kind;have d:∀i w,w ∈ at_ (gx e9) i->jP w:=λi w c=>by obtain ⟨x,q,r⟩:=at_mem c;exact f x q w r
 intro w c;unfold qU at c;have e:=h.name;by_cases g:op=1;·subst g;rw [aD rfl,e_] at c;subst c;obtain ⟨a,b⟩:=Ku h.num;exact Ks a b
 rw [aj g] at c;by_cases j:op=2;·rw [aD j,e_] at c;subst c;exact kQ a8
 rw [aj j] at c;by_cases k:op=3;·subst k;rw [aD rfl] at c;exact A7 e w c
 rw [aj k] at c;by_cases l:op=4
 ·subst l;rw [aD rfl] at c;simp only [fe,e_] at c;rcases c with ((c | rfl) | c) | rfl;·exact A7 e w c
  ·exact jC a8
  ·exact d _ _ c
  ·exact jC a8
 rw [aj l] at c;by_cases m:op=5
 ·subst m;rw [aD rfl,fe] at c;rcases c with c | c;·exact A7 e w c
  ·exact QN f w c
 rw [aj m] at c;by_cases o:op=6
 ·rw [aD o,fe,e_] at c;rcases c with rfl | c;·exact jC a8
  ·exact d _ _ c
 rw [aj o] at c;simp only [fe,e_] at c;rcases c with (((rfl | c) | rfl) | c) | rfl;·exact jC a8
 ·exact d _ _ c
 ·exact Zw ⟨ai,p.2⟩
 ·exact d _ _ c
 ·exact jC a8
mutual
def Zy:∀(x:cF) (d:Z),(cM x d).aM=0->∀w ∈ iE x,jP w| .mk op n mod nm args,d,h=>by have a:=Da h;unfold iE;exact Zx a<|Kv args (d+1) a.sub
def Kv:∀(l:I cF) (d:Z),(gg l d).aM=0->∀x ∈ gx l,∀w ∈ x,jP w
 | [],_,_=>by intro x a;simp [gx] at a
 | y::r,d,h=>by
  obtain ⟨b,c⟩:=QD h;intro x a;unfold gx at a;rcases eR.1 a with rfl | a;·exact Zy y d b
  ·exact Kv r d c x a
end
def Df (h:∀w ∈ eh,jP w):∀w ∈ sC eh,jP w:=by
 intro w a;simp only [sC,fe,e_] at a;rcases a with (rfl | a) | rfl;·exact jC a8
 ·exact h w a
 ·exact jC a8
variable {dV qV:I cG}
def Zz (h:jw az bR dK e9 dV qV bE) (d:∀w ∈ kF dV,jP w) (e:∀w ∈ kF qV,jP w) : ∀w ∈ qh az bR dK (gx e9) (kF dV) qV.length (kF qV),jP w:=by
 have k:=h.kind;have f:=Kv e9 1 h.exprs;have b:∀i w,w ∈ at_ (gx e9) i->jP w:=λi w a=>by obtain ⟨x,g,j⟩:=at_mem a;exact f x g w j
 have c:=h.name;intro w a;unfold qh at a;rcases (by omega:az=1\/az=2\/az=3\/az=4\/az=5\/az=6\/az=7) with rfl | rfl | rfl | rfl | rfl | rfl | rfl
 ·simp only [dD,dF,reduceCtorEq,oo,iw,fe,e_] at a;rcases a with ((a | rfl) | a) | rfl;·exact A7 c w a
  ·exact jC a8
  ·exact b _ _ a
  ·exact jC a8
 ·simp only [dD,dF,reduceCtorEq,oo,iw,fe,e_,eR,vt,fI] at a;rcases a with ((((a | rfl) | a) | (rfl | rfl)) | a) | rfl;·exact A7 c w a
  ·exact jC a8
  ·exact b _ _ a
  ·exact jC a8
  ·exact jC a8
  ·exact b _ _ a
  ·exact jC a8
 ·simp only [dD,dF,reduceCtorEq,oo,iw,fe,e_] at a;rcases a with (a | a) | rfl;·exact A7 c w a
  ·exact QN f w a
  ·exact jC a8
 ·simp only [dD,dF,reduceCtorEq,oo,fI,mj,fe,e_] at a;rcases a with ((rfl | a) | a) | a;·exact kQ a8
  ·exact b _ _ a
  ·exact Df d w a
  ·split at a
   ·simp only [fe,e_] at a;rcases a with rfl | a;·exact kQ a8
    ·exact Df e w a
   ·simp at a
 ·simp only [dD,dF,reduceCtorEq,oo,or_true,fe,e_] at a;rcases a with ((rfl | a) | a) | a;·exact kQ a8
  ·exact b _ _ a
  ·exact Df d w a
  ·split at a
   ·simp only [fe,e_] at a;rcases a with rfl | a;·exact kQ a8
    ·exact Df e w a
   ·simp at a
 ·simp only [dD,dF,reduceCtorEq,oo,iw,fe,e_] at a;rcases a with (rfl | a) | rfl;·exact kQ a8
  ·exact b _ _ a
  ·exact jC a8
 ·simp only [dD,dF,reduceCtorEq,oo,iw,fe,e_] at a;rcases a with (rfl | a) | rfl;·exact kQ a8
  ·exact b _ _ a
  ·exact jC a8
def jw.QO (b:jw az bR dK e9 dV qV bE):(bf dV<|bE+1).aM=0/\(bf qV<|bE+1).aM=0:=by
 constructor
 ·by_cases a:(inner az||decide (0<dV.length))=ad;·exact (Dc<|b.body a).2.2
  ·have:dV=[]:=by simp at a;exact a.2
   subst this;rfl
 ·by_cases a:0<qV.length;·exact (Dc<|b.other a).2.2
  ·have:qV=[]:=s' ai;subst this;rfl
mutual
def ZA:∀(x:cG) (d:Z),(jg x d).aM=0->∀w ∈ oN x,jP w| .mk op mod nm args body other,d,h=>by have a:=Db h;unfold oN;exact Zz a (wC body (d+1) a.QO.1)<|wC other (d+1) a.QO.2
def wC:∀(l:I cG) (d:Z),(bf l d).aM=0->∀w ∈ kF l,jP w
 | [],_,_=>by intro x b;simp [kF] at b
 | y::r,d,h=>by
  obtain ⟨c,e⟩:=Kq h;intro w a;unfold kF at a;rcases fe.1 a with a | a;·exact ZA y d c w a
  ·exact wC r d e w a
end
def y9:∀{l:I Tx},(du l).aM=0->∀s ∈ l,gN s=ad
 | [],_,s,a=>by simp at a
 | x::r,h,s,a=>by
  unfold du at h;obtain ⟨b,c⟩:=iX h;rcases eR.1 a with rfl | a;·simpa using uW b
  ·exact y9 c s a
structure Gy (d:fd):Prop where
 name:gN d.nm=ad
 kind:d.kind=1\/d.kind=2\/d.kind=3
 n1:d.kind=1->0<=d.n/\d.n<=1099511627775
 n2:d.kind=2->d.n=0
 n3:d.kind=3->1<=d.n/\d.n<=32
variable {h4:fd}
def y' (h:(kz h4).aM=0):Gy h4:=by
 have b:=Zt h;unfold kz at h;obtain ⟨c,a⟩:=iX h;refine ⟨y9 c h4.nm aK,b,λe=>?_,λe=>?_,λe=>?_⟩;·rw [aD e] at a;have:=uW a;simp at this;omega
 ·rw [aj ai,aD e] at a;have:=uW a;simpa using this
 ·rw [aj ai,aj ai,aD e] at a;have:=uW a;simp at this;omega
def ZB (h:(kz h4).aM=0):∀w ∈ pt h4,jP w:=by
 have d:=y' h;have f:=kQ<|nF d.name;intro w c;simp only [pt,fe,e_] at c;rcases c with (c | c) | rfl
 ·unfold xy at c;split at c;·rw [e_] at c;subst c;exact kQ a8
  ·simp at c
 ·unfold uV at c;rcases d.kind with e | e | e
  ·obtain ⟨a,b⟩:=d.n1 e;rw [aD e] at c;simp only [eR,vt,fI] at c;rcases c with rfl | rfl | rfl | rfl;·exact kQ a8
   ·exact f
   ·exact jC a8
   ·exact Ks a b
  ·rw [aj ai,aD e] at c;simp only [eR,vt,fI] at c;rcases c with rfl | rfl;·exact kQ a8
   ·exact f
  ·obtain ⟨a,b⟩:=d.n3 e;rw [aj ai,aj ai,aD e] at c;simp only [eR,vt,fI] at c;rcases c with rfl | rfl | rfl | rfl | rfl;·exact kQ a8
   ·exact f
   ·exact jC a8
   ·exact Ks ai ai
   ·exact jC a8
 ·exact jC a8
structure QP (p:gU):Prop where
 name:gN p.nm=ad
 params:∀s ∈ p.params,gN s=ad
 aX:∀s ∈ p.aX,gN s=ad
 fH:p.params.length<=3/\p.aX.length<=4
 body:(bM p.body 1).aM=0
variable {i7:gU}
def y_ (h:(rl i7).aM=0):QP i7:=by unfold rl at h;obtain ⟨h,a⟩:=iX h;obtain ⟨h,b⟩:=iX h;obtain ⟨h,c⟩:=iX h;obtain ⟨d,e⟩:=iX h;have:=A6 b;simp at this;exact ⟨y9 d i7.nm aK,y9 e,y9 c,ai,a⟩
def QQ (h:(bM dV bE).aM=0):∀w ∈ dy dV,jP w:=by unfold bM at h;exact Df<|wC dV bE (Dc h).2.2
def ZC (h:(rl i7).aM=0):∀w ∈ lB i7,jP w:=by
 have b:=y_ h;intro w a;simp only [lB,fe,e_,eR,vt,fI,nO] at a;rcases a with ((((a | (rfl | rfl | rfl)) | a) | rfl) | ⟨s,c,a⟩) | a
 ·unfold xy at a;split at a;·rw [e_] at a;subst a;exact kQ a8
  ·simp at a
 ·exact kQ a8
 ·exact kQ<|nF b.name
 ·exact jC a8
 ·refine QM (λx d w a=>?_) w a;obtain ⟨s,c,rfl⟩:=o2.1 d;rw [e_] at a;subst a;exact kQ<|nF<|b.params _ c
 ·exact jC a8
 ·simp only [tL,eR,vt,fI] at a;rcases a with rfl | rfl | rfl;·exact kQ a8
  ·exact kQ<|nF<|b.aX _ c
  ·exact jC a8
 ·exact QQ b.body w a
structure nG (m:cV):Prop where
 name:gN m.nm=ad
 aN:∀s ∈ m.aN,gN s=ad
 fH:m.aN.length<=3/\m.decls.length<=10/\m.procs.length<=6
 decls:∀d ∈ m.decls,(kz d).aM=0
 procs:∀p ∈ m.procs,(rl p).aM=0
 main:(bM m.main 1).aM=0
variable {bD:cV}
def Gz (h:(tj bD).aM=0):nG bD:=by unfold tj at h;obtain ⟨h,a⟩:=iX h;obtain ⟨h,b⟩:=iX h;obtain ⟨h,c⟩:=iX h;obtain ⟨h,d⟩:=iX h;obtain ⟨e,f⟩:=iX h;have:=A6 d;simp at this;exact ⟨y9 e bD.nm aK,y9 f,ai,QJ c,QK b,a⟩
def QR (h:(tj bD).aM=0):∀w ∈ rJ bD,jP w:=by
 have b:=Gz h;intro w a;simp only [rJ,fe,e_,eR,vt,fI,nO] at a;rcases a with ((((((rfl | rfl | rfl) | ⟨s,c,a⟩) | ⟨d,e,a⟩) | ⟨p,f,a⟩) | rfl) | a) | rfl;·exact kQ a8
 ·exact kQ<|nF b.name
 ·exact jC a8
 ·simp only [y8,eR,vt,fI] at a;rcases a with rfl | rfl | rfl;·exact kQ a8
  ·exact kQ<|nF<|b.aN _ c
  ·exact jC a8
 ·exact ZB (b.decls d e) w a
 ·exact ZC (b.procs p f) w a
 ·exact kQ a8
 ·exact QQ b.main w a
 ·exact jC a8
end Go.Bw
end
section
namespace Go.Bw
open Go
abbrev Tk:=I Tok
def bG (s:Tx):Tk->aA Tk| []=>ao| t::r=>if (t.text==s)=ad then aa r else ao
def oO (k:ac):Tk->aA (Tok×Tk)| []=>ao| t::r=>if t.kind=k then aa (t,r) else ao
def ie (l:Tk):aA<|Tx×Tk:=(oO 1 l).bind λp=>if gN p.1.text=ad then aa (p.1.text,p.2) else ao
def oP (l:Tk):aA<|ac×Tk:=(oO 2 l).map λp=>(p.1.n,p.2)
def mS (l:Tk):aA<|(Tx×Tx)×Tk:=(ie l).bind λa=>match bG [46] a.2 with| aa r=>(ie r).map λb=>((a.1,b.1),b.2)| ao=>aa (([],a.1),a.2)
def nj (a:Tk->aA (cF×Tk)):Z->Tk->aA (I cF×Tk)| 0,_=>ao| n+1,l=>(a l).bind λx=>match bG [41] x.2 with| aa r=>aa ([x.1],r)| ao=>match bG [44] x.2 with| aa r=>(nj a n r).map λq=>(x.1::q.1,q.2)| ao=>ao
def mT (a:Tk->aA (cF×Tk)) (l:Tk):aA<|I cF×Tk:=match bG [41] l with| aa r=>aa ([],r)| ao=>nj a (l.length+1) l
def qi:I Tx->Z->Tk->aA (Z×Tk)| [],_,_=>ao| w::ws,i,l=>match bG w l with| aa r=>aa (i,r)| ao=>qi ws (i+1) l
def oQ (c:Tk->aA (cF×Tk)) (l:Tk):aA<|cF×Tk:=(c l).bind λa=>(qi opsL 0 a.2).bind λo=>(c o.2).bind λb=>(bG [41] b.2).map λr=>(cF.mk (7+(o.1:ac)) 0 [] [] [a.1,b.1],r)
def pv (a:Tk->aA (cF×Tk)) (mod nm:Tx) (l:Tk):aA<|cF×Tk:=match bG [91] l with| aa r=>(a r).bind λx=>(bG [93] x.2).map λr=>(cF.mk 4 0 mod nm [x.1],r)| ao=>match bG [40] l with| aa r=>(mT a r).map λq=>(cF.mk 5 0 mod nm q.1,q.2)| ao=>aa (cF.mk 3 0 mod nm [],l)
def nk (a:Tk->aA (cF×Tk)) (l:Tk):aA<|cF×Tk:=match bG xx l with| aa r=>aa (cF.mk 2 0 [] [] [],r)| ao=>match bG [33] l with| aa r=>(a r).map λx=>(cF.mk 6 0 [] [] [x.1],x.2)| ao=>match bG [40] l with| aa r=>oQ a r| ao=>(mS l).bind λp=>pv a p.1.1 p.1.2 p.2
def bl:Z->Tk->aA (cF×Tk)| 0,_=>ao| f+1,l=>match l with| []=>ao| t::r=>if t.kind=2 then aa (cF.mk 1 t.n [] [] [],r) else nk (bl f) (t::r)
def hI (l:Tk):aA<|cG×Tk:=match bG hG l with| aa r=>(bl 6 r).map λx=>(cG.mk 6 [] [] [x.1] [] [],x.2)| ao=>match bG hH l with| aa r=>(bl 6 r).map λx=>(cG.mk 7 [] [] [x.1] [] [],x.2)| ao=>(mS l).bind λp=>match bG [40] p.2 with| aa r=>(mT (bl 6) r).map λq=>(cG.mk 3 p.1.1 p.1.2 q.1 [] [],q.2)| ao=>match bG [91] p.2 with| aa r=>(bl 6 r).bind λi=>(bG [93] i.2).bind λr=>(bG [61] r).bind λr=>(bl 6 r).map λx=>(cG.mk 2 p.1.1 p.1.2 [i.1,x.1] [] [],x.2)| ao=>(bG [61] p.2).bind λr=>(bl 6 r).map λx=>(cG.mk 1 p.1.1 p.1.2 [x.1] [] [],x.2)
def gL (pb:Tk->aA (I cG×Tk)) (l:Tk):aA<|cG×Tk:=match bG hT l with
 | aa r=>(bl 6 r).bind λx=>(pb x.2).bind λb=>match bG hF b.2 with| aa r=>(pb r).bind λo=>if o.1.length=0 then ao else aa (cG.mk 4 [] [] [x.1] b.1 o.1,o.2)| ao=>aa (cG.mk 4 [] [] [x.1] b.1 [],b.2)
 | ao=>match bG hU l with| aa r=>(bl 6 r).bind λx=>(pb x.2).map λb=>(cG.mk 5 [] [] [x.1] b.1 [],b.2)| ao=>(hI l).bind λs=>(bG [59] s.2).map λr=>(s.1,r)
def pw (ps:Tk->aA (cG×Tk)):Z->Tk->aA (I cG×Tk)| 0,_=>ao| n+1,l=>match bG [125] l with| aa r=>aa ([],r)| ao=>(ps l).bind λs=>(pw ps n s.2).map λq=>(s.1::q.1,q.2)
def iF:Z->Tk->aA (I cG×Tk)| 0,_=>ao| f+1,l=>(bG [123] l).bind λr=>pw (gL<|iF f) (r.length+1) r
def hV (dp:aS) (l:Tk):aA<|aA fd×Tk:=match bG l0 l with| aa r=>(ie r).bind λa=>(bG [61] a.2).bind λr=>(oP r).bind λn=>(bG [59] n.2).map λr=>(aa ⟨1,a.1,dp,n.1⟩,r)| ao=>match bG l1 l with| aa r=>(ie r).bind λa=>(bG [59] a.2).map λr=>(aa ⟨2,a.1,dp,0⟩,r)| ao=>match bG l2 l with| aa r=>(ie r).bind λa=>(bG [91] a.2).bind λr=>(oP r).bind λn=>(bG [93] n.2).bind λr=>(bG [59] r).map λr=>(aa ⟨3,a.1,dp,n.1⟩,r)| ao=>aa (ao,l)
def gD (l:Tk):aS×Tk:=((bG y6 l).isSome,(bG y6 l).getD l)
def dz:Z->aS->Tk->aA ((I fd×aS)×Tk)| 0,_,_=>ao| n+1,dp,l=>(hV dp l).bind λd=>match d.1 with| ao=>aa (([],dp),d.2)| aa x=>(dz n (gD d.2).1 (gD d.2).2).map λq=>((x::q.1.1,q.1.2),q.2)
def cD:Z->aS->Tk->aA (I Tx×Tk)| 0,_,_=>ao| n+1,first,l=>match bG [41] l with| aa r=>aa ([],r)| ao=>(if first=ad then aa l else bG [44] l).bind λl=>(ie l).bind λa=>(cD n aq a.2).map λq=>(a.1::q.1,q.2)
def mn:Z->Tk->aA (I Tx×Tk)| 0,_=>ao| n+1,l=>match bG tK l with| aa r=>(ie r).bind λa=>(bG [59] a.2).bind λr=>(mn n r).map λq=>(a.1::q.1,q.2)| ao=>aa ([],l)
def lC (dp:aS) (l:Tk):aA<|gU×Tk:=(ie l).bind λa=>(bG [40] a.2).bind λr=>(cD (r.length+1) ad r).bind λps=>(mn (ps.2.length+1) ps.2).bind λc=>(iF 6 c.2).map λb=>(⟨a.1,dp,ps.1,c.1,b.1⟩,b.2)
def od:Z->aS->Tk->aA ((I gU×aS)×Tk)| 0,_,_=>ao| n+1,dp,l=>match bG sB l with| aa r=>(lC dp r).bind λp=>(od n (gD p.2).1 (gD p.2).2).map λq=>((p.1::q.1.1,q.1.2),q.2)| ao=>aa (([],dp),l)
def mU:Z->Tk->aA (I Tx×Tk)| 0,_=>ao| n+1,l=>match bG sA l with| aa r=>(ie r).bind λa=>(bG [59] a.2).bind λr=>(mU n r).map λq=>(a.1::q.1,q.2)| ao=>aa ([],l)
def mo (l:Tk):aA<|cV×Tk:=(bG wb l).bind λr=>(ie r).bind λa=>(bG [123] a.2).bind λr=>(mU (r.length+1) r).bind λu=> (dz ((gD u.2).2.length+1) (gD u.2).1 (gD u.2).2).bind λd=>(od (d.2.length+1) d.1.2 d.2).bind λp=>if p.1.2=ad then ao else (bG cj p.2).bind λr=>(iF 6 r).bind λb=>(bG [125] b.2).map λr=>(⟨a.1,u.1,d.1.1,p.1.1,b.1⟩,r)
def j3 (l:Tk):Prop:=∀t ∈ l,Kr t
def iM (l:Tk) (a:I Tx) (r:Tk):Prop:=j3 l/\l=a.map dO++r
variable {bb cr:Tk} {eh:I Tx}
def iM.ok (h:iM bb eh cr):j3 cr:=λt a=>h.1 t (by rw [h.2];exact s_ _ a)
variable {i8:Tk} {w2:I Tx}
def iM.trans (h:iM bb eh cr) (k:iM cr w2 i8):iM bb (eh++w2) i8:=⟨h.1,by rw [h.2,k.2];simp⟩
def iM.nil (h:j3 bb):iM bb [] bb:=⟨h,rfl⟩
def iM.cast (h:iM bb eh cr) (e:eh=w2):iM bb w2 cr:=e▸h
variable {bR:Tx}
def ig (b:j3 bb) (d:bR≠[]) (h:bG bR bb=aa cr):iM bb [bR] cr:=by
 cases bb with
 | nil=>cases h
 | cons t q=>
  simp only [bG] at h;split at h
  ·rename_i a;injection h with h;subst h;simp only [j8] at a;refine ⟨b,?_⟩;have c:=b t aK;have e:qB t=bR:=by
    unfold qB;rw [aj];·exact a
    ·intro f;have:=c.2;unfold mG at this;rw [aj ai,aD f] at this;simp [a,d] at this
   simp [<-e,Gw c]
  ·cases h
def uY (a:j3 bb) (h:ie bb=aa (bR,cr)):iM bb [bR] cr/\gN bR=ad:=by
 cases bb with
 | nil=>cases h
 | cons t q=>
  unfold ie oO at h;dsimp only at h;by_cases b:t.kind=1
  ·rw [aD b] at h;simp only [cH] at h;split at h
   ·rename_i c;injection h with h;injection h with d f;subst d f;refine ⟨⟨a,?_⟩,c⟩;have g:=a t aK;have e:qB t=t.text:=by rw [qB,aj ai]
    rw [<-e];simp [Gw g]
   ·cases h
  ·rw [aj b] at h;cases h
def Bk {n:ac} (b:j3 bb) (h:oP bb=aa (n,cr)):iM bb [lg n] cr:=by
 cases bb with
 | nil=>cases h
 | cons t q=>
  unfold oP oO at h;dsimp only at h;by_cases a:t.kind=2
  ·rw [aD a] at h;simp only [a5] at h;injection h with h;injection h with c d;subst c d;refine ⟨b,?_⟩;have f:=b t aK;have e:qB t=lg t.n:=by rw [qB,aD a]
   rw [<-e];simp [Gw f]
  ·rw [aj a] at h;cases h
def Kx {mod nm:Tx} (j:j3 bb) (h:mS bb=aa ((mod,nm),cr)):iM bb (lA mod nm) cr:=by
 unfold mS at h;obtain ⟨⟨a,q⟩,k,c⟩:=dL.1 h;obtain ⟨d,n1⟩:=uY j k;simp only at c;cases e:bG [46] q with
 | none=>rw [e] at c;simp only [gI,eJ] at c;obtain ⟨⟨rfl,rfl⟩,rfl⟩:=c;exact d
 | some n=>
  rw [e] at c;obtain ⟨⟨b,o⟩,l,f⟩:=eQ.1 c;simp only [eJ] at f;obtain ⟨⟨rfl,rfl⟩,rfl⟩:=f;have g:=ig d.ok aK e;obtain ⟨m,n3⟩:=uY g.ok l;refine ((d.trans g).trans m).cast ?_;unfold lA;rw [aj];·rfl
  ·intro i;simp only [j8] at i;subst i;simp [gN,gG] at n1
def Sound (a:Tk->aA (cF×Tk)):Prop:=∀l x r,j3 l->a l=aa (x,r)->iM l (iE x) r
variable {gM:Tk->aA (cF×Tk)}
def Ky (g:Sound gM):∀(n:Z) (l:Tk) (xs:I cF) (r:Tk),j3 l->nj gM n l=aa (xs,r)->iM l (jO (gx xs)++[[41]]) r
 | 0,_,_,_,_,h=>by cases h
 | n+1,l,xs,r,m,h=>by
  unfold nj at h;obtain ⟨⟨x,q⟩,o,a⟩:=dL.1 h;have c:=g l x q m o;simp only at a;cases e:bG [41] q with
  | some i=>rw [e] at a;simp only [gI,eJ] at a;obtain ⟨rfl,rfl⟩:=a;exact c.trans<|ig c.ok aK e
  | none=>
   rw [e] at a;simp only at a;cases f:bG [44] q with
   | none=>rw [f] at a;cases a
   | some i=>
    rw [f] at a;obtain ⟨⟨ys,p⟩,d,j⟩:=eQ.1 a;simp only [eJ] at j;obtain ⟨rfl,rfl⟩:=j;have k:=ig c.ok aK f;have s:=Ky g n i ys p k.ok d;refine ((c.trans k).trans s).cast ?_;cases ys with
    | nil=>
     exfalso;cases n with
     | zero=>cases d
     | succ n=>
      unfold nj at d;obtain ⟨⟨y,u⟩,_,b⟩:=dL.1 d;simp only at b;split at b;·simp at b
      ·split at b;·obtain ⟨z,_,t⟩:=eQ.1 b;simp at t
       ·cases b
    | cons y ys=>simp [gx,jO]
def QS (c:Sound gM)  {xs:I cF} (d:j3 bb) (e:bG [40] bb=aa i8) (h:mT gM i8=aa (xs,cr)):iM bb (jp<|gx xs) cr:=by have a:=ig d aK e;unfold mT at h;cases b:bG [41] i8 with| some f=>rw [b] at h;simp only [gI,eJ] at h;obtain ⟨rfl,rfl⟩:=h;exact a.trans<|ig a.ok aK b| none=>rw [b] at h;exact (a.trans<|Ky c _ i8 xs cr a.ok h).cast (by simp [jp])
def QT:∀(a:I Tx) (i:Z) (l r:Tk) (k:Z),j3 l->(∀w ∈ a,w≠[])->qi a i l=aa (k,r)->∃j,k=i+j/\∃w,a[j]? = aa w/\iM l [w] r| [],_,_,_,_,_,_,h=>by cases h| w::a,i,l,r,k,c,hw,h=>by unfold qi at h;cases b:bG w l with| some q=>rw [b] at h;simp only [gI,eJ] at h;obtain ⟨rfl,rfl⟩:=h;exact ⟨0,O,w,O,ig c (hw w aK) b⟩| none=>rw [b] at h;obtain ⟨j,f,v,d,e⟩:=QT a (i+1) l r k c (λv hv=>hw v<|m1 _ hv) h;exact ⟨j+1,ai,v,by simpa using d,e⟩
def QU (op n:ac) (mod nm:Tx) (args:I cF):iE (.mk op n mod nm args)=qU op n mod nm (gx args):=by rw [iE]
variable {kB:cF}
def ZD (c:Sound gM)   (n:j3 bb) (p:bG [40] bb=aa i8) (h:oQ gM i8=aa (kB,cr)):iM bb (iE kB) cr:=by
 have d:=ig n aK p;unfold oQ at h;obtain ⟨⟨a,e⟩,q,r⟩:=dL.1 h;obtain ⟨⟨o,f⟩,s,t⟩:=dL.1 r;obtain ⟨⟨b,u⟩,v,x⟩:=dL.1 t;obtain ⟨B,y,g⟩:=eQ.1 x;simp only [eJ] at g;obtain ⟨rfl,rfl⟩:=g;have i:=c i8 a e d.ok q;obtain ⟨j,C,w,k,l⟩:=QT opsL 0 e f o i.ok a8 s;have m:=c f b u l.ok v;have z:=ig m.ok aK y;refine ((((d.trans i).trans l).trans m).trans z).cast ?_;obtain rfl:o=j:=ai;have D:o<9:=(cN.1 k).1;have A:y7 (7+(o:ac))=w:=by unfold y7;rw [show ((7+(o:ac))-7).toNat=o by omega,k];rfl
 rw [QU,qU,aj ai,aj ai,aj ai,aj ai,aj ai,aj ai,A];simp [gx,at_]
def ZE (f:Sound gM)  {mod nm:Tx}  (a:iM cr (lA mod nm) bb) (h:pv gM mod nm bb=aa (kB,i8)):iM cr (iE kB) i8:=by unfold pv at h;cases c:bG [91] bb with| some q=>rw [c] at h;obtain ⟨⟨y,g⟩,d,b⟩:=dL.1 h;obtain ⟨n,l,i⟩:=eQ.1 b;simp only [eJ] at i;obtain ⟨rfl,rfl⟩:=i;have j:=ig a.ok aK c;have k:=f q y g j.ok d;have m:=ig k.ok aK l;exact (((a.trans j).trans k).trans m).cast (by simp [iE,qU,gx,at_])| none=>rw [c] at h;simp only at h;cases e:bG [40] bb with| some q=>rw [e] at h;obtain ⟨⟨xs,g⟩,d,b⟩:=eQ.1 h;simp only [eJ] at b;obtain ⟨rfl,rfl⟩:=b;exact (a.trans<|QS f a.ok e d).cast (by simp [iE,qU])| none=>rw [e] at h;simp only [gI,eJ] at h;obtain ⟨rfl,rfl⟩:=h;exact a.cast (by simp [iE,qU])
def ZF (c:Sound gM):Sound<|nk gM:=by intro l x r a h;unfold nk at h;cases d:bG xx l with| some q=>rw [d] at h;simp only [gI,eJ] at h;obtain ⟨rfl,rfl⟩:=h;exact (ig a a8 d).cast (by simp [iE,qU])| none=>rw [d] at h;simp only at h;cases e:bG [33] l with| some q=>rw [e] at h;obtain ⟨⟨y,j⟩,f,b⟩:=eQ.1 h;simp only [eJ] at b;obtain ⟨rfl,rfl⟩:=b;have i:=ig a aK e;exact (i.trans<|c q y j i.ok f).cast (by simp [iE,qU,gx,at_])| none=>rw [e] at h;simp only at h;cases g:bG [40] l with| some q=>rw [g] at h;exact ZD c a g h| none=>rw [g] at h;obtain ⟨⟨⟨mod,nm⟩,q⟩,f,b⟩:=dL.1 h;exact ZE c (Kx a f) b
def A8:∀f,Sound (bl f)
 | 0=>λ_ _ _ _ h=>by cases h
 | f+1=>by
  intro l x r a h;cases l with
  | nil=>cases h
  | cons t q=>
   unfold bl at h;by_cases b:t.kind=2
   ·simp only [aD b,gI,eJ] at h;obtain ⟨rfl,rfl⟩:=h;refine ⟨a,?_⟩;have c:=a t aK;have e:qB t=lg t.n:=by rw [qB,aD b]
    have d:iE (cF.mk 1 t.n [] [] [])=[lg t.n]:=by simp [iE,qU]
    rw [d,<-e];simp [Gw c]
   ·simp only [aj b] at h;exact ZF (A8 f) _ x r a h
end Go.Bw
end
section
namespace Go.Bw
open Go
def uZ (op:ac) (mod nm:Tx) (args:I cF) (body other:I cG):oN (.mk op mod nm args body other)=qh op mod nm (gx args) (kF body) other.length (kF other):=by rw [oN]
variable {bb cr:Tk} {ol:cG}
def ZG (n:j3 bb) (h:hI bb=aa (ol,cr)):∃t,oN ol=t++[[59]]/\iM bb t cr:=by have c:=A8 6;unfold hI at h;cases o:bG hG bb with| some q=>rw [o] at h;obtain ⟨⟨x,d⟩,j,e⟩:=eQ.1 h;simp only [eJ] at e;obtain ⟨rfl,rfl⟩:=e;have b:=ig n a8 o;exact ⟨[hG]++iE x,by simp [uZ,qh,gx,at_],b.trans<|c q x d b.ok j⟩| none=>rw [o] at h;simp only at h;cases j:bG hH bb with| some q=>rw [j] at h;obtain ⟨⟨x,d⟩,e,a⟩:=eQ.1 h;simp only [eJ] at a;obtain ⟨rfl,rfl⟩:=a;have b:=ig n a8 j;exact ⟨[hH]++iE x,by simp [uZ,qh,gx,at_],b.trans<|c q x d b.ok e⟩| none=>rw [j] at h;obtain ⟨⟨⟨mod,nm⟩,q⟩,e,a⟩:=dL.1 h;have f:=Kx n e;simp only at a;cases p:bG [40] q with| some d=>rw [p] at a;obtain ⟨⟨xs,u⟩,k,g⟩:=eQ.1 a;simp only [eJ] at g;obtain ⟨rfl,rfl⟩:=g;exact ⟨lA mod nm++jp (gx xs),by simp [uZ,qh],f.trans<|QS c f.ok p k⟩| none=>rw [p] at a;simp only at a;cases k:bG [91] q with| some d=>rw [k] at a;obtain ⟨⟨i,u⟩,g,r⟩:=dL.1 a;obtain ⟨D,s,l⟩:=dL.1 r;obtain ⟨E,z,A⟩:=dL.1 l;obtain ⟨⟨x,F⟩,B,v⟩:=eQ.1 A;simp only [eJ] at v;obtain ⟨rfl,rfl⟩:=v;have b:=ig f.ok aK k;have m:=c _ _ _ b.ok g;have w:=ig m.ok aK s;have y:=ig w.ok aK z;have C:=c _ _ _ y.ok B;exact ⟨lA mod nm++[[91]]++iE i++[[93],[61]]++iE x,by simp [uZ,qh,gx,at_],(((((f.trans b).trans m).trans w).trans y).trans C).cast aK⟩| none=>rw [k] at a;obtain ⟨d,g,r⟩:=dL.1 a;obtain ⟨⟨x,u⟩,s,l⟩:=eQ.1 r;simp only [eJ] at l;obtain ⟨rfl,rfl⟩:=l;have b:=ig f.ok aK g;have m:=c _ _ _ b.ok s;exact ⟨lA mod nm++[[61]]++iE x,by simp [uZ,qh,gx,at_],(f.trans b).trans m⟩
def Kz (pb:Tk->aA (I cG×Tk)):Prop:=∀l x r,j3 l->pb l=aa (x,r)->iM l (dy x) r
def KA {pb:Tk->aA (I cG×Tk)} (l:Kz pb)   (m:j3 bb) (h:gL pb bb=aa (ol,cr)):iM bb (oN ol) cr:=by
 have p:=A8 6;unfold gL at h;cases n:bG hT bb with
 | some q=>
  rw [n] at h;obtain ⟨⟨x,r⟩,f,g⟩:=dL.1 h;obtain ⟨⟨b,s⟩,i,a⟩:=dL.1 g;have e:=ig m a8 n;have c:=p _ _ _ e.ok f;have j:=l _ _ _ c.ok i;simp only at a;cases d:bG hF s with
  | some w=>
   rw [d] at a;obtain ⟨⟨o,y⟩,u,k⟩:=dL.1 a;simp only at k;split at k;·cases k
   ·rename_i z;simp only [gI,eJ] at k;obtain ⟨rfl,rfl⟩:=k;have t:=ig j.ok a8 d;have v:=l _ _ _ t.ok u;refine ((((e.trans c).trans j).trans t).trans v).cast ?_;rw [uZ];simp only [qh,oo,fI,mj,dD,dF];rw [aD ai];simp [gx,at_,dy]| none=>rw [d] at a;simp only [gI,eJ] at a;obtain ⟨rfl,rfl⟩:=a;exact ((e.trans c).trans j).cast (by simp [uZ,qh,gx,at_,dy])
 | none=>rw [n] at h;simp only at h;cases f:bG hU bb with| some q=>rw [f] at h;obtain ⟨⟨x,r⟩,g,i⟩:=dL.1 h;obtain ⟨⟨b,s⟩,a,d⟩:=eQ.1 i;simp only [eJ] at d;obtain ⟨rfl,rfl⟩:=d;have e:=ig m a8 f;have c:=p _ _ _ e.ok g;have j:=l _ _ _ c.ok a;exact ((e.trans c).trans j).cast (by simp [uZ,qh,gx,at_,dy])| none=>rw [f] at h;obtain ⟨⟨A,q⟩,g,i⟩:=dL.1 h;obtain ⟨r,a,d⟩:=eQ.1 i;simp only [eJ] at d;obtain ⟨rfl,rfl⟩:=d;obtain ⟨B,e,c⟩:=ZG m g;exact (c.trans<|ig c.ok aK a).cast e.symm
def QV {ps:Tk->aA (cG×Tk)} (b:∀l x r,j3 l->ps l=aa (x,r)->iM l (oN x) r):∀(n:Z) (l:Tk) (xs:I cG) (r:Tk),j3 l->pw ps n l=aa (xs,r)->iM l (kF xs++[[125]]) r| 0,_,_,_,_,h=>by cases h| n+1,l,xs,r,c,h=>by unfold pw at h;cases a:bG [125] l with| some q=>rw [a] at h;simp only [gI,eJ] at h;obtain ⟨rfl,rfl⟩:=h;exact (ig c aK a).cast (by simp [kF])| none=>rw [a] at h;obtain ⟨⟨s,q⟩,f,g⟩:=dL.1 h;obtain ⟨⟨ys,i⟩,j,d⟩:=eQ.1 g;simp only [eJ] at d;obtain ⟨rfl,rfl⟩:=d;have e:=b l s q c f;exact (e.trans<|QV b n q ys i e.ok j).cast (by simp [kF])
def Dg:∀f,Kz (iF f)| 0=>λ_ _ _ _ h=>by cases h| f+1=>by intro l x r a h;unfold iF at h;obtain ⟨q,c,d⟩:=dL.1 h;have b:=ig a aK c;exact (b.trans<|QV (λl x r a h=>KA (Dg f) a h) _ q x r b.ok d).cast (by simp [dy,sC])
def hK (d:fd):I Tx:=uV d++[[59]]
variable {dS:aS}
def QW {d:fd} (p:j3 bb) (h:hV dS bb=aa (aa d,cr)):iM bb (hK d) cr/\d.dp=dS:=by unfold hV at h;cases r:bG l0 bb with| some q=>rw [r] at h;obtain ⟨⟨a,u⟩,i,e⟩:=dL.1 h;obtain ⟨v,j,k⟩:=dL.1 e;obtain ⟨⟨n,x⟩,g,s⟩:=dL.1 k;obtain ⟨y,t,m⟩:=eQ.1 s;simp only [eJ,gI] at m;obtain ⟨rfl,rfl⟩:=m;have b:=ig p a8 r;have c:=(uY b.ok i).1;have f:=ig c.ok aK j;have l:=Bk f.ok g;have o:=ig l.ok aK t;exact ⟨((((b.trans c).trans f).trans l).trans o).cast (by simp [hK,uV]),O⟩| none=>rw [r] at h;simp only at h;cases i:bG l1 bb with| some q=>rw [i] at h;obtain ⟨⟨a,u⟩,e,j⟩:=dL.1 h;obtain ⟨v,k,g⟩:=eQ.1 j;simp only [eJ,gI] at g;obtain ⟨rfl,rfl⟩:=g;have b:=ig p a8 i;have c:=(uY b.ok e).1;have f:=ig c.ok aK k;exact ⟨((b.trans c).trans f).cast (by simp [hK,uV]),O⟩| none=>rw [i] at h;simp only at h;cases e:bG l2 bb with| some q=>rw [e] at h;obtain ⟨⟨a,u⟩,j,k⟩:=dL.1 h;obtain ⟨v,g,s⟩:=dL.1 k;obtain ⟨⟨n,x⟩,t,m⟩:=dL.1 s;obtain ⟨y,z,A⟩:=dL.1 m;obtain ⟨D,B,w⟩:=eQ.1 A;simp only [eJ,gI] at w;obtain ⟨rfl,rfl⟩:=w;have b:=ig p a8 e;have c:=(uY b.ok j).1;have f:=ig c.ok aK g;have l:=Bk f.ok t;have o:=ig l.ok aK z;have C:=ig o.ok aK B;exact ⟨(((((b.trans c).trans f).trans l).trans o).trans C).cast (by simp [hK,uV]),O⟩| none=>rw [e] at h;simp at h
def KB (h:hV dS bb=aa (ao,cr)):cr=bb:=by
 unfold hV at h;split at h;·obtain ⟨_,_,h⟩:=dL.1 h;obtain ⟨_,_,h⟩:=dL.1 h;obtain ⟨_,_,h⟩:=dL.1 h;obtain ⟨_,_,h⟩:=eQ.1 h;simp at h
 ·split at h;·obtain ⟨_,_,h⟩:=dL.1 h;obtain ⟨_,_,h⟩:=eQ.1 h;simp at h
  ·split at h;·obtain ⟨_,_,h⟩:=dL.1 h;obtain ⟨_,_,h⟩:=dL.1 h;obtain ⟨_,_,h⟩:=dL.1 h;obtain ⟨_,_,h⟩:=dL.1 h;obtain ⟨_,_,h⟩:=eQ.1 h;simp at h
   ·simp at h;exact h.symm
def QX:∀(n:Z) (first:aS) (l:Tk) (xs:I Tx) (r:Tk),j3 l->cD n first l=aa (xs,r)->iM l ((if first=ad\/xs=[] then [] else [[44]])++jO (xs.map λs=>[s])++[[41]]) r
 | 0,_,_,_,_,_,h=>by cases h
 | n+1,first,l,xs,r,b,h=>by
  unfold cD at h;cases c:bG [41] l with
  | some q=>rw [c] at h;simp only [gI,eJ] at h;obtain ⟨rfl,rfl⟩:=h;exact (ig b aK c).cast (by simp [jO])
  | none=>
   rw [c] at h;obtain ⟨i,d,j⟩:=dL.1 h;obtain ⟨⟨a,q⟩,k,m⟩:=dL.1 j;obtain ⟨⟨ys,o⟩,p,e⟩:=eQ.1 m;simp only [eJ] at e;obtain ⟨rfl,rfl⟩:=e;have f:iM l (if first=ad then [] else [[44]]) i:=by cases first with| true=>simp only [dD,gI] at d;subst d;exact iM.nil b| false=>exact ig b aK d
   have g:=(uY f.ok k).1;have t:=QX n aq q ys o g.ok p;refine ((f.trans g).trans t).cast ?_;cases ys with| nil=>cases first<;>simp [jO]| cons y ys=>cases first<;>simp [jO]
def QY:∀(n:Z) (l:Tk) (xs:I Tx) (r:Tk),j3 l->mn n l=aa (xs,r)->iM l (xs.flatMap tL) r| 0,_,_,_,_,h=>by cases h| n+1,l,xs,r,c,h=>by unfold mn at h;cases b:bG tK l with| none=>rw [b] at h;simp only [gI,eJ] at h;obtain ⟨rfl,rfl⟩:=h;exact iM.nil c| some q=>rw [b] at h;obtain ⟨⟨a,t⟩,i,j⟩:=dL.1 h;obtain ⟨k,m,o⟩:=dL.1 j;obtain ⟨⟨ys,p⟩,s,d⟩:=eQ.1 o;simp only [eJ] at d;obtain ⟨rfl,rfl⟩:=d;have e:=ig c a8 b;have f:=(uY e.ok i).1;have g:=ig f.ok aK m;exact (((e.trans f).trans g).trans<|QY n k ys p g.ok s).cast (by simp [tL])
def wc (p:gU):I Tx:=[p.nm,[40]]++jO (p.params.map λs=>[s])++[[41]]++p.aX.flatMap tL++dy p.body
def QZ {p:gU} (i:j3 bb) (h:lC dS bb=aa (p,cr)):iM bb (wc p) cr/\p.dp=dS:=by unfold lC at h;obtain ⟨⟨a,u⟩,j,k⟩:=dL.1 h;obtain ⟨v,l,m⟩:=dL.1 k;obtain ⟨⟨ps,w⟩,n,o⟩:=dL.1 m;obtain ⟨⟨x,y⟩,q,r⟩:=dL.1 o;obtain ⟨⟨b,z⟩,s,c⟩:=eQ.1 r;simp only [eJ] at c;obtain ⟨rfl,rfl⟩:=c;have d:=(uY i j).1;have e:=ig d.ok aK l;have f:=QX _ _ _ _ _ e.ok n;have g:=QY _ _ _ _ f.ok q;have t:=Dg 6 _ _ _ g.ok s;exact ⟨((((d.trans e).trans f).trans g).trans t).cast (by simp [wc]),O⟩
end Go.Bw
end
