/- RestModules: what came, and was changed, changes nothing that was handed in, nor what comes next (proved in the second form, bulk at most 1048576). -/
import Derived.Test.YtgeahfjicmlocaaGreatDoorF2
set_option linter.unusedVariables false
set_option linter.unusedSimpArgs false
set_option linter.defProp false
section
namespace Go.Proofs.YtgeahfjicmlocaaGreatDoor.Mch
open Go.Bw Go.Proofs.Tryz
abbrev a0.bJ (s:a0):a0:={ s with at_:=IntKind.i64.wrap (s.at_+1) }
def Pm.bJ (m:Pm):Pm:={ m with at_:=IntKind.i64.wrap (m.at_+1) }
variable {bc:View} {aX:a0}
def a0.iO.at (h:aX.iO bc) (a:Int):a0.iO bc { aX with at_:=a }:=⟨h.cr,h.gL,h.jW,h.out,h.jz⟩
def wT (m:Pm):List Int:=match m.cB with | []=>[] | f::_=>f.1
def sG (m:Pm) (k:Nat) (n:Int):Pm:={ m with cB:=match m.cB with | []=>[] | f::r=>(f.1.set k n,f.2)::r }
def ep (i:bX) (m:Pm):Rz Unit:=
 if (i.op==1)=true then ki i.a m
 else if (i.op==2)=true then (if aN i.a (wT m).length=true then .ov 6 m else ki ((wT m)[i.a.toNat]?.getD 0) m)
 else if (i.op==3)=true then (dR m).bind λn m=>if aN i.a (wT m).length=true then .ov 6 m else .ok () (sG m i.a.toNat n)
 else if (i.op==4)=true then (if aN i.a m.data.length=true then .ov 6 m else ki (m.data[i.a.toNat]?.getD 0) m)
 else if (i.op==5)=true then (dR m).bind λn m=>if aN i.a m.data.length=true then .ov 6 m else .ok () { m with data:=m.data.set i.a.toNat n }
 else if (i.op==6)=true then (dR m).bind λn m=>if (decide (n<0)||decide (i.b<=n))=true then .ov 2 m else ki (IntKind.i64.wrap (i.a+n)) m
 else if (i.op==7)=true then (dR m).bind λn m=>if aN n m.data.length=true then .ov 6 m else ki (m.data[n.toNat]?.getD 0) m
 else if (i.op==8)=true then (dR m).bind λn m=>(dR m).bind λk m=>if aN k m.data.length=true then .ov 6 m else .ok () { m with data:=m.data.set k.toNat n }
 else if (i.op==9)=true then (dR m).bind λn m=>ki (i3 (n==0)) m
 else if (i.op==22)=true then (dR m).bind λn m=>ki (i3 (n != 0)) m
 else if (i.op==10)=true then nI i.a m
 else if (i.op==11)=true then .ok () { m with at_:=i.a }
 else if (i.op==12)=true then (dR m).bind λn m=>if (n==0)=true then .ok () { m with at_:=i.a } else .ok () m
 else if (i.op==13)=true then uW i.a m
 else if (i.op==14)=true then tx i.a i.b m
 else if (i.op==15)=true then wQ m
 else if (i.op==16)=true then uV m
 else if (i.op==17)=true then (dR m).bind λ_ m=>.ok () m
 else if (i.op==18)=true then ki (pk m).1 (pk m).2
 else if (i.op==19)=true then (dR m).bind λn m=>if m.out.length=200 then .ov 5 m else .ok () { m with out:=m.out++[n] }
 else if (i.op==20)=true then .ov 0 m
 else .ok () m
def ef (i:bX) (m:Pm):Rz Unit:=ep i m.bJ
variable {uZ:e6} {yP:List e6}
def IJ {s:a0}   (a:s.cB=uZ::yP) (k:Nat) (n:Int):s.obj=a0.obj { s with cB:={ uZ with loc:=uZ.loc.set k n }::yP }/\cW 269 2 e6.cells s.fa s.fc s.cB.reverse=cW 269 2 e6.cells s.fa s.fc ({ uZ with loc:=uZ.loc.set k n }::yP).reverse:=by
 constructor
 · simp [a0.obj,a]
 · simp [a,e6.cells,cW]
def EL (s:a0) (k:Nat) (n:Int):s.obj=a0.obj { s with data:=s.data.set k n }:=by simp [a0.obj]
def yQ {s:a0} {f:e6}  (a:s.cB=f::yP):wT s.pu=f.loc:=by
 show (match s.cB.map e6.pu with | []=>[] | f::_=>f.1)=_
 rw [a]; rfl
def Rq {s:a0} {f:e6} {r:List e6} (a:s.cB=f::r) (k:Nat) (n:Int):sG s.pu k n=a0.pu { s with cB:={ f with loc:=f.loc.set k n }::r }:=by
 show ({ s.pu with cB:=match s.cB.map e6.pu with | []=>[] | f::r=>(f.1.set k n,f.2)::r }:Pm)=_
 rw [a]; rfl
def Jz (h:aX.iO bc):∃f r,aX.cB=f::r:=by
 have:=h.jW.1
 cases a:aX.cB with
 | nil=>rw [a] at this; simp at this
 | cons f r=>exact ⟨f,r,rfl⟩
def JA (a:aX.cB=uZ::yP):aX.cB.reverse[aX.cB.length-1]? = some uZ:=by
 rw [a,vR,rK au]; simp
def rb {i:Int} {n:Nat} (h:aN i n=false):0<=i/\i.toNat<n:=by
 unfold aN at h;simp at h;omega
def gZ:cJ prog 62 1=some 1:=aa
def wU:cJ prog 64 2=some 2:=aa
def EM:cJ prog 62 2=some 2:=aa
def wV:cJ prog 64 1=some 1:=aa
set_option maxHeartbeats 4000000 in
def Rr (i:bX):r8 85 [.agg #[.int .i64 i.op,.int .i64 i.a,.int .i64 i.b]] (ef i) (λi:Unit=>.tuple #[]):=by
 refine ⟨aK,λay s bI w ap g=>?_⟩
 have cl:s.stack.reverse.length=s.stack.length:=by simp
 have cm:s.cB.reverse.length=s.cB.length:=by simp
 have co:=ap.gL;have cp:=ap.jW;have cq:=ap.out;have aM:=ap.jz;refine enter func85 O 225 O O ?_;refine CE g (ac ?_);refine WL.box Y O O λcs=>?_;refine ad (ac (ab O (I (bV O) (I (Yf qd O) (I (Yd 1 O O O aa) (I (sT O O) (I (bV O) (I (Yf qd O) ?_))))))));refine aT 1 Y O O O dr O O O (dn 1 (a0.obj (a0.bJ s)) O O ?_);have v:a0.iO bI (a0.bJ s):=ap.at _;refine ad (ac (I (Yf l3 O) (I (Yd 0 O O O aa) (ad (Cb (ac (I (bx O O) (ai O (ad ?_)))))))));refine Cc O (λj=>?_) (λj=>?_)
 ·refine Cr (ab O (I (Yf gZ O) (I (Yd 0 O O O aa) (Lf 6 O (Lf 6 O (Lf 6 O (Lf 6 O ?_)))))));refine Lf 6 O (Lf 6 O ?_);refine kJ (pp i.a) v ?_ ?_
  ·intro aO aP;refine WE.b' ?_;refine an λw' g=>?_;have g:=Ws.df (L:=[_,_,_,_,_,_]) g;refine .inr ⟨aO,O,?_,g⟩;unfold ef ep;rw [show s.pu.bJ=(a0.bJ s).pu from rfl];simp only [j,aw,cn,cv];exact aP
  intro aO ⟨aP,bK⟩;refine Ln (Eb ?_);refine E0 O λw' g=>?_;have g:=Ws.df (L:=[_,_,_,_,_,_]) g;refine .inl ⟨((),aO.2),O,⟨?_,bK⟩,g⟩;unfold ef ep;rw [show s.pu.bJ=(a0.bJ s).pu from rfl];simp only [j,aw,cn,cv];exact aP
 refine ac (I (bx O O) (ai O (ad ?_)));refine Cc O (λk=>?_) (λk=>?_)
 ·obtain ⟨f,r,N⟩:=Jz v;refine WC.fact (p:=0<f.loc.length->∃b o,f.la=some ⟨b,o,none⟩) (λw g S=>HV (As:=(a0.bJ s).cB.map e6.own) g 6 O (by rw [N]; exact zI) S) λaQ=>?_;have aR:=JA N;refine CU (λ_=>true) [] [11] (.q false 0 (.q false 1 (.q false 6 (.q true 7 (.e 2 (.q false 3 (.q false 4 (.q true 5 (.e 8 (.q false 9 (.q true 10 .nil)) .stop)))) .stop))))) mixed (by kernel_rfl) (λ_ _ _ d _ _ h=>by cases d<;>exact h) ?_;refine U0 O (λ_ h=>h) (Ym O) (U0 O (λ_ h=>h) (Ym O) (U0 O (λ_ h=>h) (Yf gZ O) (U0 O (λ_ h=>h) (Yd 0 O O O aa) ?_)));refine Ue O (λ_ h=>h) ?_ WU.stop;refine Lf 6 O (Lf 6 O (Lf 6 O (Lf 6 O (Lf 6 O (Lf 6 O ?_)))));refine kE v ?_;intro ct bL;refine Ln (Eu (U0 O (λ_ h=>(h.f 6 O:)) (bV O) (U0 O (λ_ h=>(h.f 6 O:)) (Yf yO O) (U0 O (λ_ h=>(h.f 6 O:)) (uu (y:=f) 3 (s.cB.length-1) 0 O O bL O e6.dk aR O aa) ?_))));refine Ue O (λ_ h=>(h.f 6 O:)) ?_ WU.stop;refine tz aQ ?_ ?_
  ·intro aq;refine Ep (WE.b' ?_);refine an λw' g=>?_;have g:=Ws.df (L:=[_,_,_,_,_,_]) g;refine .inr ⟨(6,(a0.bJ s)),O,?_,g⟩;unfold ef ep;rw [show s.pu.bJ=(a0.bJ s).pu from rfl];simp only [j,k,aw,cn,cv];rw [yQ (s:=(a0.bJ s)) N,a8 aq]
  intro cu ⟨aq,bM⟩;obtain ⟨bC,aS⟩:∃x,f.loc[i.a.toNat]? = some x:=⟨_,dM (rb aq).2⟩;refine Ln (Eu (U0 O (λ_ h=>(h.f 6 O:)) (bV O) (U0 O (λ_ h=>(h.f 6 O:)) (O0 (xs:=f.loc) (y:=bC) 6 i.a.toNat 0 O O (by rw [N]; exact zI) bM O hO aS O aa) ?_)));refine WU.nil (λ_ h=>(h.f 6 O:)) ?_;refine WS.e O ?_;refine kJ (pp bC) v ?_ ?_
  ·intro aU aV;refine Ep (WE.b' ?_);refine an λw' g=>?_;have g:=Ws.df (L:=[_,_,_,_,_,_]) g;refine .inr ⟨aU,O,?_,g⟩;unfold ef ep;rw [show s.pu.bJ=(a0.bJ s).pu from rfl];simp only [j,k,aw,cn,cv];rw [yQ (s:=(a0.bJ s)) N,aq,av (by simp),aS];exact aV
  intro aU ⟨aV,bN⟩;refine Ln (Es ?_);refine WS.nil ?_;refine Eb ?_;refine E0 O λw' g=>?_;have g:=Ws.df (L:=[_,_,_,_,_,_]) g;refine .inl ⟨((),aU.2),O,⟨?_,bN⟩,g⟩;unfold ef ep;rw [show s.pu.bJ=(a0.bJ s).pu from rfl];simp only [j,k,aw,cn,cv];rw [yQ (s:=(a0.bJ s)) N,aq,av (by simp),aS];exact aV
 refine ac (I (bx O O) (ai O (ad ?_)));refine Cc O (λl=>?_) (λl=>?_)
 ·refine ac (ab O (Lf 6 O (Lf 6 O (Lf 6 O (Lf 6 O (Lf 6 O (Lf 6 O ?_)))))));refine m5 v ?_ ?_
  ·intro K az;refine Ep (WE.b' ?_);refine an λw' g=>?_;have g:=Ws.df (L:=[_,_,_,_,_,_]) g;refine .inr ⟨K,O,?_,g⟩;unfold ef ep;rw [show s.pu.bJ=(a0.bJ s).pu from rfl];simp only [j,k,l,aw,cn,cv];rw [az]
   rfl
  intro K ⟨az,aW⟩;refine ai O (ad ?_);obtain ⟨f,r,N⟩:=Jz aW;refine WC.fact (p:=0<f.loc.length->∃b o,f.la=some ⟨b,o,none⟩) (λw g S=>HV (As:=(a0.eK (a0.bJ s) K.2).cB.map e6.own) g 5 O (by rw [N]; exact zI) S) λaQ=>?_;have aR:=JA N;refine CU (λ_=>true) [] [10] (.q false 0 (.q false 5 (.q true 6 (.q false 8 (.e 1 (.q false 2 (.q false 3 (.q true 4 (.e 7 (.q false 9 .nil) .stop)))) .stop))))) mixed (by kernel_rfl) (λ_ _ _ d _ _ h=>by cases d<;>exact h) ?_;refine U0 O (λ_ h=>h) (Ym O) (U0 O (λ_ h=>h) (Yf gZ O) (U0 O (λ_ h=>h) (Yd 6 O O O aa) (U0 O (λ_ h=>h) (Ym O) ?_)));refine Ue O (λ_ h=>h) ?_ WU.stop;refine kE aW ?_;intro cw bO;refine Ln (Eu (U0 O (λ_ h=>h) (bV O) (U0 O (λ_ h=>h) (Yf yO O) (U0 O (λ_ h=>h) (uu (y:=f) 2 (s.cB.length-1) 0 O O bO O e6.dk aR O aa) ?_))));refine Ue O (λ_ h=>h) ?_ WU.stop;refine tz aQ ?_ ?_
  ·intro aA;refine Ep (WE.b' ?_);refine an λw' g=>?_;have g:=Ws.df (L:=[_,_,_,_,_,_]) g;refine .inr ⟨(6,(a0.eK (a0.bJ s) K.2)),O,?_,g⟩;unfold ef ep;rw [show s.pu.bJ=(a0.bJ s).pu from rfl];simp only [j,k,l,aw,cn,cv];rw [az]
   show (if aN i.a (wT (a0.eK (a0.bJ s) K.2).pu).length=true then _ else _)=_
   rw [yQ (s:=(a0.eK (a0.bJ s) K.2)) N,a8 aA]
  intro cx ⟨aA,bP⟩;obtain ⟨bQ,bR⟩:∃x,f.loc[i.a.toNat]? = some x:=⟨_,dM (rb aA).2⟩;refine Ln (Eu (U0 O (λ_ h=>h) (bV O) ?_));refine WU.nil (λ_ h=>h) ?_;refine WS.e O ?_;refine WL.oe (A':=fK (e6.own f::r.map e6.own)) 5 O (by rw [N]; rfl) ?_;refine Lf 5 O ?_;refine WL.HQ ?_;refine WL.storeT (y:=bQ) 0 i.a.toNat 0 K.1 Y O O O bP O hO bR dr O O (by decide) O ?_;refine WL.HR ?_;refine Ln (Es ?_);refine WS.nil ?_;refine Eb ?_;refine E0 O λw' g=>?_;have g:=g.aJ 5 rfl;have g:=g.aJ 5 rfl;have g:=g.aJ 5 rfl;have g:=g.aJ 5 rfl;have g:=g.aJ 5 rfl;have g:=Ws.df (L:=[_,_,_,_,_,_]) g;have e:=IJ (s:=(a0.eK (a0.bJ s) K.2)) N i.a.toNat K.1;have g:=g.oe 0 rfl (congrArg (aE ay) e.1);have g:=g.oe 2 rfl e.2;refine .inl ⟨((),{ (a0.eK (a0.bJ s) K.2) with cB:={ f with loc:=f.loc.set i.a.toNat K.1 }::r }),O,⟨?_,⟨v.cr,aW.gL,by have:=v.jW; rw [show ((a0.bJ s)).cB=f::r from N] at this; exact this,v.out,v.jz⟩⟩,g⟩;unfold ef ep;rw [show s.pu.bJ=(a0.bJ s).pu from rfl];simp only [j,k,l,aw,cn,cv];rw [az]
  show (if aN i.a (wT (a0.eK (a0.bJ s) K.2).pu).length=true then _ else _)=_
  rw [yQ (s:=(a0.eK (a0.bJ s) K.2)) N,aA,av (by simp)]
  show Rz.ok () (sG (a0.eK (a0.bJ s) K.2).pu i.a.toNat K.1)=_
  rw [Rq (s:=(a0.eK (a0.bJ s) K.2)) N]
 refine ac (I (bx O O) (ai O (ad ?_)));refine Cc O (λm=>?_) (λm=>?_)
 ·refine WC.fact (p:=0<s.data.length->∃b o,s.da=some ⟨b,o,none⟩) (λw g S=>At g 5 O S) λW=>?_;refine CU (λ_=>true) [] [11] (.q false 0 (.q false 1 (.q false 2 (.q false 3 (.q false 4 (.q true 5 (.q false 6 (.q true 7 (.e 8 (.q false 9 (.q true 10 .nil)) .stop))))))))) mixed (by kernel_rfl) (λ_ _ _ d _ _ h=>by cases d<;>exact h) ?_;refine U0 O (λ_ h=>h) (Ym O) (U0 O (λ_ h=>h) (Ym O) (U0 O (λ_ h=>h) (bV O) (U0 O (λ_ h=>h) (Yf oD O) (U0 O (λ_ h=>h) (Yf wU O) (U0 O (λ_ h=>h) (Yd 1 O O O aa) (U0 O (λ_ h=>h) (Yf gZ O) (U0 O (λ_ h=>h) (Yd 0 O O O aa) ?_)))))));refine Ue O (λ_ h=>h) ?_ WU.stop;refine tz W ?_ ?_
  ·intro ar;refine Ep (WE.b' ?_);refine an λw' g=>?_;have g:=g.aJ 6 rfl;have g:=g.aJ 6 rfl;have g:=g.aJ 6 rfl;have g:=g.aJ 6 rfl;have g:=g.aJ 6 rfl;have g:=g.aJ 6 rfl;have g:=Ws.df (L:=[_,_,_,_,_,_]) g;refine .inr ⟨(6,(a0.bJ s)),O,?_,g⟩;unfold ef ep;rw [show s.pu.bJ=(a0.bJ s).pu from rfl];simp only [j,k,l,m,aw,cn,cv]
   show (if aN i.a s.data.length=true then _ else _)=_
   rw [a8 ar]
  intro cz ⟨ar,bS⟩;obtain ⟨bD,aX⟩:∃x,s.data[i.a.toNat]? = some x:=⟨_,dM (rb ar).2⟩;refine Ln (Eu (U0 O (λ_ h=>h) (bV O) (U0 O (λ_ h=>h) (uu (y:=bD) 5 i.a.toNat 0 O O bS O hO aX O aa) ?_)));refine WU.nil (λ_ h=>h) ?_;refine WS.e O ?_;refine Lf 6 O (Lf 6 O (Lf 6 O (Lf 6 O (Lf 6 O (Lf 6 O ?_)))));refine kJ (pp bD) v ?_ ?_
  ·intro aY aZ;refine Ep (WE.b' ?_);refine an λw' g=>?_;have g:=Ws.df (L:=[_,_,_,_,_,_]) g;refine .inr ⟨aY,O,?_,g⟩;unfold ef ep;rw [show s.pu.bJ=(a0.bJ s).pu from rfl];simp only [j,k,l,m,aw,cn,cv]
   show (if aN i.a s.data.length=true then _ else _)=_
   rw [ar,av (by simp)]
   show ki (s.data[i.a.toNat]?.getD 0) _=_
   rw [aX];exact aZ
  intro aY ⟨aZ,bT⟩;refine Ln (Es ?_);refine WS.nil ?_;refine Eb ?_;refine E0 O λw' g=>?_;have g:=Ws.df (L:=[_,_,_,_,_,_]) g;refine .inl ⟨((),aY.2),O,⟨?_,bT⟩,g⟩;unfold ef ep;rw [show s.pu.bJ=(a0.bJ s).pu from rfl];simp only [j,k,l,m,aw,cn,cv]
  show (if aN i.a s.data.length=true then _ else _)=_
  rw [ar,av (by simp)]
  show ki (s.data[i.a.toNat]?.getD 0) _=_
  rw [aX];exact aZ
 refine ac (I (bx O O) (ai O (ad ?_)));refine Cc O (λn=>?_) (λn=>?_)
 ·refine ac (ab O (Lf 6 O (Lf 6 O (Lf 6 O (Lf 6 O (Lf 6 O (Lf 6 O ?_)))))));refine m5 v ?_ ?_
  ·intro X aB;refine Ep (WE.b' ?_);refine an λw' g=>?_;have g:=Ws.df (L:=[_,_,_,_,_,_]) g;refine .inr ⟨X,O,?_,g⟩;unfold ef ep;rw [show s.pu.bJ=(a0.bJ s).pu from rfl];simp only [j,k,l,m,n,aw,cn,cv];rw [aB]
   rfl
  intro X ⟨aB,bU⟩;refine ai O (ad ?_);refine WC.fact (p:=0<s.data.length->∃b o,s.da=some ⟨b,o,none⟩) (λw g S=>At g 4 O S) λW=>?_;refine CU (λ_=>true) [] [10] (.q false 0 (.q false 1 (.q false 2 (.q false 3 (.q true 4 (.q false 5 (.q true 6 (.q false 8 (.e 7 (.q false 9 .nil) .stop))))))))) mixed (by kernel_rfl) (λ_ _ _ d _ _ h=>by cases d<;>exact h) ?_;refine U0 O (λ_ h=>h) (Ym O) (U0 O (λ_ h=>h) (bV O) (U0 O (λ_ h=>h) (Yf oD O) (U0 O (λ_ h=>h) (Yf wU O) (U0 O (λ_ h=>h) (Yd 0 O O O aa) (U0 O (λ_ h=>h) (Yf gZ O) (U0 O (λ_ h=>h) (Yd 6 O O O aa) (U0 O (λ_ h=>h) (Ym O) ?_)))))));refine Ue O (λ_ h=>h) ?_ WU.stop;refine tz W ?_ ?_
  ·intro aC;refine Ep (WE.b' ?_);refine an λw' g=>?_;have g:=Ws.df (L:=[_,_,_,_,_,_]) g;refine .inr ⟨(6,(a0.eK (a0.bJ s) X.2)),O,?_,g⟩;unfold ef ep;rw [show s.pu.bJ=(a0.bJ s).pu from rfl];simp only [j,k,l,m,n,aw,cn,cv];rw [aB]
   show (if aN i.a s.data.length=true then _ else _)=_
   rw [a8 aC]
  intro cA ⟨aC,bW⟩;obtain ⟨bY,bZ⟩:∃x,s.data[i.a.toNat]? = some x:=⟨_,dM (rb aC).2⟩;refine Ln (Eu (U0 O (λ_ h=>h) (bV O) ?_));refine WU.nil (λ_ h=>h) ?_;refine WS.e O ?_;refine WL.storeT (y:=bY) 4 i.a.toNat 0 X.1 Y O O O bW O hO bZ dr O O (by decide) O ?_;refine Ln (Es ?_);refine WS.nil ?_;refine Eb ?_;refine E0 O λw' g=>?_;have g:=Ws.df (L:=[_,_,_,_,_,_]) g;have g:=g.oe 0 rfl (congrArg (aE ay) (EL (a0.eK (a0.bJ s) X.2) i.a.toNat X.1));refine .inl ⟨((),{ (a0.eK (a0.bJ s) X.2) with data:=s.data.set i.a.toNat X.1 }),O,⟨?_,⟨v.cr,bU.gL,v.jW,v.out,by show (s.data.set i.a.toNat X.1).length<=512; simp; exact aM⟩⟩,g⟩;unfold ef ep;rw [show s.pu.bJ=(a0.bJ s).pu from rfl];simp only [j,k,l,m,n,aw,cn,cv];rw [aB]
  show (if aN i.a s.data.length=true then _ else _)=_
  rw [aC,av (by simp)]
  rfl
 refine ac (I (bx O O) (ai O (ad ?_)));refine Cc O (λt=>?_) (λt=>?_)
 ·refine ac (ab O (Lf 6 O (Lf 6 O (Lf 6 O (Lf 6 O (Lf 6 O (Lf 6 O ?_)))))));refine m5 v ?_ ?_
  ·intro Q au;refine Ep (WE.b' ?_);refine an λw' g=>?_;have g:=Ws.df (L:=[_,_,_,_,_,_]) g;refine .inr ⟨Q,O,?_,g⟩;unfold ef ep;rw [show s.pu.bJ=(a0.bJ s).pu from rfl];simp only [j,k,l,m,n,t,aw,cn,cv];rw [au]
   rfl
  intro Q ⟨au,b0⟩;refine ai O (ad (ac (ab O (I (cy O O) (ab O ?_)))));apply Lo 4 O O O O Y O O O O O
  ·intro cC;refine Vg (Ym O) (Vg (Yf EM O) (Vg (Yd 6 O O O aa) (Vg (ih O O) ?_)));exact Gt 4 O O O
  refine m4 (c:=decide (Q.1<0)||decide (i.b<=Q.1)) ?_ ?_
  ·intro aD;refine Ep (WE.b' ?_);refine an λw' g=>?_;have g:=Ws.df (L:=[_,_,_,_,_,_]) g;refine .inr ⟨(2,(a0.eK (a0.bJ s) Q.2)),O,?_,g⟩;unfold ef ep;rw [show s.pu.bJ=(a0.bJ s).pu from rfl];simp only [j,k,l,m,n,t,aw,cn,cv];rw [au]
   show (if (decide (Q.1<0)||decide (i.b<=Q.1))=true then _ else _)=_
   rw [a8 aD]
  intro aD;refine ad (Cr (ab O (I (Yf gZ O) (I (Yd 6 O O O aa) (ab O (I (sT O O) ?_))))));refine kJ (pp (IntKind.i64.wrap (i.a+Q.1))) b0 ?_ ?_
  ·intro a1 a2;refine WE.b' ?_;refine an λw' g=>?_;have g:=Ws.df (L:=[_,_,_,_,_,_]) g;refine .inr ⟨a1,O,?_,g⟩;unfold ef ep;rw [show s.pu.bJ=(a0.bJ s).pu from rfl];simp only [j,k,l,m,n,t,aw,cn,cv];rw [au]
   show (if (decide (Q.1<0)||decide (i.b<=Q.1))=true then _ else _)=_
   rw [aD,av (by simp)];exact a2
  intro a1 ⟨a2,b1⟩;refine Ln (Eb ?_);refine E0 O λw' g=>?_;have g:=Ws.df (L:=[_,_,_,_,_,_]) g;refine .inl ⟨((),a1.2),O,⟨?_,b1⟩,g⟩;unfold ef ep;rw [show s.pu.bJ=(a0.bJ s).pu from rfl];simp only [j,k,l,m,n,t,aw,cn,cv];rw [au]
  show (if (decide (Q.1<0)||decide (i.b<=Q.1))=true then _ else _)=_
  rw [aD,av (by simp)];exact a2
 refine ac (I (bx O O) (ai O (ad ?_)));refine Cc O (λu=>?_) (λu=>?_)
 ·refine WC.fact (p:=0<s.data.length->∃b o,s.da=some ⟨b,o,none⟩) (λw g S=>At g 5 O S) λW=>?_;refine CU (λ_=>true) [1,1] [11] (.q false 0 (.q false 1 (.q false 2 (.q false 3 (.q false 4 (.q false 6 (.e 5 (.e 7 (.e 8 (.q false 9 (.q true 10 .nil)) .stop) .stop) (.e 7 (.e 5 (.e 8 (.q false 9 (.q true 10 .nil)) .stop) .stop) .stop)))))))) mixed (by kernel_rfl) (λ_ _ _ d _ _ h=>by cases d<;>exact h) ?_;refine U0 O (dK [1,1]) (Ym O) (U0 O (dK [1,1]) (Ym O) (U0 O (dK [1,1]) (bV O) (U0 O (dK [1,1]) (Yf oD O) (U0 O (dK [1,1]) (Yf wU O) (U0 O (dK [1,1]) (Ym O) ?_)))));refine Ue O (dK [1,1]) ?_ ?_
  ·refine I (Yd 1 O O O aa) (Ln (Eu ?_));refine Ue O (dK [1,1]) ?_ WU.stop;refine Lf 6 O (Lf 6 O (Lf 6 O (Lf 6 O (Lf 6 O (Lf 6 O ?_)))));refine m5 v ?_ ?_
   ·intro G T;refine Ep (WE.b' ?_);refine an λw' g=>?_;have g:=Ws.df (L:=[_,_,_,_,_,_]) g;refine .inr ⟨G,O,?_,g⟩;unfold ef ep;rw [show s.pu.bJ=(a0.bJ s).pu from rfl];simp only [j,k,l,m,n,t,u,aw,cn,cv];rw [T]
    rfl
   intro G ⟨T,a3⟩;refine Ln (Eu ?_);refine Ue O (λ_ h=>(Wo 1 (Wo 1 (h.f 6 O)):)) ?_ WU.stop;refine tz W ?_ ?_
   ·intro U;refine Ep (WE.b' ?_);refine an λw' g=>?_;have g:=Ws.df (L:=[_,_,_,_,_,_]) g;refine .inr ⟨(6,(a0.eK (a0.bJ s) G.2)),O,?_,g⟩;unfold ef ep;rw [show s.pu.bJ=(a0.bJ s).pu from rfl];simp only [j,k,l,m,n,t,u,aw,cn,cv];rw [T]
    show (if aN G.1 s.data.length=true then _ else _)=_
    rw [a8 U]
   intro b2 ⟨U,a4⟩;obtain ⟨ax,ah⟩:∃x,s.data[G.1.toNat]? = some x:=⟨_,dM (rb U).2⟩;refine Ln (Eu (U0 O (λ_ h=>(Wo 1 (Wo 1 (h.f 6 O)):)) (bV O) (U0 O (λ_ h=>(Wo 1 (Wo 1 (h.f 6 O)):)) (uu (y:=ax) 3 G.1.toNat 0 O O a4 O hO ah O aa) ?_)));refine WU.nil (λ_ h=>(Wo 1 (Wo 1 (h.f 6 O)):)) ?_;refine WS.e O ?_;refine kJ (pp ax) a3 ?_ ?_
   ·intro aj ak;refine Ep (WE.b' ?_);refine an λw' g=>?_;have g:=Ws.df (L:=[_,_,_,_,_,_]) g;refine .inr ⟨aj,O,?_,g⟩;unfold ef ep;rw [show s.pu.bJ=(a0.bJ s).pu from rfl];simp only [j,k,l,m,n,t,u,aw,cn,cv];rw [T]
    show (if aN G.1 s.data.length=true then _ else _)=_
    rw [U,av (by simp)]
    show ki (s.data[G.1.toNat]?.getD 0) _=_
    rw [ah];exact ak
   intro aj ⟨ak,a5⟩;refine Ln (Es ?_);refine WS.nil ?_;refine Eb ?_;refine E0 O λw' g=>?_;have g:=Ws.df (L:=[_,_,_,_,_,_]) g;refine .inl ⟨((),aj.2),O,⟨?_,a5⟩,g⟩;unfold ef ep;rw [show s.pu.bJ=(a0.bJ s).pu from rfl];simp only [j,k,l,m,n,t,u,aw,cn,cv];rw [T]
   show (if aN G.1 s.data.length=true then _ else _)=_
   rw [U,av (by simp)]
   show ki (s.data[G.1.toNat]?.getD 0) _=_
   rw [ah];exact ak
  refine Ue O (dK [1,1]) ?_ WU.stop;refine Lf 6 O (Lf 6 O (Lf 6 O (Lf 6 O (Lf 6 O (Lf 6 O ?_)))));refine m5 v ?_ ?_
  ·intro G T;refine Ep (WE.b' ?_);refine an λw' g=>?_;have g:=Ws.df (L:=[_,_,_,_,_,_]) g;refine .inr ⟨G,O,?_,g⟩;unfold ef ep;rw [show s.pu.bJ=(a0.bJ s).pu from rfl];simp only [j,k,l,m,n,t,u,aw,cn,cv];rw [T]
   rfl
  intro G ⟨T,a3⟩;refine Ln (Eu ?_);refine Ue O (λ_ h=>(Wo 1 (Wo 1 (h.f 6 O)):)) ?_ WU.stop;refine I (Yd 0 O O O aa) (Ln (Eu ?_));refine Ue O (λ_ h=>(Wo 1 (Wo 1 (h.f 6 O)):)) ?_ WU.stop;refine tz W ?_ ?_
  ·intro U;refine Ep (WE.b' ?_);refine an λw' g=>?_;have g:=Ws.df (L:=[_,_,_,_,_,_]) g;refine .inr ⟨(6,(a0.eK (a0.bJ s) G.2)),O,?_,g⟩;unfold ef ep;rw [show s.pu.bJ=(a0.bJ s).pu from rfl];simp only [j,k,l,m,n,t,u,aw,cn,cv];rw [T]
   show (if aN G.1 s.data.length=true then _ else _)=_
   rw [a8 U]
  intro b2 ⟨U,a4⟩;obtain ⟨ax,ah⟩:∃x,s.data[G.1.toNat]? = some x:=⟨_,dM (rb U).2⟩;refine Ln (Eu (U0 O (λ_ h=>(Wo 1 (Wo 1 (h.f 6 O)):)) (bV O) (U0 O (λ_ h=>(Wo 1 (Wo 1 (h.f 6 O)):)) (uu (y:=ax) 3 G.1.toNat 0 O O a4 O hO ah O aa) ?_)));refine WU.nil (λ_ h=>(Wo 1 (Wo 1 (h.f 6 O)):)) ?_;refine WS.e O ?_;refine kJ (pp ax) a3 ?_ ?_
  ·intro aj ak;refine Ep (WE.b' ?_);refine an λw' g=>?_;have g:=Ws.df (L:=[_,_,_,_,_,_]) g;refine .inr ⟨aj,O,?_,g⟩;unfold ef ep;rw [show s.pu.bJ=(a0.bJ s).pu from rfl];simp only [j,k,l,m,n,t,u,aw,cn,cv];rw [T]
   show (if aN G.1 s.data.length=true then _ else _)=_
   rw [U,av (by simp)]
   show ki (s.data[G.1.toNat]?.getD 0) _=_
   rw [ah];exact ak
  intro aj ⟨ak,a5⟩;refine Ln (Es ?_);refine WS.nil ?_;refine Eb ?_;refine E0 O λw' g=>?_;have g:=Ws.df (L:=[_,_,_,_,_,_]) g;refine .inl ⟨((),aj.2),O,⟨?_,a5⟩,g⟩;unfold ef ep;rw [show s.pu.bJ=(a0.bJ s).pu from rfl];simp only [j,k,l,m,n,t,u,aw,cn,cv];rw [T]
  show (if aN G.1 s.data.length=true then _ else _)=_
  rw [U,av (by simp)]
  show ki (s.data[G.1.toNat]?.getD 0) _=_
  rw [ah];exact ak
 refine ac (I (bx O O) (ai O (ad ?_)));refine Cc O (λz=>?_) (λz=>?_)
 ·refine ac (ab O (Lf 6 O (Lf 6 O (Lf 6 O (Lf 6 O (Lf 6 O (Lf 6 O ?_)))))));refine m5 v ?_ ?_
  ·intro E af;refine Ep (WE.b' ?_);refine an λw' g=>?_;have g:=Ws.df (L:=[_,_,_,_,_,_]) g;refine .inr ⟨E,O,?_,g⟩;unfold ef ep;rw [show s.pu.bJ=(a0.bJ s).pu from rfl];simp only [j,k,l,m,n,t,u,z,aw,cn,cv];rw [af]
   rfl
  intro E ⟨af,bE⟩;refine ai O (ad ?_);refine WC.fact (p:=0<s.data.length->∃b o,s.da=some ⟨b,o,none⟩) (λw g S=>At g 4 O S) λW=>?_;refine CU (λ_=>true) [0,0] [10] (.q false 0 (.q false 1 (.q false 2 (.q false 3 (.q false 5 (.q false 8 (.e 4 (.e 6 (.e 7 (.q false 9 .nil) .stop) .stop) (.e 6 (.e 4 (.e 7 (.q false 9 .nil) .stop) .stop) .stop)))))))) mixed (by kernel_rfl) (λ_ _ _ d _ _ h=>by cases d<;>exact h) ?_;refine U0 O (dK [0,0]) (Ym O) (U0 O (dK [0,0]) (bV O) (U0 O (dK [0,0]) (Yf oD O) (U0 O (dK [0,0]) (Yf wU O) (U0 O (dK [0,0]) (Ym O) (U0 O (dK [0,0]) (Ym O) ?_)))));refine Ue O (dK [0,0]) ?_ ?_
  ·refine I (Yd 0 O O O aa) (Ln (Eu ?_));refine Ue O (dK [0,0]) ?_ WU.stop;refine m5 bE ?_ ?_
   ·intro C Z;refine Ep (WE.b' ?_);refine an λw' g=>?_;have g:=Ws.df (L:=[_,_,_,_,_,_]) g;refine .inr ⟨C,O,?_,g⟩;unfold ef ep;rw [show s.pu.bJ=(a0.bJ s).pu from rfl];simp only [j,k,l,m,n,t,u,z,aw,cn,cv];rw [af]
    show Rz.bind (dR (a0.eK (a0.bJ s) E.2).pu) _=_
    rw [Z]
    rfl
   intro C ⟨Z,a6⟩;refine Ln (Eu ?_);refine Ue O (dK [0,0]) ?_ WU.stop;refine tz W ?_ ?_
   ·intro ae;refine Ep (WE.b' ?_);refine an λw' g=>?_;have g:=Ws.df (L:=[_,_,_,_,_,_]) g;refine .inr ⟨(6,(a0.eK (a0.eK (a0.bJ s) E.2) C.2)),O,?_,g⟩;unfold ef ep;rw [show s.pu.bJ=(a0.bJ s).pu from rfl];simp only [j,k,l,m,n,t,u,z,aw,cn,cv];rw [af]
    show Rz.bind (dR (a0.eK (a0.bJ s) E.2).pu) _=_
    rw [Z]
    show (if aN C.1 s.data.length=true then _ else _)=_
    rw [a8 ae]
   intro b3 ⟨ae,a7⟩;obtain ⟨a9,a_⟩:∃x,s.data[C.1.toNat]? = some x:=⟨_,dM (rb ae).2⟩;refine Ln (Eu (U0 O (dK [0,0]) (bV O) ?_));refine WU.nil (dK [0,0]) ?_;refine WS.e O ?_;refine WL.storeT (y:=a9) 4 C.1.toNat 0 E.1 Y O O O a7 O hO a_ dr O O (by decide) O ?_;refine Ln (Es ?_);refine WS.nil ?_;refine Eb ?_;refine E0 O λw' g=>?_;have g:=Ws.df (L:=[_,_,_,_,_,_]) g;have g:=g.oe 0 rfl (congrArg (aE ay) (EL (a0.eK (a0.eK (a0.bJ s) E.2) C.2) C.1.toNat E.1));refine .inl ⟨((),{ (a0.eK (a0.eK (a0.bJ s) E.2) C.2) with data:=s.data.set C.1.toNat E.1 }),O,⟨?_,⟨v.cr,a6.gL,v.jW,v.out,by show (s.data.set C.1.toNat E.1).length<=512; simp; exact aM⟩⟩,g⟩;unfold ef ep;rw [show s.pu.bJ=(a0.bJ s).pu from rfl];simp only [j,k,l,m,n,t,u,z,aw,cn,cv];rw [af]
   show Rz.bind (dR (a0.eK (a0.bJ s) E.2).pu) _=_
   rw [Z]
   show (if aN C.1 s.data.length=true then _ else _)=_
   rw [ae,av (by simp)]
   rfl
  refine Ue O (dK [0,0]) ?_ WU.stop;refine m5 bE ?_ ?_
  ·intro C Z;refine Ep (WE.b' ?_);refine an λw' g=>?_;have g:=Ws.df (L:=[_,_,_,_,_,_]) g;refine .inr ⟨C,O,?_,g⟩;unfold ef ep;rw [show s.pu.bJ=(a0.bJ s).pu from rfl];simp only [j,k,l,m,n,t,u,z,aw,cn,cv];rw [af]
   show Rz.bind (dR (a0.eK (a0.bJ s) E.2).pu) _=_
   rw [Z]
   rfl
  intro C ⟨Z,a6⟩;refine Ln (Eu ?_);refine Ue O (dK [0,0]) ?_ WU.stop;refine I (Yd 0 O O O aa) (Ln (Eu ?_));refine Ue O (dK [0,0]) ?_ WU.stop;refine tz W ?_ ?_
  ·intro ae;refine Ep (WE.b' ?_);refine an λw' g=>?_;have g:=Ws.df (L:=[_,_,_,_,_,_]) g;refine .inr ⟨(6,(a0.eK (a0.eK (a0.bJ s) E.2) C.2)),O,?_,g⟩;unfold ef ep;rw [show s.pu.bJ=(a0.bJ s).pu from rfl];simp only [j,k,l,m,n,t,u,z,aw,cn,cv];rw [af]
   show Rz.bind (dR (a0.eK (a0.bJ s) E.2).pu) _=_
   rw [Z]
   show (if aN C.1 s.data.length=true then _ else _)=_
   rw [a8 ae]
  intro b3 ⟨ae,a7⟩;obtain ⟨a9,a_⟩:∃x,s.data[C.1.toNat]? = some x:=⟨_,dM (rb ae).2⟩;refine Ln (Eu (U0 O (dK [0,0]) (bV O) ?_));refine WU.nil (dK [0,0]) ?_;refine WS.e O ?_;refine WL.storeT (y:=a9) 4 C.1.toNat 0 E.1 Y O O O a7 O hO a_ dr O O (by decide) O ?_;refine Ln (Es ?_);refine WS.nil ?_;refine Eb ?_;refine E0 O λw' g=>?_;have g:=Ws.df (L:=[_,_,_,_,_,_]) g;have g:=g.oe 0 rfl (congrArg (aE ay) (EL (a0.eK (a0.eK (a0.bJ s) E.2) C.2) C.1.toNat E.1));refine .inl ⟨((),{ (a0.eK (a0.eK (a0.bJ s) E.2) C.2) with data:=s.data.set C.1.toNat E.1 }),O,⟨?_,⟨v.cr,a6.gL,v.jW,v.out,by show (s.data.set C.1.toNat E.1).length<=512; simp; exact aM⟩⟩,g⟩;unfold ef ep;rw [show s.pu.bJ=(a0.bJ s).pu from rfl];simp only [j,k,l,m,n,t,u,z,aw,cn,cv];rw [af]
  show Rz.bind (dR (a0.eK (a0.bJ s) E.2).pu) _=_
  rw [Z]
  show (if aN C.1 s.data.length=true then _ else _)=_
  rw [ae,av (by simp)]
  rfl
 refine ac (I (bx O O) (ai O (ad ?_)));refine Cc O (λA=>?_) (λA=>?_)
 ·refine Cr (ab O (ab O (Lf 6 O (Lf 6 O (Lf 6 O (Lf 6 O (Lf 6 O ?_)))))));refine Lf 6 O ?_;refine m5 v ?_ ?_
  ·intro ba aF;refine WE.b' ?_;refine an λw' g=>?_;have g:=Ws.df (L:=[_,_,_,_,_,_]) g;refine .inr ⟨ba,O,?_,g⟩;unfold ef ep;rw [show s.pu.bJ=(a0.bJ s).pu from rfl];simp only [j,k,l,m,n,t,u,z,A,aw,cn,cv];rw [aF]
   rfl
  intro ba ⟨aF,b4⟩;refine I (bx O O) (Lp Y O aK O (λw g=>Be _ w) ?_);refine kJ (pp (i3 (ba.1==0))) b4 ?_ ?_
  ·intro bb bc;refine WE.b' ?_;refine an λw' g=>?_;have g:=Ws.df (L:=[_,_,_,_,_,_]) g;refine .inr ⟨bb,O,?_,g⟩;unfold ef ep;rw [show s.pu.bJ=(a0.bJ s).pu from rfl];simp only [j,k,l,m,n,t,u,z,A,aw,cn,cv];rw [aF];exact bc
  intro bb ⟨bc,b6⟩;refine Ln (Eb ?_);refine E0 O λw' g=>?_;have g:=Ws.df (L:=[_,_,_,_,_,_]) g;refine .inl ⟨((),bb.2),O,⟨?_,b6⟩,g⟩;unfold ef ep;rw [show s.pu.bJ=(a0.bJ s).pu from rfl];simp only [j,k,l,m,n,t,u,z,A,aw,cn,cv];rw [aF];exact bc
 refine ac (I (bx O O) (ai O (ad ?_)));refine Cc O (λB=>?_) (λB=>?_)
 ·refine Cr (ab O (ab O (Lf 6 O (Lf 6 O (Lf 6 O (Lf 6 O (Lf 6 O ?_)))))));refine Lf 6 O ?_;refine m5 v ?_ ?_
  ·intro bd aG;refine WE.b' ?_;refine an λw' g=>?_;have g:=Ws.df (L:=[_,_,_,_,_,_]) g;refine .inr ⟨bd,O,?_,g⟩;unfold ef ep;rw [show s.pu.bJ=(a0.bJ s).pu from rfl];simp only [j,k,l,m,n,t,u,z,A,B,aw,cn,cv];rw [aG]
   rfl
  intro bd ⟨aG,b7⟩;refine I (fh O O) (Lp Y O aK O (λw g=>Be _ w) ?_);refine kJ (pp (i3 (bd.1 != 0))) b7 ?_ ?_
  ·intro be bf;refine WE.b' ?_;refine an λw' g=>?_;have g:=Ws.df (L:=[_,_,_,_,_,_]) g;refine .inr ⟨be,O,?_,g⟩;unfold ef ep;rw [show s.pu.bJ=(a0.bJ s).pu from rfl];simp only [j,k,l,m,n,t,u,z,A,B,aw,cn,cv];rw [aG];exact bf
  intro be ⟨bf,b9⟩;refine Ln (Eb ?_);refine E0 O λw' g=>?_;have g:=Ws.df (L:=[_,_,_,_,_,_]) g;refine .inl ⟨((),be.2),O,⟨?_,b9⟩,g⟩;unfold ef ep;rw [show s.pu.bJ=(a0.bJ s).pu from rfl];simp only [j,k,l,m,n,t,u,z,A,B,aw,cn,cv];rw [aG];exact bf
 refine ac (I (bx O O) (ai O (ad ?_)));refine Cc O (λD=>?_) (λD=>?_)
 ·refine Cr (ab O (I (Yf gZ O) (I (Yd 0 O O O aa) (Lf 6 O (Lf 6 O (Lf 6 O (Lf 6 O ?_)))))));refine Lf 6 O (Lf 6 O ?_);refine kJ (Rg i.a) v ?_ ?_
  ·intro bg bh;refine WE.b' ?_;refine an λw' g=>?_;have g:=Ws.df (L:=[_,_,_,_,_,_]) g;refine .inr ⟨bg,O,?_,g⟩;unfold ef ep;rw [show s.pu.bJ=(a0.bJ s).pu from rfl];simp only [j,k,l,m,n,t,u,z,A,B,D,aw,cn,cv];exact bh
  intro bg ⟨bh,b_⟩;refine Ln (Eb ?_);refine E0 O λw' g=>?_;have g:=Ws.df (L:=[_,_,_,_,_,_]) g;refine .inl ⟨((),bg.2),O,⟨?_,b_⟩,g⟩;unfold ef ep;rw [show s.pu.bJ=(a0.bJ s).pu from rfl];simp only [j,k,l,m,n,t,u,z,A,B,D,aw,cn,cv];exact bh
 refine ac (I (bx O O) (ai O (ad ?_)));refine Cc O (λF=>?_) (λF=>?_)
 ·refine Cr (ab O (I (Yf gZ O) (I (Yd 0 O O O aa) (I (bV O) (I (Yf qd O) (aT 1 Y O O O dr O O O (Ln (Eb ?_))))))));refine E0 O λw' g=>?_;have g:=g.aJ 6 rfl;have g:=g.aJ 6 rfl;have g:=g.aJ 6 rfl;have g:=g.aJ 6 rfl;have g:=g.aJ 6 rfl;have g:=g.aJ 6 rfl;have g:=Ws.df (L:=[_,_,_,_,_,_]) g;refine .inl ⟨((),{ (a0.bJ s) with at_:=i.a }),O,⟨?_,v.at i.a⟩,g⟩;unfold ef ep;rw [show s.pu.bJ=(a0.bJ s).pu from rfl];simp only [j,k,l,m,n,t,u,z,A,B,D,F,aw,cn,cv]
  all_goals rfl
 refine ac (I (bx O O) (ai O (ad ?_)));refine Cc O (λH=>?_) (λH=>?_)
 ·refine ac (ab O (Lf 6 O (Lf 6 O (Lf 6 O (Lf 6 O (Lf 6 O (Lf 6 O ?_)))))));refine m5 v ?_ ?_
  ·intro am aH;refine Ep (WE.b' ?_);refine an λw' g=>?_;have g:=Ws.df (L:=[_,_,_,_,_,_]) g;refine .inr ⟨am,O,?_,g⟩;unfold ef ep;rw [show s.pu.bJ=(a0.bJ s).pu from rfl];simp only [j,k,l,m,n,t,u,z,A,B,D,F,H,aw,cn,cv];rw [aH]
   rfl
  intro am ⟨aH,bF⟩;refine I (bx O O) (ad ?_);refine Cc O (λbj=>?_) (λbj=>?_)
  ·refine Cr (ab O (I (Yf gZ O) (I (Yd 6 O O O aa) (I (bV O) (I (Yf qd O) (aT 0 Y O O O dr O O O (Ln (Eb ?_))))))));refine E0 O λw' g=>?_;have g:=Ws.df (L:=[_,_,_,_,_,_]) g;refine .inl ⟨((),{ (a0.eK (a0.bJ s) am.2) with at_:=i.a }),O,⟨?_,bF.at _⟩,g⟩;unfold ef ep;rw [show s.pu.bJ=(a0.bJ s).pu from rfl];simp only [j,k,l,m,n,t,u,z,A,B,D,F,H,aw,cn,cv];rw [aH]
   show (if (am.1==0)=true then _ else _)=_
   rw [bj]
   rfl
  refine Ck (Eb ?_);refine E0 O λw' g=>?_;have g:=Ws.df (L:=[_,_,_,_,_,_]) g;refine .inl ⟨((),(a0.eK (a0.bJ s) am.2)),O,⟨?_,bF⟩,g⟩;unfold ef ep;rw [show s.pu.bJ=(a0.bJ s).pu from rfl];simp only [j,k,l,m,n,t,u,z,A,B,D,F,H,aw,cn,cv];rw [aH]
  show (if (am.1==0)=true then _ else _)=_
  rw [bj]
  rfl
 refine ac (I (bx O O) (ai O (ad ?_)));refine Cc O (λJ=>?_) (λJ=>?_)
 ·refine Cr (ab O (I (Yf gZ O) (I (Yd 0 O O O aa) (Lf 6 O (Lf 6 O (Lf 6 O (Lf 6 O ?_)))))));refine Lf 6 O (Lf 6 O ?_);refine kJ (Rm i.a) v ?_ ?_
  ·intro bk bl;refine WE.b' ?_;refine an λw' g=>?_;have g:=Ws.df (L:=[_,_,_,_,_,_]) g;refine .inr ⟨bk,O,?_,g⟩;unfold ef ep;rw [show s.pu.bJ=(a0.bJ s).pu from rfl];simp only [j,k,l,m,n,t,u,z,A,B,D,F,H,J,aw,cn,cv];exact bl
  intro bk ⟨bl,ca⟩;refine Ln (Eb ?_);refine E0 O λw' g=>?_;have g:=Ws.df (L:=[_,_,_,_,_,_]) g;refine .inl ⟨((),bk.2),O,⟨?_,ca⟩,g⟩;unfold ef ep;rw [show s.pu.bJ=(a0.bJ s).pu from rfl];simp only [j,k,l,m,n,t,u,z,A,B,D,F,H,J,aw,cn,cv];exact bl
 refine ac (I (bx O O) (ai O (ad ?_)));refine Cc O (λM=>?_) (λM=>?_)
 ·refine Cr (ab O (I (Yf gZ O) (I (Yd 0 O O O aa) (I (Yf EM O) (I (Yd 0 O O O aa) (Lf 6 O (Lf 6 O ?_)))))));refine Lf 6 O (Lf 6 O (Lf 6 O (Lf 6 O ?_)));refine kJ (Ro i.a i.b) v ?_ ?_
  ·intro bm bn;refine WE.b' ?_;refine an λw' g=>?_;have g:=Ws.df (L:=[_,_,_,_,_,_]) g;refine .inr ⟨bm,O,?_,g⟩;unfold ef ep;rw [show s.pu.bJ=(a0.bJ s).pu from rfl];simp only [j,k,l,m,n,t,u,z,A,B,D,F,H,J,M,aw,cn,cv];exact bn
  intro bm ⟨bn,cb⟩;refine Ln (Eb ?_);refine E0 O λw' g=>?_;have g:=Ws.df (L:=[_,_,_,_,_,_]) g;refine .inl ⟨((),bm.2),O,⟨?_,cb⟩,g⟩;unfold ef ep;rw [show s.pu.bJ=(a0.bJ s).pu from rfl];simp only [j,k,l,m,n,t,u,z,A,B,D,F,H,J,M,aw,cn,cv];exact bn
 refine ac (I (bx O O) (ai O (ad ?_)));refine Cc O (λP=>?_) (λP=>?_)
 ·refine Cr (ab O (Lf 6 O (Lf 6 O (Lf 6 O (Lf 6 O (Lf 6 O (Lf 6 O ?_)))))));refine kJ Rl v ?_ ?_
  ·intro bo bp;refine WE.b' ?_;refine an λw' g=>?_;have g:=Ws.df (L:=[_,_,_,_,_,_]) g;refine .inr ⟨bo,O,?_,g⟩;unfold ef ep;rw [show s.pu.bJ=(a0.bJ s).pu from rfl];simp only [j,k,l,m,n,t,u,z,A,B,D,F,H,J,M,P,aw,cn,cv];exact bp
  intro bo ⟨bp,cc⟩;refine Ln (Eb ?_);refine E0 O λw' g=>?_;have g:=Ws.df (L:=[_,_,_,_,_,_]) g;refine .inl ⟨((),bo.2),O,⟨?_,cc⟩,g⟩;unfold ef ep;rw [show s.pu.bJ=(a0.bJ s).pu from rfl];simp only [j,k,l,m,n,t,u,z,A,B,D,F,H,J,M,P,aw,cn,cv];exact bp
 refine ac (I (bx O O) (ai O (ad ?_)));refine Cc O (λR=>?_) (λR=>?_)
 ·refine Cr (ab O (Lf 6 O (Lf 6 O (Lf 6 O (Lf 6 O (Lf 6 O (Lf 6 O ?_)))))));refine kJ Jv v ?_ ?_
  ·intro bq br;refine WE.b' ?_;refine an λw' g=>?_;have g:=Ws.df (L:=[_,_,_,_,_,_]) g;refine .inr ⟨bq,O,?_,g⟩;unfold ef ep;rw [show s.pu.bJ=(a0.bJ s).pu from rfl];simp only [j,k,l,m,n,t,u,z,A,B,D,F,H,J,M,P,R,aw,cn,cv];exact br
  intro bq ⟨br,cd⟩;refine Ln (Eb ?_);refine E0 O λw' g=>?_;have g:=Ws.df (L:=[_,_,_,_,_,_]) g;refine .inl ⟨((),bq.2),O,⟨?_,cd⟩,g⟩;unfold ef ep;rw [show s.pu.bJ=(a0.bJ s).pu from rfl];simp only [j,k,l,m,n,t,u,z,A,B,D,F,H,J,M,P,R,aw,cn,cv];exact br
 refine ac (I (bx O O) (ai O (ad ?_)));refine Cc O (λV=>?_) (λV=>?_)
 ·refine Cr (ab O (Lf 6 O (Lf 6 O (Lf 6 O (Lf 6 O (Lf 6 O (Lf 6 O ?_)))))));refine m5 v ?_ ?_
  ·intro bs bt;refine WE.b' ?_;refine an λw' g=>?_;have g:=Ws.df (L:=[_,_,_,_,_,_]) g;refine .inr ⟨bs,O,?_,g⟩;unfold ef ep;rw [show s.pu.bJ=(a0.bJ s).pu from rfl];simp only [j,k,l,m,n,t,u,z,A,B,D,F,H,J,M,P,R,V,aw,cn,cv];rw [bt]
   rfl
  intro bs ⟨bt,ce⟩;refine Ln (Eb ?_);refine E0 O λw' g=>?_;have g:=Ws.df (L:=[_,_,_,_,_,_]) g;refine .inl ⟨((),(a0.eK (a0.bJ s) bs.2)),O,⟨?_,ce⟩,g⟩;unfold ef ep;rw [show s.pu.bJ=(a0.bJ s).pu from rfl];simp only [j,k,l,m,n,t,u,z,A,B,D,F,H,J,M,P,R,V,aw,cn,cv];rw [bt]
  rfl
 refine ac (I (bx O O) (ai O (ad ?_)));refine Cc O (λag=>?_) (λag=>?_)
 ·refine Cr (ab O (ab O (Lf 6 O (Lf 6 O (Lf 6 O (Lf 6 O (Lf 6 O ?_)))))));refine Lf 6 O ?_;refine kJ Rh v ?_ ?_
  ·intro bG aI;refine WE.b' ?_;refine an λw' g=>?_;cases aI
  intro bG ⟨aI,cf⟩;refine kJ (pp bG.1) cf ?_ ?_
  ·intro bu bv;refine WE.b' ?_;refine an λw' g=>?_;have g:=Ws.df (L:=[_,_,_,_,_,_]) g;refine .inr ⟨bu,O,?_,g⟩;unfold ef ep;rw [show s.pu.bJ=(a0.bJ s).pu from rfl];simp only [j,k,l,m,n,t,u,z,A,B,D,F,H,J,M,P,R,V,ag,aw,cn,cv]
   injection aI with bw bz
   rw [bw,bz];exact bv
  intro bu ⟨bv,cg⟩;refine Ln (Eb ?_);refine E0 O λw' g=>?_;have g:=Ws.df (L:=[_,_,_,_,_,_]) g;refine .inl ⟨((),bu.2),O,⟨?_,cg⟩,g⟩;unfold ef ep;rw [show s.pu.bJ=(a0.bJ s).pu from rfl];simp only [j,k,l,m,n,t,u,z,A,B,D,F,H,J,M,P,R,V,ag,aw,cn,cv]
  injection aI with bw bz
  rw [bw,bz];exact bv
 refine ac (I (bx O O) (ai O (ad ?_)));refine Cc O (λao=>?_) (λao=>?_)
 ·refine ac (ab O (Lf 6 O (Lf 6 O (Lf 6 O (Lf 6 O (Lf 6 O (Lf 6 O ?_)))))));refine m5 v ?_ ?_
  ·intro al aL;refine Ep (WE.b' ?_);refine an λw' g=>?_;have g:=Ws.df (L:=[_,_,_,_,_,_]) g;refine .inr ⟨al,O,?_,g⟩;unfold ef ep;rw [show s.pu.bJ=(a0.bJ s).pu from rfl];simp only [j,k,l,m,n,t,u,z,A,B,D,F,H,J,M,P,R,V,ag,ao,aw,cn,cv];rw [aL]
   rfl
  intro al ⟨aL,ch⟩;refine ai O (ad (ac (ab O (I (bV O) (I (Yf oD O) (I (Yf wV O) (I (Yd 0 O O O aa) (I (Yn a' O) ?_))))))));refine I (bx O O) ?_;refine m4 (c:=((s.out.length:Nat):Int)==200) ?_ ?_
  ·intro bA;refine Ep (WE.b' ?_);refine an λw' g=>?_;have g:=Ws.df (L:=[_,_,_,_,_,_]) g;refine .inr ⟨(5,(a0.eK (a0.bJ s) al.2)),O,?_,g⟩;unfold ef ep;rw [show s.pu.bJ=(a0.bJ s).pu from rfl];simp only [j,k,l,m,n,t,u,z,A,B,D,F,H,J,M,P,R,V,ag,ao,aw,cn,cv];rw [aL]
   show (if s.out.length=200 then _ else _)=_
   rw [a8 (by simp at bA; omega)]
  intro bA;refine ad ?_
  have ci:¬s.out.length=200:=by simp at bA; omega
  refine Cr (ab O (ab O (I (bV O) (I (Yf oD O) (I (Yf wV O) (I (Yd 0 O O O aa) (ab O ?_)))))));refine Lb Y O kj O O O O λcD=>?_;refine LA (xs:=s.out) al.1 4 0 Y O kj O O O O O O (by omega) (by omega) λcj ck=>?_;refine I (bV O) (I (Yf oD O) (I (Yf wV O) (aT 1 Y O O O po O O O (Ln (Eb ?_)))));refine E0 O λw' g=>?_;have g:=g.aJ 6 rfl;have g:=g.aJ 6 rfl;have g:=g.aJ 6 rfl;have g:=g.aJ 6 rfl;have g:=g.aJ 6 rfl;have g:=g.aJ 6 rfl;have g:=Ws.df (L:=[_,_,_,_,_,_]) g;refine .inl ⟨((),{ (a0.eK (a0.bJ s) al.2) with out:=s.out++[al.1],oa:=cj,oc:=ck }),O,⟨?_,⟨v.cr,ch.gL,v.jW,by show (s.out++[al.1]).length<=200; simp; omega,v.jz⟩⟩,g⟩;unfold ef ep;rw [show s.pu.bJ=(a0.bJ s).pu from rfl];simp only [j,k,l,m,n,t,u,z,A,B,D,F,H,J,M,P,R,V,ag,ao,aw,cn,cv];rw [aL]
  show (if s.out.length=200 then _ else _)=_
  rw [av ci]
  rfl
 refine ac (I (bx O O) (ai O (ad ?_)));refine Cc O (λbB=>?_) (λbB=>?_)
 ·refine Cr ?_;refine m4 (c:=true) ?_ ?_
  ·intro bH;refine WE.b' ?_;refine an λw' g=>?_;have g:=g.aJ 6 rfl;have g:=g.aJ 6 rfl;have g:=g.aJ 6 rfl;have g:=g.aJ 6 rfl;have g:=g.aJ 6 rfl;have g:=g.aJ 6 rfl;have g:=Ws.df (L:=[_,_,_,_,_,_]) g;refine .inr ⟨(0,(a0.bJ s)),O,?_,g⟩;unfold ef ep;rw [show s.pu.bJ=(a0.bJ s).pu from rfl];simp only [j,k,l,m,n,t,u,z,A,B,D,F,H,J,M,P,R,V,ag,ao,bB,aw,cn,cv]
   all_goals rfl
  intro bH;refine Ln (Eb ?_);refine E0 O λw' g=>?_;cases bH
 refine Ck (Eb ?_);refine E0 O λw' g=>?_;have g:=g.aJ 6 rfl;have g:=g.aJ 6 rfl;have g:=g.aJ 6 rfl;have g:=g.aJ 6 rfl;have g:=g.aJ 6 rfl;have g:=g.aJ 6 rfl;have g:=Ws.df (L:=[_,_,_,_,_,_]) g;refine .inl ⟨((),(a0.bJ s)),O,⟨?_,v⟩,g⟩;unfold ef ep;rw [show s.pu.bJ=(a0.bJ s).pu from rfl];simp only [j,k,l,m,n,t,u,z,A,B,D,F,H,J,M,P,R,V,ag,ao,bB,aw,cn,cv]
 all_goals rfl
end Go.Proofs.YtgeahfjicmlocaaGreatDoor.Mch
end
section
namespace Go.Proofs.YtgeahfjicmlocaaGreatDoor.Mch
open Go.Bw Go.Proofs.Tryz
def IM {P:Program} {l:List (Nat×Value)} {W:World->Prop} {d:Option Tmp} {ty:TypeId} {pos:String} {af:Array Edge} {g:Option (Nat×Bool)} {x:Operand} {t u:TypeId} {v:Value} (h:∀(w:World) (v:Value),(Instr.typeAssert (.iface t v) u t true).run P w = .ok (.tuple #[v,.bool true]) w) (a:bu l x=some (.iface t v)) :
   Yl P l W ⟨d,.typeAssert x u t true,ty,pos,af,g⟩ (.tuple #[v,.bool true]):=λc w b _=>by
 simp only [execOp,b x _ a,Sem.run_bind,h w v,Result.andThen_ok,Sem.run_pure]
def Rt (e:Int) (s:a0):Obj:=.cells #[.int .i64 e,.slice s.oa s.out.length s.oc,.slice s.da s.data.length s.dc,.int .i64 s.cH] 64 (0,0)
def Ru:∀(w:World) (v:Value),(Instr.typeAssert (.iface 165 v) 20 165 true).run prog w = .ok (.tuple #[v,.bool true]) w:=λw v=>by kernel_rfl
def r':ig prog 64=some 4:=aa
def Rv:dV prog 165=some 1:=aa
def Rw:cJ prog 165 0=some 0:=aa
def JB:cJ prog 64 0=some 0:=aa
def Bi:cJ prog 163 2=some 2:=aa
def wW:dV prog 64=some 4:=aa
def l4:dV prog 30=some 1:=aa
def Bj (b c f g a:Nat) (s:a0) (x:Int) (k l m n o p:Value) (w:World) (r:Ws w ([aE b (.cells #[.pointer (some ⟨a,0,none⟩)] 159 (0,0)),aE c (.cells #[k,l,m,n] 64 (0,0)),aE f (.cells #[o] 3 (0,0)),aE g (.cells #[p] 30 (0,0)),aE a s.obj].flatMap ah.ids) [aE b (.cells #[.pointer (some ⟨a,0,none⟩)] 159 (0,0)),aE c (.cells #[k,l,m,n] 64 (0,0)),aE f (.cells #[o] 3 (0,0)),aE g (.cells #[p] 30 (0,0)),aE a s.obj] [] w) :
   CallsD prog 83 #[.pointer (some ⟨b,0,none⟩),.pointer (some ⟨c,0,none⟩),.pointer (some ⟨f,0,none⟩),.pointer (some ⟨g,0,none⟩)] (.panicking [⟨.iface 165 (.agg #[.int .i64 x]),false,false⟩]) w λe t w'=>t = .panicking [⟨.iface 165 (.agg #[.int .i64 x]),true,false⟩]/\(e = .returned (.tuple #[])/\Ws w ([aE b (.cells #[.pointer (some ⟨a,0,none⟩)] 159 (0,0)),aE c (.cells #[k,l,m,n] 64 (0,0)),aE f (.cells #[o] 3 (0,0)),aE g (.cells #[p] 30 (0,0)),aE a s.obj].flatMap ah.ids) [aE b (.cells #[.pointer (some ⟨a,0,none⟩)] 159 (0,0)),aE c (Rt x s),aE f (.cells #[.int .i64 s.steps] 3 (0,0)),aE g (.cells #[.int .i64 0] 30 (0,0)),aE a (jq s.obj 6 [.int .i64 x])] [] w'):=by
 refine yk func83 O 31 O O O O O (λ_=>rfl) (.inr ⟨_,O,O,O⟩) ?_;refine LW (W':=Ws w ([aE b (.cells #[.pointer (some ⟨a,0,none⟩)] 159 (0,0)),aE c (.cells #[k,l,m,n] 64 (0,0)),aE f (.cells #[o] 3 (0,0)),aE g (.cells #[p] 30 (0,0)),aE a s.obj].flatMap ah.ids) [aE b (.cells #[.pointer (some ⟨a,0,none⟩)] 159 (0,0)),aE c (.cells #[k,l,m,n] 64 (0,0)),aE f (.cells #[o] 3 (0,0)),aE g (.cells #[p] 30 (0,0)),aE a s.obj] []) (λ_ e=>by subst e; exact r) ?_;refine ai O (ad (ac (ab O (I (IM Ru O) (ab O (I (Yx O O) (I (Yx O O) ?_)))))));refine Al Y O Ju λu=>?_;refine aT 0 Y O O O Rv O O O (ai O (ad (ac (ab O (ad ?_)))));refine WC.C6 O ?_;refine ac (I (Yd 1 O O O aa) (I (Yf Rw O) (I (Yd 0 O O (v:=.int .i64 x) O aa) (I (bV O) (I (Yf oD O) (I (Yf JB O) (aT 5 Y O O O dr O O O ?_)))))));refine dn 5 (jq s.obj 6 [.int .i64 x]) O O (ad ?_);refine CU (λ_=>true) [] [8,9,10] (.q true 0 (.q false 1 (.q false 2 (.q true 3 (.q true 4 (.q false 5 (.q false 6 (.q true 7 .nil)))))))) mixed aa (λ_ _ _ d _ _ h=>by cases d<;>exact h) ?_;refine U0 O ag (Yd 1 O O O aa) (U0 O ag (bV O) (U0 O ag (Yf oD O) ?_))
 refine U0 O ag (C' r' O (cs:=[.int .i64 x,.slice s.oa s.out.length s.oc,.slice s.da s.data.length s.dc,.int .i64 s.cH]) O (λw r j v hv=>by
   refine cell_of_heap (r.kn _ (dY (i:=5) O)) ?_
   match j,hv with
   | 0,hv=>exact hv
   | 1,hv=>exact hv
   | 2,hv=>exact hv
   | 3,hv=>exact hv)) ?_
 refine U0 O ag (Yd 1 O O O aa) (U0 O ag (bV O) (U0 O ag (Yf Bi O) (U0 O ag (Yd 5 O O O aa) ?_)));refine WU.nil ag ?_;refine WS.e O ?_;refine aT 2 Y O O O wW O O O (Ln (Es ?_));refine WS.e O ?_;refine aT 3 Y O O O dr O O O (Ln (Es ?_));refine WS.e O ?_;refine aT 4 Y O O O l4 O O O (Ln (Es ?_));refine WS.nil ?_;refine E0 O λw' r=>?_;exact ⟨O,Wd 1 r⟩
end Go.Proofs.YtgeahfjicmlocaaGreatDoor.Mch
end
section
namespace Go.Proofs.YtgeahfjicmlocaaGreatDoor.Mch
open Go.Bw Go.Proofs.Tryz
def Rz.st {α:Type} (r:Rz α):Pm:=match r with | .ok _ m=>m | .ov _ m=>m
def Pm.kp (m:Pm):Int×Int:=(m.pi,m.steps)
variable {u0:Int×Int}
def Rz.yR {α c:Type} {r:Rz α} {f:α->Pm->Rz c}  (b:r.st.kp=u0) (d:∀a m,m.kp=u0->(f a m).st.kp=u0):(r.bind f).st.kp=u0:=by
 cases r with
 | ok a m=>exact d a m b
 | ov e m=>exact b
def EN {α:Type} {c:Prop} [Decidable c] {a b:Rz α}  (d:a.st.kp=u0) (e:b.st.kp=u0):(if c then a else b).st.kp=u0:=by
 split
 · exact d
 · exact e
def Bk (m:Pm):(dR m).st.kp=m.kp:=by unfold dR; split<;>rfl
def yS (n:Int) (m:Pm):(ki n m).st.kp=m.kp:=by unfold ki; split<;>rfl
def JC (m:Pm):(uV m).st.kp=m.kp:=by unfold uV; split<;>rfl
def Rx (op:Int) (m:Pm):(nI op m).st.kp=m.kp:=by
 unfold nI
 split
 · rfl
 · refine Rz.yR (Bk m) λb e d=>Rz.yR (by rw [Bk,d]) λa f c=>?_
   split
   · rw [yS,c]
   · split
     · exact c
     · rw [yS,c]
def Ry (a b:Int) (m:Pm):(tx a b m).st.kp=m.kp:=by unfold tx; split<;>rfl
def IV (to:Int) (m:Pm):(uW to m).st.kp=m.kp:=by
 unfold uW;refine Rz.yR (JC m) λ_ b a=>?_
 split
 · exact a
 · exact a
def RA (m:Pm):(wQ m).st.kp=m.kp:=by
 unfold wQ
 split
 · rfl
 · split<;>rfl
def JD (m:Pm):(pk m).2.kp=m.kp:=by unfold pk; split<;>rfl
def RB (i:bX) (m:Pm):(ef i m).st.kp=m.kp:=by
 have b:m.bJ.kp=m.kp:=rfl;rw [<-b];unfold ef
 generalize m.bJ=m
 unfold ep
 repeat' apply EN
 all_goals first
   | rfl
   | exact yS _ _
   | exact Rx _ _
   | exact IV _ _
   | exact Ry _ _ _
   | exact RA _
   | exact JC _
   | (rw [yS,JD]; done)
   | exact JD _
   | (split<;>rfl)
   | (refine Rz.yR (Bk m) λn d a=>?_
      repeat' apply EN
      all_goals first
        | exact a
        | (rw [yS,a]; done)
        | (refine Rz.yR (by rw [Bk,a]) λk e c=>?_
           repeat' apply EN
           all_goals exact c))
def Pm.tk (m:Pm):Pm:={ m with steps:=IntKind.i64.wrap (m.steps+1) }
def iterM (code:List bX) (bq:Int) (m:Pm):Rz Unit:=if (m.steps==bq)=true then .ov 7 m else if aN m.at_ code.length=true then .ov 6 m.tk else ef (code[m.at_.toNat]?.getD ⟨0,0,0⟩) m.tk
def runK (code:List bX) (bq:Int):Nat->Pm->Int×Pm
 | 0,m=>(7,m)
 | k+1,m=>match iterM code bq m with
   | .ov e m'=>(e,m')
   | .ok _ m'=>runK code bq k m'
def RC {code:List bX} {bq:Int} {m m':Pm} (d:bq<=134217728) (f:0<=m.steps) (g:m.steps<=bq) (h:iterM code bq m = .ok () m'):m'.steps=m.steps+1/\m.steps<bq:=by
 unfold iterM at h
 split at h
 · cases h
 · rename_i b
   have c:m.steps<bq:=by simp at b; omega
   split at h
   · cases h
   · have a:=RB (code[m.at_.toNat]?.getD ⟨0,0,0⟩) m.tk
     rw [h] at a;have e:m'.steps=m.tk.steps:=congrArg Prod.snd a;refine ⟨?_,c⟩;rw [e]
     show IntKind.i64.wrap (m.steps+1)=_
     rw [x5 Z]
structure Jf where
 fin:Int
 out:List Int
 data:List Int
 cH:Int
deriving DecidableEq
def JE (cH:Int) (cr:List Int) (data:Int):Pm:=⟨0,cH,0,[],[([],0)],cr,[],List.replicate data.toNat 0,0⟩
def oE (code:List bX) (data:Int) (cr:List Int) (cH steps:Int):Int:=
 if iF code data=0 then if 64<cr.length then 2 else if (((decide (cH<0)||decide (2000<cH))||decide (steps<0))||decide (134217728<steps))=true then 3 else 0 else iF code data
def hE (code:List bX) (data:Int) (cr:List Int) (cH steps:Int):Jf×Int:=
 if oE code data cr cH steps=0 then
   let r:=runK code steps (steps.toNat+1) (JE cH cr data)
   (⟨r.1,r.2.out,r.2.data,r.2.cH⟩,r.2.steps)
 else (⟨0,[],[],0⟩,0)
end Go.Proofs.YtgeahfjicmlocaaGreatDoor.Mch
end
section
namespace Go.Proofs.YtgeahfjicmlocaaGreatDoor.Mch
open Go.Bw Go.Proofs.Tryz
abbrev a0.tk (s:a0):a0:={ s with steps:=IntKind.i64.wrap (s.steps+1) }
def a0.iO.tk {a:View} {s:a0} (h:s.iO a):a0.iO a (a0.tk s):=⟨h.cr,h.gL,h.jW,h.out,h.jz⟩
variable {aF:List bX} {aL:Int}
def RD (h:iF aF aL=0):0<=aL/\aL<=512:=by
 unfold iF at h
 split at h
 · cases h
 · split at h
   · cases h
   · split at h
     · cases h
     · rename_i a; simp at a; omega
def yT:madeCells (Value.agg #[.slice none 0 0,.int .i64 0]).cells ((1:Int).toNat*2) = #[.slice none 0 0,.int .i64 0]:=aa
variable {Bl Bm:Pm}
def Bn {e:Int} (k:Nat) (h:iterM aF aL Bl = .ov e Bm):runK aF aL (k+1) Bl=(e,Bm):=by simp [runK,h]
def RE (k:Nat) (h:iterM aF aL Bl = .ok () Bm):runK aF aL (k+1) Bl=runK aF aL k Bm:=by simp [runK,h]
def wX:zeroOf prog 64=some (.agg #[.int .i64 0,.slice none 0 0,.slice none 0 0,.int .i64 0]):=aa
def u1:zeroOf prog 3=some (.int .i64 0):=aa
def yU:zeroOf prog 30=some (.int .i64 0):=aa
def nJ:ig prog 57=some 2:=aa
def Bo:hx prog 64=some [(0,1),(1,1),(2,1),(3,1)]:=aa
def wY:hx prog 163=some [(0,1),(1,1),(2,1),(3,1),(4,1),(5,1),(6,4)]:=aa
def wZ:zeroOf prog 163=some (.agg #[.int .i64 0,.int .i64 0,.int .i64 0,.slice none 0 0,.slice none 0 0,.slice none 0 0,.int .i64 0,.slice none 0 0,.slice none 0 0,.int .i64 0]):=aa
def u2:zeroOf prog 159=some (.pointer none):=aa
def gf:dV prog 159=some 1:=aa
set_option maxHeartbeats 4000000 in
def RF (H:View) (a:Option Addr) (c:Nat) (code:List bX) (data:Int) (y:View) (z:Option Addr) (A:Nat) (cr:List Int) (cH steps:Int) (w:World) (ag:Le H w) (M:Sl iE 3 H a c code) (ah:Le y w) (B:Sl jD 1 y z A cr) :
   Calls prog 20 #[.agg #[.slice a code.length c,.int .i64 data],.slice z cr.length A,.int .i64 cH,.int .i64 steps] w λe w'=>∃r:(Option Addr×Nat)×(Option Addr×Nat),e = .returned (.tuple #[.agg #[.int .i64 (hE code data cr cH steps).1.fin,.slice r.1.1 (hE code data cr cH steps).1.out.length r.1.2,.slice r.2.1 (hE code data cr cH steps).1.data.length r.2.2,.int .i64 (hE code data cr cH steps).1.cH],.int .i64 (hE code data cr cH steps).2,.int .i64 (oE code data cr cH steps)])/\Ext w w'/\Sl jD 1 (nv w w') r.1.1 r.1.2 (hE code data cr cH steps).1.out/\Sl jD 1 (nv w w') r.2.1 r.2.2 (hE code data cr cH steps).1.data:=by
 have au:=M.cap;have aw:=M.max;have ax:=B.cap;have ay:=B.max;refine Aj func20 O 92 O O ?_;refine CE (Vs:=[H,y]) (Ws.init (by simp [ag,ah])) (ac ?_);refine WL.box Y O O λS=>?_;refine Al Y O wX λC=>?_;refine Al Y O u1 λD=>?_;refine Al Y O yU λE=>?_;refine ad (Cs (ac (I (cI 3 O O nJ O) (Lp Y O aK O (λw b=>Js H a c code data w (b.vs _ (by simp)) M) (ai O (ad (ac (ab O (I (fh O O) (ad ?_))))))))));refine Cc O (λT=>?_) (λT=>?_)
 ·have F:¬iF code data=0:=by simpa using T
  refine ac (I (Yb wX Bo O O) (ab O (aT 2 Y O O O wW O O O (aT 1 Y O O O dr O O O (aT 0 Y O O O l4 O O O (ad (aZ (Er ?_))))))));refine WE.fC (o6 O (ej 2 O O r' O) (hA 1 O O O aa) (hA 0 O O O aa)) λw' b=>?_
  have k:(oE code data cr cH steps)=iF code data:=by unfold oE; rw [av F]
  have o:(hE code data cr cH steps)=(⟨0,[],[],0⟩,0):=by unfold hE; rw [k]; simp [F]
  rw [o,k];exact ⟨((none,0),(none,0)),O,b.fr,Sl.nil,Sl.nil⟩
 have F:iF code data=0:=by simpa using T
 have u:=RD F;refine am (Cs (ac (ab O (I (Yn a' O) (I (ed O O) (ad ?_))))));refine Cc O (λU=>?_) (λU=>?_)
 ·have N:64<cr.length:=by simp at U; omega
  refine ac (I (Yb wX Bo O O) (aT 2 Y O O O wW O O O (aT 1 Y O O O dr O O O (aT 0 Y O O O l4 O O O (ad (aZ (Er ?_)))))));refine WE.fC (o6 O (ej 2 O O r' O) (hA 1 O O O aa) (hA 0 O O O aa)) λw' b=>?_
  have k:(oE code data cr cH steps)=2:=by unfold oE; rw [a8 F,a8 N]
  have o:(hE code data cr cH steps)=(⟨0,[],[],0⟩,0):=by unfold hE; rw [k]; simp
  rw [o,k];exact ⟨((none,0),(none,0)),O,b.fr,Sl.nil,Sl.nil⟩
 have N:¬64<cr.length:=by simp at U; omega
 refine am (Cs (ac (ab O (I (cy O O) (ab O ?_)))));apply Lo 2 O O O O Y O O O O O
 ·intro Z;refine Vg (Ym O) (Vg (ed O O) ?_);exact Gt 2 O O O
 refine ab O ?_;apply Lo 2 O O O O Y O O O O O
 ·intro az;refine Vg (Ym O) (Vg (cy O O) ?_);exact Gt 2 O O O
 refine ab O ?_;apply Lo 2 O O O O Y O O O O O
 ·intro aA;refine Vg (Ym O) (Vg (ed O O) ?_);exact Gt 2 O O O
 refine ad ?_;refine Cc O (λP=>?_) (λP=>?_)
 ·refine ac (I (Yb wX Bo O O) (aT 2 Y O O O wW O O O (aT 1 Y O O O dr O O O (aT 0 Y O O O l4 O O O (ad (aZ (Er ?_)))))));refine WE.fC (o6 O (ej 2 O O r' O) (hA 1 O O O aa) (hA 0 O O O aa)) λw' b=>?_
  have k:(oE code data cr cH steps)=3:=by unfold oE; rw [a8 F,av N,a8 P]
  have o:(hE code data cr cH steps)=(⟨0,[],[],0⟩,0):=by unfold hE; rw [k]; simp
  rw [o,k];exact ⟨((none,0),(none,0)),O,b.fr,Sl.nil,Sl.nil⟩
 have k:(oE code data cr cH steps)=0:=by unfold oE; rw [a8 F,av N,P]; simp
 have ae:0<=cH/\cH<=2000/\0<=steps/\steps<=134217728:=by simp at P; omega
 refine am ?_;refine WC.s7 (ι:=(Nat×Nat×Nat)×(View×Option Addr×Nat)) (λq=>[(3,.int .i64 steps),(4,.pointer (some ⟨S,0,none⟩)),(8,.pointer (some ⟨C,0,none⟩)),(9,.pointer (some ⟨D,0,none⟩)),(10,.pointer (some ⟨E,0,none⟩)),(12,.pointer (some ⟨q.1.2.2,0,none⟩))]) (λq=>Ws w [] [aE q.1.2.2 (.cells #[.pointer (some ⟨q.1.2.1,0,none⟩)] 159 (0,0)),aE q.1.2.1 (.cells #[.int .i64 0,.int .i64 cH,.int .i64 0,.slice none 0 0,.slice (some ⟨q.1.1,0,none⟩) 1 1,.slice q.2.2.1 cr.length q.2.2.2,.int .i64 0,.slice none 0 0,.slice none 0 0,.int .i64 0] 163 (0,0)),aE q.1.1 (.cells #[.slice none 0 0,.int .i64 0] 269 (0,0)),aE E (.cells (Value.cells (.int .i64 0)) 30 (0,0)),aE D (.cells (Value.cells (.int .i64 0)) 3 (0,0)),aE C (.cells (Value.cells (.agg #[.int .i64 0,.slice none 0 0,.slice none 0 0,.int .i64 0])) 64 (0,0)),aE S (.cells (Value.agg #[.slice a code.length c,.int .i64 data]).cells 57 (0,0))] [q.2.1,H]) (λq=>Sl jD 1 q.2.1 q.2.2.1 q.2.2.2 cr) ?_ ?_
 ·refine CU (ky [.cell 8 64,.cell 9 3,.cell 10 30]) [] [7] (.q false 0 (.q false 2 (.e 1 (.e 3 (.q false 4 (.e 5 (.e 6 .nil .stop) (.e 6 (.e 5 .nil .stop) .stop))) (.e 6 (.e 3 (.q false 4 (.e 5 .nil .stop)) .stop) .stop)) (.e 3 (.e 1 (.q false 4 (.e 5 (.e 6 .nil .stop) (.e 6 (.e 5 .nil .stop) .stop))) (.e 6 (.e 1 (.q false 4 (.e 5 .nil .stop)) .stop) .stop)) (.e 6 (.e 1 (.e 3 (.q false 4 (.e 5 .nil .stop)) .stop) (.e 3 (.e 1 (.q false 4 (.e 5 .nil .stop)) .stop) .stop)) .stop))))) mixed (by kernel_rfl) (λ_ _ _ _ _ u h=>ml (fn:=f20) [.cell 8 64,.cell 9 3,.cell 10 30] O u h) ?_;refine U0 O (λ_ h=>h) (Ym O) (U0 O (λ_ h=>h) (Ym O) ?_);refine Ue O (λ_ h=>h) ?_ ?_
  ·refine WL.make Y O uY O O (by omega) (by omega) (by omega) (by omega) λp=>?_;refine dn 0 (.cells #[.slice none 0 0,.int .i64 0] 269 (0,0)) O (by rw [yT]) (Ln (Eu ?_));refine Ue O (λ_ h=>(Wd 1 h:)) ?_ ?_
   ·refine Ld Y O aK O (λr:Option Addr×Nat=>.slice r.1 cr.length r.2) (λv r=>Sl jD 1 v r.1 r.2 cr) (λw b=>yN y z A cr w (b.vs _ (by simp)) B (by omega)) ?_;intro d i Q t;refine Ln (Eu (U0 O (λ_ h=>(Wv 1 (Wd 1 h):)) (Yb wZ wY O O) ?_));refine Ue O (λ_ h=>(Wv 1 (Wd 1 h):)) ?_ ?_
    ·refine WL.box Y O O λl=>?_;refine Ln (Eu ?_);refine Ue O (λ_ h=>(Wv 1 (Wd 2 h):)) ?_ WU.stop;refine Al Y O u2 λn=>?_;refine Ln (Eu ?_);refine WU.nil (λ_ h=>(Wv 1 (Wd 3 h):)) ?_;refine WS.e O ?_;refine aT 0 Y O O O gf O O O (Ln (Es ?_));refine WS.nil ?_
     exact jO ((p,l,n),d,i.1,i.2) t (λ_ h=>by
       have h:=h.aJ 6 rfl;have h:=h.aJ 6 rfl;have h:=h.aJ 6 rfl;have h:=h.aJ 6 rfl;have h:=h.aJ 6 rfl;have h:=h.aJ 6 rfl;have h:=h.aJ 6 rfl;have h:=Ws.cK h (b9:=[d,H]) (by simp)
       exact h)
    refine Ue O (λ_ h=>(Wv 1 (Wd 1 h):)) ?_ WU.stop;refine Al Y O u2 λn=>?_;refine Ln (Eu ?_);refine Ue O (λ_ h=>(Wv 1 (Wd 2 h):)) ?_ WU.stop;refine WL.box Y O O λl=>?_;refine Ln (Eu ?_);refine WU.nil (λ_ h=>(Wv 1 (Wd 3 h):)) ?_;refine WS.e O ?_;refine aT 1 Y O O O gf O O O (Ln (Es ?_));refine WS.nil ?_
    exact jO ((p,l,n),d,i.1,i.2) t (λ_ h=>by
      have h:=h.aJ 6 rfl;have h:=h.aJ 6 rfl;have h:=h.aJ 6 rfl;have h:=h.aJ 6 rfl;have h:=h.aJ 6 rfl;have h:=h.aJ 5 rfl;have h:=h.aJ 6 rfl;have h:=Ws.cK h (b9:=[d,H]) (by simp)
      exact h)
   refine Ue O (λ_ h=>(Wd 1 h:)) ?_ WU.stop;refine Al Y O u2 λn=>?_;refine Ln (Eu ?_);refine Ue O (λ_ h=>(Wd 2 h:)) ?_ WU.stop;refine Ld Y O aK O (λr:Option Addr×Nat=>.slice r.1 cr.length r.2) (λv r=>Sl jD 1 v r.1 r.2 cr) (λw b=>yN y z A cr w (b.vs _ (by simp)) B (by omega)) ?_;intro d i Q t;refine Ln (Eu (U0 O (λ_ h=>(Wv 1 (Wd 2 h):)) (Yb wZ wY O O) ?_));refine Ue O (λ_ h=>(Wv 1 (Wd 2 h):)) ?_ WU.stop;refine WL.box Y O O λl=>?_;refine Ln (Eu ?_);refine WU.nil (λ_ h=>(Wv 1 (Wd 3 h):)) ?_;refine WS.e O ?_;refine aT 1 Y O O O gf O O O (Ln (Es ?_));refine WS.nil ?_
   exact jO ((p,l,n),d,i.1,i.2) t (λ_ h=>by
     have h:=h.aJ 6 rfl;have h:=h.aJ 6 rfl;have h:=h.aJ 6 rfl;have h:=h.aJ 6 rfl;have h:=h.aJ 6 rfl;have h:=h.aJ 5 rfl;have h:=h.aJ 6 rfl;have h:=Ws.cK h (b9:=[d,H]) (by simp)
     exact h)
  refine Ue O (λ_ h=>h) ?_ ?_
  ·refine Ld Y O aK O (λr:Option Addr×Nat=>.slice r.1 cr.length r.2) (λv r=>Sl jD 1 v r.1 r.2 cr) (λw b=>yN y z A cr w (b.vs _ (by simp)) B (by omega)) ?_;intro d i Q t;refine Ln (Eu ?_);refine Ue O (λ_ h=>(Wv 1 h:)) ?_ ?_
   ·refine WL.make Y O uY O O (by omega) (by omega) (by omega) (by omega) λp=>?_;refine dn 0 (.cells #[.slice none 0 0,.int .i64 0] 269 (0,0)) O (by rw [yT]) (Ln (Eu (U0 O (λ_ h=>(Wv 1 (Wd 1 h):)) (Yb wZ wY O O) ?_)));refine Ue O (λ_ h=>(Wv 1 (Wd 1 h):)) ?_ ?_
    ·refine WL.box Y O O λl=>?_;refine Ln (Eu ?_);refine Ue O (λ_ h=>(Wv 1 (Wd 2 h):)) ?_ WU.stop;refine Al Y O u2 λn=>?_;refine Ln (Eu ?_);refine WU.nil (λ_ h=>(Wv 1 (Wd 3 h):)) ?_;refine WS.e O ?_;refine aT 0 Y O O O gf O O O (Ln (Es ?_));refine WS.nil ?_
     exact jO ((p,l,n),d,i.1,i.2) t (λ_ h=>by
       have h:=h.aJ 6 rfl;have h:=h.aJ 6 rfl;have h:=h.aJ 6 rfl;have h:=h.aJ 6 rfl;have h:=h.aJ 6 rfl;have h:=h.aJ 6 rfl;have h:=h.aJ 6 rfl;have h:=Ws.cK h (b9:=[d,H]) (by simp)
       exact h)
    refine Ue O (λ_ h=>(Wv 1 (Wd 1 h):)) ?_ WU.stop;refine Al Y O u2 λn=>?_;refine Ln (Eu ?_);refine Ue O (λ_ h=>(Wv 1 (Wd 2 h):)) ?_ WU.stop;refine WL.box Y O O λl=>?_;refine Ln (Eu ?_);refine WU.nil (λ_ h=>(Wv 1 (Wd 3 h):)) ?_;refine WS.e O ?_;refine aT 1 Y O O O gf O O O (Ln (Es ?_));refine WS.nil ?_
    exact jO ((p,l,n),d,i.1,i.2) t (λ_ h=>by
      have h:=h.aJ 6 rfl;have h:=h.aJ 6 rfl;have h:=h.aJ 6 rfl;have h:=h.aJ 6 rfl;have h:=h.aJ 6 rfl;have h:=h.aJ 5 rfl;have h:=h.aJ 6 rfl;have h:=Ws.cK h (b9:=[d,H]) (by simp)
      exact h)
   refine Ue O (λ_ h=>(Wv 1 h:)) ?_ WU.stop;refine Al Y O u2 λn=>?_;refine Ln (Eu ?_);refine Ue O (λ_ h=>(Wv 1 (Wd 1 h):)) ?_ WU.stop;refine WL.make Y O uY O O (by omega) (by omega) (by omega) (by omega) λp=>?_;refine dn 0 (.cells #[.slice none 0 0,.int .i64 0] 269 (0,0)) O (by rw [yT]) (Ln (Eu (U0 O (λ_ h=>(Wv 1 (Wd 2 h):)) (Yb wZ wY O O) ?_)));refine Ue O (λ_ h=>(Wv 1 (Wd 2 h):)) ?_ WU.stop;refine WL.box Y O O λl=>?_;refine Ln (Eu ?_);refine WU.nil (λ_ h=>(Wv 1 (Wd 3 h):)) ?_;refine WS.e O ?_;refine aT 2 Y O O O gf O O O (Ln (Es ?_));refine WS.nil ?_
   exact jO ((p,l,n),d,i.1,i.2) t (λ_ h=>by
     have h:=h.aJ 6 rfl;have h:=h.aJ 6 rfl;have h:=h.aJ 6 rfl;have h:=h.aJ 6 rfl;have h:=h.aJ 5 rfl;have h:=h.aJ 5 rfl;have h:=h.aJ 6 rfl;have h:=Ws.cK h (b9:=[d,H]) (by simp)
     exact h)
  refine Ue O (λ_ h=>h) ?_ WU.stop;refine Al Y O u2 λn=>?_;refine Ln (Eu ?_);refine Ue O (λ_ h=>(Wd 1 h:)) ?_ ?_
  ·refine WL.make Y O uY O O (by omega) (by omega) (by omega) (by omega) λp=>?_;refine dn 0 (.cells #[.slice none 0 0,.int .i64 0] 269 (0,0)) O (by rw [yT]) (Ln (Eu ?_));refine Ue O (λ_ h=>(Wd 2 h:)) ?_ WU.stop;refine Ld Y O aK O (λr:Option Addr×Nat=>.slice r.1 cr.length r.2) (λv r=>Sl jD 1 v r.1 r.2 cr) (λw b=>yN y z A cr w (b.vs _ (by simp)) B (by omega)) ?_;intro d i Q t;refine Ln (Eu (U0 O (λ_ h=>(Wv 1 (Wd 2 h):)) (Yb wZ wY O O) ?_));refine Ue O (λ_ h=>(Wv 1 (Wd 2 h):)) ?_ WU.stop;refine WL.box Y O O λl=>?_;refine Ln (Eu ?_);refine WU.nil (λ_ h=>(Wv 1 (Wd 3 h):)) ?_;refine WS.e O ?_;refine aT 2 Y O O O gf O O O (Ln (Es ?_));refine WS.nil ?_
   exact jO ((p,l,n),d,i.1,i.2) t (λ_ h=>by
     have h:=h.aJ 6 rfl;have h:=h.aJ 6 rfl;have h:=h.aJ 6 rfl;have h:=h.aJ 6 rfl;have h:=h.aJ 5 rfl;have h:=h.aJ 5 rfl;have h:=h.aJ 6 rfl;have h:=Ws.cK h (b9:=[d,H]) (by simp)
     exact h)
  refine Ue O (λ_ h=>(Wd 1 h:)) ?_ WU.stop;refine Ld Y O aK O (λr:Option Addr×Nat=>.slice r.1 cr.length r.2) (λv r=>Sl jD 1 v r.1 r.2 cr) (λw b=>yN y z A cr w (b.vs _ (by simp)) B (by omega)) ?_;intro d i Q t;refine Ln (Eu ?_);refine Ue O (λ_ h=>(Wv 1 (Wd 1 h):)) ?_ WU.stop;refine WL.make Y O uY O O (by omega) (by omega) (by omega) (by omega) λp=>?_;refine dn 0 (.cells #[.slice none 0 0,.int .i64 0] 269 (0,0)) O (by rw [yT]) (Ln (Eu (U0 O (λ_ h=>(Wv 1 (Wd 2 h):)) (Yb wZ wY O O) ?_)));refine Ue O (λ_ h=>(Wv 1 (Wd 2 h):)) ?_ WU.stop;refine WL.box Y O O λl=>?_;refine Ln (Eu ?_);refine WU.nil (λ_ h=>(Wv 1 (Wd 3 h):)) ?_;refine WS.e O ?_;refine aT 2 Y O O O gf O O O (Ln (Es ?_));refine WS.nil ?_
  exact jO ((p,l,n),d,i.1,i.2) t (λ_ h=>by
    have h:=h.aJ 6 rfl;have h:=h.aJ 6 rfl;have h:=h.aJ 6 rfl;have h:=h.aJ 6 rfl;have h:=h.aJ 5 rfl;have h:=h.aJ 5 rfl;have h:=h.aJ 6 rfl;have h:=Ws.cK h (b9:=[d,H]) (by simp)
    exact h)
 intro q aj;refine Cs ?_;refine CU (ky [.cell 8 64,.cell 9 3,.cell 10 30]) [] [7] (.q true 0 (.q false 1 (.q true 2 (.e 3 (.q false 4 (.q false 5 (.q false 6 .nil))) .stop)))) mixed (by kernel_rfl) (λ_ _ _ _ _ u h=>ml (fn:=f20) [.cell 8 64,.cell 9 3,.cell 10 30] O u h) ?_;refine U0 O (λ_ h=>h) (Yd 0 O O O aa) (U0 O (λ_ h=>h) (Yf tv O) (U0 O (λ_ h=>h) (Yd 6 O O O aa) ?_));refine Ue O (λ_ h=>h) ?_ WU.stop;refine WL.make Y O kj O O (by omega) (by omega) (by omega) (by omega) λaf=>?_;refine dn 0 (.cells ((List.replicate data.toNat (0:Int)).flatMap iv).toArray 3 (0,0)) O (by rw [EH]) (Ln (Eu (U0 O (λ_ h=>(Wd 1 h:)) (bV O) (U0 O (λ_ h=>(Wd 1 h:)) (Yf oD O) (U0 O (λ_ h=>(Wd 1 h:)) (Yf wU O) ?_)))));refine WU.nil (λ_ h=>(Wd 1 h:)) ?_;refine WS.e O ?_;refine aT 2 Y O O O po O O O (Ln (Es ?_));refine WS.nil ?_;refine Et (ac (I (v4 O) ?_));refine WL.defer Y O ?_;refine ad (Cb ?_)
 refine e0 (ι:=a0) (λs=>[]) [(3,_),(4,_),(8,_),(9,_),(10,_),(12,_)] (λs=>Ws w [] (a0.own q.1.2.1 s++[aE q.1.2.2 (.cells #[.pointer (some ⟨q.1.2.1,0,none⟩)] 159 (0,0)),aE E (.cells (Value.cells (.int .i64 0)) 30 (0,0)),aE D (.cells (Value.cells (.int .i64 0)) 3 (0,0)),aE C (.cells (Value.cells (.agg #[.int .i64 0,.slice none 0 0,.slice none 0 0,.int .i64 0])) 64 (0,0)),aE S (.cells (Value.agg #[.slice a code.length c,.int .i64 data]).cells 57 (0,0))]) [q.2.1,H]) (λs=>s.iO q.2.1/\0<=s.steps/\s.steps<=steps/\runK code steps ((steps-s.steps).toNat+1) s.pu=runK code steps (steps.toNat+1) (JE cH cr data)) (λs=>(steps-s.steps).toNat) ({ at_:=0,pi:=cH,steps:=0,stack:=[],cB:=[⟨none,0,[],0⟩],cr:=cr,out:=[],data:=List.replicate data.toNat 0,cH:=0,sa:=none,sc:=0,fa:=some ⟨q.1.1,0,none⟩,fc:=1,ia:=q.2.2.1,ic:=q.2.2.2,oa:=none,oc:=0,da:=some ⟨af,0,none⟩,dc:=data.toNat }:a0) ⟨⟨aj,by simp,by simp,by simp,by simp; omega⟩,Int.le_refl _,ae.2.2.1,by simp; rfl⟩ (λ_ h=>by
   have h:=h.HU (f:=iv) (c:=data.toNat) 0 rfl hO (by simp) (by unfold maxLen; omega);have h:=h.HU (f:=e6.cells) (xs:=[⟨none,0,[],0⟩]) (c:=1) 3 rfl e6.dk rfl (by decide);have h:=h.oe 2 rfl (show _=aE q.1.2.1 (a0.obj ({ at_:=0,pi:=cH,steps:=0,stack:=[],cB:=[⟨none,0,[],0⟩],cr:=cr,out:=[],data:=List.replicate data.toNat 0,cH:=0,sa:=none,sc:=0,fa:=some ⟨q.1.1,0,none⟩,fc:=1,ia:=q.2.2.1,ic:=q.2.2.2,oa:=none,oc:=0,da:=some ⟨af,0,none⟩,dc:=data.toNat }:a0)) by simp [a0.obj,jq,dO]);have h:=h.g3 3 1;have h:=h.g3 3 1;have h:=h.OR;have h:=h.xS 0 rfl 3 1;have h:=h.aJ 0 rfl;have h:=h.aJ 3 rfl;have h:=h.aJ 2 rfl;have h:=h.aJ 6 rfl;have h:=h.aJ 4 rfl;have h:=h.aJ 6 rfl
   exact h) ?_
 intro s ⟨Z,ak,al,K⟩;refine Cb (ac (I (Yd 6 O O O aa) (I (bV O) (I (Yf Bi O) (I (Yd 0 O O O aa) (ab O (I (bx O O) ?_)))))));refine m4 (c:=s.steps==steps) ?_ ?_
 ·intro G;refine Ep (WE.b' (Ep (WE.b' ?_)));refine WE.front 0 O ?_;refine WE.front 7 O ?_;refine WE.front 8 O ?_;refine WE.front 9 O ?_;refine WE.front 9 O ?_;refine WE.cA aK (lW [_,_,_,_,_] _ _ O (λw b=>Bj q.1.2.2 C D E q.1.2.1 s 7 _ _ _ _ _ _ w b)) (o6 O (ej 1 O O r' O) (hA 2 O O O aa) (hA 3 O O O aa)) λw' b=>?_
  have m6:iterM code steps s.pu = .ov 7 s.pu:=by unfold iterM; rw [a8 (show (s.pu.steps==steps)=true from G)]
  have o:(hE code data cr cH steps)=(⟨7,s.out,s.data,s.cH⟩,s.steps):=by
    unfold hE;rw [a8 k,<-K,Bn _ m6]
    rfl
  rw [o,k];exact ⟨((s.oa,s.oc),(s.da,s.dc)),O,b.fr,b.ls 7 O hO pn,b.ls 8 O hO pn⟩
 intro G;refine ad (ac (I (Yd 6 O O O aa) (I (bV O) (I (Yf Bi O) (I (Yd 0 O O O aa) (I (sT O O) (I (bV O) (I (Yf Bi O) ?_))))))));refine aT 0 Y O O O dr O O O (dn 0 (a0.obj (a0.tk s)) O O (ad (Cs ?_)))
 rcases Int.lt_or_le s.at_ 0 with L | L
 ·skip
  refine CU (ky [.cell 8 64,.cell 9 3,.cell 10 30]) [] [] (.q true 0 (.q false 1 (.q false 2 (.q true 3 (.q false 4 (.q false 5 (.q false 6 (.q false 7 (.q false 8 (.q false 9 (.q false 10 (.q false 11 (.q false 12 (.q false 13 (.q false 14 (.e 15 .nil .stop)))))))))))))))) mixed (by kernel_rfl) (λ_ _ _ _ _ u h=>ml (fn:=f20) [.cell 8 64,.cell 9 3,.cell 10 30] O u h) ?_;refine U0 O (λ_ h=>h) (Yd 6 O O O aa) (U0 O (λ_ h=>h) (bV O) (U0 O (λ_ h=>h) (Yf qd O) (U0 O (λ_ h=>h) (Yd 0 O O O aa) (U0 O (λ_ h=>h) (O1 O O L) (U0 O (λ_ h=>h) (Ym O) ?_)))));refine WU.skip O O O O O O (λ_ h=>h) ?_;refine WU.skip O O O O O O (λ_ h=>h) ?_;refine WU.skip O O O O O O (λ_ h=>h) ?_;refine WU.skip O O O O O O (λ_ h=>h) ?_;refine WU.skip O O O O O O (λ_ h=>h) ?_;refine WU.skip O O O O O O (λ_ h=>h) ?_;refine WU.skip O O O O O O (λ_ h=>h) ?_;refine WU.skip O O O O O O (λ_ h=>h) ?_;refine U0 O (λ_ h=>h) (G_ O O O) ?_;refine Ue O (λ_ h=>h) ?_ WU.stop;refine m4 (c:=true) ?_ ?_
  ·intro J;refine Ep (Ep (WE.b' (Ep (WE.b' ?_))));refine WE.front 0 O ?_;refine WE.front 7 O ?_;refine WE.front 8 O ?_;refine WE.front 9 O ?_;refine WE.front 9 O ?_;refine WE.cA aK (lW [_,_,_,_,_] _ _ O (λw b=>Bj q.1.2.2 C D E q.1.2.1 (a0.tk s) 6 _ _ _ _ _ _ w b)) (o6 O (ej 1 O O r' O) (hA 2 O O O aa) (hA 3 O O O aa)) λw' b=>?_
   have m6:iterM code steps s.pu = .ov 6 (a0.tk s).pu:=by
     unfold iterM;rw [av (show ¬(s.pu.steps==steps)=true by rw [show s.pu.steps=s.steps from rfl,G]; simp),a8 (show aN s.pu.at_ code.length=true by show aN s.at_ code.length=true; unfold aN; simp [L])]
     rfl
   have o:(hE code data cr cH steps)=(⟨6,(a0.tk s).out,(a0.tk s).data,(a0.tk s).cH⟩,(a0.tk s).steps):=by
     unfold hE;rw [a8 k,<-K,Bn _ m6]
     rfl
   rw [o,k];exact ⟨(((a0.tk s).oa,(a0.tk s).oc),((a0.tk s).da,(a0.tk s).dc)),O,b.fr,b.ls 7 O hO pn,b.ls 8 O hO pn⟩
  intro J;cases J
 skip
 refine CU (ky [.cell 8 64,.cell 9 3,.cell 10 30]) [] [] (.q true 0 (.q false 1 (.q false 2 (.q true 3 (.q false 4 (.q false 5 (.q true 6 (.q false 7 (.q false 8 (.q true 9 (.q false 10 (.q true 11 (.q false 12 (.q false 13 (.q false 14 (.e 15 .nil .stop)))))))))))))))) mixed (by kernel_rfl) (λ_ _ _ _ _ u h=>ml (fn:=f20) [.cell 8 64,.cell 9 3,.cell 10 30] O u h) ?_;refine U0 O (λ_ h=>h) (Yd 6 O O O aa) (U0 O (λ_ h=>h) (bV O) (U0 O (λ_ h=>h) (Yf qd O) (U0 O (λ_ h=>h) (Yd 0 O O O aa) (U0 O (λ_ h=>h) (O2 O O L) (U0 O (λ_ h=>h) (Ym O) ?_)))));refine Uq O (.g O O O) O (λ_ h=>h) (Yd 6 O O O aa) ?_;refine Uq O (.g O O O) O (λ_ h=>h) (bV O) ?_;refine Uq O (.g O O O) O (λ_ h=>h) (Yf qd O) ?_;refine Uq O (.g O O O) O (λ_ h=>h) (Yd 0 O O O aa) ?_;refine Uq O (.g O O O) O (λ_ h=>h) (Yf jB O) ?_;refine Uq O (.g O O O) O (λ_ h=>h) (Yd 10 O O O aa) ?_;refine Uq O (.g O O O) O (λ_ h=>h) (Yn d_ O) ?_;refine Uq O (.g O O O) O (λ_ h=>h) (ih O O) ?_;refine U0 O (λ_ h=>h) (G_ O O O) ?_;refine Ue O (λ_ h=>h) ?_ WU.stop;refine m4 (c:=decide ((code.length:Int)<=s.at_)) ?_ ?_
 ·intro J;refine Ep (Ep (WE.b' (Ep (WE.b' ?_))));refine WE.front 0 O ?_;refine WE.front 7 O ?_;refine WE.front 8 O ?_;refine WE.front 9 O ?_;refine WE.front 9 O ?_;refine WE.cA aK (lW [_,_,_,_,_] _ _ O (λw b=>Bj q.1.2.2 C D E q.1.2.1 (a0.tk s) 6 _ _ _ _ _ _ w b)) (o6 O (ej 1 O O r' O) (hA 2 O O O aa) (hA 3 O O O aa)) λw' b=>?_
  have m6:iterM code steps s.pu = .ov 6 (a0.tk s).pu:=by
    unfold iterM;rw [av (show ¬(s.pu.steps==steps)=true by rw [show s.pu.steps=s.steps from rfl,G]; simp),a8 (show aN s.pu.at_ code.length=true by show aN s.at_ code.length=true; unfold aN; simp; exact Or.inr (by simpa using J))]
    rfl
  have o:(hE code data cr cH steps)=(⟨6,(a0.tk s).out,(a0.tk s).data,(a0.tk s).cH⟩,(a0.tk s).steps):=by
    unfold hE;rw [a8 k,<-K,Bn _ m6]
    rfl
  rw [o,k];exact ⟨(((a0.tk s).oa,(a0.tk s).oc),((a0.tk s).da,(a0.tk s).dc)),O,b.fr,b.ls 7 O hO pn,b.ls 8 O hO pn⟩
 intro J
 have R:aN s.at_ code.length=false:=by unfold aN; rw [J]; simp; omega
 refine Ln (Eu ?_);refine WU.nil (λ_ h=>h) ?_;refine WS.nil ?_;refine Et ?_;obtain ⟨x,V⟩:∃x,code[s.at_.toNat]? = some x:=⟨_,dM (rb R).2⟩;obtain ⟨an,ao,ap,W⟩:=M.aq _ x V;have W:cw H an (ao+s.at_.toNat*3) x.cells:=W;have aB:=(rb R).2;refine CU (ky [.cell 8 64,.cell 9 3,.cell 10 30]) [] [9] (.q true 0 (.q false 1 (.q true 2 (.q true 3 (.q false 4 (.q false 5 (.q true 6 (.q false 7 (.q true 8 .nil))))))))) mixed (by kernel_rfl) (λ_ _ _ _ _ u h=>ml (fn:=f20) [.cell 8 64,.cell 9 3,.cell 10 30] O u h) ?_;refine U0 O (λ_ h=>h) (Yd 6 O O O aa) (U0 O (λ_ h=>h) (Yf jB O) (U0 O (λ_ h=>h) (Yd 10 O O O aa) (U0 O (λ_ h=>h) (Yd 6 O O O aa) (U0 O (λ_ h=>h) (bV O) (U0 O (λ_ h=>h) (Yf qd O) (U0 O (λ_ h=>h) (Yd 0 O O O aa) (U0 O (λ_ h=>h) (ya d_ O O ap L (by show s.at_<(code.length:Int); omega)) ?_)))))));refine U0 O (λ_ h=>h) (eq 1 lE O O O (W)) ?_;refine WU.nil (λ_ h=>h) ?_;refine WS.e O ?_;refine kJ (Rr x) Z.tk ?_ ?_
 ·intro j X;refine Ep (WE.b' (Ep (WE.b' ?_)));refine WE.front 0 O ?_;refine WE.front 7 O ?_;refine WE.front 8 O ?_;refine WE.front 9 O ?_;refine WE.front 9 O ?_;refine WE.cA aK (lW [_,_,_,_,_] _ _ O (λw b=>Bj q.1.2.2 C D E q.1.2.1 j.2 j.1 _ _ _ _ _ _ w b)) (o6 O (ej 1 O O r' O) (hA 2 O O O aa) (hA 3 O O O aa)) λw' b=>?_
  have m6:iterM code steps s.pu = .ov j.1 j.2.pu:=by
    unfold iterM;rw [av (show ¬(s.pu.steps==steps)=true by rw [show s.pu.steps=s.steps from rfl,G]; simp),av (show ¬aN s.pu.at_ code.length=true by show ¬aN s.at_ code.length=true; rw [R]; simp),show code[s.pu.at_.toNat]? = some x from V];exact X
  have o:(hE code data cr cH steps)=(⟨j.1,j.2.out,j.2.data,j.2.cH⟩,j.2.steps):=by
    unfold hE;rw [a8 k,<-K,Bn _ m6]
    rfl
  rw [o,k];exact ⟨((j.2.oa,j.2.oc),(j.2.da,j.2.dc)),O,b.fr,b.ls 7 O hO pn,b.ls 8 O hO pn⟩
 intro j ⟨X,ar⟩;refine Ln (Es ?_);refine WS.nil ?_;refine Eb ?_
 have m6:iterM code steps s.pu = .ok () j.2.pu:=by
   unfold iterM;rw [av (show ¬(s.pu.steps==steps)=true by rw [show s.pu.steps=s.steps from rfl,G]; simp),av (show ¬aN s.pu.at_ code.length=true by show ¬aN s.at_ code.length=true; rw [R]; simp),show code[s.pu.at_.toNat]? = some x from V];exact X
 have aC:j.2.steps=s.steps+1/\s.steps<steps:=RC (m:=s.pu) (m':=j.2.pu) ae.2.2.2 ak al m6
 exact ct j.2 (by omega) ⟨ar,by omega,by omega,by
     rw [<-K,RE _ m6,show (steps-s.steps).toNat=(steps-j.2.steps).toNat+1 by omega]⟩ (λ_ h=>h)
end Go.Proofs.YtgeahfjicmlocaaGreatDoor.Mch
end
section
namespace Go.Proofs.YtgeahfjicmlocaaGreatDoor.Mch
open Go.Bw Go.Proofs.Tryz
def RG (op:Int) (w:World) :
   Calls prog 143 #[.int .i64 op] w λe w'=>e = .returned (.bool (goes op))/\Ext w w':=by
 refine enter func143 O 13 O O ?_;refine CE (Vs:=[]) (Ws.init au) (ac (ai O (ad (ac (ab O (I (bx O O) (ab O ?_)))))));apply Lo 2 O O O O Y O O O O O
 ·intro b;refine Vg (Ym O) (Vg (bx O O) ?_);exact Gt 2 O O O
 refine ab O ?_;apply Lo 2 O O O O Y O O O O O
 ·intro c;refine Vg (Ym O) (Vg (bx O O) ?_);exact Gt 2 O O O
 refine ai O (ad (aZ ?_));refine R1 O O λw' a=>?_;exact ⟨O,a.fr⟩
def mB (n a b:Int) (w:World) :
   Calls prog 90 #[.int .i64 n,.int .i64 a,.int .i64 b] w λe w'=>e = .returned (.bool (within n a b))/\Ext w w':=by
 refine enter func90 O 15 O O ?_;refine CE (Vs:=[]) (Ws.init au) (ac (ai O (ad (ac (ab O (ab O (I (ih O O) (ab O ?_))))))));apply La 3 O O O O Y O O O O O
 ·intro d;refine Vg (Ym O) (Vg (Ym O) (Vg (lS O O) ?_));exact Gt 3 O O O
 refine ai O (ad (aZ ?_));refine R1 O O λw' c=>?_;exact ⟨O,c.fr⟩
end Go.Proofs.YtgeahfjicmlocaaGreatDoor.Mch
end
section
namespace Go.Proofs.YtgeahfjicmlocaaGreatDoor.Mch
open Go.Bw Go.Proofs.Tryz
def rdBool (H:View) (b o:Nat) (x:Bool):Prop:=vc H b o=some (.bool x)
def m6 (n:Nat) (code:List bX) (m j:Nat):Bool:=
 match code[m]? with
 | some x=>(goes x.op&&decide (0<=x.a)&&decide (x.a<(n:Int))&&x.a.toNat==j)||(x.op==13&&m+1==j)
 | none=>false
def mk (code:List bX) (N k:Nat):List Bool:=(List.range N).map λj=>j==0||(List.range k).any λm=>m6 code.length code m j
def marks (code:List bX):List Bool:=mk code code.length code.length
def mC (code:List bX) (data:Int):List Bool×Int:=if iF code data=0 then (marks code,0) else ([],iF code data)
def kK (code:List bX) (N k:Nat):(mk code N k).length=N:=by simp [mk]
def mk_zero (code:List bX) (N:Nat):mk code N 0=(List.replicate N false).set 0 true:=by
 apply pS;intro j;rw [CT]
 rcases lm j N with h | h
 · rcases CY j with rfl | e
   · simp [mk,h]
   · have a:¬(0=j):=Z
     have d:(j==0)=false:=by simp; omega
     simp [mk,h,a,d]
 · have a:(List.replicate N false)[j]? = none:=by simp [h]
   have b:¬j<N:=Z
   simp only [mk,List.length_replicate]
   by_cases c:0=j
   · subst c; simp [b]
   · simp [c,b]
def RH (l:List Bool) (a j:Nat):(l.set a true)[j]? = (l[j]?).map λb=>b||(a==j):=by
 rw [CT]
 by_cases h:a=j
 · subst h
   by_cases c:a<l.length
   · simp [c]
   · simp [c]
 · have:(a==j)=false:=by simp [h]
   simp [h,this]
variable {aF:List bX}
def yV {N i:Nat} {x:bX} (c:aF[i]? = some x):mk aF N (i+1) =
   (if (x.op==13)=true then (if (goes x.op&&decide (0<=x.a)&&decide (x.a<(aF.length:Int)))=true then (mk aF N i).set x.a.toNat true else mk aF N i).set (i+1) true
     else if (goes x.op&&decide (0<=x.a)&&decide (x.a<(aF.length:Int)))=true then (mk aF N i).set x.a.toNat true else mk aF N i):=by
 apply pS;intro j
 have d:m6 aF.length aF i j=((goes x.op&&decide (0<=x.a)&&decide (x.a<(aF.length:Int))&&x.a.toNat==j)||(x.op==13&&i+1==j)):=by simp only [m6,c]
 have e:(mk aF N (i+1))[j]? = ((mk aF N i)[j]?).map λb=>b||m6 aF.length aF i j:=by
   simp only [mk,gS]
   by_cases h:j<N
   · simp [h,ud,Bool.or_assoc]
   · simp [h]
 rw [e,d]
 generalize (goes x.op&&decide (0<=x.a)&&decide (x.a<(aF.length:Int)))=B
 generalize (x.op==13)=B2
 cases B<;>cases B2<;>simp [RH,pU,Bool.or_assoc]
def EO {data:Int} (h:iF aF data=0):0<aF.length/\aF.length<=2048:=by
 unfold iF at h
 split at h
 · cases h
 · rename_i a
   simp at a;omega
def RJ (code:List bX) (j:Nat) (x:Bool) (h:(marks code)[j]? = some x):(mk code (code.length+1) code.length)[j]? = some x:=by
 have a:=(cS.1 h).1;rw [marks,kK] at a;simp only [marks,mk,gS] at h ⊢
 have b:j<code.length+1:=Z
 simpa [a,b] using h
def l5:ga prog 132=some 1:=aa
def m7:hc prog 132 4 (.bool false) 1 1:=jr aa
def r_:dV prog 4=some 1:=aa
def RL (H:View) (a:Option Addr) (c:Nat) (code:List bX) (data:Int) (w:World) (s:Le H w) (k:Sl iE 3 H a c code) :
   Calls prog 77 #[.agg #[.slice a code.length c,.int .i64 data]] w λe w'=>∃r:Option Addr×Nat,e = .returned (.tuple #[.slice r.1 (mC code data).1.length r.2,.int .i64 (mC code data).2])/\Ext w w'/\Sl rdBool 1 (nv w w') r.1 r.2 (mC code data).1:=by
 have D:=k.cap;have E:=k.max;refine enter func77 O 61 O O ?_;refine CE (Vs:=[H]) (Ws.init (by simp [s])) (ac ?_);refine WL.box Y O O λt=>?_;refine ai O (ai O (ad (Cs (ac (I (cI 0 O O nJ O) (Lp Y O aK O (λw b=>Js H a c code data _ b.V k) (ai O (ad (ac (ab O ?_))))))))));refine I (fh O O) (ad ?_);refine Cc O (λl=>?_) (λl=>?_)
 ·have m:mC code data=([],iF code data):=by simp at l; simp [mC,l]
  refine ac (ab O (ai O (ai O (ad (aZ (Er ?_))))));refine WE.jp O O O λw' b=>?_;rw [m];exact ⟨(none,0),O,b.fr,Sl.nil⟩
 have p:iF code data=0:=by simpa using l
 have m:mC code data=(marks code,0):=by simp [mC,p]
 obtain ⟨F,G⟩:=EO p;refine am (ac (I (Yf jB O) (I (Yd 0 O O O aa) (I (Yn d_ O) (I (Yi O O O Z) ?_)))));refine WL.make Y O m7 O O Z Z Z Z λq=>?_;refine dn 0 (.cells ((List.replicate (code.length+1) false).map Value.bool).toArray 4 (0,0)) rfl (by rw [Hl _ rfl]; simp) (I (Ya rfl) (ad (ac (I (Ym rfl) (I (gb (i:=0) l5 rfl rfl Z) ?_)))));refine WL.qH 0 (.cells ((mk code (code.length+1) 0).map Value.bool).toArray 4 (0,0)) Y O O O r_ O O (sX _ _ _ _ au) (by rw [mk_zero]; exact sY Value.bool _ 4 0 true au) ?_;refine ad (Cs (ac (I (Yf jB O) (I (Yd 1 O O O aa) (I (Yn d_ O) (ab O (ad (Cb ?_))))))));refine e0 (ι:=Nat) (λi=>[(23,.int .i64 (i:Int))]) [(1,_),(2,_),(3,_),(5,_),(21,_),(22,_)] (λi=>Ws w [] [aE q (.cells ((mk code (code.length+1) i).map Value.bool).toArray 4 (0,0)),aE t (.cells (Value.agg #[.slice a code.length c,.int .i64 data]).cells 57 (0,0))] [H]) (λi=>i<=code.length) (λi=>code.length-i) 0 (cx _) ag ?_;intro i hi;refine ac (I (cy O O) (ad (Cs ?_)));refine Cc O (λn=>?_) (λn=>?_)
 ·have u:i<code.length:=by simpa using n
  obtain ⟨x,g⟩:=dw u;obtain ⟨v,y,J,o⟩:=k.aq i x g;have o:cw H v (y+i*3) x.cells:=o;refine am (Cs (Cb (ac (ab O (I (Yo d_ O O sH Z) (I (eq 0 lE O O O (o)) ?_))))));refine Al Y O gq λK=>?_;refine ai O (aT 0 Y O O O jU O O O (ad (Cs (ac (I (Yf l3 O) (I (Yd 0 O O O aa) (Lp Y O aK O (λw b=>RG _ w) (ab O ?_))))))));apply La 3 O O O O Y O O O O O
  ·intro L;refine Vg (Yf gZ O) (Vg (Yd 0 O O O aa) (Vg (ih O O) ?_));exact Gt 3 O O O
  refine ab O ?_;apply La 6 O O O O Y O O O O O
  ·intro M;refine Vg (Yf gZ O) (Vg (Yd 0 O O O aa) (Vg (Yf jB O) (Vg (Yd 2 O O O aa) (Vg (Yn d_ O) (Vg (cy O O) ?_)))));exact Gt 6 O O O
  refine ad ?_;refine Cc O (λf=>?_) (λf=>?_)
  ·have z:(goes x.op=true/\0<=x.a)/\x.a<code.length:=by simpa using f
   obtain ⟨⟨_,A⟩,P⟩:=z;refine Cr (ab O (I (Yf gZ O) (I (Yd 0 O O O aa) (I (x6 l5 O O A Z) ?_))));refine WL.qH 1 _ Y O O O r_ O O (sX _ _ _ _ (by simp [kK]; omega)) (sY Value.bool _ 4 _ true (by simp [kK]; omega)) ?_;refine ad (ac (I (Yf l3 O) (I (Yd 0 O O O aa) (I (bx O O) (ad ?_)))));refine Cc O (λd=>?_) (λd=>?_)
   ·refine Cr (ab O (ab O (I (Yi O O O Z) (I (gb l5 O O Z) ?_))));refine WL.qH 1 _ Y O O O r_ O O (sX _ _ _ _ (by simp [kK]; omega)) (sY Value.bool _ 4 _ true (by simp [kK]; omega)) ?_;refine Ln (Eb (Et (Cr (I (Yi O O O Z) (ab O (Ln ?_))))))
    exact ct (i+1) Z Z (λ_ h=>by
      have e:=yV (N:=code.length+1) g;simp only [f,d,cv,aw,cn] at e;have h:=Wd 1 h;rw [e]
      exact h)
   refine Ck (Eb (Et (Cr (I (Yi O O O Z) (ab O (Ln ?_))))))
   exact ct (i+1) Z Z (λ_ h=>by
     have e:=yV (N:=code.length+1) g;simp only [f,d,cv,aw,cn] at e;have h:=Wd 1 h;rw [e]
     exact h)
  refine am (ac (I (Yf l3 O) (I (Yd 0 O O O aa) (I (bx O O) (ad ?_)))));refine Cc O (λd=>?_) (λd=>?_)
  ·refine Cr (ab O (ab O (I (Yi O O O Z) (I (gb l5 O O Z) ?_))));refine WL.qH 1 _ Y O O O r_ O O (sX _ _ _ _ (by simp [kK]; omega)) (sY Value.bool _ 4 _ true (by simp [kK]; omega)) ?_;refine Ln (Eb (Et (Cr (I (Yi O O O Z) (ab O (Ln ?_))))))
   exact ct (i+1) Z Z (λ_ h=>by
     have e:=yV (N:=code.length+1) g;simp only [f,d,cv,aw,cn] at e;have h:=Wd 1 h;rw [e]
     exact h)
  refine Ck (Eb (Et (Cr (I (Yi O O O Z) (ab O (Ln ?_))))))
  exact ct (i+1) Z Z (λ_ h=>by
    have e:=yV (N:=code.length+1) g;simp only [f,d,cv,aw,cn] at e;have h:=Wd 1 h;rw [e]
    exact h)
 have Q:¬i<code.length:=by simpa using n
 have B:i=code.length:=Z
 subst B;refine Ce (Ex (Ex (cU (Et (ac (ab O (I (Yf jB O) (I (Yd 1 O O O aa) (I (Yn d_ O) (I (Hh l5 O au O Z Z) (ai O ?_)))))))))));refine ai O (ad (aZ ?_));refine WE.jp O O O λw' b=>?_;rw [m];refine ⟨(some ⟨q,0,none⟩,((code.length+1:Nat):Int).toNat),?_,b.fr,?_⟩
 · simp [marks,kK]
 · exact b.Hm 0 O eZ (by simp [marks,kK]) Z (λj x C=>RJ code j x C)
end Go.Proofs.YtgeahfjicmlocaaGreatDoor.Mch
end
section
namespace Go.Proofs.YtgeahfjicmlocaaGreatDoor.Mch
open Go.Bw Go.Proofs.Tryz
def bool_split {a b:Bool} (h:(a&&b)=true):a=true/\b=true:=by simpa using h
def Bp {code:List bX} {i:Nat} {x:bX} (b:code[i]? = some x):mk code code.length (i+1) =
   (if (x.op==13&&decide (((i+1:Nat):Int)<(code.length:Int)))=true then (if ((x.op==11||x.op==12||x.op==13)&&within x.a 0 ((code.length:Int)-1))=true then (mk code code.length i).set x.a.toNat true else mk code code.length i).set (i+1) true
     else if ((x.op==11||x.op==12||x.op==13)&&within x.a 0 ((code.length:Int)-1))=true then (mk code code.length i).set x.a.toNat true else mk code code.length i):=by
 have e:((x.op==11||x.op==12||x.op==13)&&within x.a 0 ((code.length:Int)-1))=(goes x.op&&decide (0<=x.a)&&decide (x.a<(code.length:Int))):=by
   have:decide (x.a<=(code.length:Int)-1)=decide (x.a<(code.length:Int)):=by rw [G7]; omega
   simp [goes,within,this,Bool.and_assoc]
 rw [e,yV b]
 by_cases h:(x.op==13)=true
 · by_cases d:i+1<code.length
   · have:decide (((i+1:Nat):Int)<(code.length:Int))=true:=by simp; omega
     simp only [h,this,qb,cv]
   · have:decide (((i+1:Nat):Int)<(code.length:Int))=false:=by simp; omega
     simp only [h,this,Bool.and_false,cv,aw,cn];rw [List.set_eq_of_length_le]
     split<;>simp [kK]<;>omega
 · have c:(x.op==13)=false:=by simpa using h
   simp only [c,zU,aw,cn]
def RM (H:View) (a:Option Addr) (c:Nat) (code:List bX) (data:Int) (w:World) (q:Le H w) (l:Sl iE 3 H a c code) (E:0<code.length) (F:code.length<=2048) :
   Calls prog 87 #[.agg #[.slice a code.length c,.int .i64 data]] w λe w'=>∃r:Option Addr×Nat,e = .returned (.slice r.1 (marks code).length r.2)/\Ext w w'/\Sl rdBool 1 (nv w w') r.1 r.2 (marks code):=by
 have G:=l.cap;have J:=l.max;refine enter func87 O 66 O O ?_;refine CE (Vs:=[H]) (Ws.init (by simp [q])) (ac ?_);refine WL.box Y O O λs=>?_;refine ai O (ad (ac (I (Yf jB O) (I (Yd 0 O O O aa) (I (Yn d_ O) ?_)))));refine WL.make Y O m7 O O Z Z Z Z λp=>?_;refine dn 0 (.cells ((List.replicate code.length false).map Value.bool).toArray 4 (0,0)) rfl (by rw [Hl _ rfl]; simp) (I (Ya rfl) (ad (ac (I (Ym rfl) (I (gb (i:=0) l5 rfl rfl Z) ?_)))));refine WL.qH 0 (.cells ((mk code code.length 0).map Value.bool).toArray 4 (0,0)) Y O O O r_ O O (sX _ _ _ _ (by simp; omega)) (by rw [mk_zero]; exact sY Value.bool _ 4 0 true (by simp; omega)) ?_;refine ad (Cs (ac (ai O (ad (Cb ?_)))));refine e0 (ι:=Nat) (λi=>[(4,.int .i64 (i:Int))]) [(1,_),(2,_),(3,_)] (λi=>Ws w [] [aE p (.cells ((mk code code.length i).map Value.bool).toArray 4 (0,0)),aE s (.cells (Value.agg #[.slice a code.length c,.int .i64 data]).cells 57 (0,0))] [H]) (λi=>i<=code.length) (λi=>code.length-i) 0 (cx _) ag ?_;intro i hi;refine Cs (ac (ab O (I (Yf jB O) (I (Yd 1 O O O aa) (I (Yn d_ O) (I (cy O O) (ad ?_)))))));refine Cc O (λm=>?_) (λm=>?_)
 ·have t:i<code.length:=by simpa using m
  obtain ⟨x,k⟩:=dw t;obtain ⟨u,v,K,n⟩:=l.aq i x k;have n:cw H u (v+i*3) x.cells:=n;refine am (Cs (Cb (ac (I (Yf jB O) (I (Yd 1 O O O aa) (ab O (I (Yo d_ O O sH Z) (I (eq 0 lE O O O (n)) ?_))))))));refine Al Y O gq λL=>?_;refine aT 0 Y O O O jU O O O (ad (ac (I (Yf l3 O) (I (Yd 0 O O O aa) (I (bx O O) (ab O ?_))))));apply Lo 3 O O O O Y O O O O O
  ·intro M;refine Vg (Yf l3 O) (Vg (Yd 0 O O O aa) (Vg (bx O O) ?_));exact Gt 3 O O O
  refine ab O ?_;apply Lo 3 O O O O Y O O O O O
  ·intro N;refine Vg (Yf l3 O) (Vg (Yd 0 O O O aa) (Vg (bx O O) ?_));exact Gt 3 O O O
  refine ai O (ad (Cs (ac (ab O (ab O ?_)))));apply La 6 O O O O Y O O O O O
  ·intro P;refine Vg (Yf gZ O) (Vg (Yd 0 O O O aa) (Vg (Ym O) (Vg (Yn l5 O) (Vg (z4 O O (by simp; omega)) (Lp (.g O O O) O aK O (λw o=>mB _ _ _ w) ?_)))));exact Gt 6 O O O
  refine ad ?_;refine Cc O (λd=>?_) (λd=>?_)
  ·have y:0<=x.a/\x.a<=(code.length:Int)-1:=by have:=(bool_split d).2; simpa [within] using this
   obtain ⟨z,Q⟩:=y;refine Cr (ab O (I (Yf gZ O) (I (Yd 0 O O O aa) (I (x6 l5 O O z Z) ?_))));refine WL.qH 1 _ Y O O O r_ O O (sX _ _ _ _ (by simp [kK]; omega)) (sY Value.bool _ 4 _ true (by simp [kK]; omega)) ?_;refine ad (ac (I (Yf l3 O) (I (Yd 0 O O O aa) (I (bx O O) (ab O ?_)))));apply La 5 O O O O Y O O O O O
   ·intro A;refine Vg (Ym O) (Vg (Yi O O O Z) (Vg (Ym O) (Vg (Yn l5 O) (Vg (cy O O) ?_))));exact Gt 5 O O O
   refine ad ?_;refine Cc O (λb=>?_) (λb=>?_)
   ·have B:((i+1:Nat):Int)<(code.length:Int):=by have:=(bool_split b).2; simpa using this
    refine Cr (ab O (ab O (I (Yi O O O Z) (I (gb l5 O O Z) ?_))));refine WL.qH 1 _ Y O O O r_ O O (sX _ _ _ _ (by simp [kK]; omega)) (sY Value.bool _ 4 _ true (by simp [kK]; omega)) ?_;refine Ln (Eb (Et (Cr (ab O (I (Yi O O O Z) (ai O (Ln ?_)))))))
    exact ct (i+1) Z Z (λ_ h=>by
      have e:=Bp k
      have f:((((code.length:Nat):Int).toNat:Nat):Int)=(code.length:Int):=Z
      simp only [f] at d b;simp only [d,b,cv,aw,cn] at e;have h:=Wd 1 h;rw [e]
      exact h)
   refine Ck (Eb (Et (Cr (ab O (I (Yi O O O Z) (ai O (Ln ?_)))))))
   exact ct (i+1) Z Z (λ_ h=>by
     have e:=Bp k
     have f:((((code.length:Nat):Int).toNat:Nat):Int)=(code.length:Int):=Z
     simp only [f] at d b;simp only [d,b,cv,aw,cn] at e;have h:=Wd 1 h;rw [e]
     exact h)
  refine am (ac (I (Yf l3 O) (I (Yd 0 O O O aa) (I (bx O O) (ab O ?_)))));apply La 5 O O O O Y O O O O O
  ·intro A;refine Vg (Ym O) (Vg (Yi O O O Z) (Vg (Ym O) (Vg (Yn l5 O) (Vg (cy O O) ?_))));exact Gt 5 O O O
  refine ad ?_;refine Cc O (λb=>?_) (λb=>?_)
  ·have B:((i+1:Nat):Int)<(code.length:Int):=by have:=(bool_split b).2; simpa using this
   refine Cr (ab O (ab O (I (Yi O O O Z) (I (gb l5 O O Z) ?_))));refine WL.qH 1 _ Y O O O r_ O O (sX _ _ _ _ (by simp [kK]; omega)) (sY Value.bool _ 4 _ true (by simp [kK]; omega)) ?_;refine Ln (Eb (Et (Cr (ab O (I (Yi O O O Z) (ai O (Ln ?_)))))))
   exact ct (i+1) Z Z (λ_ h=>by
     have e:=Bp k
     have f:((((code.length:Nat):Int).toNat:Nat):Int)=(code.length:Int):=Z
     simp only [f] at d b;simp only [d,b,cv,aw,cn] at e;have h:=Wd 1 h;rw [e]
     exact h)
  refine Ck (Eb (Et (Cr (ab O (I (Yi O O O Z) (ai O (Ln ?_)))))))
  exact ct (i+1) Z Z (λ_ h=>by
    have e:=Bp k
    have f:((((code.length:Nat):Int).toNat:Nat):Int)=(code.length:Int):=Z
    simp only [f] at d b;simp only [d,b,cv,aw,cn] at e;have h:=Wd 1 h;rw [e]
    exact h)
 have R:¬i<code.length:=by simpa using m
 have C:i=code.length:=Z
 subst C;refine Ce (Ex (Ex (cU (Et (ac (ab O (ai O (ad (aZ ?_)))))))));refine R1 O O λw' o=>?_;refine ⟨(some ⟨p,0,none⟩,((code.length:Nat):Int).toNat),?_,o.fr,?_⟩
 · simp [marks,kK]
 · exact o.Hm 0 O eZ (by simp [marks,kK]) Z (λj x D=>D)
end Go.Proofs.YtgeahfjicmlocaaGreatDoor.Mch
end
section
namespace Go.Proofs.YtgeahfjicmlocaaGreatDoor.Mch
open Go.Bw Go.Proofs.Tryz
def JF:v3 prog 62=some [0,0,0]:=aa
def u3:hc prog 55 62 (.agg #[.int .i64 0,.int .i64 0,.int .i64 0]) 3 24:=jr aa
def JG (b:Bool) (w:World) :
   Calls prog 148 #[.bool b] w λe w'=>e = .returned (.int .i64 (i3 b))/\Ext w w':=by
 refine enter func148 O 4 O O ?_;refine CE (Vs:=[]) (Ws.init au) (ac (ai O (ad (Cs (ac (ab O (ad ?_)))))));refine Cc O (λc=>?_) (λc=>?_)
 ·refine ac (ai O (ad (aZ (Er ?_))));refine R1 O O λw' a=>?_;exact ⟨by simp [i3, *],a.fr⟩
 refine am (ac (ai O (ad (aZ ?_))));refine R1 O O λw' a=>?_;exact ⟨by simp [i3, *],a.fr⟩
def Bq (b:Bool) (w:World) :
   Calls prog 93 #[.bool b] w λe w'=>e = .returned (.int .i64 (i3 b))/\Ext w w':=by
 refine enter func93 O 4 O O ?_;refine CE (Vs:=[]) (Ws.init au) (ac (ai O (ad (Cs (ac (ab O (ad ?_)))))));refine Cc O (λc=>?_) (λc=>?_)
 ·refine ac (ai O (ad (aZ (Er ?_))));refine R1 O O λw' a=>?_;exact ⟨by simp [i3, *],a.fr⟩
 refine am (ac (ai O (ad (aZ ?_))));refine R1 O O λw' a=>?_;exact ⟨by simp [i3, *],a.fr⟩
def IW (op:Int) (w:World) :
   Calls prog 91 #[.int .i64 op] w λe w'=>e = .returned (.bool (tw op))/\Ext w w':=by
 refine enter func91 O 21 O O ?_;refine CE (Vs:=[]) (Ws.init au) (ac (ai O (ad (ac (ab O (I (bx O O) (ab O ?_)))))));apply Lo 2 O O O O Y O O O O O
 ·intro b;refine Vg (Ym O) (Vg (bx O O) ?_);exact Gt 2 O O O
 refine ab O ?_;apply Lo 2 O O O O Y O O O O O
 ·intro c;refine Vg (Ym O) (Vg (bx O O) ?_);exact Gt 2 O O O
 refine ab O ?_;apply Lo 2 O O O O Y O O O O O
 ·intro d;refine Vg (Ym O) (Vg (bx O O) ?_);exact Gt 2 O O O
 refine ab O ?_;apply Lo 2 O O O O Y O O O O O
 ·intro f;refine Vg (Ym O) (Vg (bx O O) ?_);exact Gt 2 O O O
 refine ai O (ad (aZ ?_));refine R1 O O λw' a=>?_;exact ⟨O,a.fr⟩
def RO (op a b:Int) (w:World) :
   Calls prog 92 #[.int .i64 op,.int .i64 a,.int .i64 b] w λe w'=>e = .returned (.tuple #[.int .i64 (nG op a b).1,.bool (nG op a b).2])/\Ext w w':=by
 refine enter func92 O 48 O O ?_;refine CE (Vs:=[]) (Ws.init au) (ac (ai O (ai O (ad (Cs (ac (ab O (ad (Cb (ac (I (bx O O) ?_)))))))))));refine ai O (ad ?_);refine Cc O (λg=>?_) (λg=>?_)
 ·refine ac (ab O (ab O (I (sT O O) (ai O (ai O (ad (aZ (cf (Er ?_)))))))));refine WE.jp O O O λw' c=>?_;exact ⟨by simp_all [nG],c.fr⟩
 refine ac (I (bx O O) (ai O (ad ?_)));refine Cc O (λh=>?_) (λh=>?_)
 ·refine ac (ab O (ab O (I (z3 O O) (ai O (ai O (ad (aZ (cf (Er ?_)))))))));refine WE.jp O O O λw' c=>?_;exact ⟨by simp_all [nG],c.fr⟩
 refine ac (I (bx O O) (ai O (ad ?_)));refine Cc O (λi=>?_) (λi=>?_)
 ·refine ac (ab O (ab O (I (Ha O O) (ai O (ai O (ad (aZ (cf (Er ?_)))))))));refine WE.jp O O O λw' c=>?_;exact ⟨by simp_all [nG],c.fr⟩
 refine ac (I (bx O O) (ai O (ad ?_)));refine Cc O (λj=>?_) (λj=>?_)
 ·refine Cs (ac (ab O (I (bx O O) (ad ?_))));refine Cc O (λd=>?_) (λd=>?_)
  ·refine ac (ai O (ai O (ad (aZ (Er (cf (Er ?_)))))));refine WE.jp O O O λw' c=>?_;exact ⟨by simp_all [nG],c.fr⟩
  refine am (ac (ab O (ab O (I (Df O O (by simpa using d)) (ai O (ai O (ad (aZ (cf (Er ?_))))))))));refine WE.jp O O O λw' c=>?_;exact ⟨by simp_all [nG],c.fr⟩
 refine ac (I (bx O O) (ai O (ad ?_)));refine Cc O (λk=>?_) (λk=>?_)
 ·refine Cs (ac (ab O (I (bx O O) (ad ?_))));refine Cc O (λf=>?_) (λf=>?_)
  ·refine ac (ai O (ai O (ad (aZ (Er (cf (Er ?_)))))));refine WE.jp O O O λw' c=>?_;exact ⟨by simp_all [nG],c.fr⟩
  refine am (ac (ab O (ab O (I (Dg O O (by simpa using f)) (ai O (ai O (ad (aZ (cf (Er ?_))))))))));refine WE.jp O O O λw' c=>?_;exact ⟨by simp_all [nG],c.fr⟩
 refine ac (I (bx O O) (ai O (ad ?_)));refine Cc O (λl=>?_) (λl=>?_)
 ·refine ac (ab O (ab O (I (bx O O) (Lp Y O aK O (λw c=>Bq _ w) (ai O (ai O (ad (aZ (cf (Er ?_))))))))));refine WE.jp O O O λw' c=>?_;exact ⟨by simp_all [nG],c.fr⟩
 refine Ck (Eb (Et (ac (ab O (ab O (I (cy O O) (Lp Y O aK O (λw c=>Bq _ w) (ai O (ai O (ad (aZ ?_)))))))))));refine WE.jp O O O λw' c=>?_;exact ⟨by simp_all [nG],c.fr⟩
def RP (g k:View) (a1 a2:Option Addr) (c1 c2:Nat) (a b:List bX) (w:World) (v:Le g w) (z:Le k w) (l:Sl iE 3 g a1 c1 a) (m:Sl iE 3 k a2 c2 b) :
   Calls prog 86 #[.slice a1 a.length c1,.slice a2 b.length c2] w λe w'=>e = .returned (.bool (decide (a=b)))/\Ext w w':=by
 have L:=l.cap;have M:=l.max;have N:=m.cap;have P:=m.max;refine enter func86 O 26 O O ?_;refine CE (Vs:=[g,k]) (Ws.init (by simp [v,z])) (ac (ai O (ad (Cs (ac (ab O (I (Yn d_ O) (ab O (I (Yn d_ O) ?_)))))))));refine I (fh O O) (ad ?_);refine Cc O (λn=>?_) (λn=>?_)
 ·have o:a≠b:=by intro e; subst e; simp at n
  refine ac (ai O (ad (aZ (Er ?_))));refine R1 O O λw' f=>?_;exact ⟨by simp [o],f.fr⟩
 have Q:a.length=b.length:=by simp at n; omega
 refine am (Cs (ac (ai O (ad (Cb ?_)))));refine fT (ι:=Nat) (λi=>[(5,.int .i64 (i:Int))]) [(0,_),(1,_)] (λi=>i<=a.length/\∀j,j<i->a[j]? = b[j]?) (λi=>a.length-i) 0 ⟨cx _,by simp⟩ ?_;intro i ⟨hi,t⟩;refine Cs (ac (ab O (ab O (I (Yn d_ O) (I (cy O O) (ad ?_))))));refine Cc O (λp=>?_) (λp=>?_)
 ·have A:i<a.length:=by simpa using p
  obtain ⟨x,q⟩:∃x,a[i]? = some x:=⟨_,dM A⟩;obtain ⟨y,c⟩:∃y,b[i]? = some y:=⟨_,dM (by omega)⟩;obtain ⟨B,C,D,r⟩:=l.aq i x q;obtain ⟨E,F,G,s⟩:=m.aq i y c;have r:cw g B (C+i*3) x.cells:=r;have s:cw k E (F+i*3) y.cells:=s;refine am (Cs (Cb (Cs ?_)));refine WC.hU [(0,true),(1,true),(2,true),(3,true),(4,true),(5,true),(6,true),(7,true),(8,true)] mixed (by kernel_rfl) (λ_ _ _ d _ h=>by cases d<;>exact h) ?_;refine D0 O (λ_ h=>h) (Ym O) (D0 O (λ_ h=>h) (Ym O) (D0 O (λ_ h=>h) (Yo d_ O O D (by omega)) (D0 O (λ_ h=>h) (eq 0 lE O O O (r)) (D0 O (λ_ h=>h) (Ym O) (D0 O (λ_ h=>h) (Ym O) (D0 O (λ_ h=>h) (Yo d_ O O G (by omega)) (D0 O (λ_ h=>h) (eq 1 lE O O O (s)) ?_)))))));refine D0 O (λ_ h=>h) (Hp JF O O O) ?_;refine WD.nil (λ_ h=>h) ?_;refine Et ?_;refine Cc O (λu=>?_) (λu=>?_)
  ·have o:a≠b:=by intro e; subst e; rw [q] at c; injection c with c; subst c; simp at u
   refine ac (ai O (ad (aZ (cf (Er (Er (cf (Er ?_))))))));refine R1 O O λw' f=>?_;exact ⟨by simp [o],f.fr⟩
  have H:x=y:=by cases x; cases y; simp_all
  refine Ck (Eb (Et (Cr (ab O (I (Yi O O O (by omega)) (ai O (Ln ?_)))))));exact ct (i+1) (by omega) ⟨by omega,λj J=>by rcases gT.1 J with h | rfl; exact t j h; rw [q,c,H]⟩ (λ_ h=>h)
 have R:¬i<a.length:=by simpa using p
 have K:a=b:=pS λj=>by
   rcases lm j i with h | h
   · exact t j h
   · rw [tZ (by omega),tZ (by omega)]
 refine Ce (Ex (Ex (cU (Et (ac (ai O (ad (aZ ?_))))))));refine R1 O O λw' f=>?_;exact ⟨by simp [K],f.fr⟩
def RQ (a b:View) (a1 a2:Option Addr) (c1 c2:Nat) (c d:List bX) (j k:Int) (w:World) (l:Le a w) (m:Le b w) (h:Sl iE 3 a a1 c1 c) (i:Sl iE 3 b a2 c2 d) :
   Calls prog 22 #[.agg #[.slice a1 c.length c1,.int .i64 j],.agg #[.slice a2 d.length c2,.int .i64 k]] w λe w'=>e = .returned (.bool ((j==k)&&decide (c=d)))/\Ext w w':=by
 have n:=h.cap;have o:=h.max;have p:=i.cap;have q:=i.max;refine enter func22 O 17 O O ?_;refine CE (Vs:=[a,b]) (Ws.init (by simp [l,m])) (ac ?_);refine WL.box Y O O λr=>?_;refine WL.box Y O O λs=>?_;refine ai O (ad (ac (I (Yf tv O) (I (Yd 1 O O O aa) (I (Yf tv O) (I (Yd 0 O O O aa) (I (bx O O) (ab O ?_))))))));apply La 5 O O O O Y O O O O O
 ·intro t;refine Vg (Yf jB O) (Vg (Yd 1 O O O aa) (Vg (Yf jB O) (Vg (Yd 0 O O O aa) (Lp (.g O O O) O aK O (λw f=>RP a b a1 a2 c1 c2 c d _ f.V f.V h i) ?_))));exact Gt 5 O O O
 refine ai O (ad (aZ ?_));refine R1 O O λw' f=>?_;exact ⟨O,f.fr⟩
def RR (H:View) (a:Option Addr) (c:Nat) (code:List bX) (w:World) (l:Le H w) (f:Sl iE 3 H a c code) (s:code.length*24<=140737488355328) (t:1<=code.length) :
   Calls prog 78 #[.slice a code.length c] w λe w'=>∃v,e = .returned v/\Ext w w'/\w'.ownsRow w.heap.size 62 3 v code.length (code.flatMap bX.cells):=by
 have y:=f.cap;have z:=f.max;refine enter func78 O 8 O O ?_;refine CE (Vs:=[H]) (Ws.init (by simp [l])) (ac (ai O (ad (Cs (ac (ab O (I (qo d_ O) (ad ?_))))))));refine Cc O (λg=>?_) (λg=>?_)
 ·have m:code=[]:=by
    cases code with
    | nil=>rfl
    | cons x r=>obtain ⟨b,o,h,_⟩:=f.aq 0 x rfl; rw [h] at g; cases g
  refine ac (ai O (ad (aZ (Er ?_))));refine R1 O O λw' d=>?_;subst m;exact ⟨_,O,d.fr,Ol _ _ _ _⟩
 obtain ⟨p,rfl⟩:∃p,a=some p:=by cases a with | none=>cases g | some p=>exact ⟨p,rfl⟩
 obtain ⟨A,B,ps⟩:=p;obtain rfl:ps=none:=f.spot _ rfl Z;have n:=f.flat bX.dk bf (λ_ _ _ h=>h);refine am (ac ?_);refine WL.qI Y O u3 O O O λC=>?_;refine WL.pY (size:=3) 0 O (eH 0) (cx _) O ?_;refine ab O ?_
 refine WL.append 0 Y O u3 O O O (pX bX.dk code) (λw d j u i=>by rw [mg]; exact (d.vs H au).cell (n j u i)) (λu i=>by
   obtain ⟨x,_,k⟩:=ku.1 i;simp [bX.cells] at k
   rcases k with rfl | rfl | rfl<;>rfl) (by unfold maxLen; omega) Z (λD E=>?_)
 refine ai O (ad (aZ ?_));refine R1 O O λw' d=>?_;have q:=d.Oi 0 rfl;exact ⟨_,O,d.fr,by simpa using q⟩
end Go.Proofs.YtgeahfjicmlocaaGreatDoor.Mch
end
section
namespace Go.Proofs.YtgeahfjicmlocaaGreatDoor.Mch
open Go.Bw Go.Proofs.Tryz
def cu (l:List bX) (k:Nat):bX:=(l[k]?).getD ⟨0,0,0⟩
def fk {l:List bX} {k:Nat} (h:k<l.length):l[k]? = some (cu l k):=by
 unfold cu; rw [dM h]; rfl
variable {aF:List bX} {ae:Nat} {qe:bX}
def RS (h:aF[ae]? = some qe):(aF.flatMap bX.cells)[0+ae*3+0]? = some (.int .i64 qe.op):=by
 rw [gC]; exact kZ bX.dk h bf
def nK (h:aF[ae]? = some qe):(aF.flatMap bX.cells)[0+ae*3+1]? = some (.int .i64 qe.a):=by
 rw [gC]; exact kZ bX.dk h bf
def JH {k j:Nat}  (h:aF[k]? = some qe) (a:j<=3):0+k*3+j<=(aF.flatMap bX.cells).length:=by
 rw [pX bX.dk];have:=(cS.1 h).1;omega
def JI (h:aF[ae]? = some qe):0+ae*3+1+1<=(aF.flatMap bX.cells).length:=JH h (j:=2) bf
def m8 (h:aF[ae]? = some qe):0+ae*3+3<=(aF.flatMap bX.cells).length:=JH h bf
def JJ (h:aF[ae]? = some qe) (v:Int) :
   (aF.flatMap bX.cells).take (0+ae*3+1)++dO (.int .i64 v)++(aF.flatMap bX.cells).drop (0+ae*3+1+(dO (.int .i64 v)).length)=(aF.set ae ⟨qe.op,v,qe.b⟩).flatMap bX.cells:=by
 rw [gC]; exact Dd bX.dk h (by simp [dO]) rfl
def m9 (h:aF[ae]? = some qe) (a b c:Int) :
   (aF.flatMap bX.cells).take (0+ae*3)++dO (.agg #[.int .i64 a,.int .i64 b,.int .i64 c])++(aF.flatMap bX.cells).drop (0+ae*3+(dO (.agg #[.int .i64 a,.int .i64 b,.int .i64 c])).length)=(aF.set ae ⟨a,b,c⟩).flatMap bX.cells:=by
 rw [gC]; exact Dd bX.dk h (j:=0) (by simp [dO]) rfl
def JK (H:View) (b o:Nat) (x:Int):Prop:=vc H b o=some (.int .i64 x)
variable {bF dJ:World} {aA:List Nat} {cL:List ah} {dj:List View} {aB cp kX:Nat}
def b4 (h:Ws bF aA cL dj dJ) (i:Nat)   (hL:cL[i]? = some (cq kX 3 (.slice (some ⟨cp,0,none⟩) ae aB) ae (aF.flatMap bX.cells))) (b:aF.length<=aB) (c:aB<=9223372036854775807):Sl iE 3 (hv dJ) (some ⟨cp,0,none⟩) aB aF:=
 ⟨b,c,au,λj x d=>⟨cp,0,rfl,λk v a=>h.Oj i hL (by
   have:k<3:=(cS.1 a).1
   rw [gC,kZ bX.dk d this]; exact a)⟩⟩
variable {mD:List Int}
def lV (h:Ws bF aA cL dj dJ) (i:Nat)  {a:Obj}  (hL:cL[i]? = some (aE ae a)) (b:mD.length<=aB) (c:aB<=9223372036854775807) (d:∀j x,mD[j]? = some x->gE a (0+j*1)=some (.int .i64 x)):Sl JK 1 (hv dJ) (some ⟨ae,0,none⟩) aB mD:=
 ⟨b,c,au,λj x e=>⟨ae,0,rfl,h.dZ i hL (d j x e)⟩⟩
def JL (h:Ws bF [] cL dj dJ) (i:Nat)   (hL:cL[i]? = some (cq kX 3 (.slice (some ⟨cp,0,none⟩) ae aB) ae (aF.flatMap bX.cells))) (l:aF.length=ae):Sl iE 3 (nv bF dJ) (some ⟨cp,0,none⟩) aB aF:=by
 rcases h.Hk i hL with ⟨b,_⟩ | ⟨m,n,b,o,d,e⟩
 · cases b
 · injection b with a _ f; injection a with a; injection a with a; subst a f
   exact ⟨Z,by unfold maxLen at d; omega,au,λj x g=>⟨_,0,O,λk v c=>e _ _ (by
     have:k<3:=(cS.1 c).1
     rw [gC,kZ bX.dk g this]; exact c)⟩⟩
def w1 (code cur:List bX) (k:Nat):List bX:=
 if (decide (0<=(cu cur k).a)&&decide ((cu cur k).a<(code.length:Int))&&((cu cur k).a != (k:Int))&&((cu code (cu cur k).a.toNat).op==11))=true then cur.set k ⟨(cu cur k).op,(cu code (cu cur k).a.toNat).a,(cu cur k).b⟩ else cur
def hj (mk:List Bool) (cur:List bX) (m:Nat) (o:Int):Bool:=decide (m<cur.length)&&((cu cur m).op==o&&!(mk[m]?.getD true))
def jE (mk:List Bool) (cur:List bX) (k:Nat) (os:List Int):Bool:=(List.range os.length).all λi=>hj mk cur (k+1+i) (os[i]?.getD 0)
def eT (cur:List bX) (k:Nat):Nat->List bX
 | 0=>cur
 | i+1=>(eT cur k i).set (k+i) ⟨21,0,0⟩
def Br (cur:List bX) (k:Nat):∀i,(eT cur k i).length=cur.length
 | 0=>rfl
 | i+1=>by simp [eT,Br cur k i]
def eX (cur:List bX) (k n:Nat) (x:bX):List bX:=(eT cur k (n-1)).set (k+n-1) x
def RT (cur:List bX) (k n:Nat) (x:bX):(eX cur k n x).length=cur.length:=by simp [eX,Br]
def oF (mk:List Bool) (cur:List bX) (k:Nat):List bX:=
 if jE mk cur k [1,10]=true then (if (h2 (cu cur (k+2)).a (cu cur k).a (cu cur (k+1)).a).2=true then eX cur k 3 ⟨1,(h2 (cu cur (k+2)).a (cu cur k).a (cu cur (k+1)).a).1,0⟩ else cur)
 else if (jE mk cur k [12]&&(cu cur k).a==0)=true then eX cur k 2 ⟨11,(cu cur (k+1)).a,0⟩
 else if jE mk cur k [9]=true then eX cur k 2 ⟨1,i3 ((cu cur k).a==0),0⟩
 else if jE mk cur k [22]=true then eX cur k 2 ⟨1,i3 ((cu cur k).a != 0),0⟩
 else if (jE mk cur k [12]||jE mk cur k [17])=true then eX cur k 2 ⟨21,0,0⟩
 else cur
def RU (code cur:List bX) (k:Nat):(w1 code cur k).length=cur.length:=by unfold w1; split<;>simp
def RV (mk:List Bool) (cur:List bX) (k:Nat):(oF mk cur k).length=cur.length:=by
 unfold oF
 repeat' split
 all_goals simp only [RT]
def JM (mk:List Bool) (cur:List bX) (m:Nat) (o:Int):((decide ((cur.length:Int)<=(m:Int))||((cu cur m).op != o))||(mk[m]?.getD true)) = !(hj mk cur m o):=by
 unfold hj
 have e:decide ((cur.length:Int)<=(m:Int)) = !(decide (m<cur.length)):=by
   by_cases h:m<cur.length
   · simp [h]
   · simp [h]; omega
 rw [e]
 generalize (mk[m]?.getD true)=b
 simp only [bne]
 generalize ((cu cur m).op==o)=c
 generalize decide (m<cur.length)=d
 cases b<;>cases c<;>cases d<;>rfl
variable {jg:List Bool}
def RW (hi:aB<mD.length) (h:hj jg aF (ae+1+aB) (mD[aB]?.getD 0)=false):jE jg aF ae mD=false:=by
 unfold jE;rw [CO];exact ⟨aB,by simp [hi],by simp [h]⟩
def RX (h:∀i,i<mD.length->hj jg aF (ae+1+i) (mD[i]?.getD 0)=true):jE jg aF ae mD=true:=by
 unfold jE;rw [hS];intro i hi;exact h i (by simpa using hi)
def w2 (h:jE jg aF ae mD=true) {i:Nat} (hi:i<mD.length):ae+1+i<aF.length:=by
 unfold jE at h;have:=hS.1 h i (by simp [hi]);unfold hj at this;simp at this;exact this.1
def nL:cJ prog 157 1=some 2:=aa
def JN:cJ prog 157 0=some 0:=aa
def hk:hx prog 62=some [(0,1),(1,1),(2,1)]:=aa
def RY:cJ prog 157 2=some 3:=aa
def JO (g c:Nat) (n o:Option Addr) (p f q:Nat) (data:Int) (H r:View) (code cur:List bX) (mk:List Bool) (k:Nat) (w:World) (m:Sl iE 3 H n p code) (B:cur.length=code.length) (C:mk.length=code.length) (D:Sl rdBool 1 r o q mk) (E:k<code.length) (F:code.length<=f) (G:f<=9223372036854775807) (i:Ws w [g,c] [aE g (.cells #[.slice n code.length p,.int .i64 data,.slice (some ⟨c,0,none⟩) code.length f,.slice o code.length q] 157 (0,0)),cq 62 3 (.slice (some ⟨c,0,none⟩) code.length f) code.length ((cur).flatMap bX.cells)] [H,r] w) :
   Calls prog 79 #[.pointer (some ⟨g,0,none⟩),.int .i64 (k:Int)] w λe w'=>e = .returned (.tuple #[])/\Ws w [g,c] [aE g (.cells #[.slice n code.length p,.int .i64 data,.slice (some ⟨c,0,none⟩) code.length f,.slice o code.length q] 157 (0,0)),cq 62 3 (.slice (some ⟨c,0,none⟩) code.length f) code.length ((w1 code cur k).flatMap bX.cells)] [H,r] w':=by
 have s:cur[k]? = some (cu cur k):=fk Z;have J:=m.cap;have K:=m.max;refine enter func79 O 57 O O ?_;refine CE i (ac (ab O (I (bV O) (I (Yf nL O) (I (Yd 0 O O O aa) (ab O (I (gb d_ O O Z) ?_)))))));refine I (Yf gZ O) (I (mW 1 O O aa (nK s)) (ai O (ad (ac (ab O (I (ih O O) (ab O ?_)))))));apply La 7 O O O O Y O O O O O
 ·intro L;refine Vg (Ym O) (Vg (Ym O) (Vg (bV O) (Vg (Yf nL O) (Vg (Yd 0 O O O aa) (Vg (Yn d_ O) (Vg (cy O O) ?_))))));exact Gt 7 O O O
 refine ab O ?_;apply La 3 O O O O Y O O O O O
 ·intro M;refine Vg (Ym O) (Vg (Ym O) (Vg (fh O O) ?_));exact Gt 3 O O O
 refine ab O ?_;apply La 10 O O O O Y O O O O O
 ·intro z
  have t:((0<=(cu cur k).a)/\(cu cur k).a<(code.length:Int)):=by simp at z; exact z.1
  obtain ⟨u,A⟩:=t;obtain ⟨v,x,y,b⟩:=m.aq _ _ (fk (l:=code) (k:=(cu cur k).a.toNat) Z);have b:cw H v (x+(cu cur k).a.toNat*3) (cu code (cu cur k).a.toNat).cells:=b;refine Vg (Ym O) (Vg (bV O) (Vg (Yf JN O) (Vg (Yf jB O) (Vg (Yd 0 O O O aa) (Vg (Ym O) (Vg (ya d_ O O y u Z) (Vg (Yf l3 O) ?_)))))));refine Vg (cC 0 aa O O (b 0 _ O)) (Vg (bx O O) ?_);exact Gt 10 O O O
 refine ad ?_;refine Cc O (λj=>?_) (λj=>?_)
 ·have t:((0<=(cu cur k).a)/\(cu cur k).a<(code.length:Int)):=by simp at j; exact j.1.1
  obtain ⟨u,A⟩:=t;obtain ⟨v,x,y,b⟩:=m.aq _ _ (fk (l:=code) (k:=(cu cur k).a.toNat) Z);have b:cw H v (x+(cu cur k).a.toNat*3) (cu code (cu cur k).a.toNat).cells:=b;refine WC.gW 1 [(0,true),(1,true),(2,true),(3,true),(4,true),(5,true),(6,true),(7,true),(8,true),(9,true),(10,true),(11,true),(12,true),(13,true),(14,true),(15,true),(16,false)] mixed aa (λ_ _ _ d _ h=>by cases d<;>exact h) ?_;refine D0 O (Wp 1) (Ym O) (D0 O (Wp 1) (bV O) (D0 O (Wp 1) (Yf nL O) (D0 O (Wp 1) (Yd 0 O O O aa) (D0 O (Wp 1) (Ym O) (D0 O (Wp 1) (Ym O) (D0 O (Wp 1) (bV O) (D0 O (Wp 1) (Yf JN O) ?_)))))));refine D0 O (Wp 1) (Yf jB O) (D0 O (Wp 1) (Yd 0 O O O aa) (D0 O (Wp 1) (Ym O) (D0 O (Wp 1) (ya d_ O O y u Z) (D0 O (Wp 1) (Yf gZ O) (D0 O (Wp 1) (cC 0 aa O O (b 1 _ O)) (D0 O (Wp 1) (gb d_ O O Z) (D0 O (Wp 1) (Yf gZ O) ?_)))))));refine De O (Wp 1) ?_;refine WL.lU 1 _ Y O O O dr O O (JI s) (JJ s _) ?_;refine Ln (Ed ?_);refine WD.nil (Wp 1) ?_;refine E0 O λw' i=>?_;rw [w1,a8 j];exact ⟨O,i⟩
 refine Ck ?_;refine E0 O λw' i=>?_;rw [w1,av (by simp [j])];exact ⟨O,i⟩
def EP (v:Int) (w:World) :
   Calls prog 144 #[.int .i64 v] w λe w'=>e = .returned (.agg #[.int .i64 1,.int .i64 v,.int .i64 0])/\Ext w w':=by
 refine enter func144 O 5 O O ?_;refine CE (Vs:=[]) (Ws.init au) (ac ?_);refine Al Y O gq λb=>?_;refine ad (ac (ab O (I (Yb gq hk O O) (aT 0 Y O O O jU O O O (ad (aZ ?_))))));refine WE.yb 0 O O O lE O λw' a=>?_;exact ⟨O,a.fr⟩
def w3 (a:View) (d N:Nat) (r s t:Option Addr) (u v co:Nat) (cur:List bX) (mk:List Bool) (os:List Int) (k:Nat) (w:World) (D:Le a w) (hN:cur.length=N) (W:N<=2048) (x:vc a d (0+2)=some (.slice r N u)) (E:vc a d (0+3)=some (.slice s N v)) (F:Sl iE 3 a r u cur) (G:Sl rdBool 1 a s v mk) (X:mk.length=N) (H:Sl JK 1 a t co os) (Z:os.length<=2) (ae:k<N) :
   Calls prog 145 #[.pointer (some ⟨d,0,none⟩),.int .i64 (k:Int),.slice t os.length co] w λe w'=>e = .returned (.bool (jE mk cur k os))/\Ext w w':=by
 subst hN;refine enter func145 O 50 O O ?_;refine CE (Vs:=[a]) (Ws.init (by simp [D])) (ac (ai O (ad (Cs (ac (ab O (I (Yn a' O) (ab O (ad (Cb ?_))))))))));refine CW (ι:=Nat) (λi=>[(12,.int .i64 (i:Int))]) [(0,_),(1,_),(10,_),(11,_)] (λi=>i<=os.length/\∀j,j<i->hj mk cur (k+1+j) (os[j]?.getD 0)=true) (λi=>os.length-i) 0 ⟨cx _,by simp⟩ (sc O (sc O (sc O (sc O (sc O sn))))) ?_;intro i ⟨hi,y⟩;refine ac (I (cy O O) (ad (Cs ?_)));refine Cc O (λf=>?_) (λf=>?_)
 ·have z:i<os.length:=by simpa using f
  obtain ⟨o,g⟩:∃o,os[i]? = some o:=⟨_,dM z⟩;obtain ⟨J,K,L,l⟩:=H.aq i o g;have l:vc a J (K+i*1)=some (.int .i64 o):=l;refine am (Cs (Cb (ac (ab O (I (Yo a' O O L (by omega)) (I (cC 0 aa O O (l)) (ai O (ai O (ad (ac (ab O ?_)))))))))));refine I (Yi O O O (by omega)) (ab O (I (qK O O O O (by omega)) (ai O (ad (ac (ab O (ab O (I (bV O) ?_))))))));refine I (Yf nL O) (I (cC 0 aa O O (x)) (I (Yn d_ O) (I (ih O O) (ab O ?_))));apply Lo 10 O O O O Y O O O O O
  ·intro M
   have A:k+1+i<cur.length:=by simp at M; omega
   obtain ⟨P,Q,R,m⟩:=F.aq _ _ (fk A);have m:cw a P (Q+(k+1+i)*3) (cu cur (k+1+i)).cells:=m;refine Vg (Ym O) (Vg (bV O) (Vg (Yf nL O) (Vg (cC 0 aa O O (x)) (Vg (Ym O) (Vg (Yo d_ O O R (by omega)) (Vg (Yf l3 O) (Vg (cC 0 aa O O (m 0 _ O)) ?_)))))));refine Vg (Ym O) (Vg (fh O O) ?_);exact Gt 10 O O O
  refine ab O ?_;apply Lo 7 O O O O Y O O O O O
  ·intro S
   have A:k+1+i<cur.length:=by simp at S; omega
   obtain ⟨b,B⟩:∃b,mk[k+1+i]? = some b:=⟨_,dM (by omega)⟩;obtain ⟨T,U,V,n⟩:=G.aq _ _ B
   have n:vc a T (U+(k+1+i)*1)=some (.bool (mk[k+1+i]?.getD true)):=by rw [B]; exact n
   refine Vg (Ym O) (Vg (bV O) (Vg (Yf RY O) (Vg (cC 0 aa O O (E)) (Vg (Ym O) (Vg (Yo l5 O O V (by omega)) (Vg (cC 0 aa O O (n)) ?_))))));exact Gt 7 O O O
  refine ad ?_;refine Cc O (λc=>?_) (λc=>?_)
  ·rw [JM] at c
   have p:hj mk cur (k+1+i) (os[i]?.getD 0)=false:=by rw [g]; simpa using c
   refine ac (ai O (ad (aZ (cf (Er (Er (cf (Er ?_))))))));refine R1 O O λw' q=>?_;exact ⟨by rw [RW z p],q.fr⟩
  rw [JM] at c
  have p:hj mk cur (k+1+i) (os[i]?.getD 0)=true:=by rw [g]; simpa using c
  refine Ck (Eb (Et (Cr (I (Yi O O O (by omega)) (ab O (Ln ?_))))));exact Ea (i+1) (by omega) ⟨by omega,λj C=>by rcases gT.1 C with h | rfl; exact y j h; exact p⟩ (sc rfl (sc rfl (sc rfl (sc rfl (sc rfl sn))))) (λ_ h=>h)
 have af:¬i<os.length:=by simpa using f
 refine Ce (Ex (Ex (cU (Et (ac (ai O (ad (aZ ?_))))))));refine R1 O O λw' q=>?_;exact ⟨by rw [RX λj C=>y j (by omega)],q.fr⟩
def w4 (j f:Nat) (m n:Option Addr) (o g p:Nat) (data:Int) (H q:View) (code cur:List bX) (mk:List Bool) (k:Nat) (w:World) (y:Sl iE 3 H m o code) (z:cur.length=code.length) (A:mk.length=code.length) (B:Sl rdBool 1 q n p mk) (C:k<code.length) (D:code.length<=g) (E:g<=9223372036854775807) (c:Nat) (x:bX) (t:1<=c) (F:k+c<=code.length) (G:code.length<=2048) (r:Ws w [j,f] [aE j (.cells #[.slice m code.length o,.int .i64 data,.slice (some ⟨f,0,none⟩) code.length g,.slice n code.length p] 157 (0,0)),cq 62 3 (.slice (some ⟨f,0,none⟩) code.length g) code.length ((cur).flatMap bX.cells)] [H,q] w) :
   Calls prog 147 #[.pointer (some ⟨j,0,none⟩),.int .i64 (k:Int),.int .i64 (c:Int),.agg #[.int .i64 x.op,.int .i64 x.a,.int .i64 x.b]] w λe w'=>e = .returned (.tuple #[])/\Ws w [j,f] [aE j (.cells #[.slice m code.length o,.int .i64 data,.slice (some ⟨f,0,none⟩) code.length g,.slice n code.length p] 157 (0,0)),cq 62 3 (.slice (some ⟨f,0,none⟩) code.length g) code.length ((eX cur k c x).flatMap bX.cells)] [H,q] w':=by
 refine enter func147 O 34 O O ?_;refine CE r (ac ?_);refine WL.box Y O O λu=>?_;refine ad (Cs (ac (ab O (I (Hv (a:=c) (b:=1) O O O O t Z) (ab O (ad (Cb ?_)))))));refine e0 (ι:=Nat) (λi=>[(11,.int .i64 (i:Int))]) [(0,_),(1,_),(2,_),(7,_),(10,_)] (λi=>Ws w [j,f] (aE u (.cells (Value.agg #[.int .i64 x.op,.int .i64 x.a,.int .i64 x.b]).cells 62 (0,0))::[aE j (.cells #[.slice m code.length o,.int .i64 data,.slice (some ⟨f,0,none⟩) code.length g,.slice n code.length p] 157 (0,0)),cq 62 3 (.slice (some ⟨f,0,none⟩) code.length g) code.length ((eT cur k i).flatMap bX.cells)]) [H,q]) (λi=>i<=c-1) (λi=>c-1-i) 0 (cx _) ag ?_;intro i hi;refine ac (I (cy O O) (ad (Cs ?_)));refine Cc O (λs=>?_) (λs=>?_)
 ·have J:i<c-1:=by simp at s; omega
  have l:(eT cur k i)[k+i]? = some (cu (eT cur k i) (k+i)):=fk (by rw [Br]; omega);refine am (Cs (Cb (ac (ab O (ai O (ad (Cr (ab O (I (bV O) (I (Yf nL O) (I (Yd 1 O O O aa) ?_)))))))))));refine ab O (ab O (I (qK O O O O Z) (I (Yb gq hk O O) (I (gb d_ O O Z) ?_))));refine WL.lU 2 _ Y O O O jU O O (m8 l) (m9 l 21 0 0) ?_;refine Ln (Eb (Et (Cr (I (Yi O O O Z) (ab O (Ln ?_))))));exact ct (i+1) Z Z ag
 have v:i=c-1:=by simp at s; omega
 subst v;have l:(eT cur k (c-1))[k+c-1]? = some (cu (eT cur k (c-1)) (k+c-1)):=fk (by rw [Br]; omega);refine Ce (Ex (Ex (cU (Et ?_))));refine WC.gW 2 [(0,true),(1,true),(2,true),(3,true),(4,true),(5,true),(6,true),(7,true),(8,true),(9,true),(10,false)] mixed aa (λ_ _ _ d _ h=>by cases d<;>exact h) ?_;refine D0 O (Wp 2) (Ym O) (D0 O (Wp 2) (bV O) (D0 O (Wp 2) (Yf nL O) (D0 O (Wp 2) (Yd 1 O O O aa) (D0 O (Wp 2) (Ym O) (D0 O (Wp 2) (Ym O) (D0 O (Wp 2) (qK O O O O Z) (D0 O (Wp 2) (Hv (a:=k+c) (b:=1) O O O O Z Z) ?_)))))));refine D0 O (Wp 2) (cI 0 O O lE O) (D0 O (Wp 2) (gb d_ O O Z) ?_);refine De O (Wp 2) ?_;refine WL.lU 2 _ Y O O O jU O O (m8 l) (m9 l x.op x.a x.b) ?_;refine Ln (Ed ?_);refine WD.nil (Wp 2) ?_;refine E0 O λw' r=>?_;exact ⟨O,Wd 1 r⟩
end Go.Proofs.YtgeahfjicmlocaaGreatDoor.Mch
end
section
namespace Go.Proofs.YtgeahfjicmlocaaGreatDoor.Mch
open Go.Bw Go.Proofs.Tryz
def oG (mk:List Bool) (code cur:List bX) (k:Nat):List bX:=
 if ((cu cur k).op==11||(cu cur k).op==12)=true then w1 code cur k else if ((cu cur k).op==1)=true then oF mk cur k else cur
def dS (mk:List Bool) (code:List bX):Nat->List bX
 | 0=>code
 | i+1=>oG mk code (dS mk code i) i
def RZ (mk:List Bool) (code cur:List bX) (k:Nat):(oG mk code cur k).length=cur.length:=by
 unfold oG
 repeat' split
 all_goals simp only [RU,RV]
def eB (mk:List Bool) (code:List bX):∀i,(dS mk code i).length=code.length
 | 0=>rfl
 | i+1=>by rw [dS,RZ,eB mk code i]
def rc (code:List bX):List bX:=dS (marks code) code code.length
def e3 (code:List bX) (data:Int):List bX×Int×Int:=if iF code data=0 then (rc code,data,0) else ([],0,iF code data)
def oH:zeroOf prog 57=some (.agg #[.slice none 0 0,.int .i64 0]):=aa
def w5:hx prog 57=some [(0,1),(1,1)]:=aa
def sd:dV prog 57=some 2:=aa
def R0:hx prog 157=some [(0,2),(2,1),(3,1)]:=aa
def I1:zeroOf prog 157=some (.agg #[.slice none 0 0,.int .i64 0,.slice none 0 0,.slice none 0 0]):=aa
def JP (m o:Nat) (y z:Option Addr) (A l n:Nat) (data:Int) (H g:View) (code cur:List bX) (mk:List Bool) (k:Nat) (w:World) (E:Sl iE 3 H y A code) (p:cur.length=code.length) (q:mk.length=code.length) (r:Sl rdBool 1 g z n mk) (s:k<code.length) (F:code.length<=l) (t:l<=9223372036854775807) (u:code.length<=2048) (c:Ws w [m,o] [aE m (.cells #[.slice y code.length A,.int .i64 data,.slice (some ⟨o,0,none⟩) code.length l,.slice z code.length n] 157 (0,0)),cq 62 3 (.slice (some ⟨o,0,none⟩) code.length l) code.length ((cur).flatMap bX.cells)] [H,g] w) :
   Calls prog 80 #[.pointer (some ⟨m,0,none⟩),.int .i64 (k:Int)] w λe w'=>e = .returned (.tuple #[])/\Ws w [m,o] [aE m (.cells #[.slice y code.length A,.int .i64 data,.slice (some ⟨o,0,none⟩) code.length l,.slice z code.length n] 157 (0,0)),cq 62 3 (.slice (some ⟨o,0,none⟩) code.length l) code.length ((oF mk cur k).flatMap bX.cells)] [H,g] w':=by
 have N:cur[k]? = some (cu cur k):=fk Z;refine enter func80 O 111 O O ?_;refine CE c (ac (ab O (I (bV O) (I (Yf nL O) (I (Yd 0 O O O aa) (ab O (I (gb d_ O O Z) ?_)))))));refine I (Yf gZ O) (I (mW 1 O O aa (nK N)) (ai O (ad (ac (ai O (ad (Cs (ac (ab O (ab O ?_))))))))));refine Lb Y O kj O O O O λR=>?_;refine Lp Y O aK O (λw c=>w3 (hv w) m code.length _ _ _ l n 2 cur mk [1,10] k w (gV w) p u (c.dZ 1 O O) (c.dZ 1 O O) (b4 c 2 O Z t) (r.mono λ_ _ _ h=>(i9 (c.vs g au)).cell h) q (lV c 0 O bf bf (by intro j x f; match j,f with | 0,f=>cases f; rfl | 1,f=>cases f; rfl)) bf s) (ad ?_);refine Cc O (λv=>?_) (λv=>?_)
 ·have J:=w2 v (i:=1) bf;have L:cur[k+1]? = some (cu cur (k+1)):=fk Z;have P:cur[k+2]? = some (cu cur (k+2)):=fk Z;refine Cs (Cs ?_);refine WC.hU [(0,true),(1,true),(2,true),(3,true),(4,true),(5,true),(6,true),(7,true),(8,true),(9,true),(10,true),(11,true),(12,true),(13,true),(14,true),(15,true),(16,true),(17,true),(18,true),(19,false),(20,true),(21,true),(22,true),(23,true),(24,true)] mixed aa (λ_ _ _ d _ h=>by cases d<;>exact h) ?_;refine D0 O ag (Ym O) (D0 O ag (bV O) (D0 O ag (Yf nL O) (D0 O ag (Yd 1 O O O aa) (D0 O ag (Ym O) (D0 O ag (qK (a:=k) (b:=2) O O O O Z) (D0 O ag (gb d_ O O Z) (D0 O ag (Yf gZ O) ?_)))))));refine D0 O ag (mW 2 O O aa (nK P)) (D0 O ag (Ym O) (D0 O ag (Ym O) (D0 O ag (bV O) (D0 O ag (Yf nL O) (D0 O ag (Yd 1 O O O aa) (D0 O ag (Ym O) (D0 O ag (Yi O O O Z) ?_)))))));refine D0 O ag (gb d_ O O Z) (D0 O ag (Yf gZ O) (D0 O ag (mW 2 O O aa (nK L)) ?_));refine De O ag ?_;refine Lp Y O aK O (λw c=>Jt _ _ _ w) (Ln (Ed (D0 O ag (Ym O) (D0 O ag (Yx O O) (D0 O ag (Yx O O) (D0 O ag (Ya O) (D0 O ag (Ya O) ?_)))))));refine WD.nil ag ?_;refine Et (ac (ab O (ad ?_)));refine Cc O (λM=>?_) (λM=>?_)
  ·refine Cr (ab O (ab O (ab O (ab O ?_))));refine WL.n9 Y O aK O O (λw c=>EP _ _) ?_;refine Lf 2 O (Lf 2 O (j_ [_,_] _ [_,_] Y O aK O O [H,g] au (λw c=>w4 m o y z A l n data H g code cur mk k w E p q r s F t 3 ⟨1,(h2 (cu cur (k+2)).a (cu cur k).a (cu cur (k+1)).a).1,0⟩ bf Z u c) (ad (aZ (Er ?_)))));refine WE.z0 O λw' c=>?_;refine ⟨O,?_⟩;simp only [oF,v,M,aw,cn,cv];exact Wt 2 c
  refine am (aZ (Er ?_));refine WE.z0 O λw' c=>?_;refine ⟨O,?_⟩;simp only [oF,v,M,aw,cn,cv];exact Wd 1 c
 refine am (Cb (ac (ab O (ab O ?_))));refine Lb Y O kj O O O O λS=>?_;refine Lp Y O aK O (λw c=>w3 (hv w) m code.length _ _ _ l n 1 cur mk [12] k w (gV w) p u (c.dZ 2 O O) (c.dZ 2 O O) (b4 c 3 O Z t) (r.mono λ_ _ _ h=>(i9 (c.vs g au)).cell h) q (lV c 0 O bf bf (by intro j x f; match j,f with | 0,f=>cases f; rfl)) bf s) (ab O ?_);apply La 2 O O O O Y O O O O O
 ·intro T;refine Vg (Ym O) (Vg (bx O O) ?_);exact Gt 2 O O O
 refine ai O (ad ?_);refine Cc O (λB=>?_) (λB=>?_)
 ·have Q:=(bool_split B).1;have J:=w2 Q (i:=0) bf;have L:cur[k+1]? = some (cu cur (k+1)):=fk Z;refine Cr (ab O (ab O (ab O (I (bV O) (I (Yf nL O) (I (Yd 2 O O O aa) (ab O ?_)))))));refine I (Yi O O O Z) (I (gb d_ O O Z) (I (Yf gZ O) (I (mW 3 O O aa (nK L)) (I (Yb gq hk O O) (Lf 3 O (Lf 3 O (j_ [_,_] _ [_,_] Y O aK O O [H,g] au (λw c=>w4 m o y z A l n data H g code cur mk k w E p q r s F t 2 ⟨11,(cu cur (k+1)).a,0⟩ bf Z u c) ?_)))))));refine Ln (Eb ?_);refine E0 O λw' c=>?_;refine ⟨O,?_⟩;simp only [oF,v,B,aw,cn,cv];exact Wt 2 c
 refine ac (ab O (ab O ?_));refine Lb Y O kj O O O O λU=>?_;refine Lp Y O aK O (λw c=>w3 (hv w) m code.length _ _ _ l n 1 cur mk [9] k w (gV w) p u (c.dZ 3 O O) (c.dZ 3 O O) (b4 c 4 O Z t) (r.mono λ_ _ _ h=>(i9 (c.vs g au)).cell h) q (lV c 0 O bf bf (by intro j x f; match j,f with | 0,f=>cases f; rfl)) bf s) (ai O (ad ?_));refine Cc O (λD=>?_) (λD=>?_)
 ·have J:=w2 D (i:=0) bf;refine Cr (ab O (ab O (ab O (ab O (I (bx O O) (Lp Y O aK O (λw c=>JG _ w) ?_))))));refine WL.n9 Y O aK O O (λw c=>EP _ _) ?_;refine Lf 4 O (Lf 4 O (j_ [_,_] _ [_,_] Y O aK O O [H,g] au (λw c=>w4 m o y z A l n data H g code cur mk k w E p q r s F t 2 ⟨1,i3 ((cu cur k).a==0),0⟩ bf Z u c) (Ln (Eb ?_))));refine E0 O λw' c=>?_;refine ⟨O,?_⟩;simp only [oF,v,B,D,aw,cn,cv];exact Wt 2 c
 refine ac (ab O (ab O ?_));refine Lb Y O kj O O O O λV=>?_;refine Lp Y O aK O (λw c=>w3 (hv w) m code.length _ _ _ l n 1 cur mk [22] k w (gV w) p u (c.dZ 4 O O) (c.dZ 4 O O) (b4 c 5 O Z t) (r.mono λ_ _ _ h=>(i9 (c.vs g au)).cell h) q (lV c 0 O bf bf (by intro j x f; match j,f with | 0,f=>cases f; rfl)) bf s) (ai O (ad ?_));refine Cc O (λG=>?_) (λG=>?_)
 ·have J:=w2 G (i:=0) bf;refine Cr (ab O (ab O (ab O (ab O (I (fh O O) (Lp Y O aK O (λw c=>JG _ w) ?_))))));refine WL.n9 Y O aK O O (λw c=>EP _ _) ?_;refine Lf 5 O (Lf 5 O (j_ [_,_] _ [_,_] Y O aK O O [H,g] au (λw c=>w4 m o y z A l n data H g code cur mk k w E p q r s F t 2 ⟨1,i3 ((cu cur k).a != 0),0⟩ bf Z u c) (Ln (Eb ?_))));refine E0 O λw' c=>?_;refine ⟨O,?_⟩;simp only [oF,v,B,D,G,aw,cn,cv];exact Wt 2 c
 refine Cs (ac (ab O (ab O ?_)));refine Lb Y O kj O O O O λW=>?_;refine Lp Y O aK O (λw c=>w3 (hv w) m code.length _ _ _ l n 1 cur mk [12] k w (gV w) p u (c.dZ 5 O O) (c.dZ 5 O O) (b4 c 6 O Z t) (r.mono λ_ _ _ h=>(i9 (c.vs g au)).cell h) q (lV c 0 O bf bf (by intro j x f; match j,f with | 0,f=>cases f; rfl)) bf s) (ai O (ad ?_));refine Cc O (λK=>?_) (λK=>?_)
 ·refine am ?_;refine Cc O (λC=>?_) (λC=>?_)
  ·have J:=w2 C (i:=0) bf;refine Cr (ab O (ab O (I (Yb gq hk O O) (Lf 6 O (Lf 6 O (j_ [_,_] _ [_,_] Y O aK O O [H,g] au (λw c=>w4 m o y z A l n data H g code cur mk k w E p q r s F t 2 ⟨21,0,0⟩ bf Z u c) (Ln (Eb ?_))))))));refine E0 O λw' c=>?_
   have e:(jE mk cur k [12]||jE mk cur k [17])=true:=by simp [K]
   refine ⟨O,?_⟩;simp only [oF,v,B,D,G,e,aw,cn,cv];exact Wt 2 c
  refine Ck (Eb ?_);refine E0 O λw' c=>?_;simp [K] at C
 refine Cr (ab O (ab O ?_));refine Lb Y O kj O O O O λX=>?_;refine Lp Y O aK O (λw c=>w3 (hv w) m code.length _ _ _ l n 1 cur mk [17] k w (gV w) p u (c.dZ 6 O O) (c.dZ 6 O O) (b4 c 7 O Z t) (r.mono λ_ _ _ h=>(i9 (c.vs g au)).cell h) q (lV c 0 O bf bf (by intro j x f; match j,f with | 0,f=>cases f; rfl)) bf s) (ai O (ad ?_));refine Cc O (λC=>?_) (λC=>?_)
 ·have J:=w2 C (i:=0) bf;refine Cr (ab O (ab O (I (Yb gq hk O O) (Lf 7 O (Lf 7 O (j_ [_,_] _ [_,_] Y O aK O O [H,g] au (λw c=>w4 m o y z A l n data H g code cur mk k w E p q r s F t 2 ⟨21,0,0⟩ bf Z u c) (Ln (Eb ?_))))))));refine E0 O λw' c=>?_
  have e:(jE mk cur k [12]||jE mk cur k [17])=true:=by simp [C]
  refine ⟨O,?_⟩;simp only [oF,v,B,D,G,e,aw,cn,cv];exact Wt 2 c
 refine Ck (Eb ?_);refine E0 O λw' c=>?_
 have e:(jE mk cur k [12]||jE mk cur k [17])=false:=by simp [K,C]
 refine ⟨O,?_⟩;simp only [oF,v,B,D,G,e,aw,cn,cv];exact Wd 6 c
def JQ (H:View) (a:Option Addr) (c:Nat) (code:List bX) (data:Int) (w:World) (E:Le H w) (l:Sl iE 3 H a c code) :
   Calls prog 19 #[.agg #[.slice a code.length c,.int .i64 data]] w λe w'=>∃r:Option Addr×Nat,e = .returned (.tuple #[.agg #[.slice r.1 (e3 code data).1.length r.2,.int .i64 (e3 code data).2.1],.int .i64 (e3 code data).2.2])/\Ext w w'/\Sl iE 3 (nv w w') r.1 r.2 (e3 code data).1:=by
 have N:=l.cap;have P:=l.max;refine enter func19 O 59 O O ?_;refine CE (Vs:=[H]) (Ws.init (by simp [E])) (ac ?_);refine WL.box Y O O λF=>?_;refine Al Y O oH λG=>?_;refine ai O (ad (ac (I (cI 1 O O nJ O) ?_)));refine Ld Y O aK O (λr:Option Addr×Nat=>.tuple #[.slice r.1 (mC code data).1.length r.2,.int .i64 (mC code data).2]) (λH r=>Sl rdBool 1 H r.1 r.2 (mC code data).1) (λw f=>RL H a c code data w (f.vs _ (by simp)) l) ?_;intro k j Q s;refine ab O (I (Yx O O) (I (Yx O O) (ai O (ai O (ad (Cs (ac (ab O (I (fh O O) ?_)))))))));refine ad ?_;refine Cc O (λA=>?_) (λA=>?_)
 ·have p:¬iF code data=0:=λh=>by simp [mC,h] at A
  have y:mC code data=([],iF code data):=by simp [mC,p]
  have B:e3 code data=([],0,iF code data):=by simp [e3,p]
  rw [y];refine ac (I (Yb oH w5 O O) (ab O (aT 0 Y O O O sd O O O (ai O (ad (aZ (Er ?_)))))));refine WE.mV 0 O O O O nJ O λw' f=>?_;rw [B];exact ⟨(none,0),O,f.fr,Sl.nil⟩
 have p:iF code data=0:=by
   by_cases h:iF code data=0
   · exact h
   · simp [mC,h] at A
 have y:mC code data=(marks code,0):=by simp [mC,p]
 have B:e3 code data=(rc code,data,0):=by simp [e3,p]
 obtain ⟨R,D⟩:=EO p;have t:(marks code).length=code.length:=kK _ _ _;rw [y] at s;rw [y];simp only [t];refine am (Cs ?_);refine WC.hU [(0,true),(1,true),(2,true),(4,true),(3,false),(5,true),(6,false),(7,true)] mixed (by kernel_rfl) (λ_ _ _ d _ h=>by cases d<;>exact h) ?_;refine D0 O (λ_ h=>h) (cI 1 O O nJ O) (D0 O (λ_ h=>h) (Yf jB O) (D0 O (λ_ h=>h) (Yd 1 O O O aa) (D0 O (λ_ h=>h) (Ym O) ?_)));refine De O (λ_ h=>h) ?_;refine WL.Oh Y O aK O (λw f=>RR H a c code w (f.vs H (by simp)) l (by omega) (by omega)) ?_;intro J K
 obtain ⟨n,m,rfl,z,q⟩:∃b c,J = .slice (some ⟨b,0,none⟩) code.length c/\code.length<=c/\c<=maxLen:=by
   rcases K with ⟨_,h⟩ | h
   · omega
   · exact h
 have q:m<=9223372036854775807:=by unfold maxLen at q; omega
 refine Ln (Ed (D0 O (λ_ h=>(Wd 1 h:)) (Yb I1 R0 O O) ?_));refine De O (λ_ h=>(Wd 1 h:)) ?_;refine WL.box Y O O λu=>?_;refine Ln (Ed (D0 O (λ_ h=>(Wd 2 h:)) (Ya O) ?_));refine WD.nil (λ_ h=>(Wd 2 h:)) ?_;refine Et (Cs (ac (ab O (I (bV O) (I (Yf nL O) (I (Yd 0 O O O aa) (I (Yn d_ O) (ab O (ad (Cb ?_))))))))));refine Da (ι:=Nat) (λi=>[(29,.int .i64 (i:Int))]) [(1,_),(2,_),(3,_),(6,_),(28,_)] (λi=>Ws w [] [aE u (.cells (Value.agg #[.slice a code.length c,.int .i64 data,.slice (some ⟨n,0,none⟩) code.length m,.slice j.1 code.length j.2]).cells 157 (0,0)),cq 62 3 (.slice (some ⟨n,0,none⟩) code.length m) code.length ((dS (marks code) code i).flatMap bX.cells),aE G (.cells (Value.agg #[.slice none 0 0,.int .i64 0]).cells 57 (0,0)),aE F (.cells (Value.agg #[.slice a code.length c,.int .i64 data]).cells 57 (0,0))] [k,H]) (λi=>i<=code.length) (λi=>code.length-i) 0 (cx _) (sc O (sc O (sc O (sc O (sc O (sc O sn)))))) (λ_ h=>h) ?_;intro i hi;refine ac (I (cy O O) (ad (Cs ?_)));refine Cc O (λC=>?_) (λC=>?_)
 ·have v:i<code.length:=by simpa using C
  have L:(dS (marks code) code i)[i]? = some (cu (dS (marks code) code i) i):=fk (by rw [eB]; exact v);refine am (Cs (Cb (ac (ab O (ai O (ad (ac (ab O (I (bV O) (I (Yf nL O) (I (Yd 0 O O O aa) ?_)))))))))));refine ab O (I (gb d_ O O (by omega)) (I (Yf l3 O) (I (mW 1 O O aa (RS L)) (ad (Cb (Cs (ac (I (bx O O) (ai O (ad ?_))))))))));refine Cc O (λo=>?_) (λo=>?_)
  ·refine am ?_;refine Cc O (λg=>?_) (λg=>?_)
   ·refine Cr (ab O (ab O (j_ [_,_] _ [_,_] Y O aK O O [H,k] (by simp) (λw f=>JO u n a j.1 c m j.2 data H k code (dS (marks code) code i) (marks code) i w l (eB _ _ _) t s v z q f) (Ln (Eb (Eb (Et (Cr (I (Yi O O O (by omega)) (ab O (Ln ?_)))))))))))
    exact Ea (i+1) (by omega) (by omega) (sc O (sc O (sc O (sc O (sc O (sc O sn)))))) (λ_ h=>by
      have e:dS (marks code) code (i+1)=oG (marks code) code (dS (marks code) code i) i:=rfl;rw [e];simp only [oG,o,g,n7,zV,sO,hG,zW,aw,cv,cn]
      exact h)
   refine ac (I (bx O O) (ai O (ad ?_)));refine Cc O (λx=>?_) (λx=>?_)
   ·refine Cr (ab O (ab O (j_ [_,_] _ [_,_] Y O aK O O [H,k] (by simp) (λw f=>JP u n a j.1 c m j.2 data H k code (dS (marks code) code i) (marks code) i w l (eB _ _ _) t s v z q D f) (Ln (Eb (Eb (Et (Cr (I (Yi O O O (by omega)) (ab O (Ln ?_)))))))))));exact Ea (i+1) (by omega) (by omega) (sc O (sc O (sc O (sc O (sc O (sc O sn)))))) (by rw [o] at g; cases g)
   refine Ck (Eb (Eb (Et (Cr (I (Yi O O O (by omega)) (ab O (Ln ?_)))))));exact Ea (i+1) (by omega) (by omega) (sc O (sc O (sc O (sc O (sc O (sc O sn)))))) (by rw [o] at g; cases g)
  refine Cr (I (bx O O) (ai O (ad ?_)));refine Cc O (λg=>?_) (λg=>?_)
  ·refine Cr (ab O (ab O (j_ [_,_] _ [_,_] Y O aK O O [H,k] (by simp) (λw f=>JO u n a j.1 c m j.2 data H k code (dS (marks code) code i) (marks code) i w l (eB _ _ _) t s v z q f) (Ln (Eb (Eb (Et (Cr (I (Yi O O O (by omega)) (ab O (Ln ?_)))))))))))
   exact Ea (i+1) (by omega) (by omega) (sc O (sc O (sc O (sc O (sc O (sc O sn)))))) (λ_ h=>by
     have e:dS (marks code) code (i+1)=oG (marks code) code (dS (marks code) code i) i:=rfl;rw [e];simp only [oG,o,g,n7,zV,sO,hG,zW,aw,cv,cn]
     exact h)
  refine ac (I (bx O O) (ai O (ad ?_)));refine Cc O (λx=>?_) (λx=>?_)
  ·refine Cr (ab O (ab O (j_ [_,_] _ [_,_] Y O aK O O [H,k] (by simp) (λw f=>JP u n a j.1 c m j.2 data H k code (dS (marks code) code i) (marks code) i w l (eB _ _ _) t s v z q D f) (Ln (Eb (Eb (Et (Cr (I (Yi O O O (by omega)) (ab O (Ln ?_)))))))))))
   exact Ea (i+1) (by omega) (by omega) (sc O (sc O (sc O (sc O (sc O (sc O sn)))))) (λ_ h=>by
     have e:dS (marks code) code (i+1)=oG (marks code) code (dS (marks code) code i) i:=rfl;rw [e];simp only [oG,o,g,x,n7,zV,sO,hG,zW,aw,cv,cn]
     exact h)
  refine Ck (Eb (Eb (Et (Cr (I (Yi O O O (by omega)) (ab O (Ln ?_)))))))
  exact Ea (i+1) (by omega) (by omega) (sc O (sc O (sc O (sc O (sc O (sc O sn)))))) (λ_ h=>by
    have e:dS (marks code) code (i+1)=oG (marks code) code (dS (marks code) code i) i:=rfl;rw [e];simp only [oG,o,g,x,n7,zV,sO,hG,zW,aw,cv,cn]
    exact h)
 have M:i=code.length:=by simp at C; omega
 subst M;refine Ce (Ex (Ex (cU (Et (Cs ?_)))));refine WC.gW 2 [(0,true),(1,true),(2,true),(3,true),(4,true),(5,true),(6,true),(7,false),(8,false)] mixed (by kernel_rfl) (λ_ _ _ d _ h=>by cases d<;>exact h) ?_;refine D0 O (Wp 2) (Ym O) (D0 O (Wp 2) (bV O) (D0 O (Wp 2) (Yf nL O) (D0 O (Wp 2) (Yd 0 O O O aa) (D0 O (Wp 2) (Yf tv O) (D0 O (Wp 2) (Yd 2 O O O aa) (D0 O (Wp 2) (Yb oH w5 O O) ?_))))));refine De O (Wp 2) ?_;refine aT 2 Y O O O sd O O O (Ln (Ed ?_));refine De O (Wp 2) ?_;refine ai O (Ln (Ed ?_));refine WD.nil (Wp 2) ?_;refine Et (aZ ?_);refine WE.mV 2 O O O O nJ O λw' f=>?_;rw [B];exact ⟨(some ⟨n,0,none⟩,m),by simp [rc,eB]; rfl,f.fr,JL f 1 O (eB _ _ _)⟩
end Go.Proofs.YtgeahfjicmlocaaGreatDoor.Mch
end
section
namespace Go.Proofs.YtgeahfjicmlocaaGreatDoor.Mch
open Go.Bw Go.Proofs.Tryz
def oI (cur:List bX) (k:Nat) (op:Int):Bool:=decide (k<cur.length)&&(cu cur k).op==op
def kL (mk:List Bool) (code cur:List bX) (k:Nat):List bX:=
 if (oI cur k 11||oI cur k 12)=true then
   (if (within (cu cur k).a 0 ((code.length:Int)-1)&&((cu cur k).a != (k:Int))&&((cu code (cu cur k).a.toNat).op==11))=true then cur.set k ⟨(cu cur k).op,(cu code (cu cur k).a.toNat).a,(cu cur k).b⟩ else cur)
 else if (oI cur k 1&&hj mk cur (k+1) 1&&hj mk cur (k+2) 10&&tw (cu cur (k+2)).a)=true then
   ((cur.set k ⟨21,0,0⟩).set (k+1) ⟨21,0,0⟩).set (k+2) ⟨1,(nG (cu cur (k+2)).a (cu cur k).a (cu cur (k+1)).a).1,0⟩
 else if (oI cur k 1&&hj mk cur (k+1) 12)=true then
   (if ((cu cur k).a==0)=true then (cur.set (k+1) ⟨11,(cu cur (k+1)).a,0⟩).set k ⟨21,0,0⟩ else (cur.set (k+1) ⟨21,0,0⟩).set k ⟨21,0,0⟩)
 else if (oI cur k 1&&hj mk cur (k+1) 9)=true then (cur.set k ⟨21,0,0⟩).set (k+1) ⟨1,i3 ((cu cur k).a==0),0⟩
 else if (oI cur k 1&&hj mk cur (k+1) 22)=true then (cur.set k ⟨21,0,0⟩).set (k+1) ⟨1,i3 ((cu cur k).a != 0),0⟩
 else if (oI cur k 1&&hj mk cur (k+1) 17)=true then (cur.set k ⟨21,0,0⟩).set (k+1) ⟨21,0,0⟩
 else cur
def R2 (mk:List Bool) (cur:List bX) (k:Nat) (a:Int):jE mk cur k [a]=hj mk cur (k+1) a:=by simp [jE,ud]
def R3 (mk:List Bool) (cur:List bX) (k:Nat) (a b:Int):jE mk cur k [a,b]=(hj mk cur (k+1) a&&hj mk cur (k+2) b):=by simp [jE,ud]
variable {jg:List Bool} {aF:List bX} {ae:Nat} {aL:Int}
def JR (h:hj jg aF ae aL=true):(cu aF ae).op=aL:=by
 unfold hj at h; simp at h; exact h.2.1
def w6 {o p:Int} (h:hj jg aF ae o=true) (a:o≠p):hj jg aF ae p=false:=by
 cases b:hj jg aF ae p
 · rfl
 · exact absurd ((JR h).symm.trans (JR b)) a
def R4 (a b:Int) (h:tw aL=true):h2 aL a b=nG aL a b/\(h2 aL a b).2=true:=by
 unfold tw at h;simp only [CI,kW] at h
 rcases h with (((rfl | rfl) | rfl) | rfl) | rfl<;>simp [h2,nG]
def R5 (a b:Int) (h:tw aL=false):(h2 aL a b).2=false:=by
 unfold tw at h;simp only [mQ] at h;obtain ⟨⟨⟨⟨c,d⟩,e⟩,f⟩,g⟩:=h;simp [h2,c,d,e,f,g]
def se {code cur:List bX}  (j:ae<cur.length):kL jg code cur ae=oG jg code cur ae:=by
 have k:∀op,oI cur ae op=((cu cur ae).op==op):=λop=>by simp [oI,j]
 have l:within (cu cur ae).a 0 ((code.length:Int)-1)=(decide (0<=(cu cur ae).a)&&decide ((cu cur ae).a<(code.length:Int))):=by
   have:decide ((cu cur ae).a<=(code.length:Int)-1)=decide ((cu cur ae).a<(code.length:Int)):=by rw [G7]; omega
   simp [within,this]
 unfold kL oG;simp only [k,l]
 by_cases e:((cu cur ae).op==11||(cu cur ae).op==12)=true
 · simp only [e,cv]; rfl
 · rw [av e,av e]
   by_cases i:((cu cur ae).op==1)=true
   · simp only [i,n6,cv]
     unfold oF;simp only [R2,R3]
     by_cases f:(hj jg cur (ae+1) 1&&hj jg cur (ae+2) 10)=true
     · have b:=(bool_split f).1
       have m:=w6 b (p:=12) bf;have g:=w6 b (p:=9) bf;have h:=w6 b (p:=22) bf;have n:=w6 b (p:=17) bf;simp only [f,n6,cv,m,g,h,n,aw,cn]
       by_cases c:tw (cu cur (ae+2)).a=true
       · obtain ⟨o,q⟩:=R4 (cu cur ae).a (cu cur (ae+1)).a c
         rw [a8 c,a8 q,o]; rfl
       · have r:tw (cu cur (ae+2)).a=false:=by simpa using c
         rw [av c,av (by simp [R5 _ _ r])]
     · have s:(hj jg cur (ae+1) 1&&hj jg cur (ae+2) 10)=false:=by simpa using f
       simp only [s,zU,aw,cn]
       by_cases d:hj jg cur (ae+1) 12=true
       · have g:=w6 d (p:=9) bf
         have h:=w6 d (p:=22) bf;simp only [d,cv,n6,g,h,aw,cn,sO];have t:∀x y:bX,(cur.set (ae+1) x).set ae y=(cur.set ae y).set (ae+1) x:=λx y=>List.set_comm _ _ Z;simp only [t]
         rfl
       · have u:hj jg cur (ae+1) 12=false:=by simpa using d
         simp only [u,zU,hG,aw,cn]
         rfl
   · have v:((cu cur ae).op==1)=false:=by simpa using i
     simp only [v,zU,aw,cn]
def Bs (a:View) (c N:Nat) (d:Option Addr) (f:Nat) (cur:List bX) (k:Nat) (op:Int) (w:World) (h:Le a w) (hN:cur.length=N) (g:vc a c 0=some (.slice d N f)) (i:Sl iE 3 a d f cur) :
   Calls prog 88 #[.int .i64 (k:Int),.int .i64 op,.pointer (some ⟨c,0,none⟩)] w λe w'=>e = .returned (.bool (oI cur k op))/\Ext w w':=by
 subst hN;refine enter func88 O 19 O O ?_;refine CE (Vs:=[a]) (Ws.init (by simp [h])) (ac (ai O (ad (ac (ab O (I (cC 0 aa O O (g)) (I (Yn d_ O) (I (cy O O) ?_))))))));refine ab O ?_;apply La 7 O O O O Y O O O O O
 ·intro j
  have l:k<cur.length:=by simp at j; omega
  obtain ⟨m,n,o,b⟩:=i.aq _ _ (fk l);have b:cw a m (n+k*3) (cu cur k).cells:=b;refine Vg (cC 0 aa O O (g)) (Vg (Ym O) (Vg (Yo d_ O O o Z) (Vg (Yf l3 O) (Vg (cC 0 aa O O (b 0 _ O)) (Vg (Ym O) (Vg (bx O O) ?_))))));exact Gt 7 O O O
 refine ai O (ad (aZ ?_));refine R1 O O λw' p=>?_;exact ⟨by simp [oI],p.fr⟩
def w7 (a:View) (i c j N:Nat) (d l:Option Addr) (f m:Nat) (cur:List bX) (mk:List Bool) (k:Nat) (op:Int) (w:World) (o:Le a w) (hN:cur.length=N) (z:mk.length=N) (p:vc a i 0=some (.func (.func 88) #[] #[.pointer (some ⟨c,0,none⟩)])) (q:vc a c 0=some (.slice d N f)) (r:vc a j 0=some (.slice l N m)) (s:Sl iE 3 a d f cur) (t:Sl rdBool 1 a l m mk) :
   Calls prog 89 #[.int .i64 (k:Int),.int .i64 op,.pointer (some ⟨i,0,none⟩),.pointer (some ⟨j,0,none⟩)] w λe w'=>e = .returned (.bool (hj mk cur k op))/\Ext w w':=by
 refine enter func89 O 18 O O ?_;refine CE (Vs:=[a]) (Ws.init (by simp [o])) (ac (ai O (ad (ac (I (cC 0 aa O O (p)) (ab O (ab O ?_)))))));refine WL.n9 Y O aK O O (λw g=>Bs a c N d f cur k op _ (g.vs a au) hN q s) ?_;refine ab O ?_;apply La 5 O O O O Y O O O O O
 ·intro u
  have A:k<mk.length:=by simp [oI] at u; omega
  obtain ⟨b,n⟩:=dw Z;obtain ⟨v,x,y,h⟩:=t.aq _ _ n
  have h:vc a v (x+k*1)=some (.bool (mk[k]?.getD true)):=by rw [n]; exact h
  refine Vg (cC 0 aa O O (r)) (Vg (Ym O) (Vg (Yo l5 O O y Z) (Vg (cC 0 aa O O (h)) (Vg (eR O) ?_))));exact Gt 5 O O O
 refine ai O (ad (aZ ?_));refine R1 O O λw' g=>?_;exact ⟨by simp [hj,oI,Bool.and_assoc],g.fr⟩
end Go.Proofs.YtgeahfjicmlocaaGreatDoor.Mch
end
section
namespace Go.Proofs.YtgeahfjicmlocaaGreatDoor.Mch
open Go.Bw Go.Proofs.Tryz
def w8 {mk:List Bool} {cur:List bX} {m:Nat} {o:Int} (h:hj mk cur m o=true):m<cur.length:=by
 unfold hj at h; simp at h; exact h.1
def JS {a n:Int} (h:within a 0 (n-1)=true):0<=a/\a<n:=by
 simp [within] at h; omega
def R6:zeroOf prog 132=some (.slice none 0 0):=aa
def R7:dV prog 132=some 1:=aa
def R8:zeroOf prog 55=some (.slice none 0 0):=aa
def JT:dV prog 55=some 1:=aa
def R9:zeroOf prog 171=some (.nilFunc):=aa
def R':dV prog 171=some 1:=aa
def R_ (H:View) (a:Option Addr) (c:Nat) (code:List bX) (data:Int) (w:World) (ak:Le H w) (z:Sl iE 3 H a c code) (al:iF code data=0) :
   Calls prog 23 #[.agg #[.slice a code.length c,.int .i64 data]] w λe w'=>∃r:Option Addr×Nat,e = .returned (.agg #[.slice r.1 (rc code).length r.2,.int .i64 data])/\Ext w w'/\Sl iE 3 (nv w w') r.1 r.2 (rc code):=by
 have aH:=z.cap;have aI:=z.max;obtain ⟨P,an⟩:=EO al;have A:(marks code).length=code.length:=kK _ _ _;refine enter func23 O 236 O O ?_;refine CE (Vs:=[H]) (Ws.init (by simp [ak])) (ac ?_);refine WL.box Y O O λao=>?_;refine Al Y O oH λap=>?_;refine ad (ac (I (cI 1 O O nJ O) ?_));refine Ld Y O aK O (λr:Option Addr×Nat=>.slice r.1 (marks code).length r.2) (λH r=>Sl rdBool 1 H r.1 r.2 (marks code)) (λw f=>RM H a c code data w f.V z P an) ?_;intro B m aJ G;simp only [A];refine Al Y O R6 λC=>?_;refine aT 0 Y O O O R7 O O O (ad (Cs ?_));obtain ⟨ar,av⟩:=dw P;obtain ⟨ax,ay,rfl,_⟩:=z.aq 0 ar av;have az:=z.flat bX.dk bf (λ_ _ _ h=>h);refine Cr ?_;refine WL.qI Y O u3 O O O λaL=>?_;refine WL.pY (size:=3) 0 O (eH 0) (cx _) O ?_;refine I (Yf jB O) (I (Yd 3 O O O aa) ?_)
 refine WL.append 0 Y O u3 O O O (pX bX.dk code) (λw f j u Q=>by rw [mg]; exact (f.vs H au).cell (az j u Q)) (λu Q=>by
   obtain ⟨x,_,q⟩:=ku.1 Q;simp [bX.cells] at q
   rcases q with rfl | rfl | rfl<;>rfl) (by unfold maxLen; omega) Z (λaM aN=>?_)
 refine WL.o3 0 code.length (code.flatMap bX.cells) O Z au ?_;refine WL.shape 0 O P λR n aA aO o=>?_;subst aA
 have o:n<=9223372036854775807:=by unfold maxLen at o; omega
 refine Al Y O R8 λp=>?_;refine aT 0 Y O O O JT O O O (ad (ac (I (Yb gq hk O O) ?_)));refine Al Y O gq λaB=>?_;refine aT 0 Y O O O jU O O O (ad (ac (I (v4 O) ?_)));refine Al Y O R9 λD=>?_;refine aT 0 Y O O O R' O O O (ad (ac (I (v4 O) (ai O (ad (Cs (ac (ai O (ad (Cb ?_))))))))));refine e0 (ι:=Nat) (λi=>[(8,.int .i64 (i:Int))]) [(1,_),(2,_),(4,_),(5,_),(6,_),(7,_)] (λi=>Ws w [] [aE D (.cells #[.func (.func 88) #[] #[.pointer (some ⟨p,0,none⟩)]] 171 (0,0)),aE aB (.cells #[.int .i64 21,.int .i64 0,.int .i64 0] 62 (0,0)),aE p (.cells #[.slice (some ⟨R,0,none⟩) code.length n] 55 (0,0)),cq 62 3 (.slice (some ⟨R,0,none⟩) code.length n) code.length ((dS (marks code) code i).flatMap bX.cells),aE C (.cells #[.slice m.1 code.length m.2] 132 (0,0)),aE ap (.cells #[.slice none 0 0,.int .i64 0] 57 (0,0)),aE ao (.cells (Value.agg #[.slice (some ⟨ax,ay,none⟩) code.length c,.int .i64 data]).cells 57 (0,0))] [B,H]) (λi=>i<=code.length) (λi=>code.length-i) 0 (cx _) ag ?_;intro i hi;refine Cs (ac (ab O (I (Yd 2 O O O aa) (I (Yn d_ O) (I (cy O O) (ad ?_))))));refine Cc O (λS=>?_) (λS=>?_)
 ·have s:i<code.length:=by simpa using S
  have hN:(dS (marks code) code i).length=code.length:=eB _ _ _;have q:(dS (marks code) code i)[i]? = some (cu (dS (marks code) code i) i):=fk (by rw [eB]; exact s);refine am (Cs (Cb (ac (I (Yd 0 O O O aa) (ab O ?_)))));refine WL.n9 Y O aK O O (λw f=>Bs (hv w) p code.length _ n (dS (marks code) code i) _ _ w (gV w) hN (f.dZ 2 O O) (b4 f 3 O Z o)) ?_;refine ai O (ad (Cb (ac (I (Yd 0 O O O aa) (ab O ?_)))));refine WL.n9 Y O aK O O (λw f=>Bs (hv w) p code.length _ n (dS (marks code) code i) _ _ w (gV w) hN (f.dZ 2 O O) (b4 f 3 O Z o)) ?_;refine ab O ?_;apply Lo 3 O O O O Y O O O O O
  ·intro aP;refine Vg (Yd 0 O O O aa) (Vg (Ym O) ?_);refine WL.n9 (.g O O O) O aK O O (λw f=>Bs (hv w) p code.length _ n (dS (marks code) code i) _ _ w (gV w) hN (f.dZ 2 O O) (b4 f 3 O Z o)) ?_;exact Gt 3 O O O
  refine ai O (ad ?_);refine Cc O (λt=>?_) (λt=>?_)
  ·refine ac (I (Yd 2 O O O aa) (ab O (I (gb d_ O O Z) (I (Yf gZ O) (I (mW 3 O O aa (nK q)) (ai O (ad (ac ?_))))))));refine ab O (I (Yd 2 O O O aa) (I (Yn d_ O) (I (z4 O O Z) (Lp Y O aK O (λw f=>mB _ _ _ w) (ab O ?_)))));apply La 3 O O O O Y O O O O O
   ·intro aQ;refine Vg (Ym O) (Vg (Ym O) (Vg (fh O O) ?_));exact Gt 3 O O O
   refine ab O ?_;apply La 7 O O O O Y O O O O O
   ·intro aC;have T:=(bool_split aC).1;obtain ⟨U,aD⟩:=JS T;obtain ⟨W,X,ae,E⟩:=z.aq _ _ (fk (l:=code) (k:=(cu (dS (marks code) code i) i).a.toNat) Z);have E:cw H W (X+(cu (dS (marks code) code i) i).a.toNat*3) (cu code (cu (dS (marks code) code i) i).a.toNat).cells:=E;refine Vg (Yf jB O) (Vg (Yd 6 O O O aa) (Vg (Ym O) (Vg (ya d_ O O ae U Z) (Vg (Yf l3 O) (Vg (cC 1 aa O O (E 0 _ O)) (Vg (bx O O) ?_))))));exact Gt 7 O O O
   refine ad ?_;refine Cc O (λM=>?_) (λM=>?_)
   ·have T:=(bool_split (bool_split M).1).1;obtain ⟨U,aD⟩:=JS T;obtain ⟨W,X,ae,E⟩:=z.aq _ _ (fk (l:=code) (k:=(cu (dS (marks code) code i) i).a.toNat) Z);have E:cw H W (X+(cu (dS (marks code) code i) i).a.toNat*3) (cu code (cu (dS (marks code) code i) i).a.toNat).cells:=E;refine WC.gW 3 [(0,true),(1,true),(2,true),(3,true),(4,true),(5,true),(6,true),(7,true),(8,true),(9,true),(10,false)] mixed aa (λ_ _ _ d _ h=>by cases d<;>exact h) ?_;refine D0 O (Wp 3) (Yd 2 O O O aa) (D0 O (Wp 3) (Ym O) (D0 O (Wp 3) (Yf jB O) (D0 O (Wp 3) (Yd 5 O O O aa) (D0 O (Wp 3) (Ym O) (D0 O (Wp 3) (ya d_ O O ae U Z) (D0 O (Wp 3) (Yf gZ O) (D0 O (Wp 3) (cC 1 aa O O (E 1 _ O)) ?_)))))));refine D0 O (Wp 3) (gb d_ O O Z) (D0 O (Wp 3) (Yf gZ O) ?_);refine De O (Wp 3) ?_;refine WL.lU 3 _ Y O O O dr O O (JI q) (JJ q _) ?_;refine Ln (Ed ?_);refine WD.nil (Wp 3) ?_;refine Eb (Eb (Et (Cr (ab O (I (Yi O O O Z) (ai O (Ln ?_)))))))
    exact ct (i+1) Z Z (λ_ h=>by
      have e:dS (marks code) code (i+1)=kL (marks code) code (dS (marks code) code i) i:=(se (by rw [eB]; exact s)).symm;rw [e];simp only [kL,t,M,aw,cn,cv]
      exact h)
   refine Ck (Eb (Eb (Et (Cr (ab O (I (Yi O O O Z) (ai O (Ln ?_))))))))
   exact ct (i+1) Z Z (λ_ h=>by
     have e:dS (marks code) code (i+1)=kL (marks code) code (dS (marks code) code i) i:=(se (by rw [eB]; exact s)).symm;rw [e];simp only [kL,t,M,aw,cn,cv]
     exact h)
  refine ac (ab O (ab O ?_));apply La 4 O O O O Y O O O O O
  ·intro aR;refine Vg (Ym O) (Vg (Ym O) (Vg (Yi O O O Z) ?_));refine WL.n9 (.g O O O) O aK O O (λw f=>w7 (hv w) D p C code.length _ m.1 n m.2 (dS (marks code) code i) (marks code) _ _ w (gV w) hN A (f.dZ 0 O O) (f.dZ 2 O O) (f.dZ 4 O O) (b4 f 3 O Z o) (G.mono λ_ _ _ h=>(i9 (f.vs B au)).cell h)) ?_;exact Gt 4 O O O
  refine ab O ?_;apply La 4 O O O O Y O O O O O
  ·intro aS;refine Vg (Ym O) (Vg (Ym O) (Vg (qK (b:=2) O O O O Z) ?_));refine WL.n9 (.g O O O) O aK O O (λw f=>w7 (hv w) D p C code.length _ m.1 n m.2 (dS (marks code) code i) (marks code) _ _ w (gV w) hN A (f.dZ 0 O O) (f.dZ 2 O O) (f.dZ 4 O O) (b4 f 3 O Z o) (G.mono λ_ _ _ h=>(i9 (f.vs B au)).cell h)) ?_;exact Gt 4 O O O
  refine ab O ?_;apply La 7 O O O O Y O O O O O
  ·intro aF
   have af:i+2<code.length:=by have:=w8 (bool_split aF).2; rw [eB] at this; exact this
   have ah:(dS (marks code) code i)[i+2]? = some (cu (dS (marks code) code i) (i+2)):=fk (by rw [eB]; exact af);refine Vg (Yd 2 O O O aa) (Vg (Ym O) (Vg (qK (b:=2) O O O O Z) (Vg (gb d_ O O Z) (Vg (Yf gZ O) (Vg (mW 3 O O aa (nK ah)) (Lp (.g O O O) O aK O (λw f=>IW _ w) ?_))))));exact Gt 7 O O O
  refine ai O (ad ?_);refine Cc O (λv=>?_) (λv=>?_)
  ·have af:i+2<code.length:=by have:=w8 (bool_split (bool_split v).1).2; rw [eB] at this; exact this
   have ah:(dS (marks code) code i)[i+2]? = some (cu (dS (marks code) code i) (i+2)):=fk (by rw [eB]; exact af);have J:(dS (marks code) code i)[i+1]? = some (cu (dS (marks code) code i) (i+1)):=fk (by rw [eB]; omega);refine Cs ?_;refine WC.hU [(0,true),(1,true),(2,true),(3,true),(4,true),(5,true),(6,true),(7,true),(8,true),(9,true),(10,true),(11,true),(12,true),(13,true),(14,true),(15,true),(16,true),(17,false),(18,true),(19,true),(20,true),(21,true),(22,true)] mixed aa (λ_ _ _ d _ h=>by cases d<;>exact h) ?_;refine D0 O ag (Yd 2 O O O aa) (D0 O ag (Ym O) (D0 O ag (qK (b:=2) O O O O Z) (D0 O ag (gb d_ O O Z) (D0 O ag (Yf gZ O) (D0 O ag (mW 3 O O aa (nK ah)) (D0 O ag (Yd 2 O O O aa) (D0 O ag (Ym O) ?_)))))));refine D0 O ag (gb d_ O O Z) (D0 O ag (Yf gZ O) (D0 O ag (mW 3 O O aa (nK q)) (D0 O ag (Yd 2 O O O aa) (D0 O ag (Ym O) (D0 O ag (Yi O O O Z) (D0 O ag (gb d_ O O Z) (D0 O ag (Yf gZ O) ?_)))))));refine D0 O ag (mW 3 O O aa (nK J)) ?_;refine De O ag ?_;refine Lp Y O aK O (λw f=>RO _ _ _ w) (Ln (Ed (D0 O ag (Ym O) (D0 O ag (Yx O O) (D0 O ag (Yx O O) (D0 O ag (Ya O) (D0 O ag (Ya O) ?_)))))));refine WD.nil ag ?_;refine Et ?_;refine WC.gW 3 [(0,true),(1,true),(2,true),(3,true),(4,true),(5,true),(6,true),(7,true),(8,true),(9,true),(10,true),(11,true),(12,true),(13,false),(14,false),(15,false),(16,false),(17,false)] mixed aa (λ_ _ _ d _ h=>by cases d<;>exact h) ?_;refine D0 O (Wp 3) (Yd 2 O O O aa) (D0 O (Wp 3) (Ym O) (D0 O (Wp 3) (Yd 2 O O O aa) (D0 O (Wp 3) (Ym O) (D0 O (Wp 3) (Yi O O O Z) (D0 O (Wp 3) (Yd 2 O O O aa) (D0 O (Wp 3) (Ym O) (D0 O (Wp 3) (qK (b:=2) O O O O Z) ?_)))))));refine D0 O (Wp 3) (cI 1 O O lE O) (D0 O (Wp 3) (cI 1 O O lE O) (D0 O (Wp 3) (Ym O) (D0 O (Wp 3) (Yb gq hk O O) (D0 O (Wp 3) (gb d_ O O Z) ?_))));refine De O (Wp 3) ?_;refine WL.lU 3 _ Y O O O jU O O (m8 (fk (by simp only [iI,eB]; omega))) (m9 (fk (by simp only [iI,eB]; omega)) 21 0 0) ?_;refine Ln (Ed ?_);refine De O (Wp 3) ?_;refine I (gb d_ O O Z) (Ln (Ed ?_));refine De O (Wp 3) ?_;refine WL.lU 3 _ Y O O O jU O O (m8 (fk (by simp only [iI,eB]; omega))) (m9 (fk (by simp only [iI,eB]; omega)) 21 0 0) ?_;refine Ln (Ed ?_);refine De O (Wp 3) ?_;refine I (gb d_ O O Z) (Ln (Ed ?_));refine De O (Wp 3) ?_;refine WL.lU 3 _ Y O O O jU O O (m8 (fk (by simp only [iI,eB]; omega))) (m9 (fk (by simp only [iI,eB]; omega)) 1 _ 0) ?_
   refine Ln (Ed ?_);refine WD.nil (Wp 3) ?_;refine Eb (Eb (Et (Cr (ab O (I (Yi O O O Z) (ai O (Ln ?_)))))))
   exact ct (i+1) Z Z (λ_ h=>by
     have e:dS (marks code) code (i+1)=kL (marks code) code (dS (marks code) code i) i:=(se (by rw [eB]; exact s)).symm;rw [e];simp only [kL,t,v,aw,cn,cv]
     exact h)
  refine ac (ab O (ab O ?_));apply La 4 O O O O Y O O O O O
  ·intro aU;refine Vg (Ym O) (Vg (Ym O) (Vg (Yi O O O Z) ?_));refine WL.n9 (.g O O O) O aK O O (λw f=>w7 (hv w) D p C code.length _ m.1 n m.2 (dS (marks code) code i) (marks code) _ _ w (gV w) hN A (f.dZ 0 O O) (f.dZ 2 O O) (f.dZ 4 O O) (b4 f 3 O Z o) (G.mono λ_ _ _ h=>(i9 (f.vs B au)).cell h)) ?_;exact Gt 4 O O O
  refine ai O (ad ?_);refine Cc O (λy=>?_) (λy=>?_)
  ·have F:i+1<code.length:=by have:=w8 (bool_split y).2; rw [eB] at this; exact this
   have J:(dS (marks code) code i)[i+1]? = some (cu (dS (marks code) code i) (i+1)):=fk (by rw [eB]; exact F);refine Cs (ac (I (Yd 2 O O O aa) (ab O (I (gb d_ O O Z) (I (Yf gZ O) (I (mW 3 O O aa (nK q)) (I (bx O O) (ad ?_))))))));refine Cc O (λaj=>?_) (λaj=>?_)
   ·refine WC.gW 3 [(0,true),(1,true),(2,true),(3,true),(4,true),(5,true),(6,true),(7,true),(8,false),(9,true),(10,true),(11,false)] mixed aa (λ_ _ _ d _ h=>by cases d<;>exact h) ?_;refine D0 O (Wp 3) (Yd 2 O O O aa) (D0 O (Wp 3) (Ym O) (D0 O (Wp 3) (Yi O O O Z) (D0 O (Wp 3) (Yd 2 O O O aa) (D0 O (Wp 3) (Ym O) (D0 O (Wp 3) (Yi O O O Z) (D0 O (Wp 3) (gb d_ O O Z) (D0 O (Wp 3) (Yf gZ O) ?_)))))));refine De O (Wp 3) ?_;refine I (mW 3 O O aa (nK J)) (Ln (Ed (D0 O (Wp 3) (Yb gq hk O O) (D0 O (Wp 3) (gb d_ O O Z) ?_))));refine De O (Wp 3) ?_;refine WL.lU 3 _ Y O O O jU O O (m8 (fk (by simp only [iI,eB]; omega))) (m9 (fk (by simp only [iI,eB]; omega)) 11 _ 0) ?_;refine Ln (Ed ?_);refine WD.nil (Wp 3) ?_;refine Et (Cr (I (Yd 2 O O O aa) (ab O (I (cI 1 O O lE O) (I (gb d_ O O Z) ?_)))));refine WL.lU 3 _ Y O O O jU O O (m8 (fk (by simp only [iI,eB]; omega))) (m9 (fk (by simp only [iI,eB]; omega)) 21 0 0) ?_;refine Ln (Eb (Eb (Et (Cr (ab O (I (Yi O O O Z) (ai O (Ln ?_))))))))
    exact ct (i+1) Z Z (λ_ h=>by
      have e:dS (marks code) code (i+1)=kL (marks code) code (dS (marks code) code i) i:=(se (by rw [eB]; exact s)).symm;rw [e];simp only [kL,t,v,y,aj,aw,cn,cv]
      exact h)
   refine Cr (I (Yd 2 O O O aa) (ab O (I (Yi O O O Z) (I (cI 1 O O lE O) (I (gb d_ O O Z) ?_)))));refine WL.lU 3 _ Y O O O jU O O (m8 (fk (by simp only [iI,eB]; omega))) (m9 (fk (by simp only [iI,eB]; omega)) 21 0 0) ?_;refine ad (Cr (I (Yd 2 O O O aa) (ab O (I (cI 1 O O lE O) (I (gb d_ O O Z) ?_)))));refine WL.lU 3 _ Y O O O jU O O (m8 (fk (by simp only [iI,eB]; omega))) (m9 (fk (by simp only [iI,eB]; omega)) 21 0 0) ?_;refine Ln (Eb (Eb (Et (Cr (ab O (I (Yi O O O Z) (ai O (Ln ?_))))))))
   exact ct (i+1) Z Z (λ_ h=>by
     have e:dS (marks code) code (i+1)=kL (marks code) code (dS (marks code) code i) i:=(se (by rw [eB]; exact s)).symm;rw [e];simp only [kL,t,v,y,aj,aw,cn,cv]
     exact h)
  refine ac (ab O (ab O ?_));apply La 4 O O O O Y O O O O O
  ·intro aV;refine Vg (Ym O) (Vg (Ym O) (Vg (Yi O O O Z) ?_));refine WL.n9 (.g O O O) O aK O O (λw f=>w7 (hv w) D p C code.length _ m.1 n m.2 (dS (marks code) code i) (marks code) _ _ w (gV w) hN A (f.dZ 0 O O) (f.dZ 2 O O) (f.dZ 4 O O) (b4 f 3 O Z o) (G.mono λ_ _ _ h=>(i9 (f.vs B au)).cell h)) ?_;exact Gt 4 O O O
  refine ai O (ad ?_);refine Cc O (λK=>?_) (λK=>?_)
  ·have F:i+1<code.length:=by have:=w8 (bool_split K).2; rw [eB] at this; exact this
   have J:(dS (marks code) code i)[i+1]? = some (cu (dS (marks code) code i) (i+1)):=fk (by rw [eB]; exact F);refine WC.gW 3 [(0,true),(1,true),(2,true),(3,true),(4,true),(5,true),(6,true),(7,true),(8,true),(9,true),(10,false),(11,true),(12,false),(13,true),(14,true),(15,false),(16,false),(17,false)] mixed aa (λ_ _ _ d _ h=>by cases d<;>exact h) ?_;refine D0 O (Wp 3) (Yd 2 O O O aa) (D0 O (Wp 3) (Ym O) (D0 O (Wp 3) (Yd 2 O O O aa) (D0 O (Wp 3) (Ym O) (D0 O (Wp 3) (Yi O O O Z) (D0 O (Wp 3) (cI 1 O O lE O) (D0 O (Wp 3) (Yd 2 O O O aa) (D0 O (Wp 3) (Ym O) ?_)))))));refine D0 O (Wp 3) (gb d_ O O Z) (D0 O (Wp 3) (Yf gZ O) ?_);refine De O (Wp 3) ?_;refine I (mW 3 O O aa (nK q)) (Ln (Ed (D0 O (Wp 3) (bx O O) ?_)));refine De O (Wp 3) ?_;refine Lp Y O aK O (λw f=>Bq _ w) (Ln (Ed (D0 O (Wp 3) (Yb gq hk O O) (D0 O (Wp 3) (gb d_ O O Z) ?_))));refine De O (Wp 3) ?_;refine WL.lU 3 _ Y O O O jU O O (m8 (fk (by simp only [iI,eB]; omega))) (m9 (fk (by simp only [iI,eB]; omega)) 21 0 0) ?_;refine Ln (Ed ?_);refine De O (Wp 3) ?_;refine I (gb d_ O O Z) (Ln (Ed ?_));refine De O (Wp 3) ?_;refine WL.lU 3 _ Y O O O jU O O (m8 (fk (by simp only [iI,eB]; omega))) (m9 (fk (by simp only [iI,eB]; omega)) 1 _ 0) ?_;refine Ln (Ed ?_);refine WD.nil (Wp 3) ?_;refine Eb (Eb (Et (Cr (ab O (I (Yi O O O Z) (ai O (Ln ?_)))))))
   exact ct (i+1) Z Z (λ_ h=>by
     have e:dS (marks code) code (i+1)=kL (marks code) code (dS (marks code) code i) i:=(se (by rw [eB]; exact s)).symm;rw [e];simp only [kL,t,v,y,K,aw,cn,cv]
     exact h)
  refine ac (ab O (ab O ?_));apply La 4 O O O O Y O O O O O
  ·intro aW;refine Vg (Ym O) (Vg (Ym O) (Vg (Yi O O O Z) ?_));refine WL.n9 (.g O O O) O aK O O (λw f=>w7 (hv w) D p C code.length _ m.1 n m.2 (dS (marks code) code i) (marks code) _ _ w (gV w) hN A (f.dZ 0 O O) (f.dZ 2 O O) (f.dZ 4 O O) (b4 f 3 O Z o) (G.mono λ_ _ _ h=>(i9 (f.vs B au)).cell h)) ?_;exact Gt 4 O O O
  refine ai O (ad ?_);refine Cc O (λL=>?_) (λL=>?_)
  ·have F:i+1<code.length:=by have:=w8 (bool_split L).2; rw [eB] at this; exact this
   have J:(dS (marks code) code i)[i+1]? = some (cu (dS (marks code) code i) (i+1)):=fk (by rw [eB]; exact F);refine WC.gW 3 [(0,true),(1,true),(2,true),(3,true),(4,true),(5,true),(6,true),(7,true),(8,true),(9,true),(10,false),(11,true),(12,false),(13,true),(14,true),(15,false),(16,false),(17,false)] mixed aa (λ_ _ _ d _ h=>by cases d<;>exact h) ?_;refine D0 O (Wp 3) (Yd 2 O O O aa) (D0 O (Wp 3) (Ym O) (D0 O (Wp 3) (Yd 2 O O O aa) (D0 O (Wp 3) (Ym O) (D0 O (Wp 3) (Yi O O O Z) (D0 O (Wp 3) (cI 1 O O lE O) (D0 O (Wp 3) (Yd 2 O O O aa) (D0 O (Wp 3) (Ym O) ?_)))))));refine D0 O (Wp 3) (gb d_ O O Z) (D0 O (Wp 3) (Yf gZ O) ?_);refine De O (Wp 3) ?_;refine I (mW 3 O O aa (nK q)) (Ln (Ed (D0 O (Wp 3) (fh O O) ?_)));refine De O (Wp 3) ?_;refine Lp Y O aK O (λw f=>Bq _ w) (Ln (Ed (D0 O (Wp 3) (Yb gq hk O O) (D0 O (Wp 3) (gb d_ O O Z) ?_))));refine De O (Wp 3) ?_;refine WL.lU 3 _ Y O O O jU O O (m8 (fk (by simp only [iI,eB]; omega))) (m9 (fk (by simp only [iI,eB]; omega)) 21 0 0) ?_;refine Ln (Ed ?_);refine De O (Wp 3) ?_;refine I (gb d_ O O Z) (Ln (Ed ?_));refine De O (Wp 3) ?_;refine WL.lU 3 _ Y O O O jU O O (m8 (fk (by simp only [iI,eB]; omega))) (m9 (fk (by simp only [iI,eB]; omega)) 1 _ 0) ?_;refine Ln (Ed ?_);refine WD.nil (Wp 3) ?_;refine Eb (Eb (Et (Cr (ab O (I (Yi O O O Z) (ai O (Ln ?_)))))))
   exact ct (i+1) Z Z (λ_ h=>by
     have e:dS (marks code) code (i+1)=kL (marks code) code (dS (marks code) code i) i:=(se (by rw [eB]; exact s)).symm;rw [e];simp only [kL,t,v,y,K,L,aw,cn,cv]
     exact h)
  refine ac (ab O (ab O ?_));apply La 4 O O O O Y O O O O O
  ·intro aX;refine Vg (Ym O) (Vg (Ym O) (Vg (Yi O O O Z) ?_));refine WL.n9 (.g O O O) O aK O O (λw f=>w7 (hv w) D p C code.length _ m.1 n m.2 (dS (marks code) code i) (marks code) _ _ w (gV w) hN A (f.dZ 0 O O) (f.dZ 2 O O) (f.dZ 4 O O) (b4 f 3 O Z o) (G.mono λ_ _ _ h=>(i9 (f.vs B au)).cell h)) ?_;exact Gt 4 O O O
  refine ai O (ad ?_);refine Cc O (λN=>?_) (λN=>?_)
  ·have F:i+1<code.length:=by have:=w8 (bool_split N).2; rw [eB] at this; exact this
   have J:(dS (marks code) code i)[i+1]? = some (cu (dS (marks code) code i) (i+1)):=fk (by rw [eB]; exact F);refine WC.gW 3 [(0,true),(1,true),(2,true),(3,true),(4,true),(5,true),(6,true),(7,true),(8,false),(9,false),(10,false)] mixed aa (λ_ _ _ d _ h=>by cases d<;>exact h) ?_;refine D0 O (Wp 3) (Yd 2 O O O aa) (D0 O (Wp 3) (Ym O) (D0 O (Wp 3) (Yd 2 O O O aa) (D0 O (Wp 3) (Ym O) (D0 O (Wp 3) (Yi O O O Z) (D0 O (Wp 3) (cI 1 O O lE O) (D0 O (Wp 3) (cI 1 O O lE O) (D0 O (Wp 3) (gb d_ O O Z) ?_)))))));refine De O (Wp 3) ?_;refine WL.lU 3 _ Y O O O jU O O (m8 (fk (by simp only [iI,eB]; omega))) (m9 (fk (by simp only [iI,eB]; omega)) 21 0 0) ?_;refine Ln (Ed ?_);refine De O (Wp 3) ?_;refine I (gb d_ O O Z) (Ln (Ed ?_));refine De O (Wp 3) ?_;refine WL.lU 3 _ Y O O O jU O O (m8 (fk (by simp only [iI,eB]; omega))) (m9 (fk (by simp only [iI,eB]; omega)) 21 0 0) ?_;refine Ln (Ed ?_);refine WD.nil (Wp 3) ?_;refine Eb (Eb (Et (Cr (ab O (I (Yi O O O Z) (ai O (Ln ?_)))))))
   exact ct (i+1) Z Z (λ_ h=>by
     have e:dS (marks code) code (i+1)=kL (marks code) code (dS (marks code) code i) i:=(se (by rw [eB]; exact s)).symm;rw [e];simp only [kL,t,v,y,K,L,N,aw,cn,cv]
     exact h)
  refine Ck (Eb (Eb (Et (Cr (ab O (I (Yi O O O Z) (ai O (Ln ?_))))))))
  exact ct (i+1) Z Z (λ_ h=>by
    have e:dS (marks code) code (i+1)=kL (marks code) code (dS (marks code) code i) i:=(se (by rw [eB]; exact s)).symm;rw [e];simp only [kL,t,v,y,K,L,N,aw,cn,cv]
    exact h)
 have aG:i=code.length:=by simp at S; omega
 subst aG;refine Ce (Ex (Ex (cU (Et (ac (I (Yd 2 O O O aa) (I (Yf tv O) (I (Yd 6 O O O aa) (I (Yb oH w5 O O) (aT 5 Y O O O sd O O O (ad (aZ ?_))))))))))));refine WE.yb 5 O O O nJ O λw' f=>?_;exact ⟨(some ⟨R,0,none⟩,n),by simp [rc,eB]; rfl,f.fr,JL f 3 O (eB _ _ _)⟩
end Go.Proofs.YtgeahfjicmlocaaGreatDoor.Mch
end
section
namespace Go.Proofs.YtgeahfjicmlocaaGreatDoor.Mch
open Go.Bw Go.Proofs.Tryz
def qf:List bX:=[⟨1,2,0⟩,⟨1,3,0⟩,⟨10,11,0⟩,⟨1,4,0⟩,⟨10,9,0⟩,⟨19,0,0⟩,⟨1,0,0⟩,⟨12,9,0⟩,⟨20,0,0⟩,⟨11,8,0⟩]
def qg:List bX:=[⟨21,0,0⟩,⟨21,0,0⟩,⟨21,0,0⟩,⟨21,0,0⟩,⟨1,10,0⟩,⟨19,0,0⟩,⟨21,0,0⟩,⟨11,8,0⟩,⟨20,0,0⟩,⟨11,8,0⟩]
def JU:e3 qf 0=(qg,0,0):=bf
def JV {a w:World} {L:List ah} {Vs:List View} (h:Ws a [] L Vs w) (i:Nat) {c b e:Nat} {cur:List bX} (hL:L[i]? = some (aE b (.cells (cur.flatMap bX.cells).toArray e (0,0)))) (f:cur.length<=c) (g:c<=9223372036854775807):Sl iE 3 (nv a w) (some ⟨b,0,none⟩) c cur:=
 ⟨f,g,au,λj x l=>⟨b,0,rfl,λk v d=>h.yc i hL (by
   have:k<3:=(cS.1 d).1;simp only [gE,zQ]
   rw [gC,kZ bX.dk l this]; exact d)⟩⟩
def JW (w:World) :
   Calls prog 18 #[] w λe w'=>∃r:Option Addr×Nat,e = .returned (.agg #[.slice r.1 qf.length r.2,.int .i64 0])/\Ext w w'/\Sl iE 3 (nv w w') r.1 r.2 qf:=by
 refine enter func18 O 13 O O ?_;refine CE (Vs:=[]) (Ws.init au) (ac ?_);refine Al Y O oH λd=>?_;refine ad (ac (I (Yb gq hk O O) (I (Yb gq hk O O) (I (Yb gq hk O O) (I (Yb gq hk O O) (I (Yb gq hk O O) (I (Yb gq hk O O) (I (Yb gq hk O O) ?_))))))));refine I (Yb gq hk O O) (I (Yb gq hk O O) (I (Yb gq hk O O) ?_));refine Lb Y O u3 O O O O λb=>?_;refine I (Yb oH w5 O O) (aT 1 Y O O O sd O O O (ad (aZ ?_)));refine WE.yb 1 O O O nJ O λw' a=>?_;exact ⟨(some ⟨b,0,none⟩,10),O,a.fr,JV (c:=10) (cur:=qf) a 0 O bf bf⟩
end Go.Proofs.YtgeahfjicmlocaaGreatDoor.Mch
end
section
namespace Go.Bw
open Go
structure w9 where
 w:Wm
 fin:Int
 i:Option Addr×Nat
 o:Option Addr×Nat
def kl {α:Type} (r:Rz Wm α) (v:α) (t:w9):Prop:=(t.fin=0/\r = .ok v t.w)\/(t.fin≠0/\∃c,r = .ov t.fin { t.w with calls:=c })
def Sa {α:Type} (s:w9) (r:Rz Wm α) (v:α) (t:w9):Prop:=(s.fin≠0/\t=s)\/(s.fin=0/\kl r v t)
variable {a9:Type} {km:w9}
def kl.ok {r:Rz Wm a9} {v:a9}  (a:km.fin=0) (h:r = .ok v km.w):kl r v km:=.inl ⟨a,h⟩
def kl.ov {α:Type} {r:Rz Wm α} {v:α}  {c:Nat} (a:km.fin≠0) (h:r = .ov km.fin { km.w with calls:=c }):kl r v km:=.inr ⟨a,c,h⟩
def kl.get {r:Rz Wm a9} {v:a9}  (h:kl r v km) (a:km.fin=0):r = .ok v km.w:=by
 rcases h with ⟨_,h⟩ | ⟨h,_⟩
 · exact h
 · exact absurd a h
variable {gY:Type}
def kl.out {r:Rz Wm a9} {v:a9}  (h:kl r v km) (a:km.fin≠0) (f:a9->Wm->Rz Wm gY) (b:gY):kl (r.bind f) b km:=by
 rcases h with ⟨h,_⟩ | ⟨_,c,h⟩
 · exact absurd h a
 · exact .inr ⟨a,c,EA h⟩
def kl.same {r:Rz Wm a9} {v b:a9}  (h:kl r v km) (a:km.fin≠0):kl r b km:=by
 rcases h with ⟨h,_⟩ | ⟨_,h⟩
 · exact absurd h a
 · exact .inr ⟨a,h⟩
def kl.then {r:Rz Wm a9} {v:a9} {t c:w9} {f:a9->Wm->Rz Wm gY} {b:gY} (h:kl r v t) (k:Sa t (f v t.w) b c):kl (r.bind f) b c:=by
 rcases k with ⟨a,rfl⟩ | ⟨a,d⟩
 · exact h.out a f b
 · rw [Jn (h.get a)]; exact d
def kl.map {r:Rz Wm a9} {v:a9}  (f:a9->gY) (h:kl r v km):kl (r.bind λv w=>.ok (f v) w) (f v) km:=by
 rcases h with ⟨a,h⟩ | ⟨a,c,h⟩
 · exact .inl ⟨a,Jn h⟩
 · exact .inr ⟨a,c,EA h⟩
def Sb (r:Rz Fm Bool) (d:Bool) (loc:List Int) (v:Int) (t:w9):Prop:=(t.fin=0/\r = .ok d ⟨loc,v,t.w⟩)\/(t.fin≠0/\∃c,r = .ov t.fin { t.w with calls:=c })
def kl.fr {r:Rz Wm a9} {x:a9}  {loc:List Int} {v:Int} {w:Wm} {f:a9->Fm->Rz Fm Bool} {d:Bool} {b:List Int} {e:Int} (h:kl r x km) (a:km.fin≠0):Sb ((Rz.fr ⟨loc,v,w⟩ r).bind f) d b e km:=by
 rcases h with ⟨h,_⟩ | ⟨_,c,h⟩
 · exact absurd h a
 · exact .inr ⟨a,c,EA (QP h)⟩
end Go.Bw
end
section
namespace Go.Bw
open Go
structure re (ks JX:List aV):Prop where
 d:∀m pl n,mx ks m pl n=true->mx JX m pl n=true
 p:∀m pl n,nD ks m pl n=true->nD JX m pl n=true
variable {eP lG:List aV} {aL cg iN i1 i':Int} {ae:Nat}
def Sc (h:re eP lG)   (c:node1 eP aL cg iN i1 i' ae=true):node1 lG aL cg iN i1 i' ae=true:=by
 unfold node1 at c ⊢
 by_cases e:cg=1
 · rw [a8 e] at c ⊢; exact c
 rw [av e] at c ⊢
 by_cases f:cg=3
 · rw [a8 f] at c ⊢; obtain ⟨a,b⟩:=iw.1 c; exact iw.2 ⟨a,h.d _ _ _ b⟩
 rw [av f] at c ⊢
 by_cases g:cg=4
 · rw [a8 g] at c ⊢; obtain ⟨a,b⟩:=iw.1 c; exact iw.2 ⟨a,h.d _ _ _ b⟩
 rw [av g] at c ⊢
 by_cases i:cg=5
 · rw [a8 i] at c ⊢; obtain ⟨a,b⟩:=iw.1 c; exact iw.2 ⟨a,h.p _ _ _ b⟩
 rw [av i] at c ⊢;exact c
def Sd (h:re eP lG)  {na e f:Nat} (c:kg eP aL cg iN i1 i' na e f=true):kg lG aL cg iN i1 i' na e f=true:=by
 unfold kg at c ⊢
 by_cases g:cg=1
 · rw [a8 g] at c ⊢; obtain ⟨a,b⟩:=iw.1 c; exact iw.2 ⟨a,GZ.2 ((GZ.1 b).imp id (h.d _ _ _))⟩
 rw [av g] at c ⊢
 by_cases i:cg=2
 · rw [a8 i] at c ⊢; obtain ⟨a,b⟩:=iw.1 c; exact iw.2 ⟨a,h.d _ _ _ b⟩
 rw [av i] at c ⊢
 by_cases j:cg=3
 · rw [a8 j] at c ⊢; obtain ⟨a,b⟩:=iw.1 c; exact iw.2 ⟨a,h.p _ _ _ b⟩
 rw [av j] at c ⊢;exact c
mutual
def Se (h:re eP lG) (aH:Int):∀(x:gH) (d:Nat),pg eP aH x d=true->pg lG aH x d=true
 | .mk op n m pl args,d,a=>by
   rw [pg] at a ⊢;simp only [ew] at a ⊢;exact ⟨a.1,Sc h a.2.1,EQ h aH args (d+1) a.2.2⟩
def EQ (h:re eP lG) (aH:Int):∀(l:List gH) (d:Nat),jx eP aH l d=true->jx lG aH l d=true
 | [],d,_=>by rw [jx]
 | x::r,d,a=>by
   rw [jx] at a ⊢;simp only [ew] at a ⊢;exact ⟨Se h aH x d a.1,EQ h aH r d a.2⟩
end
mutual
def Sf (h:re eP lG) (aH:Int):∀(x:fp) (d:Nat),ph eP aH x d=true->ph lG aH x d=true
 | .mk op n m pl args body other,d,b=>by
   rw [ph] at b ⊢;simp only [ew,CI] at b ⊢;exact ⟨Sd h b.1,EQ h aH args 1 b.2.1,b.2.2.1.imp id λa=>⟨a.1,a.2.1,Bt h aH body (d+1) a.2.2⟩,b.2.2.2.imp id λa=>⟨a.1,a.2.1,Bt h aH other (d+1) a.2.2⟩⟩
def Bt (h:re eP lG) (aH:Int):∀(l:List fp) (d:Nat),jy eP aH l d=true->jy lG aH l d=true
 | [],d,_=>by rw [jy]
 | x::r,d,a=>by
   rw [jy] at a ⊢;simp only [ew] at a ⊢;exact ⟨Sf h aH x d a.1,Bt h aH r d a.2⟩
end
def JY (h:re eP lG)  {l:List fp}  (a:k' eP aL l ae=true):k' lG aL l ae=true:=by
 unfold k' at a ⊢;simp only [ew] at a ⊢;exact ⟨a.1,a.2.1,Bt h aL l ae a.2.2⟩
def Sg (h:re eP lG) {p:ou} (a:p' eP p=true):p' lG p=true:=by
 unfold p' at a ⊢;simp only [ew] at a ⊢;exact ⟨a.1,JY h a.2⟩
variable {bk:e2}
def JZ (h:re (je bk::eP) (je bk::lG)) (a:ox bk eP=true):ox bk lG=true:=by
 unfold ox at a ⊢;simp only [ew,hS] at a ⊢;exact ⟨a.1,a.2.1,λp b=>Sg h (a.2.2.1 p b),JY h a.2.2.2⟩
def Bu (k:aV):Prop:=k.c_=true->k.data<=512/\k.parts.length<=6/\∀x ∈ k.parts,x<=3
def J0 {b:aV}  (h:∀k ∈ eP,Bu k):re (b::eP) (b::List.replicate eP.length dg):=by
 have q:(b::List.replicate eP.length dg).length=(b::eP).length:=au
 constructor
 · intro m pl n a
   have hC:cX (b::eP) m pl=false:=by
     cases f:cX (b::eP) m pl with
     | false=>rfl
     | true=>rw [Qm n f] at a; cases a
   have d:cX (b::List.replicate eP.length dg) m pl=false:=by unfold cX at hC ⊢; rw [q]; exact hC
   obtain ⟨⟨g,rfl,i⟩,_,_⟩:=Qn hC;obtain ⟨k,c⟩:=dw i;rw [yw hC c] at a
   cases g with
   | zero=>
     have e:b=k:=by simpa using c
     subst e;rw [yw d (k:=b) rfl]; exact a
   | succ j=>
     rw [mR] at c;have l:j<eP.length:=(cS.1 c).1;rw [yw d (k:=dg) (by rw [mR,G0,a8 l]),av bf];have o:=h k (gu c)
     split at a
     · rename_i hi
       have:=(o hi).1;have a:=jL a;rw [jo (show pl+n<=512 by omega)]; simp
     · exact a
 · intro m pl n a
   have hC:ow (b::eP) m pl=false:=by
     cases f:ow (b::eP) m pl with
     | false=>rfl
     | true=>rw [Qo n f] at a; cases a
   have d:ow (b::List.replicate eP.length dg) m pl=false:=by unfold ow at hC ⊢; rw [q]; exact hC
   obtain ⟨⟨g,rfl,i⟩,p,rfl⟩:=Qp hC;obtain ⟨k,c⟩:=dw i;rw [yx hC c] at a
   cases g with
   | zero=>
     have e:b=k:=by simpa using c
     subst e;rw [yx d (k:=b) rfl]; exact a
   | succ j=>
     rw [mR] at c;have l:j<eP.length:=(cS.1 c).1;rw [yx d (k:=dg) (by rw [mR,G0,a8 l]),av bf];have o:=h k (gu c)
     split at a
     · rename_i hi
       obtain ⟨_,t,r⟩:=o hi;simp only [ew,sP,kW,sL] at a
       have s:p<k.parts.length:=Z
       have r:=r _ (CS s);rw [dM s] at a;have e:=a.2;simp at e;simp only [ew,sP];omega
     · exact a
def ER (h:ox bk eP=true):Bu (je bk):=by
 intro _;obtain ⟨b,e,a,f⟩:=QA h;unfold im at a;simp only [mQ,ez] at a;refine ⟨by show bk.data<=512; omega,by show (bk.parts.map (·.params)).length<=6; rw [gD]; omega,λx c=>?_⟩;obtain ⟨p,d,rfl⟩:=oZ.1 c;exact (QB (b p d)).2.1
variable {eA:List e2}
def Jb (b:ix eA) (u:e2):∀k ∈ kH eA u,Bu k:=by
 intro k a;unfold kH at a;obtain ⟨s,_,rfl⟩:=oZ.1 a
 split
 · rename_i i hi
   cases c:eA[i]? with
   | none=>intro h; cases h
   | some d=>exact ER (b.tm d (gu c))
 · intro h; cases h
def Si (h:fQ eA=0)  (b:bk ∈ eA):uR bk=true:=by
 have a:=Jg.1 h;have c:=a.tm bk b
 have e:(kH eA bk).length=bk.aP.length:=by simp [kH]
 unfold uR;rw [<-e];exact JZ (J0 (Jb a bk)) c
end Go.Bw
end
section
namespace Go.Bw
open Go
def J1 (i:jS):Prop:=1<=i.op/\i.op<=22
def Sj (d:Nat) (e:Int->Int->Prop) (b:List Nat) (lo:Nat) (c:List jS) (f:jT):Prop:=
 ∃(p:Nat) (i:jS),f.at_=(p:Int)/\c[p]? = some i/\lo<=p/\
   ((f.kind=1/\f.m=0/\(p ∈ b\/((lo:Int)<=i.a/\i.a<=(c.length:Int))))\/((f.kind=2\/f.kind=3)/\p ∉ b/\0<=f.m/\f.m<=(d:Int)/\0<=i.a/\i.a<=2048/\(f.kind=2->e f.m i.a)))
structure Ap (U:Nat) (Pk:Int->Int->Prop) (pd:List Nat) (g g':Gs):Prop where
 J3:∀p ∈ pd,g.code.length<=p/\p<g'.code.length
 more:∃c fx,g'.code=g.code++c/\g'.fix=g.fix++fx/\(∀i ∈ c,J1 i)/\(∀f ∈ fx,Sj U Pk pd g.code.length g'.code f)/\fx.Pairwise λa b=>a.at_<b.at_
def Ap.refl (a:Nat) (b:Int->Int->Prop) (g:Gs):Ap a b [] g g:=⟨au,[],[],au,au,au,au,.nil⟩
variable {ae:Nat} {Bv:Int->Int->Prop}
def Ap.lo {b:List Nat} {g a:Gs} (h:Ap ae Bv b g a):g.code.length<=a.code.length:=by
 obtain ⟨c,fx,d,_⟩:=h.more;rw [d]; simp
def Ap.trans {pa s:List Nat} {g r t:Gs} (h:Ap ae Bv pa g r) (k:Ap ae Bv s r t):Ap ae Bv (pa++s) g t:=by
 have L:=h.lo;have M:=k.lo;have u:=h.J3;have v:=k.J3;obtain ⟨c,fx,A,B,C,w,D⟩:=h.more;obtain ⟨E,F,y,G,H,z,I⟩:=k.more;refine ⟨λp l=>?_,c++E,fx++F,by rw [y,A,n5],by rw [G,B,n5],?_,?_,?_⟩
 · rcases fB.1 l with l | l
   · have:=u p l; omega
   · have:=v p l; omega
 · intro i hi
   rcases fB.1 hi with hi | hi
   · exact C i hi
   · exact H i hi
 · intro f o
   rcases fB.1 o with o | o
   · obtain ⟨p,i,a1,a2,a3,a4⟩:=w f o
     have l:p<r.code.length:=(cS.1 a2).1;refine ⟨p,i,a1,by rw [y,xY l]; exact a2,a3,?_⟩
     rcases a4 with ⟨e,m,n⟩ | ⟨e,m,n⟩
     · exact .inl ⟨e,m,n.imp (λx=>CR _ x) λx=>⟨x.1,Z⟩⟩
     · refine .inr ⟨e,λd=>?_,n⟩
       rcases fB.1 d with d | d
       · exact m d
       · have:=(v p d).1; omega
   · obtain ⟨p,i,a1,a2,a3,a4⟩:=z f o
     refine ⟨p,i,a1,a2,Z,?_⟩
     rcases a4 with ⟨e,m,n⟩ | ⟨e,m,n⟩
     · exact .inl ⟨e,m,n.imp (λx=>eh _ x) λx=>⟨Z,x.2⟩⟩
     · refine .inr ⟨e,λd=>?_,n⟩
       rcases fB.1 d with d | d
       · have:=(u p d).2; omega
       · exact m d
 · refine G1.2 ⟨D,I,λa J b K=>?_⟩
   obtain ⟨p,i,a1,a2,a3,_⟩:=w a J;obtain ⟨q,j,e,m,n,_⟩:=z b K;have l:p<r.code.length:=(cS.1 a2).1;rw [a1,e]; omega
end Go.Bw
end
section
namespace Go.Bw
open Go
structure YM (U:Nat) (Pk:Int->Int->Prop) (ks:List aV):Prop where
 len:ks.length=U+1
 small:∀k ∈ ks,k.c_=true->k.parts.length<=2048
 call:∀m a n,nD ks m a n=true->Pk m a
structure Sk (g g':Gs) (S:List Nat):Prop where
 at_:∀s ∈ S,g.code.length<=s/\s<g'.code.length
 stay:∃fx,g'.fix=g.fix++fx/\∀f ∈ fx,∀(p:Nat) i,f.kind=1->f.at_=(p:Int)->g'.code[p]? = some i->g.code.length<=p/\(g.code.length:Int)<=i.a/\∀s ∈ S,(p<s->i.a<(s:Int))/\(s<=p->(s:Int)<=i.a)
structure YN (Pk:Int->Int->Prop) (u:e2) (o:uQ):Prop where
 ap:Ap u.aP.length Pk [] ⟨[],[]⟩ o.g
 YO:Sk ⟨[],[]⟩ o.g (o.my++[o.main])
 fy:o.my.length=u.parts.length
end Go.Bw
end
section
namespace Go.Bw
open Go
structure gj where
 nm:List UInt8
 aP:List (List UInt8)
 data:Int
 code:List jS
 fix:List jT
 my:List Int
 main:Int
def Jh (o:gj) (q:A_):List Value:=[st o.nm,.slice q.s1.1 o.aP.length q.s1.2,.int .i64 o.data,.slice q.s2.1 o.code.length q.s2.2,.slice q.s3.1 o.fix.length q.s3.2,.slice q.s4.1 o.my.length q.s4.2,.int .i64 o.main]
structure YP (H:View) (q:A_) (o:gj):Prop where
 aP:Sl rdStr 1 H q.s1.1 q.s1.2 o.aP
 code:Sl Jj 3 H q.s2.1 q.s2.2 o.code
 fix:Sl Jk 3 H q.s3.1 q.s3.2 o.fix
 my:Sl mw 1 H q.s4.1 q.s4.2 o.my
def uQ.to (o:uQ):gj:=⟨o.nm,o.aP,o.data,o.g.code,o.g.fix,o.my.map λn:Nat=>(n:Int),o.main⟩
def sf (n:Nat) (at_:Int):Bool:=decide (0<=at_)&&decide (at_<(n:Int))
def J4 (a:List (List UInt8)):List (List UInt8)->Bool->Bool
 | [],f=>f
 | s::r,f=>J4 (a++[s]) r ((f&&gc s)&&(((a.count s:Nat):Int)+1==1))
def J5:List jS->Bool->Bool
 | [],f=>f
 | x::r,f=>J5 r ((f&&decide (1<=x.op))&&decide (x.op<=22))
def J6 (n:Nat):List Int->Bool->Bool
 | [],f=>f
 | x::r,f=>J6 n r (f&&sf n x)
def w_ (c:List jS) (p:Int):Int:=((c[p.toNat]?).map (·.a)).getD 0
def yW (b n:Nat) (kind m a:Int):Bool:=
 if kind=1 then ((decide (0<=a)&&decide (a<=2048))&&(m==0))&&decide (a<=(n:Int))
 else if kind=2\/kind=3 then ((decide (0<=a)&&decide (a<=2048))&&decide (0<=m))&&decide (m<=(b:Int)) else false
def J7 (a:Nat) (c:List jS):List jT->Int->Bool->Bool
 | [],_,f=>f
 | x::r,last,f=>if ((f&&decide (last<x.at_))&&sf c.length x.at_)=false then false else J7 a c r x.at_ (yW a c.length x.kind x.m (w_ c x.at_))
def Jm (o:gj):Bool:=(gc o.nm&&decide (0<=o.data))&&decide (o.data<=512)
def Sn (o:gj):Bool:=J7 o.aP.length o.code o.fix (-1) (J6 o.code.length o.my (J5 o.code (J4 [o.nm] o.aP (Jm o))))
def So (o:gj):Bool:=((decide (3<(o.aP.length:Int))||decide (6<(o.my.length:Int)))||decide ((o.code.length:Int)<1))||decide (2048<(o.code.length:Int))
def J8 (o:gj):Int:=if So o=true then 2 else if (!(Sn o)||!(sf o.code.length o.main))=true then 1 else 0
end Go.Bw
end
section
namespace Go.Bw
open Go
structure YQ (o:gj):Prop where
 names:∀s ∈ o.nm::o.aP,gc s=true
 nd:(o.nm::o.aP).Nodup
 data:0<=o.data/\o.data<=512
 main:sf o.code.length o.main=true
 code:∀i ∈ o.code,J1 i
 my:∀e ∈ o.my,sf o.code.length e=true
 fix:∀f ∈ o.fix,sf o.code.length f.at_=true/\yW o.aP.length o.code.length f.kind f.m (w_ o.code f.at_)=true
 up:o.fix.Pairwise λa b=>a.at_<b.at_
end Go.Bw
end
section
namespace Go.Bw
open Go
def eW (n:Int):UInt8:=UInt8.ofNat (n % 256).toNat
def iP (n:Int):List UInt8:=[eW (n.fdiv (2 ^ 56)),eW (n.fdiv (2 ^ 48)),eW (n.fdiv (2 ^ 40)),eW (n.fdiv (2 ^ 32)),eW (n.fdiv (2 ^ 24)),eW (n.fdiv (2 ^ 16)),eW (n.fdiv (2 ^ 8)),eW n]
def gN (s:List UInt8):List UInt8:=eW s.length::s
def J9 (n:Int):(iP n).length=8:=rfl
def J' (n:Int):Prop:=-9223372036854775808<=n/\n<=9223372036854775807
def ET (i:jS):List UInt8:=eW i.op::(iP i.a++iP i.b)
def EU (f:jT):List UInt8:=iP f.at_++eW f.kind::iP f.m
structure YR (o:gj):Prop where
 code:∀i ∈ o.code,J' i.a/\J' i.b
end Go.Bw
end
section
namespace Go.Bw
open Go
structure Ns {α:Type} (gl:List UInt8->Option (α×List UInt8)) (no:List UInt8×Bool->α×(List UInt8×Bool)):Prop where
 some_:∀s r,gl s=some r->no (s,false)=(r.1,(r.2,false))
 none_:∀s,gl s=none->(no (s,false)).2.2=true
 bad:∀p,p.2=true->(no p).2.2=true
def Ns.pure {α:Type} (x:α):Ns (λs=>some (x,s)) (λp=>(x,p)):=⟨λs r h=>by injection h with h; subst h; rfl,λs h=>(by cases h),λp h=>h⟩
def Ns.bind {α g:Type} {c:List UInt8->Option (α×List UInt8)} {n1:List UInt8×Bool->α×(List UInt8×Bool)} {f:α->List UInt8->Option (g×List UInt8)} {n2:α->List UInt8×Bool->g×(List UInt8×Bool)}
   (d:Ns c n1) (e:∀a,Ns (f a) (n2 a)):Ns (λs=>(c s).bind λp=>f p.1 p.2) (λp=>n2 (n1 p).1 (n1 p).2):=by
 refine ⟨λs r h=>?_,λs h=>?_,λp h=>(e _).bad _ (d.bad p h)⟩
 · obtain ⟨a,b,i⟩:=cN.1 h
   show n2 (n1 (s,false)).1 (n1 (s,false)).2=_
   rw [d.some_ s a b];exact (e _).some_ _ _ i
 · show (n2 (n1 (s,false)).1 (n1 (s,false)).2).2.2=true
   cases b:c s with
   | none=>exact (e _).bad _ (d.none_ s b)
   | some a=>
     have h:(c s).bind (λp=>f p.1 p.2)=none:=h;rw [b] at h;rw [d.some_ s a b];exact (e _).none_ _ h
end Go.Bw
end
section
namespace Go.Bw
open Go
variable {a9:Type} {ae:Nat}
def Ka {f:a9->List UInt8} :∀(l:List a9) (h:∀x ∈ l,(f x).length<=ae),(l.flatMap f).length<=ae*l.length
 | [],_=>by simp
 | x::r,h=>by
   have b:=h x au;have c:=Ka r λy a=>h y (by simp [a]);simp only [i7,bT,b5];rw [CZ];omega
def EV {f:a9->List UInt8} {k:Nat} {l:List a9} (h:∀x ∈ l,(f x).length<=k) (i:Nat):((l.take i).flatMap f).length<=k*l.length:=by
 have a:=Ka (l.take i) λx b=>h x (zS b)
 have c:(l.take i).length<=l.length:=by simp; omega
 exact rH a (G2 _ c)
def Jp (i:jS):(ET i).length=17:=rfl
def Sq (f:jT):(EU f).length=17:=rfl
def e4 (s:List UInt8):(gN s).length=s.length+1:=rfl
structure xb (o:gj):Prop where
 nm:o.nm.length<=8
 un:∀s ∈ o.aP,s.length<=8
 aP:o.aP.length<=3
 code:o.code.length<=2048
 my:o.my.length<=6
 fix:o.fix.length<=2048
variable {nM:gj}
def xb.us (h:xb nM) (i:Nat):((nM.aP.take i).flatMap gN).length<=27:=by
 have b:=EV (f:=gN) (k:=9) (l:=nM.aP) (λx a=>by have:=h.un x a; rw [e4]; omega) i;have:=h.aP;omega
def xb.co (h:xb nM) (i:Nat):((nM.code.take i).flatMap ET).length<=34816:=by
 have a:=EV (f:=ET) (k:=17) (l:=nM.code) (λx b=>Nat.le_of_eq (Jp x)) i;have:=h.code;omega
def xb.fx (h:xb nM) (i:Nat):((nM.fix.take i).flatMap EU).length<=34816:=by
 have a:=EV (f:=EU) (k:=17) (l:=nM.fix) (λx b=>Nat.le_of_eq (Sq x)) i;have:=h.fix;omega
def Sr (n:Nat) (x:Int):dd x 0 ((n:Int)-1)=sf n x:=by
 unfold dd sf;rw [j9];simp;omega
def Kb (o:gj) (i:Nat) (x:jT):Bool:=
 ((((!(dd x.at_ 0 ((o.code.length:Int)-1))||(decide ((0:Int)<(i:Int))&&decide (x.at_<=((o.fix[i-1]?).map (·.at_)).getD 0)))||!(dd x.kind 1 3))||!(dd x.m 0 (o.aP.length:Int)))||!(dd (w_ o.code x.at_) 0 2048))||(x.kind==1&&(!(x.m==0)||decide ((o.code.length:Int)<w_ o.code x.at_)))
def Ss (c n:Nat) (k m a:Int):(!(!(dd k 1 3))&&(!(!(dd m 0 (c:Int)))&&(!(!(dd a 0 2048))&&!(k==1&&(!(m==0)||decide ((n:Int)<a))))))=yW c n k m a:=by
 unfold yW dd
 by_cases b:k=1
 · subst b
   rw [a8 rfl,j9]
   by_cases d:m=0
   · subst d
     simp
   · simp [d]
 · rw [av b]
   by_cases f:k=2\/k=3
   · rw [a8 f,j9]
     have e:(k==1)=false:=by simpa using b
     rw [e];simp;omega
   · rw [av f,j9]
     simp;omega
variable {u4:jT}
def Jq {l:List jT}   (f:l[ae]? = some u4) (g:(l.take ae).Pairwise λa b=>a.at_<b.at_) (c:0<ae->((l[ae-1]?).map (·.at_)).getD 0<u4.at_):(l.take (ae+1)).Pairwise λa b=>a.at_<b.at_:=by
 rw [kV,f]
 show (l.take ae++[u4]).Pairwise _
 rw [G1];refine ⟨g,by simp,λy i k h=>?_⟩;rw [fH] at h;subst h;obtain ⟨j,e⟩:=ln i
 have m:j<ae:=by
   have:=(cS.1 e).1;simp at this;omega
 have n:l[j]? = some y:=by rw [List.getElem?_take_of_lt m] at e; exact e
 have v:ae<l.length:=(cS.1 f).1;have c:=c (by omega);obtain ⟨u,d⟩:∃u,l[ae-1]? = some u:=⟨_,dM (by omega)⟩;rw [d] at c;have c:u.at_<k.at_:=c
 by_cases o:j=ae-1
 · subst o
   rw [n] at d
   injection d with d
   subst d;exact c
 · have p:(l.take ae)[ae-1]? = some u:=by rw [i6,a8 (by omega)]; exact d
   obtain ⟨q,r⟩:=cS.1 e;obtain ⟨s,t⟩:=cS.1 p;have:=CN.1 g j (ae-1) q s (by omega);rw [r,t] at this;omega
def yX (o:gj) (i:Nat):Prop:=(∀f ∈ o.fix.take i,sf o.code.length f.at_=true/\yW o.aP.length o.code.length f.kind f.m (w_ o.code f.at_)=true)/\(o.fix.take i).Pairwise λa b=>a.at_<b.at_
def yX.zero (o:gj):yX o 0:=⟨au,au⟩
def yX.next {i:Nat}  (h:yX nM i) (d:nM.fix[i]? = some u4) (c:Kb nM i u4=false):yX nM (i+1):=by
 unfold Kb at c;simp only [mQ] at c;obtain ⟨⟨⟨⟨⟨e,b⟩,g⟩,j⟩,k⟩,l⟩:=c;refine ⟨λf a=>?_,Jq d h.2 λm=>?_⟩
 · rw [kV,d] at a
   rcases fB.1 a with a | a
   · exact h.1 f a
   · have a:f ∈ [u4]:=a
     rw [fH] at a;subst a;refine ⟨(Sr _ _).symm.trans (by simpa using e),?_⟩;rw [<-Ss,g,j,k,l]
     rfl
 · rw [jo (show (0:Int)<(i:Int) by omega)] at b
   have b:decide (u4.at_<=((nM.fix[i-1]?).map (·.at_)).getD 0)=false:=b;have:=of_decide_eq_false b;omega
end Go.Bw
end
section
namespace Go.Bw
open Go
def u5 (l:List gj):List (List UInt8):=l.map (·.nm)
structure Pl where
 code:Int
 data:Int
 Ei:List Nat
def Su (l:List gj):Nat:=(l.map (·.code.length)).sum
def Sv (l:List gj):Int:=(l.map (·.data)).sum
def Kc (l:List gj) (k:Nat):Int:=((l.length+1+Su (l.take k):Nat):Int)
def Kd (l:List gj) (k:Nat):Int:=Sv (l.take k)
def Ke (ns:List (List UInt8)) (o:gj):Bool:=o.aP.all λs=>(idxOf s ns 0).isSome
def Kf (ns:List (List UInt8)) (s:List UInt8):Nat:=(idxOf s ns 0).getD 0
def EW (l:List gj) (n:Nat) (o:gj):List Nat:=n::o.aP.map (Kf ((u5 l).take n))
def Sw (l:List gj) (n:Nat) (o:gj):Pl:=⟨Kc l n,Kd l n,EW l n o⟩
def Sx (l:List gj):List Pl:=l.mapIdx λn o=>Sw l n o
def Sy (l:List gj):Pl:=⟨Kc l l.length,Kd l l.length,[]⟩
def Sz (l:List gj) (k:Nat):Nat:=((l[k]?).map (·.my.length)).getD 0
def EX (l:List gj) (n:Nat) (o:gj) (m:Int):Nat:=((EW l n o)[m.toNat]?).getD 0
def Kg (l:List gj) (n:Nat) (o:gj) (f:jT):Bool:=f.kind==2&&decide ((Sz l (EX l n o f.m):Int)<=w_ o.code f.at_)
def Kh (p:Nat->gj->Bool) (l:List gj):Bool:=(l.mapIdx p).any id
def SA (l:List gj):Int:=if l.length<1\/4<l.length then 2 else er (fb J8 l) (if e1 (u5 l)=true then 6 else if Kh (λn o=>!(Ke ((u5 l).take n) o)) l=true then 9 else if Kh (λn o=>o.fix.any (Kg l n o)) l=true then 5 else 0)
structure YS (l:List gj):Prop where
 fy:¬(l.length<1\/4<l.length)
 SB:∀o ∈ l,J8 o=0
 nd:(u5 l).Nodup
 known:∀n o,l[n]? = some o->Ke ((u5 l).take n) o=true
 iO:∀n o,l[n]? = some o->∀f ∈ o.fix,Kg l n o f=false
variable {aS:List UInt8}
def EY:∀(m:List (fu (List UInt8))) (i:Nat),(d' aS m i).isSome=true↔aS ∈ m.map (·.1)
 | [],i=>by simp [d']
 | e::r,i=>by
   rw [d',jn,et]
   by_cases h:aS=e.1
   · simp [h]
   · rw [av (by simpa using h),EY r (i+1)]
     simp [h]
variable {lH:List (fu (List UInt8))} {ae:Nat}
def Ki {v:Value}  :(aS ∈ lH.map (·.1)->(gw aS v lH ae).length=lH.length)/\(aS ∉ lH.map (·.1)->(gw aS v lH ae).map (·.1)=lH.map (·.1)++[aS]):=by
 constructor
 · intro h
   have a:=(EY lH 0).2 h;unfold gw
   cases b:d' aS lH 0 with
   | none=>rw [b] at a; cases a
   | some r=>simp
 · intro h
   have a:d' aS lH 0=none:=by
     cases b:d' aS lH 0 with
     | none=>rfl
     | some r=>exact absurd ((EY lH 0).1 (by rw [b]; rfl)) h
   unfold gw;rw [a];simp
def u6 (ns:List (List UInt8)) (i:Nat) (M:List (fu (List UInt8))):Prop:=
 (∀s,hY s M (.int .i64 0) = .int .i64 (((ns.take i).count s:Nat):Int))/\(((ns.take i).Nodup/\M.map (·.1)=ns.take i)\/(¬(ns.take i).Nodup/\M.length<i))
def u6.zero (ns:List (List UInt8)):u6 ns 0 []:=⟨λs=>by simp [hY,d'],.inl ⟨au,au⟩⟩
variable {dE:List (List UInt8)}
def u6.step (h:u6 dE ae lH) (m:dE[ae]? = some aS) (c:Nat):u6 dE (ae+1) (gw aS (.int .i64 (((dE.take ae).count aS:Nat)+1)) lH c):=by
 have r:=(cS.1 m).1
 have o:(dE.take ae).length=ae:=by simp; omega
 have d:dE.take (ae+1)=dE.take ae++[aS]:=by rw [kV,m]; rfl
 refine ⟨λs=>?_,?_⟩
 · by_cases e:s=aS
   · subst e
     rw [A4,d,G3];simp
   · rw [A5 _ lH c _ e,h.1 s,d,G3]
     have p:¬aS=s:=λk=>e k.symm;simp [List.count_cons,p]
 · rcases h.2 with ⟨l,g⟩ | ⟨l,g⟩
   · by_cases j:aS ∈ dE.take ae
     · right
       refine ⟨λi=>?_,?_⟩
       · rw [d,mb] at i
         exact i.2.2 aS j aS au O
       · rw [Ki.1 (by rw [g]; exact j),<-gD (f:=(·.1)),g,o]
         omega
     · left
       refine ⟨?_,?_⟩
       · rw [d,mb]
         exact ⟨l,au,λa q b n e=>by rw [fH] at n; subst n; subst e; exact j q⟩
       · rw [Ki.2 (by rw [g]; exact j),g,d]
   · right
     refine ⟨λi=>l ?_,?_⟩
     · rw [d,mb] at i; exact i.1
     · have:=Ja aS (.int .i64 (((dE.take ae).count aS:Nat)+1)) lH c
       omega
def u6.fy (h:u6 dE dE.length lH):lH.length<dE.length↔e1 dE=true:=by
 have a:=h.2;rw [gv] at a
 rcases a with ⟨b,a⟩ | ⟨b,a⟩
 · rw [ly] at b
   have:lH.length=dE.length:=by rw [<-gD (f:=(·.1)),a]
   rw [b]
   constructor
   · intro; omega
   · intro e; cases e
 · rw [ly] at b
   exact ⟨λ_=>by simpa using b,λ_=>a⟩
end Go.Bw
end
section
namespace Go.Bw
open Go
abbrev Tx:=List UInt8
def sh:List UInt8:=[109,111,100,117,108,101]
def si:List UInt8:=[117,115,101]
def xd:List UInt8:=[112,117,98]
def kM:List UInt8:=[99,111,110,115,116]
def kN:List UInt8:=[118,97,114]
def kO:List UInt8:=[97,114,114,97,121]
def tC:List UInt8:=[112,114,111,99]
def rf:List UInt8:=[108,111,99,97,108]
def m_:List UInt8:=[109,97,105,110]
def gz:List UInt8:=[105,102]
def gO:List UInt8:=[101,108,115,101]
def gP:List UInt8:=[119,104,105,108,101]
def gA:List UInt8:=[114,101,116,117,114,110]
def gB:List UInt8:=[111,117,116]
def gh:List UInt8:=[105,110]
def J (l:List Tx):Tx:=Lib.join l [32]
def hl (x:Tx):J [x]=x:=by simp [J,Lib.join,List.intercalate]
variable {bZ:Tx}
def u7 {l:List Tx} (h:l≠[]):J (bZ::l)=bZ++[32]++J l:=by
 cases l with
 | nil=>exact absurd rfl h
 | cons y r=>exact Ic bZ y r [32]
def gk:∀{a b:List Tx},a≠[]->b≠[]->J (a++b)=J a++[32]++J b
 | [],_,h,_=>absurd rfl h
 | [x],b,_,c=>by rw [xu,u7 c,hl]
 | x::y::r,b,_,c=>by
   rw [bt,u7 au,gk (a:=y::r) au c,u7 (l:=y::r) au];simp
def kP (mod nm:Tx):List Tx:=if (mod==[])=true then [nm] else [mod,[46],nm]
def opsL:List Tx:=[[38],[124],[43],[45],[42],[47],[37],[61],[60]]
def rh (op:Int):Tx:=(opsL[(op-7).toNat]?).getD []
def jh:List (List Tx)->List Tx
 | []=>[]
 | [x]=>x
 | x::y::r=>x++[[44]]++jh (y::r)
def bO (l:List (List Tx)):List Tx:=[[40]]++jh l++[[41]]
def at_ (l:List (List Tx)) (i:Nat):List Tx:=(l[i]?).getD []
def lI (op n:Int) (mod nm:Tx) (a:List (List Tx)):List Tx:=
 if op=1 then [Lib.itoa n] else if op=2 then [gh] else if op=3 then kP mod nm else if op=4 then kP mod nm++[[91]]++at_ a 0++[[93]] else if op=5 then kP mod nm++bO a
 else if op=6 then [[33]]++at_ a 0 else [[40]]++at_ a 0++[rh op]++at_ a 1++[[41]]
mutual
def h9:ak->List Tx
 | .mk op n mod nm args=>lI op n mod nm (fz args)
def fz:List ak->List (List Tx)
 | []=>[]
 | x::r=>h9 x::fz r
end
def oJ (l:List Tx):List Tx:=[[123]]++l++[[125]]
def l6 (op:Int) (mod nm:Tx) (a:List (List Tx)) (b:List Tx) (c:Nat) (o:List Tx):List Tx:=
 if op=4\/op=5 then [if op=5 then gP else gz]++at_ a 0++oJ b++(if 0<c then [gO]++oJ o else [])
 else (if op=6 then [gA]++at_ a 0 else if op=7 then [gB]++at_ a 0 else if op=3 then kP mod nm++bO a else if op=1 then kP mod nm++[[61]]++at_ a 0 else if op=2 then kP mod nm++[[91]]++at_ a 0++[[93],[61]]++at_ a 1 else [])++[[59]]
mutual
def cb:bE->List Tx
 | .mk op mod nm args body other=>l6 op mod nm (fz args) (iG body) other.length (iG other)
def iG:List bE->List Tx
 | []=>[]
 | x::r=>cb x++iG r
end
def ld (l:List bE):List Tx:=oJ (iG l)
def ri (b:Bool):List Tx:=if b=true then [xd] else []
def gi (u:Tx):List Tx:=[si,u,[59]]
def pr (u:Tx):List Tx:=[rf,u,[59]]
def sj (d:de):List Tx:=if d.kind=1 then [kM,d.nm,[61],Lib.itoa d.n] else if d.kind=2 then [kN,d.nm] else if d.kind=3 then [kO,d.nm,[91],Lib.itoa d.n,[93]] else []
def sk (d:de):List Tx:=ri d.ao++sj d++[[59]]
def c6 (p:eI):List Tx:=ri p.ao++[tC,p.nm,[40]]++jh (p.params.map λs=>[s])++[[41]]++p.aH.flatMap pr++ld p.body
def oK (m:cm):List Tx:=[sh,m.nm,[123]]++m.aP.flatMap gi++m.decls.flatMap sk++m.procs.flatMap c6++[m_]++ld m.main++[[125]]
def kQ (mod nm:Tx):Tx:=if (mod==[])=true then nm else mod++[32,46,32]++nm
def fR:List Tx->Tx
 | []=>[]
 | [x]=>[32]++x
 | x::y::r=>[32]++x++[32,44]++fR (y::r)
def nb (l:List Tx) (i:Nat):Tx:=(l[i]?).getD []
def qi (op n:Int) (mod nm:Tx) (a:List Tx):Tx:=
 if op=1 then Lib.itoa n else if op=2 then gh else if op=3 then kQ mod nm else if op=4 then kQ mod nm++[32,91,32]++nb a 0++[32,93] else if op=5 then kQ mod nm++[32,40]++fR a++[32,41]
 else if op=6 then [33,32]++nb a 0 else [40,32]++nb a 0++[32]++rh op++[32]++nb a 1++[32,41]
mutual
def hn:ak->Tx
 | .mk op n mod nm args=>qi op n mod nm (kR args)
def kR:List ak->List Tx
 | []=>[]
 | x::r=>hn x::kR r
end
def u9 (l:Tx):Tx:=[123,32]++l++[125]
def pt (op:Int) (mod nm:Tx) (a:List Tx) (b:Tx) (c:Nat) (o:Tx):Tx:=
 if op=1 then kQ mod nm++[32,61,32]++nb a 0++[32,59] else if op=2 then kQ mod nm++[32,91,32]++nb a 0++[32,93,32,61,32]++nb a 1++[32,59] else if op=3 then kQ mod nm++[32,40]++fR a++[32,41,32,59]
 else if op=4 then (gz++[32]++nb a 0++[32]++u9 b)++(if 0<c then [32]++gO++[32]++u9 o else []) else if op=5 then gP++[32]++nb a 0++[32]++u9 b
 else if op=6 then gA++[32]++nb a 0++[32,59] else gB++[32]++nb a 0++[32,59]
mutual
def bz:bE->Tx
 | .mk op mod nm args body other=>pt op mod nm (kR args) (h3 body) other.length (h3 other)
def h3:List bE->Tx
 | []=>[]
 | x::r=>bz x++[32]++h3 r
end
def jX (l:List bE):Tx:=u9 (h3 l)
def bg {a b:bi} (h:(a+b).b6=0):a.b6=0/\b.b6=0:=by
 rw [bi.eO] at h; omega
variable {dh:Bool}
def rj (h:(fe dh).b6=0):dh=false:=by cases dh; rfl; cases h
def xe (h:(dz dh).b6=0):dh=false:=by cases dh; rfl; cases h
def Kj (h:(a7 dh).b6=0):dh=false:=by cases dh; rfl; cases h
structure e9 (op n:Int) (mod nm:Tx) (args:List ak) (d:Nat):Prop where
 deep:d<=6
 kind:1<=op/\op<=15
 name:bR (dd op 3 5) mod nm=false
 gG:lw (fw op) args.length=false
 fy:args.length<=3
 num:jt op n=false
 sub:(ek args (d+1)).b6=0
variable {aL cg:Int} {dH:Tx} {ax:List ak} {ae:Nat}
def yY (h:(hB (.mk aL cg bZ dH ax) ae).b6=0):e9 aL cg bZ dH ax ae:=by
 unfold hB at h
 split at h
 · cases h
 · rename_i m
   obtain ⟨h,c⟩:=bg h;obtain ⟨h,d⟩:=bg h;obtain ⟨e,a⟩:=bg h;have b:=Kj e;obtain ⟨f,g⟩:=Ih b;unfold fV at a;obtain ⟨a,i⟩:=bg a;obtain ⟨j,k⟩:=bg a;rw [DG] at b;have l:=xe i;exact ⟨Z,by simp [dd] at b; omega,by rw [<-f]; exact rj j,by rw [<-g]; exact rj k,by simp at l; omega,rj d,c⟩
def EZ {x:ak}   (h:(ek (x::ax) ae).b6=0):(hB x ae).b6=0/\(ek ax ae).b6=0:=by
 unfold ek at h; exact bg h
def e9.ta (h:e9 aL cg bZ dH ax ae) (a:aL=4\/aL=6):ax.length=1:=by
 have:=h.gG
 rcases a with rfl | rfl<;>simp [lw,fw] at this<;>omega
def e9.Kk (h:e9 aL cg bZ dH ax ae) (a:7<=aL):ax.length=2:=by
 have:=h.gG;unfold lw fw at this;rw [av Z,av Z,av Z] at this;simp at this; omega
def u':∀l:List ak,(fz l).length=l.length
 | []=>rfl
 | x::r=>by unfold fz; simp [u' r]
def E1 (mod nm:Tx):kP mod nm≠[]:=by unfold kP; split<;>simp
def Kl:∀x:ak,h9 x≠[]
 | .mk op n mod nm args=>by
   unfold h9 lI bO;have:=E1 mod nm
   repeat' split
   all_goals simp_all
def xf (mod nm:Tx):J (kP mod nm)=kQ mod nm:=by
 unfold kP kQ
 split
 · exact hl nm
 · rw [u7 au,u7 au,hl]; simp
def Km:∀{l:List (List Tx)},l≠[]->(∀x ∈ l,x≠[])->jh l≠[]
 | [],h,_=>absurd rfl h
 | [x],_,a=>by simpa [jh] using a
 | x::y::r,_,_=>by simp [jh]
def x':∀{l:List (List Tx)},l≠[]->(∀x ∈ l,x≠[])->fR (l.map J)=[32]++J (jh l)
 | [],h,_=>absurd rfl h
 | [x],_,_=>rfl
 | x::y::r,_,a=>by
   have d:=x' (l:=y::r) au (λb c=>a b (cz _ c));have e:=Km (l:=y::r) au (λb c=>a b (cz _ c))
   show [32]++J x++[32,44]++fR ((y::r).map J)=[32]++J (x++[[44]]++jh (y::r))
   rw [d,gk au e,gk (a x au) au,hl];simp
def E2 {l:List (List Tx)} (h:∀x ∈ l,x≠[]):J (bO l)=[40]++fR (l.map J)++[32,41]:=by
 unfold bO
 by_cases a:l=[]
 · subst a; rfl
 · have b:=Km a h
   rw [gk au au,gk au b,hl,hl,x' a h];simp
def Bx:∀(l:List ak),∀x ∈ fz l,x≠[]
 | [],_,h=>by simp [fz] at h
 | y::r,x,h=>by
   unfold fz at h
   rcases et.1 h with rfl | h
   · exact Kl y
   · exact Bx r x h
def pv (l:List (List Tx)) (i:Nat) (h:i<l.length):nb (l.map J) i=J (at_ l i):=by
 unfold nb at_;rw [gS,dM h]; rfl
def qj {l:List ak} {i:Nat} (h:i<l.length):at_ (fz l) i≠[]:=by
 unfold at_;rw [dM (by rw [u']; exact h)];exact Bx l _ (CS _)
def SC (b:aL=4\/aL=6->ax.length=1) (e:7<=aL->ax.length=2) (j:1<=aL) :
   qi aL cg bZ dH ((fz ax).map J)=J (lI aL cg bZ dH (fz ax)):=by
 unfold qi lI;have c:=E1 bZ dH
 split
 · rw [hl]
 · split
   · rw [hl]
   · split
     · rw [xf]
     · split
       · rename_i f
         have d:=b (.inl f);have a:=qj (l:=ax) (i:=0) Z;rw [gk au au,gk au a,gk c au,hl,hl,xf,pv _ _ (by rw [u']; omega)];simp
       · split
         · rw [gk c (by simp [bO]),xf,E2 (Bx ax)]
           simp
         · split
           · rename_i g
             have d:=b (.inr g);have a:=qj (l:=ax) (i:=0) Z;rw [gk au a,hl,pv _ _ (by rw [u']; omega)];simp
           · have d:=e Z
             have a:=qj (l:=ax) (i:=0) Z;have h:=qj (l:=ax) (i:=1) Z;rw [gk au au,gk au h,gk au au,gk au a,hl,hl,hl,pv _ _ (by rw [u']; omega),pv _ _ (by rw [u']; omega)];simp
mutual
def SD:∀(x:ak) (d:Nat),(hB x d).b6=0->hn x=J (h9 x)
 | .mk op n mod nm args,d,h=>by
   have a:=yY h;unfold hn h9;rw [E3 args (d+1) a.sub];exact SC a.ta a.Kk a.kind.1
def E3:∀(l:List ak) (d:Nat),(ek l d).b6=0->kR l=(fz l).map J
 | [],_,_=>rfl
 | x::r,d,h=>by
   obtain ⟨a,b⟩:=EZ h;unfold kR fz;rw [SD x d a,E3 r d b]; rfl
end
structure nN (op:Int) (mod nm:Tx) (args:List ak) (body other:List bE) (d:Nat):Prop where
 kind:1<=op/\op<=7
 name:bR (dd op 1 3) mod nm=false
 gG:lw (bL op) args.length=false
 fy:args.length<=3
 exprs:(ek args 1).b6=0
 form:kA op body.length other.length=false
 body:(inner op||decide (0<body.length))=true->(iL (d+1) body.length (dF body (d+1))).b6=0
 other:0<other.length->(iL (d+1) other.length (dF other (d+1))).b6=0
variable {cD jH:List bE}
def yZ (h:(iz (.mk aL bZ dH ax cD jH) ae).b6=0):nN aL bZ dH ax cD jH ae:=by
 unfold iz at h;obtain ⟨h,d⟩:=bg h;obtain ⟨h,e⟩:=bg h;obtain ⟨h,f⟩:=bg h;obtain ⟨h,g⟩:=bg h;obtain ⟨i,a⟩:=bg h;have b:=Kj i;obtain ⟨j,k⟩:=Ii b;unfold fV at a;obtain ⟨a,l⟩:=bg a;obtain ⟨m,n⟩:=bg a;rw [DH] at b;have o:=xe l;refine ⟨by simp [dd] at b; omega,by rw [<-j]; exact rj m,by rw [<-k]; exact rj n,by simp at o; omega,g,rj f,λc=>?_,λc=>?_⟩
 · rw [a8 c] at e; exact e
 · rw [a8 c] at d; exact d
variable {g6:bi}
def u_ {d len:Nat}  (h:(iL d len g6).b6=0):d<=6/\len<=10/\g6.b6=0:=by
 unfold iL at h
 split at h
 · cases h
 · obtain ⟨a,b⟩:=bg h
   have:=xe a;simp at this;exact ⟨Z,Z,b⟩
def E4 {x:bE}   (h:(dF (x::cD) ae).b6=0):(iz x ae).b6=0/\(dF cD ae).b6=0:=by
 unfold dF at h; exact bg h
def nN.len (h:nN aL bZ dH ax cD jH ae) (b:aL≠3):ax.length=if aL=2 then 2 else 1:=by
 have:=h.gG;unfold lw bL at this
 by_cases a:aL=2
 · rw [a8 a] at this ⊢; simp at this; omega
 · rw [av a,av b] at this; rw [av a]; simp at this; omega
def nN.SE (h:nN aL bZ dH ax cD jH ae):((aL≠4/\aL≠5)->cD=[])/\(aL≠4->jH=[]):=by
 have:=h.form;unfold kA inner at this;rw [mQ] at this;refine ⟨λ⟨a,b⟩=>?_,λa=>?_⟩
 · have c:=this.1
   simpa [a,b] using c
 · have c:=this.2
   simpa [a] using c
def Sp (l:List Tx):Tx:=l.flatMap λw=>w++[32]
def xg (a b:List Tx):Sp (a++b)=Sp a++Sp b:=by simp [Sp]
def Ko (x:Tx) (b:List Tx):Sp (x::b)=x++[32]++Sp b:=by simp [Sp]
def J2:Sp []=[]:=rfl
def va:∀{l:List Tx},l≠[]->J l++[32]=Sp l
 | [],h=>absurd rfl h
 | [x],_=>by rw [hl]; simp [Sp]
 | x::y::r,_=>by
   rw [u7 au,Ko,<-va (l:=y::r) au]; simp
def ye:∀x:bE,cb x≠[]
 | .mk op mod nm args body other=>by
   unfold cb l6
   split<;>simp
def y0 {l:List Tx}  (h:bZ=Sp l):u9 bZ=J (oJ l):=by
 subst h;unfold u9 oJ
 by_cases a:l=[]
 · subst a; rfl
 · rw [gk au au,gk au a,hl,hl,<-va a]; simp
def xh (l:List Tx):oJ l≠[]:=by simp [oJ]
def SG (h:nN aL bZ dH ax cD jH ae) {b o:Tx} (d:b=Sp (iG cD)) (g:o=Sp (iG jH)) :
   pt aL bZ dH ((fz ax).map J) b jH.length o=J (l6 aL bZ dH (fz ax) (iG cD) jH.length (iG jH)):=by
 have f:=E1 bZ dH;have k:=h.kind;have m:=u' ax;unfold pt l6
 rcases (by omega:aL=1\/aL=2\/aL=3\/aL=4\/aL=5\/aL=6\/aL=7) with rfl | rfl | rfl | rfl | rfl | rfl | rfl
 · have a:=h.len bf
   have c:=qj (l:=ax) (i:=0) (by simp at a; omega);simp only [cv,cn,reduceCtorEq,Int.reduceEq,qD];rw [gk au au,gk au c,gk f au,hl,hl,xf,pv _ _ (by simp at a; omega)];simp
 · have a:=h.len bf
   have c:=qj (l:=ax) (i:=0) (by simp at a; omega);have d:=qj (l:=ax) (i:=1) (by simp at a; omega);simp only [cv,cn,Int.reduceEq,qD];rw [gk au au,gk au d,gk au au,gk au c,gk f au,u7 (l:=[[61]]) au,hl,hl,hl,xf,pv _ _ (by simp at a; omega),pv _ _ (by simp at a; omega)];simp
 · simp only [cv,cn,Int.reduceEq,qD]
   rw [gk (by simp [bO]) au,gk f (by simp [bO]),hl,xf,E2 (Bx ax)];simp
 · have a:=h.len bf
   have c:=qj (l:=ax) (i:=0) (by simp at a; omega);simp only [cv,cn,Int.reduceEq,o0,true_or]
   by_cases e:0<jH.length
   · rw [a8 e,a8 e,gk (by simp [oJ]) au,gk au (xh _),gk au (xh _),gk au c,hl,hl,<-y0 d,<-y0 g,pv _ _ (by simp at a; omega)]
     simp
   · rw [av e,av e,qB,qB,gk au (xh _),gk au c,hl,<-y0 d,pv _ _ (by simp at a; omega)]
 · have a:=h.len bf
   have c:=qj (l:=ax) (i:=0) (by simp at a; omega);have j:=h.SE.2 bf;subst j;simp only [cv,cn,Int.reduceEq,or_true,b8,Nat.lt_irrefl,qB];rw [gk au (xh _),gk au c,hl,<-y0 d,pv _ _ (by simp at a; omega)]
 · have a:=h.len bf
   have c:=qj (l:=ax) (i:=0) (by simp at a; omega);simp only [cv,cn,Int.reduceEq,qD];rw [gk au au,gk au c,hl,hl,pv _ _ (by simp at a; omega)];simp
 · have a:=h.len bf
   have c:=qj (l:=ax) (i:=0) (by simp at a; omega);simp only [cv,cn,Int.reduceEq,qD];rw [gk au au,gk au c,hl,hl,pv _ _ (by simp at a; omega)];simp
mutual
def SH:∀(x:bE) (d:Nat),(iz x d).b6=0->bz x=J (cb x)
 | .mk op mod nm args body other,d,h=>by
   have b:=yZ h;unfold bz cb;rw [E3 args 1 b.exprs];refine SG b ?_ ?_
   · by_cases a:(inner op||decide (0<body.length))=true
     · exact By body (d+1) (u_ (b.body a)).2.2
     · have:body=[]:=by
         simp at a;exact a.2
       subst this; rfl
   · by_cases a:0<other.length
     · exact By other (d+1) (u_ (b.other a)).2.2
     · have:other=[]:=rL Z
       subst this; rfl
def By:∀(l:List bE) (d:Nat),(dF l d).b6=0->h3 l=Sp (iG l)
 | [],_,_=>rfl
 | x::r,d,h=>by
   obtain ⟨a,b⟩:=E4 h;unfold h3 iG;rw [SH x d a,By r d b,xg,va (ye x)]
end
def Kq (h:(eS cD ae).b6=0):jX cD=J (ld cD):=by
 unfold eS at h;exact y0 (By cD ae (u_ h).2.2)
def mE (b:Bool):Tx:=if b=true then xd++[32] else []
def oL (u:Tx):Tx:=si++[32]++u++[32,59,32]
def qk (u:Tx):Tx:=rf++[32]++u++[32,59,32]
def y1 (d:de):Tx:=if d.kind=1 then kM++[32]++d.nm++[32,61,32]++Lib.itoa d.n++[32,59,32] else if d.kind=2 then kN++[32]++d.nm++[32,59,32] else kO++[32]++d.nm++[32,91,32]++Lib.itoa d.n++[32,93,32,59,32]
def lf (d:de):Tx:=mE d.ao++y1 d
def rk (p:eI):Tx:=mE p.ao++(tC++[32]++p.nm++[32,40]++fR p.params++[32,41,32])++p.aH.flatMap qk++(jX p.body++[32])
def vb (m:cm):Tx:=(sh++[32]++m.nm++[32,123,32])++m.aP.flatMap oL++m.decls.flatMap lf++m.procs.flatMap rk++(m_++[32]++jX m.main++[32,125])
def y2 {α:Type} {f:α->Tx} {g:α->List Tx}:∀{l:List α},(∀x ∈ l,f x=Sp (g x))->l.flatMap f=Sp (l.flatMap g)
 | [],_=>rfl
 | x::r,h=>by
   rw [i7,i7,xg,h x au,y2 λy a=>h y (cz _ a)]
def Kr (b:Bool):mE b=Sp (ri b):=by cases b<;>simp [mE,ri,Sp]
def SI (u:Tx):oL u=Sp (gi u):=by simp [oL,gi,Sp]
def SJ (u:Tx):qk u=Sp (pr u):=by simp [qk,pr,Sp]
variable {eF:de}
def Ks (h:(g5 eF).b6=0):eF.kind=1\/eF.kind=2\/eF.kind=3:=by
 unfold g5 at h;obtain ⟨_,h⟩:=bg h
 by_cases a:eF.kind=1
 · exact .inl a
 · rw [av a] at h
   by_cases b:eF.kind=2
   · exact .inr (.inl b)
   · rw [av b] at h
     by_cases c:eF.kind=3
     · exact .inr (.inr c)
     · rw [av c] at h; cases h
def SK (h:(g5 eF).b6=0):lf eF=Sp (sk eF):=by
 unfold lf sk;rw [xg,xg,<-Kr,n5]
 congr 1
 unfold y1 sj
 rcases Ks h with a | a | a<;>simp [a,Sp]
def SL {p:eI} (h:(kc p).b6=0):rk p=Sp (c6 p):=by
 unfold kc at h;obtain ⟨_,c⟩:=bg h;have a:=E2 (l:=p.params.map λs=>[s]) au
 have d:(p.params.map λs=>[s]).map J=p.params:=by simp [pU,hl]
 rw [d] at a;have b:=va (l:=bO (p.params.map λs=>[s])) (by simp [bO]);rw [a] at b
 have e:Sp (c6 p)=Sp (ri p.ao)++(Sp [tC,p.nm]++Sp (bO (p.params.map λs=>[s])))++Sp (p.aH.flatMap pr)++Sp (ld p.body):=by
   unfold c6 bO;simp only [xg,Ko,J2];simp
 rw [e,<-b,<-Kr,<-y2 (f:=qk) λx _=>SJ x,<-va (l:=ld p.body) (xh _),<-Kq c];simp [rk,Sp]
def E5:∀{l:List de},(aI l).b6=0->∀d ∈ l,(g5 d).b6=0
 | [],_,d,a=>by simp at a
 | x::r,h,d,a=>by
   unfold aI at h;obtain ⟨b,c⟩:=bg h
   rcases et.1 a with rfl | a
   · exact b
   · exact E5 c d a
def E6:∀{l:List eI},(fL l).b6=0->∀d ∈ l,(kc d).b6=0
 | [],_,d,a=>by simp at a
 | x::r,h,d,a=>by
   unfold fL at h;obtain ⟨b,c⟩:=bg h
   rcases et.1 a with rfl | a
   · exact b
   · exact E6 c d a
def SM {m:cm} (h:(jP m).b6=0):vb m=J (oK m):=by
 unfold jP at h;obtain ⟨h,c⟩:=bg h;obtain ⟨h,d⟩:=bg h;obtain ⟨_,e⟩:=bg h
 have b:[sh,m.nm,[123]]++m.aP.flatMap gi++m.decls.flatMap sk++m.procs.flatMap c6++[m_]++ld m.main≠[]:=au
 unfold oK;rw [gk b au,hl,va b];simp only [xg];rw [<-va (l:=ld m.main) (xh _),<-Kq c,<-y2 (f:=oL) λx _=>SI x,<-y2 (f:=lf) λx a=>SK (E5 e x a),<-y2 (f:=rk) λx a=>SL (E6 d x a)];simp [vb,Sp]
def SN:qQ g6=0↔g6.b6=0:=by
 unfold qQ bi.b6
 split
 · omega
 · split
   · omega
   · split<;>omega
end Go.Bw
end
section
namespace Go.Bw
open Go
def ql (s:Tx):Tok:=match Lib.atoiAll s with
 | .ok v=>⟨2,v,[]⟩
 | _=>if gc s=true then ⟨1,0,s⟩ else ⟨3,0,s⟩
def E7 (t:Tok):Prop:=qP t=true/\ka t=true
def Kt:∀u ∈ Ax,ql [u]=⟨3,0,[u]⟩:=bf
variable {bZ:Tx}
def Ku (h:gc bZ=true):ql bZ=⟨1,0,bZ⟩:=by
 cases bZ with
 | nil=>simp [gc] at h
 | cons c r=>
   have a:mn (c.toNat:Int)=true:=by
     simp only [gc,ew] at h
     simpa using h.1.2
   have e:97<=c.toNat:=by simp [mn] at a; omega
   have b:∀v,Lib.atoiAll (c::r)≠.ok v:=by
     intro v hv;rw [Lib.atoiAll_plain c r Z Z] at hv;unfold Lib.parseMag Lib.parseUint10 at hv;rw [av au,av Z] at hv;cases hv
   unfold ql
   cases d:Lib.atoiAll (c::r) with
   | ok v=>exact absurd d (b v)
   | _=>simp [h]
variable {aL:Int}
def Kv (a:0<=aL) (b:aL<=1099511627775):ql (Lib.itoa aL)=⟨2,aL,[]⟩:=by
 unfold ql;rw [wh a,H' Z];simp; omega
def Bz {t:Tok} (h:E7 t):ql (oh t)=t:=by
 obtain ⟨b,a⟩:=h;obtain ⟨k,n,s⟩:=t
 have d:k=1\/k=2\/k=3:=by simp [qP] at b; omega
 rcases d with rfl | rfl | rfl
 · simp only [ka,a8,ew,kW] at a
   obtain ⟨rfl,e⟩:=a;exact Ku e
 · have:s=[]/\0<=n/\n<=1099511627775:=by simpa [ka] using a
   obtain ⟨rfl,f,g⟩:=this;exact Kv f g
 · have:n=0/\s.length=1/\qO (s[0]?.getD 0)=true:=by simpa [ka] using a
   obtain ⟨rfl,i,j⟩:=this
   match s,i with
   | [c],_=>exact Kt c (by simpa [qO] using j)
def h4 (w:Tx):Prop:=E7 (ql w)/\oh (ql w)=w
def iQ (h:gc bZ=true):h4 bZ:=by
 unfold h4;rw [Ku h];exact ⟨⟨O,by simp [ka,h]⟩,O⟩
def hP {u:UInt8} (h:u ∈ Ax):h4 [u]:=by
 unfold h4;rw [Kt u h];exact ⟨⟨O,by simp [ka,qO,h]⟩,O⟩
def E8 (a:0<=aL) (b:aL<=1099511627775):h4 (Lib.itoa aL):=by
 unfold h4;rw [Kv a b];exact ⟨⟨O,by simp [ka]; omega⟩,O⟩
variable {eG:List Tx}
def SO (h:∀w ∈ eG,h4 w):hH (eG.map ql)=J eG:=by
 unfold hH J
 congr 1
 rw [CG]
 conv=>rhs; rw [<-List.map_id eG]
 exact zM λw a=>(h w a).2
def nO (h:fo bZ=true):gc bZ=true:=by
 simp only [fo,ew] at h; exact h.1
variable {dH:Tx}
def J_ (h:bR true bZ dH=false):(bZ=[]\/fo bZ=true)/\fo dH=true:=by
 unfold bR at h
 cases a:(bZ==[]) with
 | true=>simp [a] at h; simp at a; exact ⟨.inl a,by simpa using h⟩
 | false=>simp [a] at h; exact ⟨.inr h.1,h.2⟩
def xi (h:bR true bZ dH=false):∀w ∈ kP bZ dH,h4 w:=by
 obtain ⟨c,b⟩:=J_ h;intro w a;unfold kP at a
 split at a
 · rw [fH] at a; subst a; exact iQ (nO b)
 · rename_i d
   have:fo bZ=true:=c.resolve_left (by simpa using d);simp only [et,rO,o0] at a
   rcases a with rfl | rfl | rfl
   · exact iQ (nO this)
   · exact hP bf
   · exact iQ (nO b)
variable {tG:List (List Tx)}
def yv (h:∀x ∈ tG,∀w ∈ x,h4 w):∀w ∈ jh tG,h4 w:=by
 induction tG with
 | nil=>intro w a; simp [jh] at a
 | cons x r b=>
   cases r with
   | nil=>intro w a; exact h x au w a
   | cons y r=>
     intro w a;simp only [jh,fB,fH] at a
     rcases a with (a | rfl) | a
     · exact h x au w a
     · exact hP bf
     · exact b (λc d=>h c (cz _ d)) w a
def Kx (h:∀x ∈ tG,∀w ∈ x,h4 w):∀w ∈ bO tG,h4 w:=by
 intro w a;simp only [bO,fB,fH] at a
 rcases a with (rfl | a) | rfl
 · exact hP bf
 · exact yv h w a
 · exact hP bf
variable {ae:Nat}
def at_mem (h:bZ ∈ at_ tG ae):∃x ∈ tG,bZ ∈ x:=by
 unfold at_ at h
 cases a:tG[ae]? with
 | none=>simp [a] at h
 | some x=>rw [a] at h; exact ⟨x,gu a,h⟩
def SQ (h:7<=aL/\aL<=15):h4 (rh aL):=by
 have:aL=7\/aL=8\/aL=9\/aL=10\/aL=11\/aL=12\/aL=13\/aL=14\/aL=15:=Z
 rcases this with rfl | rfl | rfl | rfl | rfl | rfl | rfl | rfl | rfl<;>exact hP bf
def Ky {n:Int} (h:jt 1 n=false):0<=n/\n<=1099511627775:=by
 simp [jt] at h; omega
variable {ax:List ak}
def SR {op n:Int}    (h:e9 op n bZ dH ax ae) (f:∀x ∈ fz ax,∀w ∈ x,h4 w):∀w ∈ lI op n bZ dH (fz ax),h4 w:=by
 have p:=h.kind
 have d:∀i w,w ∈ at_ (fz ax) i->h4 w:=λi w c=>by
   obtain ⟨x,q,r⟩:=at_mem c;exact f x q w r
 intro w c;unfold lI at c;have e:=h.name
 by_cases g:op=1
 · subst g
   rw [a8 rfl,fH] at c;subst c;obtain ⟨a,b⟩:=Ky h.num;exact E8 a b
 rw [av g] at c
 by_cases j:op=2
 · rw [a8 j,fH] at c; subst c; exact iQ bf
 rw [av j] at c
 by_cases k:op=3
 · subst k; rw [a8 rfl] at c; exact xi e w c
 rw [av k] at c
 by_cases l:op=4
 · subst l
   rw [a8 rfl] at c;simp only [fB,fH] at c
   rcases c with ((c | rfl) | c) | rfl
   · exact xi e w c
   · exact hP bf
   · exact d _ _ c
   · exact hP bf
 rw [av l] at c
 by_cases m:op=5
 · subst m
   rw [a8 rfl,fB] at c
   rcases c with c | c
   · exact xi e w c
   · exact Kx f w c
 rw [av m] at c
 by_cases o:op=6
 · rw [a8 o,fB,fH] at c
   rcases c with rfl | c
   · exact hP bf
   · exact d _ _ c
 rw [av o] at c;simp only [fB,fH] at c
 rcases c with (((rfl | c) | rfl) | c) | rfl
 · exact hP bf
 · exact d _ _ c
 · exact SQ ⟨Z,p.2⟩
 · exact d _ _ c
 · exact hP bf
mutual
def SS:∀(x:ak) (d:Nat),(hB x d).b6=0->∀w ∈ h9 x,h4 w
 | .mk op n mod nm args,d,h=>by
   have a:=yY h;unfold h9;exact SR a (E9 args (d+1) a.sub)
def E9:∀(l:List ak) (d:Nat),(ek l d).b6=0->∀x ∈ fz l,∀w ∈ x,h4 w
 | [],_,_=>by intro x a; simp [fz] at a
 | y::r,d,h=>by
   obtain ⟨b,c⟩:=EZ h;intro x a;unfold fz at a
   rcases et.1 a with rfl | a
   · exact SS y d b
   · exact E9 r d c x a
end
def y3 (h:∀w ∈ eG,h4 w):∀w ∈ oJ eG,h4 w:=by
 intro w a;simp only [oJ,fB,fH] at a
 rcases a with (rfl | a) | rfl
 · exact hP bf
 · exact h w a
 · exact hP bf
variable {cD jH:List bE}
def SU (h:nN aL bZ dH ax cD jH ae) (d:∀w ∈ iG cD,h4 w) (e:∀w ∈ iG jH,h4 w) :
   ∀w ∈ l6 aL bZ dH (fz ax) (iG cD) jH.length (iG jH),h4 w:=by
 have k:=h.kind;have f:=E9 ax 1 h.exprs
 have b:∀i w,w ∈ at_ (fz ax) i->h4 w:=λi w a=>by
   obtain ⟨x,g,j⟩:=at_mem a;exact f x g w j
 have c:=h.name;intro w a;unfold l6 at a
 rcases (by omega:aL=1\/aL=2\/aL=3\/aL=4\/aL=5\/aL=6\/aL=7) with rfl | rfl | rfl | rfl | rfl | rfl | rfl
 · simp only [cv,cn,reduceCtorEq,Int.reduceEq,qD,fB,fH] at a
   rcases a with ((a | rfl) | a) | rfl
   · exact xi c w a
   · exact hP bf
   · exact b _ _ a
   · exact hP bf
 · simp only [cv,cn,reduceCtorEq,Int.reduceEq,qD,fB,fH,et,rO,o0] at a
   rcases a with ((((a | rfl) | a) | (rfl | rfl)) | a) | rfl
   · exact xi c w a
   · exact hP bf
   · exact b _ _ a
   · exact hP bf
   · exact hP bf
   · exact b _ _ a
   · exact hP bf
 · simp only [cv,cn,reduceCtorEq,Int.reduceEq,qD,fB,fH] at a
   rcases a with (a | a) | rfl
   · exact xi c w a
   · exact Kx f w a
   · exact hP bf
 · simp only [cv,cn,reduceCtorEq,Int.reduceEq,o0,true_or,fB,fH] at a
   rcases a with ((rfl | a) | a) | a
   · exact iQ bf
   · exact b _ _ a
   · exact y3 d w a
   · split at a
     · simp only [fB,fH] at a
       rcases a with rfl | a
       · exact iQ bf
       · exact y3 e w a
     · simp at a
 · simp only [cv,cn,reduceCtorEq,Int.reduceEq,or_true,fB,fH] at a
   rcases a with ((rfl | a) | a) | a
   · exact iQ bf
   · exact b _ _ a
   · exact y3 d w a
   · split at a
     · simp only [fB,fH] at a
       rcases a with rfl | a
       · exact iQ bf
       · exact y3 e w a
     · simp at a
 · simp only [cv,cn,reduceCtorEq,Int.reduceEq,qD,fB,fH] at a
   rcases a with (rfl | a) | rfl
   · exact iQ bf
   · exact b _ _ a
   · exact hP bf
 · simp only [cv,cn,reduceCtorEq,Int.reduceEq,qD,fB,fH] at a
   rcases a with (rfl | a) | rfl
   · exact iQ bf
   · exact b _ _ a
   · exact hP bf
def nN.Kz (b:nN aL bZ dH ax cD jH ae):(dF cD (ae+1)).b6=0/\(dF jH (ae+1)).b6=0:=by
 constructor
 · by_cases a:(inner aL||decide (0<cD.length))=true
   · exact (u_ (b.body a)).2.2
   · have:cD=[]:=by
       simp at a;exact a.2
     subst this; rfl
 · by_cases a:0<jH.length
   · exact (u_ (b.other a)).2.2
   · have:jH=[]:=rL Z
     subst this; rfl
mutual
def SV:∀(x:bE) (d:Nat),(iz x d).b6=0->∀w ∈ cb x,h4 w
 | .mk op mod nm args body other,d,h=>by
   have a:=yZ h;unfold cb;exact SU a (oo body (d+1) a.Kz.1) (oo other (d+1) a.Kz.2)
def oo:∀(l:List bE) (d:Nat),(dF l d).b6=0->∀w ∈ iG l,h4 w
 | [],_,_=>by intro x b; simp [iG] at b
 | y::r,d,h=>by
   obtain ⟨c,e⟩:=E4 h;intro w a;unfold iG at a
   rcases fB.1 a with a | a
   · exact SV y d c w a
   · exact oo r d e w a
end
def jC:∀{l:List Tx},(ck l).b6=0->∀s ∈ l,fo s=true
 | [],_,s,a=>by simp at a
 | x::r,h,s,a=>by
   unfold ck at h;obtain ⟨b,c⟩:=bg h
   rcases et.1 a with rfl | a
   · simpa using rj b
   · exact jC c s a
structure KA (d:de):Prop where
 name:fo d.nm=true
 kind:d.kind=1\/d.kind=2\/d.kind=3
 n1:d.kind=1->0<=d.n/\d.n<=1099511627775
 n2:d.kind=2->d.n=0
 n3:d.kind=3->1<=d.n/\d.n<=32
variable {eF:de}
def vd (h:(g5 eF).b6=0):KA eF:=by
 have b:=Ks h;unfold g5 at h;obtain ⟨c,a⟩:=bg h;refine ⟨jC c eF.nm au,b,λe=>?_,λe=>?_,λe=>?_⟩
 · rw [a8 e] at a
   have:=rj a;simp at this; omega
 · rw [av Z,a8 e] at a
   have:=rj a
   simpa using this
 · rw [av Z,av Z,a8 e] at a
   have:=rj a;simp at this; omega
def L4 (h:(g5 eF).b6=0):∀w ∈ sk eF,h4 w:=by
 have d:=vd h;have f:=iQ (nO d.name);intro w c;simp only [sk,fB,fH] at c
 rcases c with (c | c) | rfl
 · unfold ri at c
   split at c
   · rw [fH] at c; subst c; exact iQ bf
   · simp at c
 · unfold sj at c
   rcases d.kind with e | e | e
   · obtain ⟨a,b⟩:=d.n1 e
     rw [a8 e] at c;simp only [et,rO,o0] at c
     rcases c with rfl | rfl | rfl | rfl
     · exact iQ bf
     · exact f
     · exact hP bf
     · exact E8 a b
   · rw [av Z,a8 e] at c
     simp only [et,rO,o0] at c
     rcases c with rfl | rfl
     · exact iQ bf
     · exact f
   · obtain ⟨a,b⟩:=d.n3 e
     rw [av Z,av Z,a8 e] at c;simp only [et,rO,o0] at c
     rcases c with rfl | rfl | rfl | rfl | rfl
     · exact iQ bf
     · exact f
     · exact hP bf
     · exact E8 Z Z
     · exact hP bf
 · exact hP bf
structure Ma (p:eI):Prop where
 name:fo p.nm=true
 params:∀s ∈ p.params,fo s=true
 aH:∀s ∈ p.aH,fo s=true
 fy:p.params.length<=3/\p.aH.length<=4
 body:(eS p.body 1).b6=0
variable {g8:eI}
def sm (h:(kc g8).b6=0):Ma g8:=by
 unfold kc at h;obtain ⟨h,a⟩:=bg h;obtain ⟨h,b⟩:=bg h;obtain ⟨h,c⟩:=bg h;obtain ⟨d,e⟩:=bg h;have:=xe b;simp at this;exact ⟨jC d g8.nm au,jC e,jC c,Z,a⟩
def KB (h:(eS cD ae).b6=0):∀w ∈ ld cD,h4 w:=by
 unfold eS at h;exact y3 (oo cD ae (u_ h).2.2)
def SY (h:(kc g8).b6=0):∀w ∈ c6 g8,h4 w:=by
 have b:=sm h;intro w a;simp only [c6,fB,fH,et,rO,o0,ku] at a
 rcases a with ((((a | (rfl | rfl | rfl)) | a) | rfl) | ⟨s,c,a⟩) | a
 · unfold ri at a
   split at a
   · rw [fH] at a; subst a; exact iQ bf
   · simp at a
 · exact iQ bf
 · exact iQ (nO b.name)
 · exact hP bf
 · refine yv (λx d w a=>?_) w a
   obtain ⟨s,c,rfl⟩:=oZ.1 d;rw [fH] at a;subst a;exact iQ (nO (b.params _ c))
 · exact hP bf
 · simp only [pr,et,rO,o0] at a
   rcases a with rfl | rfl | rfl
   · exact iQ bf
   · exact iQ (nO (b.aH _ c))
   · exact hP bf
 · exact KB b.body w a
structure kS (m:cm):Prop where
 name:fo m.nm=true
 aP:∀s ∈ m.aP,fo s=true
 fy:m.aP.length<=3/\m.decls.length<=10/\m.procs.length<=6
 decls:∀d ∈ m.decls,(g5 d).b6=0
 procs:∀p ∈ m.procs,(kc p).b6=0
 main:(eS m.main 1).b6=0
variable {bp:cm}
def BB (h:(jP bp).b6=0):kS bp:=by
 unfold jP at h;obtain ⟨h,a⟩:=bg h;obtain ⟨h,b⟩:=bg h;obtain ⟨h,c⟩:=bg h;obtain ⟨h,d⟩:=bg h;obtain ⟨e,f⟩:=bg h;have:=xe d;simp at this;exact ⟨jC e bp.nm au,jC f,Z,E5 c,E6 b,a⟩
def KC (h:(jP bp).b6=0):∀w ∈ oK bp,h4 w:=by
 have b:=BB h;intro w a;simp only [oK,fB,fH,et,rO,o0,ku] at a
 rcases a with ((((((rfl | rfl | rfl) | ⟨s,c,a⟩) | ⟨d,e,a⟩) | ⟨p,f,a⟩) | rfl) | a) | rfl
 · exact iQ bf
 · exact iQ (nO b.name)
 · exact hP bf
 · simp only [gi,et,rO,o0] at a
   rcases a with rfl | rfl | rfl
   · exact iQ bf
   · exact iQ (nO (b.aP _ c))
   · exact hP bf
 · exact L4 (b.decls d e) w a
 · exact SY (b.procs p f) w a
 · exact iQ bf
 · exact KB b.main w a
 · exact hP bf
end Go.Bw
end
section
namespace Go.Bw
open Go
abbrev Tk:=List Tok
def bQ (s:Tx):Tk->Option Tk
 | []=>none
 | t::r=>if (t.text==s)=true then some r else none
def nc (k:Int):Tk->Option (Tok×Tk)
 | []=>none
 | t::r=>if t.kind=k then some (t,r) else none
def gQ (l:Tk):Option (Tx×Tk):=(nc 1 l).bind λp=>if fo p.1.text=true then some (p.1.text,p.2) else none
def ce (l:Tk):Option (Int×Tk):=(nc 2 l).map λp=>(p.1.n,p.2)
def mF (l:Tk):Option ((Tx×Tx)×Tk):=(gQ l).bind λa=>match bQ [46] a.2 with
 | some r=>(gQ r).map λb=>((a.1,b.1),b.2)
 | none=>some (([],a.1),a.2)
def l7 (a:Tk->Option (ak×Tk)):Nat->Tk->Option (List ak×Tk)
 | 0,_=>none
 | n+1,l=>(a l).bind λx=>match bQ [41] x.2 with
   | some r=>some ([x.1],r)
   | none=>match bQ [44] x.2 with
     | some r=>(l7 a n r).map λq=>(x.1::q.1,q.2)
     | none=>none
def lJ (a:Tk->Option (ak×Tk)) (l:Tk):Option (List ak×Tk):=match bQ [41] l with
 | some r=>some ([],r)
 | none=>l7 a (l.length+1) l
def oM:List Tx->Nat->Tk->Option (Nat×Tk)
 | [],_,_=>none
 | w::ws,i,l=>match bQ w l with
   | some r=>some (i,r)
   | none=>oM ws (i+1) l
def ne (c:Tk->Option (ak×Tk)) (l:Tk):Option (ak×Tk):=(c l).bind λa=>(oM opsL 0 a.2).bind λo=>(c o.2).bind λb=>(bQ [41] b.2).map λr=>(ak.mk (7+(o.1:Int)) 0 [] [] [a.1,b.1],r)
def pw (a:Tk->Option (ak×Tk)) (mod nm:Tx) (l:Tk):Option (ak×Tk):=match bQ [91] l with
 | some r=>(a r).bind λx=>(bQ [93] x.2).map λr=>(ak.mk 4 0 mod nm [x.1],r)
 | none=>match bQ [40] l with
   | some r=>(lJ a r).map λq=>(ak.mk 5 0 mod nm q.1,q.2)
   | none=>some (ak.mk 3 0 mod nm [],l)
def nP (a:Tk->Option (ak×Tk)) (l:Tk):Option (ak×Tk):=match bQ gh l with
 | some r=>some (ak.mk 2 0 [] [] [],r)
 | none=>match bQ [33] l with
   | some r=>(a r).map λx=>(ak.mk 6 0 [] [] [x.1],x.2)
   | none=>match bQ [40] l with
     | some r=>ne a r
     | none=>(mF l).bind λp=>pw a p.1.1 p.1.2 p.2
def a6:Nat->Tk->Option (ak×Tk)
 | 0,_=>none
 | f+1,l=>match l with
   | []=>none
   | t::r=>if t.kind=2 then some (ak.mk 1 t.n [] [] [],r) else nP (a6 f) (t::r)
def gR (l:Tk):Option (bE×Tk):=match bQ gA l with
 | some r=>(a6 6 r).map λx=>(bE.mk 6 [] [] [x.1] [] [],x.2)
 | none=>match bQ gB l with
   | some r=>(a6 6 r).map λx=>(bE.mk 7 [] [] [x.1] [] [],x.2)
   | none=>(mF l).bind λp=>match bQ [40] p.2 with
     | some r=>(lJ (a6 6) r).map λq=>(bE.mk 3 p.1.1 p.1.2 q.1 [] [],q.2)
     | none=>match bQ [91] p.2 with
       | some r=>(a6 6 r).bind λi=>(bQ [93] i.2).bind λr=>(bQ [61] r).bind λr=>(a6 6 r).map λx=>(bE.mk 2 p.1.1 p.1.2 [i.1,x.1] [] [],x.2)
       | none=>(bQ [61] p.2).bind λr=>(a6 6 r).map λx=>(bE.mk 1 p.1.1 p.1.2 [x.1] [] [],x.2)
def aY (a:Tk->Option (List bE×Tk)) (l:Tk):Option (bE×Tk):=match bQ gz l with
 | some r=>(a6 6 r).bind λx=>(a x.2).bind λb=>match bQ gO b.2 with
   | some r=>(a r).bind λo=>if o.1.length=0 then none else some (bE.mk 4 [] [] [x.1] b.1 o.1,o.2)
   | none=>some (bE.mk 4 [] [] [x.1] b.1 [],b.2)
 | none=>match bQ gP l with
   | some r=>(a6 6 r).bind λx=>(a x.2).map λb=>(bE.mk 5 [] [] [x.1] b.1 [],b.2)
   | none=>(gR l).bind λs=>(bQ [59] s.2).map λr=>(s.1,r)
def nQ (ps:Tk->Option (bE×Tk)):Nat->Tk->Option (List bE×Tk)
 | 0,_=>none
 | n+1,l=>match bQ [125] l with
   | some r=>some ([],r)
   | none=>(ps l).bind λs=>(nQ ps n s.2).map λq=>(s.1::q.1,q.2)
def hq:Nat->Tk->Option (List bE×Tk)
 | 0,_=>none
 | f+1,l=>(bQ [123] l).bind λr=>nQ (aY (hq f)) (r.length+1) r
def hQ (ao:Bool) (l:Tk):Option (Option de×Tk):=match bQ kM l with
 | some r=>(gQ r).bind λa=>(bQ [61] a.2).bind λr=>(ce r).bind λn=>(bQ [59] n.2).map λr=>(some ⟨1,a.1,ao,n.1⟩,r)
 | none=>match bQ kN l with
   | some r=>(gQ r).bind λa=>(bQ [59] a.2).map λr=>(some ⟨2,a.1,ao,0⟩,r)
   | none=>match bQ kO l with
     | some r=>(gQ r).bind λa=>(bQ [91] a.2).bind λr=>(ce r).bind λn=>(bQ [93] n.2).bind λr=>(bQ [59] r).map λr=>(some ⟨3,a.1,ao,n.1⟩,r)
     | none=>some (none,l)
def lg (l:Tk):Bool×Tk:=((bQ xd l).isSome,(bQ xd l).getD l)
def nR:Nat->Bool->Tk->Option ((List de×Bool)×Tk)
 | 0,_,_=>none
 | n+1,ao,l=>(hQ ao l).bind λd=>match d.1 with
   | none=>some (([],ao),d.2)
   | some x=>(nR n (lg d.2).1 (lg d.2).2).map λq=>((x::q.1.1,q.1.2),q.2)
def jY:Nat->Bool->Tk->Option (List Tx×Tk)
 | 0,_,_=>none
 | n+1,first,l=>match bQ [41] l with
   | some r=>some ([],r)
   | none=>(if first=true then some l else bQ [44] l).bind λl=>(gQ l).bind λa=>(jY n false a.2).map λq=>(a.1::q.1,q.2)
def l8:Nat->Tk->Option (List Tx×Tk)
 | 0,_=>none
 | n+1,l=>match bQ rf l with
   | some r=>(gQ r).bind λa=>(bQ [59] a.2).bind λr=>(l8 n r).map λq=>(a.1::q.1,q.2)
   | none=>some ([],l)
def jZ (ao:Bool) (l:Tk):Option (eI×Tk):=(gQ l).bind λa=>(bQ [40] a.2).bind λr=>(jY (r.length+1) true r).bind λps=>(l8 (ps.2.length+1) ps.2).bind λc=>(hq 6 c.2).map λb=>(⟨a.1,ao,ps.1,c.1,b.1⟩,b.2)
def nS:Nat->Bool->Tk->Option ((List eI×Bool)×Tk)
 | 0,_,_=>none
 | n+1,ao,l=>match bQ tC l with
   | some r=>(jZ ao r).bind λp=>(nS n (lg p.2).1 (lg p.2).2).map λq=>((p.1::q.1.1,q.1.2),q.2)
   | none=>some (([],ao),l)
def mG:Nat->Tk->Option (List Tx×Tk)
 | 0,_=>none
 | n+1,l=>match bQ si l with
   | some r=>(gQ r).bind λa=>(bQ [59] a.2).bind λr=>(mG n r).map λq=>(a.1::q.1,q.2)
   | none=>some ([],l)
def mH (l:Tk):Option (cm×Tk):=(bQ sh l).bind λr=>(gQ r).bind λa=>(bQ [123] a.2).bind λr=>(mG (r.length+1) r).bind λu=>
 (nR ((lg u.2).2.length+1) (lg u.2).1 (lg u.2).2).bind λd=>(nS (d.2.length+1) d.1.2 d.2).bind λp=>if p.1.2=true then none else
 (bQ m_ p.2).bind λr=>(hq 6 r).bind λb=>(bQ [125] b.2).map λr=>(⟨a.1,u.1,d.1.1,p.1.1,b.1⟩,r)
def h' (l:Tk):Prop:=∀t ∈ l,E7 t
def g0 (l:Tk) (a:List Tx) (r:Tk):Prop:=h' l/\l=a.map ql++r
variable {aj bS:Tk} {eG:List Tx}
def g0.ok (h:g0 aj eG bS):h' bS:=λt a=>h.1 t (by rw [h.2]; exact eh _ a)
variable {hr:Tk} {BC:List Tx}
def g0.trans (h:g0 aj eG bS) (k:g0 bS BC hr):g0 aj (eG++BC) hr:=⟨h.1,by rw [h.2,k.2]; simp⟩
def g0.nil (h:h' aj):g0 aj [] aj:=⟨h,rfl⟩
def g0.cast (h:g0 aj eG bS) (e:eG=BC):g0 aj BC bS:=e▸h
variable {bZ:Tx}
def gt (b:h' aj) (d:bZ≠[]) (h:bQ bZ aj=some bS):g0 aj [bZ] bS:=by
 cases aj with
 | nil=>cases h
 | cons t q=>
   simp only [bQ] at h
   split at h
   · rename_i a
     injection h with h
     subst h;simp only [kW] at a;refine ⟨b,?_⟩;have c:=b t au
     have e:oh t=bZ:=by
       unfold oh;rw [av]
       · exact a
       · intro f
         have:=c.2;unfold ka at this;rw [av Z,a8 f] at this;simp [a,d] at this
     simp [<-e,Bz c]
   · cases h
def rl (a:h' aj) (h:gQ aj=some (bZ,bS)):g0 aj [bZ] bS/\fo bZ=true:=by
 cases aj with
 | nil=>cases h
 | cons t q=>
   unfold gQ nc at h;dsimp only at h
   by_cases b:t.kind=1
   · rw [a8 b] at h
     simp only [cM] at h
     split at h
     · rename_i c
       injection h with h
       injection h with d f
       subst d f;refine ⟨⟨a,?_⟩,c⟩;have g:=a t au
       have e:oh t=t.text:=by rw [oh,av Z]
       rw [<-e];simp [Bz g]
     · cases h
   · rw [av b] at h; cases h
def E' {n:Int} (b:h' aj) (h:ce aj=some (n,bS)):g0 aj [Lib.itoa n] bS:=by
 cases aj with
 | nil=>cases h
 | cons t q=>
   unfold ce nc at h;dsimp only at h
   by_cases a:t.kind=2
   · rw [a8 a] at h
     simp only [dN] at h
     injection h with h
     injection h with c d
     subst c d;refine ⟨b,?_⟩;have f:=b t au
     have e:oh t=Lib.itoa t.n:=by rw [oh,a8 a]
     rw [<-e];simp [Bz f]
   · rw [av a] at h; cases h
def E_ {mod nm:Tx} (j:h' aj) (h:mF aj=some ((mod,nm),bS)):g0 aj (kP mod nm) bS:=by
 unfold mF at h;obtain ⟨⟨a,q⟩,k,c⟩:=cN.1 h;obtain ⟨d,n1⟩:=rl j k;simp only at c
 cases e:bQ [46] q with
 | none=>
   rw [e] at c;simp only [eY,dC] at c;obtain ⟨⟨rfl,rfl⟩,rfl⟩:=c;exact d
 | some n=>
   rw [e] at c;obtain ⟨⟨b,o⟩,l,f⟩:=dX.1 c;simp only [dC] at f;obtain ⟨⟨rfl,rfl⟩,rfl⟩:=f;have g:=gt d.ok au e;obtain ⟨m,n3⟩:=rl g.ok l;refine ((d.trans g).trans m).cast ?_;unfold kP;rw [av]
   · rfl
   · intro i
     simp only [kW] at i;subst i;simp [fo,gc] at n1
def Sound (a:Tk->Option (ak×Tk)):Prop:=∀l x r,h' l->a l=some (x,r)->g0 l (h9 x) r
variable {a5:Tk->Option (ak×Tk)}
def Fa (g:Sound a5):∀(n:Nat) (l:Tk) (xs:List ak) (r:Tk),h' l->l7 a5 n l=some (xs,r)->g0 l (jh (fz xs)++[[41]]) r
 | 0,_,_,_,_,h=>by cases h
 | n+1,l,xs,r,m,h=>by
   unfold l7 at h;obtain ⟨⟨x,q⟩,o,a⟩:=cN.1 h;have c:=g l x q m o;simp only at a
   cases e:bQ [41] q with
   | some i=>
     rw [e] at a;simp only [eY,dC] at a;obtain ⟨rfl,rfl⟩:=a;exact c.trans (gt c.ok au e)
   | none=>
     rw [e] at a;simp only at a
     cases f:bQ [44] q with
     | none=>rw [f] at a; cases a
     | some i=>
       rw [f] at a;obtain ⟨⟨ys,p⟩,d,j⟩:=dX.1 a;simp only [dC] at j;obtain ⟨rfl,rfl⟩:=j;have k:=gt c.ok au f;have s:=Fa g n i ys p k.ok d;refine ((c.trans k).trans s).cast ?_
       cases ys with
       | nil=>exfalso; cases n with
         | zero=>cases d
         | succ n=>
           unfold l7 at d;obtain ⟨⟨y,u⟩,_,b⟩:=cN.1 d;simp only at b
           split at b
           · simp at b
           · split at b
             · obtain ⟨v,_,t⟩:=dX.1 b
               simp at t
             · cases b
       | cons y ys=>simp [fz,jh]
def KD (c:Sound a5)  {xs:List ak} (d:h' aj) (e:bQ [40] aj=some hr) (h:lJ a5 hr=some (xs,bS)):g0 aj (bO (fz xs)) bS:=by
 have a:=gt d au e;unfold lJ at h
 cases b:bQ [41] hr with
 | some f=>
   rw [b] at h;simp only [eY,dC] at h;obtain ⟨rfl,rfl⟩:=h;exact a.trans (gt a.ok au b)
 | none=>
   rw [b] at h;exact (a.trans (Fa c _ hr xs bS a.ok h)).cast (by simp [bO])
def yE:∀(a:List Tx) (i:Nat) (l r:Tk) (k:Nat),h' l->(∀w ∈ a,w≠[])->oM a i l=some (k,r)->∃j,k=i+j/\∃w,a[j]? = some w/\g0 l [w] r
 | [],_,_,_,_,_,_,h=>by cases h
 | w::a,i,l,r,k,c,hw,h=>by
   unfold oM at h
   cases b:bQ w l with
   | some q=>
     rw [b] at h;simp only [eY,dC] at h;obtain ⟨rfl,rfl⟩:=h;exact ⟨0,O,w,O,gt c (hw w au) b⟩
   | none=>
     rw [b] at h;obtain ⟨j,f,v,d,e⟩:=yE a (i+1) l r k c (λv hv=>hw v (cz _ hv)) h;exact ⟨j+1,Z,v,by simpa using d,e⟩
def KF (op n:Int) (mod nm:Tx) (args:List ak):h9 (.mk op n mod nm args)=lI op n mod nm (fz args):=by rw [h9]
variable {bH:ak}
def SZ (c:Sound a5)   (n:h' aj) (p:bQ [40] aj=some hr) (h:ne a5 hr=some (bH,bS)):g0 aj (h9 bH) bS:=by
 have d:=gt n au p;unfold ne at h;obtain ⟨⟨a,e⟩,q,r⟩:=cN.1 h;obtain ⟨⟨o,f⟩,s,t⟩:=cN.1 r;obtain ⟨⟨b,u⟩,v,x⟩:=cN.1 t;obtain ⟨B,y,g⟩:=dX.1 x;simp only [dC] at g;obtain ⟨rfl,rfl⟩:=g;have i:=c hr a e d.ok q;obtain ⟨j,C,w,k,l⟩:=yE opsL 0 e f o i.ok bf s;have m:=c f b u l.ok v;have z:=gt m.ok au y;refine ((((d.trans i).trans l).trans m).trans z).cast ?_
 obtain rfl:o=j:=Z
 have D:o<9:=(cS.1 k).1
 have A:rh (7+(o:Int))=w:=by
   unfold rh;rw [show ((7+(o:Int))-7).toNat=o by omega,k]; rfl
 rw [KF,lI,av Z,av Z,av Z,av Z,av Z,av Z,A];simp [fz,at_]
def Mf (f:Sound a5)  {mod nm:Tx}  (a:g0 bS (kP mod nm) aj) (h:pw a5 mod nm aj=some (bH,hr)):g0 bS (h9 bH) hr:=by
 unfold pw at h
 cases c:bQ [91] aj with
 | some q=>
   rw [c] at h;obtain ⟨⟨y,g⟩,d,b⟩:=cN.1 h;obtain ⟨n,l,i⟩:=dX.1 b;simp only [dC] at i;obtain ⟨rfl,rfl⟩:=i;have j:=gt a.ok au c;have k:=f q y g j.ok d;have m:=gt k.ok au l;exact (((a.trans j).trans k).trans m).cast (by simp [h9,lI,fz,at_])
 | none=>
   rw [c] at h;simp only at h
   cases e:bQ [40] aj with
   | some q=>
     rw [e] at h;obtain ⟨⟨xs,g⟩,d,b⟩:=dX.1 h;simp only [dC] at b;obtain ⟨rfl,rfl⟩:=b;exact (a.trans (KD f a.ok e d)).cast (by simp [h9,lI])
   | none=>
     rw [e] at h;simp only [eY,dC] at h;obtain ⟨rfl,rfl⟩:=h;exact a.cast (by simp [h9,lI])
def S1 (c:Sound a5):Sound (nP a5):=by
 intro l x r a h;unfold nP at h
 cases d:bQ gh l with
 | some q=>
   rw [d] at h;simp only [eY,dC] at h;obtain ⟨rfl,rfl⟩:=h;exact (gt a bf d).cast (by simp [h9,lI])
 | none=>
   rw [d] at h;simp only at h
   cases e:bQ [33] l with
   | some q=>
     rw [e] at h;obtain ⟨⟨y,j⟩,f,b⟩:=dX.1 h;simp only [dC] at b;obtain ⟨rfl,rfl⟩:=b;have i:=gt a au e;exact (i.trans (c q y j i.ok f)).cast (by simp [h9,lI,fz,at_])
   | none=>
     rw [e] at h;simp only at h
     cases g:bQ [40] l with
     | some q=>rw [g] at h; exact SZ c a g h
     | none=>
       rw [g] at h;obtain ⟨⟨⟨mod,nm⟩,q⟩,f,b⟩:=cN.1 h;exact Mf c (E_ a f) b
def xj:∀f,Sound (a6 f)
 | 0=>λ_ _ _ _ h=>by cases h
 | f+1=>by
   intro l x r a h
   cases l with
   | nil=>cases h
   | cons t q=>
     unfold a6 at h
     by_cases b:t.kind=2
     · simp only [a8 b,eY,dC] at h
       obtain ⟨rfl,rfl⟩:=h;refine ⟨a,?_⟩;have c:=a t au
       have e:oh t=Lib.itoa t.n:=by rw [oh,a8 b]
       have d:h9 (ak.mk 1 t.n [] [] [])=[Lib.itoa t.n]:=by simp [h9,lI]
       rw [d,<-e];simp [Bz c]
     · simp only [av b] at h
       exact S1 (xj f) _ x r a h
end Go.Bw
end
section
namespace Go.Bw
open Go
def tH (op:Int) (mod nm:Tx) (args:List ak) (body other:List bE):cb (.mk op mod nm args body other)=l6 op mod nm (fz args) (iG body) other.length (iG other):=by rw [cb]
variable {aj bS:Tk} {dA:bE}
def S2 (n:h' aj) (h:gR aj=some (dA,bS)):∃t,cb dA=t++[[59]]/\g0 aj t bS:=by
 have c:=xj 6;unfold gR at h
 cases o:bQ gA aj with
 | some q=>
   rw [o] at h;obtain ⟨⟨x,d⟩,j,e⟩:=dX.1 h;simp only [dC] at e;obtain ⟨rfl,rfl⟩:=e;have b:=gt n bf o;exact ⟨[gA]++h9 x,by simp [tH,l6,fz,at_],b.trans (c q x d b.ok j)⟩
 | none=>
   rw [o] at h;simp only at h
   cases j:bQ gB aj with
   | some q=>
     rw [j] at h;obtain ⟨⟨x,d⟩,e,a⟩:=dX.1 h;simp only [dC] at a;obtain ⟨rfl,rfl⟩:=a;have b:=gt n bf j;exact ⟨[gB]++h9 x,by simp [tH,l6,fz,at_],b.trans (c q x d b.ok e)⟩
   | none=>
     rw [j] at h;obtain ⟨⟨⟨mod,nm⟩,q⟩,e,a⟩:=cN.1 h;have f:=E_ n e;simp only at a
     cases p:bQ [40] q with
     | some d=>
       rw [p] at a;obtain ⟨⟨xs,u⟩,k,g⟩:=dX.1 a;simp only [dC] at g;obtain ⟨rfl,rfl⟩:=g;exact ⟨kP mod nm++bO (fz xs),by simp [tH,l6],f.trans (KD c f.ok p k)⟩
     | none=>
       rw [p] at a;simp only at a
       cases k:bQ [91] q with
       | some d=>
         rw [k] at a;obtain ⟨⟨i,u⟩,g,r⟩:=cN.1 a;obtain ⟨D,s,l⟩:=cN.1 r;obtain ⟨E,z,A⟩:=cN.1 l;obtain ⟨⟨x,F⟩,B,v⟩:=dX.1 A;simp only [dC] at v;obtain ⟨rfl,rfl⟩:=v;have b:=gt f.ok au k;have m:=c _ _ _ b.ok g;have w:=gt m.ok au s;have y:=gt w.ok au z;have C:=c _ _ _ y.ok B;exact ⟨kP mod nm++[[91]]++h9 i++[[93],[61]]++h9 x,by simp [tH,l6,fz,at_],(((((f.trans b).trans m).trans w).trans y).trans C).cast au⟩
       | none=>
         rw [k] at a;obtain ⟨d,g,r⟩:=cN.1 a;obtain ⟨⟨x,u⟩,s,l⟩:=dX.1 r;simp only [dC] at l;obtain ⟨rfl,rfl⟩:=l;have b:=gt f.ok au g;have m:=c _ _ _ b.ok s;exact ⟨kP mod nm++[[61]]++h9 x,by simp [tH,l6,fz,at_],(f.trans b).trans m⟩
def Fb (a:Tk->Option (List bE×Tk)):Prop:=∀l x r,h' l->a l=some (x,r)->g0 l (ld x) r
def Fc {p:Tk->Option (List bE×Tk)} (l:Fb p)   (m:h' aj) (h:aY p aj=some (dA,bS)):g0 aj (cb dA) bS:=by
 have r:=xj 6;unfold aY at h
 cases n:bQ gz aj with
 | some q=>
   rw [n] at h;obtain ⟨⟨x,s⟩,f,g⟩:=cN.1 h;obtain ⟨⟨b,t⟩,i,a⟩:=cN.1 g;have e:=gt m bf n;have c:=r _ _ _ e.ok f;have j:=l _ _ _ c.ok i;simp only at a
   cases d:bQ gO t with
   | some y=>
     rw [d] at a;obtain ⟨⟨o,z⟩,v,k⟩:=cN.1 a;simp only at k
     split at k
     · cases k
     · rename_i A
       simp only [eY,dC] at k;obtain ⟨rfl,rfl⟩:=k;have u:=gt j.ok bf d;have w:=l _ _ _ u.ok v;refine ((((e.trans c).trans j).trans u).trans w).cast ?_;rw [tH];simp only [l6,Int.reduceEq,o0,true_or,cv,cn];rw [a8 Z];simp [fz,at_,ld]
   | none=>
     rw [d] at a;simp only [eY,dC] at a;obtain ⟨rfl,rfl⟩:=a;exact ((e.trans c).trans j).cast (by simp [tH,l6,fz,at_,ld])
 | none=>
   rw [n] at h;simp only at h
   cases f:bQ gP aj with
   | some q=>
     rw [f] at h;obtain ⟨⟨x,s⟩,g,i⟩:=cN.1 h;obtain ⟨⟨b,t⟩,a,d⟩:=dX.1 i;simp only [dC] at d;obtain ⟨rfl,rfl⟩:=d;have e:=gt m bf f;have c:=r _ _ _ e.ok g;have j:=l _ _ _ c.ok a;exact ((e.trans c).trans j).cast (by simp [tH,l6,fz,at_,ld])
   | none=>
     rw [f] at h;obtain ⟨⟨B,q⟩,g,i⟩:=cN.1 h;obtain ⟨s,a,d⟩:=dX.1 i;simp only [dC] at d;obtain ⟨rfl,rfl⟩:=d;obtain ⟨C,e,c⟩:=S2 m g;exact (c.trans (gt c.ok au a)).cast e.symm
def KG {ps:Tk->Option (bE×Tk)} (b:∀l x r,h' l->ps l=some (x,r)->g0 l (cb x) r):∀(n:Nat) (l:Tk) (xs:List bE) (r:Tk),h' l->nQ ps n l=some (xs,r)->g0 l (iG xs++[[125]]) r
 | 0,_,_,_,_,h=>by cases h
 | n+1,l,xs,r,c,h=>by
   unfold nQ at h
   cases a:bQ [125] l with
   | some q=>
     rw [a] at h;simp only [eY,dC] at h;obtain ⟨rfl,rfl⟩:=h;exact (gt c au a).cast (by simp [iG])
   | none=>
     rw [a] at h;obtain ⟨⟨s,q⟩,f,g⟩:=cN.1 h;obtain ⟨⟨ys,i⟩,j,d⟩:=dX.1 g;simp only [dC] at d;obtain ⟨rfl,rfl⟩:=d;have e:=b l s q c f;exact (e.trans (KG b n q ys i e.ok j)).cast (by simp [iG])
def y4:∀f,Fb (hq f)
 | 0=>λ_ _ _ _ h=>by cases h
 | f+1=>by
   intro l x r a h;unfold hq at h;obtain ⟨q,c,d⟩:=cN.1 h;have b:=gt a au c;exact (b.trans (KG (λl x r a h=>Fc (y4 f) a h) _ q x r b.ok d)).cast (by simp [ld,oJ])
def y5 (d:de):List Tx:=sj d++[[59]]
variable {dh:Bool}
def KH {d:de} (p:h' aj) (h:hQ dh aj=some (some d,bS)):g0 aj (y5 d) bS/\d.ao=dh:=by
 unfold hQ at h
 cases r:bQ kM aj with
 | some q=>
   rw [r] at h;obtain ⟨⟨a,u⟩,i,e⟩:=cN.1 h;obtain ⟨v,j,k⟩:=cN.1 e;obtain ⟨⟨n,x⟩,g,s⟩:=cN.1 k;obtain ⟨y,t,m⟩:=dX.1 s;simp only [dC,eY] at m;obtain ⟨rfl,rfl⟩:=m;have b:=gt p bf r;have c:=(rl b.ok i).1;have f:=gt c.ok au j;have l:=E' f.ok g;have o:=gt l.ok au t;exact ⟨((((b.trans c).trans f).trans l).trans o).cast (by simp [y5,sj]),O⟩
 | none=>
   rw [r] at h;simp only at h
   cases i:bQ kN aj with
   | some q=>
     rw [i] at h;obtain ⟨⟨a,u⟩,e,j⟩:=cN.1 h;obtain ⟨v,k,g⟩:=dX.1 j;simp only [dC,eY] at g;obtain ⟨rfl,rfl⟩:=g;have b:=gt p bf i;have c:=(rl b.ok e).1;have f:=gt c.ok au k;exact ⟨((b.trans c).trans f).cast (by simp [y5,sj]),O⟩
   | none=>
     rw [i] at h;simp only at h
     cases e:bQ kO aj with
     | some q=>
       rw [e] at h;obtain ⟨⟨a,u⟩,j,k⟩:=cN.1 h;obtain ⟨v,g,s⟩:=cN.1 k;obtain ⟨⟨n,x⟩,t,m⟩:=cN.1 s;obtain ⟨y,z,A⟩:=cN.1 m;obtain ⟨D,B,w⟩:=dX.1 A;simp only [dC,eY] at w;obtain ⟨rfl,rfl⟩:=w;have b:=gt p bf e;have c:=(rl b.ok j).1;have f:=gt c.ok au g;have l:=E' f.ok t;have o:=gt l.ok au z;have C:=gt o.ok au B;exact ⟨(((((b.trans c).trans f).trans l).trans o).trans C).cast (by simp [y5,sj]),O⟩
     | none=>
       rw [e] at h;simp at h
def Fe (h:hQ dh aj=some (none,bS)):bS=aj:=by
 unfold hQ at h
 split at h
 · obtain ⟨_,_,h⟩:=cN.1 h
   obtain ⟨_,_,h⟩:=cN.1 h;obtain ⟨_,_,h⟩:=cN.1 h;obtain ⟨_,_,h⟩:=dX.1 h;simp at h
 · split at h
   · obtain ⟨_,_,h⟩:=cN.1 h
     obtain ⟨_,_,h⟩:=dX.1 h;simp at h
   · split at h
     · obtain ⟨_,_,h⟩:=cN.1 h
       obtain ⟨_,_,h⟩:=cN.1 h;obtain ⟨_,_,h⟩:=cN.1 h;obtain ⟨_,_,h⟩:=cN.1 h;obtain ⟨_,_,h⟩:=dX.1 h;simp at h
     · simp at h; exact h.symm
def KI:∀(n:Nat) (first:Bool) (l:Tk) (xs:List Tx) (r:Tk),h' l->jY n first l=some (xs,r)->g0 l ((if first=true\/xs=[] then [] else [[44]])++jh (xs.map λs=>[s])++[[41]]) r
 | 0,_,_,_,_,_,h=>by cases h
 | n+1,first,l,xs,r,b,h=>by
   unfold jY at h
   cases c:bQ [41] l with
   | some q=>
     rw [c] at h;simp only [eY,dC] at h;obtain ⟨rfl,rfl⟩:=h;exact (gt b au c).cast (by simp [jh])
   | none=>
     rw [c] at h;obtain ⟨i,d,j⟩:=cN.1 h;obtain ⟨⟨a,q⟩,k,m⟩:=cN.1 j;obtain ⟨⟨ys,o⟩,p,e⟩:=dX.1 m;simp only [dC] at e;obtain ⟨rfl,rfl⟩:=e
     have f:g0 l (if first=true then [] else [[44]]) i:=by
       cases first with
       | true=>
         simp only [cv,eY] at d;subst d; exact g0.nil b
       | false=>exact gt b au d
     have g:=(rl f.ok k).1;have t:=KI n false q ys o g.ok p;refine ((f.trans g).trans t).cast ?_
     cases ys with
     | nil=>cases first<;>simp [jh]
     | cons y ys=>cases first<;>simp [jh]
def KJ:∀(n:Nat) (l:Tk) (xs:List Tx) (r:Tk),h' l->l8 n l=some (xs,r)->g0 l (xs.flatMap pr) r
 | 0,_,_,_,_,h=>by cases h
 | n+1,l,xs,r,c,h=>by
   unfold l8 at h
   cases b:bQ rf l with
   | none=>
     rw [b] at h;simp only [eY,dC] at h;obtain ⟨rfl,rfl⟩:=h;exact g0.nil c
   | some q=>
     rw [b] at h;obtain ⟨⟨a,t⟩,i,j⟩:=cN.1 h;obtain ⟨k,m,o⟩:=cN.1 j;obtain ⟨⟨ys,p⟩,s,d⟩:=dX.1 o;simp only [dC] at d;obtain ⟨rfl,rfl⟩:=d;have e:=gt c bf b;have f:=(rl e.ok i).1;have g:=gt f.ok au m;exact (((e.trans f).trans g).trans (KJ n k ys p g.ok s)).cast (by simp [pr])
def Ff (p:eI):List Tx:=[p.nm,[40]]++jh (p.params.map λs=>[s])++[[41]]++p.aH.flatMap pr++ld p.body
def yI {p:eI} (i:h' aj) (h:jZ dh aj=some (p,bS)):g0 aj (Ff p) bS/\p.ao=dh:=by
 unfold jZ at h;obtain ⟨⟨a,u⟩,j,k⟩:=cN.1 h;obtain ⟨v,l,m⟩:=cN.1 k;obtain ⟨⟨ps,w⟩,n,o⟩:=cN.1 m;obtain ⟨⟨x,y⟩,q,r⟩:=cN.1 o;obtain ⟨⟨b,z⟩,s,c⟩:=dX.1 r;simp only [dC] at c;obtain ⟨rfl,rfl⟩:=c;have d:=(rl i j).1;have e:=gt d.ok au l;have f:=KI _ _ _ _ _ e.ok n;have g:=KJ _ _ _ _ f.ok q;have t:=y4 6 _ _ _ g.ok s;exact ⟨((((d.trans e).trans f).trans g).trans t).cast (by simp [Ff]),O⟩
end Go.Bw
end
section
namespace Go.Bw
open Go
def TW (l:List Tx):Tk:=l.map ql
structure Stop (q:Tk):Prop where
 dot:bQ [46] q=none
 br:bQ [91] q=none
 pa:bQ [40] q=none
end Go.Bw
end
section
namespace Go.Bw
open Go
variable {bZ:Tx} {aj bS:Tk}
def KL (a:h' aj) (h:bQ bZ aj=some bS):h' bS:=by
 cases aj with
 | nil=>cases h
 | cons t q=>
   simp only [bQ] at h
   split at h
   · injection h with h; subst h; exact λx b=>a x (cz _ b)
   · cases h
def S3 {a:Tk->Option (List bE×Tk)} (b:Fb a)  {x:bE} (c:h' aj) (h:aY a aj=some (x,bS)):bS.length<aj.length:=by
 have e:=(Fc b c h).2;have d:=ye x;rw [e]
 cases f:cb x with
 | nil=>exact absurd f d
 | cons w g=>simp; omega
def rm:cm:=⟨[],[],[],[],[]⟩
def j0 (s:Tx):cm×Int:=if (gm s).2≠0 then (rm,(gm s).2) else match mH (gm s).1 with
 | some (m,[])=>if iA m=0 then (m,0) else (rm,1)
 | _=>(rm,1)
def S4 (h:(gm bZ).2=0):h' (gm bZ).1:=(Ia (Ib h)).1
variable {bp:cm}
def S5 (h:(jP bp).b6=0):h' (TW (oK bp)):=by
 intro t a;obtain ⟨w,b,rfl⟩:=oZ.1 a;exact (KC h w b).1
def BD:iA bp=0↔(jP bp).b6=0:=SN
end Go.Bw
end
