/- LinkSame: the code of a program does what the program means (proved in the second form, bulk at most 1048576). -/
import Derived.Test.YtgeahfjicmlocaaGreatDoorM5
set_option linter.unusedVariables false
set_option linter.unusedSimpArgs false
set_option linter.defProp false
section
namespace Go.Proofs.YtgeahfjicmlocaaGreatDoor
open Go.Bw Go.Proofs.Tryz
def Oe (f:View) (b:Nat) (d:iM) (ke k:Nat):Prop:=∀(l:List c_) (a:Option Addr) (c:Nat) (t:cG) (w:World),Sl (gG ke k) 7 f a c l->ej l->t.g.code.length+8*a_ l<=1000000000000->t.g.fix.length+8*a_ l<=1000000000000->
 Ws w (List.flatMap aQ.ids<|cj 190 62 198 b d t) (cj 190 62 198 b d t) [f] w->Calls prog 166 #[.pointer (some ⟨b,0,none⟩),.slice a l.length c] w λe h=>∃q:SP×SP,e = .returned (.tuple #[])/\Ws w (List.flatMap aQ.ids<|cj 190 62 198 b d t) (cj 190 62 198 b d ⟨cn l t.g,q.1,q.2⟩) [f] h
def Zj (j:Nat) (o:iM) (t:cG) (A:View) (ke k:Nat) (x:c_) (r:sg) (w:World) (aw:Oe A j o ke k) (l:Sl (ie ke) 5 A r.s1.1 r.s1.2 x.args) (p:Sl (gG ke k) 7 A r.s2.1 r.s2.2 x.body) (ak:Sl (gG ke k) 7 A r.s3.1 r.s3.2 x.other) (B:B3 x) (bI:t.g.code.length+8*mr x<=1000000000000) (bJ:t.g.fix.length+8*mr x<=1000000000000) (b:Ws w (List.flatMap aQ.ids<|cj 190 62 198 j o t) (cj 190 62 198 j o t) [A] w) :
   Calls prog 237 #[.pointer (some ⟨j,0,none⟩),.agg (de x r).toArray] w λe s=>∃q:SP×SP,e = .returned (.tuple #[])/\Ws w (List.flatMap aQ.ids<|cj 190 62 198 j o t) (cj 190 62 198 j o ⟨jQ x t.g,q.1,q.2⟩) [A] s:=by
 have hN:∀k2,Af A j o k2:=λk2 x a c t w l p ak a5 a6=>W9 j o t A k2 x a c w l p ak a5 a6;have bK:=l.cap;have bL:=l.max;have bM:=ak.cap;have bN:=ak.max;have bO:=Rk x;refine enter func237 O 155 O O ?_;refine CE b<|ae ?_;refine WL.box Y O O λbP=>?_;refine ad<|ae<|I (Yf z8 O)<|I (Yd 0 O O O ab)<|ad<|Cb<|ae<|I (bz O O)<|ag O<|ad ?_;refine Cc O (λax=>?_)<|λax=>?_
 ·have E:x.op=1:=by simpa using ax
  refine Cs ?_;have au:=B.parts.2.2.2.1 (by omega);obtain ⟨y,u⟩:∃y,x.args[0]? = some y:=⟨_,c6 (by omega)⟩;obtain ⟨al,am,H,C⟩:=l.b5 0 y u
  obtain ⟨k2,rfl⟩:∃k2,ke=k2+1:=by
    cases ke with
    | zero=>exact C.elim
    | succ k2=>exact ⟨k2,rfl⟩
  obtain ⟨J,K,L,M⟩:=C;have F:=hN k2;have N:=B.parts.1.at_ u;have an:=v_ u;have v:=mY y t.g;have ah:=v.hi;have ai:=v.ij;have ap:=v.lo;refine Cr<|ac O<|I (Yf lD O)<|I (Yd 0 O O O ab)<|I (Yo (i:=0) hc O O H (by omega))<|I (dz 0 gS O O O<|L)<|Lf 3 O<|Lf 3 O ?_;refine Lf 3 O ?_;refine Lw (ι:=SP×SP) [_,_,_] _ Y O aF O O (λ_=>.tuple #[]) (λq=>(cj 190 62 198 j o ⟨aP y t.g,q.1,q.2⟩)) (λ_=>True) [A] (by simp) (λw b=>(F y J K t w M N (by show (t.g).code.length+8*e7 y<=_; (try simp only [dA]); omega) (by show (t.g).fix.length+8*e7 y<=_; (try simp only [dA]); omega) b).mono λe s ⟨q,l,p⟩=>⟨q,l,trivial,p⟩) ?_;intro S _;refine ad<|ae<|I (Yf mK O)<|I (Yd 3 O O O ab)<|I (cI O O)<|ad ?_;refine Cc O (λay=>?_)<|λay=>?_
  ·have az:x.m<0:=by simpa using ay
   refine Cr<|ac O<|I (Yf cf O)<|I (Yd 3 O O O ab)<|I (Yb h3 iD O O) ?_;refine Lb Y O jo O O O O λa7=>?_;refine WL.kO (rd:=bt) (f:=ao.cells) (k:=3) (m:=1) 0 [⟨3,x.pl,0⟩] O O ao.cD (λ_ _ _ _ h=>h) (by simp) (by decide) λaR a8=>?_;refine Lw (ι:=SP) [_,_,_] _ Y O aF O O (λ_=>.tuple #[]) (λq=>(cj 190 62 198 j o ⟨bi [⟨3,x.pl,0⟩] (⟨(aP y t.g),S.1,S.2⟩:cG).g,q,(⟨(aP y t.g),S.1,S.2⟩:cG).fa⟩)) (λ_=>True) [aR] (by simp) (λw b=>(lG j o (⟨(aP y t.g),S.1,S.2⟩:cG) aR (some ⟨a7,0,none⟩) 1 [⟨3,x.pl,0⟩] w a8 (by show ((aP y t.g)).code.length+[⟨3,x.pl,0⟩].length<=_; (try simp only [dA]); omega) b).mono λe s ⟨q,l,p⟩=>⟨q,l,trivial,p⟩) ?_;intro a9 _;refine Ln<|Eb ?_;refine E0 O λs b=>?_
   have D:jQ x t.g=bi [⟨3,x.pl,0⟩] (aP y t.g):=by
     rw [sp,bo,ZZ E,ZZ az,mx u]
   rw [D];exact ⟨(a9,S.2),O,Wv 1<|Wt 3 b⟩
  have az:¬x.m<0:=by simpa using ay
  refine Cr<|ac O<|I (Yf cf O)<|I (Yd 3 O O O ab)<|I (Yb h3 iD O O)<|I (Yf mK O)<|I (Yd 3 O O O ab) ?_;refine Lw (ι:=SP×SP) [_,_,_] _ Y O aF O O (λ_=>.int .i64 ((aP y t.g).code.length:Int)) (λq=>(cj 190 62 198 j o ⟨aS ⟨5,x.pl,0⟩ 3 x.m<|aP y t.g,q.1,q.2⟩)) (λ_=>True) [] (by simp) (λw b=>(xV j o (⟨(aP y t.g),S.1,S.2⟩:cG)  ⟨5,x.pl,0⟩ 3 x.m w  (by show ((aP y t.g)).code.length+1<=_; (try simp only [dA]); omega) (by show ((aP y t.g)).fix.length+1<=_; (try simp only [dA]); omega) b).mono λe s ⟨q,l,p⟩=>⟨q,l,trivial,p⟩) ?_;intro aT _;refine Ln<|Eb ?_;refine E0 O λs b=>?_
  have D:jQ x t.g=aS ⟨5,x.pl,0⟩ 3 x.m (aP y t.g):=by
    rw [sp,bo,ZZ E,ZX az,mx u]
  rw [D];exact ⟨(aT.1,aT.2),O,Wt 3 b⟩
 have V:¬x.op=1:=by simpa using ax
 refine ae<|I (bz O O)<|ag O<|ad ?_;refine Cc O (λaA=>?_)<|λaA=>?_
 ·have E:x.op=2:=by simpa using aA
  refine Cs ?_;have bQ:=B.parts.2.2.2.2.1 (by omega);obtain ⟨y,u⟩:∃y,x.args[0]? = some y:=⟨_,c6 (by omega)⟩;obtain ⟨al,am,H,C⟩:=l.b5 0 y u;obtain ⟨z,av⟩:∃y,x.args[1]? = some y:=⟨_,c6 (by omega)⟩;obtain ⟨bR,bS,a',ba⟩:=l.b5 1 z av
  obtain ⟨k2,rfl⟩:∃k2,ke=k2+1:=by
    cases ke with
    | zero=>exact C.elim
    | succ k2=>exact ⟨k2,rfl⟩
  obtain ⟨J,K,L,M⟩:=C;have F:=hN k2;have N:=B.parts.1.at_ u;have an:=v_ u;have v:=mY y t.g;have ah:=v.hi;have ai:=v.ij;have ap:=v.lo;obtain ⟨bb,bc,bd,be⟩:=ba;have bf:=B.parts.1.at_ av;have bT:=Hp u av;have aB:=mY z (aS ⟨6,x.pl,x.n⟩ 3 x.m<|aP y t.g);have bg:=aB.hi;have bh:=aB.ij;have bj:=aB.lo
  try simp only [dA] at bg bh bj
  refine CU (λ_=>true) [1,1,1] [] (.q false 0<|.q false 1<|.q true 2<|.q false 3<|.q true 4<|.q false 5<|.q true 6<|.q false 7<|.q true 8<|.q false 9<|.q true 10<|.e 11 .nil .stop) mixed (by kernel_rfl) (λ_ _ _ d _ _ h=>by cases d<;>exact h) ?_;refine U0 O (ct [1,1,1]) (Ym O)<|U0 O (ct [1,1,1]) (Yf mK O)<|U0 O (ct [1,1,1]) (Yd 0 O O O ab)<|U0 O (ct [1,1,1]) (Yf cf O)<|U0 O (ct [1,1,1]) (Yd 0 O O O ab)<|U0 O (ct [1,1,1]) (Yf uj O)<|U0 O (ct [1,1,1]) (Yd 0 O O O ab)<|U0 O (ct [1,1,1]) (Yf lD O) ?_;refine U0 O (ct [1,1,1]) (Yd 0 O O O ab)<|U0 O (ct [1,1,1]) (Yo (i:=0) hc O O H (by omega))<|U0 O (ct [1,1,1]) (dz 0 gS O O O<|L) ?_;refine Ue O (ct [1,1,1]) ?_ WU.stop;refine Lf 3 O<|Lf 3 O<|Lf 3 O ?_;refine Lw (ι:=SP×SP) [_,_,_] _ Y O aF O O (λ_=>.tuple #[]) (λq=>(cj 190 62 198 j o ⟨aS ⟨6,x.pl,x.n⟩ 3 x.m<|aP y t.g,q.1,q.2⟩)) (λ_=>True) [A] (by simp) (λw b=>(Od j o t A k2 x.m x.pl x.n y J K w F M N (by omega) (by omega) b).mono λe s ⟨q,l,p⟩=>⟨q,l,trivial,p⟩) ?_;intro aU _;refine Ln<|Eu ?_;refine WU.nil (λ_ h=>(Wo 1 (Wo 1<|Wo 1<|h.f 3 O):)) ?_;refine WS.nil ?_;refine Et<|ae<|ac O<|I (Yf lD O)<|I (Yd 3 O O O ab)<|I (Yo (i:=1) hc O O a' (by omega))<|I (dz 0 gS O O O<|bd) ?_;refine Lw (ι:=SP×SP) [_,_,_] _ Y O aF O O (λ_=>.tuple #[]) (λq=>(cj 190 62 198 j o ⟨aP z<|aS ⟨6,x.pl,x.n⟩ 3 x.m<|aP y t.g,q.1,q.2⟩)) (λ_=>True) [A] (by simp) (λw b=>(F z bb bc (⟨(aS ⟨6,x.pl,x.n⟩ 3 x.m<|aP y t.g),aU.1,aU.2⟩:cG) w be bf (by show ((aS ⟨6,x.pl,x.n⟩ 3 x.m<|aP y t.g)).code.length+8*e7 z<=_; (try simp only [dA]); omega) (by show ((aS ⟨6,x.pl,x.n⟩ 3 x.m<|aP y t.g)).fix.length+8*e7 z<=_; (try simp only [dA]); omega) b).mono λe s ⟨q,l,p⟩=>⟨q,l,trivial,p⟩) ?_;intro W _;refine ad<|Cr<|ac O<|I (Yb h3 iD O O) ?_;refine Lb Y O jo O O O O λbk=>?_;refine WL.kO (rd:=bt) (f:=ao.cells) (k:=3) (m:=1) 0 [⟨8,0,0⟩] O O ao.cD (λ_ _ _ _ h=>h) (by simp) (by decide) λaV bl=>?_;refine Lw (ι:=SP) [_,_,_] _ Y O aF O O (λ_=>.tuple #[]) (λq=>(cj 190 62 198 j o ⟨bi [⟨8,0,0⟩] (⟨(aP z<|aS ⟨6,x.pl,x.n⟩ 3 x.m<|aP y t.g),W.1,W.2⟩:cG).g,q,(⟨(aP z<|aS ⟨6,x.pl,x.n⟩ 3 x.m<|aP y t.g),W.1,W.2⟩:cG).fa⟩)) (λ_=>True) [aV] (by simp) (λw b=>(lG j o (⟨(aP z<|aS ⟨6,x.pl,x.n⟩ 3 x.m<|aP y t.g),W.1,W.2⟩:cG) aV (some ⟨bk,0,none⟩) 1 [⟨8,0,0⟩] w bl (by show ((aP z<|aS ⟨6,x.pl,x.n⟩ 3 x.m<|aP y t.g)).code.length+[⟨8,0,0⟩].length<=_; (try simp only [dA]); omega) b).mono λe s ⟨q,l,p⟩=>⟨q,l,trivial,p⟩) ?_;intro bm _;refine Ln<|Eb ?_;refine E0 O λs b=>?_
  have D:jQ x t.g=bi [⟨8,0,0⟩] (aP z<|aS ⟨6,x.pl,x.n⟩ 3 x.m<|aP y t.g):=by
    rw [sp,bo,ZX V,ZZ E,mx u,mx av]
  rw [D];exact ⟨(bm,W.2),O,Wv 1<|Wt 3 b⟩
 have aj:¬x.op=2:=by simpa using aA
 refine ae<|I (bz O O)<|ag O<|ad ?_;refine Cc O (λaC=>?_)<|λaC=>?_
 ·have E:x.op=3:=by simpa using aC
  refine Cs ?_;have aW:=kU x.args t.g;have ah:=aW.hi;have ai:=aW.ij;refine Cr<|ac O<|I (Yf mK O)<|I (Yd 0 O O O ab)<|I (Yf cf O)<|I (Yd 0 O O O ab)<|I (Yf lD O)<|I (Yd 0 O O O ab) ?_;refine Lf 3 O<|Lf 3 O<|Lf 3 O ?_;refine Lw (ι:=SP×SP) [_,_,_] _ Y O aF O O (λ_=>.tuple #[]) (λq=>(cj 190 62 198 j o ⟨aS ⟨13,x.pl,0⟩ 2 x.m<|gJ x.args t.g,q.1,q.2⟩)) (λ_=>True) [A] (by simp) (λw b=>(Oc j o t A ke x.m x.pl x.args r.s1.1 r.s1.2 w (λk2 _=>hN k2) l B.parts.1 (by omega) (by omega) b).mono λe s ⟨q,l,p⟩=>⟨q,l,trivial,p⟩) ?_;intro X _;refine ad<|Cr<|ac O<|I (Yb h3 iD O O) ?_;refine Lb Y O jo O O O O λbn=>?_;refine WL.kO (rd:=bt) (f:=ao.cells) (k:=3) (m:=1) 0 [⟨17,0,0⟩] O O ao.cD (λ_ _ _ _ h=>h) (by simp) (by decide) λaX bp=>?_;refine Lw (ι:=SP) [_,_,_] _ Y O aF O O (λ_=>.tuple #[]) (λq=>(cj 190 62 198 j o ⟨bi [⟨17,0,0⟩] (⟨(aS ⟨13,x.pl,0⟩ 2 x.m<|gJ x.args t.g),X.1,X.2⟩:cG).g,q,(⟨(aS ⟨13,x.pl,0⟩ 2 x.m<|gJ x.args t.g),X.1,X.2⟩:cG).fa⟩)) (λ_=>True) [aX] (by simp) (λw b=>(lG j o (⟨(aS ⟨13,x.pl,0⟩ 2 x.m<|gJ x.args t.g),X.1,X.2⟩:cG) aX (some ⟨bn,0,none⟩) 1 [⟨17,0,0⟩] w bp (by show ((aS ⟨13,x.pl,0⟩ 2 x.m<|gJ x.args t.g)).code.length+[⟨17,0,0⟩].length<=_; (try simp only [dA]); omega) b).mono λe s ⟨q,l,p⟩=>⟨q,l,trivial,p⟩) ?_;intro bq _;refine Ln<|Eb ?_;refine E0 O λs b=>?_
  have D:jQ x t.g=bi [⟨17,0,0⟩] (aS ⟨13,x.pl,0⟩ 2 x.m<|gJ x.args t.g):=by
    rw [sp,bo,ZX V,ZX aj,ZZ E,yZ]
  rw [D];exact ⟨(bq,X.2),O,Wv 1<|Wt 3 b⟩
 have ar:¬x.op=3:=by simpa using aC
 refine ae<|I (bz O O)<|ag O<|ad ?_;refine Cc O (λaD=>?_)<|λaD=>?_
 ·have E:x.op=4:=by simpa using aD
  refine Cs ?_;have au:=B.parts.2.2.2.1 (by omega);obtain ⟨y,u⟩:∃y,x.args[0]? = some y:=⟨_,c6 (by omega)⟩;obtain ⟨al,am,H,C⟩:=l.b5 0 y u
  obtain ⟨k2,rfl⟩:∃k2,ke=k2+1:=by
    cases ke with
    | zero=>exact C.elim
    | succ k2=>exact ⟨k2,rfl⟩
  obtain ⟨J,K,L,M⟩:=C;have F:=hN k2;have N:=B.parts.1.at_ u;have an:=v_ u;have v:=mY y t.g;have ah:=v.hi;have ai:=v.ij;have ap:=v.lo;have Z:=sq x.body (aS ⟨12,0,0⟩ 1 0<|aP y t.g);have aE:=Z.hi;have aG:=Z.ij;have aH:=Z.lo
  try simp only [dA] at aE aG aH
  have aI:=sq x.other (cF ((aP y t.g).code.length)<|aS ⟨11,0,0⟩ 1 0<|cn x.body<|aS ⟨12,0,0⟩ 1 0<|aP y t.g);have br:=aI.hi;have bs:=aI.ij;have bu:=aI.lo
  try simp only [dA] at br bs bu
  refine Cr<|ac O<|I (Yf lD O)<|I (Yd 0 O O O ab)<|I (Yo (i:=0) hc O O H (by omega))<|I (dz 0 gS O O O<|L)<|Lf 3 O<|Lf 3 O ?_;refine Lf 3 O ?_;refine Lw (ι:=SP×SP) [_,_,_] _ Y O aF O O (λ_=>.tuple #[]) (λq=>(cj 190 62 198 j o ⟨aP y t.g,q.1,q.2⟩)) (λ_=>True) [A] (by simp) (λw b=>(F y J K t w M N (by show (t.g).code.length+8*e7 y<=_; (try simp only [dA]); omega) (by show (t.g).fix.length+8*e7 y<=_; (try simp only [dA]); omega) b).mono λe s ⟨q,l,p⟩=>⟨q,l,trivial,p⟩) ?_;intro aY _;refine ad<|ae<|ac O ?_;refine Lw (ι:=(SP×SP)×Nat×Nat) [_,_,_] _ Y O aF O O (λq=>.func (.func 333) #[] #[.pointer (some ⟨q.2.1,0,none⟩),.pointer (some ⟨q.2.2,0,none⟩)]) (λq=>(cj 190 62 198 j o ⟨aS ⟨12,0,0⟩ 1 0<|aP y t.g,q.1.1,q.1.2⟩)++[aq q.2.1 (.cells #[.pointer (some ⟨j,0,none⟩)] 188 (0,0)),aq q.2.2 (.cells #[.int .i64 ((aP y t.g).code.length:Int)] 3 (0,0))]) (λ_=>True) [] (by simp) (λw b=>(v' j o (⟨(aP y t.g),aY.1,aY.2⟩:cG) 12 w (by show ((aP y t.g)).code.length+1<=_; (try simp only [dA]); omega) (by show ((aP y t.g)).fix.length+1<=_; (try simp only [dA]); omega) b).mono λe s ⟨q,l,p⟩=>⟨q,l,trivial,p⟩) ?_;intro Q _;refine ag O<|ad<|ae<|ac O<|I (Yf v7 O)<|I (Yd 5 O O O ab) ?_;refine Lw (ι:=SP×SP) [_,_,_] _ Y O aF O O (λ_=>.tuple #[]) (λq=>(cj 190 62 198 j o ⟨cn x.body<|aS ⟨12,0,0⟩ 1 0<|aP y t.g,q.1,q.2⟩)) (λ_=>True) [A] (by simp) (λw b=>(aw x.body r.s2.1 r.s2.2 (⟨(aS ⟨12,0,0⟩ 1 0<|aP y t.g),Q.1.1,Q.1.2⟩:cG) w p (B.parts.2.1 (by omega)) (by show ((aS ⟨12,0,0⟩ 1 0<|aP y t.g)).code.length+8*a_ x.body<=_; (try simp only [dA]); omega) (by show ((aS ⟨12,0,0⟩ 1 0<|aP y t.g)).fix.length+8*a_ x.body<=_; (try simp only [dA]); omega) b).mono λe s ⟨q,l,p⟩=>⟨q,l,trivial,p⟩) ?_;intro R _;refine ad<|Cs<|ae<|I (Yf uk O)<|I (Yd 5 O O O ab)<|I (Yn p8 O)<|I (eh O O)<|ad ?_;refine Cc O (λaJ=>?_)<|λaJ=>?_
  ·have aK:0<x.other.length:=by simpa using aJ
   refine ae<|ac O ?_;refine Lw (ι:=(SP×SP)×Nat×Nat) [_,_,_] _ Y O aF O O (λq=>.func (.func 333) #[] #[.pointer (some ⟨q.2.1,0,none⟩),.pointer (some ⟨q.2.2,0,none⟩)]) (λq=>(cj 190 62 198 j o ⟨aS ⟨11,0,0⟩ 1 0<|cn x.body<|aS ⟨12,0,0⟩ 1 0<|aP y t.g,q.1.1,q.1.2⟩)++[aq q.2.1 (.cells #[.pointer (some ⟨j,0,none⟩)] 188 (0,0)),aq q.2.2 (.cells #[.int .i64 ((cn x.body<|aS ⟨12,0,0⟩ 1 0<|aP y t.g).code.length:Int)] 3 (0,0))]) (λ_=>True) [] (by simp) (λw b=>(v' j o (⟨(cn x.body<|aS ⟨12,0,0⟩ 1 0<|aP y t.g),R.1,R.2⟩:cG) 11 w (by show ((cn x.body<|aS ⟨12,0,0⟩ 1 0<|aP y t.g)).code.length+1<=_; (try simp only [dA]); omega) (by show ((cn x.body<|aS ⟨12,0,0⟩ 1 0<|aP y t.g)).fix.length+1<=_; (try simp only [dA]); omega) b).mono λe s ⟨q,l,p⟩=>⟨q,l,trivial,p⟩) ?_;intro G _;refine ag O<|ad<|ae<|ac O<|Lf 6 O<|Lf 6 O<|Lf 4 O<|Lf 4 O<|Lf 4 O ?_;refine WL.gY (ι:=Unit) [_,_,_,_,_] _ Y O aF O O O (λ_=>.tuple #[]) (λ_=>(cj 190 62 198 j o ⟨cF ((aP y t.g).code.length)<|aS ⟨11,0,0⟩ 1 0<|cn x.body<|aS ⟨12,0,0⟩ 1 0<|aP y t.g,(⟨(aS ⟨11,0,0⟩ 1 0<|cn x.body<|aS ⟨12,0,0⟩ 1 0<|aP y t.g),G.1.1,G.1.2⟩:cG).ca,(⟨(aS ⟨11,0,0⟩ 1 0<|cn x.body<|aS ⟨12,0,0⟩ 1 0<|aP y t.g),G.1.1,G.1.2⟩:cG).fa⟩)++[aq Q.2.1 (.cells #[.pointer (some ⟨j,0,none⟩)] 188 (0,0)),aq Q.2.2 (.cells #[.int .i64 ((aP y t.g).code.length:Int)] 3 (0,0))]) (λ_=>True) [] (by simp) (λw b=>(uq j o (⟨(aS ⟨11,0,0⟩ 1 0<|cn x.body<|aS ⟨12,0,0⟩ 1 0<|aP y t.g),G.1.1,G.1.2⟩:cG) Q.2.1 Q.2.2 ((aP y t.g).code.length) _ w (c6 (by show (aP y t.g).code.length<((aS ⟨11,0,0⟩ 1 0<|cn x.body<|aS ⟨12,0,0⟩ 1 0<|aP y t.g)).code.length; (try simp only [dA]); omega)) b).mono λe s h=>⟨(),h.1,trivial,h.2⟩) ?_;intro _ _;refine ad<|ae<|ac O<|I (Yf uk O)<|I (Yd 7 O O O ab) ?_;refine Lw (ι:=SP×SP) [_,_,_] _ Y O aF O O (λ_=>.tuple #[]) (λq=>(cj 190 62 198 j o ⟨cn x.other<|cF ((aP y t.g).code.length)<|aS ⟨11,0,0⟩ 1 0<|cn x.body<|aS ⟨12,0,0⟩ 1 0<|aP y t.g,q.1,q.2⟩)) (λ_=>True) [A] (by simp) (λw b=>(aw x.other r.s3.1 r.s3.2 (⟨(cF ((aP y t.g).code.length)<|aS ⟨11,0,0⟩ 1 0<|cn x.body<|aS ⟨12,0,0⟩ 1 0<|aP y t.g),G.1.1,G.1.2⟩:cG) w ak B.parts.2.2.1 (by show ((cF ((aP y t.g).code.length)<|aS ⟨11,0,0⟩ 1 0<|cn x.body<|aS ⟨12,0,0⟩ 1 0<|aP y t.g)).code.length+8*a_ x.other<=_; (try simp only [dA]); omega) (by show ((cF ((aP y t.g).code.length)<|aS ⟨11,0,0⟩ 1 0<|cn x.body<|aS ⟨12,0,0⟩ 1 0<|aP y t.g)).fix.length+8*a_ x.other<=_; (try simp only [dA]); omega) b).mono λe s ⟨q,l,p⟩=>⟨q,l,trivial,p⟩) ?_;intro T _;refine ad<|Cr<|ac O<|ag O<|ad<|Cr<|ac O<|Lf 6 O<|Lf 6 O<|Lf 4 O ?_;refine Lf 4 O<|Lf 4 O ?_
   refine WL.gY (ι:=Unit) [_,_,_,_,_] _ Y O aF O O O (λ_=>.tuple #[]) (λ_=>(cj 190 62 198 j o ⟨cF ((cn x.body<|aS ⟨12,0,0⟩ 1 0<|aP y t.g).code.length)<|cn x.other<|cF ((aP y t.g).code.length)<|aS ⟨11,0,0⟩ 1 0<|cn x.body<|aS ⟨12,0,0⟩ 1 0<|aP y t.g,(⟨(cn x.other<|cF ((aP y t.g).code.length)<|aS ⟨11,0,0⟩ 1 0<|cn x.body<|aS ⟨12,0,0⟩ 1 0<|aP y t.g),T.1,T.2⟩:cG).ca,(⟨(cn x.other<|cF ((aP y t.g).code.length)<|aS ⟨11,0,0⟩ 1 0<|cn x.body<|aS ⟨12,0,0⟩ 1 0<|aP y t.g),T.1,T.2⟩:cG).fa⟩)++[aq G.2.1 (.cells #[.pointer (some ⟨j,0,none⟩)] 188 (0,0)),aq G.2.2 (.cells #[.int .i64 ((cn x.body<|aS ⟨12,0,0⟩ 1 0<|aP y t.g).code.length:Int)] 3 (0,0))]) (λ_=>True) [] (by simp) (λw b=>(uq j o (⟨(cn x.other<|cF ((aP y t.g).code.length)<|aS ⟨11,0,0⟩ 1 0<|cn x.body<|aS ⟨12,0,0⟩ 1 0<|aP y t.g),T.1,T.2⟩:cG) G.2.1 G.2.2 ((cn x.body<|aS ⟨12,0,0⟩ 1 0<|aP y t.g).code.length) _ w (c6 (by show (cn x.body<|aS ⟨12,0,0⟩ 1 0<|aP y t.g).code.length<((cn x.other<|cF ((aP y t.g).code.length)<|aS ⟨11,0,0⟩ 1 0<|cn x.body<|aS ⟨12,0,0⟩ 1 0<|aP y t.g)).code.length; (try simp only [dA]); omega)) b).mono λe s h=>⟨(),h.1,trivial,h.2⟩) ?_;intro _ _;refine Ln<|Eb ?_;refine E0 O λs b=>?_
   have D:jQ x t.g=cF ((cn x.body<|aS ⟨12,0,0⟩ 1 0<|aP y t.g).code.length) (cn x.other<|cF ((aP y t.g).code.length)<|aS ⟨11,0,0⟩ 1 0<|cn x.body<|aS ⟨12,0,0⟩ 1 0<|aP y t.g):=by
     rw [sp,bo,ZX V,ZX aj,ZX ar,ZZ E,mx u];unfold so;rw [ZZ aK]
   rw [D];exact ⟨(T.1,T.2),O,Wt 3 b⟩
  have aK:¬0<x.other.length:=by simpa using aJ
  refine bW<|Cr<|ac O ?_;refine WL.gY (ι:=Unit) [_,_,_,_,_] _ Y O aF O O O (λ_=>.tuple #[]) (λ_=>(cj 190 62 198 j o ⟨cF ((aP y t.g).code.length)<|cn x.body<|aS ⟨12,0,0⟩ 1 0<|aP y t.g,(⟨(cn x.body<|aS ⟨12,0,0⟩ 1 0<|aP y t.g),R.1,R.2⟩:cG).ca,(⟨(cn x.body<|aS ⟨12,0,0⟩ 1 0<|aP y t.g),R.1,R.2⟩:cG).fa⟩)++[aq Q.2.1 (.cells #[.pointer (some ⟨j,0,none⟩)] 188 (0,0)),aq Q.2.2 (.cells #[.int .i64 ((aP y t.g).code.length:Int)] 3 (0,0))]) (λ_=>True) [] (by simp) (λw b=>(uq j o (⟨(cn x.body<|aS ⟨12,0,0⟩ 1 0<|aP y t.g),R.1,R.2⟩:cG) Q.2.1 Q.2.2 ((aP y t.g).code.length) _ w (c6 (by show (aP y t.g).code.length<((cn x.body<|aS ⟨12,0,0⟩ 1 0<|aP y t.g)).code.length; (try simp only [dA]); omega)) b).mono λe s h=>⟨(),h.1,trivial,h.2⟩) ?_;intro _ _;refine Ln<|Eb ?_;refine E0 O λs b=>?_
  have D:jQ x t.g=cF ((aP y t.g).code.length) (cn x.body<|aS ⟨12,0,0⟩ 1 0<|aP y t.g):=by
    rw [sp,bo,ZX V,ZX aj,ZX ar,ZZ E,mx u];unfold so;rw [ZX aK]
  rw [D];exact ⟨(R.1,R.2),O,Wt 3 b⟩
 have aL:¬x.op=4:=by simpa using aD
 refine ae<|I (bz O O)<|ag O<|ad ?_;refine Cc O (λaM=>?_)<|λaM=>?_
 ·have E:x.op=5:=by simpa using aM
  refine ae<|ac O<|I (bw O)<|I (Yf m_ O)<|I (Yf oH O)<|I (Yd 1 O O O ab)<|I (Yn kj O)<|ag O ?_;refine ad<|Cs ?_;have au:=B.parts.2.2.2.1 (by omega);obtain ⟨y,u⟩:∃y,x.args[0]? = some y:=⟨_,c6 (by omega)⟩;obtain ⟨al,am,H,C⟩:=l.b5 0 y u
  obtain ⟨k2,rfl⟩:∃k2,ke=k2+1:=by
    cases ke with
    | zero=>exact C.elim
    | succ k2=>exact ⟨k2,rfl⟩
  obtain ⟨J,K,L,M⟩:=C;have F:=hN k2;have N:=B.parts.1.at_ u;have an:=v_ u;have v:=mY y t.g;have ah:=v.hi;have ai:=v.ij;have ap:=v.lo;have Z:=sq x.body (bi [⟨16,0,0⟩]<|aS ⟨12,0,0⟩ 1 0<|aP y t.g);have aE:=Z.hi;have aG:=Z.ij;have aH:=Z.lo
  try simp only [dA] at aE aG aH
  refine Cr<|ac O<|I (Yf lD O)<|I (Yd 0 O O O ab)<|I (Yo (i:=0) hc O O H (by omega))<|I (dz 0 gS O O O<|L)<|Lf 3 O<|Lf 3 O ?_;refine Lf 3 O ?_;refine Lw (ι:=SP×SP) [_,_,_] _ Y O aF O O (λ_=>.tuple #[]) (λq=>(cj 190 62 198 j o ⟨aP y t.g,q.1,q.2⟩)) (λ_=>True) [A] (by simp) (λw b=>(F y J K t w M N (by show (t.g).code.length+8*e7 y<=_; (try simp only [dA]); omega) (by show (t.g).fix.length+8*e7 y<=_; (try simp only [dA]); omega) b).mono λe s ⟨q,l,p⟩=>⟨q,l,trivial,p⟩) ?_;intro aZ _;refine ad<|ae<|ac O ?_;refine Lw (ι:=(SP×SP)×Nat×Nat) [_,_,_] _ Y O aF O O (λq=>.func (.func 333) #[] #[.pointer (some ⟨q.2.1,0,none⟩),.pointer (some ⟨q.2.2,0,none⟩)]) (λq=>(cj 190 62 198 j o ⟨aS ⟨12,0,0⟩ 1 0<|aP y t.g,q.1.1,q.1.2⟩)++[aq q.2.1 (.cells #[.pointer (some ⟨j,0,none⟩)] 188 (0,0)),aq q.2.2 (.cells #[.int .i64 ((aP y t.g).code.length:Int)] 3 (0,0))]) (λ_=>True) [] (by simp) (λw b=>(v' j o (⟨(aP y t.g),aZ.1,aZ.2⟩:cG) 12 w (by show ((aP y t.g)).code.length+1<=_; (try simp only [dA]); omega) (by show ((aP y t.g)).fix.length+1<=_; (try simp only [dA]); omega) b).mono λe s ⟨q,l,p⟩=>⟨q,l,trivial,p⟩) ?_;intro P _;refine ag O<|ad<|ae<|ac O<|I (Yb h3 iD O O) ?_;refine Lb Y O jo O O O O λbv=>?_;refine WL.kO (rd:=bt) (f:=ao.cells) (k:=3) (m:=1) 0 [⟨16,0,0⟩] O O ao.cD (λ_ _ _ _ h=>h) (by simp) (by decide) λa0 bx=>?_;refine Lw (ι:=SP) [_,_,_] _ Y O aF O O (λ_=>.tuple #[]) (λq=>(cj 190 62 198 j o ⟨bi [⟨16,0,0⟩] (⟨(aS ⟨12,0,0⟩ 1 0<|aP y t.g),P.1.1,P.1.2⟩:cG).g,q,(⟨(aS ⟨12,0,0⟩ 1 0<|aP y t.g),P.1.1,P.1.2⟩:cG).fa⟩)) (λ_=>True) [a0] (by simp) (λw b=>(lG j o (⟨(aS ⟨12,0,0⟩ 1 0<|aP y t.g),P.1.1,P.1.2⟩:cG) a0 (some ⟨bv,0,none⟩) 1 [⟨16,0,0⟩] w bx (by show ((aS ⟨12,0,0⟩ 1 0<|aP y t.g)).code.length+[⟨16,0,0⟩].length<=_; (try simp only [dA]); omega) b).mono λe s ⟨q,l,p⟩=>⟨q,l,trivial,p⟩) ?_;intro bA _;refine ad<|ae<|ac O<|I (Yf v7 O)<|I (Yd 5 O O O ab) ?_;refine Lw (ι:=SP×SP) [_,_,_] _ Y O aF O O (λ_=>.tuple #[]) (λq=>(cj 190 62 198 j o ⟨cn x.body<|bi [⟨16,0,0⟩]<|aS ⟨12,0,0⟩ 1 0<|aP y t.g,q.1,q.2⟩)) (λ_=>True) [A] (by simp) (λw b=>(aw x.body r.s2.1 r.s2.2 (⟨(bi [⟨16,0,0⟩]<|aS ⟨12,0,0⟩ 1 0<|aP y t.g),bA,P.1.2⟩:cG) w p (B.parts.2.1 (by omega)) (by show ((bi [⟨16,0,0⟩]<|aS ⟨12,0,0⟩ 1 0<|aP y t.g)).code.length+8*a_ x.body<=_; (try simp only [dA]); omega) (by show ((bi [⟨16,0,0⟩]<|aS ⟨12,0,0⟩ 1 0<|aP y t.g)).fix.length+8*a_ x.body<=_; (try simp only [dA]); omega) b).mono λe s ⟨q,l,p⟩=>⟨q,l,trivial,p⟩) ?_;intro a1 _;refine ad<|ae<|ac O<|ac O<|I (Yb h3 iD O O) ?_;refine Lw (ι:=SP×SP) [_,_,_] _ Y O aF O O (λ_=>.int .i64 ((cn x.body<|bi [⟨16,0,0⟩]<|aS ⟨12,0,0⟩ 1 0<|aP y t.g).code.length:Int)) (λq=>(cj 190 62 198 j o ⟨aS ⟨11,(t.g.code.length:Int),0⟩ 1 0<|cn x.body<|bi [⟨16,0,0⟩]<|aS ⟨12,0,0⟩ 1 0<|aP y t.g,q.1,q.2⟩)) (λ_=>True) [] (by simp) (λw b=>(xV j o (⟨(cn x.body<|bi [⟨16,0,0⟩]<|aS ⟨12,0,0⟩ 1 0<|aP y t.g),a1.1,a1.2⟩:cG)  ⟨11,(t.g.code.length:Int),0⟩ 1 0 w  (by show ((cn x.body<|bi [⟨16,0,0⟩]<|aS ⟨12,0,0⟩ 1 0<|aP y t.g)).code.length+1<=_; (try simp only [dA]); omega) (by show ((cn x.body<|bi [⟨16,0,0⟩]<|aS ⟨12,0,0⟩ 1 0<|aP y t.g)).fix.length+1<=_; (try simp only [dA]); omega) b).mono λe s ⟨q,l,p⟩=>⟨q,l,trivial,p⟩) ?_
  intro U _;refine ad<|Cr<|ac O ?_;refine WL.gY (ι:=Unit) [_,_,_,_,_] _ Y O aF O O O (λ_=>.tuple #[]) (λ_=>(cj 190 62 198 j o ⟨cF ((aP y t.g).code.length)<|aS ⟨11,(t.g.code.length:Int),0⟩ 1 0<|cn x.body<|bi [⟨16,0,0⟩]<|aS ⟨12,0,0⟩ 1 0<|aP y t.g,(⟨(aS ⟨11,(t.g.code.length:Int),0⟩ 1 0<|cn x.body<|bi [⟨16,0,0⟩]<|aS ⟨12,0,0⟩ 1 0<|aP y t.g),U.1,U.2⟩:cG).ca,(⟨(aS ⟨11,(t.g.code.length:Int),0⟩ 1 0<|cn x.body<|bi [⟨16,0,0⟩]<|aS ⟨12,0,0⟩ 1 0<|aP y t.g),U.1,U.2⟩:cG).fa⟩)++[aq P.2.1 (.cells #[.pointer (some ⟨j,0,none⟩)] 188 (0,0)),aq P.2.2 (.cells #[.int .i64 ((aP y t.g).code.length:Int)] 3 (0,0))]) (λ_=>True) [] (by simp) (λw b=>(uq j o (⟨(aS ⟨11,(t.g.code.length:Int),0⟩ 1 0<|cn x.body<|bi [⟨16,0,0⟩]<|aS ⟨12,0,0⟩ 1 0<|aP y t.g),U.1,U.2⟩:cG) P.2.1 P.2.2 ((aP y t.g).code.length) _ w (c6 (by show (aP y t.g).code.length<((aS ⟨11,(t.g.code.length:Int),0⟩ 1 0<|cn x.body<|bi [⟨16,0,0⟩]<|aS ⟨12,0,0⟩ 1 0<|aP y t.g)).code.length; (try simp only [dA]); omega)) b).mono λe s h=>⟨(),h.1,trivial,h.2⟩) ?_;intro _ _;refine Ln<|Eb ?_;refine E0 O λs b=>?_
  have D:jQ x t.g=cF ((aP y t.g).code.length) (aS ⟨11,(t.g.code.length:Int),0⟩ 1 0<|cn x.body<|bi [⟨16,0,0⟩]<|aS ⟨12,0,0⟩ 1 0<|aP y t.g):=by
    rw [sp,bo,ZX V,ZX aj,ZX ar,ZX aL,ZZ E,mx u]
    rfl
  rw [D];exact ⟨(U.1,U.2),O,Wv 1<|Wt 3 b⟩
 have a2:¬x.op=5:=by simpa using aM
 refine ae<|I (bz O O)<|ag O<|ad ?_;refine Cc O (λaN=>?_)<|λaN=>?_
 ·have E:x.op=6:=by simpa using aN
  refine Cs ?_;have au:=B.parts.2.2.2.1 (by omega);obtain ⟨y,u⟩:∃y,x.args[0]? = some y:=⟨_,c6 (by omega)⟩;obtain ⟨al,am,H,C⟩:=l.b5 0 y u
  obtain ⟨k2,rfl⟩:∃k2,ke=k2+1:=by
    cases ke with
    | zero=>exact C.elim
    | succ k2=>exact ⟨k2,rfl⟩
  obtain ⟨J,K,L,M⟩:=C;have F:=hN k2;have N:=B.parts.1.at_ u;have an:=v_ u;have v:=mY y t.g;have ah:=v.hi;have ai:=v.ij;have ap:=v.lo;refine Cr<|ac O<|I (Yf lD O)<|I (Yd 0 O O O ab)<|I (Yo (i:=0) hc O O H (by omega))<|I (dz 0 gS O O O<|L)<|Lf 3 O<|Lf 3 O ?_;refine Lf 3 O ?_;refine Lw (ι:=SP×SP) [_,_,_] _ Y O aF O O (λ_=>.tuple #[]) (λq=>(cj 190 62 198 j o ⟨aP y t.g,q.1,q.2⟩)) (λ_=>True) [A] (by simp) (λw b=>(F y J K t w M N (by show (t.g).code.length+8*e7 y<=_; (try simp only [dA]); omega) (by show (t.g).fix.length+8*e7 y<=_; (try simp only [dA]); omega) b).mono λe s ⟨q,l,p⟩=>⟨q,l,trivial,p⟩) ?_;intro aa _;refine ad<|Cr<|ac O<|I (Yb h3 iD O O) ?_;refine Lb Y O jo O O O O λbB=>?_;refine WL.kO (rd:=bt) (f:=ao.cells) (k:=3) (m:=1) 0 [⟨15,0,0⟩] O O ao.cD (λ_ _ _ _ h=>h) (by simp) (by decide) λa3 bC=>?_;refine Lw (ι:=SP) [_,_,_] _ Y O aF O O (λ_=>.tuple #[]) (λq=>(cj 190 62 198 j o ⟨bi [⟨15,0,0⟩] (⟨(aP y t.g),aa.1,aa.2⟩:cG).g,q,(⟨(aP y t.g),aa.1,aa.2⟩:cG).fa⟩)) (λ_=>True) [a3] (by simp) (λw b=>(lG j o (⟨(aP y t.g),aa.1,aa.2⟩:cG) a3 (some ⟨bB,0,none⟩) 1 [⟨15,0,0⟩] w bC (by show ((aP y t.g)).code.length+[⟨15,0,0⟩].length<=_; (try simp only [dA]); omega) b).mono λe s ⟨q,l,p⟩=>⟨q,l,trivial,p⟩) ?_;intro bD _;refine Ln<|Eb ?_;refine E0 O λs b=>?_
  have D:jQ x t.g=bi [⟨15,0,0⟩] (aP y t.g):=by
    rw [sp,bo,ZX V,ZX aj,ZX ar,ZX aL,ZX a2,ZZ E,mx u]
  rw [D];exact ⟨(bD,aa.2),O,Wv 1<|Wt 3 b⟩
 have bE:¬x.op=6:=by simpa using aN
 refine ae<|I (bz O O)<|ag O<|ad ?_;refine Cc O (λaO=>?_)<|λaO=>?_
 ·have E:x.op=7:=by simpa using aO
  refine Cs ?_;have au:=B.parts.2.2.2.1 (by omega);obtain ⟨y,u⟩:∃y,x.args[0]? = some y:=⟨_,c6 (by omega)⟩;obtain ⟨al,am,H,C⟩:=l.b5 0 y u
  obtain ⟨k2,rfl⟩:∃k2,ke=k2+1:=by
    cases ke with
    | zero=>exact C.elim
    | succ k2=>exact ⟨k2,rfl⟩
  obtain ⟨J,K,L,M⟩:=C;have F:=hN k2;have N:=B.parts.1.at_ u;have an:=v_ u;have v:=mY y t.g;have ah:=v.hi;have ai:=v.ij;have ap:=v.lo;refine Cr<|ac O<|I (Yf lD O)<|I (Yd 0 O O O ab)<|I (Yo (i:=0) hc O O H (by omega))<|I (dz 0 gS O O O<|L)<|Lf 3 O<|Lf 3 O ?_;refine Lf 3 O ?_;refine Lw (ι:=SP×SP) [_,_,_] _ Y O aF O O (λ_=>.tuple #[]) (λq=>(cj 190 62 198 j o ⟨aP y t.g,q.1,q.2⟩)) (λ_=>True) [A] (by simp) (λw b=>(F y J K t w M N (by show (t.g).code.length+8*e7 y<=_; (try simp only [dA]); omega) (by show (t.g).fix.length+8*e7 y<=_; (try simp only [dA]); omega) b).mono λe s ⟨q,l,p⟩=>⟨q,l,trivial,p⟩) ?_;intro af _;refine ad<|Cr<|ac O<|I (Yb h3 iD O O) ?_;refine Lb Y O jo O O O O λbF=>?_;refine WL.kO (rd:=bt) (f:=ao.cells) (k:=3) (m:=1) 0 [⟨19,0,0⟩] O O ao.cD (λ_ _ _ _ h=>h) (by simp) (by decide) λa4 bG=>?_;refine Lw (ι:=SP) [_,_,_] _ Y O aF O O (λ_=>.tuple #[]) (λq=>(cj 190 62 198 j o ⟨bi [⟨19,0,0⟩] (⟨(aP y t.g),af.1,af.2⟩:cG).g,q,(⟨(aP y t.g),af.1,af.2⟩:cG).fa⟩)) (λ_=>True) [a4] (by simp) (λw b=>(lG j o (⟨(aP y t.g),af.1,af.2⟩:cG) a4 (some ⟨bF,0,none⟩) 1 [⟨19,0,0⟩] w bG (by show ((aP y t.g)).code.length+[⟨19,0,0⟩].length<=_; (try simp only [dA]); omega) b).mono λe s ⟨q,l,p⟩=>⟨q,l,trivial,p⟩) ?_;intro bH _;refine Ln<|Eb ?_;refine E0 O λs b=>?_
  have D:jQ x t.g=bi [⟨19,0,0⟩] (aP y t.g):=by
    rw [sp,bo,ZX V,ZX aj,ZX ar,ZX aL,ZX a2,ZX bE,ZZ E,mx u]
  rw [D];exact ⟨(bH,af.2),O,Wv 1<|Wt 3 b⟩
 exfalso
 have bU:¬x.op=7:=by simpa using aO
 have bV:=B.parts.2.2.2.2.2;omega
def W_ (b:Nat) (d:iM) (t:cG) (f:View) (ke k:Nat) (l:List c_) (a:Option Addr) (c:Nat) (w:World) (o:Sl (gG ke k) 7 f a c l) (A:ej l) (K:t.g.code.length+8*a_ l<=1000000000000) (L:t.g.fix.length+8*a_ l<=1000000000000) (i:Ws w (List.flatMap aQ.ids<|cj 190 62 198 b d t) (cj 190 62 198 b d t) [f] w) :
   Calls prog 166 #[.pointer (some ⟨b,0,none⟩),.slice a l.length c] w λe p=>∃q:SP×SP,e = .returned (.tuple #[])/\Ws w (List.flatMap aQ.ids<|cj 190 62 198 b d t) (cj 190 62 198 b d ⟨cn l t.g,q.1,q.2⟩) [f] p:=by
 induction k using Nat.strongRecOn generalizing l a c t w
 rename_i k B;have M:=o.cap;have N:=o.max;refine enter func166 O 16 O O ?_;refine CE i<|ae<|ac O<|I (Yn p8 O)<|ac O<|ad<|Cb ?_;refine ey (ι:=Nat×SP×SP) (λg=>[(8,.int .i64 (g.1:Int))]) [(0,_),(6,_),(7,_)] (λg=>Ws w (List.flatMap aQ.ids<|cj 190 62 198 b d t) (cj 190 62 198 b d ⟨cn (l.take g.1) t.g,g.2.1,g.2.2⟩) [f]) (λg=>g.1<=l.length) (λg=>l.length-g.1) (0,t.ca,t.fa) (di _) ay ?_;intro g P;refine ae<|I (cI O O)<|ad<|Cs ?_;refine Cc O (λs=>?_)<|λs=>?_
 ·have v:g.1<l.length:=by simpa using s
  obtain ⟨x,n⟩:=cR v;obtain ⟨Q,R,C,y⟩:=o.b5 g.1 x n
  obtain ⟨k2,rfl⟩:∃k2,k=k2+1:=by
    cases k with
    | zero=>exact y.elim
    | succ k2=>exact ⟨k2,rfl⟩
  obtain ⟨r,D,j,m,u⟩:=y;have S:=Kn n;have z:=sq (l.take g.1) t.g;have T:=z.hi;have U:=z.ij;have E:Oe f b d ke k2:=λl a c t w j m u F G=>B k2 aa t l a c w j m u F G;refine bW<|Cs<|Cb<|ae<|I (Yo p8 O O C v)<|I (dz 0 ul O O O<|D) ?_;refine Al Y O xO λV=>?_;refine aT 0 Y O O O z5 O O O<|ad<|aao 0 (.cells (de x r).toArray 51 (0,0)) O O<|Cr<|ac O<|I (db 0 O O ul O)<|Lf 3 O<|Lf 3 O ?_;refine Lf 3 O ?_;refine Lw (ι:=SP×SP) [_,_,_] _ Y O aF O O (λ_=>.tuple #[]) (λq=>(cj 190 62 198 b d ⟨jQ x<|cn (l.take g.1) t.g,q.1,q.2⟩)) (λ_=>True) [f] ai (λw i=>(Zj b d (⟨cn (l.take g.1) t.g,g.2.1,g.2.2⟩:cG) f ke k2 x r w E j m u (A.at_ n) (by show (cn (l.take g.1) t.g).code.length+8*mr x<=_; omega) (by show (cn (l.take g.1) t.g).fix.length+8*mr x<=_; omega) i).mono λe p ⟨q,j,m⟩=>⟨q,j,trivial,m⟩) ?_;intro H _;refine Ln<|Eb<|Et<|Cr<|I (Yi O O O aa)<|ac O<|Ln ?_;rw [<-Rg n];exact c8 ((g.1+1,H):Nat×SP×SP) (by show _-(g.1+1)<_; omega) (by show g.1+1<=_; omega)<|λ_ h=>(Wt 3 h:)
 have J:g.1=l.length:=by simp at s; omega
 rw [J,gE];refine Ce<|Ex<|Ex<|dQ ?_;refine E0 O λp i=>?_;exact ⟨g.2,O,i⟩
def Hq (b:Nat) (d:iM) (t:cG) (o:View) (ke k:Nat) (params locals:Int) (l:List c_) (a:Option Addr) (c:Nat) (w:World) (v:Sl (gG ke k) 7 o a c l) (x:ej l) (K:t.g.code.length+8*(1+a_ l)<=1000000000000) (L:t.g.fix.length+8*(1+a_ l)<=1000000000000) (h:Ws w (List.flatMap aQ.ids<|cj 190 62 198 b d t) (cj 190 62 198 b d t) [o] w) :
   Calls prog 100 #[.pointer (some ⟨b,0,none⟩),.agg (fW ⟨params,locals,l⟩ (a,c)).toArray] w λe p=>∃q:SP×SP,e = .returned (.int .i64 (t.g.code.length:Int))/\Ws w (List.flatMap aQ.ids<|cj 190 62 198 b d t) (cj 190 62 198 b d ⟨ii params locals l t.g,q.1,q.2⟩) [o] p:=by
 have r:=sq l (bi [⟨14,params,locals⟩] t.g);have y:=r.hi;have z:=r.ij;simp only [dA] at y z;refine enter func100 O 30 O O ?_;refine CE h<|ae ?_;refine WL.box Y O O λM=>?_;refine ag O<|ad<|ae<|ac O<|I (bw O)<|I (Yf m_ O)<|I (Yf oH O)<|I (Yd 1 O O O ab)<|I (Yn kj O) ?_;refine ag O<|ad<|ae<|ac O<|I (Yf xU O)<|I (Yd 0 O O O ab)<|I (Yf z9 O)<|I (Yd 0 O O O ab)<|I (Yb h3 iD O O) ?_;refine Lb Y O jo O O O O λA=>?_;refine WL.kO (rd:=bt) (f:=ao.cells) (k:=3) (m:=1) 0 [⟨14,params,locals⟩] O O ao.cD dN ai a8 λs B=>?_;refine Lf 3 O<|Lf 3 O<|Lf 3 O ?_;refine Lw (ι:=SP) [_,_,_] _ Y O aF O O (λ_=>.tuple #[]) (λq=>(cj 190 62 198 b d ⟨bi [⟨14,params,locals⟩] t.g,q,t.fa⟩)) (λ_=>True) [s] ai (λw h=>(lG b d t s (some ⟨A,0,none⟩) 1 [⟨14,params,locals⟩] w B (by show (t.g).code.length+[⟨14,params,locals⟩].length<=_; (try simp only [dA]); omega) h).mono λe p ⟨q,i,j⟩=>⟨q,i,trivial,j⟩) ?_;intro C _;refine ad<|ae<|ac O<|I (Yf Hl O)<|I (Yd 3 O O O ab) ?_;refine Lw (ι:=SP×SP) [_,_,_] _ Y O aF O O (λ_=>.tuple #[]) (λq=>(cj 190 62 198 b d ⟨cn l<|bi [⟨14,params,locals⟩] t.g,q.1,q.2⟩)) (λ_=>True) [o] ai (λw h=>((λl a c t w i j D E F=>W_ b d t o ke k l a c w i j D E F) l a c (⟨(bi [⟨14,params,locals⟩] t.g),C,t.fa⟩:cG) w v x (by show ((bi [⟨14,params,locals⟩] t.g)).code.length+8*a_ l<=_; (try simp only [dA]); omega) (by show ((bi [⟨14,params,locals⟩] t.g)).fix.length+8*a_ l<=_; (try simp only [dA]); omega) h).mono λe p ⟨q,i,j⟩=>⟨q,i,trivial,j⟩) ?_;intro n _;refine ad<|ae<|ac O<|I (Yb h3 iD O O)<|I (Yb h3 iD O O) ?_;refine Lb Y O jo O O O O λG=>?_;refine WL.kO (rd:=bt) (f:=ao.cells) (k:=3) (m:=2) 0 [⟨1,0,0⟩,⟨15,0,0⟩] O O ao.cD dN ai a8 λu H=>?_;refine Lw (ι:=SP) [_,_,_] _ Y O aF O O (λ_=>.tuple #[]) (λq=>(cj 190 62 198 b d ⟨bi [⟨1,0,0⟩,⟨15,0,0⟩] (⟨(cn l<|bi [⟨14,params,locals⟩] t.g),n.1,n.2⟩:cG).g,q,(⟨(cn l<|bi [⟨14,params,locals⟩] t.g),n.1,n.2⟩:cG).fa⟩)) (λ_=>True) [u] ai (λw h=>(lG b d (⟨(cn l<|bi [⟨14,params,locals⟩] t.g),n.1,n.2⟩:cG) u (some ⟨G,0,none⟩) 2 [⟨1,0,0⟩,⟨15,0,0⟩] w H (by show ((cn l<|bi [⟨14,params,locals⟩] t.g)).code.length+[⟨1,0,0⟩,⟨15,0,0⟩].length<=_; (try simp only [dA]); omega) h).mono λe p ⟨q,i,j⟩=>⟨q,i,trivial,j⟩) ?_;intro J _;refine ad<|ae<|ac O<|ag O<|ad<|am ?_;refine R1 O O λp h=>?_;exact ⟨(J,n.2),O,Wv 2<|Wt 3 h⟩
def jS:XK:=(lS,(none,0))
variable {an b4:View} {Z aw:Nat}
def Xa (h:Sl z_ 3 an (some ⟨Z,0,none⟩) aw (List.replicate aw jS))  (hv:bG an b4):Sl o3 3 b4 (some ⟨Z,0,none⟩) aw (List.replicate aw lS):=by
 have a:=Ho h hv λe b=>by
   have c:e=jS:=List.eq_of_mem_replicate b;subst c; exact Sl.nil
 rw [List.map_replicate] at a;exact a
def Xb (a:View) (ke k:Nat) (u:b8) (r:kQ) (w:World) (j:Le a w) (c:kR ke k a r u) (p:u.aA.length<=1048576) :
   Calls prog 99 #[.agg (ga u r).toArray] w λe g=>e = .returned (.bool<|oq u)/\Ext w g:=by
 have s:=c.aA.cap;have t:=c.aA.max;refine enter func99 O 9 O O ?_;refine CE (Vs:=[a]) (Ws.init (by simp [j]))<|ae ?_;refine WL.box Y O O λv=>?_;refine ag O<|ad<|Cs ?_;refine CU (λ_=>true) [] [] (.q true 0<|.q false 1<|.q true 2<|.q false 3<|.e 4 (.e 5 (.q false 6 .nil) .stop) .stop) mixed ab (λ_ _ _ d _ _ h=>by cases d<;>exact h) ?_;refine U0 O ay (db 0 O O bs O)<|U0 O ay (Yf v9 O)<|U0 O ay (Yd 0 O O O ab)<|U0 O ay (Yn fQ O) ?_;refine Ue O ay ?_ WU.stop;refine WL.make Y O Ab O O aa aa aa aa λl=>?_;refine dk 0 (.cells ((List.replicate u.aA.length jS).flatMap XK.cells).toArray 276 (0,0)) O (by rw [<-Kq (f:=XK.cells) (x:=jS) (zs:=(Value.agg #[.bool false,.int .i64 0,.slice none 0 0]).cells) O a8]; rfl) ?_;refine WL.kO (rd:=z_) (f:=XK.cells) (k:=3) (m:=u.aA.length) 0 (List.replicate u.aA.length jS) O O XK.cD dN ai aa λn o=>?_;refine Ln<|Eu ?_;refine Ue O (λ_ h=>(Wv 1 h:)) ?_ WU.stop
 refine Lp Y O aF O (λw b=>by
   have i:=N6 a (hv w) ke k u r (List.replicate u.aA.length lS) (some ⟨l,0,none⟩) u.aA.length w (b.vs a ai) (jc w) c (Xa o<|mf<|b.vs n ai) (by simp; omega);rw [Ef] at i
   exact i) ?_
 refine Ln<|Eu<|U0 O (λ_ h=>(Wv 1 h:)) (Ya O) ?_;refine WU.nil (λ_ h=>(Wv 1 h:)) ?_;refine WS.nil ?_;refine Et<|am ?_;refine R1 O O λg b=>?_;exact ⟨O,b.fr⟩
def p_:zeroOf prog 77=some (.agg #[st [],.slice none 0 0,.int .i64 0,.slice none 0 0,.slice none 0 0,.slice none 0 0,.int .i64 0]):=ab
def Hr:gX prog 77=some [(0,1),(1,1),(2,1),(3,1),(4,1),(5,1),(6,1)]:=ab
def q0:aJ prog 77=some 7:=ab
def oI:hr prog 77=some 7:=ab
def Xc:gX prog 190=some [(0,7)]:=ab
def Xd:zeroOf prog 190=some (.agg #[st [],.slice none 0 0,.int .i64 0,.slice none 0 0,.slice none 0 0,.slice none 0 0,.int .i64 0]):=ab
def ur:au prog 77 5=some 5:=ab
def Dk:au prog 77 6=some 6:=ab
def Xe (c:View) (ke k:Nat) (u:b8) (r:kQ) (w:World) (Q:Le c w) (l:kR ke k c r u) (av:dh u<=1048576) :
   Calls prog 27 #[.agg (ga u r).toArray] w λe m=>∃q:nA,e = .returned (.tuple #[.agg (FC (fm u).1 q).toArray,.int .i64 (fm u).2])/\Ext w m/\FD (nv w m) q (fm u).1:=by
 have aw:=l.aA.cap;have ax:=l.aA.max;have aB:=l.parts.cap;have aC:=l.parts.max;have aD:=Kv u;have aE:=jB u.aA;have aH:=Ku u.parts;refine enter func27 O 64 O O ?_;refine CE (Vs:=[c]) (Ws.init (by simp [Q]))<|ae ?_;refine WL.box Y O O λR=>?_;refine Al Y O p_ λS=>?_;refine ag O<|ad<|Cs<|ae<|I (db 1 O O bs O)<|Lp Y O aF O (λw b=>Xb c ke k u r w (b.vs c ai) l aa)<|I (gW O)<|ad ?_;refine Cc O (λD=>?_)<|λD=>?_
 ·have v:oq u=false:=by simpa using D
  refine ae<|I (Yb p_ Hr O O)<|aT 0 Y O O O q0 O O O<|ag O<|ad<|am<|Er ?_;refine WE.tp 0 O O O O oI O λm b=>?_;rw [show fm u=(y0,1) from by rw [fm,ZZ v]];exact ⟨FE,O,b.fr,Kr _⟩
 have v:oq u=true:=by simpa using D
 obtain ⟨T,U⟩:=Ro v;refine bW<|Cs ?_;refine CU (λ_=>true) [] [] (.q false 0<|.q true 1<|.q false 2<|.q true 3<|.q false 5<|.q true 6<|.e 4 (.q false 7<|.q false 8<|.e 9 (.q false 10 .nil) .stop) .stop) mixed ab (λ_ _ _ d _ _ h=>by cases d<;>exact h) ?_;refine U0 O ay (Yf xT O)<|U0 O ay (Yd 1 O O O ab)<|U0 O ay (Yf v9 O)<|U0 O ay (Yd 1 O O O ab)<|U0 O ay (Yf rV O)<|U0 O ay (Yd 1 O O O ab) ?_;refine Ue O ay ?_ WU.stop;refine Ld Y O aF O (λr:SP=>.slice r.1 u.aA.length r.2) (λV r=>Sl rdStr 1 V r.1 r.2 u.aA) (λw b=>NP c r.s1.1 r.s1.2 u.aA w (b.vs c ai) l.aA aa) ?_;intro W a X Z;refine Ln<|Eu<|U0 O (λ_ h=>(Wv 1 h:)) (Yb p_ Hr O O)<|U0 O (λ_ h=>(Wv 1 h:)) (Yb Xd Xc O O) ?_;refine Ue O (λ_ h=>(Wv 1 h:)) ?_ WU.stop;refine WL.box Y O O λaf=>?_;obtain ⟨p,ah⟩:∃s,s=af:=⟨_,rfl⟩;subst ah;refine dk 0 (rt 190 (⟨u.nm,.slice a.1 u.aA.length a.2,u.data,.slice none 0 0,.int .i64 0⟩:iM) ⟨⟨[],[]⟩,(none,0),(none,0)⟩) O O<|LW (λ_ h=>h.g4 3 1)<|LW (λ_ h=>h.g4 198 3)<|LW (λ_ h=>h.g4 62 3)<|Ln<|Eu<|U0 O (λ_ h=>(Wv 1 (Wd 4 h):)) (Ya O) ?_;refine WU.nil (λ_ h=>(Wv 1 (Wd 4 h):)) ?_;refine WS.nil ?_;refine Et<|Cs<|ae<|I (Yf v8 O)<|I (Yd 5 O O O ab)<|I (Yn uo O)<|ac O<|ad<|Cb ?_;refine ey (ι:=Nat×(SP×SP)×SP) (λg=>[(24,.int .i64 (g.1:Int))]) [(1,_),(2,_),(3,_),(4,_),(22,_),(23,_)] (λg=>Ws w [] ((cj 190 62 198 p (⟨u.nm,.slice a.1 u.aA.length a.2,u.data,.slice g.2.2.1 (dw (u.parts.take g.1) ⟨[],[]⟩).1.length g.2.2.2,.int .i64 0⟩:iM) ⟨(dw (u.parts.take g.1) ⟨[],[]⟩).2,g.2.1.1,g.2.1.2⟩)++[cC 3 1 jy g.2.2.1 g.2.2.2 (dw (u.parts.take g.1) ⟨[],[]⟩).1,aq S (.cells (Value.cells<|.agg #[st [],.slice none 0 0,.int .i64 0,.slice none 0 0,.slice none 0 0,.slice none 0 0,.int .i64 0]) 77 (0,0)),aq R (.cells (ga u r).toArray 37 (0,0))]) [W,c]) (λg=>g.1<=u.parts.length) (λg=>u.parts.length-g.1) (0,(((none,0),(none,0)),(none,0))) (di _) (λ_ h=>by exact ((((((h.f 5 O).f 5 O).f 4 O).f 4 O).f 4 O).f 5 O:)) ?_;intro g aI;refine ae<|I (cI O O)<|ad<|Cs ?_;refine Cc O (λE=>?_)<|λE=>?_
 ·have K:g.1<u.parts.length:=by simpa using E
  obtain ⟨x,B⟩:=cR K;obtain ⟨aJ,aK,aj,ak⟩:=l.parts.b5 g.1 x B;obtain ⟨y,al,L⟩:=ak;have aL:=Ks B;have t:=kM (u.parts.take g.1) ⟨[],[]⟩
  have an:(dw (u.parts.take g.1) ⟨[],[]⟩).2.code.length<=8*lR (u.parts.take g.1):=by have i:=t.1.hi; simpa using i
  have ap:(dw (u.parts.take g.1) ⟨[],[]⟩).2.fix.length<=8*lR (u.parts.take g.1):=by have i:=t.1.ij; simpa using i
  have aM:(dw (u.parts.take g.1) ⟨[],[]⟩).1.length=g.1:=by rw [t.2,k']; omega
  have aN:gu x=1+a_ x.body:=rfl;have M:=T x (az B);have N:=Rn B ⟨[],[]⟩
  have F:(dw (u.parts.take<|g.1+1) ⟨[],[]⟩).1=(dw (u.parts.take g.1) ⟨[],[]⟩).1++[(dw (u.parts.take g.1) ⟨[],[]⟩).2.code.length]:=by rw [N]
  have G:(dw (u.parts.take<|g.1+1) ⟨[],[]⟩).2=(ii x.params x.locals x.body (dw (u.parts.take g.1) ⟨[],[]⟩).2):=by rw [N]
  refine bW<|Cs<|Cb<|ae<|I (Yo uo O O aj K)<|I (dz 1 Aa O O O<|al) ?_;refine Al Y O xS λaO=>?_;refine aT 0 Y O O O Dh O O O<|ad<|aao 0 (.cells (fW x y).toArray 107 (0,0)) O O ?_;refine CU (λ_=>true) [1,1,1,1] [14] (.q false 0<|.q false 1<|.q false 2<|.q false 3<|.q false 4<|.q false 6<|.q true 7<|.e 5 (.e 8 (.e 9 (.e 10 (.q false 11<|.q false 12<|.q false 13 .nil) .stop) .stop) .stop)<|.e 8 (.e 5 (.e 9 (.e 10 (.q false 11<|.q false 12<|.q false 13 .nil) .stop) .stop)<|.e 9 (.e 5 (.e 10 (.q false 11<|.q false 12<|.q false 13 .nil) .stop) .stop) .stop) .stop) mixed ab (λ_ _ _ d _ _ h=>by cases d<;>exact h) ?_;refine U0 O (ct [1,1,1,1]) (Ym O)<|U0 O (ct [1,1,1,1]) (Ym O)<|U0 O (ct [1,1,1,1]) (bw O)<|U0 O (ct [1,1,1,1]) (Yf m_ O)<|U0 O (ct [1,1,1,1]) (Yf ur O)<|U0 O (ct [1,1,1,1]) (Ym O)<|U0 O (ct [1,1,1,1]) (db 0 O O Aa O) ?_;refine Ue O (ct [1,1,1,1]) ?_ ?_
  ·refine I (Yd 1 O O O ab)<|Ln<|Eu ?_;refine Ue O (ct [1,1,1,1]) ?_ WU.stop;refine Lf 3 O<|Lf 3 O<|Lf 3 O ?_;refine Lw (ι:=SP×SP) [_,_,_] _ Y O aF O O (λ_=>.int .i64 (((dw (u.parts.take g.1) ⟨[],[]⟩).2).code.length:Int)) (λq=>(cj 190 62 198 p (⟨u.nm,.slice a.1 u.aA.length a.2,u.data,.slice g.2.2.1 (dw (u.parts.take g.1) ⟨[],[]⟩).1.length g.2.2.2,.int .i64 0⟩:iM) ⟨(ii x.params x.locals x.body (dw (u.parts.take g.1) ⟨[],[]⟩).2),q.1,q.2⟩)) (λ_=>True) [c] ai (λw b=>(Hq p (⟨u.nm,.slice a.1 u.aA.length a.2,u.data,.slice g.2.2.1 (dw (u.parts.take g.1) ⟨[],[]⟩).1.length g.2.2.2,.int .i64 0⟩:iM) (⟨(dw (u.parts.take g.1) ⟨[],[]⟩).2,g.2.1.1,g.2.1.2⟩:cG) c ke k x.params x.locals x.body y.1 y.2 w L M (by show ((dw (u.parts.take g.1) ⟨[],[]⟩).2).code.length+8*(1+a_ x.body)<=_; omega) (by show ((dw (u.parts.take g.1) ⟨[],[]⟩).2).fix.length+8*(1+a_ x.body)<=_; omega) b).mono λe m ⟨q,z,A⟩=>⟨q,z,trivial,A⟩) ?_;intro j _;refine Ln<|Eu ?_;refine Ue O (λ_ h=>by exact (Wo 1 (Wo 1<|Wo 1<|Wo 1<|((((((h.f 6 O).f 6 O).f 6 O).f 5 O).f 5 O).f 5 O).f 6 O):)) ?_ WU.stop;refine Lb Y O gm O O O O λP=>?_;refine dk 0 (.cells (jy (dw (u.parts.take g.1) ⟨[],[]⟩).2.code.length).toArray 3 (0,0)) O (O)<|Ln<|Eu ?_;refine Ue O (λ_ h=>by exact (Wo 1 (Wo 1<|Wo 1<|Wo 1<|Wt 7<|((((((h.f 7 O).f 7 O).f 7 O).f 6 O).f 6 O).f 6 O).f 7 O):)) ?_ WU.stop;refine LA ((dw (u.parts.take g.1) ⟨[],[]⟩).2.code.length) 5 0 Y O gm O O O O O O aa aa λn o=>?_;refine Ln<|Eu<|U0 O (λ_ h=>by exact (Wo 1 (Wo 1<|Wo 1<|Wo 1<|Wt 7<|((((((h.f 7 O).f 7 O).f 7 O).f 6 O).f 6 O).f 6 O).f 7 O):)) (bw O)<|U0 O (λ_ h=>by exact (Wo 1 (Wo 1<|Wo 1<|Wo 1<|Wt 7<|((((((h.f 7 O).f 7 O).f 7 O).f 6 O).f 6 O).f 6 O).f 7 O):)) (Yf m_ O)<|U0 O (λ_ h=>by exact (Wo 1 (Wo 1<|Wo 1<|Wo 1<|Wt 7<|((((((h.f 7 O).f 7 O).f 7 O).f 6 O).f 6 O).f 6 O).f 7 O):)) (Yf ur O) ?_;refine WU.nil (λ_ h=>by exact (Wo 1 (Wo 1<|Wo 1<|Wo 1<|Wt 7<|((((((h.f 7 O).f 7 O).f 7 O).f 6 O).f 6 O).f 6 O).f 7 O):)) ?_;refine WS.e O ?_;refine aT 1 Y O O O jW O O O<|Ln<|Es ?_;refine WS.nil ?_;refine Eb<|Et<|Cr<|I (Yi O O O aa)<|ac O<|Ln ?_;rw [<-F,<-G];refine WE.od 1 (rt 190 (⟨u.nm,.slice a.1 u.aA.length a.2,u.data,.slice n (dw (u.parts.take<|g.1+1) ⟨[],[]⟩).1.length o,.int .i64 0⟩:iM) ⟨(dw (u.parts.take<|g.1+1) ⟨[],[]⟩).2,j.1,j.2⟩) O O ?_;exact c8 ((g.1+1,(j,(n,o))):Nat×(SP×SP)×SP) (by show _-(g.1+1)<_; omega) (by show g.1+1<=_; omega) (λ_ h=>by exact (Wt 6 ((((((h.f 7 O).f 7 O).f 7 O).f 6 O).f 6 O).f 6 O):))
  refine Ue O (ct [1,1,1,1]) ?_ WU.stop;refine Lf 3 O<|Lf 3 O<|Lf 3 O ?_;refine Lw (ι:=SP×SP) [_,_,_] _ Y O aF O O (λ_=>.int .i64 (((dw (u.parts.take g.1) ⟨[],[]⟩).2).code.length:Int)) (λq=>(cj 190 62 198 p (⟨u.nm,.slice a.1 u.aA.length a.2,u.data,.slice g.2.2.1 (dw (u.parts.take g.1) ⟨[],[]⟩).1.length g.2.2.2,.int .i64 0⟩:iM) ⟨(ii x.params x.locals x.body (dw (u.parts.take g.1) ⟨[],[]⟩).2),q.1,q.2⟩)) (λ_=>True) [c] ai (λw b=>(Hq p (⟨u.nm,.slice a.1 u.aA.length a.2,u.data,.slice g.2.2.1 (dw (u.parts.take g.1) ⟨[],[]⟩).1.length g.2.2.2,.int .i64 0⟩:iM) (⟨(dw (u.parts.take g.1) ⟨[],[]⟩).2,g.2.1.1,g.2.1.2⟩:cG) c ke k x.params x.locals x.body y.1 y.2 w L M (by show ((dw (u.parts.take g.1) ⟨[],[]⟩).2).code.length+8*(1+a_ x.body)<=_; omega) (by show ((dw (u.parts.take g.1) ⟨[],[]⟩).2).fix.length+8*(1+a_ x.body)<=_; omega) b).mono λe m ⟨q,z,A⟩=>⟨q,z,trivial,A⟩) ?_;intro j _;refine Ln<|Eu ?_;refine Ue O (λ_ h=>by exact (Wo 1 (Wo 1<|Wo 1<|Wo 1<|((((((h.f 6 O).f 6 O).f 6 O).f 5 O).f 5 O).f 5 O).f 6 O):)) ?_ ?_
  ·refine I (Yd 0 O O O ab)<|Ln<|Eu ?_;refine Ue O (λ_ h=>by exact (Wo 1 (Wo 1<|Wo 1<|Wo 1<|((((((h.f 6 O).f 6 O).f 6 O).f 5 O).f 5 O).f 5 O).f 6 O):)) ?_ WU.stop;refine Lb Y O gm O O O O λP=>?_;refine dk 0 (.cells (jy (dw (u.parts.take g.1) ⟨[],[]⟩).2.code.length).toArray 3 (0,0)) O (O)<|Ln<|Eu ?_;refine Ue O (λ_ h=>by exact (Wo 1 (Wo 1<|Wo 1<|Wo 1<|Wt 7<|((((((h.f 7 O).f 7 O).f 7 O).f 6 O).f 6 O).f 6 O).f 7 O):)) ?_ WU.stop;refine LA ((dw (u.parts.take g.1) ⟨[],[]⟩).2.code.length) 5 0 Y O gm O O O O O O aa aa λn o=>?_;refine Ln<|Eu<|U0 O (λ_ h=>by exact (Wo 1 (Wo 1<|Wo 1<|Wo 1<|Wt 7<|((((((h.f 7 O).f 7 O).f 7 O).f 6 O).f 6 O).f 6 O).f 7 O):)) (bw O)<|U0 O (λ_ h=>by exact (Wo 1 (Wo 1<|Wo 1<|Wo 1<|Wt 7<|((((((h.f 7 O).f 7 O).f 7 O).f 6 O).f 6 O).f 6 O).f 7 O):)) (Yf m_ O)<|U0 O (λ_ h=>by exact (Wo 1 (Wo 1<|Wo 1<|Wo 1<|Wt 7<|((((((h.f 7 O).f 7 O).f 7 O).f 6 O).f 6 O).f 6 O).f 7 O):)) (Yf ur O) ?_;refine WU.nil (λ_ h=>by exact (Wo 1 (Wo 1<|Wo 1<|Wo 1<|Wt 7<|((((((h.f 7 O).f 7 O).f 7 O).f 6 O).f 6 O).f 6 O).f 7 O):)) ?_;refine WS.e O ?_;refine aT 1 Y O O O jW O O O<|Ln<|Es ?_;refine WS.nil ?_;refine Eb<|Et<|Cr<|I (Yi O O O aa)<|ac O<|Ln ?_;rw [<-F,<-G];refine WE.od 1 (rt 190 (⟨u.nm,.slice a.1 u.aA.length a.2,u.data,.slice n (dw (u.parts.take<|g.1+1) ⟨[],[]⟩).1.length o,.int .i64 0⟩:iM) ⟨(dw (u.parts.take<|g.1+1) ⟨[],[]⟩).2,j.1,j.2⟩) O O ?_;exact c8 ((g.1+1,(j,(n,o))):Nat×(SP×SP)×SP) (by show _-(g.1+1)<_; omega) (by show g.1+1<=_; omega) (λ_ h=>by exact (Wt 6 ((((((h.f 7 O).f 7 O).f 7 O).f 6 O).f 6 O).f 6 O):))
  refine Ue O (λ_ h=>by exact (Wo 1 (Wo 1<|Wo 1<|Wo 1<|((((((h.f 6 O).f 6 O).f 6 O).f 5 O).f 5 O).f 5 O).f 6 O):)) ?_ WU.stop;refine Lb Y O gm O O O O λP=>?_;refine dk 0 (.cells (jy (dw (u.parts.take g.1) ⟨[],[]⟩).2.code.length).toArray 3 (0,0)) O (O)<|Ln<|Eu ?_;refine Ue O (λ_ h=>by exact (Wo 1 (Wo 1<|Wo 1<|Wo 1<|Wt 7<|((((((h.f 7 O).f 7 O).f 7 O).f 6 O).f 6 O).f 6 O).f 7 O):)) ?_ WU.stop;refine I (Yd 1 O O O ab)<|Ln<|Eu ?_;refine Ue O (λ_ h=>by exact (Wo 1 (Wo 1<|Wo 1<|Wo 1<|Wt 7<|((((((h.f 7 O).f 7 O).f 7 O).f 6 O).f 6 O).f 6 O).f 7 O):)) ?_ WU.stop;refine LA ((dw (u.parts.take g.1) ⟨[],[]⟩).2.code.length) 5 0 Y O gm O O O O O O aa aa λn o=>?_;refine Ln<|Eu<|U0 O (λ_ h=>by exact (Wo 1 (Wo 1<|Wo 1<|Wo 1<|Wt 7<|((((((h.f 7 O).f 7 O).f 7 O).f 6 O).f 6 O).f 6 O).f 7 O):)) (bw O)<|U0 O (λ_ h=>by exact (Wo 1 (Wo 1<|Wo 1<|Wo 1<|Wt 7<|((((((h.f 7 O).f 7 O).f 7 O).f 6 O).f 6 O).f 6 O).f 7 O):)) (Yf m_ O)<|U0 O (λ_ h=>by exact (Wo 1 (Wo 1<|Wo 1<|Wo 1<|Wt 7<|((((((h.f 7 O).f 7 O).f 7 O).f 6 O).f 6 O).f 6 O).f 7 O):)) (Yf ur O) ?_;refine WU.nil (λ_ h=>by exact (Wo 1 (Wo 1<|Wo 1<|Wo 1<|Wt 7<|((((((h.f 7 O).f 7 O).f 7 O).f 6 O).f 6 O).f 6 O).f 7 O):)) ?_;refine WS.e O ?_;refine aT 1 Y O O O jW O O O<|Ln<|Es ?_;refine WS.nil ?_;refine Eb<|Et<|Cr<|I (Yi O O O aa)<|ac O<|Ln ?_;rw [<-F,<-G];refine WE.od 1 (rt 190 (⟨u.nm,.slice a.1 u.aA.length a.2,u.data,.slice n (dw (u.parts.take<|g.1+1) ⟨[],[]⟩).1.length o,.int .i64 0⟩:iM) ⟨(dw (u.parts.take<|g.1+1) ⟨[],[]⟩).2,j.1,j.2⟩) O O ?_;exact c8 ((g.1+1,(j,(n,o))):Nat×(SP×SP)×SP) (by show _-(g.1+1)<_; omega) (by show g.1+1<=_; omega) (λ_ h=>by exact (Wt 6 ((((((h.f 7 O).f 7 O).f 7 O).f 6 O).f 6 O).f 6 O):))
 have au:g.1=u.parts.length:=by simp at E; omega
 rw [au,gE];have t:=kM u.parts ⟨[],[]⟩
 have an:(dw u.parts ⟨[],[]⟩).2.code.length<=8*lR u.parts:=by have i:=t.1.hi; simpa using i
 have ap:(dw u.parts ⟨[],[]⟩).2.fix.length<=8*lR u.parts:=by have i:=t.1.ij; simpa using i
 refine Ce<|Ex<|Ex<|dQ<|Et<|ae<|ac O<|ac O<|I (Yf C' O)<|I (Yd 5 O O O ab)<|I (Yb xS NV O O) ?_;refine Lw (ι:=SP×SP) [_,_,_] _ Y O aF O O (λ_=>.int .i64 (((dw u.parts ⟨[],[]⟩).2).code.length:Int)) (λq=>(cj 190 62 198 p (⟨u.nm,.slice a.1 u.aA.length a.2,u.data,.slice g.2.2.1 (dw u.parts ⟨[],[]⟩).1.length g.2.2.2,.int .i64 0⟩:iM) ⟨(ii 0 0 u.main (dw u.parts ⟨[],[]⟩).2),q.1,q.2⟩)) (λ_=>True) [c] ai (λw b=>(Hq p (⟨u.nm,.slice a.1 u.aA.length a.2,u.data,.slice g.2.2.1 (dw u.parts ⟨[],[]⟩).1.length g.2.2.2,.int .i64 0⟩:iM) (⟨(dw u.parts ⟨[],[]⟩).2,g.2.1.1,g.2.1.2⟩:cG) c ke k 0 0 u.main r.s3.1 r.s3.2 w l.main U (by show ((dw u.parts ⟨[],[]⟩).2).code.length+8*(1+a_ u.main)<=_; omega) (by show ((dw u.parts ⟨[],[]⟩).2).fix.length+8*(1+a_ u.main)<=_; omega) b).mono λe m ⟨q,z,A⟩=>⟨q,z,trivial,A⟩) ?_;intro C _;refine I (bw O)<|I (Yf m_ O)<|I (Yf Dk O)<|aT 0 Y O O O dL O O O<|ad<|Cs<|Cs<|aao 0 (rt 190 (⟨u.nm,.slice a.1 u.aA.length a.2,u.data,.slice g.2.2.1 (dw u.parts ⟨[],[]⟩).1.length g.2.2.2,.int .i64 ((dw u.parts ⟨[],[]⟩).2.code.length:Int)⟩:iM) ⟨(ii 0 0 u.main (dw u.parts ⟨[],[]⟩).2),C.1,C.2⟩) O O<|Cr<|ac O ?_;refine I (bw O)<|I (Yf m_ O)<|I (Yf oH O)<|I (Yd 0 O O O ab)<|I (Yn kj O)<|I (eh O O)<|ad ?_;refine Cc O (λH=>?_)<|λH=>?_
 ·have J:2048<(eT u).g.code.length:=by
    have i:=H;simp at i
    show 2048<((ii 0 0 u.main (dw u.parts ⟨[],[]⟩).2)).code.length
    omega
  refine ae<|I (Yb p_ Hr O O)<|aT 4 Y O O O q0 O O O<|ag O<|ad<|am<|Er ?_;refine WE.tp 4 O O O O oI O λm b=>?_;rw [show fm u=(y0,2) from by rw [fm,ZX (by rw [v]; decide),ZZ J]];exact ⟨FE,O,b.fr,Kr _⟩
 have J:¬2048<(eT u).g.code.length:=by
   have i:=H;simp at i
   show ¬2048<((ii 0 0 u.main (dw u.parts ⟨[],[]⟩).2)).code.length
   omega
 refine bW<|ae<|ac O<|I (bw O)<|I (Yf m_ O)<|I (db 0 O O oI O)<|aT 4 Y O O O q0 O O O<|ag O<|ad<|am ?_;refine WE.tp 4 O O O O oI O λm b=>?_;rw [show fm u=(eT u,0) from by rw [fm,ZX (by rw [v]; decide),ZX J]];exact ⟨⟨a,C.1,C.2,g.2.2⟩,O,b.fr,Z.imp<|λ_ _ _ h=>ar.mono (aG b ai X) h,b.hW 1 O ao.cD dN,b.hW 2 O fI.cD dN,b.hW 3 O w8 dN⟩
def Dl (ke k:Nat) (a:View) (b o:Nat) (u:b8):Prop:=∃r:kQ,ar a b o (ga u r)/\kR ke k a r u
structure Z0 (us:List b8) (nu:Nat) (al:Bool) (kn:List ec):Prop where
 len:kn.length=nu+1
 Z1:al=true->∀mi,0<mi->mi<=nu->kn[mi]? = some lS
 Z2:∀mi,mi<=nu->(al=true->mi=0)->∃u,us[mi]? = some u/\kn[mi]? = some (aE u)
abbrev XU:=b8×kQ
def XU.cells (e:XU):List Value:=ga e.1 e.2
def XU.cD (e:XU):(XU.cells e).length=5:=rfl
def XU.one (e:XU):(XU.cells e).all (·.oneCell')=true:=rfl
def Ah (a:View) (b o:Nat) (e:XU):Prop:=ar a b o<|XU.cells e
variable {dj:Option Addr}
def Dm {c:Nat} {es:List XU} (h:Sl Ah 5 an dj c es) (hv:bG an b4) (f:∀e ∈ es,kR Z aw b4 e.2 e.1):Sl (Dl Z aw) 5 b4 dj c (es.map (·.1)):=by
 refine ⟨by rw [fu]; exact h.cap,h.max,h.spot,λi x a=>?_⟩;rw [e4] at a;obtain ⟨y,d,rfl⟩:=dS.1 a;obtain ⟨b,o,g,j⟩:=h.b5 i y d;exact ⟨b,o,g,y.2,ar.mono hv j,f y<|az d⟩
def Dn:hf prog 71 37 (.agg #[st [],.slice none 0 0,.int .i64 0,.slice none 0 0,.slice none 0 0]) 5 96:=jb ab
abbrev Ht:List b8:=[(eF jZ []).1,(eF cB gM).1]
def Xf:A8 prog 62=some [0,0,0]:=ab
def Og (J:View) (w:World) (T:Le J w) (U:Laid J) :
   Calls prog 110 #[] w λe E=>∃q:SP,e = .returned (.slice q.1 2 q.2)/\Ext w E/\Sl (Dl 8 7) 5 (nv w E) q.1 q.2 Ht:=by
 refine enter func110 O 27 O O ?_;refine CE (Vs:=[J]) (Ws.init (by simp [T]))<|ae<|ag O<|ad<|ae ?_;refine Ld Y O aF O (λr:cb=>.agg (iJ jZ r).toArray) (λP r=>n7 7 6 P r jZ) (λw a=>WM w) ?_;intro S W aa X
 refine Ld Y O aF O (λr:kQ=>.tuple #[.agg (ga (eF jZ []).1 r).toArray,.int .i64 (eF jZ []).2]) (λt r=>kR (7+1) (6+1) t r (eF jZ []).1) (λw a=>by
     skip
     exact z6 S S 7 6 W jZ none 0 [] w a.V a.V X Sl.nil Zd) ?_
 intro af u K i;refine ac O<|I (Yx O O)<|I (Yx O O) ?_;refine Al Y O nT λah=>?_;refine aT 0 Y O O O nU O O O<|ag O<|ad<|ae<|Lp Y O aF O (λw a=>WN w) ?_
 refine Ld Y O aF O (λr:cb=>.tuple #[.agg (iJ (cB) r).toArray,.int .i64 ((lv p9).2)]) (λP r=>n7 7 6 P r<|cB) (λw a=>by
     have:=VF J (p9) w a.V U
     exact this) ?_
 intro L M aj N;refine ac O<|I (Yx O O)<|I (Yx O O) ?_;refine Al Y O sZ λak=>?_;refine aT 0 Y O O O uh O O O<|ag O<|ad<|Cs ?_;refine WC.PM (.q 0<|.e 1 (.e 2 (.e 3 (.q 4<|.q 5<|.q 6<|.e 7 (.e 8 (.e 9 .nil .stop) .stop) .stop)<|.e 7 (.e 3 (.q 4<|.q 5<|.q 6<|.e 8 (.e 9 .nil .stop) .stop) .stop) .stop)<|.e 7 (.e 2 (.e 3 (.q 4<|.q 5<|.q 6<|.e 8 (.e 9 .nil .stop) .stop) .stop) .stop) .stop)<|.e 7 (.e 1 (.e 2 (.e 3 (.q 4<|.q 5<|.q 6<|.e 8 (.e 9 .nil .stop) .stop) .stop) .stop) .stop) .stop) mixed ab (λ_ _ _ d _ h=>by cases d<;>exact h) ?_;refine WT.q O Y O ay (db 0 O O nQ O) ?_;refine WT.e O ay ?_ ?_
 ·refine Ld Y O aF O (λr:SP=>.agg #[st bO,.slice r.1 fp.length r.2]) (λt r=>Sl lP 4 t r.1 r.2 fp) (λw a=>NA w) ?_;intro F G Z H;refine Ln<|bD ?_;refine WT.e O (λ_ h=>(Wv 1 h:)) ?_ ?_
  ·refine Lb Y O Hm O O O O λs=>?_;refine Ln<|bD ?_;refine WT.e O (λ_ h=>(Wv 1 (Wd 1 h):)) ?_ ?_
   ·refine Ld Y O aF O (λr:kQ=>.tuple #[.agg (ga (eF cB gM).1 r).toArray,.int .i64 (eF cB gM).2]) (λt r=>kR (7+1) (6+1) t r (eF cB gM).1) (λw a=>by
        have A:Sl xP 2 (hv w) (some ⟨s,0,none⟩) 1 gM:=⟨a8,a8,ai,λj x g=>⟨s,0,rfl,by
          match j,g with
          | 0,g=>simp only [gM,cm,aN] at g; subst g; exact ⟨G,λk v b=>by
              match k,b with
              | 0,b=>simp [s7] at b; subst b; exact a.jd 0 rfl rfl
              | 1,b=>simp [s7] at b; subst b; exact a.jd 0 rfl rfl,z7 (mf<|a.vs F ai) H⟩⟩⟩
        exact z6 L (hv w) 7 6 M cB (some ⟨s,0,none⟩) 1 gM w a.V (jc w) N A (by have:=Da p9; show wM (lv p9).1<=_; omega)) ?_
    intro Q l B y;refine Ln<|bD ?_;refine WT.q O Y O (λ_ h=>(Wv 2 (Wd 1 h):)) (Ym O) ?_;refine WT.q O Y O (λ_ h=>(Wv 2 (Wd 1 h):)) (Yx O O) ?_;refine WT.q O Y O (λ_ h=>(Wv 2 (Wd 1 h):)) (Yx O O) ?_;refine WT.e O (λ_ h=>(Wv 2 (Wd 1 h):)) ?_ WT.stop;refine Al Y O nT λR=>?_;refine Ln<|bD ?_;refine WT.e O (λ_ h=>(Wv 2 (Wd 2 h):)) ?_ WT.stop;refine aT 0 Y O O O nU O O O<|Ln<|bD ?_;refine WT.e O (λ_ h=>(Wv 2 (Wd 2 h):)) ?_ WT.stop;refine ag O<|Ln<|bD ?_;refine WT.nil (λ_ h=>(Wv 2 (Wd 2 h):)) ?_;refine Et<|Cs ?_;obtain ⟨m,n⟩:∃c,c=(eF jZ []).1:=⟨_,rfl⟩;obtain ⟨o,p⟩:∃c,c=(eF cB gM).1:=⟨_,rfl⟩;rw [<-n,<-p];rw [<-n] at i;rw [<-p] at y;refine Cr<|I (db 3 O O bs O)<|I (db 0 O O bs O) ?_;refine Lb Y O Dn O O O O λC=>?_;refine dk 0 (.cells ((([(m,u),(o,l)]:List XU)).flatMap XU.cells).toArray 37 (0,0)) O O<|LW (λ_ h=>h.mQ (f:=XU.cells) (xs:=([(m,u),(o,l)]:List XU)) (c:=2) 0 O XU.cD O a8)<|ag O<|ad<|am ?_;refine R1 O O λE a=>?_;have D:=i;refine ⟨(some ⟨C,0,none⟩,2),O,a.fr,?_⟩
    show Sl _ _ _ _ _ [(eF jZ []).1,(eF cB gM).1]
    rw [<-n,<-p];have i:=a.hW (rd:=Ah) 0 rfl XU.cD dN
    exact Dm (es:=[(m,u),(o,l)]) i lH λe z=>by
      simp only [ep,yj,aai] at z
      rcases z with rfl | rfl
      · exact D.mv<|aG a ai K
      · exact y.mv<|aG a ai B
   refine WT.e O (λ_ h=>(Wv 1 (Wd 1 h):)) ?_ WT.stop;refine Al Y O nT λR=>?_;refine Ln<|bD ?_;refine WT.e O (λ_ h=>(Wv 1 (Wd 2 h):)) ?_ WT.stop
   refine Ld Y O aF O (λr:kQ=>.tuple #[.agg (ga (eF cB gM).1 r).toArray,.int .i64 (eF cB gM).2]) (λt r=>kR (7+1) (6+1) t r (eF cB gM).1) (λw a=>by
       have A:Sl xP 2 (hv w) (some ⟨s,0,none⟩) 1 gM:=⟨a8,a8,ai,λj x g=>⟨s,0,rfl,by
         match j,g with
         | 0,g=>simp only [gM,cm,aN] at g; subst g; exact ⟨G,λk v b=>by
             match k,b with
             | 0,b=>simp [s7] at b; subst b; exact a.jd 1 rfl rfl
             | 1,b=>simp [s7] at b; subst b; exact a.jd 1 rfl rfl,z7 (mf<|a.vs F ai) H⟩⟩⟩
       exact z6 L (hv w) 7 6 M cB (some ⟨s,0,none⟩) 1 gM w a.V (jc w) N A (by have:=Da p9; show wM (lv p9).1<=_; omega)) ?_
   intro Q l B y;refine Ln<|bD ?_;refine WT.q O Y O (λ_ h=>(Wv 2 (Wd 2 h):)) (Ym O) ?_;refine WT.q O Y O (λ_ h=>(Wv 2 (Wd 2 h):)) (Yx O O) ?_;refine WT.q O Y O (λ_ h=>(Wv 2 (Wd 2 h):)) (Yx O O) ?_;refine WT.e O (λ_ h=>(Wv 2 (Wd 2 h):)) ?_ WT.stop;refine aT 0 Y O O O nU O O O<|Ln<|bD ?_;refine WT.e O (λ_ h=>(Wv 2 (Wd 2 h):)) ?_ WT.stop;refine ag O<|Ln<|bD ?_;refine WT.nil (λ_ h=>(Wv 2 (Wd 2 h):)) ?_;refine Et<|Cs ?_;obtain ⟨m,n⟩:∃c,c=(eF jZ []).1:=⟨_,rfl⟩;obtain ⟨o,p⟩:∃c,c=(eF cB gM).1:=⟨_,rfl⟩;rw [<-n,<-p];rw [<-n] at i;rw [<-p] at y;refine Cr<|I (db 3 O O bs O)<|I (db 0 O O bs O) ?_;refine Lb Y O Dn O O O O λC=>?_;refine dk 0 (.cells ((([(m,u),(o,l)]:List XU)).flatMap XU.cells).toArray 37 (0,0)) O O<|LW (λ_ h=>h.mQ (f:=XU.cells) (xs:=([(m,u),(o,l)]:List XU)) (c:=2) 0 O XU.cD O a8)<|ag O<|ad<|am ?_;refine R1 O O λE a=>?_;have D:=i;refine ⟨(some ⟨C,0,none⟩,2),O,a.fr,?_⟩
   show Sl _ _ _ _ _ [(eF jZ []).1,(eF cB gM).1]
   rw [<-n,<-p];have i:=a.hW (rd:=Ah) 0 rfl XU.cD dN
   exact Dm (es:=[(m,u),(o,l)]) i lH λe z=>by
     simp only [ep,yj,aai] at z
     rcases z with rfl | rfl
     · exact D.mv<|aG a ai K
     · exact y.mv<|aG a ai B
  refine WT.e O (λ_ h=>(Wv 1 h:)) ?_ WT.stop;refine Al Y O nT λR=>?_;refine Ln<|bD ?_;refine WT.e O (λ_ h=>(Wv 1 (Wd 1 h):)) ?_ WT.stop;refine Lb Y O Hm O O O O λs=>?_;refine Ln<|bD ?_;refine WT.e O (λ_ h=>(Wv 1 (Wd 2 h):)) ?_ WT.stop
  refine Ld Y O aF O (λr:kQ=>.tuple #[.agg (ga (eF cB gM).1 r).toArray,.int .i64 (eF cB gM).2]) (λt r=>kR (7+1) (6+1) t r (eF cB gM).1) (λw a=>by
      have A:Sl xP 2 (hv w) (some ⟨s,0,none⟩) 1 gM:=⟨a8,a8,ai,λj x g=>⟨s,0,rfl,by
        match j,g with
        | 0,g=>simp only [gM,cm,aN] at g; subst g; exact ⟨G,λk v b=>by
            match k,b with
            | 0,b=>simp [s7] at b; subst b; exact a.jd 0 rfl rfl
            | 1,b=>simp [s7] at b; subst b; exact a.jd 0 rfl rfl,z7 (mf<|a.vs F ai) H⟩⟩⟩
      exact z6 L (hv w) 7 6 M cB (some ⟨s,0,none⟩) 1 gM w a.V (jc w) N A (by have:=Da p9; show wM (lv p9).1<=_; omega)) ?_
  intro Q l B y;refine Ln<|bD ?_;refine WT.q O Y O (λ_ h=>(Wv 2 (Wd 2 h):)) (Ym O) ?_;refine WT.q O Y O (λ_ h=>(Wv 2 (Wd 2 h):)) (Yx O O) ?_;refine WT.q O Y O (λ_ h=>(Wv 2 (Wd 2 h):)) (Yx O O) ?_;refine WT.e O (λ_ h=>(Wv 2 (Wd 2 h):)) ?_ WT.stop;refine aT 1 Y O O O nU O O O<|Ln<|bD ?_;refine WT.e O (λ_ h=>(Wv 2 (Wd 2 h):)) ?_ WT.stop;refine ag O<|Ln<|bD ?_;refine WT.nil (λ_ h=>(Wv 2 (Wd 2 h):)) ?_;refine Et<|Cs ?_;obtain ⟨m,n⟩:∃c,c=(eF jZ []).1:=⟨_,rfl⟩;obtain ⟨o,p⟩:∃c,c=(eF cB gM).1:=⟨_,rfl⟩;rw [<-n,<-p];rw [<-n] at i;rw [<-p] at y;refine Cr<|I (db 3 O O bs O)<|I (db 1 O O bs O) ?_;refine Lb Y O Dn O O O O λC=>?_;refine dk 0 (.cells ((([(m,u),(o,l)]:List XU)).flatMap XU.cells).toArray 37 (0,0)) O O<|LW (λ_ h=>h.mQ (f:=XU.cells) (xs:=([(m,u),(o,l)]:List XU)) (c:=2) 0 O XU.cD O a8)<|ag O<|ad<|am ?_;refine R1 O O λE a=>?_;have D:=i;refine ⟨(some ⟨C,0,none⟩,2),O,a.fr,?_⟩
  show Sl _ _ _ _ _ [(eF jZ []).1,(eF cB gM).1]
  rw [<-n,<-p];have i:=a.hW (rd:=Ah) 0 rfl XU.cD dN
  exact Dm (es:=[(m,u),(o,l)]) i lH λe z=>by
    simp only [ep,yj,aai] at z
    rcases z with rfl | rfl
    · exact D.mv<|aG a ai K
    · exact y.mv<|aG a ai B
 refine WT.e O ay ?_ WT.stop;refine Al Y O nT λR=>?_;refine Ln<|bD ?_;refine WT.e O (λ_ h=>(Wd 1 h:)) ?_ WT.stop;refine Ld Y O aF O (λr:SP=>.agg #[st bO,.slice r.1 fp.length r.2]) (λt r=>Sl lP 4 t r.1 r.2 fp) (λw a=>NA w) ?_;intro F G Z H;refine Ln<|bD ?_;refine WT.e O (λ_ h=>(Wv 1 (Wd 1 h):)) ?_ WT.stop;refine Lb Y O Hm O O O O λs=>?_;refine Ln<|bD ?_;refine WT.e O (λ_ h=>(Wv 1 (Wd 2 h):)) ?_ WT.stop
 refine Ld Y O aF O (λr:kQ=>.tuple #[.agg (ga (eF cB gM).1 r).toArray,.int .i64 (eF cB gM).2]) (λt r=>kR (7+1) (6+1) t r (eF cB gM).1) (λw a=>by
     have A:Sl xP 2 (hv w) (some ⟨s,0,none⟩) 1 gM:=⟨a8,a8,ai,λj x g=>⟨s,0,rfl,by
       match j,g with
       | 0,g=>simp only [gM,cm,aN] at g; subst g; exact ⟨G,λk v b=>by
           match k,b with
           | 0,b=>simp [s7] at b; subst b; exact a.jd 0 rfl rfl
           | 1,b=>simp [s7] at b; subst b; exact a.jd 0 rfl rfl,z7 (mf<|a.vs F ai) H⟩⟩⟩
     exact z6 L (hv w) 7 6 M cB (some ⟨s,0,none⟩) 1 gM w a.V (jc w) N A (by have:=Da p9; show wM (lv p9).1<=_; omega)) ?_
 intro Q l B y;refine Ln<|bD ?_;refine WT.q O Y O (λ_ h=>(Wv 2 (Wd 2 h):)) (Ym O) ?_;refine WT.q O Y O (λ_ h=>(Wv 2 (Wd 2 h):)) (Yx O O) ?_;refine WT.q O Y O (λ_ h=>(Wv 2 (Wd 2 h):)) (Yx O O) ?_;refine WT.e O (λ_ h=>(Wv 2 (Wd 2 h):)) ?_ WT.stop;refine aT 1 Y O O O nU O O O<|Ln<|bD ?_;refine WT.e O (λ_ h=>(Wv 2 (Wd 2 h):)) ?_ WT.stop;refine ag O<|Ln<|bD ?_;refine WT.nil (λ_ h=>(Wv 2 (Wd 2 h):)) ?_;refine Et<|Cs ?_;obtain ⟨m,n⟩:∃c,c=(eF jZ []).1:=⟨_,rfl⟩;obtain ⟨o,p⟩:∃c,c=(eF cB gM).1:=⟨_,rfl⟩;rw [<-n,<-p];rw [<-n] at i;rw [<-p] at y;refine Cr<|I (db 3 O O bs O)<|I (db 1 O O bs O) ?_;refine Lb Y O Dn O O O O λC=>?_;refine dk 0 (.cells ((([(m,u),(o,l)]:List XU)).flatMap XU.cells).toArray 37 (0,0)) O O<|LW (λ_ h=>h.mQ (f:=XU.cells) (xs:=([(m,u),(o,l)]:List XU)) (c:=2) 0 O XU.cD O a8)<|ag O<|ad<|am ?_;refine R1 O O λE a=>?_;have D:=i;refine ⟨(some ⟨C,0,none⟩,2),O,a.fr,?_⟩
 show Sl _ _ _ _ _ [(eF jZ []).1,(eF cB gM).1]
 rw [<-n,<-p];have i:=a.hW (rd:=Ah) 0 rfl XU.cD dN
 exact Dm (es:=[(m,u),(o,l)]) i lH λe z=>by
   simp only [ep,yj,aai] at z
   rcases z with rfl | rfl
   · exact D.mv<|aG a ai K
   · exact y.mv<|aG a ai B
def Xg (nm s:List UInt8):gn s [((nm,.int .i64 1,0):aL (List UInt8))] (.int .i64 0) = .int .i64 ((([nm]:List (List UInt8)).count s:Nat):Int):=by
 by_cases h:nm=s
 · subst h; simp [gn,dC]
 · have a:¬s=nm:=λe=>h e.symm
   simp [gn,dC,h,a,D']
def Xh {seen:List (List UInt8)} {M:List (aL<|List UInt8)} (h:∀s,gn s M (.int .i64 0) = .int .i64 ((seen.count s:Nat):Int)) (x:List UInt8) (c:Nat):∀s,gn s (aan x (.int .i64<|((seen.count x:Nat):Int)+1) M c) (.int .i64 0) = .int .i64 (((seen++[x]).count s:Nat):Int):=by
 intro s
 by_cases e:s=x
 · subst e
   rw [iO,AM];simp
 · rw [yV _ M c _ e,h s,AM]
   have a:¬x=s:=λk=>e k.symm;simp [D',a]
def Ai:au prog 77 1=some 1:=ab
def Do:au prog 77 0=some 0:=ab
def Hu:au prog 77 2=some 2:=ab
def Gq:aJ prog 62=some 3:=ab
def vz:au prog 62 0=some 0:=ab
def xW:aat prog 75=some 3:=ab
def Hv:hr prog 198=some 3:=ab
def Hw:aJ prog 198=some 3:=ab
def xX:au prog 198 0=some 0:=ab
def Hx:au prog 198 1=some 1:=ab
def wa:au prog 198 2=some 2:=ab
def Dp (a:View) (b n:Nat) (x:Int) (w:World) (d:Le a w) (f:vc a b 0=some (.int .i64 (n:Int))) :
   Calls prog 238 #[.int .i64 x,.pointer (some ⟨b,0,none⟩)] w λe c=>e = .returned (.bool<|hO n x)/\Ext w c:=by
 refine enter func238 O 11 O O ?_;refine CE (Vs:=[a]) (Ws.init (by simp [d]))<|ae<|ag O<|ad<|ae<|ac O<|I (hS O O)<|ac O ?_;apply La 3 O O O O Y O O O O O
 ·intro h;refine Vg (Ym O)<|Vg (eQ 0 ab O O<|f)<|Vg (cI O O) ?_;exact Gt 3 O O O
 refine ag O<|ad<|am ?_;refine R1 O O λc g=>?_;exact ⟨O,g.fr⟩
def Xi (k:View) (o:av) (q:nA) (w:World) (au:Le k w) (j:pU k q o) :
   Calls prog 167 #[.agg (kF o q).toArray] w λe z=>e = .returned (.int .i64<|ik o)/\Ext w z:=by
 have aQ:=j.aA.cap;have aR:=j.aA.max;have aS:=j.code.cap;have aU:=j.code.max;have aV:=j.fix.cap;have aW:=j.fix.max;have aX:=j.fe.cap;have aY:=j.fe.max;refine enter func167 O 191 O O ?_;refine CE (Vs:=[k]) (Ws.init (by simp [au]))<|ae ?_;refine WL.box Y O O λL=>?_;refine ag O<|ad<|ae<|I (Yf oH O)<|I (Yd 0 O O O ab)<|I (Yn kj O) ?_;refine Al Y O l8 λt=>?_;refine aT 0 Y O O O dL O O O<|ad<|Cs<|Cs<|aao 0 (.cells ([.int .i64 (o.code.length:Int)]).toArray 3 (0,0)) O O<|Cr<|I (Yf Ai O)<|I (Yd 1 O O O ab)<|I (Yn fQ O)<|I (eh O O) ?_;refine ac O ?_;apply Lo 4 O O O O Y O O O O O
 ·intro aZ;refine Vg (Yf ur O)<|Vg (Yd 1 O O O ab)<|Vg (Yn e3 O)<|Vg (eh O O) ?_;exact Gt 4 O O O
 refine ac O ?_;apply Lo 2 O O O O Y O O O O O
 ·intro a0;refine Vg (Yd 0 O O O ab)<|Vg (cI O O) ?_;exact Gt 2 O O O
 refine ac O ?_;apply Lo 2 O O O O Y O O O O O
 ·intro a1;refine Vg (Yd 0 O O O ab)<|Vg (eh O O) ?_;exact Gt 2 O O O
 refine ad ?_;refine Cc O (λR=>?_)<|λR=>?_
 ·refine ae<|ag O<|ad<|am<|Er ?_;refine R1 O O λz i=>?_;exact ⟨by rw [ik,ZZ (show pV o=true from R)],i.fr⟩
 have C:pV o=false:=R
 have a2:o.aA.length<=3:=by
   unfold pV at C;simp only [i9,aad] at C;omega
 refine bW<|ae ?_;refine WL.pD st Y O λM=>?_;refine I (Yf Do O)<|I (Yd 2 O O O ab) ?_;refine WL.cz 0 iW Y iC ab O O O O ?_;refine ac O<|ag O<|ad<|ae<|I (Yf Do O)<|I (Yd 2 O O O ab)<|Lp Y O aF O (λw i=>qP _ w)<|ac O ?_;apply La 3 O O O O Y O O O O O
 ·intro a3;refine Vg (Yf Hu O)<|Vg (Yd 2 O O O ab)<|Vg (hS O O) ?_;exact Gt 3 O O O
 refine ac O ?_;apply La 3 O O O O Y O O O O O
 ·intro a4;refine Vg (Yf Hu O)<|Vg (Yd 2 O O O ab)<|Vg (jF O O) ?_;exact Gt 3 O O O
 refine ag O<|ad<|Cs<|ae<|I (Yf Ai O)<|I (Yd 2 O O O ab)<|I (Yn fQ O)<|ac O<|ad<|Cb ?_;refine ey (ι:=Nat×List (aL<|List UInt8)×Nat×Bool) (λg=>[(58,.int .i64 (g.1:Int)),(5,.bool g.2.2.2)]) [(1,_),(2,_),(3,_),(4,_),(56,_),(57,_)] (λg=>Ws w [] [aq M (cY st g.2.1 g.2.2.1),aq t (.cells #[.int .i64 (o.code.length:Int)] 3 (0,0)),aq L (.cells (kF o q).toArray 77 (0,0))] [k]) (λg=>g.1<=o.aA.length/\(∀s,gn s g.2.1 (.int .i64 0) = .int .i64 (((o.nm::o.aA.take g.1).count s:Nat):Int))/\l0 (o.nm::o.aA.take g.1) (o.aA.drop g.1) g.2.2.2=l0 [o.nm] o.aA (qH o)) (λg=>o.aA.length-g.1) (0,[((o.nm,.int .i64 1,0):aL (List UInt8))],1,qH o) ⟨di _,Xg o.nm,O⟩ ay ?_;intro g ⟨a5,ak,D⟩;refine ae<|I (cI O O)<|ad<|Cs ?_;refine Cc O (λS=>?_)<|λS=>?_
 ·have l:g.1<o.aA.length:=by simpa using S
  obtain ⟨s,T⟩:=cR l;obtain ⟨aw,pos,ax,V⟩:=j.aA.b5 g.1 s T;have V:ar k aw (pos+g.1*1) (gk s):=V
  have az:(o.nm::o.aA.take g.1)++[s]=o.nm::o.aA.take (g.1+1):=by rw [gV,T]; simp
  have a6:((o.nm::o.aA.take g.1).count s:Nat)<=4:=by
    have N:(o.nm::o.aA.take g.1).count s<=(o.nm::o.aA.take g.1).length:=Ie;simp at N; omega
  refine bW<|Cs<|Cb<|ae<|I (Yo fQ O O ax l)<|I (eQ 0 ab O O<|V 0 _ O)<|ag O<|ad<|ae<|ac O<|ac O<|I (rf 0 iW iC ab l8 O O O) ?_;rw [ak s];refine I (ni O O aa) ?_;refine WL.rh 0 iW Y iC ab O O O O ?_;refine ad<|Cr<|ac O<|ac O ?_;apply La 2 (x:=gi s) O O O O Y O O O O O
  ·intro a7;refine Vg (Ym O)<|Lp (.g O O O) O aF O (λw i=>qP _ w) ?_;exact Gt 2 O O O
  refine ac O ?_;apply La 4 (x:=((((o.nm::o.aA.take g.1).count s:Nat):Int)+1==1)) O O O O Y O O O O O
  ·intro a9;refine Vg (Ym O)<|Vg (Ym O)<|Vg (rf 0 iW iC ab l8 O O O) ?_;rw [iO];refine Vg (bz O O) ?_;exact Gt 4 O O O
  refine ag O<|Ln<|Eb<|Et<|Cr<|I (Yi O O O aa)<|ac O<|Ln ?_;exact c8 ((g.1+1,_,_,((g.2.2.2&&gi s)&&((((o.nm::o.aA.take g.1).count s:Nat):Int)+1==1))):Nat×List (aL<|List UInt8)×Nat×Bool) (by show _-(g.1+1)<_; omega) ⟨(by show g.1+1<=_; omega),(by rw [<-az]; exact Xh ak s _),(Sc (seen:=[o.nm]) T _).symm.trans D⟩ ay
 have aB:g.1=o.aA.length:=by simp at S; omega
 rw [aB,wv] at D;have D:g.2.2.2=l0 [o.nm] o.aA (qH o):=D;refine Ce<|Ex<|Ex<|dQ<|Et<|Cs<|ae<|I (Yf oH O)<|I (Yd 2 O O O ab)<|I (Yn kj O)<|ac O<|ad<|Cb ?_;refine ey (ι:=Nat×Bool) (λf=>[(81,.int .i64 (f.1:Int)),(5,.bool f.2)]) [(1,_),(2,_),(3,_),(79,_),(80,_)] (λf=>Ws w [] [aq M (cY st g.2.1 g.2.2.1),aq t (.cells #[.int .i64 (o.code.length:Int)] 3 (0,0)),aq L (.cells (kF o q).toArray 77 (0,0))] [k]) (λf=>f.1<=o.code.length/\m0 (o.code.drop f.1) f.2=m0 o.code (l0 [o.nm] o.aA<|qH o)) (λf=>o.code.length-f.1) (0,g.2.2.2) ⟨di _,(by rw [D]; rfl)⟩ ay ?_;intro f ⟨a',E⟩;refine ae<|I (cI O O)<|ad<|Cs ?_;refine Cc O (λW=>?_)<|λW=>?_
 ·have l:f.1<o.code.length:=by simpa using W
  obtain ⟨x,u⟩:=cR l;obtain ⟨F,G,H,n⟩:=j.code.b5 f.1 x u;have n:ar k F (G+f.1*3) x.cells:=n;refine bW<|Cs<|Cb<|ae<|I (Yo kj O O H l)<|I (dz 0 xm O O O<|n) ?_;refine Al Y O h3 λa_=>?_;refine aT 0 Y O O O Gq O O O<|ad<|aao 0 (.cells (x.cells).toArray 62 (0,0)) O O<|Cr<|ac O<|ac O ?_;apply La 3 O O O O Y O O O O O
  ·intro ba;refine Vg (Yf vz O)<|Vg (Yd 0 O O O ab)<|Vg (hS O O) ?_;exact Gt 3 O O O
  refine ac O ?_;apply La 3 O O O O Y O O O O O
  ·intro bb;refine Vg (Yf vz O)<|Vg (Yd 0 O O O ab)<|Vg (jF O O) ?_;exact Gt 3 O O O
  refine ag O<|Ln<|Eb<|Et<|Cr<|I (Yi O O O aa)<|ac O<|Ln ?_;exact c8 ((f.1+1,_):Nat×Bool) (by show _-(f.1+1)<_; omega) ⟨(by show f.1+1<=_; omega),(Sd u _).symm.trans E⟩<|λ_ h=>Wd 1 h
 have aC:f.1=o.code.length:=by simp at W; omega
 rw [aC,wv] at E;have E:f.2=m0 o.code (l0 [o.nm] o.aA<|qH o):=E;refine Ce<|Ex<|Ex<|dQ<|Et<|ae<|I (wF O)<|ag O<|ad<|Cs<|ae<|I (Yf ur O)<|I (Yd 2 O O O ab)<|I (Yn e3 O) ?_;refine ac O<|ad<|Cb ?_;refine ey (ι:=Nat×Bool) (λd=>[(101,.int .i64 (d.1:Int)),(5,.bool d.2)]) [(1,_),(2,_),(3,_),(10,_),(99,_),(100,_)] (λd=>Ws w [] [aq M (cY st g.2.1 g.2.2.1),aq t (.cells #[.int .i64 (o.code.length:Int)] 3 (0,0)),aq L (.cells (kF o q).toArray 77 (0,0))] [k]) (λd=>d.1<=o.fe.length/\dq o.code.length (o.fe.drop d.1) d.2=dq o.code.length o.fe (m0 o.code<|l0 [o.nm] o.aA<|qH o)) (λd=>o.fe.length-d.1) (0,f.2) ⟨di _,(by rw [E]; rfl)⟩ ay ?_;intro d ⟨bc,J⟩;refine ae<|I (cI O O)<|ad<|Cs ?_;refine Cc O (λX=>?_)<|λX=>?_
 ·have l:d.1<o.fe.length:=by simpa using X
  obtain ⟨x,u⟩:=cR l;obtain ⟨F,G,H,n⟩:=j.fe.b5 d.1 x u;have n:ar k F (G+d.1*1) (g5 x):=n;refine bW<|Cs<|Cb<|ae<|I (Yo e3 O O H l)<|I (eQ 0 ab O O<|n 0 _ O)<|ag O<|ad<|Cr<|ac O<|ac O ?_;apply La 3 (x:=hO o.code.length x) O O O O Y O O O O O
  ·intro bd;refine Vg (Ym O)<|Vg (Ym O) ?_;refine WL.A5 (.g O O O) O aF O O (λw i=>Dp (hv w) t o.code.length (x) w (jc w)<|tG (i.oe 1 O) O) ?_;exact Gt 3 O O O
  refine ag O<|Ln<|Eb<|Et<|Cr<|I (Yi O O O aa)<|ac O<|Ln ?_;exact c8 ((d.1+1,(d.2&&hO o.code.length x)):Nat×Bool) (by show _-(d.1+1)<_; omega) ⟨(by show d.1+1<=_; omega),(Se u _).symm.trans J⟩ ay
 have aD:d.1=o.fe.length:=by simp at X; omega
 rw [aD,wv] at J;have J:d.2=dq o.code.length o.fe (m0 o.code<|l0 [o.nm] o.aA<|qH o):=J;refine Ce<|Ex<|Ex<|dQ<|Et<|ae<|ag O<|ad<|Cs<|ae<|I (Yf Ae O)<|I (Yd 2 O O O ab)<|I (Yn xW O)<|ac O ?_;refine ad<|Cb ?_;refine ey (ι:=Nat×Int×Bool) (λb=>[(115,.int .i64 (b.1:Int)),(13,.int .i64 b.2.1),(5,.bool b.2.2)]) [(1,_),(2,_),(3,_),(10,_),(113,_),(114,_)] (λb=>Ws w [] [aq M (cY st g.2.1 g.2.2.1),aq t (.cells #[.int .i64 (o.code.length:Int)] 3 (0,0)),aq L (.cells (kF o q).toArray 77 (0,0))] [k]) (λb=>b.1<=o.fix.length/\mA o.aA.length o.code (o.fix.drop b.1) b.2.1 b.2.2=tZ o) (λb=>o.fix.length-b.1) (0,-1,d.2) ⟨di _,(by rw [J]; rfl)⟩ ay ?_;intro b ⟨be,A⟩;refine ae<|I (cI O O)<|ad<|Cs ?_;refine Cc O (λZ=>?_)<|λZ=>?_
 ·have l:b.1<o.fix.length:=by simpa using Z
  obtain ⟨x,u⟩:=cR l;obtain ⟨F,G,H,n⟩:=j.fix.b5 b.1 x u;have n:ar k F (G+b.1*3) x.cells:=n;have r:=Sf (U:=o.aA.length) (c:=o.code) u b.2.1 b.2.2;rw [A] at r;refine bW<|Cs<|Cb<|ae<|I (Yo xW O O H l)<|I (dz 0 Hv O O O<|n) ?_;refine Al Y O Dj λbf=>?_;refine aT 0 Y O O O Hw O O O<|ad<|Cs<|aao 0 (.cells (x.cells).toArray 198 (0,0)) O O<|Cr<|ac O<|ac O ?_;apply La 4 O O O O Y O O O O O
  ·intro bg;refine Vg (Yf xX O)<|Vg (Yd 0 O O O ab)<|Vg (Ym O)<|Vg (eh O O) ?_;exact Gt 4 O O O
  refine ac O ?_;apply La 4 (x:=hO o.code.length x.at_) O O O O Y O O O O O
  ·intro bh;refine Vg (Ym O)<|Vg (Yf xX O)<|Vg (Yd 0 O O O ab) ?_;refine WL.A5 (.g O O O) O aF O O (λw i=>Dp (hv w) t o.code.length (x.at_) w (jc w)<|tG (i.oe 2 O) O) ?_;exact Gt 4 O O O
  refine ag O<|ad<|Cs<|ae<|ac O<|I (gW O)<|ad ?_;refine Cc O (λaf=>?_)<|λaf=>?_
  ·have al:((b.2.2&&decide (b.2.1<x.at_))&&hO o.code.length x.at_)=false:=by
     have N:=af
     cases aE:((b.2.2&&decide (b.2.1<x.at_))&&hO o.code.length x.at_) with
     | false=>rfl
     | true=>rw [aE] at N; cases N
   rw [ZZ al] at r;refine Ce<|Ex<|Eg O<|Ex<|Ex<|dQ<|Et<|Cs<|ae<|ac O<|I (gW O)<|ac O ?_;apply Lo 5 (x:=!(hO o.code.length o.main)) O O O O Y O O O O O
   ·intro aG;refine Vg (Ym O)<|Vg (Yf Dk O)<|Vg (Yd 3 O O O ab) ?_;refine WL.A5 (.g O O O) O aF O O (λw i=>Dp (hv w) t o.code.length (o.main) w (jc w)<|tG (i.oe 2 O) O) ?_;refine Vg (gW O) ?_;exact Gt 5 O O O
   refine ad ?_;refine Cc O (λv=>?_)<|λv=>?_
   ·refine ae<|ag O<|ad<|am<|Er ?_;refine R1 O O λz i=>?_;exact ⟨by rw [ik,C,ZX a8,ZZ (by rw [r]; rfl)],i.fr⟩
   refine bW<|ae<|ag O<|ad<|am ?_;refine R1 O O λz i=>?_;rw [al] at v;exact absurd v ai
  have an:((b.2.2&&decide (b.2.1<x.at_))&&hO o.code.length x.at_)=true:=by simpa using af
  rw [ZX (by rw [an]; decide)] at r;obtain ⟨p,bi,aH⟩:=ek (eH.1 an).2
  have ao:x.at_.toNat=p:=aa
  obtain ⟨y,ap⟩:=cR aH;obtain ⟨aI,aJ,aK,P⟩:=j.code.b5 p y ap;have P:ar k aI (aJ+p*3) y.cells:=P;rw [<-ao] at P
  have aM:jj o.code x.at_=y.a:=by unfold jj; rw [ao,ap]; rfl
  rw [aM] at r;refine bW<|ae<|I (Yf xX O)<|I (Yd 0 O O O ab)<|ag O<|ad<|ae<|I (Yf oH O)<|I (Yd 3 O O O ab)<|I (Yf xX O) ?_;refine I (Yd 0 O O O ab)<|I (wC kj O O aK aa aa)<|I (Yf m4 O)<|I (eQ 0 ab O O<|P 1 _ O)<|ag O<|ad<|ae<|ac O<|I (hS O O) ?_;refine ac O ?_;apply La 2 O O O O Y O O O O O
  ·intro bj;refine Vg (Ym O)<|Vg (jF O O) ?_;exact Gt 2 O O O
  refine ag O<|ad<|ae<|I (Yf Hx O)<|I (Yd 0 O O O ab)<|ad<|Cb<|ae<|I (bz O O)<|ag O<|ad ?_;refine Cc O (λah=>?_)<|λah=>?_
  ·have K:x.kind=1:=by simpa using ah
   refine Cr<|ac O<|ac O ?_;apply La 3 O O O O Y O O O O O
   ·intro bk;refine Vg (Yf wa O)<|Vg (Yd 0 O O O ab)<|Vg (bz O O) ?_;exact Gt 3 O O O
   refine ac O ?_;apply La 3 O O O O Y O O O O O
   ·intro bl;refine Vg (Ym O)<|Vg (Yd 2 O O O ab)<|Vg (jF O O) ?_;exact Gt 3 O O O
   refine ag O<|Ln<|Eb<|Eb<|Et<|Cr<|I (Yi O O O aa)<|ac O<|Ln ?_;exact c8 ((b.1+1,x.at_,(((decide (0<=y.a)&&decide (y.a<=2048))&&(x.m==0))&&decide (y.a<=(o.code.length:Int)))):Nat×Int×Bool) (by show _-(b.1+1)<_; omega) ⟨(by show b.1+1<=_; omega),(congrArg (mA o.aA.length o.code (o.fix.drop<|b.1+1) x.at_)<|show (((decide (0<=y.a)&&decide (y.a<=2048))&&(x.m==0))&&decide (y.a<=(o.code.length:Int)))=kf o.aA.length o.code.length x.kind x.m y.a from ((by unfold kf; rw [ZZ K]))).trans r.symm⟩<|λ_ h=>Wd 1 h
  have K:¬x.kind=1:=by simpa using ah
  refine Cs<|ae<|I (bz O O)<|ag O<|ad ?_;refine Cc O (λQ=>?_)<|λQ=>?_
  ·have aj:x.kind=2:=by simpa using Q
   refine bW ?_;refine Cc O (λB=>?_)<|λB=>?_
   ·refine Cr<|ac O<|ac O ?_;apply La 3 O O O O Y O O O O O
    ·intro aN;refine Vg (Yf wa O)<|Vg (Yd 0 O O O ab)<|Vg (hS O O) ?_;exact Gt 3 O O O
    refine ac O ?_;apply La 6 O O O O Y O O O O O
    ·intro aO;refine Vg (Yf wa O)<|Vg (Yd 0 O O O ab)<|Vg (Yf Ai O)<|Vg (Yd 3 O O O ab)<|Vg (Yn fQ O)<|Vg (jF O O) ?_;exact Gt 6 O O O
    refine ag O<|Ln<|Eb<|Eb<|Et<|Cr<|I (Yi O O O aa)<|ac O<|Ln ?_;exact c8 ((b.1+1,x.at_,(((decide (0<=y.a)&&decide (y.a<=2048))&&decide (0<=x.m))&&decide (x.m<=(o.aA.length:Int)))):Nat×Int×Bool) (by show _-(b.1+1)<_; omega) ⟨(by show b.1+1<=_; omega),(congrArg (mA o.aA.length o.code (o.fix.drop<|b.1+1) x.at_)<|show (((decide (0<=y.a)&&decide (y.a<=2048))&&decide (0<=x.m))&&decide (x.m<=(o.aA.length:Int)))=kf o.aA.length o.code.length x.kind x.m y.a from ((by unfold kf; rw [ZX K,ZZ (.inl aj)]))).trans r.symm⟩<|λ_ h=>Wd 1 h
   refine Cr<|ag O<|Ln<|Eb<|Eb<|Et<|Cr<|I (Yi O O O aa)<|ac O<|Ln ?_;exact c8 ((b.1+1,x.at_,false):Nat×Int×Bool) (by show _-(b.1+1)<_; omega) ⟨(by show b.1+1<=_; omega),(congrArg (mA o.aA.length o.code (o.fix.drop<|b.1+1) x.at_)<|show false=kf o.aA.length o.code.length x.kind x.m y.a from ((by exact absurd (Q.symm.trans B) a8))).trans r.symm⟩<|λ_ h=>Wd 1 h
  have aj:¬x.kind=2:=by simpa using Q
  refine Cr<|I (bz O O)<|ag O<|ad ?_;refine Cc O (λB=>?_)<|λB=>?_
  ·refine Cr<|ac O<|ac O ?_;apply La 3 O O O O Y O O O O O
   ·intro aN;refine Vg (Yf wa O)<|Vg (Yd 0 O O O ab)<|Vg (hS O O) ?_;exact Gt 3 O O O
   refine ac O ?_;apply La 6 O O O O Y O O O O O
   ·intro aO;refine Vg (Yf wa O)<|Vg (Yd 0 O O O ab)<|Vg (Yf Ai O)<|Vg (Yd 3 O O O ab)<|Vg (Yn fQ O)<|Vg (jF O O) ?_;exact Gt 6 O O O
   refine ag O<|Ln<|Eb<|Eb<|Et<|Cr<|I (Yi O O O aa)<|ac O<|Ln ?_;exact c8 ((b.1+1,x.at_,(((decide (0<=y.a)&&decide (y.a<=2048))&&decide (0<=x.m))&&decide (x.m<=(o.aA.length:Int)))):Nat×Int×Bool) (by show _-(b.1+1)<_; omega) ⟨(by show b.1+1<=_; omega),(congrArg (mA o.aA.length o.code (o.fix.drop<|b.1+1) x.at_)<|show (((decide (0<=y.a)&&decide (y.a<=2048))&&decide (0<=x.m))&&decide (x.m<=(o.aA.length:Int)))=kf o.aA.length o.code.length x.kind x.m y.a from ((by unfold kf; rw [ZX K,ZZ (.inr (by simpa using B))]))).trans r.symm⟩<|λ_ h=>Wd 1 h
  refine Cr<|ag O<|Ln<|Eb<|Eb<|Et<|Cr<|I (Yi O O O aa)<|ac O<|Ln ?_;exact c8 ((b.1+1,x.at_,false):Nat×Int×Bool) (by show _-(b.1+1)<_; omega) ⟨(by show b.1+1<=_; omega),(congrArg (mA o.aA.length o.code (o.fix.drop<|b.1+1) x.at_)<|show false=kf o.aA.length o.code.length x.kind x.m y.a from ((by unfold kf; rw [ZX K,ZX (λh=>h.elim aj (by simpa using B))]))).trans r.symm⟩<|λ_ h=>Wd 1 h
 have aP:b.1=o.fix.length:=by simp at Z; omega
 rw [aP,wv] at A;have A:b.2.2=tZ o:=A;refine Ce<|Ex<|Ex<|dQ<|Et<|Cs<|ae<|ac O<|I (gW O)<|ac O ?_;apply Lo 5 (x:=!(hO o.code.length o.main)) O O O O Y O O O O O
 ·intro aG;refine Vg (Ym O)<|Vg (Yf Dk O)<|Vg (Yd 2 O O O ab) ?_;refine WL.A5 (.g O O O) O aF O O (λw i=>Dp (hv w) t o.code.length (o.main) w (jc w)<|tG (i.oe 1 O) O) ?_;refine Vg (gW O) ?_;exact Gt 5 O O O
 refine ad ?_;refine Cc O (λv=>?_)<|λv=>?_
 ·refine ae<|ag O<|ad<|am<|Er ?_;refine R1 O O λz i=>?_;exact ⟨by rw [ik,C,ZX a8,<-A,ZZ v],i.fr⟩
 refine bW<|ae<|ag O<|ad<|am ?_;refine R1 O O λz i=>?_;exact ⟨by rw [ik,C,ZX a8,<-A,ZX (by rw [v]; decide)],i.fr⟩
def Lh (s:List UInt8):(Cj s).length=s.length+1:=rfl
variable {hz:List ao} {aH:Int}
def Oh {y:ao} (h:aH.toNat=Z) (b:hz[Z]? = some y):jj hz aH=y.a:=by unfold jj; rw [h,b]; rfl
def Gv:au prog 62 2=some 2:=ab
abbrev XO:=av×nA
def XO.cells (e:XO):List Value:=kF e.1 e.2
def XO.cD (e:XO):(XO.cells e).length=7:=rfl
def Aj (a:View) (b o:Nat) (e:XO):Prop:=ar a b o<|XO.cells e
def rW (a:View) (b o:Nat) (x:av):Prop:=∃q,ar a b o (kF x q)/\pU a q x
variable {cg:av}
def xY {q:nA}  (h:pU an q cg) (hv:bG an b4):pU b4 q cg:=⟨h.aA.imp λ_ _ _ r=>ar.mono hv r,h.code.imp λ_ _ _ r=>ar.mono hv r,h.fix.imp λ_ _ _ r=>ar.mono hv r,h.fe.imp λ_ _ _ r=>ar.mono hv r⟩
def Hy {es:List XO} (h:Sl Aj 7 an dj Z es) (hv:bG an b4) (d:∀e ∈ es,pU b4 e.2 e.1):Sl rW 7 b4 dj Z (es.map (·.1)):=by
 refine ⟨by rw [fu]; exact h.cap,h.max,h.spot,λi x a=>?_⟩;rw [e4] at a;obtain ⟨y,c,rfl⟩:=dS.1 a;obtain ⟨b,o,f,g⟩:=h.b5 i y c;exact ⟨b,o,f,y.2,ar.mono hv g,d y<|az c⟩
def b6:av:=(fm (eF jZ []).1).1.to
def kK:av:=(fm (eF cB gM).1).1.to
def Xj:dh (eF jZ []).1<=1048576:=by decide +kernel
def Xk:dh (eF cB gM).1<=1048576:=by decide +kernel
def nC:hf prog 74 77 (.agg #[st [],.slice none 0 0,.int .i64 0,.slice none 0 0,.slice none 0 0,.slice none 0 0,.int .i64 0]) 7 128:=jb ab
def Oi (a b:View) (a1 a2:Option Addr) (c1 c2:Nat) (l:List Int) (w:World) (o:Le a w) (p:Le b w) (c:Sl hy 1 a a1 c1 l) (f:Sl hy 1 b a2 c2 l) :
   Calls prog 24 #[.slice a1 l.length c1,.slice a2 l.length c2] w λe k=>e = .returned (.bool true)/\Ext w k:=by
 have z:=c.cap;have A:=c.max;have B:=f.cap;have C:=f.max;refine enter func24 O 26 O O ?_;refine CE (Vs:=[a,b]) (Ws.init (by simp [o,p]))<|ae<|ag O<|ad<|Cs<|ae<|ac O<|I (Yn e3 O)<|ac O<|I (Yn e3 O) ?_;refine I (JD O O O)<|ad ?_;refine WC.uQ O ?_;refine bW<|Cs<|ae<|ag O<|ad<|Cb ?_;refine ql (ι:=Nat) (λi=>[(5,.int .i64 (i:Int))]) [(0,_),(1,_)] (λi=>i<=l.length) (λi=>l.length-i) 0 (di _) ?_;intro i hi;refine Cs<|ae<|ac O<|ac O<|I (Yn e3 O)<|I (cI O O)<|ad ?_;refine Cc O (λm=>?_)<|λm=>?_
 ·have q:i<l.length:=by simpa using m
  obtain ⟨x,n⟩:=cR q;obtain ⟨pb,r,s,g⟩:=c.b5 i x n;obtain ⟨t,u,v,j⟩:=f.b5 i x n;have g:ar a pb (r+i*1) (g5 x):=g;have j:ar b t (u+i*1) (g5 x):=j;refine bW<|Cs<|Cb<|Cs ?_;refine WC.qn [(0,true),(1,true),(2,true),(3,true),(4,true),(5,true),(6,true),(7,true),(8,true)] mixed ab (λ_ _ _ d _ h=>by cases d<;>exact h) ?_;refine D0 O ay (Ym O)<|D0 O ay (Ym O)<|D0 O ay (Yo e3 O O s aa)<|D0 O ay (eQ 0 ab O O<|g 0 _ O)<|D0 O ay (Ym O)<|D0 O ay (Ym O)<|D0 O ay (Yo e3 O O v aa)<|D0 O ay (eQ 1 ab O O<|j 0 _ O) ?_;refine D0 O ay (JD O O O) ?_;refine WD.nil ay ?_;refine Et ?_;refine WC.uQ O ?_;refine Ck<|Eb<|Et<|Cr<|ac O<|I (Yi O O O aa)<|ag O<|Ln ?_;exact c8 (i+1) aa aa ay
 refine Ce<|Ex<|Ex<|dQ<|Et<|ae<|ag O<|ad<|am ?_;refine R1 O O λk y=>?_;exact ⟨O,y.fr⟩
def Hz (a:View) (ke k:Nat) (u:b8) (r:kQ) (w:World) (c:Le a w) (d:kR ke k a r u) (f:dh u<=1048576):Calls prog 27 #[.agg (ga u r).toArray] w λe b=>∃r:nA,e = .returned (.tuple #[.agg (kF (fm u).1.to r).toArray,.int .i64 (fm u).2])/\Ext w b/\pU (nv w b) r (fm u).1.to:=
 (Xe a ke k u r w c d f).mono λe b ⟨r,g,h,i⟩=>⟨r,by rw [g,Sa],h,Sb i⟩
def HA (d:View) (w:World) (x:Le d w) (s:Laid d) :
   Calls prog 97 #[] w λe l=>∃q:SP,e = .returned (.slice q.1 2 q.2)/\Ext w l/\Sl rW 7 (nv w l) q.1 q.2 [b6,kK]:=by
 refine enter func97 O 22 O O ?_;refine CE (Vs:=[d]) (Ws.init (by simp [x]))<|ae<|ag O<|ad<|Cs ?_;obtain ⟨g,t⟩:∃c,c=(fm (eF jZ []).1).1.to:=⟨_,rfl⟩;obtain ⟨j,u⟩:∃c,c=(fm (eF cB gM).1).1.to:=⟨_,rfl⟩;obtain ⟨y,z⟩:∃c,c=(fm (eF jZ []).1).2:=⟨_,rfl⟩;obtain ⟨A,B⟩:∃c,c=(fm (eF cB gM).1).2:=⟨_,rfl⟩;refine Cr ?_;refine Ld Y O aF O (λq:SP=>.slice q.1 2 q.2) (λb q=>Sl (Dl 8 7) 5 b q.1 q.2 Ht) (λw a=>Og d w a.V s) ?_;intro C U W m;obtain ⟨X,Z,D,E,F,G⟩:=m.b5 0 _ rfl;have aa:=m.cap;have ab:=m.max;refine I (Yo (i:=0) lF O O D a8)<|I (dz 0 bs O O O<|F) ?_
 refine Ld Y O aF O (λr:nA=>.tuple #[.agg (kF (g) r).toArray,.int .i64 (y)]) (λb r=>pU b r g) (λw a=>by
     have k:=Hz C 8 7 (eF jZ []).1 E w a.V G Xj;rw [<-t,<-z] at k
     exact k) ?_
 intro af n H J;refine ac O<|I (Yx O O)<|I (Yx O O) ?_;refine Al Y O p_ λah=>?_;refine aT 0 Y O O O q0 O O O<|ag O<|ad<|ae ?_;refine Ld Y O aF O (λq:SP=>.slice q.1 2 q.2) (λb q=>Sl (Dl 8 7) 5 b q.1 q.2 Ht) (λw a=>Og d w a.V s) ?_;intro K aj ak o;obtain ⟨al,an,L,M,N,P⟩:=o.b5 1 _ rfl;have ao:=o.cap;have ap:=o.max;refine I (Yo (i:=1) lF O O L a8)<|I (dz 0 bs O O O<|N) ?_
 refine Ld Y O aF O (λr:nA=>.tuple #[.agg (kF (j) r).toArray,.int .i64 (A)]) (λb r=>pU b r j) (λw a=>by
     have k:=Hz K 8 7 (eF cB gM).1 M w a.V P Xk;rw [<-u,<-B] at k
     exact k) ?_
 intro aq p Q R;refine ac O<|I (Yx O O)<|I (Yx O O) ?_;refine Al Y O p_ λar=>?_;refine aT 0 Y O O O q0 O O O<|ag O<|ad<|ae<|I (db 1 O O oI O)<|I (db 0 O O oI O) ?_;refine Lb Y O nC O O O O λS=>?_;refine dk 0 (.cells ((([(g,n),(j,p)]:List XO)).flatMap XO.cells).toArray 77 (0,0)) O O<|LW (λ_ h=>h.mQ (f:=XO.cells) (xs:=([(g,n),(j,p)]:List XO)) (c:=2) 0 O XO.cD O a8)<|ag O<|ad<|am ?_;refine R1 O O λl a=>?_;refine ⟨(some ⟨S,0,none⟩,2),O,a.fr,?_⟩;unfold b6 kK;rw [<-t,<-u];have T:=a.hW (rd:=Aj) 0 rfl XO.cD dN
 exact Hy (es:=[(g,n),(j,p)]) T lH λe v=>by
   simp only [ep,yj,aai] at v
   rcases v with rfl | rfl
   · exact xY J<|aG a ai H
   · exact xY R<|aG a ai Q
def Dr (p:Pl) (q:SP):List Value:=[.int .i64 p.code,.int .i64 p.data,.slice q.1 p.vi.length q.2]
abbrev ko:=Pl×SP
def ko.cells (e:ko):List Value:=Dr e.1 e.2
def ko.cD (e:ko):(ko.cells e).length=3:=rfl
def Oj (a:View) (b o:Nat) (e:ko):Prop:=ar a b o<|ko.cells e
def wb (J:View) (e:ko):Prop:=Sl pQ 1 J e.2.1 e.2.2 e.1.vi
def HB {e:ko} (hv:bG an b4) (h:wb an e):wb b4 e:=Sl.imp (λb o x h=>ar.mono hv h) h
def Ds (a:View) (b o:Nat) (p:Pl):Prop:=∃q:SP,ar a b o (Dr p q)/\Sl pQ 1 a q.1 q.2 p.vi
def Xl {a J N:View}   {es:List ko} (h:Sl Oj 3 a dj Z es) (hv:bG a N) (c:bG J N) (d:Xs wb J es):Sl Ds 3 N dj Z (es.map (·.1)):=
 vd h d λb o e f g=>⟨e.2,ar.mono hv f,HB c g⟩
def qa (l:List av):List Pl:=if h0 l=0 then ow l++[aav l] else []
variable {bl:List av}
def Ak (h:¬h0 bl=0):qa bl=[]:=by rw [qa,ZX h]
structure Ok where
 i:Nat
 es:List ko
 oa:SP
 J:View
def Xm (l:List av):(ow l).take l.length=ow l:=lJ (by rw [aaz]; exact cQ _)
variable {bQ bj:Int}
def Xn {U n:Nat}  (h:kf U n aH bQ bj=true) (a:aH=2):0<=bj/\bj<=2048/\0<=bQ/\bQ<=(U:Int):=by
 subst a;unfold kf at h;rw [ZX a8,ZZ (.inl rfl)] at h;simp only [dE,aab] at h;omega
def l_:aat prog 74=some 7:=ab
def Ol:gX prog 196=some [(0,1),(1,1),(2,1)]:=ab
def j4:zeroOf prog 196=some (.agg #[.int .i64 0,.int .i64 0,.slice none 0 0]):=ab
def HC:aJ prog 196=some 3:=ab
def uu:au prog 196 0=some 0:=ab
def xZ:au prog 196 1=some 1:=ab
def Dt:au prog 196 2=some 2:=ab
def HD:hr prog 196=some 3:=ab
def Du:hf prog 192 196 (.agg #[.int .i64 0,.int .i64 0,.slice none 0 0]) 3 40:=jb ab
def uv:aat prog 192=some 3:=ab
def Om (A:View) (a:Option Addr) (c:Nat) (l:List av) (w:World) (bi:Le A w) (M:Sl rW 7 A a c l) :
   Calls prog 101 #[.slice a l.length c] w λe G=>∃q:SP,e = .returned (.tuple #[.slice q.1 (qa l).length q.2,.int .i64 (h0 l)])/\Ext w G/\Sl Ds 3 (nv w G) q.1 q.2 (qa l):=by
 have ce:=M.cap;have cf:=M.max;refine enter func101 O 163 O O ?_;refine CE (Vs:=[A]) (Ws.init (by simp [bi]))<|ae<|ag O<|ag O<|ad<|Cs<|ae<|ac O<|I (Yn l_ O)<|I (cI O O) ?_;refine ac O ?_;apply Lo 3 O O O O Y O O O O O
 ·intro bj;refine Vg (Ym O)<|Vg (Yn l_ O)<|Vg (eh O O) ?_;exact Gt 3 O O O
 refine ad ?_;refine Cc O (λal=>?_)<|λal=>?_
 ·have L:l.length<1\/4<l.length:=by simp at al; omega
  have v:=BE L;refine ae<|ag O<|ag O<|ad<|am<|Er ?_;refine WE.ng O O O λG z=>?_;rw [Ak (by rw [v]; decide),v];exact ⟨(none,0),O,z.fr,Sl.nil⟩
 have L:¬(l.length<1\/4<l.length):=by simp at al; omega
 refine bW<|ae ?_;refine WL.pD st Y O λbk=>?_;refine ag O<|ad<|Cs<|ae<|ac O<|I (Yn l_ O)<|ac O<|ad<|Cb ?_;refine ey (ι:=Nat×List (aL<|List UInt8)×Nat) (λt=>[(33,.int .i64 (t.1:Int))]) [(0,_),(4,_),(31,_),(32,_)] (λt=>Ws w [] [aq bk (cY st t.2.1 t.2.2)] [A]) (λt=>t.1<=l.length/\(∀o ∈ l.take t.1,ik o=0)/\sB (gc l) t.1 t.2.1) (λt=>l.length-t.1) (0,[],0) ⟨di _,by simp,sB.zero _⟩ (λ_ h=>h) ?_;intro t ⟨bj,F,U⟩;refine ae<|I (cI O O)<|ad<|Cs ?_;refine Cc O (λan=>?_)<|λan=>?_
 ·have C:t.1<l.length:=by simpa using an
  obtain ⟨o,u⟩:∃q,l[t.1]? = some q:=⟨_,c6 C⟩;obtain ⟨aS,aU,P,Q⟩:=M.b5 t.1 o u;obtain ⟨H,S,r⟩:=Q;have V:=az u;have aV:=r.aA.cap;have aW:=r.aA.max;have aX:=r.fix.cap;have aY:=r.fix.max;have aZ:=r.code.cap;have a0:=r.code.max;refine bW<|Cs<|Cb<|ae<|I (Yo l_ O O P C)<|I (dz 0 oI O O O<|S) ?_;refine Al Y O p_ λcg=>?_;refine aT 0 Y O O O q0 O O O<|ad<|Cs<|Cs<|aao 0 (.cells (kF o H).toArray 77 (0,0)) O O<|Cr<|I (db 0 O O oI O)<|Lp Y O aF O (λw z=>Xi A o H w (z.vs _ (by simp)) r)<|ag O<|ad<|ae ?_;refine ac O<|I (h9 O O)<|ad ?_;refine Cc O (λao=>?_)<|λao=>?_
  ·have E:¬ik o=0:=by simpa using ao
   have v:=Sr L u F E;refine ae<|ac O<|ag O<|ag O<|ad<|am<|Er<|cN<|Er<|Er<|cN<|Er ?_;refine WE.ng O O O λG z=>?_;rw [Ak (by rw [v]; exact E),v];exact ⟨(none,0),O,z.fr,Sl.nil⟩
  have E:ik o=0:=by simpa using ao
  refine bW<|Cr<|ac O<|I (Yf Do O)<|I (Yd 0 O O O ab)<|I (rf 1 iW iC ab l8 O O O) ?_;rw [U.1 o.nm];refine I (ni O O (by have B:((gc l).take t.1).count o.nm<=((gc l).take t.1).length:=Ie; rw [k',xe] at B; omega)) ?_;refine WL.rh 1 iW Y iC ab O O O O ?_;refine Ln<|Eb<|Et<|Cr<|I (Yi O O O (by omega))<|ac O<|Ln ?_;exact c8 ((t.1+1,_,_):Nat×List (aL<|List UInt8)×Nat) (by show _-(t.1+1)<_; omega) ⟨(by show t.1+1<=_; omega),Lj u F E,U.step (Lm u) _⟩<|λ_ h=>Wd 1 h
 have a1:t.1=l.length:=by simp at an; omega
 rw [a1,gE] at F;rw [a1,<-xe l] at U;have a2:=U.e8;refine Ce<|Ex<|Ex<|dQ<|Et<|Cs<|ae<|ac O<|I (pR 0 iC O O)<|ac O<|I (Yn l_ O)<|I (cI O O)<|ad ?_;refine Cc O (λap=>?_)<|λap=>?_
 ·have W:f_ (gc l)=true:=a2.1 (by rw [xe]; simp at ap; omega)
  have v:h0 l=6:=by rw [lM L F,ZZ W]
  refine ae<|ag O<|ag O<|ad<|am<|Er ?_;refine WE.ng O O O λG z=>?_;rw [Ak (by rw [v]; decide),v];exact ⟨(none,0),O,z.fr,Sl.nil⟩
 have W:f_ (gc l)=false:=by
   cases bl:f_ (gc l) with
   | false=>rfl
   | true=>have:=a2.2 bl; rw [xe] at this; simp at ap; omega
 have bm:=j_.2 W;have T:=lM L F;rw [W,ZX (by decide)] at T;refine bW<|ae ?_;refine WL.pD st Y O λX=>?_;refine ag O<|ad<|ae<|ac O<|I (Yn l_ O)<|I (Yi O O O (by omega))<|I (Yb j4 Ol O O) ?_;refine Al Y O j4 λZ=>?_;refine aT 0 Y O O O HC O O O<|ad<|ae<|ag O<|ad<|Cs<|Cs<|aao 0 (.cells #[.int .i64 ((l.length:Int)+1),.int .i64 0,.slice none 0 0] 196 (0,0)) O O ?_
 have bn:((l.length:Int)+1)=eG l 0:=by simp [eG,o']
 rw [bn];refine aao 0 (.cells #[.int .i64 (eG l 0),.int .i64 (aaq l 0),.slice none 0 0] 196 (0,0)) O O ?_;refine nf (λ_ h=>h.g4 196 3) ?_;refine nf (λ_ h=>h.v0) ?_;refine Cr<|ac O<|I (Yn l_ O)<|ac O<|ad<|Cb ?_;refine ey (ι:=Ok) (λg=>[(60,.int .i64 (g.i:Int)),(10,.slice g.oa.1 g.es.length g.oa.2)]) [(0,_),(8,_),(9,_),(58,_),(59,_)] (λg=>Ws w [] [cC 196 3 ko.cells g.oa.1 g.oa.2 g.es,aq X (cY st (kT ((gc l).take g.i) 0) g.i),aq Z (.cells #[.int .i64 (eG l g.i),.int .i64 (aaq l g.i),.slice none 0 0] 196 (0,0))] [g.J,A]) (λg=>g.i<=l.length/\g.es.map (·.1)=(ow l).take g.i/\(gw w g.J/\Xs wb g.J g.es)/\∀n o,n<g.i->l[n]? = some o->sy ((gc l).take n) o=true) (λg=>l.length-g.i) ⟨0,[],(none,0),v0⟩ ⟨di _,O,⟨rj _,Xs.nil _⟩,λn o h=>absurd h<|AN _⟩ (λ_ h=>by have h:=h.aj 1 O; have h:=h.aj 2 O; have h:=h.aj 2 O; have h:=Wt 3 h; have h:=Ws.aB h (b7:=[v0,A]) (by simp); exact h) ?_;intro g ⟨ch,N,⟨a3,au⟩,a4⟩;refine ae<|I (cI O O)<|ad<|Cs ?_;refine Cc O (λaw=>?_)<|λaw=>?_
 ·have C:g.i<l.length:=by simpa using aw
  obtain ⟨o,u⟩:∃q,l[g.i]? = some q:=⟨_,c6 C⟩;obtain ⟨aS,aU,P,Q⟩:=M.b5 g.i o u;obtain ⟨H,S,r⟩:=Q;have V:=az u;have aV:=r.aA.cap;have aW:=r.aA.max;have aX:=r.fix.cap;have aY:=r.fix.max;have aZ:=r.code.cap;have a0:=r.code.max;have E:=F o V;have aa:=y8 E;have ci:=aa.aA;have bo:=aa.code;have cj:=Ls E;have a5:=Lm u;have a6:=KG bm a5
  have a7:((gc l).take g.i).length=g.i:=by rw [k',xe]; omega
  have bp:(gc l).take (g.i+1)=((gc l).take g.i)++[o.nm]:=by rw [gV,a5]; rfl
  have ck:=y' L F (k:=g.i) (by omega);have cl:=y_ L F (k:=g.i) (by omega)
  have bq:g.es.length=g.i:=by rw [<-fu,N,k',aaz]; omega
  refine bW<|Cs<|Cb<|ae<|ac O<|I (Yo l_ O O P C)<|I (dz 1 oI O O O<|S) ?_;refine Al Y O p_ λbr=>?_;refine ag O<|aT 0 Y O O O q0 O O O<|ad<|Cs<|aao 0 (.cells (kF o H).toArray 77 (0,0)) O O<|Cr<|I (Yf uu O)<|I (Yd 3 O O O ab)<|I (Yf xZ O) ?_;refine I (Yd 3 O O O ab)<|ac O ?_;refine Lb Y O gm O O O O λbs=>?_;refine dk 0 (.cells ((([g.i]:List Nat)).flatMap jy).toArray 3 (0,0)) O O<|LW (λ_ h=>h.mQ (f:=jy) (xs:=([g.i]:List Nat)) (c:=1) 0 O w8 O (by decide))<|I (Yb j4 Ol O O) ?_;refine Al Y O j4 λbt=>?_;refine aT 0 Y O O O HC O O O<|ad<|Cs<|ae<|I (Yf Ai O)<|I (Yd 2 O O O ab)<|I (Yn fQ O)<|ac O<|ad<|Cb ?_;refine ey (ι:=Nat×SP) (λb=>[(75,.int .i64 (b.1:Int))]) [(0,_),(8,_),(9,_),(10,_),(11,_),(12,_),(13,_),(58,_),(59,_),(60,_),(73,_),(74,_)] (λb=>Ws w [] [cC 3 1 jy b.2.1 b.2.2 (g.i::(o.aA.take b.1).map (rC<|(gc l).take g.i)),aq bt (.cells #[.int .i64 (eG l g.i),.int .i64 (aaq l g.i),.slice b.2.1 (g.i::(o.aA.take b.1).map (rC<|(gc l).take g.i)).length b.2.2] 196 (0,0)),aq br (.cells (kF o H).toArray 77 (0,0)),cC 196 3 ko.cells g.oa.1 g.oa.2 g.es,aq X (cY st (kT ((gc l).take g.i) 0) g.i),aq Z (.cells #[.int .i64 (eG l g.i),.int .i64 (aaq l g.i),.slice none 0 0] 196 (0,0))] [g.J,A]) (λb=>b.1<=o.aA.length/\((o.aA.take b.1).all λs=>(idxOf s ((gc l).take g.i) 0).isSome)=true) (λb=>o.aA.length-b.1) (0,(some ⟨bs,0,none⟩,1)) ⟨di _,O⟩ (λ_ h=>by exact ((((((h.f 5 O).f 5 O).f 5 O).f 5 O).f 4 O).f 5 O:)) ?_;intro b ⟨cm,ax⟩;refine ae<|I (cI O O)<|ad<|Cs ?_;refine Cc O (λay=>?_)<|λay=>?_
  ·have C:b.1<o.aA.length:=by simpa using ay
   obtain ⟨s,af⟩:∃q,o.aA[b.1]? = some q:=⟨_,c6 C⟩;obtain ⟨bu,pos,bv,aC⟩:=r.aA.b5 b.1 s af;have aC:ar A bu (pos+b.1*1) (gk s):=aC;refine bW<|Cs<|Cb<|ae<|I (Yo fQ O O bv C)<|I (eQ 1 ab O O<|aC 0 _ O)<|ag O<|ad<|ae<|ac O<|ac O<|I (EM 4 iW iC ab l8 O O O) ?_;rw [(Ft _ _).1,(Ft _ _).2];refine ac O<|I (Yx O O)<|I (Yx O O)<|ag O<|ag O<|ad<|Cs<|ae<|ac O<|I (gW O) ?_;refine ad ?_;refine Cc O (λaD=>?_)<|λaD=>?_
   ·have bw:(idxOf s ((gc l).take g.i) 0).isSome=false:=by simpa using aD
    have v:h0 l=9:=by
      rw [T,ZZ (FW u ?_)];rw [Ee,sy,D3];exact ⟨s,az af,by rw [bw]; decide⟩
    refine ae<|ag O<|ag O<|ad<|am<|Er<|cN<|Er<|Er<|cN<|Er<|cN<|Er<|Er<|cN<|Er ?_;refine WE.ng O O O λG z=>?_;rw [Ak (by rw [v]; decide),v];exact ⟨(none,0),O,z.fr,Sl.nil⟩
   have bx:(idxOf s ((gc l).take g.i) 0).isSome=true:=by simpa using aD
   refine bW<|Cr<|I (Yf Dt O)<|I (Yd 1 O O O ab)<|ac O ?_;refine Lb Y O gm O O O O λcn=>?_;refine dk 0 (.cells (jy<|rC ((gc l).take g.i) s).toArray 3 (0,0)) O (O) ?_;refine LA (rC ((gc l).take g.i) s) 1 0 Y O gm O O O O O O (by simp; omega) (by simp; omega) λbA bB=>?_;rw [show (g.i::(o.aA.take b.1).map (rC<|(gc l).take g.i))++[rC ((gc l).take g.i) s]=(g.i::(o.aA.take<|b.1+1).map (rC<|(gc l).take g.i)) by rw [gV,af]; simp];refine I (Yf Dt O)<|aT 2 Y O O O jW O O O<|Ln<|Eb<|Et<|Cr<|I (Yi O O O (by omega))<|ac O<|Ln ?_;exact c8 ((b.1+1,(bA,bB)):Nat×SP) (by show _-(b.1+1)<_; omega) ⟨(by show b.1+1<=_; omega),w3 af ax bx⟩<|λ_ h=>Wd 1 h
  have bC:b.1=o.aA.length:=by simp at ay; omega
  refine Ce<|Ex<|Ex<|dQ<|Et<|Cs ?_;have bD:b.1=o.aA.length:=bC;rw [bD,gE] at ax ⊢;refine WC.o1 (rd:=pQ) 0 O (by simp) w8 (λ_ _ _ _ h=>h) λco bE bF=>?_;refine WC.j' λbG bH bI bJ=>?_;refine Cr<|ac O<|I (Yf Do O)<|I (Yd 1 O O O ab)<|ac O ?_;refine WL.rh 3 iW Y iC ab O O O O ?_;refine ad<|Cs ?_;rw [(B_ a6 a7).1,(B_ a6 a7).2,<-bp];refine Cr<|I (Yf uu O)<|I (Yd 4 O O O ab)<|I (Yf oH O)<|I (Yd 1 O O O ab)<|I (Yn kj O)<|I (ni O O (by omega))<|I (Yf uu O) ?_;refine aT 4 Y O O O dL O O O<|ad<|Cs ?_;rw [<-FY u];refine Cr<|I (Yf xZ O)<|I (Yd 4 O O O ab)<|I (Yf Hu O)<|I (Yd 1 O O O ab)<|I (ni O O (by omega))<|I (Yf xZ O)<|aT 4 Y O O O dL O O O ?_;refine ad ?_;rw [<-Ss u];refine Cr<|ac O<|I (db 0 O O HD O) ?_;refine Lb Y O Du O O O O λcp=>?_;refine dk 0 (.cells (ko.cells (qJ l g.i o,b.2)).toArray 196 (0,0)) O (O) ?_;refine LA (((qJ l g.i o,b.2):ko)) 3 0 Y O Du O O O O O O (by omega) (by omega) λbK bL=>?_;refine ag O<|Ln<|Eb<|Et<|Cr<|I (Yi O O O (by omega))<|ac O<|Ln ?_
  exact c8 (⟨g.i+1,g.es++[(qJ l g.i o,b.2)],(bK,bL),bG⟩:Ok) (by show _-(g.i+1)<_; omega) ⟨by show g.i+1<=_; omega,by show (g.es++[(qJ l g.i o,b.2)]).map (·.1)=_; rw [qi,N,KR u]; rfl,⟨bJ _ bE a3,Xs.snoc (R:=wb) (λhv h=>HB hv h) au bI bH bF⟩,λn aE D B=>by
      rcases ne.1 D with h | h
      · exact a4 n aE h B
      · subst h; rw [u] at B; injection B with B; subst B; exact ax⟩<|λ_ h=>Wd 3 h
 have a8:g.i=l.length:=by simp at aw; omega
 rw [a8,Xm] at N;rw [a8]
 have bq:g.es.length=l.length:=by rw [<-fu,N,aaz]
 have a9:∀n o,l[n]? = some o->sy ((gc l).take n) o=true:=λn o D=>a4 n o (by have:=(cq.1 D).1; omega) D;rw [lp (λn o D=>by rw [a9 n o D]; rfl),ZX (by decide)] at T;refine Ce<|Ex<|Ex<|dQ<|Et<|Cs<|Cs ?_;refine WC.re 0 O (by show 0<g.es.length; omega) λcr a' cs ct=>?_;refine Cr<|ac O<|I (Yn l_ O)<|ac O<|ad<|Cb ?_;refine ey (ι:=Nat) (λj=>[(118,.int .i64 (j:Int))]) [(0,_),(9,_),(10,_),(116,_),(117,_)] (λj=>Ws w [] [cC 196 3 ko.cells g.oa.1 g.oa.2 g.es,aq X (cY st (kT ((gc l).take l.length) 0) l.length),aq Z (.cells #[.int .i64 (eG l l.length),.int .i64 (aaq l l.length),.slice none 0 0] 196 (0,0))] [g.J,A]) (λj=>j<=l.length/\∀n o,n<j->l[n]? = some o->∀f ∈ o.fix,qK l n o f=false) (λj=>l.length-j) 0 ⟨di _,λn o h=>absurd h<|AN _⟩ (λ_ h=>h) ?_;intro j ⟨cu,a_⟩;refine ae<|I (cI O O)<|ad<|Cs ?_;refine Cc O (λaH=>?_)<|λaH=>?_
 ·have aI:j<l.length:=by simpa using aH
  obtain ⟨o,u⟩:∃q,l[j]? = some q:=⟨_,c6 aI⟩;obtain ⟨aS,aU,P,Q⟩:=M.b5 j o u;obtain ⟨H,S,r⟩:=Q;have V:=az u;have aV:=r.aA.cap;have aW:=r.aA.max;have aX:=r.fix.cap;have aY:=r.fix.max;have aZ:=r.code.cap;have a0:=r.code.max;have E:=F o V;have bM:=(aaw E).2;have aa:=y8 E;have bo:=aa.code;refine bW<|Cs<|Cb<|ae<|ac O<|I (Yo l_ O O P aI)<|I (dz 1 oI O O O<|S) ?_;refine Al Y O p_ λbN=>?_;refine ag O<|aT 0 Y O O O q0 O O O<|ad<|Cs<|aao 0 (.cells (kF o H).toArray 77 (0,0)) O O<|Cr<|I (Yf Ae O)<|I (Yd 0 O O O ab)<|I (Yn xW O) ?_;refine ac O<|ad<|Cb ?_;refine ey (ι:=Nat) (λk=>[(126,.int .i64 (k:Int))]) [(0,_),(9,_),(10,_),(18,_),(19,_),(116,_),(117,_),(118,_),(124,_),(125,_)] (λk=>Ws w [] [aq bN (.cells (kF o H).toArray 77 (0,0)),cC 196 3 ko.cells g.oa.1 g.oa.2 g.es,aq X (cY st (kT ((gc l).take l.length) 0) l.length),aq Z (.cells #[.int .i64 (eG l l.length),.int .i64 (aaq l l.length),.slice none 0 0] 196 (0,0))] [g.J,A]) (λk=>k<=o.fix.length/\∀f ∈ o.fix.take k,qK l j o f=false) (λk=>o.fix.length-k) 0 ⟨di _,by simp⟩ (λ_ h=>h) ?_;intro k ⟨cv,aJ⟩;refine ae<|I (cI O O)<|ad<|Cs ?_;refine Cc O (λaK=>?_)<|λaK=>?_
  ·have C:k<o.fix.length:=by simpa using aK
   obtain ⟨x,ah⟩:∃q,o.fix[k]? = some q:=⟨_,c6 C⟩;obtain ⟨bO,bP,bQ,aM⟩:=r.fix.b5 k x ah;have aM:ar A bO (bP+k*3) x.cells:=aM;refine bW<|Cs<|Cb<|ae<|I (Yo xW O O bQ C)<|I (dz 1 Hv O O O<|aM) ?_;refine Al Y O Dj λcw=>?_;refine aT 0 Y O O O Hw O O O<|ad<|Cs<|aao 0 (.cells (x.cells).toArray 198 (0,0)) O O ?_;refine WC.qn [(0,true),(1,true),(2,true),(3,true),(4,true),(5,true),(6,true),(7,true),(8,true),(9,true),(10,true),(11,true),(12,true),(13,true),(14,true),(15,true),(16,true),(17,true),(18,true),(19,true),(20,true),(21,true),(22,true),(23,true),(24,true),(25,true),(26,true)] mixed (by kernel_rfl) (λ_ _ _ d _ h=>by cases d<;>exact h) ?_;refine D0 O (λ_ h=>h) (Yf Hx O)<|D0 O (λ_ h=>h) (Yd 0 O O O ab)<|D0 O (λ_ h=>h) (bz O O)<|D0 O (λ_ h=>h) (Ym O) ?_;apply WD.and 22 (x:=decide ((aay l (g8 l j o x.m):Int)<=jj o.code x.at_)) O O O O O Y O (λ_ h=>h) O O O O
   ·intro bR
    have bS:x.kind=2:=by simpa using bR
    have ba:=bM.fix x (az ah);obtain ⟨p,cx,bT⟩:=ek ba.1
    have bb:x.at_.toNat=p:=by omega
    obtain ⟨y,bc⟩:∃y,o.code[p]? = some y:=⟨_,c6 bT⟩;obtain ⟨bd,be,bU,ai⟩:=r.code.b5 p y bc;have ai:ar A bd (be+p*3) y.cells:=ai;rw [<-bb] at ai;have bV:=Oh bb bc
    have bX:vc A bd (be+x.at_.toNat*3+1)=some (.int .i64<|jj o.code x.at_):=by
      rw [bV];exact ai 1 _ O
    obtain ⟨cy,cz,bY,bZ⟩:=Xn ba.2 bS;obtain ⟨b0,bf⟩:=Lt aI (a9 j o u) bY bZ;obtain ⟨e,aN⟩:∃e,g.es[j]? = some e:=⟨_,c6 (by omega)⟩
    have bg:e.1=qJ l j o:=by
      have K:(g.es.map (·.1))[j]? = some e.1:=by rw [e4,aN]; rfl
      rw [N,FZ u] at K
      injection K with K
      exact K.symm
    have aO:Sl pQ 1 g.J e.2.1 e.2.2 (o_ l j o):=by
      have K:=au e (az aN);unfold wb at K;rw [bg] at K;exact K
    have cA:=aO.cap;have cB:=aO.max;have b1:=F1 l j o;have cE:(qJ l j o).vi.length=o.aA.length+1:=b1;obtain ⟨b2,b3,b4,aP⟩:=aO.b5 x.m.toNat _ b0;have aP:ar g.J b2 (b3+x.m.toNat*1) (jy<|g8 l j o x.m):=aP;obtain ⟨ak,bh⟩:∃ak,l[g8 l j o x.m]? = some ak:=⟨_,c6 bf⟩;obtain ⟨cF,cG,b6,cH,b8,cJ⟩:=M.b5 _ ak bh
    have b9:aay l (g8 l j o x.m)=ak.fe.length:=by unfold aay; rw [bh]; rfl
    refine Dq O (.g O O O) O (λ_ h=>h) (Yf oH O)<|Dq O (.g O O O) O (λ_ h=>h) (Yd 1 O O O ab)<|Dq O (.g O O O) O (λ_ h=>h) (Yf xX O)<|Dq O (.g O O O) O (λ_ h=>h) (Yd 0 O O O ab)<|Dq O (.g O O O) O (λ_ h=>h) (wC kj O O bU (by omega) (by omega))<|Dq O (.g O O O) O (λ_ h=>h) (Yf m4 O)<|Dq O (.g O O O) O (λ_ h=>h) (eQ 1 ab O O<|bX)<|Dq O (.g O O O) O (λ_ h=>h) (Ym O) ?_;refine Dq O (.g O O O) O (λ_ h=>h) (Ym O)<|Dq O (.g O O O) O (λ_ h=>h) (Ym O)<|Dq O (.g O O O) O (λ_ h=>h) (Yo uv O O a' (by omega))<|Dq O (.g O O O) O (λ_ h=>h) (Yf Dt O)<|Dq O (.g O O O) O (λ_ h=>h) (n4 (y:=e) 2 j 2 O O a' O ko.cD aN (by rw [show ko.cells e=Dr e.1 e.2 from O,bg]; rfl) ab)<|Dq O (.g O O O) O (λ_ h=>h) (Yf wa O)<|Dq O (.g O O O) O (λ_ h=>h) (Yd 0 O O O ab)<|Dq O (.g O O O) O (λ_ h=>h) (wC e3 O O b4 (by omega) (by omega)) ?_;refine Dq O (.g O O O) O (λ_ h=>h) (eQ 0 ab O O<|aP 0 _ O)<|Dq O (.g O O O) O (λ_ h=>h) (Yo l_ O O b6 bf)<|Dq O (.g O O O) O (λ_ h=>h) (Yf ur O)<|Dq O (.g O O O) O (λ_ h=>h) (eQ 1 ab O O<|b8 5 _ O)<|Dq O (.g O O O) O (λ_ h=>h) (Yn e3 O) ?_;rw [<-b9];refine Dq O (.g O O O) O (λ_ h=>h) (hS O O) ?_;exact Gi 22 (λ_ h=>h) O O O
   refine WD.nil (λ_ h=>h) ?_;refine Et ?_;refine Cc O (λaQ=>?_)<|λaQ=>?_
   ·have aR:qK l j o x=true:=aQ
    have v:h0 l=5:=by
      rw [T,ZZ (FW (p:=λn o=>o.fix.any<|qK l n o) u ?_)];rw [q5];exact ⟨x,az ah,aR⟩
    refine ae<|ag O<|ag O<|ad<|am<|cN<|Er<|Er<|cN<|cN<|Er<|Er<|cN<|Er ?_;refine WE.ng O O O λG z=>?_;rw [Ak (by rw [v]; decide),v];exact ⟨(none,0),O,z.fr,Sl.nil⟩
   have aR:qK l j o x=false:=aQ;refine Ck<|Eb<|Et<|Cr<|I (Yi O O O (by omega))<|ac O<|Ln ?_;exact c8 (k+1) (by omega) ⟨by omega,Lj ah aJ aR⟩<|λ_ h=>Wd 1 h
  have b':k=o.fix.length:=by simp at aK; omega
  rw [b',gE] at aJ;refine Ce<|Ex<|Ex<|dQ<|Eb<|Et<|Cr<|I (Yi O O O (by omega))<|ac O<|Ln ?_
  exact c8 (j+1) (by omega) ⟨by omega,λn aE D B=>by
      rcases ne.1 D with h | h
      · exact a_ n aE h B
      · subst h; rw [u] at B; injection B with B; subst B; exact aJ⟩<|λ_ h=>Wd 1 h
 have cK:j=l.length:=by simp at aH; omega
 have v:h0 l=0:=by
   rw [T,lp (λn o D=>?_),ZX (by decide)];rw [tg];intro f b_;rw [a_ n o (by have:=(cq.1 D).1; omega) D f b_]
   decide
 refine Ce<|Ex<|Ex<|dQ<|Et<|ae<|ac O<|I (db 2 O O HD O) ?_;refine Lb Y O Du O O O O λcL=>?_;refine dk 0 (.cells (ko.cells (aav l,((none,0):SP))).toArray 196 (0,0)) O (O) ?_;refine LA (((aav l,(none,0)):ko)) 1 0 Y O Du O O O O O O (by omega) (by omega) λca cb=>?_;refine ag O<|ag O<|ad<|am ?_;refine WE.ng O O O λG z=>?_
 have cc:qa l=(g.es++[(aav l,((none,0):SP))]).map (·.1):=by rw [qa,ZZ v,qi,N]; rfl
 rw [v,cc];have cd:=z.hW (rd:=Oj) 1 rfl ko.cD (λ_ _ _ _ h=>h);exact ⟨(ca,cb),by rw [fu],z.fr,Xl (J:=g.J) cd (λ_ _ h=>h) (aG z (by simp) a3)<|Xs.snoc (R:=wb) (λhv h=>HB hv h) au (λ_ _ h=>h) (λ_ _ h=>h) Sl.nil⟩
def ao.Xo (x:ao):x.cells.all (·.oneCell')=true:=rfl
def HE {l:List av} (h:¬h0 l=0):eV l=(([],0),h0 l):=by rw [eV,ZZ h]
def On (h:h0 bl=0) (a:2048<eG bl bl.length\/512<aaq bl bl.length):eV bl=(([],0),2):=by rw [eV,ZX (λe=>e h),ZZ a]
def HF (h:h0 bl=0) (a:¬(2048<eG bl bl.length\/512<aaq bl bl.length)):eV bl=((jk bl,aaq bl bl.length),0):=by rw [eV,ZX (λe=>e h),ZX a]
def Xp {U n:Nat}  (h:kf U n aH bQ bj=true):(aH=1\/aH=2\/aH=3)/\0<=bj/\bj<=2048/\0<=bQ/\bQ<=(U:Int):=by
 unfold kf at h
 split at h
 · simp only [dE,aab,aac] at h
   omega
 · split at h
   · simp only [dE,aab] at h
     omega
   · cases h
def Xq (l:List av):(ox l).take l.length=ox l:=lJ (by rw [vu]; exact cQ _)
def Xr (l:List av):ox l++[(⟨20,0,0⟩:ao)]=g9 l 0:=by unfold g9; rw [F3,wr]
def Oo (h:bl[Z]? = some cg):eG bl Z+(cg.code.length:Int)<=eG bl bl.length:=by
 rw [<-FY h];have hi:=(cq.1 h).1
 have a:∀k,Z+1+k<=bl.length->eG bl (Z+1)<=eG bl (Z+1+k):=λk=>by
   induction k with
   | zero=>intro _; exact AK _
   | succ k b=>
     intro d;obtain ⟨q,c⟩:∃q,bl[Z+1+k]? = some q:=⟨_,c6 (by omega)⟩;have:=b (by omega);have e:=FY c
     show eG bl (Z+1)<=eG bl (Z+1+k+1)
     omega
 have:=a (bl.length-(Z+1)) (by omega)
 rwa [show Z+1+(bl.length-(Z+1))=bl.length by omega] at this
def uw:zeroOf prog 57=some (.agg #[.slice none 0 0,.int .i64 0]):=ab
def HG:gX prog 57=some [(0,1),(1,1)]:=ab
def wc:aJ prog 57=some 2:=ab
def t':hr prog 57=some 2:=ab
def nL:au prog 57 0=some 0:=ab
def Zl (b:View) (a:Option Addr) (c:Nat) (l:List av) (w:World) (h:Le b w) (d:Sl rW 7 b a c l) :
   Calls prog 98 #[.slice a l.length c] w λe g=>e = .returned (.int .i64<|h0 l)/\Ext w g:=by
 have j:=d.cap;have k:=d.max;refine enter func98 O 11 O O ?_;refine CE (Vs:=[b]) (Ws.init (by simp [h]))<|ae<|ag O<|ad<|ae<|ac O ?_;refine Ld Y O aF O (λq:SP=>.tuple #[.slice q.1 (qa l).length q.2,.int .i64 (h0 l)]) (λi q=>Sl Ds 3 i q.1 q.2<|qa l) (λw f=>Om b a c l w f.V d) ?_;intro m n o p;refine ac O<|I (Yx O O)<|I (Yx O O)<|ag O<|ag O<|ad<|ae<|ac O<|ag O ?_;refine ad<|am ?_;refine R1 O O λg f=>?_;exact ⟨O,f.fr⟩
def HH (t:View) (a:Option Addr) (c:Nat) (l:List av) (w:World) (a3:Le t w) (D:Sl rW 7 t a c l) :
   Calls prog 28 #[.slice a l.length c] w λe H=>∃q:SP,e = .returned (.tuple #[.agg #[.slice q.1 (eV l).1.1.length q.2,.int .i64 (eV l).1.2],.int .i64 (eV l).2])/\Ext w H/\Sl bt 3 (nv w H) q.1 q.2 (eV l).1.1:=by
 have b3:=D.cap;have b4:=D.max;refine enter func28 O 160 O O ?_;refine CE (Vs:=[t]) (Ws.init (by simp [a3]))<|ae ?_;refine Al Y O uw λah=>?_;refine ag O<|ad<|ae<|ac O ?_;refine Ld Y O aF O (λq:SP=>.tuple #[.slice q.1 (qa l).length q.2,.int .i64 (h0 l)]) (λa4 q=>Sl Ds 3 a4 q.1 q.2<|qa l) (λw u=>Om t a c l w u.V D) ?_;intro v b6 b7 A;refine ac O<|I (Yx O O)<|I (Yx O O)<|ag O<|ag O<|ad<|Cs<|ae<|ac O<|I (h9 O O) ?_;refine ad ?_;refine Cc O (λaj=>?_)<|λaj=>?_
 ·have E:¬h0 l=0:=by simpa using aj
  refine ae<|I (Yb uw HG O O)<|ac O<|aT 0 Y O O O wc O O O<|ag O<|ad<|am<|Er ?_;refine WE.aau (hV O (eM 0 O O t' O)<|j6 O) λH u=>?_;rw [HE E];exact ⟨(none,0),O,u.fr,Sl.nil⟩
 have E:h0 l=0:=by simpa using aj
 have j:=FX.1 E
 have a5:qa l=ow l++[aav l]:=by rw [qa,ZZ E]
 rw [a5] at A ⊢;have b8:=A.cap;have b9:=A.max;have b':=aaz l;have b_:=j.e8;obtain ⟨ca,cb,a6,a7,a9,cc⟩:=A.b5 l.length _ (Su l)
 have cd:(ow l++[aav l]).length=l.length+1:=by simp [aaz]
 refine bW<|ae<|ac O<|ac O<|I (Yn l_ O)<|I (Yo (i:=l.length) uv O O a6 aa)<|I (dz 0 HD O O O<|a9) ?_;refine Al Y O j4 λce=>?_;refine aT 0 Y O O O HC O O O<|ad<|Cs<|Cs<|aao 0 (.cells (Dr (aav l) a7).toArray 196 (0,0)) O O<|Cr<|I (Yf uu O)<|I (Yd 0 O O O ab)<|I (eh O O)<|ac O ?_;apply Lo 3 O O O O Y O O O O O
 ·intro cf;refine Vg (Yf xZ O)<|Vg (Yd 0 O O O ab)<|Vg (eh O O) ?_;exact Gt 3 O O O
 refine ad ?_;refine Cc O (λak=>?_)<|λak=>?_
 ·have al:2048<eG l l.length\/512<aaq l l.length:=by
    have F:=ak;simp only [yd,aab] at F;exact F
  refine ae<|I (Yb uw HG O O)<|aT 1 Y O O O wc O O O<|ag O<|ad<|am<|Er ?_;refine WE.aau (hV O (eM 1 O O t' O)<|j6 O) λH u=>?_;rw [On E al];exact ⟨(none,0),O,u.fr,Sl.nil⟩
 have al:¬(2048<eG l l.length\/512<aaq l l.length):=by
   have F:=ak;simp only [i9,aad] at F;exact λh=>h.elim F.1 F.2
 refine bW<|ae<|I (Yf xZ O)<|I (Yd 0 O O O ab)<|I (Yb uw HG O O) ?_;refine Al Y O uw λan=>?_;refine aT 0 Y O O O wc O O O<|ad<|Cs<|Cs<|aao 0 (.cells #[.slice none 0 0,.int .i64 (aaq l l.length)] 57 (0,0)) O O ?_;refine nf (λ_ h=>h.g4 62 3) ?_;refine Cr<|ac O<|I (Yn l_ O)<|ac O<|ad<|Cb ?_;refine ey (ι:=Nat×SP) (λg=>[(44,.int .i64 (g.1:Int))]) [(0,_),(2,_),(3,_),(4,_),(7,_),(42,_),(43,_)] (λg=>Ws w [] [cC 62 3 ao.cells g.2.1 g.2.2 ((ox l).take g.1),aq an (.cells #[.slice g.2.1 ((ox l).take g.1).length g.2.2,.int .i64 (aaq l l.length)] 57 (0,0)),aq ah (.cells #[.slice none 0 0,.int .i64 0] 57 (0,0))] [v,t]) (λg=>g.1<=l.length) (λg=>l.length-g.1) (0,(none,0)) (di _) (λ_ h=>(Wt 3 (((h.f 3 O).f 2 O).f 2 O):)) ?_;intro g cg;refine ae<|I (cI O O)<|ad<|Cs ?_;refine Cc O (λap=>?_)<|λap=>?_
 ·have J:g.1<l.length:=by simpa using ap
  obtain ⟨o,s⟩:=cR J;obtain ⟨a',a_,au,aw⟩:=D.b5 g.1 o s;obtain ⟨Q,ax,r⟩:=aw;have R:=az s;have ba:=r.aA.cap;have bb:=r.aA.max;have bc:=r.fix.cap;have bd:=r.fix.max;have be:=r.code.cap;have bf:=r.code.max;obtain ⟨aB,aC,K,bg,S,T⟩:=A.b5 g.1 _ (F0 s);have U:vc v aB (aC+g.1*3+0)=some (.int .i64<|eG l g.1):=S 0 _ rfl;have bh:=y' j.e8 j.nE (k:=g.1) aa;have bi:=y_ j.e8 j.nE (k:=g.1) aa;have bj:=Oo s;have bk:=(aaw<|j.nE o R).2.main;obtain ⟨ch,ci,cj⟩:=ek bk
  have bl:((ox l).take g.1).length=g.1:=by rw [k',vu]; omega
  refine bW<|Cs<|Cb<|ae<|ac O<|I (Yo l_ O O au J)<|I (dz 1 oI O O O<|ax) ?_;refine Al Y O p_ λck=>?_;refine ag O<|aT 0 Y O O O q0 O O O<|ad<|aao 0 (.cells (kF o Q).toArray 77 (0,0)) O O ?_;refine CU (λ_=>true) [1] [13,14] (.q false 0<|.q true 1<|.q false 2<|.q false 3<|.q false 4<|.q false 5<|.q true 6<|.q false 7<|.q true 8<|.q false 9<|.q false 10<|.e 11 (.e 12 .nil .stop) .stop) mixed ab (λ_ _ _ d _ _ h=>by cases d<;>exact h) ?_;refine U0 O (Wp 1) (Yf nL O)<|U0 O (Wp 1) (Yd 1 O O O ab)<|U0 O (Wp 1) (Ym O)<|U0 O (Wp 1) (Ym O)<|U0 O (Wp 1) (Yo uv O O K aa)<|U0 O (Wp 1) (Yf uu O)<|U0 O (Wp 1) (eQ 0 ab O O<|U)<|U0 O (Wp 1) (Yf Dk O) ?_;refine U0 O (Wp 1) (Yd 0 O O O ab)<|U0 O (Wp 1) (ni O O aa)<|U0 O (Wp 1) (Yb h3 iD O O) ?_;refine Ue O (Wp 1) ?_ WU.stop;refine Lb Y O jo O O O O λcl=>?_;refine dk 0 (.cells (ao.cells ⟨13,eG l g.1+o.main,0⟩).toArray 62 (0,0)) O (O)<|Ln<|Eu ?_;refine Ue O (λ_ h=>(Wo 1 (Wd 1 h):)) ?_ WU.stop;refine LA ((⟨13,eG l g.1+o.main,0⟩:ao)) 2 0 Y O jo O O O O O O aa aa λbm bn=>?_;rw [<-Sy s];refine Ln<|Eu ?_;refine WU.nil (λ_ h=>(Wo 1 (Wd 1 h):)) ?_;refine WS.e O ?_;refine I (Yf nL O)<|Ln<|Es ?_;refine WS.e O ?_;refine aT 3 Y O O O Di O O O<|Ln<|Es ?_;refine WS.nil ?_;refine Eb<|Et<|Cr<|I (Yi O O O aa)<|ac O<|Ln ?_;exact c8 ((g.1+1,(bm,bn)):Nat×SP) (by show _-(g.1+1)<_; omega) (by show g.1+1<=_; omega)<|λ_ h=>Wd 2 h
 have bo:g.1=l.length:=by simp at ap; omega
 rw [bo,Xq];have bl:=vu l;refine Ce<|Ex<|Ex<|dQ<|Et<|ae<|I (Yf nL O)<|I (Yd 1 O O O ab)<|I (Yb h3 iD O O) ?_;refine Lb Y O jo O O O O λcm=>?_;refine dk 0 (.cells (ao.cells ⟨20,0,0⟩).toArray 62 (0,0)) O (O) ?_;refine LA ((⟨20,0,0⟩:ao)) 1 0 Y O jo O O O O O O aa aa λbp bq=>?_;rw [Xr];refine I (Yf nL O)<|aT 2 Y O O O Di O O O<|ad<|Cs<|ae<|ac O<|I (Yn l_ O)<|ac O<|ad<|Cb ?_;refine ey (ι:=Nat×SP) (λe=>[(72,.int .i64 (e.1:Int))]) [(0,_),(2,_),(3,_),(4,_),(7,_),(70,_),(71,_)] (λe=>Ws w [] [cC 62 3 ao.cells e.2.1 e.2.2 (g9 l e.1),aq an (.cells #[.slice e.2.1 (g9 l e.1).length e.2.2,.int .i64 (aaq l l.length)] 57 (0,0)),aq ah (.cells #[.slice none 0 0,.int .i64 0] 57 (0,0))] [v,t]) (λe=>e.1<=l.length) (λe=>l.length-e.1) (0,(bp,bq)) (di _) (λ_ h=>(Wt 3 (((h.f 3 O).f 3 O).f 3 O):)) ?_;intro e cn;refine ae<|I (cI O O)<|ad<|Cs ?_;refine Cc O (λaD=>?_)<|λaD=>?_
 ·have aE:e.1<l.length:=by simpa using aD
  obtain ⟨o,s⟩:=cR aE;obtain ⟨a',a_,au,aw⟩:=D.b5 e.1 o s;obtain ⟨Q,ax,r⟩:=aw;have R:=az s;have ba:=r.aA.cap;have bb:=r.aA.max;have bc:=r.fix.cap;have bd:=r.fix.max;have be:=r.code.cap;have bf:=r.code.max;obtain ⟨aB,aC,K,bg,S,T⟩:=A.b5 e.1 _ (F0 s);have U:vc v aB (aC+e.1*3+0)=some (.int .i64<|eG l e.1):=S 0 _ rfl;have bh:=y' j.e8 j.nE (k:=e.1) aa;have bi:=y_ j.e8 j.nE (k:=e.1) aa;have bj:=Oo s;have br:=F5 (l:=l) (i:=e.1) aa;have aS:=(aaw<|j.nE o R).2;have bs:=y8 (j.nE o R);have co:=bs.code;have cp:=T.cap;have cq:=T.max;have bu:=F1 l e.1 o;have cr:(qJ l e.1 o).vi.length=o.aA.length+1:=bu;refine bW<|Cs<|Cb<|ae<|ac O<|I (Yo l_ O O au aE)<|I (dz 1 oI O O O<|ax) ?_;refine Al Y O p_ λbv=>?_;refine ag O<|aT 0 Y O O O q0 O O O<|ad<|Cs<|aao 0 (.cells (kF o Q).toArray 77 (0,0)) O O<|Cr<|I (Yf nL O)<|I (Yd 2 O O O ab)<|I (Yf oH O) ?_;refine I (Yd 0 O O O ab) ?_;refine WL.tu (f:=ao.cells) (rd:=bt) (xs:=g9 l e.1) (ys:=o.code) 1 (λ_=>t) Y O jo O O O (λw u=>⟨u.vs t ai,r.code⟩) dN ao.cD ao.Xo aa aa λaG aH=>?_;refine I (Yf nL O)<|aT 2 Y O O O Di O O O<|ad<|ae<|I (Yf Ae O)<|I (Yd 0 O O O ab)<|I (Yn xW O)<|ac O<|ad<|Cb ?_;refine ey (ι:=Nat) (λk=>[(86,.int .i64 (k:Int))]) [(0,_),(2,_),(3,_),(4,_),(7,_),(10,_),(70,_),(71,_),(72,_),(84,_),(85,_)] (λk=>Ws w [] [cC 62 3 ao.cells aG aH (g9 l e.1++k3 l e.1 o o.code (o.fix.take k)),aq bv (.cells (kF o Q).toArray 77 (0,0)),aq an (.cells #[.slice aG (g9 l e.1++o.code).length aH,.int .i64 (aaq l l.length)] 57 (0,0)),aq ah (.cells #[.slice none 0 0,.int .i64 0] 57 (0,0))] [v,t]) (λk=>k<=o.fix.length) (λk=>o.fix.length-k) 0 (di _) (λ_ h=>((((h.f 3 O).f 3 O).f 2 O).f 3 O:)) ?_;intro k cs;refine ae<|I (cI O O)<|ad<|Cs ?_;refine Cc O (λaI=>?_)<|λaI=>?_
  ·have J:k<o.fix.length:=by simpa using aI
   obtain ⟨x,B⟩:=cR J;obtain ⟨bx,bA,bB,aJ⟩:=r.fix.b5 k x B;have aJ:ar t bx (bA+k*3) x.cells:=aJ;have aU:=aS.fix x (az B);obtain ⟨ct,bC,bD,bE,bF⟩:=Xp aU.2;obtain ⟨p,bG,bH⟩:=ek aU.1
   have L:x.at_.toNat=p:=aa
   obtain ⟨y,aV⟩:=cR bH;have M:=Oh L aV;rw [M] at bC bD
   have W:(k3 l e.1 o o.code<|o.fix.take k)[p]? = some y:=by
     have aW:=Sx (l:=l) (n:=e.1) aS B;rw [L] at aW;rw [aW,aV]
   have G:(g9 l e.1++k3 l e.1 o o.code (o.fix.take k))[(g9 l e.1).length+p]? = some y:=by rw [nc aa,wq]; exact W
   obtain ⟨bI,aX⟩:=Lt aE (j.known e.1 o s) bE bF;obtain ⟨bJ,bK,bL,aK⟩:=T.b5 x.m.toNat _ bI;have aK:ar v bJ (bK+x.m.toNat*1) (jy<|g8 l e.1 o x.m):=aK;obtain ⟨X,N⟩:=cR aX;obtain ⟨cu,cv,bM,cw,bN,aL⟩:=D.b5 _ X N;obtain ⟨aY,aZ,a0,cx,a1,cy⟩:=A.b5 _ _ (F0 N);have bO:vc v aY (aZ+g8 l e.1 o x.m*3+0)=some (.int .i64<|eG l<|g8 l e.1 o x.m):=a1 0 _ rfl;have bP:vc v aY (aZ+g8 l e.1 o x.m*3+1)=some (.int .i64<|aaq l<|g8 l e.1 o x.m):=a1 1 _ rfl;have cz:=y' j.e8 j.nE (k:=g8 l e.1 o x.m) aa;have cA:=y_ j.e8 j.nE (k:=g8 l e.1 o x.m) aa;have cB:(k3 l e.1 o o.code<|o.fix.take k).length=o.code.length:=Cn _ _ _ _ _;refine bW<|Cs<|Cb<|ae<|I (Yo xW O O bB J)<|I (dz 1 Hv O O O<|aJ) ?_;refine Al Y O Dj λcE=>?_;refine aT 0 Y O O O Hw O O O<|ad<|Cs<|aao 0 (.cells (x.cells).toArray 198 (0,0)) O O ?_;refine WC.re 1 O (by simp only [jE]; omega) λcF C cG cH=>?_;refine WC.qn [(0,true),(1,true),(2,true),(3,true),(4,true),(5,true),(6,true),(7,true),(8,true),(9,true),(10,true),(11,true),(12,true)] mixed ab (λ_ _ _ d _ h=>by cases d<;>exact h) ?_;refine D0 O ay (Yf nL O)<|D0 O ay (Yd 3 O O O ab)<|D0 O ay (Ym O)<|D0 O ay (Ym O)<|D0 O ay (Yo uv O O K aa)<|D0 O ay (Yf uu O)<|D0 O ay (eQ 0 ab O O<|U)<|D0 O ay (Yf xX O) ?_;refine D0 O ay (Yd 0 O O O ab)<|D0 O ay (q_ (a:=(g9 l e.1).length) (b:=p) O O br.symm bG aa)<|D0 O ay (Yo (i:=(g9 l e.1).length+p) kj O O C (by simp only [jE]; omega))<|D0 O ay (Yf m4 O)<|D0 O ay (Ya O) ?_;refine WD.nil ay ?_;refine Et<|Cs ?_;refine WC.qn [(0,true),(1,true),(2,true),(3,true),(4,true),(5,true),(6,true),(7,true),(8,true),(9,true)] mixed ab (λ_ _ _ d _ h=>by cases d<;>exact h) ?_;refine D0 O ay (Ym O)<|D0 O ay (Ym O)<|D0 O ay (Yo uv O O K aa)<|D0 O ay (Yf Dt O)<|D0 O ay (eQ 0 ab O O<|S 2 _ O)<|D0 O ay (Yf wa O)<|D0 O ay (Yd 0 O O O ab)<|D0 O ay (wC e3 O O bL aa aa) ?_;refine D0 O ay (eQ 0 ab O O<|aK 0 _ O)<|D0 O ay (Ya O) ?_;refine WD.nil ay ?_;refine Et<|ae<|I (Yf Hx O)<|I (Yd 0 O O O ab)<|ad<|Cb<|ae<|I (bz O O)<|ag O<|ad ?_;refine Cc O (λaM=>?_)<|λaM=>?_
   ·have Z:x.kind=1:=by simpa using aM
    refine CU (λ_=>true) [] [9,10] (.q false 0<|.q false 1<|.q true 2<|.q false 3<|.q false 4<|.q false 5<|.q false 6<|.q true 7<|.q false 8 .nil) mixed ab (λ_ _ _ d _ _ h=>by cases d<;>exact h) ?_;refine U0 O ay (Ym O)<|U0 O ay (bw O)<|U0 O ay (n4 (y:=y) 1 ((g9 l e.1).length+p) 1 O O C aa ao.cD G O ab)<|U0 O ay (Ym O)<|U0 O ay (Ym O)<|U0 O ay (Yo uv O O K aa)<|U0 O ay (Yf uu O)<|U0 O ay (eQ 0 ab O O<|U) ?_;refine U0 O ay (ni O O aa) ?_;refine WU.nil ay ?_;refine WS.e O ?_;refine I (bw O)<|Ln<|Es ?_;refine WS.e O ?_;refine WL.storeT (y:=y) 1 ((g9 l e.1).length+p) 1 (⟨y.op,y.a+eG l e.1,y.b⟩) Y O O O C aa ao.cD G dL O O a8 O ?_
    have P:dt l e.1 o x=y.a+eG l e.1:=by unfold dt; rw [M]; rw [ZZ Z]
    rw [F7 (l:=l) (n:=e.1) (o:=o) (c:=k3 l e.1 o o.code (o.fix.take k)) (p:=p) (x:=y) (y.a+eG l e.1) W,<-P,<-L,<-F2 B];refine Ln<|Es ?_;refine WS.nil ?_;refine Eb<|Eb<|Et<|Cr<|I (Yi O O O aa)<|ac O<|Ln ?_;exact c8 (k+1) aa aa<|λ_ h=>Wd 1 h
   have Z:¬x.kind=1:=by simpa using aM
   refine ae<|I (bz O O)<|ag O<|ad ?_;refine Cc O (λaN=>?_)<|λaN=>?_
   ·have af:x.kind=2:=by simpa using aN
    have aO:=j.r' e.1 o s x (az B)
    have bQ:aay l (g8 l e.1 o x.m)=X.fe.length:=by unfold aay; rw [N]; rfl
    have bR:y.a.toNat<X.fe.length:=by
      unfold qK at aO;rw [af,bQ,M] at aO;simp at aO;omega
    obtain ⟨v2,aP⟩:=cR bR;obtain ⟨bS,bT,bU,aQ⟩:=aL.fe.b5 _ v2 aP;have aQ:ar t bS (bT+y.a.toNat*1) (g5 v2):=aQ;have cJ:=aL.fe.cap;have cK:=aL.fe.max
    have bV:xf l (g8 l e.1 o x.m) y.a=v2:=by unfold xf; rw [N,cS,aP]; rfl
    have cL:0<=v2/\v2<=2048:=by
      have a2:=j.nE X (az N);obtain ⟨z,cM,cN⟩:=ek ((aaw a2).2.fe v2<|az aP);have:=(y8 a2).code;omega
    refine CU (λ_=>true) [] [17,18] (.q false 0<|.q false 1<|.q false 2<|.q false 3<|.q false 4<|.q true 5<|.q false 6<|.q false 7<|.q false 8<|.q false 9<|.q true 10<|.q false 11<|.q false 12<|.q true 13<|.q false 14<|.q true 15<|.q false 16 .nil) mixed ab (λ_ _ _ d _ _ h=>by cases d<;>exact h) ?_;refine U0 O ay (Ym O)<|U0 O ay (Ym O)<|U0 O ay (Ym O)<|U0 O ay (Yo uv O O a0 aa)<|U0 O ay (Yf uu O)<|U0 O ay (eQ 0 ab O O<|bO)<|U0 O ay (Ym O)<|U0 O ay (Ym O) ?_;refine U0 O ay (Yo l_ O O bM aX)<|U0 O ay (Yf ur O)<|U0 O ay (eQ 1 ab O O<|bN 5 _ O)<|U0 O ay (Ym O)<|U0 O ay (bw O)<|U0 O ay (n4 (y:=y) 1 ((g9 l e.1).length+p) 1 O O C aa ao.cD G O ab)<|U0 O ay (wC e3 O O bU aa aa)<|U0 O ay (eQ 1 ab O O<|aQ 0 _ O) ?_;refine U0 O ay (ni O O aa) ?_;refine WU.nil ay ?_;refine WS.e O ?_;refine I (bw O)<|Ln<|Es ?_;refine WS.e O ?_;refine WL.storeT (y:=y) 1 ((g9 l e.1).length+p) 1 (⟨y.op,eG l (g8 l e.1 o x.m)+v2,y.b⟩) Y O O O C aa ao.cD G dL O O a8 O ?_
    have P:dt l e.1 o x=eG l (g8 l e.1 o x.m)+v2:=by unfold dt; rw [M]; rw [ZX Z,ZZ af,bV]
    rw [F7 (l:=l) (n:=e.1) (o:=o) (c:=k3 l e.1 o o.code (o.fix.take k)) (p:=p) (x:=y) (eG l (g8 l e.1 o x.m)+v2) W,<-P,<-L,<-F2 B];refine Ln<|Es ?_;refine WS.nil ?_;refine Eb<|Eb<|Et<|Cr<|I (Yi O O O aa)<|ac O<|Ln ?_;exact c8 (k+1) aa aa<|λ_ h=>Wd 1 h
   have af:¬x.kind=2:=by simpa using aN
   refine ae<|I (bz O O)<|ag O<|ad ?_;refine Cc O (λaR=>?_)<|λaR=>?_
   ·have bX:x.kind=3:=by simpa using aR
    refine CU (λ_=>true) [] [9,10] (.q false 0<|.q false 1<|.q true 2<|.q false 3<|.q false 4<|.q false 5<|.q false 6<|.q true 7<|.q false 8 .nil) mixed ab (λ_ _ _ d _ _ h=>by cases d<;>exact h) ?_;refine U0 O ay (Ym O)<|U0 O ay (bw O)<|U0 O ay (n4 (y:=y) 1 ((g9 l e.1).length+p) 1 O O C aa ao.cD G O ab)<|U0 O ay (Ym O)<|U0 O ay (Ym O)<|U0 O ay (Yo uv O O a0 aa)<|U0 O ay (Yf xZ O)<|U0 O ay (eQ 0 ab O O<|bP) ?_;refine U0 O ay (ni O O aa) ?_;refine WU.nil ay ?_;refine WS.e O ?_;refine I (bw O)<|Ln<|Es ?_;refine WS.e O ?_;refine WL.storeT (y:=y) 1 ((g9 l e.1).length+p) 1 (⟨y.op,y.a+aaq l (g8 l e.1 o x.m),y.b⟩) Y O O O C aa ao.cD G dL O O a8 O ?_
    have P:dt l e.1 o x=y.a+aaq l (g8 l e.1 o x.m):=by unfold dt; rw [M]; rw [ZX Z,ZX af]
    rw [F7 (l:=l) (n:=e.1) (o:=o) (c:=k3 l e.1 o o.code (o.fix.take k)) (p:=p) (x:=y) (y.a+aaq l (g8 l e.1 o x.m)) W,<-P,<-L,<-F2 B];refine Ln<|Es ?_;refine WS.nil ?_;refine Eb<|Eb<|Et<|Cr<|I (Yi O O O aa)<|ac O<|Ln ?_;exact c8 (k+1) aa aa<|λ_ h=>Wd 1 h
   have bX:¬x.kind=3:=by simpa using aR
   omega
  have bY:k=o.fix.length:=by simp at aI; omega
  rw [bY,gE];have bZ:g9 l e.1++k3 l e.1 o o.code o.fix=g9 l (e.1+1):=(F6 s).symm;rw [bZ]
  have b0:(g9 l e.1++o.code).length=(g9 l<|e.1+1).length:=by rw [F6 s,jE,jE]; unfold sA; rw [Cn]
  rw [b0];refine Ce<|Ex<|Ex<|dQ<|Eb<|Et<|Cr<|I (Yi O O O aa)<|ac O<|Ln ?_;exact c8 ((e.1+1,(aG,aH)):Nat×SP) (by show _-(e.1+1)<_; omega) (by show e.1+1<=_; omega)<|λ_ h=>(Wt 3 (((h.f 3 O).f 3 O).f 2 O):)
 have b1:e.1=l.length:=by simp at aD; omega
 rw [b1];have b2:=HF E al;refine Ce<|Ex<|Ex<|dQ<|Et<|ae<|I (db 1 O O t' O)<|aT 2 Y O O O wc O O O<|ag O<|ad<|am ?_;refine WE.aau (hV O (eM 2 O O t' O)<|j6 O) λH u=>?_;rw [b2];exact ⟨e.2,O,u.fr,u.hW 0 O ao.cD dN⟩
def toI (x:ao):Mch.eP:=⟨x.op,x.a,x.b⟩
def Oq (h:Sl bt 3 an dj Z hz):Sl Mch.Gp 3 an dj Z (hz.map toI):=by
 refine ⟨by rw [fu]; exact h.cap,h.max,h.spot,λi x a=>?_⟩;rw [e4] at a;obtain ⟨y,b,rfl⟩:=dS.1 a;exact h.b5 i y b
variable {ff:List Int}
def Ot (h:Sl hy 1 an dj Z ff):Sl Mch.jV 1 an dj Z ff:=h.imp λb o x h=>h 0 _ rfl
def Dv (h:Sl Mch.jV 1 an dj Z ff):Sl hy 1 an dj Z ff:=h.imp λb o x h k v a=>by
 match k,a with
 | 0,a=>cases a; exact h
def Ou (x:ao):Int×Int×Int:=(x.op,x.a,x.b)
def Xt {o:Option ao} {a:Int×Int×Int} (h:o.map Ou=some a):o=some ⟨a.1,a.2.1,a.2.2⟩:=by
 cases o with
 | none=>cases h
 | some x=>simp only [dR,aN] at h; subst h; rfl
def Xu {x:(List ao×Int)×Int}  (a:x.1.2=aH) (b:x.2=bQ):x=((x.1.1,aH),bQ):=by
 obtain ⟨⟨c,d⟩,e⟩:=x;subst a b
 rfl
def Xv {x:Mch.kZ×Int}  {b c:List Int}  (a:x.1.fin=aH) (d:x.1.out=b) (e:x.1.data=c) (f:x.1.aM=bQ):x=((⟨aH,b,c,bQ⟩:Mch.kZ),x.2):=by
 obtain ⟨⟨_,_,_,_⟩,_⟩:=x;subst a d e f
 rfl
def Xw:(eV [b6,kK]).2=0:=by decide +kernel
def Zm:h0 [b6,kK]=0:=by decide +kernel
def Xy:(eV [b6,kK]).1.2=5:=by decide +kernel
def Xz:eV [kK]=(([],0),9):=HE (l:=[kK]) (by decide +kernel) |>.trans (by rw [show h0 [kK]=9 by decide +kernel])
def Zn:((eV [b6,kK]).1.1[0]?).map Ou=some (13,22,0):=by decide +kernel
def XB:((eV [b6,kK]).1.1[2]?).map (·.op)=some 20:=by decide +kernel
def XC:3<=(eV [b6,kK]).1.1.length:=by decide +kernel
def XD:Mch.l7 ((eV [b6,kK]).1.1.map toI) 5 [1] 9 999=0:=by decide +kernel
def Zp:(Mch.hQ ((eV [b6,kK]).1.1.map toI) 5 [1] 9 999).1.fin=0:=by decide +kernel
def XF:(Mch.hQ ((eV [b6,kK]).1.1.map toI) 5 [1] 9 999).1.out=[6,7]:=by decide +kernel
def XG:(Mch.hQ ((eV [b6,kK]).1.1.map toI) 5 [1] 9 999).1.data=[6,0,6,0,0]:=by decide +kernel
def XH:(Mch.hQ ((eV [b6,kK]).1.1.map toI) 5 [1] 9 999).1.aM=6:=by decide +kernel
def Zq:∃(c b:av) (code:List ao) (a:ao) (fg:Int),[b6,kK]=[c,b]/\eV [c,b]=((code,5),0)/\h0 [c,b]=0/\eV [b]=(([],0),9)/\code[0]? = some ⟨13,22,0⟩/\code[2]? = some a/\a.op=20/\3<=code.length/\Mch.l7 (code.map toI) 5 [1] 9 999=0/\Mch.hQ (code.map toI) 5 [1] 9 999=((⟨0,[6,7],[6,0,6,0,0],6⟩:Mch.kZ),fg):=by
 obtain ⟨a,e,f⟩:∃a,(eV [b6,kK]).1.1[2]? = some a/\a.op=20:=by
   have h:=XB
   cases d:(eV [b6,kK]).1.1[2]? with
   | none=>rw [d] at h; cases h
   | some y=>rw [d] at h; exact ⟨y,rfl,by simpa using h⟩
 exact ⟨b6,kK,(eV [b6,kK]).1.1,a,_,O,Xu Xy Xw,Zm,Xz,Xt Zn,e,f,XC,XD,Xv Zp XF XG XH⟩
def wY (h:(eV bl).2=0):h0 bl=0/\¬(2048<eG bl bl.length\/512<aaq bl bl.length):=by
 by_cases a:h0 bl=0
 · refine ⟨a,λb=>?_⟩
   rw [On a b] at h;cases h
 · rw [HE a] at h
   exact absurd h a
def XJ (h:(eV bl).2=0):Mch.nK ((eV bl).1.1.map toI) (eV bl).1.2=0:=by
 obtain ⟨b,c⟩:=wY h;have a:=FX.1 b;rw [HF b c];have k:=y_ a.e8 a.nE (cQ _);have l:=y' a.e8 a.nE (cQ _);have d:=BO bl
 have m:1<=eG bl bl.length:=by unfold eG; omega
 have e:(decide ((((jk bl).map toI).length:Int)<1)||decide (2048<(((jk bl).map toI).length:Int)))=false:=by
   rw [fu,d];simp only [i9,aad];omega
 have f:((jk bl).map toI).any Mch.zm=false:=by
   rw [tg];intro x g;obtain ⟨y,i,rfl⟩:=q6.1 g;have:=SA a.nE y i;unfold Mch.zm toI;simp only [yd,aab];unfold bU at this;omega
 have j:(decide (aaq bl bl.length<0)||decide (512<aaq bl bl.length))=false:=by
   simp only [i9,aad];omega
 show Mch.nK ((jk bl).map toI) (aaq bl bl.length)=0
 unfold Mch.nK;rw [e,f,j]
 rfl
def zv:au prog 64 0=some 0:=ab
def sJ:au prog 64 3=some 3:=ab
def sM:au prog 64 1=some 1:=ab
def eq:au prog 64 2=some 2:=ab
def ph:zeroOf prog 64=some (.agg #[.int .i64 0,.slice none 0 0,.slice none 0 0,.int .i64 0]):=ab
def pg:aJ prog 64=some 4:=ab
def zn:au prog 57 1=some 1:=ab
def lx:hr prog 64=some 4:=ab
def t_:gX prog 64=some [(0,1),(1,1),(2,1),(3,1)]:=ab
def Ov (b c:View) (R:Mch.kZ) (r1 r2:SP×SP) (w:World) (i:Le b w) (j:Le c w) (d:Sl hy 1 b r1.1.1 r1.1.2 R.out/\Sl hy 1 b r1.2.1 r1.2.2 R.data) (f:Sl hy 1 c r2.1.1 r2.1.2 R.out/\Sl hy 1 c r2.2.1 r2.2.2 R.data) :
   Calls prog 29 #[.agg #[.int .i64 R.fin,.slice r1.1.1 R.out.length r1.1.2,.slice r1.2.1 R.data.length r1.2.2,.int .i64 R.aM],.agg #[.int .i64 R.fin,.slice r2.1.1 R.out.length r2.1.2,.slice r2.2.1 R.data.length r2.2.2,.int .i64 R.aM]] w λe h=>e = .returned (.bool true)/\Ext w h:=by
 refine enter func29 O 31 O O ?_;refine CE (Vs:=[b,c]) (Ws.init (by simp [i,j]))<|ae ?_;refine WL.box Y O O λk=>?_;refine WL.box Y O O λl=>?_;refine ag O<|ad<|ae<|I (Yf zv O)<|I (Yd 1 O O O ab)<|I (Yf zv O)<|I (Yd 0 O O O ab)<|I (qs O O O)<|ac O ?_;apply La 5 (x:=true) O O O O Y O O O O O
 ·intro m;refine Vg (Yf sJ O)<|Vg (Yd 1 O O O ab)<|Vg (Yf sJ O)<|Vg (Yd 0 O O O ab)<|Vg (qs O O O) ?_;exact Gt 5 O O O
 refine ac O ?_;apply La 5 (x:=true) O O O O Y O O O O O
 ·intro n;refine Vg (Yf sM O)<|Vg (Yd 1 O O O ab)<|Vg (Yf sM O)<|Vg (Yd 0 O O O ab)<|Lp (.g O O O) O aF O (λw a=>Oi b c r1.1.1 r2.1.1 r1.1.2 r2.1.2 R.out w a.V a.V d.1 f.1) ?_;exact Gt 5 O O O
 refine ac O ?_;apply La 5 (x:=true) O O O O Y O O O O O
 ·intro o;refine Vg (Yf eq O)<|Vg (Yd 1 O O O ab)<|Vg (Yf eq O)<|Vg (Yd 0 O O O ab)<|Lp (.g O O O) O aF O (λw a=>Oi b c r1.2.1 r2.2.1 r1.2.2 r2.2.2 R.data w a.V a.V d.2 f.2) ?_;exact Gt 5 O O O
 refine ag O<|ad<|am ?_;refine R1 O O λh a=>?_;exact ⟨O,a.fr⟩
def Dw (l:View) (w:World) (G:Le l w) (s:Laid l) :
   Calls prog 26 #[] w λe t=>e = .returned (.bool true)/\Ext w t:=by
 refine enter func26 O 71 O O ?_;refine CE (Vs:=[l]) (Ws.init (by simp [G]))<|ae<|ag O<|ad<|Cs ?_;obtain ⟨m,k,code,H,fg,u,J,K,L,M,N,P,aK,Q,R⟩:=Zq;refine Cr ?_
 refine Ld Y O aF O (λq:SP=>.slice q.1 2 q.2) (λj q=>Sl rW 7 j q.1 q.2 [m,k]) (λw a=>by
     have d:=HA l w a.V s;rw [u] at d
     exact d) ?_
 intro S C aL p
 refine Ld Y O aF O (λq:SP=>.tuple #[.agg #[.slice q.1 (code).length q.2,.int .i64 5],.int .i64 0]) (λj q=>Sl bt 3 j q.1 q.2 code) (λw a=>by
     have d:=HH S C.1 C.2 [m,k] w a.V p;rw [J] at d
     exact d) ?_
 intro v D aN n;obtain ⟨T,U,W,y⟩:=n.b5 0 _ M;obtain ⟨X,Z,aa,z⟩:=n.b5 2 _ N;have aO:=n.cap;have aP:=n.max;have z:ar v X (Z+2*3) H.cells:=z;have y:ar v T (U+0*3) (ao.cells ⟨13,22,0⟩):=y;refine ac O<|I (Yx O O)<|I (Yx O O) ?_;refine Al Y O uw λaQ=>?_;refine aT 0 Y O O O wc O O O<|ag O<|ad<|ae ?_
 refine Ld Y O aF O (λq:SP=>.slice q.1 2 q.2) (λj q=>Sl rW 7 j q.1 q.2 [m,k]) (λw a=>by
     have d:=HA l w a.V s;rw [u] at d
     exact d) ?_
 intro af aR aS A;obtain ⟨aU,aV,ah,B,aj,ak⟩:=A.b5 1 _ rfl;have aW:=A.cap;have aX:=A.max;refine I (Yo (i:=1) l_ O O ah a8)<|I (dz 0 oI O O O<|aj) ?_;refine Lb Y O nC O O O O λal=>?_;refine dk 0 (.cells ((([(k,B)]:List XO)).flatMap XO.cells).toArray 77 (0,0)) O O<|LW (λ_ h=>h.mQ (f:=XO.cells) (xs:=([(k,B)]:List XO)) (c:=1) 0 O XO.cD O a8) ?_
 refine Ld Y O aF O (λq:SP=>.tuple #[.agg #[.slice q.1 (([]:List ao)).length q.2,.int .i64 0],.int .i64 9]) (λj q=>Sl bt 3 j q.1 q.2 ([]:List ao)) (λw a=>by
     have p:=HH (hv w) (some ⟨al,0,none⟩) 1 [k] w (jc w) (Hy (es:=[(k,B)]) (a.Bf (rd:=Aj) 0 rfl XO.cD dN) lH λe E=>by
       rw [gU] at E;subst E
       exact xY ak<|mf<|a.vs af ai)
     rw [L] at p
     exact p) ?_
 intro aY aZ a0 a1;refine ac O<|I (Yx O O)<|I (Yx O O) ?_;refine Al Y O uw λa2=>?_;refine aT 0 Y O O O wc O O O<|ag O<|ad<|ae<|I (db 2 O O t' O) ?_;refine Lb Y O gm O O O O λan=>?_;refine dk 0 (.cells ((([1]:List Int)).flatMap g5).toArray 3 (0,0)) O O<|LW (λ_ h=>h.mQ (f:=g5) (xs:=([1]:List Int)) (c:=1) 0 O kb O a8) ?_;refine WL.pH (rd:=hy) 0 O kb dN λap aq=>?_
 refine Ld Y O aF O (λr:SP×SP=>.tuple #[.agg #[.int .i64 (⟨0,[6,7],[6,0,6,0,0],6⟩:Mch.kZ).fin,.slice r.1.1 (⟨0,[6,7],[6,0,6,0,0],6⟩:Mch.kZ).out.length r.1.2,.slice r.2.1 (⟨0,[6,7],[6,0,6,0,0],6⟩:Mch.kZ).data.length r.2.2,.int .i64 (⟨0,[6,7],[6,0,6,0,0],6⟩:Mch.kZ).aM],.int .i64 fg,.int .i64 0]) (λj r=>Sl hy 1 j r.1.1 r.1.2 (⟨0,[6,7],[6,0,6,0,0],6⟩:Mch.kZ).out/\Sl hy 1 j r.2.1 r.2.2 (⟨0,[6,7],[6,0,6,0,0],6⟩:Mch.kZ).data) (λw a=>by
     have d:=Mch.Md v D.1 D.2 (code.map toI) 5 ap (some ⟨an,0,none⟩) 1 [1] 9 999 w a.V (Oq n) a.V (Ot aq);rw [Q,R,fu] at d
     exact d.mono λe t ⟨r,k1,k2,au,av⟩=>⟨r,k1,k2,Dv au,Dv av⟩) ?_
 intro aw ax a3 ay;refine ac O<|I (Yx O O)<|I (Yx O O)<|I (Yx O O) ?_;refine Al Y O ph λa4=>?_;refine aT 0 Y O O O pg O O O<|ag O<|ag O<|ad<|ae ?_
 refine Ld Y O aF O (λq:SP=>.slice q.1 2 q.2) (λj q=>Sl rW 7 j q.1 q.2 [m,k]) (λw a=>by
     have d:=HA l w a.V s;rw [u] at d
     exact d) ?_
 intro az F a5 aA
 refine Lp Y O aF O (λw a=>by
     have d:=Zl az F.1 F.2 [m,k] w a.V aA;rw [K] at d
     exact d) ?_
 refine I (qs O O O)<|ac O ?_;apply La 2 (x:=true) O O O O Y O O O O O
 ·intro a6;refine Vg (Ym O)<|Vg (qs O O O) ?_;exact Gt 2 O O O
 refine ac O ?_;apply La 2 (x:=true) O O O O Y O O O O O
 ·intro a7;refine Vg (Ym O)<|Vg (qs O O O) ?_;exact Gt 2 O O O
 refine ac O ?_;apply La 2 (x:=true) O O O O Y O O O O O
 ·intro a9;refine Vg (Ym O)<|Vg (qs O O O) ?_;exact Gt 2 O O O
 refine ac O ?_;apply La 3 (x:=true) O O O O Y O O O O O
 ·intro a';refine Vg (Yf zn O)<|Vg (Yd 3 O O O ab)<|Vg (qs O O O) ?_;exact Gt 3 O O O
 refine ac O ?_;apply La 6 (x:=true) O O O O Y O O O O O
 ·intro a_;refine Vg (Yf nL O)<|Vg (Yd 3 O O O ab)<|Vg (Yo (i:=0) kj O O W (by show 0<code.length; omega))<|Vg (dz 5 xm O O O<|y)<|Vg (Yb h3 iD O O)<|Vg (PH (r:=true) Xf O O O) ?_;exact Gt 6 O O O
 refine ac O ?_;apply La 6 (x:=true) O O O O Y O O O O O
 ·intro ba;refine Vg (Yf nL O)<|Vg (Yd 3 O O O ab)<|Vg (Yo (i:=2) kj O O aa (by show 2<code.length; omega))<|Vg (Yf vz O)<|Vg (eQ 5 ab O O<|z 0 _ O)<|Vg (qs O O P) ?_;exact Gt 6 O O O
 refine ac O ?_;apply La 5 (x:=true) O O O O Y O O O O O
 ·intro bb;refine Vg (db 0 O O lx O) ?_;refine Lb (.g O O O) O gm O O O O λaC=>?_;refine dk 0 (.cells ((([6,7]:List Int)).flatMap g5).toArray 3 (0,0)) O O<|LW (λ_ h=>h.mQ (f:=g5) (xs:=([6,7]:List Int)) (c:=2) 0 O kb O a8) ?_;refine WL.pH (rd:=hy) 0 O kb dN λaD aE=>?_;refine Lb (.g O O O) O gm O O O O λaG=>?_;refine dk 0 (.cells ((([6,0,6,0,0]:List Int)).flatMap g5).toArray 3 (0,0)) O O<|LW (λ_ h=>h.mQ (f:=g5) (xs:=([6,0,6,0,0]:List Int)) (c:=5) 0 O kb O a8) ?_;refine WL.pH (rd:=hy) 0 O kb dN λaH aI=>?_;refine Vg (Yb ph t_ O O)<|Lp (.g O O O) O aF O (λw a=>Ov aw (hv w) (⟨0,[6,7],[6,0,6,0,0],6⟩:Mch.kZ) ax ((some ⟨aC,0,none⟩,2),(some ⟨aG,0,none⟩,5)) w a.V (jc w) ay ⟨aE.imp λb o x h=>ar.mono (mf<|a.vs aD ai) h,aI.imp λb o x h=>ar.mono (mf<|a.vs aH ai) h⟩) ?_;refine WL.wk ?_<|Gt 5 O O O;exact λ_ h=>Ws.aB (h)<|λ_ aJ=>qh [_,_] aJ
 refine ag O<|ad<|am ?_;refine R1 O O λt a=>?_;exact ⟨O,a.fr⟩
def Zr:gX prog 182=some [(0,1)]:=ab
def Dx:zeroOf prog 182=some (.agg #[.int .i64 0]):=ab
def XL:prog.concrete 182=true:=ab
def dU:au prog 180 6=some 6:=ab
def Zt:au prog 180 4=some 4:=ab
def oJ:au prog 281 0=some 0:=ab
def Am:au prog 180 2=some 2:=ab
def x0:au prog 180 1=some 1:=ab
def Ow:au prog 281 1=some 1:=ab
def vC:aat prog 178=some 1:=ab
def An (b:Bool) (e:Int) (w:World) :
   Calls prog 163 #[.bool b,.int .i64 e] w λf a=>(∃_:Unit,f = .returned (.tuple #[])/\b=false/\Ext w a)\/(∃_:Unit,f = .panicked (my 182 e)/\b=true/\Ext w a):=by
 refine enter func163 O 8 O O ?_;refine CE (Vs:=[]) (Ws.init ai)<|ae<|ac O<|ad ?_;refine Cc O (λc=>?_)<|λc=>?_
 ·refine Cr<|ac O<|I (Yb Dx Zr O O)<|I (pB XL O) ?_;refine WL.panic Y O ?_;refine bE λa d=>?_;exact .inr ⟨(),O,c,d.fr⟩
 refine Ck ?_;refine E0 O λa d=>?_;exact .inl ⟨(),O,c,d.fr⟩
def wd (b:Bool) (w:World) :
   Calls prog 331 #[.bool b] w λe a=>e = .returned (.int .i64<|bH b)/\Ext w a:=by
 refine enter func331 O 4 O O ?_;refine CE (Vs:=[]) (Ws.init ai)<|ae<|ag O<|ad<|Cs<|ae<|ac O<|ad ?_;refine Cc O (λc=>?_)<|λc=>?_
 ·refine ae<|ag O<|ad<|am<|Er ?_;refine R1 O O λa d=>?_;exact ⟨by rw [c]; rfl,d.fr⟩
 refine bW<|ae<|ag O<|ad<|am ?_;refine R1 O O λa d=>?_;exact ⟨by rw [c]; rfl,d.fr⟩
def Ox (b:Nat) (f:KW) (l:List b8) (aD C:Nat) (g:View) (s:eU)  (w:World) (c:iN g (aO l aD) (c9 l) C s) (v:aD<=2000) (a:Ws w (List.flatMap aQ.ids<|dK 180 3 b f (aO l aD) s) (dK 180 3 b f (aO l aD) s) [g] w) :
   Calls prog 162 #[.pointer (some ⟨b,0,none⟩)] w λe j=>(∃r:Unit×eU,e = .returned (.tuple #[])/\(ky (aO l aD) s.w = .ok r.1 r.2.w/\iN g (aO l aD) (c9 l) C r.2)/\Ws w (List.flatMap aQ.ids<|dK 180 3 b f (aO l aD) s) (dK 180 3 b f (aO l aD) r.2) [g] j)\/(∃r:Int×eU,e = .panicked (my 182 r.1)/\ky (aO l aD) s.w = .ov r.1 r.2.w/\Ws w (List.flatMap aQ.ids<|dK 180 3 b f (aO l aD) s) (dK 180 3 b f (aO l aD) r.2) [g] j):=by
 have x:=c.out;have q:=c.tk;have y:=c.aap;refine enter func162 O 22 O O ?_;refine CE a<|Cs ?_;refine WC.qn [(0,true),(1,true),(2,true),(3,true),(4,true),(5,true),(6,true),(7,true),(8,true),(9,true),(10,false)] mixed ab (λ_ _ _ d _ h=>by cases d<;>exact h) ?_;refine D0 O ay (Ym O)<|D0 O ay (bw O)<|D0 O ay (Yf dU O)<|D0 O ay (Yf sJ O)<|D0 O ay (Yd 0 O O O ab)<|D0 O ay (Ym O)<|D0 O ay (bw O)<|D0 O ay (Yf Zt O) ?_;refine D0 O ay (Yd 0 O O O ab)<|D0 O ay (bz O O) ?_;refine De O ay ?_
 refine c' (ι:=Unit) (κ:=Unit) [] _ Y O aF O O (λ_=>.tuple #[]) (λ_=>[]) (λ_=>((s.w.aM:Int)==(aD:Int))=false) (λ_=>my 182 3) (λ_=>[]) (λ_=>((s.w.aM:Int)==(aD:Int))=true) ([]) ai (λw a=>(An _ 3 w).mono λe j h=>by
     rcases h with ⟨_,m,n,p⟩ | ⟨_,m,n,p⟩
     · exact .inl ⟨(),m,n,a.ext p⟩
     · exact .inr ⟨(),m,n,a.ext p⟩) ?_ ?_
 ·intro _ k;refine Ep<|Ep ?_;refine bE λj a=>?_;exact .inr ⟨(3,s),O,by rw [ky,ZZ (show s.w.aM=(aO l aD).aD from by have h:=k; simp at h; show s.w.aM=aD; omega)],a⟩
 intro _ k;refine Ln<|Ed ?_;refine WD.nil ay ?_;refine Et ?_
 have t:¬s.w.aM=aD:=by intro h; rw [h] at k; simp at k
 have u:s.w.aM<aD:=by have:s.w.aM<=aD:=q; omega
 refine Cr<|ac O<|I (bw O)<|I (Yf dU O)<|I (Yf sJ O)<|I (Yd 0 O O O ab)<|I (Yi O O O aa)<|I (bw O) ?_;refine I (Yf dU O)<|I (Yf sJ O)<|aT 0 Y O O O dL O O O<|Ln ?_;refine E0 O λj a=>?_;exact .inl ⟨((),⟨{ s.w with aM:=s.w.aM+1 },s.i,s.o,s.d⟩),O,⟨by rw [ky,ZX (show ¬s.w.aM=(aO l aD).aD from t)],⟨c.bg,c.out,u,c.aap,c.cl⟩⟩,a⟩
def Dy (c:Nat) (g:KW) (l:List b8) (aD C:Nat) (f:View) (s:eU) (n i u:Nat) (x:SP) (k:Nat) (v:Int) (z:b8) (o j b p:Nat) (m pl:Int) (w:World) (H:iN f (aO l aD) (c9 l) C s) (q:ry f n g l aD) (B:l[u]? = some z) (D:(u::z.aA.map λs=>(idxOf s (eS l) 0).getD 0)[o]? = some j) (E:(ih l 0)[j]? = some b) (X:b+p<c9 l) (I:m=(o:Int)) (J:pl=(p:Int)) (t:Ws w (List.flatMap aQ.ids<|(dK 180 3 c g (aO l aD) s)++[aq i (tV 281 c u x k v)]) ((dK 180 3 c g (aO l aD) s)++[aq i (tV 281 c u x k v)]) [f] w) :
   Calls prog 277 #[.pointer (some ⟨i,0,none⟩),.int .i64 m,.int .i64 pl] w λe F=>∃r:Nat,e = .returned (.pointer<|some ⟨r,0+(b+p)*1,none⟩)/\s.d.1=some ⟨r,0,none⟩/\Ws w (List.flatMap aQ.ids<|(dK 180 3 c g (aO l aD) s)++[aq i (tV 281 c u x k v)]) ((dK 180 3 c g (aO l aD) s)++[aq i (tV 281 c u x k v)]) [f] F:=by
 subst I J;have Y:=H.aap;have Z:=vp q.ok;obtain ⟨pu,ac,K,af,L,M⟩:=q.aA.b5 u _ (vm B);obtain ⟨N,P,Q,y⟩:=M.b5 o j D;obtain ⟨pb,R,S,A⟩:=q.qA.b5 j b E;have T:=(cq.1<|vm B).1;have U:=(cq.1 D).1;have V:=(cq.1 E).1;have y:ar f N (P+o*1) (jy j):=y;have A:ar f pb (R+j*1) (jy b):=A;refine enter func277 O 43 O O ?_;refine CE t<|ae<|ag O<|ad<|Cs ?_;refine WC.re 2 O aa λW G ah ai=>?_;refine WC.qn [(0,true),(1,true),(2,true),(3,true),(4,true),(5,true),(6,true),(7,true),(8,true),(9,true),(10,true),(11,true),(12,true),(13,true),(14,true),(15,true),(16,true),(17,true),(18,true),(19,true),(20,true),(21,true),(22,true),(23,true),(24,true),(25,true),(26,true),(27,true),(28,true),(29,true),(30,true),(31,true),(32,true),(33,true),(34,true),(35,true),(36,true)] mixed ab (λ_ _ _ d _ h=>by cases d<;>exact h) ?_;refine D0 O ay (Ym O)<|D0 O ay (bw O)<|D0 O ay (Yf oJ O)<|D0 O ay (Yd 3 O O O ab)<|D0 O ay (bw O)<|D0 O ay (Yf dU O)<|D0 O ay (Yf eq O)<|D0 O ay (Yd 0 O O O ab) ?_;refine D0 O ay (Ym O)<|D0 O ay (bw O)<|D0 O ay (Yf oJ O)<|D0 O ay (Yd 3 O O O ab)<|D0 O ay (bw O)<|D0 O ay (Yf Am O)<|D0 O ay (Yd 0 O O O ab)<|D0 O ay (Ym O) ?_;refine D0 O ay (bw O)<|D0 O ay (Yf oJ O)<|D0 O ay (Yd 3 O O O ab)<|D0 O ay (bw O)<|D0 O ay (Yf x0 O)<|D0 O ay (Yd 0 O O O ab)<|D0 O ay (Ym O)<|D0 O ay (bw O) ?_;refine D0 O ay (Yf Ow O)<|D0 O ay (Yd 3 O O O ab)<|D0 O ay (Yo vC O O K T)<|D0 O ay (eQ 0 ab O O<|L 0 _ O)<|D0 O ay (Ym O)<|D0 O ay (Yo e3 O O Q U)<|D0 O ay (eQ 0 ab O O<|y 0 _ O)<|D0 O ay (Yo e3 O O S V) ?_;refine D0 O ay (eQ 0 ab O O<|A 0 _ O)<|D0 O ay (Ym O)<|D0 O ay (q_ (a:=b) (b:=p) O O O O aa)<|D0 O ay (Yo e3 O O G (by show b+p<s.w.data.length; omega))<|D0 O ay (Ya O) ?_;refine WD.nil ay ?_;refine Et<|am ?_;refine R1 O O λF t=>?_;exact ⟨W,O,G,t⟩
def Dz (f:View) (n:Nat) (g:KW) (l:List b8) (aD b C d:Nat) (k:Nat):Prop:=∀(h u:Nat) (z:b8) (x:SP) (loc:List Int) (v:Int) (y:dr) (a:Option Addr) (c j:Nat) (s:eU) (w:World),iN f (aO l aD) (c9 l) C s->l[u]? = some z->Sl (ie k) 5 f a c y.args->jg (aE z::fd l z) loc.length y j=true->Ws w (List.flatMap aQ.ids<|(dK 180 3 b g (aO l aD) s)++(fO 281 3 h b u x loc v)) ((dK 180 3 b g (aO l aD) s)++(fO 281 3 h b u x loc v)) [f] w->
 Calls prog 276 #[.pointer (some ⟨h,0,none⟩),.agg (mo y a c).toArray] w λe i=>(∃r:Int×eU,e = .returned (.int .i64 r.1)/\(eO (aO l aD) (cM (aO l aD) d) u y loc s.w = .ok r.1 r.2.w/\iN f (aO l aD) (c9 l) C r.2)/\Ws w (List.flatMap aQ.ids<|(dK 180 3 b g (aO l aD) s)++(fO 281 3 h b u x loc v)) ((dK 180 3 b g (aO l aD) r.2)++(fO 281 3 h b u x loc v)) [f] i)\/(∃r:Int×eU,e = .panicked (my 182 r.1)/\eO (aO l aD) (cM (aO l aD) d) u y loc s.w = .ov r.1 r.2.w/\Ws w (List.flatMap aQ.ids<|(dK 180 3 b g (aO l aD) s)++(fO 281 3 h b u x loc v)) (dK 180 3 b g (aO l aD) r.2) [f] i)
def we (f:View) (n:Nat) (g:KW) (l:List b8) (aD b C d:Nat):Prop:=∀(u:Nat) (z:b8) (x:SP) (loc:List Int) (body:List c_) (a:Option Addr) (c k1 k2:Nat) (s:eU) (w:World),iN f (aO l aD) (c9 l) C s->l[u]? = some z->Sl (gG k1 k2) 7 f a c body->gO (aE z::fd l z) loc.length body 1=true->Ws w (List.flatMap aQ.ids<|(dK 180 3 b g (aO l aD) s)++[cC 3 1 g5 x.1 x.2 loc]) ((dK 180 3 b g (aO l aD) s)++[cC 3 1 g5 x.1 x.2 loc]) [f] w->
 Calls prog 96 #[.pointer (some ⟨b,0,none⟩),.int .i64 (u:Int),.slice x.1 loc.length x.2,.slice a body.length c] w λe h=>(∃r:Int×eU,e = .returned (.int .i64 r.1)/\(cM (aO l aD) d u loc body s.w = .ok r.1 r.2.w/\iN f (aO l aD) (c9 l) C r.2)/\Ws w (List.flatMap aQ.ids<|(dK 180 3 b g (aO l aD) s)++[cC 3 1 g5 x.1 x.2 loc]) (dK 180 3 b g (aO l aD) r.2) [f] h)\/(∃r:Int×eU,e = .panicked (my 182 r.1)/\cM (aO l aD) d u loc body s.w = .ov r.1 r.2.w/\Ws w (List.flatMap aQ.ids<|(dK 180 3 b g (aO l aD) s)++[cC 3 1 g5 x.1 x.2 loc]) (dK 180 3 b g (aO l aD) r.2) [f] h)
def Oy (k:Nat):(madeCells (Value.int IntKind.i64 0).cells<|k*1)=((List.replicate k (0:Int)).flatMap g5).toArray:=Kq (f:=g5) (x:=(0:Int)) (zs:=(Value.int IntKind.i64 0).cells) rfl a8 k
def Zu:au prog 180 0=some 0:=ab
def Oz (t:View) (n:Nat) (A:KW) (l:List b8) (aD i C d:Nat) (D u:Nat) (z:b8) (x:SP) (loc:List Int) (v:Int) (m pl:Int) (args:List dr) (a:Option Addr) (c k ax:Nat) (s:eU) (w:World) (Z:iN t (aO l aD) (c9 l) C s) (G:ry t n A l aD) (K:l[u]? = some z) (hN:∀k2,k2<k->Dz t n A l aD i C d k2) (hC:we t n A l aD i C d) (aB:jf (aE z::fd l z) m pl args.length=true) (M:Sl (ie k) 5 t a c args) (aC:gA (aE z::fd l z) loc.length args ax=true) (B:Ws w (List.flatMap aQ.ids<|(dK 180 3 i A (aO l aD) s)++(fO 281 3 D i u x loc v)) ((dK 180 3 i A (aO l aD) s)++(fO 281 3 D i u x loc v)) [t] w) :
   Calls prog 279 #[.pointer (some ⟨D,0,none⟩),.int .i64 m,.int .i64 pl,.slice a args.length c] w λe H=>(∃r:Int×eU,e = .returned (.int .i64 r.1)/\(ol (aO l aD) (cM (aO l aD) d) u m pl (gb (aO l aD) (cM (aO l aD) d) u args) loc s.w = .ok r.1 r.2.w/\iN t (aO l aD) (c9 l) C r.2)/\Ws w (List.flatMap aQ.ids<|(dK 180 3 i A (aO l aD) s)++(fO 281 3 D i u x loc v)) ((dK 180 3 i A (aO l aD) r.2)++(fO 281 3 D i u x loc v)) [t] H)\/(∃r:Int×eU,e = .panicked (my 182 r.1)/\ol (aO l aD) (cM (aO l aD) d) u m pl (gb (aO l aD) (cM (aO l aD) d) u args) loc s.w = .ov r.1 r.2.w/\Ws w (List.flatMap aQ.ids<|(dK 180 3 i A (aO l aD) s)++(fO 281 3 D i u x loc v)) (dK 180 3 i A (aO l aD) r.2) [t] H):=by
 have bc:=Z.aap;have bd:=vp G.ok;obtain ⟨N,j,q,P,p,rfl,rfl,af,E,J,be,ah⟩:=yY G.ok aD K aB;obtain ⟨pu,bf,aG,bg,aH,aI⟩:=G.aA.b5 u _ (vm K);obtain ⟨aJ,aK,aL,Q⟩:=aI.b5 N j af;obtain ⟨bh,bi,aM,bj,aN,aP⟩:=G.RH.b5 j P E;obtain ⟨bk,bl,aR,R,aS,aU⟩:=aP.parts.b5 q p J;have aV:=(cq.1<|vm K).1;have aW:=(cq.1 af).1;have aX:=(cq.1 E).1;have aY:=(cq.1 J).1;have Q:ar t aJ (aK+N*1) (jy j):=Q;have aZ:=G.ok.mX P (az E);obtain ⟨bm,bn,bo,bp,a0⟩:=vn ((rq aZ).1 p<|az J);obtain ⟨np,a1⟩:∃np:Nat,p.params=np:=⟨p.params.toNat,aa⟩;obtain ⟨o,a2⟩:∃o:Nat,p.locals=o:=⟨p.locals.toNat,aa⟩
 have bq:np=args.length:=aa
 have br:=M.cap;have bs:=M.max;refine enter func279 O 73 O O ?_;refine CE B<|ae<|ag O<|ad<|Cs ?_;refine WC.qn [(0,true),(1,true),(2,true),(3,true),(4,true),(5,true),(6,true),(7,true),(8,true),(9,true),(10,true),(11,true),(12,true),(13,true),(14,true),(15,true),(16,true)] mixed ab (λ_ _ _ d _ h=>by cases d<;>exact h) ?_;refine D0 O ay (Ym O)<|D0 O ay (bw O)<|D0 O ay (Yf oJ O)<|D0 O ay (Yd 3 O O O ab)<|D0 O ay (bw O)<|D0 O ay (Yf x0 O)<|D0 O ay (Yd 0 O O O ab)<|D0 O ay (Ym O) ?_;refine D0 O ay (bw O)<|D0 O ay (Yf Ow O)<|D0 O ay (Yd 3 O O O ab)<|D0 O ay (Yo vC O O aG aV)<|D0 O ay (eQ 0 ab O O<|aH 0 _ O)<|D0 O ay (Ym O)<|D0 O ay (Yo e3 O O aL aW)<|D0 O ay (eQ 0 ab O O<|Q 0 _ O) ?_;refine D0 O ay (Ya O) ?_;refine WD.nil ay ?_;refine Et<|ae<|ac O<|I (bw O)<|I (Yf oJ O)<|I (Yd 3 O O O ab)<|I (bw O)<|I (Yf Zu O)<|I (Yd 0 O O O ab) ?_;refine ac O<|I (Yo lF O O aM aX)<|I (Yf v8 O)<|I (eQ 0 ab O O<|aN 3 _ O)<|ac O<|I (Yo uo O O aR aY)<|I (dz 0 Aa O O O<|aS) ?_;refine Al Y O xS λa3=>?_;refine aT 0 Y O O O Dh O O O<|ad<|ae<|I (Yf xU O)<|I (Yd 0 O O O ab)<|I (Yf z9 O)<|I (Yd 0 O O O ab)<|I (q_ (a:=np) (b:=o) O O a1 a2 aa) ?_;refine WL.make Y O gm O O aa aa aa aa λaj=>?_;refine dk 0 (.cells ((List.replicate (np+o) (0:Int)).flatMap g5).toArray 3 (0,0)) O (by rw [i',Oy])<|LW (λ_ h=>h.mQ (f:=g5) (xs:=List.replicate (np+o) 0) (c:=np+o) 0 O kb ai (by unfold maxLen; omega))<|ag O<|ad<|Cs<|Cs ?_;have a4:jx loc (gb (aO l aD) (cM (aO l aD) d) u args) s.w=_:=JC;refine Cr<|ac O<|I (Yn hc O)<|ac O<|ad<|Cb ?_;refine ey (ι:=Nat×List Int×eU) (λg=>[(52,.int .i64 (g.1:Int))]) [(0,_),(8,_),(9,_),(10,_),(11,_),(50,_),(51,_)] (λg=>Ws w (List.flatMap aQ.ids<|(dK 180 3 i A (aO l aD) s)++(fO 281 3 D i u x loc v)) ((dK 180 3 i A (aO l aD) g.2.2)++(fO 281 3 D i u x loc v)++[cC 3 1 g5 (some ⟨aj,0,none⟩) (np+o) (g.2.1++List.replicate (np+o-g.1) 0),aq a3 (.cells (fW p R).toArray 107 (0,0))]) [t]) (λg=>g.1<=args.length/\g.2.1.length=g.1/\(iN t (aO l aD) (c9 l) C g.2.2)/\jx loc (gb (aO l aD) (cM (aO l aD) d) u args) s.w=(jx loc (gb (aO l aD) (cM (aO l aD) d) u<|args.drop g.1) g.2.2.w).bind λvs w=>.ok (g.2.1++vs) w) (λg=>args.length-g.1) (0,[],s) ⟨di _,O,Z,a4⟩ (λ_ h=>by exact (((((h.f 6 O).f 6 O).f 6 O).f 6 O).f 6 O:)) ?_;intro g ⟨bt,S,ak,T⟩
 refine ae<|I (cI O O)<|ad<|Cs ?_;refine Cc O (λU=>?_)<|λU=>?_
 ·have al:g.1<args.length:=by simpa using U
  obtain ⟨y,L⟩:=cR al;obtain ⟨bu,bv,a5,an⟩:=M.b5 g.1 y L
  obtain ⟨k2,rfl⟩:∃k2,k=k2+1:=by
    cases k with
    | zero=>exact an.elim
    | succ k2=>exact ⟨k2,rfl⟩
  obtain ⟨ao,ap,a6,a7⟩:=an;have a9:=hN k2 aa;have a':=kC aC L;refine bW<|Cs<|Cb<|ae<|ac O<|I (Yo hc O O a5 al)<|I (dz 0 gS O O O<|a6) ?_;refine Al Y O xN λbx=>?_;refine ag O<|aT 0 Y O O O z1 O O O<|ad<|aao 0 (.cells (mo y ao ap).toArray 53 (0,0)) O O<|Cr<|ac O<|ac O<|ac O ?_;refine I (db 0 O O gS O)<|Lf 5 O<|Lf 5 O<|Lf 5 O<|Lf 5 O<|Lf 5 O ?_;refine c' [_,_,_,_,_] _ Y O aF O O _ _ _ _ _ _ ([t]) ai (λw B=>a9 D u z x loc v y ao ap _ g.2.2 w ak K a7 a' B) ?_ ?_
  ·intro F V;refine WE.bS<|Ep<|Ep<|WE.bS<|Ep ?_;refine bE λH B=>?_;exact .inr ⟨F,O,(by rw [xE ah O E J]; exact iw<|Rx T L V),(by have h:=B; have h:=Wt 3 h; exact h)⟩
  intro F ⟨V,a_⟩;refine I (Iq e3 O O aa) ?_;refine WL.storeT (y:=0) 6 g.1 0 F.1 Y O O O O (by rw [tf]; rfl) kb (RA S aa) dL O O a8 O ?_;refine Ln<|Eb<|Et<|Cr<|I (Yi O O O aa)<|ac O<|Ln ?_;rw [RB _ S aa];exact c8 ((g.1+1,g.2.1++[F.1],F.2):Nat×List Int×eU) (by show _-(g.1+1)<_; omega) ⟨by show g.1+1<=_; omega,by show (g.2.1++[F.1]).length=g.1+1; simp [S],a_,Rw T L V⟩ (λ_ h=>by exact (Wt 7 (((((((h.f 7 O).f 7 O).f 6 O).f 6 O).f 6 O).f 6 O).f 6 O):))
 have bz:args.length<=g.1:=by simp at U; omega
 have au:(g.2.1++List.replicate (np+o-g.1) 0).length=np+o:=by rw [jE,Ef]; omega
 have ba:=Ry (pre:=g.2.1) T aa
 have av:ol (aO l aD) (cM (aO l aD) d) u (N:Int) (q:Int) (gb (aO l aD) (cM (aO l aD) d) u args) loc s.w=cM (aO l aD) d j (g.2.1++List.replicate (np+o-g.1) 0) p.body g.2.2.w:=by rw [xE ah rfl E J,fK ba,show p.locals.toNat=np+o-g.1 by omega]
 refine Ce<|Ex<|Ex<|dQ<|Et<|Cs ?_;refine CU (λ_=>true) [0,0,0,2] [] (.q false 0<|.q false 1<|.q false 2<|.q true 3<|.q false 4<|.q false 5<|.q false 6<|.q true 7<|.e 8 (.q false 9 .nil) .stop) mixed ab (λ_ _ _ d _ _ h=>by cases d<;>exact h) ?_;refine U0 O (ct [0,0,0,2]) (Ym O)<|U0 O (ct [0,0,0,2]) (bw O)<|U0 O (ct [0,0,0,2]) (Yf oJ O)<|U0 O (ct [0,0,0,2]) (Yd 0 O O O ab)<|U0 O (ct [0,0,0,2]) (Ym O)<|U0 O (ct [0,0,0,2]) (Ym O)<|U0 O (ct [0,0,0,2]) (Yf Hl O)<|U0 O (ct [0,0,0,2]) (Yd 2 O O O ab) ?_;refine Ue O (ct [0,0,0,2]) ?_ WU.stop;refine Lf 5 O<|Lf 3 O<|Lf 3 O<|Lf 3 O ?_
 refine c' (ι:=_) (κ:=_) [_,_,_,_] _ Y O aF O O (_) (_) (_) (_) (_) (_) ([t]) ai (λw B=>by
       have aw:=hC j P (some ⟨aj,0,none⟩,np+o) (g.2.1++List.replicate (np+o-g.1) 0) p.body R.1 R.2 n n g.2.2 w ak E aU (by rw [au,show ((np+o:Nat):Int)=p.params+p.locals by omega]; exact a0) B;rw [au] at aw
       exact aw) ?_ ?_
 ·intro W X;refine Ep<|Ep ?_;refine bE λH B=>?_;exact .inr ⟨W,O,av.trans X,(by have h:=B; have h:=Wt 3 h; exact h)⟩
 intro W ⟨X,bb⟩;refine Ln<|Eu<|U0 O (λ_ h=>(Wd 3 h:)) (Ya O) ?_;refine WU.nil (λ_ h=>(Wd 3 h:)) ?_;refine WS.nil ?_;refine Et<|am ?_;refine R1 O O λH B=>?_;exact .inl ⟨W,O,⟨av.trans X,bb⟩,Wt 5 B⟩
def OA (g:View) (n:Nat) (i:KW) (l:List b8) (aD b C d:Nat) (m u:Nat) (z:b8) (x:SP) (loc:List Int) (v:Int) (y:dr) (p:Int) (a:Option Addr) (c k F:Nat) (s:eU) (w:World) (E:iN g (aO l aD) (c9 l) C s) (G:ry g n i l aD) (H:l[u]? = some z) (J:Dz g n i l aD b C d k) (K:Sl (ie k) 5 g a c y.args) (L:jg (aE z::fd l z) loc.length y F=true) (f:Ws w (List.flatMap aQ.ids<|(dK 180 3 b i (aO l aD) s)++(fO 281 3 m b u x loc v)) ((dK 180 3 b i (aO l aD) s)++(fO 281 3 m b u x loc v)) [g] w) :
   Calls prog 278 #[.pointer (some ⟨m,0,none⟩),.agg (mo y a c).toArray,.int .i64 p] w λe o=>(∃r:Int×eU,e = .returned (.int .i64 r.1)/\(cL p (eO (aO l aD) (cM (aO l aD) d) u y) loc s.w = .ok r.1 r.2.w/\iN g (aO l aD) (c9 l) C r.2)/\Ws w (List.flatMap aQ.ids<|(dK 180 3 b i (aO l aD) s)++(fO 281 3 m b u x loc v)) ((dK 180 3 b i (aO l aD) r.2)++(fO 281 3 m b u x loc v)) [g] o)\/(∃r:Int×eU,e = .panicked (my 182 r.1)/\cL p (eO (aO l aD) (cM (aO l aD) d) u y) loc s.w = .ov r.1 r.2.w/\Ws w (List.flatMap aQ.ids<|(dK 180 3 b i (aO l aD) s)++(fO 281 3 m b u x loc v)) (dK 180 3 b i (aO l aD) r.2) [g] o):=by
 have N:=E.aap;have P:=vp G.ok;refine enter func278 O 20 O O ?_;refine CE f<|ae ?_;refine WL.box Y O O λQ=>?_;refine ag O<|ad<|Cs<|aao 0 (.cells (mo y a c).toArray 53 (0,0)) O O<|Cr<|ac O<|I (db 0 O O gS O)<|Lf 5 O<|Lf 5 O ?_;refine Lf 5 O<|Lf 5 O<|Lf 5 O ?_;refine c' [_,_,_,_,_] _ Y O aF O O _ _ _ _ _ _ ([g]) ai (λw f=>J m u z x loc v y a c _ s w E H K L f) ?_ ?_
 ·intro j q;refine Ep ?_;refine bE λo f=>?_;exact .inr ⟨j,O,iw q,(by have h:=f; have h:=Wt 3 h; exact h)⟩
 intro j ⟨q,M⟩;refine ag O<|ad<|ae<|ac O<|I (cI O O)<|ac O ?_;apply Lo 3 O O O O Y O O O O O
 ·intro R;refine Vg (Ym O)<|Vg (Ym O)<|Vg (hS O O) ?_;exact Gt 3 O O O
 refine c' (ι:=Unit) (κ:=Unit) [] _ Y O aF O O (λ_=>.tuple #[]) (λ_=>[]) (λ_=>(decide (j.1<0)||decide (p<=j.1))=false) (λ_=>my 182 2) (λ_=>[]) (λ_=>(decide (j.1<0)||decide (p<=j.1))=true) ([]) ai (λw f=>(An _ 2 w).mono λe o h=>by
     rcases h with ⟨_,t,A,B⟩ | ⟨_,t,A,B⟩
     · exact .inl ⟨(),t,A,f.ext B⟩
     · exact .inr ⟨(),t,A,f.ext B⟩) ?_ ?_
 ·intro _ D;refine Ep ?_;refine bE λo f=>?_;exact .inr ⟨(2,j.2),O,(fK q).trans<|ZZ D,(by have h:=f; have h:=Wt 3 h; exact h)⟩
 intro _ D;refine ad<|ae<|ac O<|ag O<|ad<|am ?_;refine R1 O O λo f=>?_;exact .inl ⟨j,O,⟨(fK q).trans<|ZX (by rw [D]; simp),M⟩,Wt 5 f⟩
variable {bb lE:Wm}
def OB {k:Ev}    (h:cL aH k ff bb = .ok bQ lE):0<=bQ/\bQ<aH:=by
 unfold cL at h
 cases a:k ff bb with
 | ok j s=>
   rw [a] at h
   change (if _ then _ else _)=_ at h
   split at h
   · cases h
   · rename_i b
     simp only [Rz.ok.injEq] at h;obtain ⟨rfl,_⟩:=h;simp at b;omega
 | ov e s=>rw [a] at h; cases h
def HJ (h:ff[Z]? = some aH):o4 ff Z=aH:=by unfold o4; rw [h]; rfl
def DA:au prog 180 3=some 3:=ab
def OC:au prog 281 2=some 2:=ab
def Zv (E:View) (n:Nat) (N:KW) (l:List b8) (aD K C d:Nat) (H u:Nat) (z:b8) (x:SP) (loc:List Int) (v:Int) (y:dr) (a:Option Addr) (c k aW:Nat) (s:eU) (w:World) (J:iN E (aO l aD) (c9 l) C s) (an:ry E n N l aD) (P:l[u]? = some z) (hC:we E n N l aD K C d) (R:Sl (ie k) 5 E a c y.args) (b0:jg (aE z::fd l z) loc.length y aW=true) (t:Ws w (List.flatMap aQ.ids<|(dK 180 3 K N (aO l aD) s)++(fO 281 3 H K u x loc v)) ((dK 180 3 K N (aO l aD) s)++(fO 281 3 H K u x loc v)) [E] w) :
   Calls prog 276 #[.pointer (some ⟨H,0,none⟩),.agg (mo y a c).toArray] w λe D=>(∃r:Int×eU,e = .returned (.int .i64 r.1)/\(eO (aO l aD) (cM (aO l aD) d) u y loc s.w = .ok r.1 r.2.w/\iN E (aO l aD) (c9 l) C r.2)/\Ws w (List.flatMap aQ.ids<|(dK 180 3 K N (aO l aD) s)++(fO 281 3 H K u x loc v)) ((dK 180 3 K N (aO l aD) r.2)++(fO 281 3 H K u x loc v)) [E] D)\/(∃r:Int×eU,e = .panicked (my 182 r.1)/\eO (aO l aD) (cM (aO l aD) d) u y loc s.w = .ov r.1 r.2.w/\Ws w (List.flatMap aQ.ids<|(dK 180 3 K N (aO l aD) s)++(fO 281 3 H K u x loc v)) (dK 180 3 K N (aO l aD) r.2) [E] D):=by
 have cm:=J.aap;have cn:=vp an.ok
 induction k using Nat.strongRecOn generalizing H u z x loc v y a c aW s w
 rename_i k b1;have hN:∀k2,k2<k->Dz E n N l aD K C d k2:=λk2 h H u z x loc v y a c aW s w ar ay az b2 b3=>b1 k2 h H u z x loc v y a c aW s w ar ay az b2 b3 ar.aap;have co:=R.cap;have cp:=R.max;obtain ⟨L,X⟩:=B9 b0;have aA:=Ko L;have aX:=B6 L;refine enter func276 O 199 O O ?_;refine CE t<|ae ?_;refine WL.box Y O O λcq=>?_;refine ag O<|ad<|Cs<|ae<|I (Yf pn O)<|I (Yd 0 O O O ab)<|ad<|Cb<|ae<|I (bz O O)<|ag O<|ad ?_;refine Cc O (λa8=>?_)<|λa8=>?_
 ·have A:y.op=1:=by simpa using a8
  refine ae<|I (Yf m9 O)<|I (Yd 0 O O O ab)<|ag O<|ad<|am<|cN<|Er ?_;refine R1 O O λD t=>?_
  have B:eO (aO l aD) (cM (aO l aD) d) u y loc s.w = .ok y.n s.w:=by
    rw [om,kW,ZZ A]
  exact .inl ⟨(y.n,s),O,⟨B,J⟩,Wd 1 t⟩
 have L:¬y.op=1:=by simpa using a8
 refine ae<|I (bz O O)<|ag O<|ad ?_;refine Cc O (λa9=>?_)<|λa9=>?_
 ·have A:y.op=2:=by simpa using a9
  refine Cs<|ae<|ac O<|I (bw O)<|I (Yf oJ O)<|I (Yd 4 O O O ab)<|I (bw O)<|I (Yf DA O)<|I (Yd 1 O O O ab) ?_;refine I (Yn e3 O)<|I (bz O O)<|ad ?_;refine Cc O (λaY=>?_)<|λaY=>?_
  ·have au:s.w.bg=[]:=by simpa using aY
   refine ae<|ag O<|ad<|am<|Er<|cN<|Er ?_;refine R1 O O λD t=>?_
   have B:eO (aO l aD) (cM (aO l aD) d) u y loc s.w = .ok 0 s.w:=by
     rw [om,kW,ZX L,ZZ A,au]
   exact .inl ⟨(0,s),O,⟨B,J⟩,Wd 1 t⟩
  obtain ⟨a',r,au⟩:∃x r,s.w.bg=x::r:=by
    cases h:s.w.bg with
    | nil=>rw [h] at aY; cases aY
    | cons x r=>exact ⟨x,r,rfl⟩
  obtain ⟨cr,cs,b4,b6⟩:=J.bg.b5 0 a' (by rw [au]; rfl)
  have ct:s.w.bg.length=r.length+1:=by rw [au]; rfl
  have b7:=J.bg.cap;refine bW<|ae<|ac O<|I (bw O)<|I (Yf oJ O)<|I (Yd 4 O O O ab)<|I (bw O)<|I (Yf DA O)<|I (Yd 1 O O O ab) ?_;refine I (Yo (i:=0) e3 O O b4 (by omega))<|I (eQ 0 ab O O<|b6 0 _ O)<|ag O<|ad<|Cs ?_;refine CU (λ_=>true) [] [14] (.q false 0<|.q false 1<|.q false 2<|.q true 3<|.q false 4<|.q false 5<|.q false 6<|.q true 7<|.q false 8<|.q false 9<|.q true 10<|.q false 11<|.q false 12<|.q false 13 .nil) mixed (by kernel_rfl) (λ_ _ _ d _ _ h=>by cases d<;>exact h) ?_;refine U0 O (λ_ h=>h) (Ym O)<|U0 O (λ_ h=>h) (bw O)<|U0 O (λ_ h=>h) (Yf oJ O)<|U0 O (λ_ h=>h) (Yd 4 O O O ab)<|U0 O (λ_ h=>h) (Ym O)<|U0 O (λ_ h=>h) (bw O)<|U0 O (λ_ h=>h) (Yf oJ O)<|U0 O (λ_ h=>h) (Yd 4 O O O ab) ?_;refine U0 O (λ_ h=>h) (bw O)<|U0 O (λ_ h=>h) (Yf DA O)<|U0 O (λ_ h=>h) (Yd 1 O O O ab)<|U0 O (λ_ h=>h) (yD 1 e3 O O O (by omega) b7)<|U0 O (λ_ h=>h) (bw O)<|U0 O (λ_ h=>h) (Yf DA O) ?_;refine WU.nil (λ_ h=>h) ?_;refine WS.e O ?_;refine aT 1 Y O O O jW O O O<|Ln<|Es ?_;refine WS.nil ?_;refine Et<|ae<|ac O<|ag O<|ad<|am<|cN<|Er ?_;refine R1 O O λD t=>?_
  have B:eO (aO l aD) (cM (aO l aD) d) u y loc s.w = .ok a' { s.w with bg:=r }:=by
    rw [om,kW,ZX L,ZZ A,au]
  have bK:=J.bg.drop 1 (by omega);rw [show s.w.bg.drop 1=r by rw [au]; rfl] at bK;rw [show s.w.bg.length-1=r.length by omega] at t;exact .inl ⟨(a',⟨{ s.w with bg:=r },(_,s.i.2-1),s.o,s.d⟩),O,⟨B,⟨bK,J.out,J.tk,J.aap,J.cl⟩⟩,(by have h:=t; have h:=h.aj 5 O; have h:=h.aj 5 O; have h:=h.aj 5 O; have h:=h.aj 5 O; have h:=h.aj 5 O; have h:=Wt 5 h; exact h)⟩
 have S:¬y.op=2:=by simpa using a9
 refine ae<|I (bz O O)<|ag O<|ad ?_;refine Cc O (λa_=>?_)<|λa_=>?_
 ·have A:y.op=16:=by simpa using a_
  refine Cs ?_;obtain ⟨cu,cv⟩:=aX.2.2.2 A;obtain ⟨aB,bL⟩:∃aB:Nat,y.pl=aB:=⟨y.pl.toNat,by omega⟩;obtain ⟨ba,bM⟩:∃v,loc[aB]? = some v:=⟨_,c6 (by omega)⟩;refine WC.re 5 O (by omega) λlb bN cw cx=>?_;refine WC.qn [(0,true),(1,true),(2,true),(3,true),(4,true),(5,true),(6,true),(7,true),(8,true)] mixed (by kernel_rfl) (λ_ _ _ d _ h=>by cases d<;>exact h) ?_;refine D0 O (λ_ h=>h) (Ym O)<|D0 O (λ_ h=>h) (bw O)<|D0 O (λ_ h=>h) (Yf OC O)<|D0 O (λ_ h=>h) (Yd 4 O O O ab)<|D0 O (λ_ h=>h) (Yf k8 O)<|D0 O (λ_ h=>h) (Yd 0 O O O ab) ?_;rw [bL];refine D0 O (λ_ h=>h) (Yo (i:=aB) e3 O O bN (by omega))<|D0 O (λ_ h=>h) (n4 (y:=ba) 5 aB 0 O O bN O kb bM O ab)<|D0 O (λ_ h=>h) (Ya O) ?_;refine WD.nil (λ_ h=>h) ?_;refine Et<|am<|cN<|Er ?_;refine R1 O O λD t=>?_
  have B:eO (aO l aD) (cM (aO l aD) d) u y loc s.w = .ok ba s.w:=by
    rw [om,kW,ZX L,ZX S,ZZ A,bL,i',HJ bM]
  exact .inl ⟨(ba,s),O,⟨B,J⟩,Wd 1 t⟩
 have V:¬y.op=16:=by simpa using a_
 refine ae<|I (bz O O)<|ag O<|ad ?_;refine Cc O (λbb=>?_)<|λbb=>?_
 ·have A:y.op=3:=by simpa using bb
  refine Cs ?_;obtain ⟨bc,j,b,p,bd,aC,be,bf,b9,b',bh⟩:=w4 an.ok aD P (aX.1 A) (by decide);have b_:=J.aap;obtain ⟨bi,bO⟩:∃v,s.w.data[b+p]? = some v:=⟨_,c6 (by omega)⟩;refine Cr<|ac O<|I (Yf mJ O)<|I (Yd 0 O O O ab)<|I (Yf k8 O)<|I (Yd 0 O O O ab)<|Lf 4 O<|Lf 4 O ?_;refine Lf 4 O<|Lf 4 O ?_;refine Lw [_,_,_,_] _ Y O aF O O _ _ _ [E] (by simp) (λw t=>Dy K N l aD C E s n H u x loc.length v z bc j b p y.m y.pl w J an P be bf (by omega) bd aC t) ?_;intro cy ca;refine I (bw O)<|I (n4 (y:=bi) 2 (b+p) 0 O O ca O kb bO O ab)<|ag O<|ad<|am<|cN<|Er ?_;refine R1 O O λD t=>?_
  have bj:(aO l aD).at_ u y.m y.pl=b+p:=by rw [aC]; exact bh 0
  have B:eO (aO l aD) (cM (aO l aD) d) u y loc s.w = .ok bi s.w:=by
    rw [om,kW,ZX L,ZX S,ZX V,ZZ A,bj,HJ bO]
  exact .inl ⟨(bi,s),O,⟨B,J⟩,(by have h:=t; have h:=h.aj 5 O; have h:=h.aj 4 O; have h:=h.aj 4 O; have h:=h.aj 4 O; have h:=h.aj 4 O; exact Wt 5 h)⟩
 have Z:¬y.op=3:=by simpa using bb
 refine ae<|I (bz O O)<|ag O<|ad ?_;refine Cc O (λbk=>?_)<|λbk=>?_
 ·have A:y.op=4:=by simpa using bk
  refine Cs ?_;have cb:=aA.1 (.inl A);obtain ⟨f,G⟩:∃v,y.args[0]? = some v:=⟨_,c6 (by omega)⟩;obtain ⟨aZ,a0,aa,M⟩:=R.b5 0 f G
  obtain ⟨k2,rfl⟩:∃k2,k=k2+1:=by
    cases k with
    | zero=>exact M.elim
    | succ k2=>exact ⟨k2,rfl⟩
  obtain ⟨fa,fc,af,ah⟩:=M;have Q:=hN k2 (by omega);have ai:=kC X G;obtain ⟨⟨cz,cA⟩,cc⟩:=aX.2.1 A;obtain ⟨bc,j,b,p,bd,aC,be,bf,b9,b',bh⟩:=w4 an.ok aD P cc (by omega);refine CU (λ_=>true) [1,1,1,1,1] [] (.q false 0<|.q false 1<|.q true 2<|.q false 3<|.q true 4<|.q false 5<|.q false 6<|.q true 7<|.q false 8<|.q true 9<|.q false 10<|.q true 11<|.e 12 (.q false 13<|.e 14 (.q false 15<|.e 16 (.q false 17 .nil) .stop) .stop) .stop) mixed (by kernel_rfl) (λ_ _ _ d _ _ h=>by cases d<;>exact h) ?_;refine U0 O (λ_ h=>by exact (Wo 1 (Wo 1<|Wo 1<|Wo 1<|Wo 1 h):)) (Ym O)<|U0 O (λ_ h=>by exact (Wo 1 (Wo 1<|Wo 1<|Wo 1<|Wo 1 h):)) (Yf mJ O)<|U0 O (λ_ h=>by exact (Wo 1 (Wo 1<|Wo 1<|Wo 1<|Wo 1 h):)) (Yd 0 O O O ab)<|U0 O (λ_ h=>by exact (Wo 1 (Wo 1<|Wo 1<|Wo 1<|Wo 1 h):)) (Yf k8 O)<|U0 O (λ_ h=>by exact (Wo 1 (Wo 1<|Wo 1<|Wo 1<|Wo 1 h):)) (Yd 0 O O O ab)<|U0 O (λ_ h=>by exact (Wo 1 (Wo 1<|Wo 1<|Wo 1<|Wo 1 h):)) (Ym O)<|U0 O (λ_ h=>by exact (Wo 1 (Wo 1<|Wo 1<|Wo 1<|Wo 1 h):)) (Yf lC O)<|U0 O (λ_ h=>by exact (Wo 1 (Wo 1<|Wo 1<|Wo 1<|Wo 1 h):)) (Yd 0 O O O ab) ?_;refine U0 O (λ_ h=>by exact (Wo 1 (Wo 1<|Wo 1<|Wo 1<|Wo 1 h):)) (Yo (i:=0) hc O O aa (by omega))<|U0 O (λ_ h=>by exact (Wo 1 (Wo 1<|Wo 1<|Wo 1<|Wo 1 h):)) (dz 0 gS O O O<|af)<|U0 O (λ_ h=>by exact (Wo 1 (Wo 1<|Wo 1<|Wo 1<|Wo 1 h):)) (Yf m9 O)<|U0 O (λ_ h=>by exact (Wo 1 (Wo 1<|Wo 1<|Wo 1<|Wo 1 h):)) (Yd 0 O O O ab) ?_;refine Ue O (λ_ h=>by exact (Wo 1 (Wo 1<|Wo 1<|Wo 1<|Wo 1 h):)) ?_ WU.stop;refine Lf 5 O<|Lf 5 O<|Lf 5 O<|Lf 5 O<|Lf 5 O ?_;refine c' [_,_,_,_,_] _ Y O aF O O _ _ _ _ _ _ ([E]) (by simp) (λw t=>OA E n N l aD K C d H u z x loc v f y.n fa fc k2 _ s w J an P Q ah ai t) ?_ ?_
  ·intro W a1;refine Ep<|Ep<|WE.bS<|Ep ?_;refine bE λD t=>?_
   have B:eO (aO l aD) (cM (aO l aD) d) u y loc s.w=(cL y.n (eO (aO l aD) (cM (aO l aD) d) u f) loc s.w).bind λi w=>.ok (o4 w.data<|(aO l aD).at_ u y.m<|y.pl+i) w:=by
     rw [om,kW,ZX L,ZX S,ZX V,ZX Z,ZZ A,kc G]
   exact .inr ⟨W,O,B.trans<|iw a1,(by have h:=t; have h:=Wt 3 h; exact h)⟩
  intro W ⟨a1,bl⟩;have cB:0<=W.1/\W.1<y.n:=OB a1;obtain ⟨ak,bP⟩:∃ak:Nat,W.1=ak:=⟨W.1.toNat,by omega⟩;have b_:=bl.aap;obtain ⟨bQ,bR⟩:∃v,W.2.w.data[b+(p+ak)]? = some v:=⟨_,c6 (by omega)⟩;refine Ln<|Eu<|U0 O (λ_ h=>by exact (Wo 1 (Wo 1<|Wo 1<|Wo 1<|Wo 1<|h.f 5 O):)) (q_ (a:=p) (b:=ak) O O aC bP (by omega)) ?_;refine Ue O (λ_ h=>by exact (Wo 1 (Wo 1<|Wo 1<|Wo 1<|Wo 1<|h.f 5 O):)) ?_ WU.stop;refine Lw [_,_,_,_] _ Y O aF O O _ _ _ [E] (by simp) (λw t=>Dy K N l aD C E W.2 n H u x loc.length v z bc j b (p+ak) y.m _ w bl an P be bf (by omega) bd O t) ?_;intro cC cd;refine Ln<|Eu<|U0 O (λ_ h=>by exact (Wo 1 (Wo 1<|Wo 1<|Wo 1<|Wo 1<|h.f 5 O):)) (bw O) ?_;refine Ue O (λ_ h=>by exact (Wo 1 (Wo 1<|Wo 1<|Wo 1<|Wo 1<|h.f 5 O):)) ?_ WU.stop;refine I (n4 (y:=bQ) 2 (b+(p+ak)) 0 O O cd O kb bR O ab)<|Ln<|Eu<|U0 O (λ_ h=>by exact (Wo 1 (Wo 1<|Wo 1<|Wo 1<|Wo 1<|h.f 5 O):)) (Ya O) ?_;refine WU.nil (λ_ h=>by exact (Wo 1 (Wo 1<|Wo 1<|Wo 1<|Wo 1<|h.f 5 O):)) ?_;refine WS.nil ?_;refine Et<|am<|cN<|Er ?_;refine R1 O O λD t=>?_
  have bj:(aO l aD).at_ u y.m (y.pl+W.1)=b+(p+ak):=by rw [aC,bP]; exact bh ak
  have B:eO (aO l aD) (cM (aO l aD) d) u y loc s.w=(cL y.n (eO (aO l aD) (cM (aO l aD) d) u f) loc s.w).bind λi w=>.ok (o4 w.data<|(aO l aD).at_ u y.m<|y.pl+i) w:=by
    rw [om,kW,ZX L,ZX S,ZX V,ZX Z,ZZ A,kc G]
  exact .inl ⟨(bQ,W.2),O,⟨(B.trans<|fK a1).trans (by rw [bj,HJ bR]),bl⟩,Wt 5 t⟩
 have ao:¬y.op=4:=by simpa using bk
 refine ae<|I (bz O O)<|ag O<|ad ?_;refine Cc O (λbm=>?_)<|λbm=>?_
 ·have A:y.op=5:=by simpa using bm
  refine ae<|ac O<|I (Yf mJ O)<|I (Yd 0 O O O ab)<|I (Yf k8 O)<|I (Yd 0 O O O ab)<|I (Yf lC O)<|I (Yd 0 O O O ab) ?_;refine Lf 5 O<|Lf 5 O<|Lf 5 O<|Lf 5 O<|Lf 5 O ?_;refine c' [_,_,_,_,_] _ Y O aF O O _ _ _ _ _ _ ([E]) (by simp) (λw t=>Oz E n N l aD K C d H u z x loc v y.m y.pl y.args a c k _ s w J an P hN hC (aX.2.2.1 A) R X t) ?_ ?_
  ·intro bn bo;refine Ep<|WE.bS<|Ep ?_;refine bE λD t=>?_
   have B:eO (aO l aD) (cM (aO l aD) d) u y loc s.w=ol (aO l aD) (cM (aO l aD) d) u y.m y.pl (gb (aO l aD) (cM (aO l aD) d) u y.args) loc s.w:=by
     rw [om,kW,ZX L,ZX S,ZX V,ZX Z,ZX ao,ZZ A]
   exact .inr ⟨bn,O,B.trans bo,(by have h:=t; have h:=Wt 3 h; exact h)⟩
  intro bn ⟨bo,ce⟩;refine ag O<|ad<|am<|cN<|Er ?_;refine R1 O O λD t=>?_
  have B:eO (aO l aD) (cM (aO l aD) d) u y loc s.w=ol (aO l aD) (cM (aO l aD) d) u y.m y.pl (gb (aO l aD) (cM (aO l aD) d) u y.args) loc s.w:=by
    rw [om,kW,ZX L,ZX S,ZX V,ZX Z,ZX ao,ZZ A]
  exact .inl ⟨bn,O,⟨B.trans bo,ce⟩,Wt 5 t⟩
 have aG:¬y.op=5:=by simpa using bm
 refine ae<|I (bz O O)<|ag O<|ad ?_;refine Cc O (λbp=>?_)<|λbp=>?_
 ·have A:y.op=6:=by simpa using bp
  refine Cs ?_;have cb:=aA.1 (.inr A);obtain ⟨f,G⟩:∃v,y.args[0]? = some v:=⟨_,c6 (by omega)⟩;obtain ⟨aZ,a0,aa,M⟩:=R.b5 0 f G
  obtain ⟨k2,rfl⟩:∃k2,k=k2+1:=by
    cases k with
    | zero=>exact M.elim
    | succ k2=>exact ⟨k2,rfl⟩
  obtain ⟨fa,fc,af,ah⟩:=M;have Q:=hN k2 (by omega);have ai:=kC X G;refine Cr<|ac O<|I (Yf lC O)<|I (Yd 0 O O O ab)<|I (Yo (i:=0) hc O O aa (by omega))<|I (dz 0 gS O O O<|af)<|Lf 5 O<|Lf 5 O ?_;refine Lf 5 O<|Lf 5 O<|Lf 5 O ?_;refine c' [_,_,_,_,_] _ Y O aF O O _ _ _ _ _ _ ([E]) (by simp) (λw t=>Q H u z x loc v f fa fc _ s w J P ah ai t) ?_ ?_
  ·intro a2 bq;refine Ep<|WE.bS<|Ep ?_;refine bE λD t=>?_
   have B:eO (aO l aD) (cM (aO l aD) d) u y loc s.w=(eO (aO l aD) (cM (aO l aD) d) u f loc s.w).bind λv w=>.ok (bH<|v==0) w:=by
     rw [om,kW,ZX L,ZX S,ZX V,ZX Z,ZX ao,ZX aG,ZZ A,kc G]
   exact .inr ⟨a2,O,B.trans<|iw bq,(by have h:=t; have h:=Wt 3 h; exact h)⟩
  intro a2 ⟨bq,cf⟩;refine I (bz O O)<|Lp Y O aF O (λw t=>wd _ w)<|ag O<|ad<|am<|cN<|Er ?_;refine R1 O O λD t=>?_
  have B:eO (aO l aD) (cM (aO l aD) d) u y loc s.w=(eO (aO l aD) (cM (aO l aD) d) u f loc s.w).bind λv w=>.ok (bH<|v==0) w:=by
    rw [om,kW,ZX L,ZX S,ZX V,ZX Z,ZX ao,ZX aG,ZZ A,kc G]
  exact .inl ⟨(bH (a2.1==0),a2.2),O,⟨B.trans<|fK bq,cf⟩,Wt 5 t⟩
 have br:¬y.op=6:=by simpa using bp
 refine ae<|I (bz O O)<|ag O<|ad ?_;refine Cc O (λbs=>?_)<|λbs=>?_
 ·have A:y.op=7:=by simpa using bs
  refine Cs ?_;have bT:=aA.2.1 (by omega);obtain ⟨f,G⟩:∃v,y.args[0]? = some v:=⟨_,c6 (by omega)⟩;obtain ⟨aZ,a0,aa,M⟩:=R.b5 0 f G;obtain ⟨g,T⟩:∃v,y.args[1]? = some v:=⟨_,c6 (by omega)⟩;obtain ⟨bU,bV,aH,aI⟩:=R.b5 1 g T
  obtain ⟨k2,rfl⟩:∃k2,k=k2+1:=by
    cases k with
    | zero=>exact M.elim
    | succ k2=>exact ⟨k2,rfl⟩
  obtain ⟨fa,fc,af,ah⟩:=M;have Q:=hN k2 (by omega);have ai:=kC X G;obtain ⟨aJ,aK,aL,aM⟩:=aI;have aN:=kC X T
  have B:eO (aO l aD) (cM (aO l aD) d) u y loc s.w=(eO (aO l aD) (cM (aO l aD) d) u f loc s.w).bind λv w=>if v=0 then .ok 0 w else (eO (aO l aD) (cM (aO l aD) d) u g loc w).bind λv w=>.ok (bH<|!(v==0)) w:=by
    rw [om,kW,ZX L,ZX S,ZX V,ZX Z,ZX ao,ZX aG,ZX br,ZZ A,kc G,kc T]
  refine Cr<|ac O<|I (Yf lC O)<|I (Yd 0 O O O ab)<|I (Yo (i:=0) hc O O aa (by omega))<|I (dz 0 gS O O O<|af)<|Lf 5 O<|Lf 5 O ?_;refine Lf 5 O<|Lf 5 O<|Lf 5 O ?_;refine c' [_,_,_,_,_] _ Y O aF O O _ _ _ _ _ _ ([E]) (by simp) (λw t=>Q H u z x loc v f fa fc _ s w J P ah ai t) ?_ ?_
  ·intro aP aR;refine Ep<|WE.bS<|Ep ?_;refine bE λD t=>?_;exact .inr ⟨aP,O,B.trans<|iw aR,(by have h:=t; have h:=Wt 3 h; exact h)⟩
  intro aP ⟨aR,bX⟩;refine I (h9 O O)<|ac O ?_
  rcases If (aP.1 != 0) with av | av
  ·rw [av];refine Vg (Ym O)<|Vg (Yf lC O)<|Vg (Yd 5 O O O ab)<|Vg (Yo (i:=1) hc O O aH (by omega))<|Vg (dz 0 gS O O O<|aL) ?_;refine c' [_,_,_,_,_] _ (.g O O O) O aF O O _ _ _ _ _ _ ([E]) (by simp) (λw t=>Q H u z x loc v g aJ aK _ aP.2 w bX P aM aN t) ?_ ?_
   ·intro a3 bt;refine Ep<|WE.bS<|Ep ?_;refine bE λD t=>?_;exact .inr ⟨a3,O,(B.trans<|fK aR).trans<|(ZX (by simpa using av)).trans<|iw bt,(by have h:=t; have h:=Wt 3 h; exact h)⟩
   intro a3 ⟨bt,cg⟩;refine Vg (h9 O O)<|I (In O O)<|Lp Y O aF O (λw t=>wd _ w)<|ag O<|ad<|am<|cN<|Er ?_;refine R1 O O λD t=>?_;exact .inl ⟨(bH (a3.1 != 0),a3.2),O,⟨(B.trans<|fK aR).trans<|(ZX (by simpa using av)).trans<|fK bt,cg⟩,Wt 5 t⟩
  rw [av];refine WL.skip O O O O O ?_;refine WL.skip O O O O O ?_;refine WL.skip O O O O O ?_;refine WL.skip O O O O O ?_;refine WL.skip O O O O O ?_;refine WL.skip O O O O O ?_;refine WL.skip O O O O O ?_;refine I (Io O O)<|Lp Y O aF O (λw t=>wd _ w)<|ag O<|ad<|am<|cN<|Er ?_;refine R1 O O λD t=>?_;exact .inl ⟨(0,aP.2),O,⟨(B.trans<|fK aR).trans<|ZZ (by simpa using av),bX⟩,Wt 5 t⟩
 have bY:¬y.op=7:=by simpa using bs
 refine ae<|I (bz O O)<|ag O<|ad ?_;refine Cc O (λbu=>?_)<|λbu=>?_
 ·have A:y.op=8:=by simpa using bu
  refine Cs ?_;have bT:=aA.2.1 (by omega);obtain ⟨f,G⟩:∃v,y.args[0]? = some v:=⟨_,c6 (by omega)⟩;obtain ⟨aZ,a0,aa,M⟩:=R.b5 0 f G;obtain ⟨g,T⟩:∃v,y.args[1]? = some v:=⟨_,c6 (by omega)⟩;obtain ⟨bU,bV,aH,aI⟩:=R.b5 1 g T
  obtain ⟨k2,rfl⟩:∃k2,k=k2+1:=by
    cases k with
    | zero=>exact M.elim
    | succ k2=>exact ⟨k2,rfl⟩
  obtain ⟨fa,fc,af,ah⟩:=M;have Q:=hN k2 (by omega);have ai:=kC X G;obtain ⟨aJ,aK,aL,aM⟩:=aI;have aN:=kC X T
  have B:eO (aO l aD) (cM (aO l aD) d) u y loc s.w=(eO (aO l aD) (cM (aO l aD) d) u f loc s.w).bind λv w=>if v=0 then (eO (aO l aD) (cM (aO l aD) d) u g loc w).bind λv w=>.ok (bH<|!(v==0)) w else .ok 1 w:=by
    rw [om,kW,ZX L,ZX S,ZX V,ZX Z,ZX ao,ZX aG,ZX br,ZX bY,ZZ A,kc G,kc T]
  refine Cr<|ac O<|I (Yf lC O)<|I (Yd 0 O O O ab)<|I (Yo (i:=0) hc O O aa (by omega))<|I (dz 0 gS O O O<|af)<|Lf 5 O<|Lf 5 O ?_;refine Lf 5 O<|Lf 5 O<|Lf 5 O ?_;refine c' [_,_,_,_,_] _ Y O aF O O _ _ _ _ _ _ ([E]) (by simp) (λw t=>Q H u z x loc v f fa fc _ s w J P ah ai t) ?_ ?_
  ·intro aS aU;refine Ep<|WE.bS<|Ep ?_;refine bE λD t=>?_;exact .inr ⟨aS,O,B.trans<|iw aU,(by have h:=t; have h:=Wt 3 h; exact h)⟩
  intro aS ⟨aU,bZ⟩;refine I (h9 O O)<|ac O ?_
  rcases If (aS.1 != 0) with aw | aw
  ·rw [aw];refine WL.skip O O O O O ?_;refine WL.skip O O O O O ?_;refine WL.skip O O O O O ?_;refine WL.skip O O O O O ?_;refine WL.skip O O O O O ?_;refine WL.skip O O O O O ?_;refine WL.skip O O O O O ?_;refine I (In O O)<|Lp Y O aF O (λw t=>wd _ w)<|ag O<|ad<|am<|cN<|Er ?_;refine R1 O O λD t=>?_;exact .inl ⟨(1,aS.2),O,⟨(B.trans<|fK aU).trans<|ZX (by simpa using aw),bZ⟩,Wt 5 t⟩
  rw [aw];refine Vg (Ym O)<|Vg (Yf lC O)<|Vg (Yd 5 O O O ab)<|Vg (Yo (i:=1) hc O O aH (by omega))<|Vg (dz 0 gS O O O<|aL) ?_;refine c' [_,_,_,_,_] _ (.g O O O) O aF O O _ _ _ _ _ _ ([E]) (by simp) (λw t=>Q H u z x loc v g aJ aK _ aS.2 w bZ P aM aN t) ?_ ?_
  ·intro a4 bv;refine Ep<|WE.bS<|Ep ?_;refine bE λD t=>?_;exact .inr ⟨a4,O,(B.trans<|fK aU).trans<|(ZZ (by simpa using aw)).trans<|iw bv,(by have h:=t; have h:=Wt 3 h; exact h)⟩
  intro a4 ⟨bv,ch⟩;refine Vg (h9 O O)<|I (Io O O)<|Lp Y O aF O (λw t=>wd _ w)<|ag O<|ad<|am<|cN<|Er ?_;refine R1 O O λD t=>?_;exact .inl ⟨(bH (a4.1 != 0),a4.2),O,⟨(B.trans<|fK aU).trans<|(ZZ (by simpa using aw)).trans<|fK bv,ch⟩,Wt 5 t⟩
 have ci:¬y.op=8:=by simpa using bu
 refine Ck<|Eb<|Et<|Cs ?_
 have cD:9<=y.op:=by omega
 have bT:=aA.2.1 (by omega);obtain ⟨f,G⟩:∃v,y.args[0]? = some v:=⟨_,c6 (by omega)⟩;obtain ⟨aZ,a0,aa,M⟩:=R.b5 0 f G;obtain ⟨g,T⟩:∃v,y.args[1]? = some v:=⟨_,c6 (by omega)⟩;obtain ⟨bU,bV,aH,aI⟩:=R.b5 1 g T
 obtain ⟨k2,rfl⟩:∃k2,k=k2+1:=by
   cases k with
   | zero=>exact M.elim
   | succ k2=>exact ⟨k2,rfl⟩
 obtain ⟨fa,fc,af,ah⟩:=M;have Q:=hN k2 (by omega);have ai:=kC X G;obtain ⟨aJ,aK,aL,aM⟩:=aI;have aN:=kC X T
 have B:eO (aO l aD) (cM (aO l aD) d) u y loc s.w=(eO (aO l aD) (cM (aO l aD) d) u f loc s.w).bind λa w=>(eO (aO l aD) (cM (aO l aD) d) u g loc w).bind λb w=>kV y.op a b w:=by
   rw [om,kW,ZX L,ZX S,ZX V,ZX Z,ZX ao,ZX aG,ZX br,ZX bY,ZX ci,kc G,kc T]
 refine Cr<|ac O<|I (Yf lC O)<|I (Yd 0 O O O ab)<|I (Yo (i:=0) hc O O aa (by omega))<|I (dz 0 gS O O O<|af)<|Lf 5 O<|Lf 5 O ?_;refine Lf 5 O<|Lf 5 O<|Lf 5 O ?_;refine c' [_,_,_,_,_] _ Y O aF O O _ _ _ _ _ _ ([E]) (by simp) (λw t=>Q H u z x loc v f fa fc _ s w J P ah ai t) ?_ ?_
 ·intro U a5;refine Ep ?_;refine bE λD t=>?_;exact .inr ⟨U,O,B.trans<|iw a5,(by have h:=t; have h:=Wt 3 h; exact h)⟩
 intro U ⟨a5,cj⟩;refine ag O<|ad<|ae<|ac O<|I (Yf lC O)<|I (Yd 5 O O O ab)<|I (Yo (i:=1) hc O O aH (by omega))<|I (dz 0 gS O O O<|aL) ?_;refine c' [_,_,_,_,_] _ Y O aF O O _ _ _ _ _ _ ([E]) (by simp) (λw t=>Q H u z x loc v g aJ aK _ U.2 w cj P aM aN t) ?_ ?_
 ·intro F bx;refine Ep ?_;refine bE λD t=>?_;exact .inr ⟨F,O,B.trans<|(fK a5).trans<|iw bx,(by have h:=t; have h:=Wt 3 h; exact h)⟩
 intro F ⟨bx,ap⟩;refine ag O<|ad<|Cs<|Cs ?_;have al:eO (aO l aD) (cM (aO l aD) d) u y loc s.w=kV y.op U.1 F.1 F.2.w:=B.trans ((fK a5).trans<|fK bx);refine Cr<|I (Yf pn O)<|I (Yd 5 O O O ab)<|ad<|Cb<|ae<|I (bz O O)<|ag O<|ad ?_;refine Cc O (λbA=>?_)<|λbA=>?_
 ·have A:y.op=9:=by simpa using bA
  refine ae<|ac O<|ac O<|I (r3 O O)<|ag O<|ad<|am<|cN<|Er ?_;refine R1 O O λD t=>?_;exact .inl ⟨(IntKind.i64.wrap (U.1+F.1),F.2),O,⟨al.trans (by rw [kV,ZZ A]),ap⟩,Wt 5 t⟩
 have aq:¬y.op=9:=by simpa using bA
 refine ae<|I (bz O O)<|ag O<|ad ?_;refine Cc O (λbB=>?_)<|λbB=>?_
 ·have A:y.op=10:=by simpa using bB
  refine ae<|ac O<|ac O<|I (AU O O)<|ag O<|ad<|am<|cN<|Er ?_;refine R1 O O λD t=>?_;exact .inl ⟨(IntKind.i64.wrap (U.1-F.1),F.2),O,⟨al.trans (by rw [kV,ZX aq,ZZ A]),ap⟩,Wt 5 t⟩
 have ax:¬y.op=10:=by simpa using bB
 refine ae<|I (bz O O)<|ag O<|ad ?_;refine Cc O (λbC=>?_)<|λbC=>?_
 ·have A:y.op=11:=by simpa using bC
  refine ae<|ac O<|ac O<|I (Ip O O)<|ag O<|ad<|am<|cN<|Er ?_;refine R1 O O λD t=>?_;exact .inl ⟨(IntKind.i64.wrap (U.1*F.1),F.2),O,⟨al.trans (by rw [kV,ZX aq,ZX ax,ZZ A]),ap⟩,Wt 5 t⟩
 have aV:¬y.op=11:=by simpa using bC
 refine ae<|I (bz O O)<|ag O<|ad ?_;refine Cc O (λbD=>?_)<|λbD=>?_
 ·have A:y.op=14:=by simpa using bD
  refine ae<|ac O<|ac O<|I (bz O O)<|Lp Y O aF O (λw t=>wd _ w)<|ag O<|ad<|am<|cN<|Er ?_;refine R1 O O λD t=>?_;exact .inl ⟨(bH (U.1==F.1),F.2),O,⟨al.trans (by rw [kV,ZX aq,ZX ax,ZX aV,ZZ A]),ap⟩,Wt 5 t⟩
 have a6:¬y.op=14:=by simpa using bD
 refine ae<|I (bz O O)<|ag O<|ad ?_;refine Cc O (λbF=>?_)<|λbF=>?_
 ·have A:y.op=15:=by simpa using bF
  refine ae<|ac O<|ac O<|I (cI O O)<|Lp Y O aF O (λw t=>wd _ w)<|ag O<|ad<|am<|cN<|Er ?_;refine R1 O O λD t=>?_;exact .inl ⟨(bH (decide<|U.1<F.1),F.2),O,⟨al.trans (by rw [kV,ZX aq,ZX ax,ZX aV,ZX a6,ZZ A]),ap⟩,Wt 5 t⟩
 have bG:¬y.op=15:=by simpa using bF
 refine Ck<|Eb<|Et<|ae<|ac O<|I (bz O O) ?_
 refine c' (ι:=Unit) (κ:=Unit) [] _ Y O aF O O (λ_=>.tuple #[]) (λ_=>[]) (λ_=>(F.1==0)=false) (λ_=>my 182 1) (λ_=>[]) (λ_=>(F.1==0)=true) ([]) (by simp) (λw t=>(An _ 1 w).mono λe D h=>by
     rcases h with ⟨_,ar,ay,az⟩ | ⟨_,ar,ay,az⟩
     · exact .inl ⟨(),ar,ay,t.ext az⟩
     · exact .inr ⟨(),ar,ay,t.ext az⟩) ?_ ?_
 ·intro _ bI;refine Ep ?_;refine bE λD t=>?_;exact .inr ⟨(1,F.2),O,al.trans (by rw [kV,ZX aq,ZX ax,ZX aV,ZX a6,ZX bG,ZZ (by simpa using bI)]),(by have h:=t; have h:=Wt 3 h; exact h)⟩
 intro _ bI;refine ad<|Cs<|Cs ?_
 have a7:¬F.1=0:=by simpa using bI
 refine Cr<|I (Yf pn O)<|I (Yd 5 O O O ab)<|I (bz O O)<|ad ?_;refine Cc O (λbJ=>?_)<|λbJ=>?_
 ·have A:y.op=12:=by simpa using bJ
  refine ae<|ac O<|ac O<|I (IF O O a7)<|ag O<|ad<|am<|Er ?_;refine R1 O O λD t=>?_;exact .inl ⟨(IntKind.i64.wrap (U.1.tdiv F.1),F.2),O,⟨al.trans (by rw [kV,ZX aq,ZX ax,ZX aV,ZX a6,ZX bG,ZX a7,ZZ A]),ap⟩,Wt 5 t⟩
 have ck:¬y.op=12:=by simpa using bJ
 refine bW<|ae<|ac O<|ac O<|I (IG O O a7)<|ag O<|ad<|am ?_;refine R1 O O λD t=>?_;exact .inl ⟨(U.1.tmod F.1,F.2),O,⟨al.trans (by rw [kV,ZX aq,ZX ax,ZX aV,ZX a6,ZX bG,ZX a7,ZX ck]),ap⟩,Wt 5 t⟩
def OD (f:View) (n:Nat) (g:KW) (l:List b8) (aD b C d:Nat) (k1 k:Nat):Prop:=∀(h u:Nat) (z:b8) (x:SP) (loc:List Int) (v:Int) (body:List c_) (a:Option Addr) (c j:Nat) (s:eU) (w:World),iN f (aO l aD) (c9 l) C s->l[u]? = some z->Sl (gG k1 k) 7 f a c body->a9 (aE z::fd l z) loc.length body j=true->Ws w (List.flatMap aQ.ids<|(dK 180 3 b g (aO l aD) s)++(fO 281 3 h b u x loc v)) ((dK 180 3 b g (aO l aD) s)++(fO 281 3 h b u x loc v)) [f] w->
 Calls prog 164 #[.pointer (some ⟨h,0,none⟩),.slice a body.length c] w λe i=>(∃r:Bool×eU×List Int×Int,e = .returned (.bool r.1)/\(gq (aO l aD) (cM (aO l aD) d) u body (⟨loc,v,s.w⟩:Fm) = .ok r.1 ⟨r.2.2.1,r.2.2.2,r.2.1.w⟩/\iN f (aO l aD) (c9 l) C r.2.1/\r.2.2.1.length=loc.length)/\Ws w (List.flatMap aQ.ids<|(dK 180 3 b g (aO l aD) s)++(fO 281 3 h b u x loc v)) ((dK 180 3 b g (aO l aD) r.2.1)++(fO 281 3 h b u x r.2.2.1 r.2.2.2)) [f] i)\/(∃r:Int×eU,e = .panicked (my 182 r.1)/\gq (aO l aD) (cM (aO l aD) d) u body (⟨loc,v,s.w⟩:Fm) = .ov r.1 r.2.w/\Ws w (List.flatMap aQ.ids<|(dK 180 3 b g (aO l aD) s)++(fO 281 3 h b u x loc v)) (dK 180 3 b g (aO l aD) r.2) [f] i)
def Zx (b:View) (n:Nat) (e:KW) (l:List b8) (aD f C d:Nat) (g:ry b n e l aD) (hC:we b n e l aD f C d) (k:Nat):Dz b n e l aD f C d k:=λh u z x loc v y a c i s w j m o p q=>Zv b n e l aD f C d h u z x loc v y a c k i s w j g m hC o p q
variable {gv:Env} {wg:Fm->Rz Fm Int} {Ao:Fm->Rz Fm Bool} {nB wh:Fm}
def XQ (a:wg nB = .ok aH wh) (hv:aH=0):kX gv wg Ao (Z+1) nB = .ok false wh:=by unfold kX; rw [fK a]; exact ZZ hv
def XR (a:wg nB = .ov aH bb):kX gv wg Ao (Z+1) nB = .ov aH bb:=by unfold kX; rw [iw a]
def OE {f a:Fm}  (b:wg f = .ok aH a) (hv:¬aH=0):kX gv wg Ao (Z+1) f=(Rz.fr a<|ky gv a.w).bind λ_ f=>(Ao f).bind λt f=>if t=true then .ok true f else kX gv wg Ao Z f:=by
 rw [kX,fK b]; exact ZX hv
def XS {x:Unit} (h:ky gv bb = .ok x lE):lE.aM=bb.aM+1:=by
 unfold ky at h
 split at h
 · cases h
 · simp only [Rz.ok.injEq] at h; rw [<-h.2]
variable {iK:List c_}
def XT {t:Bool} (h:gq gv (cM gv Z) aw iK nB = .ok t wh):nB.w.aM<=wh.w.aM:=by have a:=y3 (P:=gv) (B5 Z) aw iK nB; rw [h] at a; exact a.1.aM
def Zy {x:dr}    (h:eO gv (cM gv Z) aw x ff bb = .ok aH lE):bb.aM<=lE.aM:=by have a:=KB (P:=gv) (B5 Z) aw x ff bb; rw [h] at a; exact a.aM
variable {gQ:Cl}
def HK {y:c_} (f:Fm) (h:iK[aw]? = some y):gq gv gQ Z (iK.drop aw) f=(kY gv gQ Z y f).bind λt f=>if t=true then .ok true f else gq gv gQ Z (iK.drop<|aw+1) f:=by
 obtain ⟨a,b⟩:=cq.1 h;rw [pt a,b,gq]
def XV (f:Fm) (h:iK.length<=aw):gq gv gQ Z (iK.drop aw) f = .ok false f:=by rw [uL h,gq]
def OF:au prog 281 3=some 3:=ab
def XW (B:View) (n:Nat) (H:KW) (l:List b8) (aD A C d:Nat) (G u:Nat) (z:b8) (x:SP) (loc:List Int) (v:Int) (y:c_) (r:sg) (k1 k bJ:Nat) (s:eU) (w:World) (aa:iN B (aO l aD) (c9 l) C s) (X:ry B n H l aD) (N:l[u]? = some z) (hC:we B n H l aD A C d) (a3:OD B n H l aD A C d k1 k) (W:Sl (ie k1) 5 B r.s1.1 r.s1.2 y.args) (ar:Sl (gG k1 k) 7 B r.s2.1 r.s2.2 y.body) (ay:Sl (gG k1 k) 7 B r.s3.1 r.s3.2 y.other) (bK:jN (aE z::fd l z) loc.length y bJ=true) (c:Ws w (List.flatMap aQ.ids<|(dK 180 3 A H (aO l aD) s)++(fO 281 3 G A u x loc v)) ((dK 180 3 A H (aO l aD) s)++(fO 281 3 G A u x loc v)) [B] w) :
   Calls prog 236 #[.pointer (some ⟨G,0,none⟩),.agg (de y r).toArray] w λe E=>(∃r:Bool×eU×List Int×Int,e = .returned (.bool r.1)/\(kY (aO l aD) (cM (aO l aD) d) u y (⟨loc,v,s.w⟩:Fm) = .ok r.1 ⟨r.2.2.1,r.2.2.2,r.2.1.w⟩/\iN B (aO l aD) (c9 l) C r.2.1/\r.2.2.1.length=loc.length)/\Ws w (List.flatMap aQ.ids<|(dK 180 3 A H (aO l aD) s)++(fO 281 3 G A u x loc v)) ((dK 180 3 A H (aO l aD) r.2.1)++(fO 281 3 G A u x r.2.2.1 r.2.2.2)) [B] E)\/(∃r:Int×eU,e = .panicked (my 182 r.1)/\kY (aO l aD) (cM (aO l aD) d) u y (⟨loc,v,s.w⟩:Fm) = .ov r.1 r.2.w/\Ws w (List.flatMap aQ.ids<|(dK 180 3 A H (aO l aD) s)++(fO 281 3 G A u x loc v)) (dK 180 3 A H (aO l aD) r.2) [B] E):=by
 have cp:=vp X.ok;have cq:=aa.aap;have hN:=Zx B n H l aD A C d X hC;have cr:=W.cap;have cs:=W.max;obtain ⟨Z,af,bv,bM⟩:=B' bK;have al:=xu Z;have aS:=B7 Z;have ct:=al.2.2;refine enter func236 O 157 O O ?_;refine CE c<|ae ?_;refine WL.box Y O O λbN=>?_;refine ag O<|ad<|Cs<|Cs<|aao 0 (.cells (de y r).toArray 51 (0,0)) O O<|Cr<|I (Yf z8 O)<|I (Yd 0 O O O ab)<|ad<|Cb<|ae<|I (bz O O) ?_;refine ag O<|ad ?_;refine Cc O (λa4=>?_)<|λa4=>?_
 ·have L:y.op=1:=by simpa using a4
  refine Cs ?_;have aU:=al.1 (by omega);obtain ⟨f,K⟩:∃v,y.args[0]? = some v:=⟨_,c6 (by omega)⟩;obtain ⟨az,aA,R,M⟩:=W.b5 0 f K
  obtain ⟨k2,rfl⟩:∃k2,k1=k2+1:=by
    cases k1 with
    | zero=>exact M.elim
    | succ k2=>exact ⟨k2,rfl⟩
  obtain ⟨fa,fc,S,T⟩:=M;have Q:=hN k2;have U:=kC af K
  have D:kY (aO l aD) (cM (aO l aD) d) u y (⟨loc,v,s.w⟩:Fm)=(Rz.fr (⟨loc,v,s.w⟩:Fm)<|eO (aO l aD) (cM (aO l aD) d) u f loc s.w).bind λv q=>if y.m<0 then .ok false { q with loc:=q.loc.set y.pl.toNat v } else .ok false { q with w:={ q.w with data:=q.w.data.set ((aO l aD).at_ u y.m y.pl) v } }:=by
    rw [vk,oo,ZZ L,kc K]
  refine Cr<|ac O<|I (Yf lD O)<|I (Yd 0 O O O ab)<|I (Yo (i:=0) hc O O R (by omega))<|I (dz 0 gS O O O<|S)<|Lf 5 O<|Lf 5 O ?_;refine Lf 5 O<|Lf 5 O<|Lf 5 O ?_;refine c' [_,_,_,_,_] _ Y O aF O O _ _ _ _ _ _ ([B]) (by simp) (λw c=>Q G u z x loc v f fa fc _ s w aa N T U c) ?_ ?_
  ·intro F aV;refine Ep<|WE.bS<|Ep ?_;refine bE λE c=>?_;exact .inr ⟨F,O,D.trans<|iw<|qE aV,(by have h:=c; have h:=Wt 3 h; exact h)⟩
  intro F ⟨aV,ah⟩;refine ag O<|ad<|ae<|I (Yf mK O)<|I (Yd 5 O O O ab)<|I (cI O O)<|ad ?_;refine Cc O (λa5=>?_)<|λa5=>?_
  ·have aB:y.m<0:=by simpa using a5
   obtain ⟨cu,cv⟩:=(aS.1 L).1 aB;obtain ⟨an,bx⟩:∃an:Nat,y.pl=an:=⟨y.pl.toNat,by omega⟩;obtain ⟨bO,bP⟩:∃v,loc[an]? = some v:=⟨_,c6 (by omega)⟩;refine WC.re 4 O (by omega) λlb bA cw cx=>?_;refine CU (λ_=>true) [] [8] (.q false 0<|.q false 1<|.q false 2<|.q true 3<|.q false 4<|.q true 5<|.q false 6<|.q false 7 .nil) mixed (by kernel_rfl) (λ_ _ _ d _ _ h=>by cases d<;>exact h) ?_;refine U0 O (λ_ h=>h) (Ym O)<|U0 O (λ_ h=>h) (bw O)<|U0 O (λ_ h=>h) (Yf OC O)<|U0 O (λ_ h=>h) (Yd 3 O O O ab)<|U0 O (λ_ h=>h) (Yf cf O)<|U0 O (λ_ h=>h) (Yd 5 O O O ab) ?_;rw [bx];refine U0 O (λ_ h=>h) (Ym O)<|U0 O (λ_ h=>h) (Yo (i:=an) e3 O O bA (by omega)) ?_;refine WU.nil (λ_ h=>h) ?_;refine WS.e O ?_;refine WL.storeT (y:=bO) 4 an 0 F.1 Y O O O bA O kb bP dL O O (by decide) O ?_;refine Ln<|Es ?_;refine WS.nil ?_;refine Eb<|Et<|ae<|ag O<|ad<|am ?_;refine R1 O O λE c=>?_;have aC:=(by have h:=c; have h:=Wt 5 h; exact h);have aC:=aC.nn 3 rfl (show aq G (tV 281 A u x loc.length v)=aq G (tV 281 A u x (loc.set an F.1).length v) by simp);exact .inl ⟨(false,F.2,loc.set an F.1,v),O,⟨D.trans<|(fK<|bL aV).trans<|(ZZ aB).trans (by rw [bx,i']),ah,by simp⟩,aC⟩
  have aB:¬y.m<0:=by simpa using a5
  obtain ⟨a6,j,b,p,a7,aG,a8,a9,bQ,bR,a'⟩:=w4 X.ok aD N ((aS.1 L).2 aB) (by decide);have bT:=ah.aap;obtain ⟨bU,bV⟩:∃v,F.2.w.data[b+p]? = some v:=⟨_,c6 (by omega)⟩;refine Cr<|ac O<|I (Yf mK O)<|I (Yd 5 O O O ab)<|I (Yf cf O)<|I (Yd 5 O O O ab) ?_;refine Lw [_,_,_,_] _ Y O aF O O _ _ _ [B] (by simp) (λw c=>Dy A H l aD C B F.2 n G u x loc.length v z a6 j b p y.m y.pl w ah X N a8 a9 (by omega) a7 aG c) ?_;intro cy bX;refine ac O<|I (bw O) ?_;refine WL.storeT (y:=bU) 2 (b+p) 0 F.1 Y O O O bX O kb bV dL O O (by decide) O ?_;refine Ln<|Eb<|Et<|ae<|ag O<|ad<|am ?_;refine R1 O O λE c=>?_
  have c:Ws w (List.flatMap aQ.ids<|(dK 180 3 A H (aO l aD) s)++(fO 281 3 G A u x loc v)) ((dK 180 3 A H (aO l aD) (⟨{ F.2.w with data:=F.2.w.data.set (b+p) F.1 },F.2.i,F.2.o,F.2.d⟩:eU))++(fO 281 3 G A u x loc v)) [B] E:=by
    have h:=(by have h:=c; have h:=Wt 5 h; exact h);exact h.nn 0 O (show aq A (lX 180 H (aO l aD) F.2)=aq A (lX 180 H (aO l aD) (⟨{ F.2.w with data:=F.2.w.data.set (b+p) F.1 },F.2.i,F.2.o,F.2.d⟩:eU)) by simp [lX])
  have a_:(aO l aD).at_ u y.m y.pl=b+p:=by rw [aG]; exact a' 0
  exact .inl ⟨(false,⟨{ F.2.w with data:=F.2.w.data.set (b+p) F.1 },F.2.i,F.2.o,F.2.d⟩,loc,v),O,⟨D.trans<|(fK<|bL aV).trans<|(ZX aB).trans (by rw [a_]),⟨ah.bg,ah.out,ah.tk,by show (List.set _ _ _).length=_; rw [yk]; exact ah.aap,ah.cl⟩,O⟩,c⟩
 have Z:¬y.op=1:=by simpa using a4
 refine ae<|I (bz O O)<|ag O<|ad ?_;refine Cc O (λba=>?_)<|λba=>?_
 ·have L:y.op=2:=by simpa using ba
  refine Cs ?_;have aW:=al.2.1 L;obtain ⟨f,K⟩:∃v,y.args[0]? = some v:=⟨_,c6 (by omega)⟩;obtain ⟨az,aA,R,M⟩:=W.b5 0 f K;obtain ⟨g,bb⟩:∃v,y.args[1]? = some v:=⟨_,c6 (by omega)⟩;obtain ⟨cz,cA,bY,bZ⟩:=W.b5 1 g bb
  obtain ⟨k2,rfl⟩:∃k2,k1=k2+1:=by
    cases k1 with
    | zero=>exact M.elim
    | succ k2=>exact ⟨k2,rfl⟩
  obtain ⟨fa,fc,S,T⟩:=M;have Q:=hN k2;have U:=kC af K;obtain ⟨b0,b1,b2,b3⟩:=bZ;have b4:=kC af bb;obtain ⟨⟨cB,cC⟩,b6⟩:=aS.2.1 L;obtain ⟨a6,j,b,p,a7,aG,a8,a9,bQ,bR,a'⟩:=w4 X.ok aD N b6 (by omega)
  have D:kY (aO l aD) (cM (aO l aD) d) u y (⟨loc,v,s.w⟩:Fm)=(Rz.fr (⟨loc,v,s.w⟩:Fm)<|cL y.n (eO (aO l aD) (cM (aO l aD) d) u f) loc s.w).bind λi q=>(Rz.fr q<|eO (aO l aD) (cM (aO l aD) d) u g q.loc q.w).bind λv q=>.ok false { q with w:={ q.w with data:=q.w.data.set ((aO l aD).at_ u y.m<|y.pl+i) v } }:=by
    rw [vk,oo,ZX Z,ZZ L,kc K,kc bb]
  refine CU (λ_=>true) [1,1,1,1,1] [] (.q false 0<|.q false 1<|.q true 2<|.q false 3<|.q true 4<|.q false 5<|.q true 6<|.e 7 (.q false 8 .nil) .stop) mixed (by kernel_rfl) (λ_ _ _ d _ _ h=>by cases d<;>exact h) ?_;refine U0 O (λ_ h=>by exact (Wo 1 (Wo 1<|Wo 1<|Wo 1<|Wo 1 h):)) (Ym O)<|U0 O (λ_ h=>by exact (Wo 1 (Wo 1<|Wo 1<|Wo 1<|Wo 1 h):)) (Yf lD O)<|U0 O (λ_ h=>by exact (Wo 1 (Wo 1<|Wo 1<|Wo 1<|Wo 1 h):)) (Yd 0 O O O ab)<|U0 O (λ_ h=>by exact (Wo 1 (Wo 1<|Wo 1<|Wo 1<|Wo 1 h):)) (Yo (i:=0) hc O O R (by omega))<|U0 O (λ_ h=>by exact (Wo 1 (Wo 1<|Wo 1<|Wo 1<|Wo 1 h):)) (dz 0 gS O O O<|S)<|U0 O (λ_ h=>by exact (Wo 1 (Wo 1<|Wo 1<|Wo 1<|Wo 1 h):)) (Yf uj O)<|U0 O (λ_ h=>by exact (Wo 1 (Wo 1<|Wo 1<|Wo 1<|Wo 1 h):)) (Yd 0 O O O ab) ?_;refine Ue O (λ_ h=>by exact (Wo 1 (Wo 1<|Wo 1<|Wo 1<|Wo 1 h):)) ?_ WU.stop;refine Lf 5 O<|Lf 5 O<|Lf 5 O<|Lf 5 O<|Lf 5 O ?_;refine c' [_,_,_,_,_] _ Y O aF O O _ _ _ _ _ _ ([B]) (by simp) (λw c=>OA B n H l aD A C d G u z x loc v f y.n fa fc k2 _ s w aa X N Q T U c) ?_ ?_
  ·intro ai aH;refine Ep<|Ep<|WE.bS<|Ep ?_;refine bE λE c=>?_;exact .inr ⟨ai,O,D.trans<|iw<|qE aH,(by have h:=c; have h:=Wt 3 h; exact h)⟩
  intro ai ⟨aH,b7⟩;refine Ln<|Eu<|U0 O (λ_ h=>by exact (Wo 1 (Wo 1<|Wo 1<|Wo 1<|Wo 1<|h.f 5 O):)) (Ya O) ?_;refine WU.nil (λ_ h=>by exact (Wo 1 (Wo 1<|Wo 1<|Wo 1<|Wo 1<|h.f 5 O):)) ?_;refine WS.nil ?_;refine Et<|ae<|ac O<|I (Yf lD O)<|I (Yd 5 O O O ab)<|I (Yo (i:=1) hc O O bY (by omega))<|I (dz 0 gS O O O<|b2) ?_;refine c' [_,_,_,_,_] _ Y O aF O O _ _ _ _ _ _ ([B]) (by simp) (λw c=>Q G u z x loc v g b0 b1 _ ai.2 w b7 N b3 b4 c) ?_ ?_
  ·intro J bc;refine Ep<|WE.bS<|Ep ?_;refine bE λE c=>?_;exact .inr ⟨J,O,D.trans<|(fK<|bL aH).trans<|iw<|qE bc,(by have h:=c; have h:=Wt 3 h; exact h)⟩
  intro J ⟨bc,ao⟩;refine ag O<|ad ?_;have cD:0<=ai.1/\ai.1<y.n:=OB aH;obtain ⟨V,bB⟩:∃V:Nat,ai.1=V:=⟨ai.1.toNat,by omega⟩;have bT:=ao.aap;obtain ⟨b9,b'⟩:∃v,J.2.w.data[b+(p+V)]? = some v:=⟨_,c6 (by omega)⟩;refine Cr<|ac O<|I (Yf mK O)<|I (Yd 5 O O O ab)<|I (Yf cf O)<|I (Yd 5 O O O ab)<|ac O<|I (q_ (a:=p) (b:=V) O O aG bB (by omega)) ?_;refine Lw [_,_,_,_] _ Y O aF O O _ _ _ [B] (by simp) (λw c=>Dy A H l aD C B J.2 n G u x loc.length v z a6 j b (p+V) y.m _ w ao X N a8 a9 (by omega) a7 O c) ?_;intro cE b_;refine ac O<|I (bw O) ?_;refine WL.storeT (y:=b9) 2 (b+(p+V)) 0 J.1 Y O O O b_ O kb b' dL O O (by decide) O ?_;refine Ln<|Eb<|Et<|ae<|ag O<|ad<|am ?_;refine R1 O O λE c=>?_
  have c:Ws w (List.flatMap aQ.ids<|(dK 180 3 A H (aO l aD) s)++(fO 281 3 G A u x loc v)) ((dK 180 3 A H (aO l aD) (⟨{ J.2.w with data:=J.2.w.data.set (b+(p+V)) J.1 },J.2.i,J.2.o,J.2.d⟩:eU))++(fO 281 3 G A u x loc v)) [B] E:=by
    have h:=(by have h:=c; have h:=Wt 5 h; exact h);exact h.nn 0 O (show aq A (lX 180 H (aO l aD) J.2)=aq A (lX 180 H (aO l aD) (⟨{ J.2.w with data:=J.2.w.data.set (b+(p+V)) J.1 },J.2.i,J.2.o,J.2.d⟩:eU)) by simp [lX])
  have a_:(aO l aD).at_ u y.m (y.pl+ai.1)=b+(p+V):=by rw [aG,bB]; exact a' V
  exact .inl ⟨(false,⟨{ J.2.w with data:=J.2.w.data.set (b+(p+V)) J.1 },J.2.i,J.2.o,J.2.d⟩,loc,v),O,⟨D.trans<|(fK<|bL aH).trans<|(fK<|bL bc).trans (by rw [a_]),⟨ao.bg,ao.out,ao.tk,by show (List.set _ _ _).length=_; rw [yk]; exact ao.aap,ao.cl⟩,O⟩,c⟩
 have aI:¬y.op=2:=by simpa using ba
 refine ae<|I (bz O O)<|ag O<|ad ?_;refine Cc O (λbd=>?_)<|λbd=>?_
 ·have L:y.op=3:=by simpa using bd
  have D:kY (aO l aD) (cM (aO l aD) d) u y (⟨loc,v,s.w⟩:Fm)=(Rz.fr (⟨loc,v,s.w⟩:Fm)<|ol (aO l aD) (cM (aO l aD) d) u y.m y.pl (gb (aO l aD) (cM (aO l aD) d) u y.args) loc s.w).bind λ_ q=>.ok false q:=by
    rw [vk,oo,ZX Z,ZX aI,ZZ L]
  refine Cr<|ac O<|I (Yf mK O)<|I (Yd 0 O O O ab)<|I (Yf cf O)<|I (Yd 0 O O O ab)<|I (Yf lD O)<|I (Yd 0 O O O ab) ?_;refine Lf 5 O<|Lf 5 O<|Lf 5 O<|Lf 5 O<|Lf 5 O ?_;refine c' [_,_,_,_,_] _ Y O aF O O _ _ _ _ _ _ ([B]) (by simp) (λw c=>Oz B n H l aD A C d G u z x loc v y.m y.pl y.args r.s1.1 r.s1.2 k1 _ s w aa X N (λk2 _=>hN k2) hC (aS.2.2 L) W af c) ?_ ?_
  ·intro be bf;refine WE.bS<|Ep ?_;refine bE λE c=>?_;exact .inr ⟨be,O,D.trans<|iw<|qE bf,(by have h:=c; have h:=Wt 3 h; exact h)⟩
  intro be ⟨bf,ca⟩;refine Ln<|Eb<|Et<|ae<|ag O<|ad<|am ?_;refine R1 O O λE c=>?_;exact .inl ⟨(false,be.2,loc,v),O,⟨D.trans<|fK<|bL bf,ca,O⟩,Wt 5 c⟩
 have aX:¬y.op=3:=by simpa using bd
 refine ae<|I (bz O O)<|ag O<|ad ?_;refine Cc O (λbh=>?_)<|λbh=>?_
 ·have L:y.op=4:=by simpa using bh
  refine Cs<|Cs ?_;have aU:=al.1 (by omega);obtain ⟨f,K⟩:∃v,y.args[0]? = some v:=⟨_,c6 (by omega)⟩;obtain ⟨az,aA,R,M⟩:=W.b5 0 f K
  obtain ⟨k2,rfl⟩:∃k2,k1=k2+1:=by
    cases k1 with
    | zero=>exact M.elim
    | succ k2=>exact ⟨k2,rfl⟩
  obtain ⟨fa,fc,S,T⟩:=M;have Q:=hN k2;have U:=kC af K
  have D:kY (aO l aD) (cM (aO l aD) d) u y (⟨loc,v,s.w⟩:Fm)=(Rz.fr (⟨loc,v,s.w⟩:Fm)<|eO (aO l aD) (cM (aO l aD) d) u f loc s.w).bind λv q=>if v=0 then gq (aO l aD) (cM (aO l aD) d) u y.other q else gq (aO l aD) (cM (aO l aD) d) u y.body q:=by
    rw [vk,oo,ZX Z,ZX aI,ZX aX,ZZ L,kc K]
  refine Cr<|ac O<|I (Yf lD O)<|I (Yd 0 O O O ab)<|I (Yo (i:=0) hc O O R (by omega))<|I (dz 0 gS O O O<|S)<|Lf 5 O<|Lf 5 O ?_;refine Lf 5 O<|Lf 5 O<|Lf 5 O ?_;refine c' [_,_,_,_,_] _ Y O aF O O _ _ _ _ _ _ ([B]) (by simp) (λw c=>Q G u z x loc v f fa fc _ s w aa N T U c) ?_ ?_
  ·intro au av;refine Ep<|Ep<|WE.bS<|Ep ?_;refine bE λE c=>?_;exact .inr ⟨au,O,D.trans<|iw<|qE av,(by have h:=c; have h:=Wt 3 h; exact h)⟩
  intro au ⟨av,bC⟩;refine I (h9 O O)<|ad ?_;refine Cc O (λbi=>?_)<|λbi=>?_
  ·have aJ:¬au.1=0:=by simpa using bi
   refine ae<|ac O<|I (Yf v7 O)<|I (Yd 5 O O O ab) ?_;refine c' [_,_,_,_,_] _ Y O aF O O _ _ _ _ _ _ ([B]) (by simp) (λw c=>a3 G u z x loc v y.body r.s2.1 r.s2.2 _ au.2 w bC N ar (bv (by omega)) c) ?_ ?_
   ·intro bj bk;refine Ep<|Ep<|WE.bS<|Ep ?_;refine bE λE c=>?_;exact .inr ⟨bj,O,D.trans<|(fK<|bL av).trans<|(ZX aJ).trans bk,(by have h:=c; have h:=Wt 3 h; exact h)⟩
   intro bj ⟨bk,cb,cc⟩;refine ag O<|ad<|am<|Er<|cN<|Er ?_;refine R1 O O λE c=>?_;exact .inl ⟨bj,O,⟨D.trans<|(fK<|bL av).trans<|(ZX aJ).trans bk,cb,cc⟩,Wt 5 c⟩
  have aJ:au.1=0:=by simpa using bi
  refine bW<|ae<|ac O<|I (Yf uk O)<|I (Yd 5 O O O ab) ?_;refine c' [_,_,_,_,_] _ Y O aF O O _ _ _ _ _ _ ([B]) (by simp) (λw c=>a3 G u z x loc v y.other r.s3.1 r.s3.2 _ au.2 w bC N ay bM c) ?_ ?_
  ·intro bl bm;refine Ep<|WE.bS<|Ep ?_;refine bE λE c=>?_;exact .inr ⟨bl,O,D.trans<|(fK<|bL av).trans<|(ZZ aJ).trans bm,(by have h:=c; have h:=Wt 3 h; exact h)⟩
  intro bl ⟨bm,cd,ce⟩;refine ag O<|ad<|am<|cN<|Er ?_;refine R1 O O λE c=>?_;exact .inl ⟨bl,O,⟨D.trans<|(fK<|bL av).trans<|(ZZ aJ).trans bm,cd,ce⟩,Wt 5 c⟩
 have bn:¬y.op=4:=by simpa using bh
 refine ae<|I (bz O O)<|ag O<|ad ?_;refine Cc O (λbo=>?_)<|λbo=>?_
 ·have L:y.op=5:=by simpa using bo
  have aU:=al.1 (by omega);obtain ⟨f,K⟩:∃v,y.args[0]? = some v:=⟨_,c6 (by omega)⟩;obtain ⟨az,aA,R,M⟩:=W.b5 0 f K
  obtain ⟨k2,rfl⟩:∃k2,k1=k2+1:=by
    cases k1 with
    | zero=>exact M.elim
    | succ k2=>exact ⟨k2,rfl⟩
  obtain ⟨fa,fc,S,T⟩:=M;have Q:=hN k2;have U:=kC af K
  have D:kY (aO l aD) (cM (aO l aD) d) u y (⟨loc,v,s.w⟩:Fm)=kX (aO l aD) (λq=>Rz.fr q<|eO (aO l aD) (cM (aO l aD) d) u f q.loc q.w) (λq=>gq (aO l aD) (cM (aO l aD) d) u y.body q) ((aO l aD).aD+1) (⟨loc,v,s.w⟩:Fm):=by
    rw [vk,oo,ZX Z,ZX aI,ZX aX,ZX bn,ZZ L,kc K]
  refine Cb ?_;refine ey (ι:=eU×(List Int×Int)×Nat) (λt=>[]) [(0,_),(3,_)] (λt=>Ws w (List.flatMap aQ.ids<|(dK 180 3 A H (aO l aD) s)++(fO 281 3 G A u x loc v)) ((dK 180 3 A H (aO l aD) t.1)++(fO 281 3 G A u x t.2.1.1 t.2.1.2)++[aq bN (.cells (de y r).toArray 51 (0,0))]) [B]) (λt=>iN B (aO l aD) (c9 l) C t.1/\t.2.1.1.length=loc.length/\aD+1<=t.2.2+t.1.w.aM/\kX (aO l aD) (λq=>Rz.fr q<|eO (aO l aD) (cM (aO l aD) d) u f q.loc q.w) (λq=>gq (aO l aD) (cM (aO l aD) d) u y.body q) (aD+1) (⟨loc,v,s.w⟩:Fm)=kX (aO l aD) (λq=>Rz.fr q<|eO (aO l aD) (cM (aO l aD) d) u f q.loc q.w) (λq=>gq (aO l aD) (cM (aO l aD) d) u y.body q) t.2.2 (⟨t.2.1.1,t.2.1.2,t.1.w⟩:Fm)) (λt=>t.2.2) (s,(loc,v),aD+1) ⟨aa,O,ye _ _,O⟩ (λ_ h=>by exact (((((h.f 5 O).f 5 O).f 5 O).f 5 O).f 5 O:)) ?_;intro t ⟨bD,aK,cF,aL⟩;refine Cs<|Cs ?_;obtain ⟨aN,cg⟩:∃aN,t.2.2=aN+1:=⟨t.2.2-1,by have aC:t.1.w.aM<=aD:=bD.tk; omega⟩;rw [cg] at aL;refine Cr<|ac O<|I (Yf lD O)<|I (Yd 5 O O O ab)<|I (Yo (i:=0) hc O O R (by omega))<|I (dz 0 gS O O O<|S) ?_;refine c' (ι:=_) (κ:=_) [_,_,_,_,_] _ Y O aF O O (_) (_) (_) (_) (_) (_) ([B]) (by simp) (λw c=>Q G u z x t.2.1.1 t.2.1.2 f fa fc _ t.1 w bD N T (by rw [aK]; exact U) c) ?_ ?_
  ·intro ap aw;refine Ep<|Ep<|Ep<|WE.bS<|WE.bS<|Ep ?_;refine bE λE c=>?_;exact .inr ⟨ap,O,D.trans<|aL.trans<|XR<|qE aw,(by have h:=c; have h:=Wt 3 h; exact h)⟩
  intro ap ⟨aw,bF⟩;refine I (h9 O O)<|ad ?_;refine Cc O (λbp=>?_)<|λbp=>?_
  ·have aY:¬ap.1=0:=by simpa using bp
   have aW:=aL.trans (OE (bL aw) aY);refine bW<|Cb<|ae<|ac O<|I (bw O)<|I (Yf oJ O)<|I (Yd 3 O O O ab) ?_;refine c' [_,_,_] _ Y O aF O O _ _ _ _ _ _ ([B]) (by simp) (λw c=>Ox A H l aD C B ap.2 w bF X.aD c) ?_ ?_
   ·intro aZ ax;refine Ep<|WE.bS<|Ep<|WE.bS<|WE.bS<|Ep ?_;refine bE λE c=>?_;exact .inr ⟨aZ,O,D.trans<|aW.trans<|iw<|qE ax,(by have h:=c; have h:=Wt 3 h; exact h)⟩
   intro aZ ⟨ax,ch⟩;refine ad<|ae<|ac O<|I (Yf v7 O)<|I (Yd 5 O O O ab) ?_;refine c' (ι:=_) (κ:=_) [_,_,_,_,_] _ Y O aF O O (_) (_) (_) (_) (_) (_) ([B]) (by simp) (λw c=>a3 G u z x t.2.1.1 t.2.1.2 y.body r.s2.1 r.s2.2 _ aZ.2 w ch N ar (by rw [aK]; exact bv (by omega)) c) ?_ ?_
   ·intro ak aP;refine Ep<|WE.bS<|Ep<|WE.bS<|WE.bS<|Ep ?_;refine bE λE c=>?_;exact .inr ⟨ak,O,D.trans<|aW.trans<|(fK<|bL ax).trans<|iw aP,(by have h:=c; have h:=Wt 3 h; exact h)⟩
   intro ak ⟨aP,bG,bH⟩;refine ad ?_;refine Cc O (λbq=>?_)<|λbq=>?_
   ·refine ae<|ag O<|ad<|am<|cN<|Er<|cN<|cN<|Er ?_;refine R1 O O λE c=>?_;have ci:ak.1=true:=bq;exact .inl ⟨(true,ak.2),O,⟨D.trans<|aW.trans<|(fK<|bL ax).trans<|(fK aP).trans<|ZZ ci,bG,bH.trans aK⟩,Wt 5 c⟩
   refine Ck<|Eb ?_;exact c8 ((ak.2.1,ak.2.2,aN):eU×(List Int×Int)×Nat) (by show aN<_; omega) ⟨bG,bH.trans aK,by have aC:=XS ax; have cG:t.1.w.aM<=ap.2.w.aM:=Zy aw; have cH:aZ.2.w.aM<=ak.2.1.w.aM:=XT aP; show aD+1<=aN+ak.2.1.w.aM; omega,aL.trans<|(OE (bL aw) aY).trans<|(fK<|bL ax).trans<|(fK aP).trans<|ZX (by rw [bq]; simp)⟩<|λ_ h=>h
  have aY:ap.1=0:=by simpa using bp
  refine Ce<|Ex<|Ex<|dQ<|Eb<|Et<|ae<|ag O<|ad<|am ?_;refine R1 O O λE c=>?_;exact .inl ⟨(false,ap.2,t.2.1.1,t.2.1.2),O,⟨D.trans<|aL.trans<|XQ (bL aw) aY,bF,aK⟩,Wt 5 c⟩
 have bI:¬y.op=5:=by simpa using bo
 refine ae<|I (bz O O)<|ag O<|ad ?_;refine Cc O (λbr=>?_)<|λbr=>?_
 ·have L:y.op=6:=by simpa using br
  refine Cs ?_;have aU:=al.1 (by omega);obtain ⟨f,K⟩:∃v,y.args[0]? = some v:=⟨_,c6 (by omega)⟩;obtain ⟨az,aA,R,M⟩:=W.b5 0 f K
  obtain ⟨k2,rfl⟩:∃k2,k1=k2+1:=by
    cases k1 with
    | zero=>exact M.elim
    | succ k2=>exact ⟨k2,rfl⟩
  obtain ⟨fa,fc,S,T⟩:=M;have Q:=hN k2;have U:=kC af K
  have D:kY (aO l aD) (cM (aO l aD) d) u y (⟨loc,v,s.w⟩:Fm)=(Rz.fr (⟨loc,v,s.w⟩:Fm)<|eO (aO l aD) (cM (aO l aD) d) u f loc s.w).bind λv q=>.ok true { q with val:=v }:=by
    rw [vk,oo,ZX Z,ZX aI,ZX aX,ZX bn,ZX bI,ZZ L,kc K]
  refine Cr<|ac O<|ac O<|I (Yf lD O)<|I (Yd 0 O O O ab)<|I (Yo (i:=0) hc O O R (by omega))<|I (dz 0 gS O O O<|S)<|Lf 5 O ?_;refine Lf 5 O<|Lf 5 O<|Lf 5 O<|Lf 5 O ?_;refine c' [_,_,_,_,_] _ Y O aF O O _ _ _ _ _ _ ([B]) (by simp) (λw c=>Q G u z x loc v f fa fc _ s w aa N T U c) ?_ ?_
  ·intro a0 bs;refine Ep<|WE.bS<|Ep ?_;refine bE λE c=>?_;exact .inr ⟨a0,O,D.trans<|iw<|qE bs,(by have h:=c; have h:=Wt 3 h; exact h)⟩
  intro a0 ⟨bs,cj⟩;refine I (bw O)<|I (Yf OF O)<|aT 3 Y O O O dL O O O<|ad<|ae<|ag O<|ad<|am<|cN<|Er ?_;refine R1 O O λE c=>?_;exact .inl ⟨(true,a0.2,loc,a0.1),O,⟨D.trans<|fK<|bL bs,cj,O⟩,Wt 5 c⟩
 have ck:¬y.op=6:=by simpa using br
 refine ae<|I (bz O O)<|ag O<|ad ?_;refine Cc O (λbt=>?_)<|λbt=>?_
 ·have L:y.op=7:=by simpa using bt
  refine Cs ?_;have aU:=al.1 (by omega);obtain ⟨f,K⟩:∃v,y.args[0]? = some v:=⟨_,c6 (by omega)⟩;obtain ⟨az,aA,R,M⟩:=W.b5 0 f K
  obtain ⟨k2,rfl⟩:∃k2,k1=k2+1:=by
    cases k1 with
    | zero=>exact M.elim
    | succ k2=>exact ⟨k2,rfl⟩
  obtain ⟨fa,fc,S,T⟩:=M;have Q:=hN k2;have U:=kC af K
  have D:kY (aO l aD) (cM (aO l aD) d) u y (⟨loc,v,s.w⟩:Fm)=(Rz.fr (⟨loc,v,s.w⟩:Fm)<|eO (aO l aD) (cM (aO l aD) d) u f loc s.w).bind λv q=>(Rz.fr q<|yW v q.w).bind λ_ q=>.ok false q:=by
    rw [vk,oo,ZX Z,ZX aI,ZX aX,ZX bn,ZX bI,ZX ck,ZZ L,kc K]
  refine Cr<|ac O<|I (Yf lD O)<|I (Yd 0 O O O ab)<|I (Yo (i:=0) hc O O R (by omega))<|I (dz 0 gS O O O<|S)<|Lf 5 O<|Lf 5 O ?_;refine Lf 5 O<|Lf 5 O<|Lf 5 O ?_;refine c' [_,_,_,_,_] _ Y O aF O O _ _ _ _ _ _ ([B]) (by simp) (λw c=>Q G u z x loc v f fa fc _ s w aa N T U c) ?_ ?_
  ·intro P a1;refine Ep<|WE.bS<|Ep ?_;refine bE λE c=>?_;exact .inr ⟨P,O,D.trans<|iw<|qE a1,(by have h:=c; have h:=Wt 3 h; exact h)⟩
  intro P ⟨a1,aR⟩;refine ag O<|ad<|ae<|ac O<|I (bw O)<|I (Yf oJ O)<|I (Yd 3 O O O ab)<|I (bw O)<|I (Yf dU O) ?_;refine I (Yf sM O)<|I (Yd 0 O O O ab)<|I (Yn e3 O)<|I (bz O O) ?_
  refine c' (ι:=Unit) (κ:=Unit) [] _ Y O aF O O (λ_=>.tuple #[]) (λ_=>[]) (λ_=>(((P.2.w.out.length:Nat):Int)==200)=false) (λ_=>my 182 5) (λ_=>[]) (λ_=>(((P.2.w.out.length:Nat):Int)==200)=true) ([]) (by simp) (λw c=>(An _ 5 w).mono λe E h=>by
      rcases h with ⟨_,bu,ar,ay⟩ | ⟨_,bu,ar,ay⟩
      · exact .inl ⟨(),bu,ar,c.ext ay⟩
      · exact .inr ⟨(),bu,ar,c.ext ay⟩) ?_ ?_
  ·intro _ a2;refine Ep<|WE.bS<|Ep ?_;refine bE λE c=>?_;exact .inr ⟨(5,P.2),O,D.trans<|(fK<|bL a1).trans<|iw<|qE<|ZZ (show P.2.w.out.length=200 from by have h:=a2; simp at h; omega),(by have h:=c; have h:=Wt 3 h; exact h)⟩
  intro _ a2;refine ad ?_
  have cm:¬P.2.w.out.length=200:=by intro h; rw [h] at a2; simp at a2
  have cJ:=aR.out;refine CU (λ_=>true) [1] [18] (.q false 0<|.q false 1<|.q false 2<|.q true 3<|.q false 4<|.q false 5<|.q false 6<|.q true 7<|.q false 8<|.q false 9<|.q false 10<|.q true 11<|.q false 12<|.e 13 (.e 14 (.q false 15<|.q false 16<|.q false 17 .nil) .stop) .stop) mixed (by kernel_rfl) (λ_ _ _ d _ _ h=>by cases d<;>exact h) ?_;refine U0 O (Wp 1) (Ym O)<|U0 O (Wp 1) (bw O)<|U0 O (Wp 1) (Yf oJ O)<|U0 O (Wp 1) (Yd 2 O O O ab)<|U0 O (Wp 1) (Ym O)<|U0 O (Wp 1) (bw O)<|U0 O (Wp 1) (Yf oJ O)<|U0 O (Wp 1) (Yd 2 O O O ab) ?_;refine U0 O (Wp 1) (bw O)<|U0 O (Wp 1) (Yf dU O)<|U0 O (Wp 1) (Yf sM O)<|U0 O (Wp 1) (Yd 0 O O O ab)<|U0 O (Wp 1) (Ym O) ?_;refine Ue O (Wp 1) ?_ WU.stop;refine Lb Y O gm O O O O λcK=>?_;refine Ln<|Eu ?_;refine Ue O (λ_ h=>(Wo 1 (Wd 1 h):)) ?_ WU.stop;refine LA (P.1) 2 0 Y O gm O O O O O O (by omega) (by omega) λcn co=>?_;refine Ln<|Eu<|U0 O (λ_ h=>(Wo 1 (Wd 1 h):)) (bw O)<|U0 O (λ_ h=>(Wo 1 (Wd 1 h):)) (Yf dU O)<|U0 O (λ_ h=>(Wo 1 (Wd 1 h):)) (Yf sM O) ?_;refine WU.nil (λ_ h=>(Wo 1 (Wd 1 h):)) ?_;refine WS.e O ?_;refine aT 1 Y O O O jW O O O<|Ln<|Es ?_;refine WS.nil ?_;refine Eb<|Et<|ae<|ag O<|ad<|am ?_;refine R1 O O λE c=>?_;exact .inl ⟨(false,⟨{ P.2.w with out:=P.2.w.out++[P.1] },P.2.i,(cn,co),P.2.d⟩,loc,v),O,⟨D.trans<|(fK<|bL a1).trans<|fK<|bL<|ZX cm,⟨aR.bg,by show (_++[_]).length<=200; rw [jE,yg]; omega,aR.tk,aR.aap,aR.cl⟩,O⟩,(by have h:=c; have h:=h.aj 5 O; have h:=h.aj 5 O; have h:=h.aj 5 O; have h:=h.aj 5 O; have h:=h.aj 5 O; exact Wt 5 h)⟩
 exfalso
 have cO:¬y.op=7:=by simpa using bt
 omega
section
variable {P:Env} {d u:Nat} {loc:List Int} {body:List c_} {w w1:Wm} {x:Unit}
def XX (h:ky P w = .ov aH w1):cM P (d+1) u loc body w = .ov aH w1:=by unfold cM; rw [iw h]
def XY (h:ky P w = .ok x w1) (a:w1.calls=24):cM P (d+1) u loc body w = .ov 4 w1:=by unfold cM; rw [fK h]; exact ZZ a
def XZ {a:Wm} (h:ky P w = .ok x w1) (b:¬w1.calls=24) (c:gq P (cM P d) u body ⟨loc,0,{ w1 with calls:=w1.calls+1 }⟩ = .ov aH a):cM P (d+1) u loc body w = .ov aH a:=by
 unfold cM; rw [fK h]; refine (ZX b).trans ?_; rw [c]
def X0 {f:Fm} {t:Bool} (h:ky P w = .ok x w1) (a:¬w1.calls=24) (b:gq P (cM P d) u body ⟨loc,0,{ w1 with calls:=w1.calls+1 }⟩ = .ok t f):cM P (d+1) u loc body w = .ok f.val { f.w with calls:=f.w.calls-1 }:=by
 unfold cM; rw [fK h]; refine (ZX a).trans ?_; rw [b]
end
def j8:au prog 180 5=some 5:=ab
def X1:gX prog 281=some [(0,1),(1,1),(2,1),(3,1)]:=ab
def X2:zeroOf prog 281=some (.agg #[.pointer none,.int .i64 0,.slice none 0 0,.int .i64 0]):=ab
def X3 (f:View) (n:Nat) (g:KW) (l:List b8) (aD b C d:Nat) (i u:Nat) (z:b8) (x:SP) (loc:List Int) (v:Int) (body:List c_) (a:Option Addr) (c k1 k q:Nat) (s:eU) (w:World) (S:iN f (aO l aD) (c9 l) C s) (T:ry f n g l aD) (U:l[u]? = some z) (hC:we f n g l aD b C d) (E:Sl (gG k1 k) 7 f a c body) (V:a9 (aE z::fd l z) loc.length body q=true) (j:Ws w (List.flatMap aQ.ids<|(dK 180 3 b g (aO l aD) s)++(fO 281 3 i b u x loc v)) ((dK 180 3 b g (aO l aD) s)++(fO 281 3 i b u x loc v)) [f] w) :
   Calls prog 164 #[.pointer (some ⟨i,0,none⟩),.slice a body.length c] w λe m=>(∃r:Bool×eU×List Int×Int,e = .returned (.bool r.1)/\(gq (aO l aD) (cM (aO l aD) d) u body (⟨loc,v,s.w⟩:Fm) = .ok r.1 ⟨r.2.2.1,r.2.2.2,r.2.1.w⟩/\iN f (aO l aD) (c9 l) C r.2.1/\r.2.2.1.length=loc.length)/\Ws w (List.flatMap aQ.ids<|(dK 180 3 b g (aO l aD) s)++(fO 281 3 i b u x loc v)) ((dK 180 3 b g (aO l aD) r.2.1)++(fO 281 3 i b u x r.2.2.1 r.2.2.2)) [f] m)\/(∃r:Int×eU,e = .panicked (my 182 r.1)/\gq (aO l aD) (cM (aO l aD) d) u body (⟨loc,v,s.w⟩:Fm) = .ov r.1 r.2.w/\Ws w (List.flatMap aQ.ids<|(dK 180 3 b g (aO l aD) s)++(fO 281 3 i b u x loc v)) (dK 180 3 b g (aO l aD) r.2) [f] m):=by
 induction k using Nat.strongRecOn generalizing i u z x loc v body a c q s w
 rename_i k W;have X:∀k2,k2<k->OD f n g l aD b C d k1 k2:=λk2 h i u z x loc v y a c q s w F G H Z ab=>W k2 h i u z x loc v y a c q s w F G H Z ab;have an:=E.cap;have ao:=E.max;refine enter func164 O 17 O O ?_;refine CE j<|ae<|ag O<|ad<|Cs<|ae<|ac O<|I (Yn p8 O)<|ac O<|ad<|Cb ?_;refine ey (ι:=Nat×eU×List Int×Int) (λt=>[(9,.int .i64 (t.1:Int))]) [(0,_),(7,_),(8,_)] (λt=>Ws w (List.flatMap aQ.ids<|(dK 180 3 b g (aO l aD) s)++(fO 281 3 i b u x loc v)) ((dK 180 3 b g (aO l aD) t.2.1)++(fO 281 3 i b u x t.2.2.1 t.2.2.2)) [f]) (λt=>t.1<=body.length/\(iN f (aO l aD) (c9 l) C t.2.1)/\t.2.2.1.length=loc.length/\gq (aO l aD) (cM (aO l aD) d) u body (⟨loc,v,s.w⟩:Fm)=gq (aO l aD) (cM (aO l aD) d) u (body.drop t.1) (⟨t.2.2.1,t.2.2.2,t.2.1.w⟩:Fm)) (λt=>body.length-t.1) (0,s,loc,v) ⟨di _,S,O,O⟩ ay ?_;intro t ⟨ap,L,A,B⟩;refine ae<|I (cI O O)<|ad<|Cs ?_;refine Cc O (λJ=>?_)<|λJ=>?_
 ·have M:t.1<body.length:=by simpa using J
  obtain ⟨y,o⟩:=cR M;obtain ⟨aq,ar,af,N⟩:=E.b5 t.1 y o
  obtain ⟨k2,rfl⟩:∃k2,k=k2+1:=by
    cases k with
    | zero=>exact N.elim
    | succ k2=>exact ⟨k2,rfl⟩
  obtain ⟨P,ah,F,G,H⟩:=N;have aj:=Rv V o;refine bW<|Cs<|Cb<|ae<|I (Yo p8 O O af M)<|I (dz 0 ul O O O<|ah) ?_;refine Al Y O xO λau=>?_;refine aT 0 Y O O O z5 O O O<|ad<|Cs<|aao 0 (.cells (de y P).toArray 51 (0,0)) O O<|Cr<|ac O<|I (db 0 O O ul O)<|Lf 5 O<|Lf 5 O ?_;refine Lf 5 O<|Lf 5 O<|Lf 5 O ?_;refine c' (ι:=_) (κ:=_) [_,_,_,_,_] _ Y O aF O O (_) (_) (_) (_) (_) (_) ([f]) ai (λw j=>XW f n g l aD b C d i u z x t.2.2.1 t.2.2.2 y P k1 k2 _ t.2.1 w L T U hC (X k2 aa) F G H (by rw [A]; exact aj) j) ?_ ?_
  ·intro p D;refine Ep<|WE.bS<|Ep<|Ep<|WE.bS<|Ep ?_;refine bE λm j=>?_;exact .inr ⟨p,O,B.trans<|(HK _ o).trans<|iw D,(by have h:=j; have h:=Wt 3 h; exact h)⟩
  intro p ⟨D,Q,R⟩;refine ad ?_;refine Cc O (λK=>?_)<|λK=>?_
  ·refine ae<|ag O<|ad<|am<|cN<|Er<|Er<|cN<|Er ?_;refine R1 O O λm j=>?_;have ak:p.1=true:=K;exact .inl ⟨(true,p.2),O,⟨B.trans<|(HK _ o).trans<|(fK D).trans<|ZZ ak,Q,R.trans A⟩,Wt 5 j⟩
  refine Ck<|Eb<|Et<|Cr<|I (Yi O O O aa)<|ac O<|Ln ?_;exact c8 ((t.1+1,p.2):Nat×eU×List Int×Int) (by show _-(t.1+1)<_; omega) ⟨by show t.1+1<=_; omega,Q,R.trans A,B.trans<|(HK _ o).trans<|(fK D).trans<|ZX (by rw [K]; simp)⟩<|λ_ h=>(Wt 5 h:)
 have al:body.length<=t.1:=by simp at J; omega
 refine Ce<|Ex<|Ex<|dQ<|Et<|ae<|ag O<|ad<|am ?_;refine R1 O O λm j=>?_;exact .inl ⟨(false,t.2),O,⟨B.trans<|XV _ al,L,A⟩,j⟩
def X4 (j:View) (n:Nat) (k:KW) (l:List b8) (aD m C d:Nat) (u:Nat) (z:b8) (x:SP) (loc:List Int) (body:List c_) (a:Option Addr) (c k1 k2:Nat) (s:eU) (w:World) (G:ry j n k l aD) (T:C<=24) (hC:C+1<=24->we j n k l aD m (C+1) d) (J:iN j (aO l aD) (c9 l) C s) (K:l[u]? = some z) (L:Sl (gG k1 k2) 7 j a c body) (M:gO (aE z::fd l z) loc.length body 1=true) (f:Ws w (List.flatMap aQ.ids<|(dK 180 3 m k (aO l aD) s)++[cC 3 1 g5 x.1 x.2 loc]) ((dK 180 3 m k (aO l aD) s)++[cC 3 1 g5 x.1 x.2 loc]) [j] w) :
   Calls prog 96 #[.pointer (some ⟨m,0,none⟩),.int .i64 (u:Int),.slice x.1 loc.length x.2,.slice a body.length c] w λe p=>(∃r:Int×eU,e = .returned (.int .i64 r.1)/\(cM (aO l aD) (d+1) u loc body s.w = .ok r.1 r.2.w/\iN j (aO l aD) (c9 l) C r.2)/\Ws w (List.flatMap aQ.ids<|(dK 180 3 m k (aO l aD) s)++[cC 3 1 g5 x.1 x.2 loc]) (dK 180 3 m k (aO l aD) r.2) [j] p)\/(∃r:Int×eU,e = .panicked (my 182 r.1)/\cM (aO l aD) (d+1) u loc body s.w = .ov r.1 r.2.w/\Ws w (List.flatMap aQ.ids<|(dK 180 3 m k (aO l aD) s)++[cC 3 1 g5 x.1 x.2 loc]) (dK 180 3 m k (aO l aD) r.2) [j] p):=by
 refine enter func96 O 44 O O ?_;refine CE f<|ae<|ag O<|ad<|ae<|ac O ?_;refine c' [_,_,_] _ Y O aF O O _ _ _ _ _ _ ([j]) ai (λw f=>Ox m k l aD C j s w J G.aD f) ?_ ?_
 ·intro b t;refine Ep ?_;refine bE λp f=>?_;exact .inr ⟨b,O,XX t,(by have h:=f; have h:=Wt 3 h; exact h)⟩
 intro b ⟨t,v⟩;refine ad<|Cs ?_;have N:=v.cl;have U:ky (aO l aD) s.w = .ok b.1 b.2.w:=t;refine Cr<|ac O<|I (bw O)<|I (Yf j8 O)<|I (Yd 0 O O O ab)<|I (bz O O) ?_
 refine c' (ι:=Unit) (κ:=Unit) [] _ Y O aF O O (λ_=>.tuple #[]) (λ_=>[]) (λ_=>(((b.2.w.calls:Nat):Int)==24)=false) (λ_=>my 182 4) (λ_=>[]) (λ_=>(((b.2.w.calls:Nat):Int)==24)=true) ([]) ai (λw f=>(An _ 4 w).mono λe p h=>by
     rcases h with ⟨_,B,D,E⟩ | ⟨_,B,D,E⟩
     · exact .inl ⟨(),B,D,f.ext E⟩
     · exact .inr ⟨(),B,D,f.ext E⟩) ?_ ?_
 ·intro _ A;refine Ep ?_;refine bE λp f=>?_;exact .inr ⟨(4,b.2),O,XY t (show b.2.w.calls=24 from by have h:=A; simp at h; omega),(by have h:=f; have h:=Wt 3 h; exact h)⟩
 intro _ A;refine ad<|Cs ?_
 have H:¬b.2.w.calls=24:=by intro h; rw [h] at A; simp at A
 have P:iN j (aO l aD) (c9 l) (C+1) (⟨{ b.2.w with calls:=b.2.w.calls+1 },b.2.i,b.2.o,b.2.d⟩:eU):=⟨v.bg,v.out,v.tk,v.aap,by show b.2.w.calls+1=C+1; rw [N]⟩;refine Cr<|ac O<|I (bw O)<|I (Yf j8 O)<|I (Yd 0 O O O ab)<|I (Yi O O O aa)<|I (bw O)<|I (Yf j8 O) ?_;refine aT 0 Y O O O dL O O O<|ad<|Cs<|aao 0 (lX 180 k (aO l aD) (⟨{ b.2.w with calls:=b.2.w.calls+1 },b.2.i,b.2.o,b.2.d⟩:eU)) O O<|Cr<|ac O<|ac O<|ac O<|I (Yb X2 X1 O O) ?_;refine WL.box Y O O λQ=>?_;obtain ⟨R,S⟩:∃q,q=Q:=⟨_,rfl⟩;subst S;refine dk 0 (tV 281 m u x loc.length 0) O O<|ag O<|ad<|ae<|ac O<|ac O<|Lf 4 O<|Lf 1 O<|Lf 4 O ?_;refine Lf 4 O<|Lf 4 O ?_;refine c' [_,_,_,_,_] _ Y O aF O O _ _ _ _ _ _ ([j]) ai (λw f=>X3 j n k l aD m (C+1) d R u z x loc 0 body a c k1 k2 1 (⟨{ b.2.w with calls:=b.2.w.calls+1 },b.2.i,b.2.o,b.2.d⟩:eU) w P G K (hC aa) L (g1 M) f) ?_ ?_
 ·intro g F;refine Ep ?_;refine bE λp f=>?_;exact .inr ⟨g,O,XZ t H F,(by have h:=f; exact h)⟩
 intro g ⟨F,y,V⟩;refine ad<|Cs ?_;have W:=y.cl;refine Cr<|ac O<|I (bw O)<|I (Yf j8 O)<|I (Yd 0 O O O ab)<|I (py (((g.2.1.w.calls-1:Nat)):Int) O O aa aa)<|I (bw O)<|I (Yf j8 O) ?_;refine aT 0 Y O O O dL O O O<|ad<|Cs<|aao 0 (lX 180 k (aO l aD) (⟨{ g.2.1.w with calls:=g.2.1.w.calls-1 },g.2.1.i,g.2.1.o,g.2.1.d⟩:eU)) O O<|Cr<|ac O<|I (bw O)<|I (Yf OF O)<|I (Yd 3 O O O ab) ?_;refine ag O<|ad<|am ?_;refine R1 O O λp f=>?_;exact .inl ⟨(g.2.2.2,(⟨{ g.2.1.w with calls:=g.2.1.w.calls-1 },g.2.1.i,g.2.1.o,g.2.1.d⟩:eU)),O,⟨X0 t H F,⟨y.bg,y.out,y.tk,y.aap,by show g.2.1.w.calls-1=C; omega⟩⟩,Wt 3 f⟩
def OG (b:View) (n:Nat) (e:KW) (l:List b8) (aD f:Nat) (g:ry b n e l aD):∀d C,C+d=25->C<=24->we b n e l aD f C d
 | 0,C,i,j=>absurd i aa
 | d+1,C,i,j=>λu z x loc body a c k1 k2 s w k m o p q=>X4 b n e l aD f C d u z x loc body a c k1 k2 s w g j (λh=>OG b n e l aD f g d (C+1) aa h) k m o p q
def OH:aJ prog 182=some 1:=ab
def X5:au prog 182 0=some 0:=ab
def X6 (f:View) (a:Option Addr) (c:Nat) (l:List Int) (w:World) (k:Le f w) (g:Sl hy 1 f a c l) (q:l.length<=1048576) :
   Calls prog 82 #[.slice a l.length c] w λe i=>∃r:SP,e = .returned (.slice r.1 l.length r.2)/\Ext w i/\Sl hy 1 (nv w i) r.1 r.2 l:=by
 have s:=g.cap;have t:=g.max;refine enter func82 O 8 O O ?_;refine CE (Vs:=[f]) (Ws.init (by simp [k]))<|ae<|ag O<|ad<|Cs<|ae<|ac O<|I (pq e3 O)<|ad ?_;refine Cc O (λj=>?_)<|λj=>?_
 ·have m:l=[]:=by
    cases l with
    | nil=>rfl
    | cons x r=>obtain ⟨b,o,h,_⟩:=g.b5 0 x rfl; rw [h] at j; cases j
  refine ae<|ag O<|ad<|am<|Er ?_;refine R1 O O λi d=>?_;subst m;exact ⟨(none,0),O,d.fr,Sl.nil⟩
 refine bW<|ae ?_;refine WL.A4 Y O gm O O O λu=>?_;refine WL.yv (size:=1) 0 O (cQ 0) (di _) O ?_;refine WL.yz 0 ([]:List Int).length (([]:List Int).flatMap g5) O O O ?_;refine ac O ?_;refine WL.tu (ys:=l) (xs:=[]) 0 (λ_=>f) Y O gm O O O (λw d=>⟨d.vs f ai,g⟩) dN kb Q3 (by simp; omega) (by simp; omega) λn p=>?_;refine ag O<|ad<|am ?_;refine R1 O O λi d=>?_;exact ⟨(n,p),O,d.fr,d.hW 0 O kb dN⟩
def X7 (f g a:Nat) (b:Value) (w:World) (c:Ws w (List.flatMap aQ.ids [aq a (.cells #[b] 30 (0,0))]) [aq a (.cells #[b] 30 (0,0))] [] w) :
   CallsD prog 95 #[.pointer (some ⟨f,0,none⟩),.pointer (some ⟨g,0,none⟩),.pointer (some ⟨a,0,none⟩)] (.returning) w λe h d=>h = .returning/\(e = .returned (.tuple #[])/\Ws w (List.flatMap aQ.ids [aq a (.cells #[b] 30 (0,0))]) [aq a (.cells #[b] 30 (0,0))] [] d):=by
 refine ix func95 O 26 O O O O O (λ_=>rfl) (.inl ⟨O,O,O⟩) ?_;refine LW (W':=Ws w (List.flatMap aQ.ids [aq a (.cells #[b] 30 (0,0))]) [aq a (.cells #[b] 30 (0,0))] []) (λ_ e=>by subst e; exact c)<|ag O<|ad<|ae<|ac O<|I (J0 underlying182 Dx O)<|ac O<|I (Yx O O)<|I (Yx O O) ?_;refine Al Y O Dx λi=>?_;refine aT 0 Y O O O OH O O O<|ag O<|ad<|ae<|ac O<|ad ?_;refine WC.uQ O ?_;refine ae<|ac O<|I (Ez C0 O)<|ad ?_;refine WC.uQ O ?_;refine Ck ?_;refine E0 O λd c=>?_;exact ⟨O,Wd 1 c⟩
def X8 (b c f a:Nat) (g:KW) (P:Env) (s:eU) (x:Int) (v0 v1 v2 h k:Value) (w:World) (l:Ws w (List.flatMap aQ.ids [aq b (.cells #[.pointer (some ⟨a,0,none⟩)] 177 (0,0)),aq c (.cells #[v0,v1,v2,h] 64 (0,0)),aq f (.cells #[k] 30 (0,0)),aq a (lX 180 g P s)]) [aq b (.cells #[.pointer (some ⟨a,0,none⟩)] 177 (0,0)),aq c (.cells #[v0,v1,v2,h] 64 (0,0)),aq f (.cells #[k] 30 (0,0)),aq a (lX 180 g P s)] [] w) :
   CallsD prog 95 #[.pointer (some ⟨b,0,none⟩),.pointer (some ⟨c,0,none⟩),.pointer (some ⟨f,0,none⟩)] (.panicking<|my 182 x) w λe n m=>n = .panicking [⟨.iface 182<|.agg #[.int .i64 x],true,false⟩]/\(e = .returned (.tuple #[])/\Ws w (List.flatMap aQ.ids [aq b (.cells #[.pointer (some ⟨a,0,none⟩)] 177 (0,0)),aq c (.cells #[v0,v1,v2,h] 64 (0,0)),aq f (.cells #[k] 30 (0,0)),aq a (lX 180 g P s)]) [aq b (.cells #[.pointer (some ⟨a,0,none⟩)] 177 (0,0)),aq c (RJ 64 x s),aq f (.cells #[.int .i64 0] 30 (0,0)),aq a (mc (lX 180 g P s) 6 [.int .i64 x])] [] m):=by
 refine ix func95 O 26 O O O O O (λ_=>rfl) (.inr ⟨_,O,O,O⟩) ?_;refine LW (W':=Ws w (List.flatMap aQ.ids [aq b (.cells #[.pointer (some ⟨a,0,none⟩)] 177 (0,0)),aq c (.cells #[v0,v1,v2,h] 64 (0,0)),aq f (.cells #[k] 30 (0,0)),aq a (lX 180 g P s)]) [aq b (.cells #[.pointer (some ⟨a,0,none⟩)] 177 (0,0)),aq c (.cells #[v0,v1,v2,h] 64 (0,0)),aq f (.cells #[k] 30 (0,0)),aq a (lX 180 g P s)] []) (λ_ e=>by subst e; exact l)<|ag O<|ad<|ae<|ac O<|I (JZ underlying182 O)<|ac O<|I (Yx O O)<|I (Yx O O) ?_;refine Al Y O Dx λp=>?_;refine aT 0 Y O O O OH O O O<|ag O<|ad<|ae<|ac O<|ad ?_;refine WC.AP O ?_;refine ae<|I (Yd 1 O O O ab)<|I (Yf X5 O)<|I (Yd 0 O O (v:=.int .i64 x) O ab)<|I (bw O)<|I (Yf dU O)<|I (Yf zv O)<|aT 4 Y O O O dL O O O ?_;refine dk 4 (mc (lX 180 g P s) 6 [.int .i64 x]) O O<|ad<|Cr<|I (Yd 1 O O O ab)<|I (bw O)<|I (Yf dU O) ?_
 refine I (AW lx O (cs:=[.int .i64 x,.slice s.o.1 s.w.out.length s.o.2,.slice s.d.1 s.w.data.length s.d.2,.int .i64 (s.w.aM:Int)]) O (λw l j v hv=>by
   refine cell_of_heap (l.kn _<|aY (i:=4) O) ?_
   match j,hv with
   | 0,hv=>exact hv
   | 1,hv=>exact hv
   | 2,hv=>exact hv
   | 3,hv=>exact hv)) ?_
 refine aT 2 Y O O O pg O O O<|aT 3 Y O O O l6 O O O<|Ln ?_;refine E0 O λm l=>?_;exact ⟨O,Wd 1 l⟩
end Go.Proofs.YtgeahfjicmlocaaGreatDoor
end
