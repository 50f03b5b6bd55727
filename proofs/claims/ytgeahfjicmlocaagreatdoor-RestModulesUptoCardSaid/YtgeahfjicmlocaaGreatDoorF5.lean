/- RestModules: what came, and was changed, changes nothing that was handed in, nor what comes next (proved in the second form, bulk at most 1048576). -/
import Derived.Test.YtgeahfjicmlocaaGreatDoorF4
set_option linter.unusedVariables false
set_option linter.unusedSimpArgs false
set_option linter.defProp false
section
namespace Go.Proofs.YtgeahfjicmlocaaGreatDoor
open Go.Bw Go.Proofs.Tryz
variable {aj bS:Tk} {dh:Bool}
def NH {o:Option de} (h:dB aj) (e:hQ dh aj=some (o,bS)):dB bS:=by
 cases o with
 | none=>obtain rfl:=Fe e; exact h
 | some d=>exact sp h (KH h.all e).1
variable {eF:de}
def U1 (h:dB aj) (e:hQ dh aj=some (some eF,bS)):bS.length<aj.length:=by
 have a:=(KH h.all e).1.2;rw [a];simp [y5];omega
variable {g8:eI}
def U2 (h:dB aj) (e:jZ dh aj=some (g8,bS)):dB bS:=sp h (yI h.all e).1
def FG (h:dB aj) (e:jZ dh aj=some (g8,bS)):bS.length<aj.length:=by
 have a:=(yI h.all e).1.2;rw [a];simp [Ff];omega
variable {bZ:Tx}
def nZ (h:dB aj) (e:gQ aj=some (bZ,bS)):bS.length<aj.length:=by
 have a:=(rl h.all e).1.2;rw [a];simp
def FH (a:dh=true->bQ [112,117,98] aj=some bS) (b:dh=false->bQ [112,117,98] aj=none/\aj=bS):lg aj=(dh,bS):=by
 unfold lg;rw [show xd=[112,117,98] from rfl]
 cases dh with
 | true=>rw [a rfl]; rfl
 | false=>obtain ⟨c,d⟩:=b rfl; rw [c,d]; rfl
def FI (h:dB aj) (a:dh=true->bQ [112,117,98] aj=some bS) (b:dh=false->bQ [112,117,98] aj=none/\aj=bS):dB bS/\bS.length<=aj.length:=by
 cases dh with
 | true=>exact ⟨iT h (a rfl),by have:=iS (a rfl); omega⟩
 | false=>obtain ⟨_,c⟩:=b rfl; subst c; exact ⟨h,eH _⟩
variable {ae:Nat}
def U3 (h:bQ [41] aj=some bS):jY (ae+1) dh aj=some ([],bS):=by rw [jY,h]
def U4 (h:bQ [41] aj=none) (a:gQ aj=some (bZ,bS)):jY (ae+1) true aj=(jY ae false bS).map λp=>(bZ::p.1,p.2):=by rw [jY,h]; simp [a]
def U5 (h:bQ [41] aj=none) (a:gQ aj=none):jY (ae+1) true aj=none:=by rw [jY,h]; simp [a]
variable {hr:Tk}
def U6 (h:bQ [41] aj=none) (a:bQ [44] aj=some bS) (b:gQ bS=some (bZ,hr)):jY (ae+1) false aj=(jY ae false hr).map λp=>(bZ::p.1,p.2):=by rw [jY,h]; simp [b,a]
def U7 (h:bQ [41] aj=none) (a:bQ [44] aj=none):jY (ae+1) false aj=none:=by rw [jY,h]; simp [a]
def U8 (h:bQ [41] aj=none) (a:bQ [44] aj=some bS) (b:gQ bS=none):jY (ae+1) false aj=none:=by rw [jY,h]; simp [b,a]
def isNil (l:List Tx):Bool:=match l with | []=>true | _=>false
def Md (l:List Tx) (x:Tx):isNil (l++[x])=false:=by cases l<;>rfl
variable {eG:List Tx}
def U9 (h:¬0<eG.length):isNil eG=true:=by cases eG with | nil=>rfl | cons _ _=>exact absurd au h
def U' (h:0<eG.length):isNil eG=false:=by cases eG with | nil=>simp at h | cons _ _=>rfl
structure vv where
 s1:Option Addr×Nat
 s2:Option Addr×Nat
 s3:Option Addr×Nat
abbrev PX:=eI×vv
def PX.cells (e:PX):List Value:=wi e.1 e.2.s1.1 e.2.s1.2 e.2.s2.1 e.2.s2.2 e.2.s3.1 e.2.s3.2
def PX.dk (e:PX):(PX.cells e).length=5:=rfl
def FJ (H:View) (b o:Nat) (e:PX):Prop:=cw H b o (PX.cells e)
structure vw (N:View) (x:eI) (p:vv):Prop where
 params:Sl rdStr 1 N p.s1.1 p.s1.2 x.params
 aH:Sl rdStr 1 N p.s2.1 p.s2.2 x.aH
 body:Sl (e5 7 6) 6 N p.s3.1 p.s3.2 x.body
variable {bc b_:View} {cj:Option Addr}
def n0 (h:Sl rdStr 1 bc cj ae eG) (hv:bK bc b_):Sl rdStr 1 b_ cj ae eG:=h.imp λb o y a=>s' hv b o y a
def tV {l:List de} (h:Sl s_ 4 bc cj ae l) (hv:bK bc b_):Sl s_ 4 b_ cj ae l:=h.imp λb o y a=>PH hv b o y a
variable {zi:vv}
def vw.mv (h:vw bc g8 zi) (hv:bK bc b_):vw b_ g8 zi:=⟨n0 h.params hv,n0 h.aH hv,su h.body hv⟩
def ry (J:View) (es:List PX):Prop:=∀e ∈ es,vw J e.1 e.2
def ry.nil (J:View):ry J []:=by intro e h; simp at h
variable {fW:View} {vp:List PX} {vx:PX}
def ry.snoc (h:ry bc vp) (b:bK bc fW) (c:bK b_ fW) (d:vw b_ vx.1 vx.2):ry fW (vp++[vx]):=by
 intro x a
 rcases fB.1 a with a | a
 · exact (h x a).mv b
 · rw [fH] at a
   subst a;exact d.mv c
def Me (h:Sl FJ 5 bc cj ae vp) (hv:bK bc fW) (f:bK b_ fW) (g:ry b_ vp):Sl (yq 7 6) 5 fW cj ae (vp.map (·.1)):=by
 refine ⟨by simpa using h.cap,h.max,h.spot,λi x c=>?_⟩;rw [gS] at c;obtain ⟨e,d,rfl⟩:=dX.1 c;obtain ⟨b,o,j,k⟩:=h.aq i e d;have a:=(g e (gu d)).mv f;exact ⟨b,o,j,e.2.s1.1,e.2.s1.2,e.2.s2.1,e.2.s2.2,e.2.s3.1,e.2.s3.2,cw.mono hv k,a.params,a.aH,a.body⟩
structure GN where
 ps:List Tx
 a:Option Addr
 c:Nat
 r:Option Addr×Nat
 q:Tk
structure GD where
 ds:List de
 a:Option Addr
 c:Nat
 ao:Bool
 r:Option Addr×Nat
 q:Tk
structure GM where
 ps:List PX
 a:Option Addr
 c:Nat
 J:View
 ao:Bool
 r:Option Addr×Nat
 q:Tk
def U_ (h:bQ [108,111,99,97,108] aj=none):l8 (ae+1) aj=some ([],aj):=by rw [l8,show rf=[108,111,99,97,108] from rfl,h]
variable {BW:Tk}
def Va (h:bQ [108,111,99,97,108] aj=some bS) (a:gQ bS=some (bZ,hr)) (b:bQ [59] hr=some BW):l8 (ae+1) aj=(l8 ae BW).map λp=>(bZ::p.1,p.2):=by rw [l8,show rf=[108,111,99,97,108] from rfl,h]; simp [a,b]
def Vb (h:bQ [108,111,99,97,108] aj=some bS) (a:gQ bS=none):l8 (ae+1) aj=none:=by rw [l8,show rf=[108,111,99,97,108] from rfl,h]; simp [a]
def Vc (h:bQ [108,111,99,97,108] aj=some bS) (a:gQ bS=some (bZ,hr)) (b:bQ [59] hr=none):l8 (ae+1) aj=none:=by rw [l8,show rf=[108,111,99,97,108] from rfl,h]; simp [a,b]
def Vd (h:bQ [117,115,101] aj=none):mG (ae+1) aj=some ([],aj):=by rw [mG,show si=[117,115,101] from rfl,h]
def Ve (h:bQ [117,115,101] aj=some bS) (a:gQ bS=some (bZ,hr)) (b:bQ [59] hr=some BW):mG (ae+1) aj=(mG ae BW).map λp=>(bZ::p.1,p.2):=by rw [mG,show si=[117,115,101] from rfl,h]; simp [a,b]
def Vf (h:bQ [117,115,101] aj=some bS) (a:gQ bS=none):mG (ae+1) aj=none:=by rw [mG,show si=[117,115,101] from rfl,h]; simp [a]
def NP (h:bQ [117,115,101] aj=some bS) (a:gQ bS=some (bZ,hr)) (b:bQ [59] hr=none):mG (ae+1) aj=none:=by rw [mG,show si=[117,115,101] from rfl,h]; simp [a,b]
def Vh (h:hQ dh aj=some (none,bS)):nR (ae+1) dh aj=some (([],dh),bS):=by rw [nR,h]; rfl
variable {BX:Bool}
def Vi (h:hQ dh aj=some (some eF,bS)) (a:lg bS=(BX,hr)):nR (ae+1) dh aj=(nR ae BX hr).map λp=>((eF::p.1.1,p.1.2),p.2):=by rw [nR,h]; simp only [cM]; rw [a]
def Vj (h:hQ dh aj=none):nR (ae+1) dh aj=none:=by rw [nR,h]; rfl
def Vk (h:bQ [112,114,111,99] aj=none):nS (ae+1) dh aj=some (([],dh),aj):=by rw [nS,show tC=[112,114,111,99] from rfl,h]
def NT (a:bQ [112,114,111,99] aj=some bS) (h:jZ dh bS=some (g8,hr)) (b:lg hr=(BX,BW)):nS (ae+1) dh aj=(nS ae BX BW).map λp=>((g8::p.1.1,p.1.2),p.2):=by rw [nS,show tC=[112,114,111,99] from rfl,a]; simp only; rw [h]; simp only [cM]; rw [b]
def Vm (a:bQ [112,114,111,99] aj=some bS) (h:jZ dh bS=none):nS (ae+1) dh aj=none:=by rw [nS,show tC=[112,114,111,99] from rfl,a]; simp only; rw [h]; rfl
def BY:hx prog 109=some [(0,1),(1,1),(2,1),(3,1)]:=aa
def Vn (d:Nat) (b:View) (r:Option Addr×Nat) (l:Tk) (ao:Bool) (w:World) (H:dB l) (Z:Sl dW 3 b r.1 r.2 l) (a:Ws w (List.flatMap ah.ids (bB d r l)) (bB d r l) [b] w) :
   Calls prog 210 #[.pointer (some ⟨d,0,none⟩),.bool ao] w λe w'=>(∃(o:Option de) (v:Option Addr×Nat) (q:Tk),e = .returned (.tuple #[.agg #[.int .i64 ((o).getD (⟨0,[],ao,0⟩:de)).kind,st ((o).getD (⟨0,[],ao,0⟩:de)).nm,.bool ((o).getD (⟨0,[],ao,0⟩:de)).ao,.int .i64 ((o).getD (⟨0,[],ao,0⟩:de)).n],.bool (o).isSome])/\hQ ao l=some (o,q)/\Sl dW 3 b v.1 v.2 q/\Ws w (List.flatMap ah.ids (bB d r l)) (bB d v q) [b] w')\/(∃(v:Option Addr×Nat) (q:Tk),e = .panicked g_/\hQ ao l=none/\Ws w (List.flatMap ah.ids (bB d r l)) (bB d v q) [b] w'):=by
 refine enter func210 O 50 O O ?_;refine CE a (ac ?_);refine Al Y O oP λbj=>?_;refine ai O (ad (ac (ab O (I (Yb oP BY O O) ?_))));refine Al Y O oP λbk=>?_;refine aT 0 Y O O O pA O O O (ad (Cs (Cb (ac (ab O (Lf 2 O ?_))))));refine WL.kw (ip d b r l [99,111,110,115,116] Z) ?_;intro ⟨bl,P,aa⟩ ⟨ae,af,Q⟩;refine ai O (ad ?_);refine Cc O (λJ=>?_) (λJ=>?_)
 ·have s:=ae J;have ag:=iT H s;refine ac (ab O ?_);refine WL.kx (qr d b P aa Q) ?_ ?_
  ·intro ⟨f,g⟩ c;refine Ep (WE.b' (Ep ?_));refine an λw' a=>?_;exact .inr ⟨f,g,O,by simp only [hQ,kM,kN,kO,s,c,cM,dN,eb,eu],(by have h:=a; have h:=Wt 1 h; exact h)⟩
  intro ⟨aj,ak,al⟩ ⟨x,am⟩;have ap:=qq ag x;refine I (Yf lM O) (aT 1 Y O O O dr O O O (I (Yf rq O) (aT 1 Y O O O xw O O O (ad (ac (ab O ?_))))));refine Lb Y O ei O O O O λbm=>?_;refine h1 (T:=9) (m:=1) 0 [[61]] O O (show 1<=1 by decide) bf λaq ar=>?_;refine WL.kx (iV d b ak al aq _ _ [[61]] ar am) ?_ ?_
  ·intro ⟨f,g⟩ c;rw [e7] at c;refine Ep (WE.b' (Ep ?_));refine an λw' a=>?_;exact .inr ⟨f,g,O,by simp only [hQ,kM,kN,kO,s,x,c,cM,dN,eb,eu],(by have h:=a; have h:=Wt 1 h; have h:=Ws.cK h (b9:=[b]) au; exact h)⟩
  intro ⟨av,aw⟩ ⟨y,ax⟩;have ay:=iU ap y;rw [e7] at y;refine ad (Cr (ab O ?_));refine WL.kx (FD d b av aw ax) ?_ ?_
  ·intro ⟨f,g⟩ c;refine WE.b' (Ep ?_);refine an λw' a=>?_;exact .inr ⟨f,g,O,by simp only [hQ,kM,kN,kO,s,x,y,c,cM,dN,eb,eu],(by have h:=a; have h:=Wt 1 h; have h:=Ws.cK h (b9:=[b]) au; exact h)⟩
  intro ⟨az,aA,aB⟩ ⟨K,aC⟩;have aD:=FC ay K;refine I (Yf mK O) (aT 1 Y O O O dr O O O (Ln (Eb (Et (ac (ab O ?_))))));refine Lb Y O ei O O O O λR=>?_;refine h1 (T:=9) (m:=1) 0 [[59]] O O (show 1<=1 by decide) bf λz A=>?_;refine WL.kx (iV d b aA aB z _ _ [[59]] A aC) ?_ ?_
  ·intro ⟨f,g⟩ c;rw [e7] at c;refine Ep ?_;refine an λw' a=>?_;exact .inr ⟨f,g,O,by simp only [hQ,kM,kN,kO,s,x,y,K,c,cM,dN,eb,eu],(by have h:=a; have h:=Wt 1 h; have h:=Ws.cK h (b9:=[b]) au; exact h)⟩
  intro ⟨B,C⟩ ⟨i,D⟩;have S:=iU aD i;rw [e7] at i;refine ad (ac (I (cI 1 O O mM O) (aT 2 Y O O O pA O O O (ai O (ad (aZ ?_))))));refine WE.fm (hX O (ej 2 O O mM O) (hV O)) λw' a=>?_;exact .inl ⟨some ⟨1,aj,ao,az⟩,B,C,O,by simp only [hQ,kM,kN,kO,s,x,y,K,i,cM,dN,eb,eu],D,Wv 2 (Wt 1 a)⟩
 obtain ⟨j,aE⟩:=af J;subst aE;refine ac (ab O ?_);refine WL.kw (ip d b P l [118,97,114] Q) ?_;intro ⟨bn,U,aF⟩ ⟨aG,aH,V⟩;refine ai O (ad ?_);refine Cc O (λL=>?_) (λL=>?_)
 ·have E:=aG L;have aI:=iT H E;refine Cr (ab O ?_);refine WL.kx (qr d b U aF V) ?_ ?_
  ·intro ⟨f,g⟩ c;refine WE.b' (Ep ?_);refine an λw' a=>?_;exact .inr ⟨f,g,O,by simp only [hQ,kM,kN,kO,j,E,c,cM,dN,eb,eu],(by have h:=a; have h:=Wt 1 h; exact h)⟩
  intro ⟨aJ,aK,aL⟩ ⟨M,aM⟩;have aN:=qq aI M;refine I (Yf lM O) (aT 1 Y O O O dr O O O (I (Yf rq O) (aT 1 Y O O O xw O O O (Ln (Eb (Et (ac (ab O ?_))))))));refine Lb Y O ei O O O O λR=>?_;refine h1 (T:=9) (m:=1) 0 [[59]] O O (show 1<=1 by decide) bf λz A=>?_;refine WL.kx (iV d b aK aL z _ _ [[59]] A aM) ?_ ?_
  ·intro ⟨f,g⟩ c;rw [e7] at c;refine Ep ?_;refine an λw' a=>?_;exact .inr ⟨f,g,O,by simp only [hQ,kM,kN,kO,j,E,M,c,cM,dN,eb,eu],(by have h:=a; have h:=Wt 1 h; have h:=Ws.cK h (b9:=[b]) au; exact h)⟩
  intro ⟨B,C⟩ ⟨i,D⟩;have S:=iU aN i;rw [e7] at i;refine ad (ac (I (cI 1 O O mM O) (aT 2 Y O O O pA O O O (ai O (ad (aZ ?_))))));refine WE.fm (hX O (ej 2 O O mM O) (hV O)) λw' a=>?_;exact .inl ⟨some ⟨2,aJ,ao,0⟩,B,C,O,by simp only [hQ,kM,kN,kO,j,E,M,i,cM,dN,eb,eu],D,Wv 1 (Wt 1 a)⟩
 obtain ⟨k,aO⟩:=aH L;subst aO;refine ac (ab O ?_);refine WL.kw (ip d b U l [97,114,114,97,121] V) ?_;intro ⟨bo,W,aP⟩ ⟨aQ,aR,X⟩;refine ai O (ad ?_);refine Cc O (λN=>?_) (λN=>?_)
 ·have p:=aQ N;have aS:=iT H p;refine ac (ab O ?_);refine WL.kx (qr d b W aP X) ?_ ?_
  ·intro ⟨f,g⟩ c;refine Ep (WE.b' (Ep ?_));refine an λw' a=>?_;exact .inr ⟨f,g,O,by simp only [hQ,kM,kN,kO,j,k,p,c,cM,dN,eb,eu],(by have h:=a; have h:=Wt 1 h; exact h)⟩
  intro ⟨aU,aV,aW⟩ ⟨t,aX⟩;have aY:=qq aS t;refine I (Yf lM O) (aT 1 Y O O O dr O O O (I (Yf rq O) (aT 1 Y O O O xw O O O (ad (ac (ab O ?_))))));refine Lb Y O ei O O O O λbp=>?_;refine h1 (T:=9) (m:=1) 0 [[91]] O O (show 1<=1 by decide) bf λa0 a1=>?_;refine WL.kx (iV d b aV aW a0 _ _ [[91]] a1 aX) ?_ ?_
  ·intro ⟨f,g⟩ c;rw [e7] at c;refine Ep (WE.b' (Ep ?_));refine an λw' a=>?_;exact .inr ⟨f,g,O,by simp only [hQ,kM,kN,kO,j,k,p,t,c,cM,dN,eb,eu],(by have h:=a; have h:=Wt 1 h; have h:=Ws.cK h (b9:=[b]) au; exact h)⟩
  intro ⟨a2,a3⟩ ⟨u,a4⟩;have a5:=iU aY u;rw [e7] at u;refine ad (ac (ab O ?_));refine WL.kx (FD d b a2 a3 a4) ?_ ?_
  ·intro ⟨f,g⟩ c;refine Ep (WE.b' (Ep ?_));refine an λw' a=>?_;exact .inr ⟨f,g,O,by simp only [hQ,kM,kN,kO,j,k,p,t,u,c,cM,dN,eb,eu],(by have h:=a; have h:=Wt 1 h; have h:=Ws.cK h (b9:=[b]) au; exact h)⟩
  intro ⟨a6,a7,a8⟩ ⟨F,a9⟩;have a':=FC a5 F;refine I (Yf mK O) (aT 1 Y O O O dr O O O (ad (Cr (ab O ?_))));refine Lb Y O ei O O O O λbq=>?_;refine h1 (T:=9) (m:=1) 0 [[93]] O O (show 1<=1 by decide) bf λa_ ba=>?_;refine WL.kx (iV d b a7 a8 a_ _ _ [[93]] ba a9) ?_ ?_
  ·intro ⟨f,g⟩ c;rw [e7] at c;refine WE.b' (Ep ?_);refine an λw' a=>?_;exact .inr ⟨f,g,O,by simp only [hQ,kM,kN,kO,j,k,p,t,u,F,c,cM,dN,eb,eu],(by have h:=a; have h:=Wt 1 h; have h:=Ws.cK h (b9:=[b]) au; exact h)⟩
  intro ⟨bb,bc⟩ ⟨G,bd⟩;have be:=iU a' G;rw [e7] at G;refine Ln (Eb (Et (ac (ab O ?_))));refine Lb Y O ei O O O O λR=>?_;refine h1 (T:=9) (m:=1) 0 [[59]] O O (show 1<=1 by decide) bf λz A=>?_;refine WL.kx (iV d b bb bc z _ _ [[59]] A bd) ?_ ?_
  ·intro ⟨f,g⟩ c;rw [e7] at c;refine Ep ?_;refine an λw' a=>?_;exact .inr ⟨f,g,O,by simp only [hQ,kM,kN,kO,j,k,p,t,u,F,G,c,cM,dN,eb,eu],(by have h:=a; have h:=Wt 1 h; have h:=Ws.cK h (b9:=[b]) au; exact h)⟩
  intro ⟨B,C⟩ ⟨i,D⟩;have S:=iU be i;rw [e7] at i;refine ad (ac (I (cI 1 O O mM O) (aT 2 Y O O O pA O O O (ai O (ad (aZ ?_))))));refine WE.fm (hX O (ej 2 O O mM O) (hV O)) λw' a=>?_;exact .inl ⟨some ⟨3,aU,ao,a6⟩,B,C,O,by simp only [hQ,kM,kN,kO,j,k,p,t,u,F,G,i,cM,dN,eb,eu],D,Wv 3 (Wt 1 a)⟩
 obtain ⟨bg,bh⟩:=aR N;subst bh;refine ac (I (cI 1 O O mM O) (aT 2 Y O O O pA O O O (ai O (ad (aZ (cf (Er ?_)))))));refine WE.fm (hX O (ej 2 O O mM O) (hV O)) λw' a=>?_;exact .inl ⟨none,W,l,O,by simp only [hQ,kM,kN,kO,j,k,bg,cM,dN,eb,eu],X,Wt 1 a⟩
def Vo (a:Nat) (b:View) (r:Option Addr×Nat) (l:Tk) (ao:Bool) (j:dB l) (k:Sl dW 3 b r.1 r.2 l):vh prog 210 [.pointer (some ⟨a,0,none⟩),.bool ao] ((bB a r l)) [b] (ι:=(Option de)×(Option Addr×Nat)×Tk) (κ:=(Option Addr×Nat)×Tk) (λi=>.tuple #[.agg #[.int .i64 ((i.1).getD (⟨0,[],ao,0⟩:de)).kind,st ((i.1).getD (⟨0,[],ao,0⟩:de)).nm,.bool ((i.1).getD (⟨0,[],ao,0⟩:de)).ao,.int .i64 ((i.1).getD (⟨0,[],ao,0⟩:de)).n],.bool (i.1).isSome]) (λi=>bB a i.2.1 i.2.2) (λi=>hQ ao l=some (i.1,i.2.2)/\Sl dW 3 b i.2.1.1 i.2.1.2 i.2.2) (λ_=>g_) (λi=>bB a i.1 i.2) (λ_=>hQ ao l=none):=⟨aK,λw m=>(Vn a b r l ao w j k m).mono λe w' h=>by
   rcases h with ⟨t,c,q,d,f,g,o⟩ | ⟨c,q,d,f,g⟩
   · exact .inl ⟨(t,c,q),d,⟨f,g⟩,o⟩
   · exact .inr ⟨(c,q),d,f,g⟩⟩
def zn (nm:Tx) (ao:Bool) (a1:Option Addr) (n1 c1:Nat) (a2:Option Addr) (n2 c2:Nat) (a3:Option Addr) (n3 c3:Nat):List Value:=[st nm,.bool ao,.slice a1 n1 c1,.slice a2 n2 c2,.slice a3 n3 c3]
def Mh:hx prog 113=some [(0,1),(1,1),(2,1),(3,1),(4,1)]:=aa
def xy:dV prog 22=some 1:=aa
def Vp (j:Nat) (b:View) (r:Option Addr×Nat) (l:Tk) (ao:Bool) (w:World) (G:dB l) (aS:Sl dW 3 b r.1 r.2 l) (f:Ws w (List.flatMap ah.ids (bB j r l)) (bB j r l) [b] w) :
   Calls prog 211 #[.pointer (some ⟨j,0,none⟩),.bool ao] w λe w'=>(∃(p:eI) (s:vv) (E:Option Addr×Nat) (q:Tk),e = .returned (.agg #[st (p).nm,.bool (p).ao,.slice (s).s1.1 (p).params.length (s).s1.2,.slice (s).s2.1 (p).aH.length (s).s2.2,.slice (s).s3.1 (p).body.length (s).s3.2])/\jZ ao l=some (p,q)/\vw (nv w w') p s/\Sl dW 3 b E.1 E.2 q/\Ws w (List.flatMap ah.ids (bB j r l)) (bB j E q) [b] w')\/(∃(E:Option Addr×Nat) (q:Tk),e = .panicked g_/\jZ ao l=none/\Ws w (List.flatMap ah.ids (bB j r l)) (bB j E q) [b] w'):=by
 refine enter func211 O 46 O O ?_;refine CE f (ac ?_);refine Al Y O pB λaM=>?_;refine dn 0 (.cells (zn [] false none 0 0 none 0 0 none 0 0).toArray 113 (0,0)) O O (ad (ac (ab O (ab O (Lf 1 O ?_)))));refine WL.kx (qr j b r l aS) ?_ ?_
 ·intro ⟨u,y⟩ t;refine Ep ?_;refine an λw' f=>?_;exact .inr ⟨u,y,O,by simp only [jZ,t,eb],(by have h:=f; have h:=Wt 1 h; exact h)⟩
 intro ⟨ai,aU,aj⟩ ⟨C,aV⟩;have aW:=qq G C;refine I (Yb pB Mh O O) ?_;refine Al Y O pB λaN=>?_;refine aT 0 Y O O O dq O O O (LW (λ_ h=>h.g3 9 1) (LW (λ_ h=>h.g3 9 1) (ad (ac (ab O ?_)))));refine Lb Y O ei O O O O λbH=>?_;refine h1 (T:=9) (m:=1) 0 [[40]] O O (show 1<=1 by decide) bf λaX aY=>?_;refine Lf 3 O ?_;refine WL.kx (iV j b aU aj aX _ _ [[40]] aY aV) ?_ ?_
 ·intro ⟨u,y⟩ t;rw [e7] at t;refine Ep ?_;refine an λw' f=>?_;exact .inr ⟨u,y,O,by simp only [jZ,C,t,cM,eb],(by have h:=f; have h:=Wt 1 h; have h:=Ws.cK h (b9:=[b]) au; exact h)⟩
 intro ⟨a0,U⟩ ⟨D,a1⟩;have a2:=iU aW D;rw [e7] at D;refine ad (Cs (Cb ?_));refine e0 (ι:=GN) (λg=>[]) [(0,_),(4,_),(5,_)] (λg=>Ws w (List.flatMap ah.ids (bB j r l)) (bB j g.r g.q++[aE aN (.cells (zn ai ao g.a g.ps.length g.c none 0 0 none 0 0).toArray 113 (0,0)),cW 9 1 eE g.a g.c g.ps,(cW 9 1 eE none 0 ([]:List Tx)),aE aM (.cells (zn [] false none 0 0 none 0 0 none 0 0).toArray 113 (0,0))]) [b]) (λg=>(g.ps.length+g.q.length<=l.length/\dB g.q)/\Sl dW 3 b g.r.1 g.r.2 g.q/\∃n,g.q.length<n/\jY (U.length+1) true U=(jY n (isNil g.ps) g.q).map λp=>(g.ps++p.1,p.2)) (λg=>g.q.length) ⟨[],none,0,a0,U⟩ ⟨⟨by have:aj.length<l.length:=nZ G C; have:U.length+1=aj.length:=iS D; simp; omega,a2⟩,a1,U.length+1,au,by simp [isNil]⟩ (λ_ h=>by have h:=h.aJ 4 O; have h:=h.aJ 3 O; have h:=h.aJ 3 O; have h:=h.aJ 4 O; have h:=h.aJ 4 O; have h:=Ws.cK h (b9:=[b]) au; exact h) ?_;intro g ⟨⟨bI,P⟩,a3,o⟩;refine Cs (ac (ab O ?_));refine WL.kw (ip j b g.r g.q [41] a3) ?_;intro ⟨bJ,ak,V⟩ ⟨a4,a5,al⟩;refine I (eR O) (ad ?_);refine Cc O (λap=>?_) (λap=>?_)
 ·obtain ⟨W,a6⟩:=a5 (by simpa using ap);subst a6;obtain ⟨n,aq,o⟩:=o;obtain ⟨n,rfl⟩:∃k,n=k+1:=⟨n-1,Z⟩;refine am (Cb (Cs (ac (I (Yf kT O) (I (Yd 1 O O O aa) (I (Yn dT O) (I (ed O O) (ad ?_))))))));refine Cc O (λar=>?_) (λar=>?_)
  ·have av:0<g.ps.length:=by simpa using ar
   rw [U' av] at o;refine Cr (ab O ?_);refine Lb Y O ei O O O O λbK=>?_;refine h1 (T:=9) (m:=1) 0 [[44]] O O (show 1<=1 by decide) bf λa7 a8=>?_;refine WL.kx (iV j b ak g.q a7 _ _ [[44]] a8 al) ?_ ?_
   ·intro ⟨u,y⟩ t;rw [e7] at t;refine Ep (WE.b' (Ep (WE.b' (Ep ?_))));refine an λw' f=>?_;rw [U7 W t] at o;exact .inr ⟨u,y,O,by simp only [jZ,C,D,o,cM,eb,eu],(by have h:=f; have h:=Wt 1 h; have h:=Ws.cK h (b9:=[b]) au; exact h)⟩
   intro ⟨a9,H⟩ ⟨J,a'⟩;have ae:=iU P J;rw [e7] at J;refine ad ?_;refine CU (λ_=>true) [0,1] [6,7] (.q false 0 (.q true 1 (.q false 2 (.e 3 (.e 4 (.e 5 .nil .stop) .stop) .stop)))) mixed aa (λ_ _ _ d _ _ h=>by cases d<;>exact h) ?_;refine U0 O (dK [0,1]) (Yf kT O) (U0 O (dK [0,1]) (Yd 0 O O O aa) (U0 O (dK [0,1]) (Ym O) ?_));refine Ue O (dK [0,1]) ?_ WU.stop;refine WL.kx (qr j b a9 H a') ?_ ?_
   ·intro ⟨u,y⟩ t;refine Ep (WE.b' (Ep (WE.b' (Ep ?_))));refine an λw' f=>?_;rw [U8 W J t] at o;exact .inr ⟨u,y,O,by simp only [jZ,C,D,o,cM,eb,eu],(by have h:=f; have h:=Wt 1 h; have h:=Ws.cK h (b9:=[b]) au; exact h)⟩
   intro ⟨K,aw,z⟩ ⟨B,ax⟩;have ay:=qq ae B;refine Ln (Eu ?_);refine Ue O (dK [0,1]) ?_ WU.stop;refine Lb Y O ei O O O O λa_=>?_;refine dn 0 (.cells (eE K).toArray 9 (0,0)) O O (Ln (Eu ?_));refine Ue O (λ_ h=>(Wo 1 (Wo 0 (Wd 1 h)):)) ?_ WU.stop;refine LA (K:Tx) 3 0 Y O ei O O O O O O (by have:=G.len; omega) (by have:=G.len; omega) λaz aA=>?_;refine Ln (Eu ?_);refine WU.nil (λ_ h=>(Wo 1 (Wo 0 (Wd 1 h)):)) ?_;refine WS.e O ?_;refine I (Yf kT O) (Ln (Es ?_));refine WS.e O ?_;refine aT 2 Y O O O xy O O O (Ln (Es ?_));refine WS.nil ?_;refine Eb ?_
   exact ct (⟨g.ps++[K],az,aA,aw,z⟩:GN) (by have:z.length<H.length:=nZ ae B; have:H.length+1=g.q.length:=iS J; show z.length<g.q.length; omega) ⟨⟨by have:z.length<H.length:=nZ ae B; have:H.length+1=g.q.length:=iS J; simp; omega,ay⟩,ax,n,(show z.length<n by have:z.length<H.length:=nZ ae B; have:H.length+1=g.q.length:=iS J; omega),by rw [o,U6 W J B,Md]; simp [pU]⟩ (λ_ h=>by
       have h:=h.aJ 5 rfl;have h:=h.aJ 5 rfl;have h:=h.aJ 5 rfl;have h:=h.aJ 5 rfl;have h:=h.aJ 5 rfl;have h:=Wt 5 h;have h:=Ws.cK h (b9:=[b]) au
       exact h)
  have av:¬0<g.ps.length:=by simpa using ar
  rw [U9 av] at o;refine am ?_;refine CU (λ_=>true) [0,1] [6,7] (.q false 0 (.q true 1 (.q false 2 (.e 3 (.e 4 (.e 5 .nil .stop) .stop) .stop)))) mixed aa (λ_ _ _ d _ _ h=>by cases d<;>exact h) ?_;refine U0 O (dK [0,1]) (Yf kT O) (U0 O (dK [0,1]) (Yd 0 O O O aa) (U0 O (dK [0,1]) (Ym O) ?_));refine Ue O (dK [0,1]) ?_ WU.stop;refine WL.kx (qr j b ak g.q al) ?_ ?_
  ·intro ⟨u,y⟩ t;refine Ep (WE.b' (Ep (WE.b' (Ep ?_))));refine an λw' f=>?_;rw [U5 W t] at o;exact .inr ⟨u,y,O,by simp only [jZ,C,D,o,cM,eb,eu],(by have h:=f; have h:=Wt 1 h; exact h)⟩
  intro ⟨K,aw,z⟩ ⟨B,ax⟩;have ay:=qq P B;refine Ln (Eu ?_);refine Ue O (dK [0,1]) ?_ WU.stop;refine Lb Y O ei O O O O λa_=>?_;refine dn 0 (.cells (eE K).toArray 9 (0,0)) O O (Ln (Eu ?_));refine Ue O (λ_ h=>(Wo 1 (Wo 0 (Wd 1 h)):)) ?_ WU.stop;refine LA (K:Tx) 3 0 Y O ei O O O O O O (by have:=G.len; omega) (by have:=G.len; omega) λaz aA=>?_;refine Ln (Eu ?_);refine WU.nil (λ_ h=>(Wo 1 (Wo 0 (Wd 1 h)):)) ?_;refine WS.e O ?_;refine I (Yf kT O) (Ln (Es ?_));refine WS.e O ?_;refine aT 2 Y O O O xy O O O (Ln (Es ?_));refine WS.nil ?_;refine Eb ?_
  exact ct (⟨g.ps++[K],az,aA,aw,z⟩:GN) (by have:z.length<g.q.length:=nZ P B; show z.length<g.q.length; omega) ⟨⟨by have:z.length<g.q.length:=nZ P B; simp; omega,ay⟩,ax,n,(show z.length<n by have:z.length<g.q.length:=nZ P B; omega),by rw [o,U4 W B,Md]; simp [pU]⟩ (λ_ h=>by
      have h:=h.aJ 5 rfl;have h:=h.aJ 5 rfl;have h:=h.aJ 5 rfl;have h:=h.aJ 5 rfl;have h:=h.aJ 5 rfl;have h:=Wt 5 h;have h:=Ws.cK h (b9:=[b]) au
      exact h)
 have aB:=a4 (by simpa using ap);have ba:=iT P aB;obtain ⟨n,aq,o⟩:=o;obtain ⟨n,rfl⟩:∃k,n=k+1:=⟨n-1,Z⟩;rw [U3 aB] at o;simp at o;refine Ce (Ex (Ex (cU (Et (Cs (Cb ?_))))));refine e0 (ι:=GN) (λv=>[]) [(0,_),(4,_),(5,_)] (λv=>Ws w (List.flatMap ah.ids (bB j r l)) (bB j v.r v.q++[aE aN (.cells (zn ai ao g.a g.ps.length g.c v.a v.ps.length v.c none 0 0).toArray 113 (0,0)),cW 9 1 eE g.a g.c g.ps,cW 9 1 eE v.a v.c v.ps,aE aM (.cells (zn [] false none 0 0 none 0 0 none 0 0).toArray 113 (0,0))]) [b]) (λv=>(v.ps.length+v.q.length<=l.length/\dB v.q)/\Sl dW 3 b v.r.1 v.r.2 v.q/\∃n,v.q.length<n/\l8 (V.length+1) V=(l8 n v.q).map λp=>(v.ps++p.1,p.2)) (λv=>v.q.length) ⟨[],none,0,ak,V⟩ ⟨⟨by have:V.length+1=g.q.length:=iS aB; simp; omega,ba⟩,al,V.length+1,au,au⟩ ag ?_;intro v ⟨⟨bL,aC⟩,bb,A⟩;refine Cs (ac (ab O ?_));refine WL.kw (ip j b v.r v.q [108,111,99,97,108] bb) ?_;intro ⟨bM,aO,L⟩ ⟨bc,bd,aP⟩;refine ad ?_;refine Cc O (λaD=>?_) (λaD=>?_)
 ·have M:=bc aD;have af:=iT aC M;obtain ⟨n,aq,A⟩:=A;obtain ⟨n,rfl⟩:∃k,n=k+1:=⟨n-1,Z⟩;refine am (Cb (Cs ?_));refine CU (λ_=>true) [0,2] [6,7] (.q false 0 (.q true 1 (.q false 2 (.e 3 (.e 4 (.e 5 .nil .stop) .stop) .stop)))) mixed aa (λ_ _ _ d _ _ h=>by cases d<;>exact h) ?_;refine U0 O (dK [0,2]) (Yf nX O) (U0 O (dK [0,2]) (Yd 0 O O O aa) (U0 O (dK [0,2]) (Ym O) ?_));refine Ue O (dK [0,2]) ?_ WU.stop;refine WL.kx (qr j b aO L aP) ?_ ?_
  ·intro ⟨u,y⟩ t;refine Ep (Ep (WE.b' (Ep (WE.b' (Ep ?_)))));refine an λw' f=>?_;rw [Vb M t] at A;exact .inr ⟨u,y,O,by simp only [jZ,C,D,o,A,cM,eb,eu],(by have h:=f; have h:=Wt 1 h; exact h)⟩
  intro ⟨aF,be,N⟩ ⟨Q,bg⟩;have bh:=qq af Q;refine Ln (Eu ?_);refine Ue O (dK [0,2]) ?_ WU.stop;refine Lb Y O ei O O O O λbN=>?_;refine dn 0 (.cells (eE aF).toArray 9 (0,0)) O O (Ln (Eu ?_));refine Ue O (λ_ h=>(Wo 2 (Wo 0 (Wd 1 h)):)) ?_ WU.stop;refine LA (aF:Tx) 4 0 Y O ei O O O O O O (by have:=G.len; omega) (by have:=G.len; omega) λbj bk=>?_;refine Ln (Eu ?_);refine WU.nil (λ_ h=>(Wo 2 (Wo 0 (Wd 1 h)):)) ?_;refine WS.e O ?_;refine I (Yf nX O) (Ln (Es ?_));refine WS.e O ?_;refine aT 2 Y O O O xy O O O (Ln (Es ?_));refine WS.nil ?_;refine Et (Cr (ab O ?_));refine Lb Y O ei O O O O λbO=>?_;refine h1 (T:=9) (m:=1) 0 [[59]] O O (show 1<=1 by decide) bf λbl bm=>?_;refine Lf 1 O ?_;refine WL.kx (iV j b be N bl _ _ [[59]] bm bg) ?_ ?_
  ·intro ⟨u,y⟩ t;rw [e7] at t;refine WE.b' (Ep (WE.b' (Ep ?_)));refine an λw' f=>?_;rw [Vc M Q t] at A;exact .inr ⟨u,y,O,by simp only [jZ,C,D,o,A,cM,eb,eu],(by have h:=f; have h:=Wt 1 h; have h:=Ws.cK h (b9:=[b]) au; exact h)⟩
  intro ⟨bn,R⟩ ⟨S,bo⟩;have bp:=iU bh S;rw [e7] at S;refine Ln (Eb ?_)
  exact ct (⟨v.ps++[aF],bj,bk,bn,R⟩:GN) (by have:L.length+1=v.q.length:=iS M; have:N.length<L.length:=nZ af Q; have:R.length+1=N.length:=iS S; show R.length<v.q.length; omega) ⟨⟨by have:L.length+1=v.q.length:=iS M; have:N.length<L.length:=nZ af Q; have:R.length+1=N.length:=iS S; simp; omega,bp⟩,bo,n,(show R.length<n by have:L.length+1=v.q.length:=iS M; have:N.length<L.length:=nZ af Q; have:R.length+1=N.length:=iS S; omega),by rw [A,Va M Q S]; simp [pU]⟩ (λ_ h=>by
      have h:=h.aJ 5 rfl;have h:=h.aJ 5 rfl;have h:=h.aJ 5 rfl;have h:=h.aJ 5 rfl;have h:=h.aJ 4 rfl;have h:=Wt 5 h;have h:=Ws.cK h (b9:=[b]) au
      exact h)
 obtain ⟨bq,br⟩:=bd aD;subst br;obtain ⟨n,aq,A⟩:=A;obtain ⟨n,rfl⟩:∃k,n=k+1:=⟨n-1,Z⟩;rw [U_ bq] at A;simp at A;refine Ce (Ex (Ex (cU (Et (ac (ab O ?_))))))
 refine oj (ι:=((List bE)×(Option Addr×Nat))×(Option Addr×Nat)×Tk) (κ:=(Option Addr×Nat)×Tk) [_] _ Y O aK O O (λi=>.slice i.1.2.1 i.1.1.length i.1.2.2) (λi=>bB j i.2.1 i.2.2) (λF i=>hq 6 v.q=some (i.1.1,i.2.2)/\Sl (e5 7 6) 6 F i.1.2.1 i.1.2.2 i.1.1/\Sl dW 3 b i.2.1.1 i.2.1.2 i.2.2) (λ_=>g_) (λi=>bB j i.1 i.2) (λ_=>hq 6 v.q=none) ([b]) au qy (λw f=>(Mc b 6 j aO v.q (1) w Z aC aP f).mono λe w' h=>by
     rcases h with ⟨x,s,E,q,aG,aI,aL,bs,bt⟩ | ⟨E,q,aG,aI,aL⟩
     · exact .inl ⟨((x,s),E,q),aG,⟨aI,aL,bs⟩,bt⟩
     · exact .inr ⟨(E,q),aG,aI,aL⟩) ?_ ?_
 ·intro ⟨u,y⟩ t;refine Ep ?_;refine an λw' f=>?_;exact .inr ⟨u,y,O,by simp only [jZ,C,D,o,A,t,cM,eb,eu],(by have h:=f; have h:=Wt 1 h; exact h)⟩
 intro bP ⟨⟨bu,bv⟩,bw,aQ⟩ bx ⟨aR,bz,bA⟩;have bQ:dB aQ:=zj aC aR;refine I (Yf vq O) (aT 1 Y O O O zl O O O (ad (Cs ?_)));refine WC.mu (rd:=rdStr) 2 O (λk X=>by simp [bB,aE] at X; subst X; simp [eQ,bB,aE,cq]) iM eZ λbR bC bD=>?_;refine WC.mu (rd:=rdStr) 2 O (λk X=>by simp [bB,aE] at X; subst X; simp [eQ,bB,aE,cq]) iM eZ λbS bF bG=>?_;refine Cr (I (cI 1 O O ru O) (aT 2 Y O O O dq O O O (ad (aZ ?_))));refine WE.fm (hW O (ej 2 O O ru O)) λw' f=>?_;exact .inl ⟨⟨ai,ao,g.ps,v.ps,bu⟩,⟨(g.a,g.c),(v.a,v.c),bv⟩,bw,aQ,O,by simp only [jZ,C,D,o,A,aR,cM,dN],⟨n0 bD (c8 f au bC),n0 bG (c8 f au bF),su bz (c8 f au bx)⟩,bA,Wv 3 (Wt 1 f)⟩
structure GU where
 us:List Tx
 a:Option Addr
 c:Nat
 r:Option Addr×Nat
 q:Tk
def cO (nm:Tx) (a1:Option Addr) (n1 c1:Nat) (a2:Option Addr) (n2 c2:Nat) (a3:Option Addr) (n3 c3:Nat) (a4:Option Addr) (a c4:Nat):List Value:=[st nm,.slice a1 n1 c1,.slice a2 n2 c2,.slice a3 n3 c3,.slice a4 a c4]
def sw (a:bQ [109,111,100,117,108,101] aj=some bS) (c:gQ bS=some (bZ,hr)) (e:bQ [123] hr=some BW):mH aj=(mG (BW.length+1) BW).bind λu=>
   (nR ((lg u.2).2.length+1) (lg u.2).1 (lg u.2).2).bind λd=>(nS (d.2.length+1) d.1.2 d.2).bind λp=>if p.1.2=true then none else
   (bQ m_ p.2).bind λr=>(hq 6 r).bind λb=>(bQ [125] b.2).map λr=>(⟨bZ,u.1,d.1.1,p.1.1,b.1⟩,r):=by
 rw [mH,show sh=[109,111,100,117,108,101] from rfl,a]; simp only [cM]; rw [c]; simp only [cM]; rw [e]; rfl
def sx:zeroOf prog 27=some (.agg #[st [],.slice none 0 0,.slice none 0 0,.slice none 0 0,.slice none 0 0]):=aa
def BZ:hx prog 27=some [(0,1),(1,1),(2,1),(3,1),(4,1)]:=aa
def g9:dV prog 27=some 5:=aa
def FL:hc prog 24 113 (.agg #[st [],.bool false,.slice none 0 0,.slice none 0 0,.slice none 0 0]) 5 96:=jr aa
def Vq:dV prog 24=some 1:=aa
def FM:hc prog 23 109 (.agg #[.int .i64 0,st [],.bool false,.int .i64 0]) 4 40:=jr aa
def Vr:dV prog 23=some 1:=aa
def N_ (j:Nat) (b:View) (r:Option Addr×Nat) (l:Tk) (w:World) (K:dB l) (bs:Sl dW 3 b r.1 r.2 l) (f:Ws w (List.flatMap ah.ids (bB j r l)) (bB j r l) [b] w) :
   Calls prog 122 #[.pointer (some ⟨j,0,none⟩)] w λe w'=>(∃(m:cm) (s:iB) (B:Option Addr×Nat) (q:Tk),e = .returned (.agg (fi m s).toArray)/\mH l=some (m,q)/\jb 7 6 (nv w w') s m/\Sl dW 3 b B.1 B.2 q/\Ws w (List.flatMap ah.ids (bB j r l)) (bB j B q) [b] w')\/(∃(B:Option Addr×Nat) (q:Tk),e = .panicked g_/\mH l=none/\Ws w (List.flatMap ah.ids (bB j r l)) (bB j B q) [b] w'):=by
 refine enter func122 O 71 O O ?_;refine CE f (ac ?_);refine Al Y O sx λaF=>?_;refine dn 0 (.cells (cO [] none 0 0 none 0 0 none 0 0 none 0 0).toArray 27 (0,0)) O O (ad (ac (ab O ?_)));refine Lb Y O ei O O O O λcY=>?_;refine h1 (T:=9) (m:=1) 0 [[109,111,100,117,108,101]] O O (show 1<=1 by decide) bf λbt bu=>?_;refine Lf 1 O ?_;refine WL.kx (iV j b r l bt _ _ [[109,111,100,117,108,101]] bu bs) ?_ ?_
 ·intro ⟨t,u⟩ o;rw [e7] at o;refine Ep ?_;refine an λw' f=>?_;exact .inr ⟨t,u,O,by simp only [mH,sh,o,eb],(by have h:=f; have h:=Wt 1 h; have h:=Ws.cK h (b9:=[b]) au; exact h)⟩
 intro ⟨bv,aG⟩ ⟨A,bw⟩;have a4:=iU K A;rw [e7] at A;refine ad (ac (ab O ?_));refine WL.kx (qr j b bv aG bw) ?_ ?_
 ·intro ⟨t,u⟩ o;refine Ep ?_;refine an λw' f=>?_;exact .inr ⟨t,u,O,by simp only [mH,sh,A,o,cM,eb],(by have h:=f; have h:=Wt 1 h; have h:=Ws.cK h (b9:=[b]) au; exact h)⟩
 intro ⟨ar,bx,aI⟩ ⟨C,bz⟩;have bA:=qq a4 C;refine I (Yb sx BZ O O) ?_;refine Al Y O sx λaL=>?_;refine aT 0 Y O O O g9 O O O (LW (λ_ h=>h.g3 9 1) (LW (λ_ h=>h.g3 109 4) (LW (λ_ h=>h.g3 113 5) ?_)));refine WL.v0 ?_;refine ad (ac (ab O ?_));refine Lb Y O ei O O O O λcZ=>?_;refine h1 (T:=9) (m:=1) 0 [[123]] O O (show 1<=1 by decide) bf λbC bD=>?_;refine Lf 4 O ?_;refine WL.kx (iV j b bx aI bC _ _ [[123]] bD bz) ?_ ?_
 ·intro ⟨t,u⟩ o;rw [e7] at o;refine Ep ?_;refine an λw' f=>?_;exact .inr ⟨t,u,O,by simp only [mH,sh,A,C,o,cM,eb],(by have h:=f; have h:=Wt 1 h; have h:=Ws.cK h (b9:=[b]) au; exact h)⟩
 intro ⟨bF,av⟩ ⟨D,bG⟩;have bH:=iU bA D;rw [e7] at D;refine ad (Cs (Cb ?_));refine e0 (ι:=GU) (λg=>[]) [(0,_),(2,_),(3,_)] (λg=>Ws w (List.flatMap ah.ids (bB j r l)) (bB j g.r g.q++[aE aL (.cells (cO ar g.a g.us.length g.c none 0 0 none 0 0 none 0 0).toArray 27 (0,0)),cW 9 1 eE g.a g.c g.us,cW 109 4 de.cells none 0 ([]:List de),cW 113 5 PX.cells none 0 ([]:List PX),aE aF (.cells (cO [] none 0 0 none 0 0 none 0 0 none 0 0).toArray 27 (0,0))]) [v0,b]) (λg=>(g.us.length+g.q.length<=l.length/\dB g.q)/\Sl dW 3 b g.r.1 g.r.2 g.q/\∃n,g.q.length<n/\mG (av.length+1) av=(mG n g.q).map λp=>(g.us++p.1,p.2)) (λg=>g.q.length) ⟨[],none,0,bF,av⟩ ⟨⟨by have:aG.length+1=l.length:=iS A; have:aI.length<aG.length:=nZ a4 C; have:av.length+1=aI.length:=iS D; simp; omega,bH⟩,bG,av.length+1,au,au⟩ (λ_ h=>by have h:=h.aJ 5 O; have h:=h.aJ 2 O; have h:=h.aJ 3 O; have h:=h.aJ 4 O; have h:=h.aJ 5 O; have h:=h.aJ 5 O; have h:=Ws.cK h (b9:=[v0,b]) au; exact h) ?_;intro g ⟨⟨c0,a5⟩,bI,y⟩;refine Cs (ac (ab O ?_));refine WL.kw (ip j b g.r g.q [117,115,101] bI) ?_;intro ⟨c1,a6,L⟩ ⟨bJ,bK,a7⟩;refine ad ?_;refine Cc O (λaM=>?_) (λaM=>?_)
 ·have M:=bJ aM;have aA:=iT a5 M;obtain ⟨n,W,y⟩:=y;obtain ⟨n,rfl⟩:∃k,n=k+1:=⟨n-1,Z⟩;refine am (Cb (Cs ?_));refine CU (λ_=>true) [0,1] [6,7] (.q false 0 (.q true 1 (.q false 2 (.e 3 (.e 4 (.e 5 .nil .stop) .stop) .stop)))) mixed aa (λ_ _ _ d _ _ h=>by cases d<;>exact h) ?_;refine U0 O (dK [0,1]) (Yf j4 O) (U0 O (dK [0,1]) (Yd 0 O O O aa) (U0 O (dK [0,1]) (Ym O) ?_));refine Ue O (dK [0,1]) ?_ WU.stop;refine WL.kx (qr j b a6 L a7) ?_ ?_
  ·intro ⟨t,u⟩ o;refine Ep (Ep (WE.b' (Ep (WE.b' (Ep ?_)))));refine an λw' f=>?_;rw [Vf M o] at y;exact .inr ⟨t,u,O,by rw [sw A C D]; simp only [m_,y,cM,dN,eb,eu],(by have h:=f; have h:=Wt 1 h; have h:=Ws.cK h (b9:=[b]) au; exact h)⟩
  intro ⟨aN,bL,N⟩ ⟨X,bM⟩;have bN:=qq aA X;refine Ln (Eu ?_);refine Ue O (dK [0,1]) ?_ WU.stop;refine Lb Y O ei O O O O λc2=>?_;refine dn 0 (.cells (eE aN).toArray 9 (0,0)) O O (Ln (Eu ?_));refine Ue O (λ_ h=>(Wo 1 (Wo 0 (Wd 1 h)):)) ?_ WU.stop;refine LA (aN:Tx) 3 0 Y O ei O O O O O O (by have:=K.len; omega) (by have:=K.len; omega) λbO bP=>?_;refine Ln (Eu ?_);refine WU.nil (λ_ h=>(Wo 1 (Wo 0 (Wd 1 h)):)) ?_;refine WS.e O ?_;refine I (Yf j4 O) (Ln (Es ?_));refine WS.e O ?_;refine aT 2 Y O O O xy O O O (Ln (Es ?_));refine WS.nil ?_;refine Et (Cr (ab O ?_));refine Lb Y O ei O O O O λc3=>?_;refine h1 (T:=9) (m:=1) 0 [[59]] O O (show 1<=1 by decide) bf λbQ bR=>?_;refine Lf 1 O ?_;refine WL.kx (iV j b bL N bQ _ _ [[59]] bR bM) ?_ ?_
  ·intro ⟨t,u⟩ o;rw [e7] at o;refine WE.b' (Ep (WE.b' (Ep ?_)));refine an λw' f=>?_;rw [NP M X o] at y;exact .inr ⟨t,u,O,by rw [sw A C D]; simp only [m_,y,cM,dN,eb,eu],(by have h:=f; have h:=Wt 1 h; have h:=Ws.cK h (b9:=[b]) au; exact h)⟩
  intro ⟨bS,ae⟩ ⟨af,bT⟩;have bU:=iU bN af;rw [e7] at af;refine Ln (Eb ?_)
  exact ct (⟨g.us++[aN],bO,bP,bS,ae⟩:GU) (by have:L.length+1=g.q.length:=iS M; have:N.length<L.length:=nZ aA X; have:ae.length+1=N.length:=iS af; show ae.length<g.q.length; omega) ⟨⟨by have:L.length+1=g.q.length:=iS M; have:N.length<L.length:=nZ aA X; have:ae.length+1=N.length:=iS af; simp; omega,bU⟩,bT,n,(show ae.length<n by have:L.length+1=g.q.length:=iS M; have:N.length<L.length:=nZ aA X; have:ae.length+1=N.length:=iS af; omega),by rw [y,Ve M X af]; simp [pU]⟩ (λ_ h=>by
      have h:=h.aJ 6 rfl;have h:=h.aJ 6 rfl;have h:=h.aJ 6 rfl;have h:=h.aJ 6 rfl;have h:=h.aJ 6 rfl;have h:=h.aJ 5 rfl;have h:=Wt 6 h;have h:=Ws.cK h (b9:=[v0,b]) au
      exact h)
 obtain ⟨bV,bW⟩:=bK aM;subst bW;obtain ⟨n,W,y⟩:=y;obtain ⟨n,rfl⟩:∃k,n=k+1:=⟨n-1,Z⟩;rw [Vd bV] at y;simp at y;refine Ce (Ex (Ex (cU (Et (ac (ab O ?_))))));refine WL.kw (ip j b a6 g.q [112,117,98] a7) ?_;intro ⟨aO,bX,P⟩ ⟨a8,a9,bY⟩;have Q:lg g.q=(aO,P):=FH a8 a9;obtain ⟨bZ,c4⟩:dB P/\P.length<=List.length (g.q):=FI a5 a8 a9;refine ai O (ad (Cs (Cb ?_)));refine e0 (ι:=GD) (λv=>[(4,.bool v.ao)]) [(0,_),(2,_),(3,_)] (λv=>Ws w (List.flatMap ah.ids (bB j r l)) (bB j v.r v.q++[aE aL (.cells (cO ar g.a g.us.length g.c v.a v.ds.length v.c none 0 0 none 0 0).toArray 27 (0,0)),cW 9 1 eE g.a g.c g.us,cW 109 4 de.cells v.a v.c v.ds,cW 113 5 PX.cells none 0 ([]:List PX),aE aF (.cells (cO [] none 0 0 none 0 0 none 0 0 none 0 0).toArray 27 (0,0))]) [v0,b]) (λv=>(v.ds.length+v.q.length<=l.length/\dB v.q)/\Sl dW 3 b v.r.1 v.r.2 v.q/\∃n,v.q.length<n/\nR (P.length+1) aO P=(nR n v.ao v.q).map λp=>((v.ds++p.1.1,p.1.2),p.2)) (λv=>v.q.length) ⟨[],none,0,aO,bX,P⟩ ⟨⟨by simp; omega,bZ⟩,bY,P.length+1,au,au⟩ ag ?_;intro v ⟨⟨c5,aP⟩,b0,z⟩;refine Cb (ac (ab O (ab O ?_)));refine WL.kx (Vo j b v.r v.q v.ao aP b0) ?_ ?_
 ·intro ⟨t,u⟩ o;refine Ep (WE.b' (Ep (WE.b' (Ep ?_))));refine an λw' f=>?_;obtain ⟨n,W,z⟩:=z;obtain ⟨n,rfl⟩:∃k,n=k+1:=⟨n-1,Z⟩;rw [Vj o] at z;exact .inr ⟨t,u,O,by rw [sw A C D]; simp only [m_,y,Q,z,cM,dN,eb,eu],(by have h:=f; have h:=Wt 1 h; have h:=Ws.cK h (b9:=[b]) au; exact h)⟩
 intro ⟨aQ,a',E⟩ ⟨aj,a_⟩;have ba:=NH aP aj;refine ab O (I (Yx O O) (I (Yx O O) ?_));refine Al Y O oP λc6=>?_;refine aT 0 Y O O O pA O O O (ai O (ad (Cs (ac (ab O (I (eR O) (ad ?_)))))));refine Cc O (λaB=>?_) (λaB=>?_)
 ·obtain ⟨n,W,z⟩:=z;obtain ⟨n,rfl⟩:∃k,n=k+1:=⟨n-1,Z⟩
  cases aC:aQ with
  | some x=>rw [aC] at aB; simp at aB
  | none=>
  rw [aC] at aj;have b1:E=v.q:=Fe aj;rw [Vh aj] at z;simp at z;refine Ce (Ex (G9 O (Ex (cU (Et (Cs (Cb ?_)))))));refine e0 (ι:=GM) (λe=>[(4,.bool e.ao)]) [(0,_),(2,_),(3,_)] (λe=>Ws w (List.flatMap ah.ids (bB j r l)) (bB j e.r e.q++[aE aL (.cells (cO ar g.a g.us.length g.c v.a v.ds.length v.c e.a e.ps.length e.c none 0 0).toArray 27 (0,0)),cW 9 1 eE g.a g.c g.us,cW 109 4 de.cells v.a v.c v.ds,cW 113 5 PX.cells e.a e.c e.ps,aE aF (.cells (cO [] none 0 0 none 0 0 none 0 0 none 0 0).toArray 27 (0,0))]) [e.J,b]) (λe=>(e.ps.length+e.q.length<=l.length/\dB e.q)/\Sl dW 3 b e.r.1 e.r.2 e.q/\(eD w e.J/\ry e.J e.ps)/\∃n,e.q.length<n/\nS (E.length+1) v.ao E=(nS n e.ao e.q).map λp=>((e.ps.map (·.1)++p.1.1,p.1.2),p.2)) (λe=>e.q.length) ⟨[],none,0,v0,v.ao,a',E⟩ ⟨⟨(by have h:=congrArg List.length b1; simp at h ⊢; omega),ba⟩,a_,⟨ol w,ry.nil _⟩,E.length+1,au,au⟩ (λ_ h=>by have h:=h.aJ 6 O; have h:=h.aJ 6 O; have h:=h.aJ 6 O; have h:=h.aJ 6 O; have h:=h.aJ 6 O; have h:=h.aJ 6 O; have h:=Wt 6 h; have h:=Ws.cK h (b9:=[v0,b]) au; exact h) ?_;intro e ⟨⟨c7,bb⟩,b2,⟨bc,bd⟩,hC⟩;refine Cs (ac (ab O ?_));refine WL.kw (ip j b e.r e.q [112,114,111,99] b2) ?_;intro ⟨c9,aR,G⟩ ⟨b3,b4,be⟩;refine ad ?_;refine Cc O (λaS=>?_) (λaS=>?_)
  ·have ak:=b3 aS;have ax:=iT bb ak;obtain ⟨n,W,hC⟩:=hC;obtain ⟨n,rfl⟩:∃k,n=k+1:=⟨n-1,Z⟩;refine am (Cb (Cs ?_));refine CU (λ_=>true) [0,3] [7,8] (.q false 0 (.q true 1 (.q false 2 (.q false 3 (.e 4 (.e 5 (.e 6 .nil .stop) .stop) .stop))))) mixed aa (λ_ _ _ d _ _ h=>by cases d<;>exact h) ?_;refine U0 O (dK [0,3]) (Yf lh O) (U0 O (dK [0,3]) (Yd 0 O O O aa) (U0 O (dK [0,3]) (Ym O) (U0 O (dK [0,3]) (Ym O) ?_)));refine Ue O (dK [0,3]) ?_ WU.stop
   refine oj (ι:=(eI×vv)×(Option Addr×Nat)×Tk) (κ:=(Option Addr×Nat)×Tk) [_] _ Y O aK O O (λi=>.agg #[st (i.1.1).nm,.bool (i.1.1).ao,.slice (i.1.2).s1.1 (i.1.1).params.length (i.1.2).s1.2,.slice (i.1.2).s2.1 (i.1.1).aH.length (i.1.2).s2.2,.slice (i.1.2).s3.1 (i.1.1).body.length (i.1.2).s3.2]) (λi=>bB j i.2.1 i.2.2) (λF i=>jZ e.ao G=some (i.1.1,i.2.2)/\vw F i.1.1 i.1.2/\Sl dW 3 b i.2.1.1 i.2.1.2 i.2.2) (λ_=>g_) (λi=>bB j i.1 i.2) (λ_=>jZ e.ao G=none) ([b]) au qy (λw f=>(Vp j b aR G e.ao w ax be f).mono λe w' h=>by
       rcases h with ⟨x,s,B,q,R,S,U,aU,aV⟩ | ⟨B,q,R,S,U⟩
       · exact .inl ⟨((x,s),B,q),R,⟨S,U,aU⟩,aV⟩
       · exact .inr ⟨(B,q),R,S,U⟩) ?_ ?_
   ·intro ⟨t,u⟩ o;refine Ep (Ep (WE.b' (Ep (WE.b' (Ep ?_)))));refine an λw' f=>?_;rw [Vm ak o] at hC;exact .inr ⟨t,u,O,by rw [sw A C D]; simp only [m_,y,Q,z,hC,cM,dN,eb,eu],(by have h:=f; have h:=Wt 1 h; have h:=Ws.cK h (b9:=[b]) au; exact h)⟩
   intro c' ⟨⟨aW,aX⟩,b6,V⟩ b7 ⟨ay,b_,ca⟩;have cb:dB V:=U2 ax ay;refine Ln (Eu ?_);refine Ue O (λ_ h=>(Wv 1 (Wo 3 (Wo 0 h)):)) ?_ WU.stop;refine Lb Y O FL O O O O λc_=>?_;refine dn 0 (.cells (PX.cells (aW,aX)).toArray 113 (0,0)) O O (Ln (Eu ?_));refine Ue O (λ_ h=>(Wv 1 (Wo 3 (Wo 0 (Wd 1 h))):)) ?_ WU.stop;refine LA ((aW,aX):PX) 5 0 Y O FL O O O O O O (by have:=K.len; omega) (by have:=K.len; omega) λcc cd=>?_;refine Ln (Eu ?_);refine WU.nil (λ_ h=>(Wv 1 (Wo 3 (Wo 0 (Wd 1 h))):)) ?_;refine WS.e O ?_;refine I (Yf lh O) (Ln (Es ?_));refine WS.e O ?_;refine aT 2 Y O O O Vq O O O (Ln (Es ?_));refine WS.nil ?_;refine Et ?_;refine WC.jc λbg ce cf cg=>?_;refine Cr (ab O (Lf 1 O ?_));refine WL.kw (ip j b b6 V [112,117,98] ca) ?_;intro ⟨bj,ch,al⟩ ⟨bk,bl,ci⟩;have cj:lg V=(bj,al):=FH bk bl;obtain ⟨ck,da⟩:dB al/\al.length<=List.length (V):=FI cb bk bl;refine ai O (Ln (Eb ?_))
   exact ct (⟨e.ps++[(aW,aX)],cc,cd,bg,bj,ch,al⟩:GM) (by have:G.length+1=e.q.length:=iS ak; have:V.length<G.length:=FG ax ay; show al.length<e.q.length; omega) ⟨⟨by have:G.length+1=e.q.length:=iS ak; have:V.length<G.length:=FG ax ay; simp; omega,ck⟩,ci,⟨cg _ b7 bc,ry.snoc bd cf ce b_⟩,n,(show al.length<n by have:G.length+1=e.q.length:=iS ak; have:V.length<G.length:=FG ax ay; omega),by rw [hC,NT ak ay cj]; simp [pU]⟩ (λ_ h=>by
       have h:=h.aJ 6 rfl;have h:=h.aJ 6 rfl;have h:=h.aJ 6 rfl;have h:=h.aJ 6 rfl;have h:=h.aJ 6 rfl;have h:=h.aJ 5 rfl;have h:=Wt 6 h;have h:=Ws.cK h (b9:=[bg,b]) au
       exact h)
  obtain ⟨cl,co⟩:=b4 aS;subst co;obtain ⟨n,W,hC⟩:=hC;obtain ⟨n,rfl⟩:∃k,n=k+1:=⟨n-1,Z⟩;rw [Vk cl] at hC;simp at hC;refine Ce (Ex (Ex (cU (Et (Cs (ac (ab O (ad ?_))))))));refine Cc O (λaY=>?_) (λaY=>?_)
  ·have ap:e.ao=true:=aY;refine Cr (I (Yb sr sq O O) (I (pZ ss O) ?_));refine WL.panic Y O ?_;refine Ep ?_;refine an λw' f=>?_;exact .inr ⟨aR,e.q,O,by rw [sw A C D]; simp only [m_,y,Q,z,hC,ap,cv,cM,dN,eb,eu],(by have h:=f; have h:=Wt 1 h; have h:=Ws.cK h (b9:=[b]) au; exact h)⟩
  have ap:e.ao=false:=aY;refine am (ac (ab O ?_));refine Lb Y O ei O O O O λdb=>?_;refine h1 (T:=9) (m:=1) 0 [[109,97,105,110]] O O (show 1<=1 by decide) bf λcp cr=>?_;refine WL.kx (iV j b aR e.q cp _ _ [[109,97,105,110]] cr be) ?_ ?_
  ·intro ⟨t,u⟩ o;rw [e7] at o;refine Ep ?_;refine an λw' f=>?_;exact .inr ⟨t,u,O,by rw [sw A C D]; simp only [m_,y,Q,z,hC,ap,o,aw,cn,cM,dN,eb,eu],(by have h:=f; have h:=Wt 1 h; have h:=Ws.cK h (b9:=[b]) au; exact h)⟩
  intro ⟨cs,a0⟩ ⟨az,cu⟩;have bm:=iU bb az;rw [e7] at az;refine ad (ac (ab O ?_))
  refine oj (ι:=((List bE)×(Option Addr×Nat))×(Option Addr×Nat)×Tk) (κ:=(Option Addr×Nat)×Tk) [_] _ Y O aK O O (λi=>.slice i.1.2.1 i.1.1.length i.1.2.2) (λi=>bB j i.2.1 i.2.2) (λF i=>hq 6 a0=some (i.1.1,i.2.2)/\Sl (e5 7 6) 6 F i.1.2.1 i.1.2.2 i.1.1/\Sl dW 3 b i.2.1.1 i.2.1.2 i.2.2) (λ_=>g_) (λi=>bB j i.1 i.2) (λ_=>hq 6 a0=none) ([b]) au qy (λw f=>(Mc b 6 j cs a0 (1) w Z bm cu f).mono λe w' h=>by
      rcases h with ⟨x,s,B,q,R,S,U,aU,aV⟩ | ⟨B,q,R,S,U⟩
      · exact .inl ⟨((x,s),B,q),R,⟨S,U,aU⟩,aV⟩
      · exact .inr ⟨(B,q),R,S,U⟩) ?_ ?_
  ·intro ⟨t,u⟩ o;refine Ep ?_;refine an λw' f=>?_;exact .inr ⟨t,u,O,by rw [sw A C D]; simp only [m_,y,Q,z,hC,ap,az,o,aw,cn,cM,dN,eb,eu],(by have h:=f; have h:=Wt 1 h; have h:=Ws.cK h (b9:=[b]) au; exact h)⟩
  intro dc ⟨⟨bn,aD⟩,cw,bo⟩ cx ⟨a1,cy,cz⟩;have cA:dB bo:=zj bm a1;refine I (Yf vr O) (aT 1 Y O O O zl O O O (ad (ac (ab O ?_))));refine Lb Y O ei O O O O λdd=>?_;refine h1 (T:=9) (m:=1) 0 [[125]] O O (show 1<=1 by decide) bf λcB cC=>?_;refine WL.kx (iV j b cw bo cB _ _ [[125]] cC cz) ?_ ?_
  ·intro ⟨t,u⟩ o;rw [e7] at o;refine Ep ?_;refine an λw' f=>?_;exact .inr ⟨t,u,O,by rw [sw A C D]; simp only [m_,y,Q,z,hC,ap,az,a1,o,aw,cn,cM,dN,eb,eu],(by have h:=f; have h:=Wt 1 h; have h:=Ws.cK h (b9:=[b]) au; exact h)⟩
  intro ⟨cD,cE⟩ ⟨a2,cF⟩;have df:=iU cA a2;rw [e7] at a2;refine ad (Cs ?_);refine WC.mu (rd:=rdStr) 2 O (λk H=>by simp [bB,aE] at H; subst H; simp [eQ,bB,aE,cq]) iM eZ λdg cG cH=>?_;refine WC.mu (rd:=s_) 2 O (λk H=>by simp [bB,aE] at H; subst H; simp [eQ,bB,aE,cq]) de.dk eZ λdh cJ cL=>?_;refine WC.mu (rd:=FJ) 2 O (λk H=>by simp [bB,aE] at H; subst H; simp [eQ,bB,aE,cq]) PX.dk eZ λdi cN cP=>?_;refine Cr (I (cI 1 O O bh O) (aT 2 Y O O O g9 O O O (ad (aZ ?_))));refine WE.fm (hW O (ej 2 O O bh O)) λw' f=>?_;exact .inl ⟨⟨ar,g.us,v.ds,e.ps.map (·.1),bn⟩,⟨g.a,g.c,v.a,v.c,e.a,e.c,aD.1,aD.2⟩,cD,cE,by show Ending.returned (.agg #[st ar,.slice g.a g.us.length g.c,.slice v.a v.ds.length v.c,.slice e.a e.ps.length e.c,.slice aD.1 bn.length aD.2])=_; simp [fi],by rw [sw A C D]; simp only [m_,y,Q,z,hC,ap,az,a1,a2,aw,cn,cM,dN,eb,eu],⟨n0 cH (c8 f au cG),tV cL (c8 f au cJ),Me cP (c8 f au cN) (c8 f au bc) bd,su cy (c8 f au cx)⟩,cF,Wv 7 (Wt 1 f)⟩
 obtain ⟨n,W,z⟩:=z;obtain ⟨n,rfl⟩:∃k,n=k+1:=⟨n-1,Z⟩
 obtain ⟨a3,aC⟩:∃x,aQ=some x:=by
   cases aQ with
   | none=>simp at aB
   | some x=>exact ⟨x,rfl⟩
 subst aC;have dj:E.length<v.q.length:=U1 aP aj;refine am (ac (I (Yf oO O) (I (Yd 2 O O O aa) (I (cI 0 O O mM O) ?_))));refine Lb Y O FM O O O O λdl=>?_;refine dn 0 (.cells (de.cells a3).toArray 109 (0,0)) O O ?_;refine LA (a3:de) 5 0 Y O FM O O O O O O (by have:=K.len; omega) (by have:=K.len; omega) λcQ cR=>?_;refine I (Yf oO O) (aT 3 Y O O O Vr O O O (ad (Cr (ab O (Lf 2 O ?_)))));refine WL.kw (ip j b a' E [112,117,98] a_) ?_;intro ⟨bp,cS,aq⟩ ⟨bq,br,cT⟩;have cV:lg E=(bp,aq):=FH bq br;obtain ⟨cX,dm⟩:dB aq/\aq.length<=List.length (E):=FI ba bq br;refine ai O (Ln (Eb ?_))
 exact ct (⟨v.ds++[a3],cQ,cR,bp,cS,aq⟩:GD) (by show aq.length<v.q.length; omega) ⟨⟨by simp; omega,cX⟩,cT,n,(show aq.length<n by omega),by rw [z,Vi aj cV]; simp [pU]⟩ (λ_ h=>by
     have h:=h.aJ 7 rfl;have h:=h.aJ 7 rfl;have h:=h.aJ 7 rfl;have h:=h.aJ 7 rfl;have h:=h.aJ 7 rfl;have h:=h.aJ 5 rfl;have h:=Wt 6 h;have h:=Ws.cK h (b9:=[v0,b]) au
     exact h)
def Vt (h:¬(gm bZ).2=0):j0 bZ=(rm,(gm bZ).2):=by rw [j0,a8 h]
def Vu (h:(gm bZ).2=0) (a:mH (gm bZ).1=none):j0 bZ=(rm,1):=by rw [j0,av (by simp [h]),a]
variable {bp:cm}
def Vv (h:(gm bZ).2=0) (b:mH (gm bZ).1=some (bp,aj)) (a:0<aj.length\/¬iA bp=0):j0 bZ=(rm,1):=by
 rw [j0,av (by simp [h]),b]
 cases aj with
 | cons t r=>rfl
 | nil=>
   simp only;rw [av]
   rcases a with a | a
   · simp at a
   · exact a
def Vw (h:(gm bZ).2=0) (a:mH (gm bZ).1=some (bp,aj)) (b:aj.length=0) (c:iA bp=0):j0 bZ=(bp,0):=by
 rw [j0,av (by simp [h]),a];obtain rfl:aj=[]:=rL b;simp only;rw [a8 c]
def FN (h:(gm bZ).2=0):dB (gm bZ).1:=⟨S4 h,(Ia (Ib h)).2⟩
def B0:iB:=⟨none,0,none,0,none,0,none,0⟩
def FO (N:View):jb 7 6 N B0 rm:=⟨Sl.nil,Sl.nil,Sl.nil,Sl.nil⟩
variable {aB:Nat}
def ul {s:iB}  (h:jb ae aB bc s bp) (hv:bK bc b_):jb ae aB b_ s bp:=⟨n0 h.aP hv,tV h.decls hv,h.procs.imp λb o x a=>PI hv (eH _) (eH _) b o x a,h.main.imp λb o x a=>nw hv (eH _) (eH _) b o x a⟩
def um:prog.underlying 20=some (.interface (prog.methodsAt 20)):=aa
def l4:dV prog 30=some 1:=aa
def yU:zeroOf prog 30=some (.int .i64 0):=aa
def Vx:hx prog 227=some [(0,1)]:=aa
def Vy:zeroOf prog 227=some (.agg #[.slice none 0 0]):=aa
def Vz (a b:Nat) (c:Array Value) (h:c.size=5) (d:Int) (w:World) (f:Ws w (List.flatMap ah.ids [aE a (.cells c 27 (0,0)),aE b (.cells #[.int .i64 d] 30 (0,0))]) [aE a (.cells c 27 (0,0)),aE b (.cells #[.int .i64 d] 30 (0,0))] [] w) :
   CallsD prog 121 #[.pointer (some ⟨a,0,none⟩),.pointer (some ⟨b,0,none⟩)] (.returning) w λe g w'=>g = .returning/\(e = .returned (.tuple #[])/\Ws w (List.flatMap ah.ids [aE a (.cells c 27 (0,0)),aE b (.cells #[.int .i64 d] 30 (0,0))]) [aE a (.cells c 27 (0,0)),aE b (.cells #[.int .i64 d] 30 (0,0))] [] w'):=by
 refine yk func121 O 5 O O O O O (λ_=>rfl) (.inl ⟨O,O,O⟩) ?_;refine LW (W':=Ws w (List.flatMap ah.ids [aE a (.cells c 27 (0,0)),aE b (.cells #[.int .i64 d] 30 (0,0))]) [aE a (.cells c 27 (0,0)),aE b (.cells #[.int .i64 d] 30 (0,0))] []) (λ_ e=>by subst e; exact f) (I (HD um O) (ad ?_));refine WC.mf O ?_;refine Ck ?_;refine E0 O λw' f=>?_;exact ⟨O,f⟩
def Mj (a b:Nat) (c:List Value) (g:c.length=5) (d:Int) (w:World) (f:Ws w (List.flatMap ah.ids [aE a (.cells c.toArray 27 (0,0)),aE b (.cells #[.int .i64 d] 30 (0,0))]) [aE a (.cells c.toArray 27 (0,0)),aE b (.cells #[.int .i64 d] 30 (0,0))] [] w) :
   CallsD prog 121 #[.pointer (some ⟨a,0,none⟩),.pointer (some ⟨b,0,none⟩)] (.panicking g_) w λe h w'=>h = .panicking [⟨.iface 229 (.agg #[]),true,false⟩]/\(e = .returned (.tuple #[])/\Ws w (List.flatMap ah.ids [aE a (.cells c.toArray 27 (0,0)),aE b (.cells #[.int .i64 d] 30 (0,0))]) [aE a (.cells (cO [] none 0 0 none 0 0 none 0 0 none 0 0).toArray 27 (0,0)),aE b (.cells #[.int .i64 1] 30 (0,0))] [] w'):=by
 refine yk func121 O 5 O O O O O (λ_=>rfl) (.inr ⟨_,O,O,O⟩) ?_;refine LW (W':=Ws w (List.flatMap ah.ids [aE a (.cells c.toArray 27 (0,0)),aE b (.cells #[.int .i64 d] 30 (0,0))]) [aE a (.cells c.toArray 27 (0,0)),aE b (.cells #[.int .i64 d] 30 (0,0))] []) (λ_ e=>by subst e; exact f) (I (ON um O) (ad ?_));refine WC.C6 O ?_;refine Cr (I (Yb sx BZ O O) ?_);refine WL.qH 0 (.cells (cO [] none 0 0 none 0 0 none 0 0 none 0 0).toArray 27 (0,0)) Y O O O g9 O O (by simp [mU,g]) (by simp [jq,dO,cO,g,C3]) ?_;refine aT 1 Y O O O l4 O O O (Ln ?_);refine E0 O λw' f=>?_;exact ⟨O,f⟩
def VA (k:View) (s:Tx) (w:World) (C:Le k w) (D:Laid k) :
   Calls prog 44 #[st s] w λe w'=>∃r:iB,e = .returned (.tuple #[.agg (fi (j0 s).1 r).toArray,.int .i64 (j0 s).2])/\Ext w w'/\jb 7 6 (nv w w') r (j0 s).1:=by
 refine Aj func44 O 35 O O ?_;refine CE (Vs:=[k]) (Ws.init (by simp [C])) (ac ?_);refine Al Y O sx λd=>?_;refine dn 0 (.cells (cO [] none 0 0 none 0 0 none 0 0 none 0 0).toArray 27 (0,0)) O O ?_;refine Al Y O yU λf=>?_;refine dn 0 (.cells #[.int .i64 0] 30 (0,0)) O O (ad (ac (ab O ?_)));refine Ld Y O aK O (λr:Option Addr×Nat=>.tuple #[.slice r.1 (gm s).1.length r.2,.int .i64 (gm s).2]) (λF r=>Sl dW 3 F r.1 r.2 (gm s).1) (λw a=>TJ k s w a.V D) ?_;intro n E Q G;refine ab O (I (Yx O O) (I (Yx O O) (ai O (aT 0 Y O O O l4 O O O (ad (Cs (ac (I (Yd 0 O O O aa) (I (fh O O) ?_)))))))));refine ad ?_;refine Cc O (λo=>?_) (λo=>?_)
 ·have c:¬(gm s).2=0:=by simpa using o
  refine Cs ?_;refine CU (ky [.cell 2 27,.cell 3 30]) [1] [3] (.q false 0 (.q true 1 (.e 2 .nil .stop))) mixed aa (λ_ _ _ _ _ H h=>ml (fn:=f44) [.cell 2 27,.cell 3 30] O H h) ?_;refine U0 O (Wp 1) (Yb sx BZ O O) (U0 O (Wp 1) (Yd 0 O O O aa) ?_);refine Ue O (Wp 1) ?_ WU.stop;refine aT 1 Y O O O g9 O O O (Ln (Eu ?_));refine WU.nil (Wp 1) ?_;refine WS.e O ?_;refine aT 0 Y O O O l4 O O O (Ln (Es ?_));refine WS.nil ?_;refine Et (aZ (Er ?_));refine WE.fC (hX O (ej 1 O O bh O) (hA 0 O O O aa)) λw' a=>?_;rw [Vt c];exact ⟨B0,O,a.fr,FO _⟩
 have c:(gm s).2=0:=by simpa using o
 refine p4 0 (.cells #[.int .i64 0] 30 (0,0)) O (by show Obj.cells #[.int .i64 (gm s).2] _ _=_; rw [c]) (am (ac (I (v4 O) ?_)));refine WL.defer Y O ?_;refine ad (ac (ab O (I (Yb Vy Vx O O) ?_)));refine WL.box Y O O λp=>?_;refine ai O (ad (ac (ab O ?_)))
 refine oj (ι:=(cm×iB)×(Option Addr×Nat)×Tk) (κ:=(Option Addr×Nat)×Tk) [_] _ Y O aK O O (λi=>.agg (fi i.1.1 i.1.2).toArray) (λi=>bB p i.2.1 i.2.2) (λF i=>mH (gm s).1=some (i.1.1,i.2.2)/\jb 7 6 F i.1.2 i.1.1/\Sl dW 3 n i.2.1.1 i.2.1.2 i.2.2) (λ_=>g_) (λi=>bB p i.1 i.2) (λ_=>mH (gm s).1=none) ([n]) au qy (λw a=>(N_ p n E (gm s).1 w (FN c) G a).mono λe w' h=>by
     rcases h with ⟨x,s,t,q,l,u,v,J,K⟩ | ⟨t,q,l,u,v⟩
     · exact .inl ⟨((x,s),t,q),l,⟨u,v,J⟩,K⟩
     · exact .inr ⟨(t,q),l,u,v⟩) ?_ ?_
 ·intro ⟨R,S⟩ L;refine Ep ?_;refine WE.front 1 O ?_;refine WE.front 2 O ?_;refine WE.cA aK (lW [_,_] _ [aE d (.cells (cO [] none 0 0 none 0 0 none 0 0 none 0 0).toArray 27 (0,0)),aE f (.cells #[.int .i64 1] 30 (0,0))] O (λw a=>Mj d f (cO [] none 0 0 none 0 0 none 0 0 none 0 0) O 0 w a)) (hX O (ej 0 O O bh O) (hA 1 O O O aa)) λw' a=>?_;rw [Vu c L];exact ⟨B0,O,a.fr,FO _⟩
 intro M ⟨⟨b,j⟩,T,m⟩ N ⟨y,A,U⟩
 have W:wM b<=73728:=by
   have l:wM b+18*m.length<=18*(gm s).1.length:=K' y;have:=(FN c).len;omega
 refine aT 2 Y O O O g9 O O O (ad (Cs (Cs (p4 2 (.cells (fi b j).toArray 27 (0,0)) O O (Cr (ab O (I (bV O) (I (Yf pE O) (I (Yd 0 O O O aa) ?_)))))))));refine I (Yn ro O) (I (ed O O) (ab O ?_));apply Lo 3 O O O O Y O O O O O
 ·intro X;refine Vg (cI 2 O O bh O) (Lp (.g O O O) O aK O (λw a=>LL M 7 6 j b w a.V A Z) (Vg (fh O O) ?_));exact Gt 3 O O O
 refine ad ?_;refine Cc O (λz=>?_) (λz=>?_)
 ·have P:0<m.length\/¬iA b=0:=by simpa using z
  refine Cr (I (Yb sr sq O O) (I (pZ ss O) ?_));refine WL.panic Y O ?_;refine Ep ?_;refine WE.front 1 O ?_;refine WE.front 2 O ?_;refine WE.cA aK (lW [_,_] _ [aE d (.cells (cO [] none 0 0 none 0 0 none 0 0 none 0 0).toArray 27 (0,0)),aE f (.cells #[.int .i64 1] 30 (0,0))] O (λw a=>Mj d f (fi b j) O 0 w a)) (hX O (ej 0 O O bh O) (hA 1 O O O aa)) λw' a=>?_;rw [Vv c y P];exact ⟨B0,O,a.fr,FO _⟩
 have B:¬0<m.length/\iA b=0:=by simpa using z
 refine am (ac (I (cI 2 O O bh O) (aT 2 Y O O O g9 O O O (aT 1 Y O O O l4 O O O (ad (aZ ?_))))));refine WE.front 1 O ?_;refine WE.front 2 O ?_;refine WE.Dl aK (lW [_,_] _ [aE d (.cells (fi b j).toArray 27 (0,0)),aE f (.cells #[.int .i64 0] 30 (0,0))] O (λw a=>Vz d f (fi b j).toArray O 0 w a)) (hX O (ej 0 O O bh O) (hA 1 O O O aa)) λw' a=>?_;rw [Vw c y (by have:=B.1; show m.length=0; omega) B.2];exact ⟨j,O,a.fr,ul A (c8 a au N)⟩
def Mk (x:ak) (lv d:Nat):lx x lv d=if 6<d then lv==2 else o' lv x.op x.n x.mod x.nm x.args.length||kB x.args lv (d+1):=by cases x; rw [lx]; rfl
def VB (x:bE) (lv d:Nat):o_ x lv d=((qR lv x.op x.mod x.nm x.args.length x.body.length x.other.length||kB x.args lv 1)
     || (((inner x.op||decide (0<x.body.length))&&k3 x.body lv (d+1))||(decide (0<x.other.length)&&k3 x.other lv (d+1)))):=by cases x; rw [o_]; rfl
def oR (lv d:Nat):∀l:List ak,kB l lv d=l.any λx=>lx x lv d
 | []=>rfl
 | x::r=>by rw [kB,oR lv d r,sM]
def FR (lv d:Nat):∀l:List bE,cG l lv d=l.any λx=>o_ x lv d
 | []=>rfl
 | x::r=>by rw [cG,FR lv d r,sM]
def VC (h:∀j,j<kb.length->kb[j]?≠some bZ):kb.contains bZ=false:=by
 rw [vP];intro a;rw [vQ] at a;obtain ⟨j,b⟩:=ln a;exact h j (cS.1 b).1 b
def VD (w:World) :
   Calls prog 217 #[] w λe w'=>∃r:Option Addr×Nat,e = .returned (.slice r.1 kb.length r.2)/\Ext w w'/\Sl rdStr 1 (nv w w') r.1 r.2 kb:=by
 refine enter func217 O 2 O O ?_;refine CE (Vs:=[]) (Ws.init au) (ac (ai O (ad (ac ?_))));refine Lb Y O ei O O O O λa=>?_;refine ai O (ad (aZ ?_));refine WE.fm (hW O (hV O)) λw' b=>?_
 exact ⟨(some ⟨a,0,none⟩,15),O,b.fr,⟨show kb.length<=15 by decide,show 15<=9223372036854775807 by decide,au,λj x d=>⟨a,0,O,λk v c=>b.yc 0 O (by
     have:k<1:=(cS.1 c).1
     show (kb.flatMap eE)[0+j*1+k]? = some v
     rw [gC,kZ iM d this]; exact c)⟩⟩⟩
def vy (s:Tx) (w:World) :
   Calls prog 125 #[st s] w λe w'=>e = .returned (.bool (fo s))/\Ext w w':=by
 refine enter func125 O 20 O O ?_;refine CE (Vs:=[]) (Ws.init au) (ac (ai O (ad (ac ?_))));refine Ld Y O aK O (λr:Option Addr×Nat=>.slice r.1 kb.length r.2) (λH r=>Sl rdStr 1 H r.1 r.2 kb) (λw a=>VD w) ?_;intro l u v m;have y:kb.length=15:=rfl;refine ai O (ad (Cs (ac (ai O (ad (Cb ?_))))));refine fT (ι:=Nat) (λi=>[(4,.int .i64 (i:Int))]) [(0,_),(3,_)] (λi=>i<=kb.length/\∀j,j<i->kb[j]?≠some s) (λi=>kb.length-i) 0 ⟨cx _,au⟩ ?_;intro i ⟨hi,g⟩;refine Cs (ac (ab O (ab O (I (Yn dT O) (I (cy O O) (ad ?_))))));refine Cc O (λb=>?_) (λb=>?_)
 ·have n:i<kb.length:=by simpa using b
  obtain ⟨x,c⟩:=dw n;obtain ⟨o,p,z,d⟩:=m.aq i x c;have d:cw l o (p+i*1) (eE x):=d;refine am (Cs (Cb (ac (ab O (ab O (I (Yo dT O O sH Z) (I (cC 0 aa O O (d 0 _ O)) (ab O (I (mT O O) (ad ?_))))))))));refine Cc O (λf=>?_) (λf=>?_)
  ·have q:x=s:=by simpa using f
   refine ac (ai O (ad (aZ (cf (Er (Er (cf (Er ?_))))))));refine R1 O O λw' a=>?_;refine ⟨?_,a.fr⟩;rw [fo,vQ.2 (by rw [<-q]; exact gu c)];simp
  have t:¬x=s:=by simpa using f
  refine Ck (Eb (Et (Cr (ab O (I (Yi O O O Z) (ai O (Ln ?_)))))));exact ct (i+1) Z ⟨Z,λj k=>by rcases gT.1 k with h | rfl; exact g j h; rw [c]; intro e; injection e with e; exact t e⟩ ag
 have A:¬i<kb.length:=by simpa using b
 refine Ce (Ex (Ex (cU (Et (ac (ab O (Lp Y O aK O (λw a=>Fs s w) (ai O (ad (aZ ?_))))))))));refine R1 O O λw' a=>?_;refine ⟨?_,a.fr⟩;rw [fo,VC λj k=>g j Z];simp
def Ml (mod nm:Tx) (w:World) :
   Calls prog 264 #[st mod,st nm] w λe w'=>e = .returned (.bool (yp mod nm))/\Ext w w':=by
 refine enter func264 O 15 O O ?_;refine CE (Vs:=[]) (Ws.init au) (ac (ai O (ad (ac (ab O (I (mT O O) (ab O ?_)))))));apply Lo 2 O O O O Y O O O O O
 ·intro b;refine Vg (Ym O) (Lp (.g O O O) O aK O (λw a=>vy _ w) ?_);exact Gt 2 O O O
 refine ab O ?_;apply La 2 O O O O Y O O O O O
 ·intro c;refine Vg (Ym O) (Lp (.g O O O) O aK O (λw a=>vy _ w) ?_);exact Gt 2 O O O
 refine ai O (ad (aZ ?_));refine R1 O O λw' a=>?_;exact ⟨O,a.fr⟩
def Mm (op:Int) (w:World) :
   Calls prog 324 #[.int .i64 op] w λe w'=>e = .returned (.int .i64 (fw op))/\Ext w w':=by
 refine enter func324 O 13 O O ?_;refine CE (Vs:=[]) (Ws.init au) (ac (ai O (ad (Cs (ac (ab O (ad (Cb (Cs (ac (I (bx O O) (ai O ?_))))))))))));refine ad ?_;refine Cc O (λg=>?_) (λg=>?_)
 ·refine am ?_;refine Cc O (λc=>?_) (λc=>?_)
  ·refine ac (ai O (ad (aZ (cf (Er ?_)))));refine R1 O O λw' a=>?_;simp at g c;exact ⟨by unfold fw; (repeat' split)<;>first | rfl | (exfalso; omega),a.fr⟩
  refine Cs (ac (I (bx O O) (ai O (ad ?_))));refine Cc O (λd=>?_) (λd=>?_)
  ·refine am ?_;refine Cc O (λb=>?_) (λb=>?_)
   ·refine ac (ai O (ad (aZ (cf (Er ?_)))));refine R1 O O λw' a=>?_;simp at g c d b;exact ⟨by unfold fw; (repeat' split)<;>first | rfl | (exfalso; omega),a.fr⟩
   refine ac (I (bx O O) (ai O (ad ?_)));refine Cc O (λf=>?_) (λf=>?_)
   ·refine ac (ai O (ad (aZ (cf (Er ?_)))));refine R1 O O λw' a=>?_;simp at g c d b f;exact ⟨by unfold fw; (repeat' split)<;>first | rfl | (exfalso; omega),a.fr⟩
   refine Ck (Eb (Et (ac (ai O (ad (aZ ?_))))));refine R1 O O λw' a=>?_;simp at g c d b f;exact ⟨by unfold fw; (repeat' split)<;>first | rfl | (exfalso; omega),a.fr⟩
  refine Cr (I (bx O O) (ai O (ad ?_)));refine Cc O (λb=>?_) (λb=>?_)
  ·refine ac (ai O (ad (aZ (cf (Er ?_)))));refine R1 O O λw' a=>?_;simp at g c d b;exact ⟨by unfold fw; (repeat' split)<;>first | rfl | (exfalso; omega),a.fr⟩
  refine ac (I (bx O O) (ai O (ad ?_)));refine Cc O (λf=>?_) (λf=>?_)
  ·refine ac (ai O (ad (aZ (cf (Er ?_)))));refine R1 O O λw' a=>?_;simp at g c d b f;exact ⟨by unfold fw; (repeat' split)<;>first | rfl | (exfalso; omega),a.fr⟩
  refine Ck (Eb (Et (ac (ai O (ad (aZ ?_))))));refine R1 O O λw' a=>?_;simp at g c d b f;exact ⟨by unfold fw; (repeat' split)<;>first | rfl | (exfalso; omega),a.fr⟩
 refine ac (I (bx O O) (ai O (ad ?_)));refine Cc O (λh=>?_) (λh=>?_)
 ·refine am ?_;refine Cc O (λc=>?_) (λc=>?_)
  ·refine ac (ai O (ad (aZ (cf (Er ?_)))));refine R1 O O λw' a=>?_;simp at g h c;exact ⟨by unfold fw; (repeat' split)<;>first | rfl | (exfalso; omega),a.fr⟩
  refine Cs (ac (I (bx O O) (ai O (ad ?_))));refine Cc O (λd=>?_) (λd=>?_)
  ·refine am ?_;refine Cc O (λb=>?_) (λb=>?_)
   ·refine ac (ai O (ad (aZ (cf (Er ?_)))));refine R1 O O λw' a=>?_;simp at g h c d b;exact ⟨by unfold fw; (repeat' split)<;>first | rfl | (exfalso; omega),a.fr⟩
   refine ac (I (bx O O) (ai O (ad ?_)));refine Cc O (λf=>?_) (λf=>?_)
   ·refine ac (ai O (ad (aZ (cf (Er ?_)))));refine R1 O O λw' a=>?_;simp at g h c d b f;exact ⟨by unfold fw; (repeat' split)<;>first | rfl | (exfalso; omega),a.fr⟩
   refine Ck (Eb (Et (ac (ai O (ad (aZ ?_))))));refine R1 O O λw' a=>?_;simp at g h c d b f;exact ⟨by unfold fw; (repeat' split)<;>first | rfl | (exfalso; omega),a.fr⟩
  refine Cr (I (bx O O) (ai O (ad ?_)));refine Cc O (λb=>?_) (λb=>?_)
  ·refine ac (ai O (ad (aZ (cf (Er ?_)))));refine R1 O O λw' a=>?_;simp at g h c d b;exact ⟨by unfold fw; (repeat' split)<;>first | rfl | (exfalso; omega),a.fr⟩
  refine ac (I (bx O O) (ai O (ad ?_)));refine Cc O (λf=>?_) (λf=>?_)
  ·refine ac (ai O (ad (aZ (cf (Er ?_)))));refine R1 O O λw' a=>?_;simp at g h c d b f;exact ⟨by unfold fw; (repeat' split)<;>first | rfl | (exfalso; omega),a.fr⟩
  refine Ck (Eb (Et (ac (ai O (ad (aZ ?_))))));refine R1 O O λw' a=>?_;simp at g h c d b f;exact ⟨by unfold fw; (repeat' split)<;>first | rfl | (exfalso; omega),a.fr⟩
 refine Cr (I (bx O O) (ai O (ad ?_)));refine Cc O (λc=>?_) (λc=>?_)
 ·refine ac (ai O (ad (aZ (cf (Er ?_)))));refine R1 O O λw' a=>?_;simp at g h c;exact ⟨by unfold fw; (repeat' split)<;>first | rfl | (exfalso; omega),a.fr⟩
 refine Cs (ac (I (bx O O) (ai O (ad ?_))));refine Cc O (λd=>?_) (λd=>?_)
 ·refine am ?_;refine Cc O (λb=>?_) (λb=>?_)
  ·refine ac (ai O (ad (aZ (cf (Er ?_)))));refine R1 O O λw' a=>?_;simp at g h c d b;exact ⟨by unfold fw; (repeat' split)<;>first | rfl | (exfalso; omega),a.fr⟩
  refine ac (I (bx O O) (ai O (ad ?_)));refine Cc O (λf=>?_) (λf=>?_)
  ·refine ac (ai O (ad (aZ (cf (Er ?_)))));refine R1 O O λw' a=>?_;simp at g h c d b f;exact ⟨by unfold fw; (repeat' split)<;>first | rfl | (exfalso; omega),a.fr⟩
  refine Ck (Eb (Et (ac (ai O (ad (aZ ?_))))));refine R1 O O λw' a=>?_;simp at g h c d b f;exact ⟨by unfold fw; (repeat' split)<;>first | rfl | (exfalso; omega),a.fr⟩
 refine Cr (I (bx O O) (ai O (ad ?_)));refine Cc O (λb=>?_) (λb=>?_)
 ·refine ac (ai O (ad (aZ (cf (Er ?_)))));refine R1 O O λw' a=>?_;simp at g h c d b;exact ⟨by unfold fw; (repeat' split)<;>first | rfl | (exfalso; omega),a.fr⟩
 refine ac (I (bx O O) (ai O (ad ?_)));refine Cc O (λf=>?_) (λf=>?_)
 ·refine ac (ai O (ad (aZ (cf (Er ?_)))));refine R1 O O λw' a=>?_;simp at g h c d b f;exact ⟨by unfold fw; (repeat' split)<;>first | rfl | (exfalso; omega),a.fr⟩
 refine Ck (Eb (Et (ac (ai O (ad (aZ ?_))))));refine R1 O O λw' a=>?_;simp at g h c d b f;exact ⟨by unfold fw; (repeat' split)<;>first | rfl | (exfalso; omega),a.fr⟩
def Mn (op:Int) (w:World) :
   Calls prog 265 #[.int .i64 op] w λe w'=>e = .returned (.int .i64 (bL op))/\Ext w w':=by
 refine enter func265 O 8 O O ?_;refine CE (Vs:=[]) (Ws.init au) (ac (ai O (ad (Cs (ac (ab O (ad (Cb (ac (I (bx O O) (ai O ?_)))))))))));refine ad ?_;refine Cc O (λb=>?_) (λb=>?_)
 ·refine ac (ai O (ad (aZ (cf (Er ?_)))));refine R1 O O λw' a=>?_;simp at b;exact ⟨by unfold bL; (repeat' split)<;>first | rfl | (exfalso; omega),a.fr⟩
 refine ac (I (bx O O) (ai O (ad ?_)));refine Cc O (λc=>?_) (λc=>?_)
 ·refine ac (ai O (ad (aZ (cf (Er ?_)))));refine R1 O O λw' a=>?_;simp at b c;exact ⟨by unfold bL; (repeat' split)<;>first | rfl | (exfalso; omega),a.fr⟩
 refine Ck (Eb (Et (ac (ai O (ad (aZ ?_))))));refine R1 O O λw' a=>?_;simp at b c;exact ⟨by unfold bL; (repeat' split)<;>first | rfl | (exfalso; omega),a.fr⟩
def FT (op:Int) (w:World) :
   Calls prog 323 #[.int .i64 op] w λe w'=>e = .returned (.bool (dd op 3 5))/\Ext w w':=by
 refine enter func323 O 5 O O ?_;refine CE (Vs:=[]) (Ws.init au) (ac (ai O (ad (ac (ab O (Lp Y O aK O (λw a=>mB _ _ _ w) (ai O (ad (aZ ?_)))))))));refine R1 O O λw' a=>?_;exact ⟨O,a.fr⟩
def FU (op:Int) (w:World) :
   Calls prog 227 #[.int .i64 op] w λe w'=>e = .returned (.bool (dd op 1 3))/\Ext w w':=by
 refine enter func227 O 5 O O ?_;refine CE (Vs:=[]) (Ws.init au) (ac (ai O (ad (ac (ab O (Lp Y O aK O (λw a=>mB _ _ _ w) (ai O (ad (aZ ?_)))))))));refine R1 O O λw' a=>?_;exact ⟨O,a.fr⟩
def qt (lv:Nat) (k:Nat):((lv:Int)==(k:Int))=(lv==k):=by rw [j9]; simp; omega
variable {a9:Type}
def oS {p:a9->Bool} {l:List a9}  {x:a9} (h:l[ae]? = some x) (a:p x=true):l.any p=true:=any_true h a
def FV (H:View) (k:Nat) (x:ak) (a:Option Addr) (n lv d:Nat) (w:World) (ae:Le H w) (af:1<=lv/\lv<=3) (ah:d<=7) (t:Sl (gn k) 5 H a n x.args) :
   Calls prog 266 #[.agg #[.int .i64 x.op,.int .i64 x.n,st x.mod,st x.nm,.slice a x.args.length n],.int .i64 (lv:Int),.int .i64 (d:Int)] w λe w'=>e = .returned (.bool (lx x lv d))/\Ext w w':=by
 induction k using Nat.strongRecOn generalizing x a n d w
 rename_i k K;have aj:=t.cap;have al:=t.max;refine enter func266 O 106 O O ?_;refine CE (Vs:=[H]) (Ws.init (by simp [ae])) (ac ?_);refine WL.box Y O O λan=>?_;refine ai O (ad (Cs (ac (ab O (I (ed O O) (ad ?_))))));refine Cc O (λL=>?_) (λL=>?_)
 ·have M:6<d:=by simp at L; omega
  refine ac (ab O (I (bx O O) (ai O (ad (aZ (Er ?_))))));refine R1 O O λw' b=>?_;exact ⟨by rw [Mk,a8 M,<-qt]; rfl,b.fr⟩
 have M:¬6<d:=by simp at L; omega
 have q:lx x lv d=(o' lv x.op x.n x.mod x.nm x.args.length||kB x.args lv (d+1)):=by rw [Mk,av M]
 refine am (Cs (ac (ab O (ad (Cb (ac (I (bx O O) (ai O (ad ?_)))))))));refine Cc O (λN=>?_) (λN=>?_)
 ·have u:lv=1:=by simp at N; omega
  subst u;refine ac (I (Yf jI O) (I (Yd 0 O O O aa) (Lp Y O aK O (λw b=>mB _ _ _ w) (I (eR O) (ad ?_)))));refine Cc O (λP=>?_) (λP=>?_)
  ·have v:o' 1 x.op x.n x.mod x.nm x.args.length=true:=P;refine ac (ai O (ad (aZ (cf (Er ?_)))));refine R1 O O λw' b=>?_;exact ⟨by rw [q,v]; rfl,b.fr⟩
  have z:o' 1 x.op x.n x.mod x.nm x.args.length=false:=P;refine Ck (Eb (Et (Cs (ac (ai O (ad (Cb ?_)))))));refine fT (ι:=Nat) (λi=>[(7,.int .i64 (i:Int))]) [(1,_),(2,_),(3,_)] (λi=>i<=x.args.length/\∀j y,j<i->x.args[j]? = some y->lx y 1 (d+1)=false) (λi=>x.args.length-i) 0 ⟨cx _,au⟩ ?_;intro i ⟨hi,r⟩;refine Cs (ac (ab O (I (Yf bA O) (I (Yd 0 O O O aa) (I (Yn fG O) (I (cy O O) (ad ?_)))))));refine Cc O (λm=>?_) (λm=>?_)
  ·have A:i<x.args.length:=by simpa using m
   obtain ⟨y,o⟩:=dw A;obtain ⟨U,W,B,s⟩:=t.aq i y o
   obtain ⟨c,rfl⟩:∃c,k=c+1:=by
     cases k with
     | zero=>exact s.elim
     | succ c=>exact ⟨c,rfl⟩
   obtain ⟨C,D,E,F⟩:=s;refine am (Cs (Cb (ac (I (Yf bA O) (I (Yd 0 O O O aa) (ab O (I (Yo fG O O B Z) (I (eq 0 fY O O O (E)) (ab O (ab O ?_))))))))));refine I (Yi O O O Z) ?_
   refine Lp Y O aK O (λw b=>by
       have:=K c Z y C D (d+1) w b.V Z F
       exact this) ?_
   refine ad ?_;refine Cc O (λp=>?_) (λp=>?_)
   ·refine ac (ai O (ad (aZ (cf (Er (Er (cf (Er ?_))))))));refine R1 O O λw' b=>?_;exact ⟨by rw [q,oR,oS o p,n7],b.fr⟩
   refine Ck (Eb (Et (Cr (ab O (I (Yi O O O Z) (ai O (Ln ?_)))))));exact ct (i+1) Z ⟨Z,λj G l f=>by rcases gT.1 l with h | rfl; exact r j G h f; rw [o] at f; injection f with f; subst f; exact p⟩ ag
  have X:¬i<x.args.length:=by simpa using m
  have J:kB x.args 1 (d+1)=false:=by rw [oR]; exact any_false λj y l=>r j y (by have:=(cS.1 l).1; omega) l
  refine Ce (Ex (Ex (cU (Et (ac (ai O (ad (aZ ?_))))))));refine R1 O O λw' b=>?_;exact ⟨by rw [q,z,J]; rfl,b.fr⟩
 have ao:¬lv=1:=by simp at N; omega
 refine ac (I (bx O O) (ai O (ad ?_)));refine Cc O (λQ=>?_) (λQ=>?_)
 ·have u:lv=2:=by simp at Q; omega
  subst u;refine ac (I (Yf bA O) (I (Yd 0 O O O aa) (I (Yn fG O) (I (ed O O) ?_))));rw [vo];refine ad ?_;refine Cc O (λR=>?_) (λR=>?_)
  ·have v:o' 2 x.op x.n x.mod x.nm x.args.length=true:=R;refine ac (ai O (ad (aZ (cf (Er ?_)))));refine R1 O O λw' b=>?_;exact ⟨by rw [q,v]; rfl,b.fr⟩
  have z:o' 2 x.op x.n x.mod x.nm x.args.length=false:=R;refine Ck (Eb (Et (Cs (ac (ai O (ad (Cb ?_)))))));refine fT (ι:=Nat) (λi=>[(7,.int .i64 (i:Int))]) [(1,_),(2,_),(3,_)] (λi=>i<=x.args.length/\∀j y,j<i->x.args[j]? = some y->lx y 2 (d+1)=false) (λi=>x.args.length-i) 0 ⟨cx _,au⟩ ?_;intro i ⟨hi,r⟩;refine Cs (ac (ab O (I (Yf bA O) (I (Yd 0 O O O aa) (I (Yn fG O) (I (cy O O) (ad ?_)))))));refine Cc O (λm=>?_) (λm=>?_)
  ·have A:i<x.args.length:=by simpa using m
   obtain ⟨y,o⟩:=dw A;obtain ⟨U,W,B,s⟩:=t.aq i y o
   obtain ⟨c,rfl⟩:∃c,k=c+1:=by
     cases k with
     | zero=>exact s.elim
     | succ c=>exact ⟨c,rfl⟩
   obtain ⟨C,D,E,F⟩:=s;refine am (Cs (Cb (ac (I (Yf bA O) (I (Yd 0 O O O aa) (ab O (I (Yo fG O O B Z) (I (eq 0 fY O O O (E)) (ab O (ab O ?_))))))))));refine I (Yi O O O Z) ?_
   refine Lp Y O aK O (λw b=>by
       have:=K c Z y C D (d+1) w b.V Z F
       exact this) ?_
   refine ad ?_;refine Cc O (λp=>?_) (λp=>?_)
   ·refine ac (ai O (ad (aZ (cf (Er (Er (cf (Er ?_))))))));refine R1 O O λw' b=>?_;exact ⟨by rw [q,oR,oS o p,n7],b.fr⟩
   refine Ck (Eb (Et (Cr (ab O (I (Yi O O O Z) (ai O (Ln ?_)))))));exact ct (i+1) Z ⟨Z,λj G l f=>by rcases gT.1 l with h | rfl; exact r j G h f; rw [o] at f; injection f with f; subst f; exact p⟩ ag
  have X:¬i<x.args.length:=by simpa using m
  have J:kB x.args 2 (d+1)=false:=by rw [oR]; exact any_false λj y l=>r j y (by have:=(cS.1 l).1; omega) l
  refine Ce (Ex (Ex (cU (Et (ac (ai O (ad (aZ ?_))))))));refine R1 O O λw' b=>?_;exact ⟨by rw [q,z,J]; rfl,b.fr⟩
 have ap:¬lv=2:=by simp at Q; omega
 refine ac (I (bx O O) (ai O (ad ?_)));refine Cc O (λS=>?_) (λS=>?_)
 ·have u:lv=3:=by simp at S; omega
  subst u;refine Cs ?_;refine WC.hU [(0,true),(1,true),(2,false),(3,true),(4,true),(5,true),(6,true),(7,true),(8,false),(9,true),(10,true),(11,true),(12,true),(13,true),(14,false),(15,true),(16,true),(17,true),(18,true),(19,true),(20,true),(21,true),(22,true),(23,true),(24,true),(25,true),(26,true),(27,true),(28,true),(29,true),(30,true),(31,true),(32,true),(33,true),(34,false),(35,true),(36,true),(37,true),(38,true),(39,true),(40,true),(41,true),(42,true),(43,true),(44,true),(45,true),(46,true),(47,true),(48,true),(49,true),(50,true),(51,false),(52,true),(53,true),(54,true),(55,true),(56,true),(57,true),(58,true),(59,false),(60,true),(61,true),(62,true)] mixed aa (λ_ _ _ d _ h=>by cases d<;>exact h) ?_;refine D0 O ag (Yf jI O) (D0 O ag (Yd 0 O O O aa) ?_);refine De O ag ?_;refine Lp Y O aK O (λw b=>FT _ w) (Ln (Ed (D0 O ag (Ym O) ?_)));apply WD.and 6 O O O O O Y O ag O O O O
  ·intro ar;refine Dq O (.g O O O) O ag (Yf rr O) (Dq O (.g O O O) O ag (Yd 0 O O O aa) (Dq O (.g O O O) O ag (Yf rs O) (Dq O (.g O O O) O ag (Yd 0 O O O aa) ?_)));refine De O ag ?_;refine Lp (.g O O O) O aK O (λw b=>Ml _ _ w) (Ln (Ed (Dq O (.g O O O) O ag (eR O) ?_)));exact Gi 6 ag O O O
  refine D0 O ag (Ym O) ?_;apply WD.or 14 (x:=(!dd x.op 3 5&&(!(x.mod==[])||!(x.nm==[])))) O O O O O Y O ag O O O O
  ·intro aw;refine Dq O (.g O O O) O ag (Yf jI O) (Dq O (.g O O O) O ag (Yd 0 O O O aa) ?_);refine De O ag ?_;refine Lp (.g O O O) O aK O (λw b=>FT _ w) (Ln (Ed (Dq O (.g O O O) O ag (eR O) (Dq O (.g O O O) O ag (Ym O) ?_))));apply WD.and 8 O O O O O (.g O O O) O ag O O O O
   ·intro ax;refine Dq O (.g O O O) O ag (Yf rr O) (Dq O (.g O O O) O ag (Yd 0 O O O aa) (Dq O (.g O O O) O ag (rQ O O) (Dq O (.g O O O) O ag (Ym O) ?_)));apply WD.or 3 O O O O O (.g O O O) O ag O O O O
    ·intro ay;refine Dq O (.g O O O) O ag (Yf rs O) (Dq O (.g O O O) O ag (Yd 0 O O O aa) (Dq O (.g O O O) O ag (rQ O O) ?_));exact Gi 3 ag O O O
    exact Gi 5 ag O O O
   exact Gi 6 ag O O O
  refine D0 O ag (Ym O) ?_;apply WD.or 9 O O O O O Y O ag O O O O
  ·intro az;refine Dq O (.g O O O) O ag (Yf jI O) (Dq O (.g O O O) O ag (Yd 0 O O O aa) (Dq O (.g O O O) O ag (bx O O) (Dq O (.g O O O) O ag (Ym O) ?_)));apply WD.and 4 O O O O O (.g O O O) O ag O O O O
   ·intro aA;refine Dq O (.g O O O) O ag (Yf gK O) (Dq O (.g O O O) O ag (Yd 0 O O O aa) ?_);refine De O ag ?_;refine Lp (.g O O O) O aK O (λw b=>mB _ _ _ w) (Ln (Ed (Dq O (.g O O O) O ag (eR O) ?_)));exact Gi 4 ag O O O
   exact Gi 5 ag O O O
  refine D0 O ag (Ym O) ?_;apply WD.or 8 O O O O O Y O ag O O O O
  ·intro aB;refine Dq O (.g O O O) O ag (Yf jI O) (Dq O (.g O O O) O ag (Yd 0 O O O aa) (Dq O (.g O O O) O ag (fh O O) (Dq O (.g O O O) O ag (Ym O) ?_)));apply WD.and 3 O O O O O (.g O O O) O ag O O O O
   ·intro aC;refine Dq O (.g O O O) O ag (Yf gK O) (Dq O (.g O O O) O ag (Yd 0 O O O aa) (Dq O (.g O O O) O ag (fh O O) ?_));exact Gi 3 ag O O O
   exact Gi 5 ag O O O
  refine D0 O ag (Ym O) ?_;apply WD.or 13 O O O O O Y O ag O O O O
  ·intro aD;refine Dq O (.g O O O) O ag (Yf jI O) (Dq O (.g O O O) O ag (Yd 0 O O O aa) ?_);refine De O ag ?_;refine Lp (.g O O O) O aK O (λw b=>Mm _ w) (Ln (Ed (Dq O (.g O O O) O ag (ih O O) (Dq O (.g O O O) O ag (Ym O) ?_))));apply WD.and 7 O O O O O (.g O O O) O ag O O O O
   ·intro aE;refine Dq O (.g O O O) O ag (Yf bA O) (Dq O (.g O O O) O ag (Yd 0 O O O aa) (Dq O (.g O O O) O ag (Yn fG O) (Dq O (.g O O O) O ag (Yf jI O) (Dq O (.g O O O) O ag (Yd 0 O O O aa) ?_))));refine De O ag ?_;refine Lp (.g O O O) O aK O (λw b=>Mm _ w) (Ln (Ed (Dq O (.g O O O) O ag (fh O O) ?_)));exact Gi 7 ag O O O
   exact Gi 6 ag O O O
  refine WD.nil ag ?_;refine Et ?_;refine Cc O (λT=>?_) (λT=>?_)
  ·have v:o' 3 x.op x.n x.mod x.nm x.args.length=true:=T;refine ac (ai O (ad (aZ (cf (Er ?_)))));refine R1 O O λw' b=>?_;exact ⟨by rw [q,v]; rfl,b.fr⟩
  have z:o' 3 x.op x.n x.mod x.nm x.args.length=false:=T;refine Ck (Eb (Et (Cs (ac (ai O (ad (Cb ?_)))))));refine fT (ι:=Nat) (λi=>[(7,.int .i64 (i:Int))]) [(1,_),(2,_),(3,_)] (λi=>i<=x.args.length/\∀j y,j<i->x.args[j]? = some y->lx y 3 (d+1)=false) (λi=>x.args.length-i) 0 ⟨cx _,au⟩ ?_;intro i ⟨hi,r⟩;refine Cs (ac (ab O (I (Yf bA O) (I (Yd 0 O O O aa) (I (Yn fG O) (I (cy O O) (ad ?_)))))));refine Cc O (λm=>?_) (λm=>?_)
  ·have A:i<x.args.length:=by simpa using m
   obtain ⟨y,o⟩:=dw A;obtain ⟨U,W,B,s⟩:=t.aq i y o
   obtain ⟨c,rfl⟩:∃c,k=c+1:=by
     cases k with
     | zero=>exact s.elim
     | succ c=>exact ⟨c,rfl⟩
   obtain ⟨C,D,E,F⟩:=s;refine am (Cs (Cb (ac (I (Yf bA O) (I (Yd 0 O O O aa) (ab O (I (Yo fG O O B Z) (I (eq 0 fY O O O (E)) (ab O (ab O ?_))))))))));refine I (Yi O O O Z) ?_
   refine Lp Y O aK O (λw b=>by
       have:=K c Z y C D (d+1) w b.V Z F
       exact this) ?_
   refine ad ?_;refine Cc O (λp=>?_) (λp=>?_)
   ·refine ac (ai O (ad (aZ (cf (Er (Er (cf (Er ?_))))))));refine R1 O O λw' b=>?_;exact ⟨by rw [q,oR,oS o p,n7],b.fr⟩
   refine Ck (Eb (Et (Cr (ab O (I (Yi O O O Z) (ai O (Ln ?_)))))));exact ct (i+1) Z ⟨Z,λj G l f=>by rcases gT.1 l with h | rfl; exact r j G h f; rw [o] at f; injection f with f; subst f; exact p⟩ ag
  have X:¬i<x.args.length:=by simpa using m
  have J:kB x.args 3 (d+1)=false:=by rw [oR]; exact any_false λj y l=>r j y (by have:=(cS.1 l).1; omega) l
  refine Ce (Ex (Ex (cU (Et (ac (ai O (ad (aZ ?_))))))));refine R1 O O λw' b=>?_;exact ⟨by rw [q,z,J]; rfl,b.fr⟩
 exact (show False by simp at S; omega).elim
def VE {l:List bE} {lv d:Nat} (h:¬6<d):k3 l lv d=(((lv==2)&&decide (10<l.length))||cG l lv d):=by unfold k3 oi; rw [av h]
def VF (H:View) (ke k lv:Nat):Prop:=∀(l:List bE) (a:Option Addr) (n d:Nat) (w:World),Le H w->d<=7->Sl (e5 ke k) 6 H a n l->Calls prog 126 #[.slice a l.length n,.int .i64 (lv:Int),.int .i64 (d:Int)] w λe w'=>e = .returned (.bool (k3 l lv d))/\Ext w w'
def sy (s:Tx):(eE s).all (·.oneCell')=true:=rfl
def VG (a:(((ae==2)&&((decide (3<bp.aP.length)||decide (10<bp.decls.length))||decide (6<bp.procs.length)))||iY ae bp.nm)=false) (b:bp.aP.any (iY ae)=false) (c:bp.decls.any (k4 ae)=false) (d:bp.procs.any (kC ae)=false):kD bp ae=k3 bp.main ae 1:=by
 unfold kD; rw [a,b,c,d]; rfl
def VH (a:(((ae==2)&&((decide (3<bp.aP.length)||decide (10<bp.decls.length))||decide (6<bp.procs.length)))||iY ae bp.nm)=true):kD bp ae=true:=by unfold kD; rw [a]; rfl
def VI (h:bp.aP.any (iY ae)=true):kD bp ae=true:=by unfold kD; rw [h]; simp
def Mo (h:bp.decls.any (k4 ae)=true):kD bp ae=true:=by unfold kD; rw [h]; simp
def Mp (h:bp.procs.any (kC ae)=true):kD bp ae=true:=by unfold kD; rw [h]; simp
def VJ (H:View) (ke k:Nat) (x:bE) (a:Option Addr) (n:Nat) (a2:Option Addr) (n2:Nat) (a3:Option Addr) (n3 lv d:Nat) (w:World) (an:Le H w) (N:1<=lv/\lv<=3) (ao:d<=6) (t:VF H ke k lv) (u:Sl (gn ke) 5 H a n x.args) (v:Sl (e5 ke k) 6 H a2 n2 x.body) (z:Sl (e5 ke k) 6 H a3 n3 x.other) :
   Calls prog 218 #[.agg #[.int .i64 x.op,st x.mod,st x.nm,.slice a x.args.length n,.slice a2 x.body.length n2,.slice a3 x.other.length n3],.int .i64 (lv:Int),.int .i64 (d:Int)] w λe w'=>e = .returned (.bool (o_ x lv d))/\Ext w w':=by
 have ap:=u.cap;have ar:=u.max;have av:=v.cap;have aw:=z.cap;have ax:=v.max;have ay:=z.max;have q:=VB x lv d;refine enter func218 O 144 O O ?_;refine CE (Vs:=[H]) (Ws.init (by simp [an])) (ac ?_);refine WL.box Y O O λaz=>?_;refine ai O (ad (Cs (ac (ab O (ad (Cb (ac (I (bx O O) (ai O (ad ?_))))))))));refine Cc O (λP=>?_) (λP=>?_)
 ·have A:lv=1:=by simp at P; omega
  subst A;refine ac (I (Yf ht O) (I (Yd 0 O O O aa) (Lp Y O aK O (λw b=>mB _ _ _ w) (I (eR O) (ad ?_)))));refine Cc O (λQ=>?_) (λQ=>?_)
  ·have B:qR 1 x.op x.mod x.nm x.args.length x.body.length x.other.length=true:=Q;refine ac (ai O (ad (aZ (cf (Er ?_)))));refine R1 O O λw' b=>?_;exact ⟨by rw [q,B]; rfl,b.fr⟩
  have C:qR 1 x.op x.mod x.nm x.args.length x.body.length x.other.length=false:=Q;refine Ck (Eb (Et (Cs (ac (ai O (ad (Cb ?_)))))));refine fT (ι:=Nat) (λi=>[(7,.int .i64 (i:Int))]) [(1,_),(2,_),(3,_)] (λi=>i<=x.args.length/\∀j y,j<i->x.args[j]? = some y->lx y 1 1=false) (λi=>x.args.length-i) 0 ⟨cx _,au⟩ ?_;intro i ⟨hi,r⟩;refine Cs (ac (ab O (I (Yf h5 O) (I (Yd 0 O O O aa) (I (Yn fG O) (I (cy O O) (ad ?_)))))));refine Cc O (λm=>?_) (λm=>?_)
  ·have D:i<x.args.length:=by simpa using m
   obtain ⟨y,o⟩:=dw D;obtain ⟨W,X,E,s⟩:=u.aq i y o
   obtain ⟨c,rfl⟩:∃c,ke=c+1:=by
     cases ke with
     | zero=>exact s.elim
     | succ c=>exact ⟨c,rfl⟩
   obtain ⟨F,G,J,K⟩:=s;refine am (Cs (Cb (ac (I (Yf h5 O) (I (Yd 0 O O O aa) (ab O (I (Yo fG O O E Z) (I (eq 0 fY O O O (J)) (ab O (Lp Y O aK O (λw b=>FV H c y F G _ 1 w b.V N Z K) ?_))))))))));refine ad ?_;refine Cc O (λp=>?_) (λp=>?_)
   ·refine ac (ai O (ad (aZ (cf (Er (Er (cf (Er ?_))))))));refine R1 O O λw' b=>?_;exact ⟨by rw [q,oR,oS o p,n7,sO],b.fr⟩
   refine Ck (Eb (Et (Cr (ab O (I (Yi O O O Z) (ai O (Ln ?_)))))));exact ct (i+1) Z ⟨Z,λj L l f=>by rcases gT.1 l with h | rfl; exact r j L h f; rw [o] at f; injection f with f; subst f; exact p⟩ ag
  have ae:¬i<x.args.length:=by simpa using m
  have M:kB x.args 1 1=false:=by rw [oR]; exact any_false λj y l=>r j y (by have:=(cS.1 l).1; omega) l
  refine Ce (Ex (Ex (cU (Et (ac (I (Yf ht O) (I (Yd 0 O O O aa) (I (bx O O) (ab O ?_)))))))));apply Lo 3 O O O O Y O O O O O
  ·intro af;refine Vg (Yf ht O) (Vg (Yd 0 O O O aa) (Vg (bx O O) ?_));exact Gt 3 O O O
  refine ai O (ad (ac (ab O (ab O ?_))));apply Lo 4 O O O O Y O O O O O
  ·intro ah;refine Vg (Yf mL O) (Vg (Yd 0 O O O aa) (Vg (Yn h_ O) (Vg (ed O O) ?_)));rw [nV];exact Gt 4 O O O
  refine ab O ?_;apply La 6 O O O O Y O O O O O
  ·intro aj;refine Vg (Yf mL O) (Vg (Yd 0 O O O aa) (Vg (Ym O) (Vg (Ym O) (Vg (Yi O O O Z) (Lp (.g O O O) O aK O (λw b=>t x.body a2 n2 (d+1) w b.V Z v) ?_)))));exact Gt 6 O O O
  refine ab O ?_;apply Lo 12 O O O O Y O O O O O
  ·intro ak;refine Vg (Yf lN O) (Vg (Yd 0 O O O aa) (Vg (Yn h_ O) (Vg (ed O O) ?_)));rw [nV];refine Vg (Ym O) ?_;apply La 6 O O O O (.g O O O) O O O O O
   ·intro al;refine Vg (Yf lN O) (Vg (Yd 0 O O O aa) (Vg (Ym O) (Vg (Ym O) (Vg (Yi O O O Z) (Lp (.g O O O) O aK O (λw b=>t x.other a3 n3 (d+1) w b.V Z z) ?_)))));exact Gt 6 O O O
   exact Gt 6 O O O
  refine ai O (ad (aZ ?_));refine R1 O O λw' b=>?_;exact ⟨by rw [q,C,M]; rfl,b.fr⟩
 have aA:¬lv=1:=by simp at P; omega
 refine ac (I (bx O O) (ai O (ad ?_)));refine Cc O (λR=>?_) (λR=>?_)
 ·have A:lv=2:=by simp at R; omega
  subst A;refine ac (I (Yf h5 O) (I (Yd 0 O O O aa) (I (Yn fG O) (I (ed O O) ?_))));rw [vo];refine ad ?_;refine Cc O (λS=>?_) (λS=>?_)
  ·have B:qR 2 x.op x.mod x.nm x.args.length x.body.length x.other.length=true:=S;refine ac (ai O (ad (aZ (cf (Er ?_)))));refine R1 O O λw' b=>?_;exact ⟨by rw [q,B]; rfl,b.fr⟩
  have C:qR 2 x.op x.mod x.nm x.args.length x.body.length x.other.length=false:=S;refine Ck (Eb (Et (Cs (ac (ai O (ad (Cb ?_)))))));refine fT (ι:=Nat) (λi=>[(7,.int .i64 (i:Int))]) [(1,_),(2,_),(3,_)] (λi=>i<=x.args.length/\∀j y,j<i->x.args[j]? = some y->lx y 2 1=false) (λi=>x.args.length-i) 0 ⟨cx _,au⟩ ?_;intro i ⟨hi,r⟩;refine Cs (ac (ab O (I (Yf h5 O) (I (Yd 0 O O O aa) (I (Yn fG O) (I (cy O O) (ad ?_)))))));refine Cc O (λm=>?_) (λm=>?_)
  ·have D:i<x.args.length:=by simpa using m
   obtain ⟨y,o⟩:=dw D;obtain ⟨W,X,E,s⟩:=u.aq i y o
   obtain ⟨c,rfl⟩:∃c,ke=c+1:=by
     cases ke with
     | zero=>exact s.elim
     | succ c=>exact ⟨c,rfl⟩
   obtain ⟨F,G,J,K⟩:=s;refine am (Cs (Cb (ac (I (Yf h5 O) (I (Yd 0 O O O aa) (ab O (I (Yo fG O O E Z) (I (eq 0 fY O O O (J)) (ab O (Lp Y O aK O (λw b=>FV H c y F G _ 1 w b.V N Z K) ?_))))))))));refine ad ?_;refine Cc O (λp=>?_) (λp=>?_)
   ·refine ac (ai O (ad (aZ (cf (Er (Er (cf (Er ?_))))))));refine R1 O O λw' b=>?_;exact ⟨by rw [q,oR,oS o p,n7,sO],b.fr⟩
   refine Ck (Eb (Et (Cr (ab O (I (Yi O O O Z) (ai O (Ln ?_)))))));exact ct (i+1) Z ⟨Z,λj L l f=>by rcases gT.1 l with h | rfl; exact r j L h f; rw [o] at f; injection f with f; subst f; exact p⟩ ag
  have ae:¬i<x.args.length:=by simpa using m
  have M:kB x.args 2 1=false:=by rw [oR]; exact any_false λj y l=>r j y (by have:=(cS.1 l).1; omega) l
  refine Ce (Ex (Ex (cU (Et (ac (I (Yf ht O) (I (Yd 0 O O O aa) (I (bx O O) (ab O ?_)))))))));apply Lo 3 O O O O Y O O O O O
  ·intro af;refine Vg (Yf ht O) (Vg (Yd 0 O O O aa) (Vg (bx O O) ?_));exact Gt 3 O O O
  refine ai O (ad (ac (ab O (ab O ?_))));apply Lo 4 O O O O Y O O O O O
  ·intro ah;refine Vg (Yf mL O) (Vg (Yd 0 O O O aa) (Vg (Yn h_ O) (Vg (ed O O) ?_)));rw [nV];exact Gt 4 O O O
  refine ab O ?_;apply La 6 O O O O Y O O O O O
  ·intro aj;refine Vg (Yf mL O) (Vg (Yd 0 O O O aa) (Vg (Ym O) (Vg (Ym O) (Vg (Yi O O O Z) (Lp (.g O O O) O aK O (λw b=>t x.body a2 n2 (d+1) w b.V Z v) ?_)))));exact Gt 6 O O O
  refine ab O ?_;apply Lo 12 O O O O Y O O O O O
  ·intro ak;refine Vg (Yf lN O) (Vg (Yd 0 O O O aa) (Vg (Yn h_ O) (Vg (ed O O) ?_)));rw [nV];refine Vg (Ym O) ?_;apply La 6 O O O O (.g O O O) O O O O O
   ·intro al;refine Vg (Yf lN O) (Vg (Yd 0 O O O aa) (Vg (Ym O) (Vg (Ym O) (Vg (Yi O O O Z) (Lp (.g O O O) O aK O (λw b=>t x.other a3 n3 (d+1) w b.V Z z) ?_)))));exact Gt 6 O O O
   exact Gt 6 O O O
  refine ai O (ad (aZ ?_));refine R1 O O λw' b=>?_;exact ⟨by rw [q,C,M]; rfl,b.fr⟩
 have aB:¬lv=2:=by simp at R; omega
 refine ac (I (bx O O) (ai O (ad ?_)));refine Cc O (λT=>?_) (λT=>?_)
 ·have A:lv=3:=by simp at T; omega
  subst A;refine Cs ?_;refine WC.hU [(0,true),(1,true),(2,false),(3,true),(4,true),(5,true),(6,true),(7,true),(8,false),(9,true),(10,true),(11,true),(12,true),(13,true),(14,false),(15,true),(16,true),(17,true),(18,true),(19,true),(20,true),(21,true),(22,true),(23,true),(24,true),(25,true),(26,true),(27,true),(28,true),(29,true),(30,false),(31,true),(32,true),(33,true),(34,true),(35,true),(36,true),(37,true),(38,false),(39,true),(40,true),(41,true),(42,true),(43,true),(44,true),(45,true),(46,true),(47,true),(48,true),(49,true),(50,true),(51,true),(52,true),(53,true),(54,true),(55,true),(56,true),(57,true),(58,true),(59,true),(60,true),(61,true),(62,true),(63,true),(64,true),(65,true),(66,true),(67,true),(68,true)] mixed aa (λ_ _ _ d _ h=>by cases d<;>exact h) ?_;refine D0 O ag (Yf ht O) (D0 O ag (Yd 0 O O O aa) ?_);refine De O ag ?_;refine Lp Y O aK O (λw b=>FU _ w) (Ln (Ed (D0 O ag (Ym O) ?_)));apply WD.and 6 O O O O O Y O ag O O O O
  ·intro aC;refine Dq O (.g O O O) O ag (Yf qm O) (Dq O (.g O O O) O ag (Yd 0 O O O aa) (Dq O (.g O O O) O ag (Yf qn O) (Dq O (.g O O O) O ag (Yd 0 O O O aa) ?_)));refine De O ag ?_;refine Lp (.g O O O) O aK O (λw b=>Ml _ _ w) (Ln (Ed (Dq O (.g O O O) O ag (eR O) ?_)));exact Gi 6 ag O O O
  refine D0 O ag (Ym O) ?_;apply WD.or 14 (x:=(!dd x.op 1 3&&(!(x.mod==[])||!(x.nm==[])))) O O O O O Y O ag O O O O
  ·intro aD;refine Dq O (.g O O O) O ag (Yf ht O) (Dq O (.g O O O) O ag (Yd 0 O O O aa) ?_);refine De O ag ?_;refine Lp (.g O O O) O aK O (λw b=>FU _ w) (Ln (Ed (Dq O (.g O O O) O ag (eR O) (Dq O (.g O O O) O ag (Ym O) ?_))));apply WD.and 8 O O O O O (.g O O O) O ag O O O O
   ·intro aE;refine Dq O (.g O O O) O ag (Yf qm O) (Dq O (.g O O O) O ag (Yd 0 O O O aa) (Dq O (.g O O O) O ag (rQ O O) (Dq O (.g O O O) O ag (Ym O) ?_)));apply WD.or 3 O O O O O (.g O O O) O ag O O O O
    ·intro aF;refine Dq O (.g O O O) O ag (Yf qn O) (Dq O (.g O O O) O ag (Yd 0 O O O aa) (Dq O (.g O O O) O ag (rQ O O) ?_));exact Gi 3 ag O O O
    exact Gi 5 ag O O O
   exact Gi 6 ag O O O
  refine D0 O ag (Ym O) ?_;apply WD.or 13 O O O O O Y O ag O O O O
  ·intro aG;refine Dq O (.g O O O) O ag (Yf ht O) (Dq O (.g O O O) O ag (Yd 0 O O O aa) ?_);refine De O ag ?_;refine Lp (.g O O O) O aK O (λw b=>Mn _ w) (Ln (Ed (Dq O (.g O O O) O ag (ih O O) (Dq O (.g O O O) O ag (Ym O) ?_))));apply WD.and 7 O O O O O (.g O O O) O ag O O O O
   ·intro aH;refine Dq O (.g O O O) O ag (Yf h5 O) (Dq O (.g O O O) O ag (Yd 0 O O O aa) (Dq O (.g O O O) O ag (Yn fG O) (Dq O (.g O O O) O ag (Yf ht O) (Dq O (.g O O O) O ag (Yd 0 O O O aa) ?_))));refine De O ag ?_;refine Lp (.g O O O) O aK O (λw b=>Mn _ w) (Ln (Ed (Dq O (.g O O O) O ag (fh O O) ?_)));exact Gi 7 ag O O O
   exact Gi 6 ag O O O
  refine D0 O ag (Ym O) ?_;apply WD.or 14 (x:=((!(x.op==4)&&!(x.op==5))&&decide (0<x.body.length))) O O O O O Y O ag O O O O
  ·intro aI;refine Dq O (.g O O O) O ag (Yf ht O) (Dq O (.g O O O) O ag (Yd 0 O O O aa) (Dq O (.g O O O) O ag (fh O O) (Dq O (.g O O O) O ag (Ym O) ?_)));apply WD.and 3 O O O O O (.g O O O) O ag O O O O
   ·intro aJ;refine Dq O (.g O O O) O ag (Yf ht O) (Dq O (.g O O O) O ag (Yd 0 O O O aa) (Dq O (.g O O O) O ag (fh O O) ?_));exact Gi 3 ag O O O
   refine Dq O (.g O O O) O ag (Ym O) ?_;apply WD.and 4 O O O O O (.g O O O) O ag O O O O
   ·intro aL;refine Dq O (.g O O O) O ag (Yf mL O) (Dq O (.g O O O) O ag (Yd 0 O O O aa) (Dq O (.g O O O) O ag (Yn h_ O) (Dq O (.g O O O) O ag (ed O O) ?_)));rw [nV];exact Gi 4 ag O O O
   exact Gi 7 ag O O O
  refine D0 O ag (Ym O) ?_;apply WD.or 9 O O O O O Y O ag O O O O
  ·intro aM;refine Dq O (.g O O O) O ag (Yf ht O) (Dq O (.g O O O) O ag (Yd 0 O O O aa) (Dq O (.g O O O) O ag (fh O O) (Dq O (.g O O O) O ag (Ym O) ?_)));apply WD.and 4 O O O O O (.g O O O) O ag O O O O
   ·intro aN;refine Dq O (.g O O O) O ag (Yf lN O) (Dq O (.g O O O) O ag (Yd 0 O O O aa) (Dq O (.g O O O) O ag (Yn h_ O) (Dq O (.g O O O) O ag (ed O O) ?_)));rw [nV];exact Gi 4 ag O O O
   exact Gi 5 ag O O O
  refine WD.nil ag ?_;refine Et ?_;refine Cc O (λU=>?_) (λU=>?_)
  ·have B:qR 3 x.op x.mod x.nm x.args.length x.body.length x.other.length=true:=U;refine ac (ai O (ad (aZ (cf (Er ?_)))));refine R1 O O λw' b=>?_;exact ⟨by rw [q,B]; rfl,b.fr⟩
  have C:qR 3 x.op x.mod x.nm x.args.length x.body.length x.other.length=false:=U;refine Ck (Eb (Et (Cs (ac (ai O (ad (Cb ?_)))))));refine fT (ι:=Nat) (λi=>[(7,.int .i64 (i:Int))]) [(1,_),(2,_),(3,_)] (λi=>i<=x.args.length/\∀j y,j<i->x.args[j]? = some y->lx y 3 1=false) (λi=>x.args.length-i) 0 ⟨cx _,au⟩ ?_;intro i ⟨hi,r⟩;refine Cs (ac (ab O (I (Yf h5 O) (I (Yd 0 O O O aa) (I (Yn fG O) (I (cy O O) (ad ?_)))))));refine Cc O (λm=>?_) (λm=>?_)
  ·have D:i<x.args.length:=by simpa using m
   obtain ⟨y,o⟩:=dw D;obtain ⟨W,X,E,s⟩:=u.aq i y o
   obtain ⟨c,rfl⟩:∃c,ke=c+1:=by
     cases ke with
     | zero=>exact s.elim
     | succ c=>exact ⟨c,rfl⟩
   obtain ⟨F,G,J,K⟩:=s;refine am (Cs (Cb (ac (I (Yf h5 O) (I (Yd 0 O O O aa) (ab O (I (Yo fG O O E Z) (I (eq 0 fY O O O (J)) (ab O (Lp Y O aK O (λw b=>FV H c y F G _ 1 w b.V N Z K) ?_))))))))));refine ad ?_;refine Cc O (λp=>?_) (λp=>?_)
   ·refine ac (ai O (ad (aZ (cf (Er (Er (cf (Er ?_))))))));refine R1 O O λw' b=>?_;exact ⟨by rw [q,oR,oS o p,n7,sO],b.fr⟩
   refine Ck (Eb (Et (Cr (ab O (I (Yi O O O Z) (ai O (Ln ?_)))))));exact ct (i+1) Z ⟨Z,λj L l f=>by rcases gT.1 l with h | rfl; exact r j L h f; rw [o] at f; injection f with f; subst f; exact p⟩ ag
  have ae:¬i<x.args.length:=by simpa using m
  have M:kB x.args 3 1=false:=by rw [oR]; exact any_false λj y l=>r j y (by have:=(cS.1 l).1; omega) l
  refine Ce (Ex (Ex (cU (Et (ac (I (Yf ht O) (I (Yd 0 O O O aa) (I (bx O O) (ab O ?_)))))))));apply Lo 3 O O O O Y O O O O O
  ·intro af;refine Vg (Yf ht O) (Vg (Yd 0 O O O aa) (Vg (bx O O) ?_));exact Gt 3 O O O
  refine ai O (ad (ac (ab O (ab O ?_))));apply Lo 4 O O O O Y O O O O O
  ·intro ah;refine Vg (Yf mL O) (Vg (Yd 0 O O O aa) (Vg (Yn h_ O) (Vg (ed O O) ?_)));rw [nV];exact Gt 4 O O O
  refine ab O ?_;apply La 6 O O O O Y O O O O O
  ·intro aj;refine Vg (Yf mL O) (Vg (Yd 0 O O O aa) (Vg (Ym O) (Vg (Ym O) (Vg (Yi O O O Z) (Lp (.g O O O) O aK O (λw b=>t x.body a2 n2 (d+1) w b.V Z v) ?_)))));exact Gt 6 O O O
  refine ab O ?_;apply Lo 12 O O O O Y O O O O O
  ·intro ak;refine Vg (Yf lN O) (Vg (Yd 0 O O O aa) (Vg (Yn h_ O) (Vg (ed O O) ?_)));rw [nV];refine Vg (Ym O) ?_;apply La 6 O O O O (.g O O O) O O O O O
   ·intro al;refine Vg (Yf lN O) (Vg (Yd 0 O O O aa) (Vg (Ym O) (Vg (Ym O) (Vg (Yi O O O Z) (Lp (.g O O O) O aK O (λw b=>t x.other a3 n3 (d+1) w b.V Z z) ?_)))));exact Gt 6 O O O
   exact Gt 6 O O O
  refine ai O (ad (aZ ?_));refine R1 O O λw' b=>?_;exact ⟨by rw [q,C,M]; rfl,b.fr⟩
 exact (show False by simp at T; omega).elim
def Mq (H:View) (ke lv:Nat) (z:1<=lv/\lv<=3) (k:Nat) (l:List bE) (a:Option Addr) (n d:Nat) (w:World) (A:Le H w) (X:d<=7) (m:Sl (e5 ke k) 6 H a n l) :
   Calls prog 126 #[.slice a l.length n,.int .i64 (lv:Int),.int .i64 (d:Int)] w λe w'=>e = .returned (.bool (k3 l lv d))/\Ext w w':=by
 induction k using Nat.strongRecOn generalizing l a n d w
 rename_i k B;have aa:=m.cap;have ae:=m.max;refine enter func126 O 32 O O ?_;refine CE (Vs:=[H]) (Ws.init (by simp [A])) (ac (ai O (ad (Cs (ac (ab O (I (ed O O) (ad ?_))))))));refine Cc O (λo=>?_) (λo=>?_)
 ·have p:6<d:=by simp at o; omega
  refine ac (ab O (I (bx O O) ?_));rw [show ((lv:Int)==2)=(lv==2) from qt lv 2];refine ai O (ad (aZ (Er ?_)));refine R1 O O λw' b=>?_;exact ⟨by unfold k3 oi; rw [a8 p],b.fr⟩
 have p:¬6<d:=by simp at o; omega
 have q:=VE (l:=l) (lv:=lv) p;refine am (Cs (ac (ab O (I (bx O O) ?_))));rw [show ((lv:Int)==2)=(lv==2) from qt lv 2];refine ab O ?_;apply La 3 O O O O Y O O O O O
 ·intro af;refine Vg (Ym O) (Vg (Yn h_ O) (Vg (ed O O) ?_));rw [BP];exact Gt 3 O O O
 refine ad ?_;refine Cc O (λr=>?_) (λr=>?_)
 ·refine ac (ai O (ad (aZ (Er ?_))));refine R1 O O λw' b=>?_;exact ⟨by rw [q,r]; rfl,b.fr⟩
 refine am (Cs (ac (ai O (ad (Cb ?_)))));refine fT (ι:=Nat) (λi=>[(7,.int .i64 (i:Int))]) [(0,_),(1,_),(2,_)] (λi=>i<=l.length/\∀j y,j<i->l[j]? = some y->o_ y lv d=false) (λi=>l.length-i) 0 ⟨cx _,au⟩ ?_;intro i ⟨hi,v⟩;refine Cs (ac (ab O (ab O (I (Yn h_ O) (I (cy O O) (ad ?_))))));refine Cc O (λs=>?_) (λs=>?_)
 ·have C:i<l.length:=by simpa using s
  obtain ⟨y,t⟩:=dw C;obtain ⟨ah,aj,D,x⟩:=m.aq i y t
  obtain ⟨c,rfl⟩:∃c,k=c+1:=by
    cases k with
    | zero=>exact x.elim
    | succ c=>exact ⟨c,rfl⟩
  obtain ⟨E,F,G,J,K,L,M,N,P,Q⟩:=x;refine am (Cs (Cb (ac (ab O (ab O (I (Yo h_ O O D Z) (I (eq 0 iR O O O (M)) (ab O (ab O (Lp Y O aK O (λw b=>VJ H ke c y E F G J K L lv d w b.V z Z (λl a n d w R S T=>B c Z l a n d w R S T) N P Q) ?_))))))))));refine ad ?_;refine Cc O (λu=>?_) (λu=>?_)
  ·refine ac (ai O (ad (aZ (cf (Er (Er (cf (Er ?_))))))));refine R1 O O λw' b=>?_;exact ⟨by rw [q,FR,oS t u,n7],b.fr⟩
  refine Ck (Eb (Et (Cr (ab O (I (Yi O O O Z) (ai O (Ln ?_)))))));exact ct (i+1) Z ⟨Z,λj U g f=>by rcases gT.1 g with h | rfl; exact v j U h f; rw [t] at f; injection f with f; subst f; exact u⟩ ag
 have ak:¬i<l.length:=by simpa using s
 have W:cG l lv d=false:=by rw [FR]; exact any_false λj y g=>v j y (by have:=(cS.1 g).1; omega) g
 refine Ce (Ex (Ex (cU (Et (ac (ai O (ad (aZ ?_))))))));refine R1 O O λw' b=>?_;exact ⟨by rw [q,r,W]; rfl,b.fr⟩
def FW (H:View) (ke ks:Nat) (r:iB) (m:cm) (lv:Nat) (w:World) (X:1<=lv/\lv<=3) (al:Le H w) (k:jb ke ks H r m) (aJ:wM m<=109951162777) :
   Calls prog 46 #[.agg (fi m r).toArray,.int .i64 (lv:Int)] w λe w'=>e = .returned (.bool (kD m lv))/\Ext w w':=by
 have aL:=k.aP.cap;have aM:=k.aP.max;have aN:=k.decls.cap;have aO:=k.decls.max;have aQ:=k.procs.cap;have aR:=k.procs.max;have aS:wM m=1+m.nm.length+wN m.aP+wD m.decls+wP m.procs+dP m.main:=rfl;refine enter func46 O 189 O O ?_;refine CE (Vs:=[H]) (Ws.init (by simp [al])) (ac ?_);refine WL.box Y O O λaU=>?_;refine ai O (ad (Cs (ac (ab O (I (bx O O) ?_)))));rw [show ((lv:Int)==2)=(lv==2) from qt lv 2];refine ab O ?_;apply La 16 O O O O Y O O O O O
 ·intro aV;refine Vg (Yf j4 O) (Vg (Yd 0 O O O aa) (Vg (Yn dT O) (Vg (ed O O) ?_)));rw [vo];refine Vg (Ym O) ?_;apply Lo 4 O O O O (.g O O O) O O O O O
  ·intro aW;refine Vg (Yf oO O) (Vg (Yd 0 O O O aa) (Vg (Yn nW O) (Vg (ed O O) ?_)));rw [BP];exact Gt 4 O O O
  refine Vg (Ym O) ?_;apply Lo 4 O O O O (.g O O O) O O O O O
  ·intro aX;refine Vg (Yf lh O) (Vg (Yd 0 O O O aa) (Vg (Yn j5 O) (Vg (ed O O) ?_)));rw [LK];exact Gt 4 O O O
  exact Gt 8 O O O
 refine ab O ?_;apply Lo 8 O O O O Y O O O O O
 ·intro aY;refine Vg (Ym O) (Vg (bx O O) ?_);rw [show ((lv:Int)==3)=(lv==3) from qt lv 3];refine Vg (Ym O) ?_;apply La 4 O O O O (.g O O O) O O O O O
  ·intro a0;refine Vg (Yf g7 O) (Vg (Yd 0 O O O aa) (Lp (.g O O O) O aK O (λw a=>vy _ w) (Vg (eR O) ?_)));exact Gt 4 O O O
  exact Gt 4 O O O
 refine ad ?_;refine Cc O (λA=>?_) (λA=>?_)
 ·refine ac (ai O (ad (aZ (Er ?_))));refine R1 O O λw' a=>?_;exact ⟨by rw [VH A],a.fr⟩
 refine am (Cs (ac (ai O (ad (Cb ?_)))));refine fT (ι:=Nat) (λi=>[(5,.int .i64 (i:Int))]) [(1,_),(2,_)] (λi=>i<=m.aP.length/\∀j b,j<i->m.aP[j]? = some b->iY lv b=false) (λi=>m.aP.length-i) 0 ⟨cx _,au⟩ ?_;intro i ⟨a1,ae⟩;refine Cs (ac (ab O (I (Yf j4 O) (I (Yd 0 O O O aa) (I (Yn dT O) (I (cy O O) (ad ?_)))))));refine Cc O (λB=>?_) (λB=>?_)
 ·have t:i<m.aP.length:=by simpa using B
  obtain ⟨u,C⟩:=dw t;obtain ⟨an,ao,D,q⟩:=k.aP.aq i u C;have q:cw H an (ao+i*1) (eE u):=q;refine am (Cs (Cb (ac (ab O (I (bx O O) ?_)))));rw [show ((lv:Int)==3)=(lv==3) from qt lv 3];refine ab O ?_;apply La 7 O O O O Y O O O O O
  ·intro a2;refine Vg (Yf j4 O) (Vg (Yd 0 O O O aa) (Vg (Ym O) (Vg (Yo dT O O D Z) (Vg (cC 0 aa O O (q 0 _ O)) (Lp (.g O O O) O aK O (λw a=>vy _ w) (Vg (eR O) ?_))))));exact Gt 7 O O O
  refine ad ?_;refine Cc O (λE=>?_) (λE=>?_)
  ·refine ac (ai O (ad (aZ (cf (Er (Er (cf (Er ?_))))))));refine R1 O O λw' a=>?_;exact ⟨by rw [VI (oS C E)],a.fr⟩
  refine Ck (Eb (Et (Cr (ab O (I (Yi O O O Z) (ai O (Ln ?_)))))));exact ct (i+1) Z ⟨Z,λj b f c=>by rcases gT.1 f with h | rfl; exact ae j b h c; rw [C] at c; injection c with c; subst c; exact E⟩ ag
 have a3:¬i<m.aP.length:=by simpa using B
 have ap:m.aP.any (iY lv)=false:=any_false λj b f=>ae j b (by have:=(cS.1 f).1; omega) f;refine Ce (Ex (Ex (cU (Et (Cs (ac (ai O (ad (Cb ?_)))))))));refine fT (ι:=Nat) (λp=>[(6,.int .i64 (p:Int))]) [(1,_),(2,_)] (λp=>p<=m.decls.length/\∀j b,j<p->m.decls[j]? = some b->k4 lv b=false) (λp=>m.decls.length-p) 0 ⟨cx _,au⟩ ?_;intro p ⟨a5,af⟩;refine Cs (ac (ab O (I (Yf oO O) (I (Yd 0 O O O aa) (I (Yn nW O) (I (cy O O) (ad ?_)))))));refine Cc O (λF=>?_) (λF=>?_)
 ·have t:p<m.decls.length:=by simpa using F
  obtain ⟨d,z⟩:=dw t;obtain ⟨ar,av,aw,G⟩:=k.decls.aq p d z;have G:cw H ar (av+p*4) d.cells:=G;refine am (Cs (Cb (ac (I (Yf oO O) (I (Yd 0 O O O aa) (ab O (I (Yo nW O O aw Z) (I (eq 0 mM O O O (G)) ?_))))))));refine Al Y O oP λa6=>?_;refine aT 0 Y O O O pA O O O (ad (Cs (ac (ab O (I (bx O O) ?_)))));rw [show ((lv:Int)==1)=(lv==1) from qt lv 1];refine ab O ?_;apply La 4 O O O O Y O O O O O
  ·intro a7;refine Vg (Yf lM O) (Vg (Yd 0 O O O aa) (Lp (.g O O O) O aK O (λw a=>mB _ _ _ w) (Vg (eR O) ?_)));exact Gt 4 O O O
  refine ad ?_;refine Cc O (λJ=>?_) (λJ=>?_)
  ·have K:((lv==1)&&!dd d.kind 1 3)=true:=J
   have l:k4 lv d=true:=by unfold k4; rw [K]; rfl
   refine ac (ai O (ad (aZ (Er (cf (Er (Er (cf (Er ?_)))))))));refine R1 O O λw' a=>?_;exact ⟨by rw [Mo (oS z l)],a.fr⟩
  have K:((lv==1)&&!dd d.kind 1 3)=false:=J;refine am (ac (ab O (I (bx O O) ?_)));rw [show ((lv:Int)==3)=(lv==3) from qt lv 3];refine ab O ?_;apply La 36 (x:=((((!fo d.nm||((d.kind==1)&&!dd d.n 0 1099511627775))||((d.kind==2)&&!(d.n==0)))||((d.kind==3)&&!dd d.n 1 32)))) O O O O Y O O O O O
  ·intro a8;refine Vg (Yf rq O) (Vg (Yd 0 O O O aa) (Lp (.g O O O) O aK O (λw a=>vy _ w) (Vg (eR O) (Vg (Ym O) ?_))));apply Lo 9 O O O O (.g O O O) O O O O O
   ·intro a9;refine Vg (Yf lM O) (Vg (Yd 0 O O O aa) (Vg (bx O O) (Vg (Ym O) ?_)));apply La 4 O O O O (.g O O O) O O O O O
    ·intro a';refine Vg (Yf mK O) (Vg (Yd 0 O O O aa) (Lp (.g O O O) O aK O (λw a=>mB _ _ _ w) (Vg (eR O) ?_)));exact Gt 4 O O O
    exact Gt 5 O O O
   refine Vg (Ym O) ?_;apply Lo 8 O O O O (.g O O O) O O O O O
   ·intro a_;refine Vg (Yf lM O) (Vg (Yd 0 O O O aa) (Vg (bx O O) (Vg (Ym O) ?_)));apply La 3 O O O O (.g O O O) O O O O O
    ·intro ba;refine Vg (Yf mK O) (Vg (Yd 0 O O O aa) (Vg (fh O O) ?_));exact Gt 3 O O O
    exact Gt 5 O O O
   refine Vg (Ym O) ?_;apply Lo 9 O O O O (.g O O O) O O O O O
   ·intro bb;refine Vg (Yf lM O) (Vg (Yd 0 O O O aa) (Vg (bx O O) (Vg (Ym O) ?_)));apply La 4 O O O O (.g O O O) O O O O O
    ·intro bc;refine Vg (Yf mK O) (Vg (Yd 0 O O O aa) (Lp (.g O O O) O aK O (λw a=>mB _ _ _ w) (Vg (eR O) ?_)));exact Gt 4 O O O
    exact Gt 5 O O O
   exact Gt 10 O O O
  refine ad ?_;refine Cc O (λL=>?_) (λL=>?_)
  ·have M:((lv==3)&&(((!fo d.nm||((d.kind==1)&&!dd d.n 0 1099511627775))||((d.kind==2)&&!(d.n==0)))||((d.kind==3)&&!dd d.n 1 32)))=true:=L
   have l:k4 lv d=true:=by unfold k4; rw [M,n7]
   refine ac (ai O (ad (aZ (cf (Er (Er (cf (Er ?_))))))));refine R1 O O λw' a=>?_;exact ⟨by rw [Mo (oS z l)],a.fr⟩
  have M:((lv==3)&&(((!fo d.nm||((d.kind==1)&&!dd d.n 0 1099511627775))||((d.kind==2)&&!(d.n==0)))||((d.kind==3)&&!dd d.n 1 32)))=false:=L
  have l:k4 lv d=false:=by unfold k4; rw [K,M]; rfl
  refine Ck (Eb (Et (Cr (ab O (I (Yi O O O Z) (ai O (Ln ?_)))))));exact ct (p+1) Z ⟨Z,λj b f c=>by rcases gT.1 f with h | rfl; exact af j b h c; rw [z] at c; injection c with c; subst c; exact l⟩ (λ_ h=>Wd 1 h)
 have bd:¬p<m.decls.length:=by simpa using F
 have ax:m.decls.any (k4 lv)=false:=any_false λj b f=>af j b (by have:=(cS.1 f).1; omega) f;refine Ce (Ex (Ex (cU (Et (Cs (ac (ai O (ad (Cb ?_)))))))));refine fT (ι:=Nat) (λo=>[(8,.int .i64 (o:Int))]) [(1,_),(2,_)] (λo=>o<=m.procs.length/\∀j b,j<o->m.procs[j]? = some b->kC lv b=false) (λo=>m.procs.length-o) 0 ⟨cx _,au⟩ ?_;intro o ⟨be,ah⟩;refine Cs (ac (ab O (I (Yf lh O) (I (Yd 0 O O O aa) (I (Yn j5 O) (I (cy O O) (ad ?_)))))));refine Cc O (λN=>?_) (λN=>?_)
 ·have t:o<m.procs.length:=by simpa using N
  obtain ⟨p,v⟩:=dw t;obtain ⟨bf,bg,ay,az⟩:=k.procs.aq o p v;obtain ⟨bh,bj,bk,bl,aA,aB,q,P,Q,aC⟩:=az;have bm:=y_ v;have bn:=wj p.params;have bo:=wj p.aH;have bp:=P.cap;have bq:=P.max;have br:=Q.cap;have bs:=Q.max;refine am (Cs (Cb (ac (I (Yf lh O) (I (Yd 0 O O O aa) (ab O (I (Yo j5 O O ay Z) (I (eq 0 ru O O O (q)) ?_))))))));refine Al Y O pB λbt=>?_;refine aT 0 Y O O O dq O O O (ad (Cs (ac (ab O (I (bx O O) ?_)))));rw [show ((lv:Int)==2)=(lv==2) from qt lv 2];refine ab O ?_;apply La 10 O O O O Y O O O O O
  ·intro bu;refine Vg (Yf kT O) (Vg (Yd 0 O O O aa) (Vg (Yn dT O) (Vg (ed O O) ?_)));rw [vo];refine Vg (Ym O) ?_;apply Lo 4 O O O O (.g O O O) O O O O O
   ·intro bv;refine Vg (Yf nX O) (Vg (Yd 0 O O O aa) (Vg (Yn dT O) (Vg (ed O O) ?_)));rw [LJ];exact Gt 4 O O O
   exact Gt 6 O O O
  refine ab O ?_;apply Lo 8 O O O O Y O O O O O
  ·intro bw;refine Vg (Ym O) (Vg (bx O O) ?_);rw [show ((lv:Int)==3)=(lv==3) from qt lv 3];refine Vg (Ym O) ?_;apply La 4 O O O O (.g O O O) O O O O O
   ·intro bz;refine Vg (Yf za O) (Vg (Yd 0 O O O aa) (Lp (.g O O O) O aK O (λw a=>vy _ w) (Vg (eR O) ?_)));exact Gt 4 O O O
   exact Gt 4 O O O
  refine ab O ?_;apply Lo 4 O O O O Y O O O O O
  ·intro bA;refine Vg (Yf vq O) (Vg (Yd 0 O O O aa) (Vg (Ym O) (Lp (.g O O O) O aK O (λw a=>Mq H ke lv X ks p.body aA aB 1 w a.V Z aC) ?_)));exact Gt 4 O O O
  refine ad ?_;refine Cc O (λR=>?_) (λR=>?_)
  ·have S:((((lv==2)&&(decide (3<p.params.length)||decide (4<p.aH.length)))||iY lv p.nm)||k3 p.body lv 1)=true:=R
   have l:kC lv p=true:=by unfold kC; rw [S]; rfl
   refine ac (ai O (ad (aZ (Er (cf (Er (Er (cf (Er ?_)))))))));refine R1 O O λw' a=>?_;exact ⟨by rw [Mp (oS v l)],a.fr⟩
  have S:((((lv==2)&&(decide (3<p.params.length)||decide (4<p.aH.length)))||iY lv p.nm)||k3 p.body lv 1)=false:=R;refine am (Cs ?_);refine WC.hU [(1,true),(2,true),(4,true),(5,true),(0,false),(3,false),(6,false),(7,true)] mixed aa (λ_ _ _ d _ h=>by cases d<;>exact h) ?_;refine D0 O ag (Yf kT O) (D0 O ag (Yd 0 O O O aa) (D0 O ag (Yf nX O) (D0 O ag (Yd 0 O O O aa) ?_)));refine De O ag ?_;refine WL.qI Y O ei O O O λbB=>?_;refine WL.pY (size:=1) 0 O (eH 0) (cx _) O ?_;refine WL.o3 0 ([]:List Tx).length (([]:List Tx).flatMap eE) O O O ?_;refine Ln (Ed ?_);refine De O (λ_ h=>(Wd 1 h:)) ?_;refine WL.o7 (ys:=p.params) (xs:=[]) 0 (λ_=>H) Y O ei O O O (λw a=>⟨a.vs H au,P⟩) eZ iM sy (by simp; omega) (by simp; omega) λbC bD=>?_;refine Ln (Ed ?_);refine De O (λ_ h=>(Wd 1 h:)) ?_;refine WL.o7 (ys:=p.aH) (xs:=[]++p.params) 0 (λ_=>H) Y O ei O O O (λw a=>⟨a.vs H au,Q⟩) eZ iM sy (by simp; omega) (by simp; omega) λaD aE=>?_;refine Ln (Ed (D0 O (λ_ h=>(Wd 1 h:)) (Ya O) ?_));refine WD.nil (λ_ h=>(Wd 1 h:)) ?_;refine Et (Cs ?_);refine WC.r0 (rd:=rdStr) 0 O iM eZ λaj y=>?_;have y:Sl rdStr 1 aj aD aE (p.params++p.aH):=y;have bE:=y.cap;have bF:=y.max;refine Cr (ai O (ad (Cb ?_)));refine fT (ι:=Nat) (λe=>[(11,.int .i64 (e:Int))]) [(1,_),(2,_),(8,_),(10,_)] (λe=>e<=(p.params++p.aH).length/\∀j b,j<e->(p.params++p.aH)[j]? = some b->iY lv b=false) (λe=>(p.params++p.aH).length-e) 0 ⟨cx _,au⟩ ?_;intro e ⟨bG,ak⟩;refine Cs (ac (ab O (ab O (I (Yn dT O) (I (cy O O) (ad ?_))))));refine Cc O (λT=>?_) (λT=>?_)
  ·have t:e<(p.params++p.aH).length:=by simp only [bT]; simp at T; omega
   obtain ⟨s,U⟩:=dw t;obtain ⟨aF,pos,D,q⟩:=y.aq e s U;have q:cw aj aF (pos+e*1) (eE s):=q;refine am (Cs (Cb (ac (ab O (I (bx O O) ?_)))));rw [show ((lv:Int)==3)=(lv==3) from qt lv 3];refine ab O ?_;apply La 6 O O O O Y O O O O O
   ·intro bH;refine Vg (Ym O) (Vg (Ym O) (Vg (Yo dT O O D (by simp at t ⊢; omega)) (Vg (cC 0 aa O O (q 0 _ O)) (Lp (.g O O O) O aK O (λw a=>vy _ w) (Vg (eR O) ?_)))));exact Gt 6 O O O
   refine ad ?_;refine Cc O (λW=>?_) (λW=>?_)
   ·have l:kC lv p=true:=by unfold kC; rw [oS U W,n7]
    refine ac (ai O (ad (aZ (cf (Er (Er (cf (cf (Er (Er (cf (Er ?_))))))))))));refine R1 O O λw' a=>?_;exact ⟨by rw [Mp (oS v l)],a.fr⟩
   refine Ck (Eb (Et (Cr (ab O (I (Yi O O O Z) (ai O (Ln ?_)))))));exact ct (e+1) Z ⟨Z,λj b f c=>by rcases gT.1 f with h | rfl; exact ak j b h c; rw [U] at c; injection c with c; subst c; exact W⟩ ag
  have bI:¬e<(p.params++p.aH).length:=by simp only [bT]; simp at T; omega
  have aG:(p.params++p.aH).any (iY lv)=false:=any_false λj b f=>ak j b (by have:=(cS.1 f).1; omega) f
  have l:kC lv p=false:=by unfold kC; rw [aG,S]; rfl
  refine Ce (Ex (Ex (cU (Eb (Et (Cr (ab O (I (Yi O O O Z) (ai O (Ln ?_))))))))));exact ct (o+1) Z ⟨Z,λj b f c=>by rcases gT.1 f with h | rfl; exact ah j b h c; rw [v] at c; injection c with c; subst c; exact l⟩ (λ_ h=>Ws.cK (Wd 1 h) (λ_ k=>eh [_] k))
 have bJ:¬o<m.procs.length:=by simpa using N
 have aI:m.procs.any (kC lv)=false:=any_false λj b f=>ah j b (by have:=(cS.1 f).1; omega) f;refine Ce (Ex (Ex (cU (Et (ac (I (Yf vr O) (I (Yd 0 O O O aa) (ab O (Lp Y O aK O (λw a=>Mq H ke lv X ks m.main r.a4 r.c4 1 w a.V Z k.main) (ai O (ad (aZ ?_))))))))))));refine R1 O O λw' a=>?_;exact ⟨by rw [VG A ap ax aI],a.fr⟩
def Mr (H:View) (ke ks:Nat) (r:iB) (m:cm) (w:World) (h:Le H w) (d:jb ke ks H r m) (f:wM m<=109951162777) :
   Calls prog 10 #[.agg (fi m r).toArray] w λe w'=>e = .returned (.int .i64 (hI m))/\Ext w w':=by
 refine enter func10 O 12 O O ?_;refine CE (Vs:=[H]) (Ws.init (by simp [h])) (ac ?_);refine WL.box Y O O λi=>?_;refine ai O (ad (Cs (Cb (ac (I (cI 0 O O bh O) (Lp Y O aK O (λw a=>FW H ke ks r m 1 w Z a.V d f) (ai O (ad ?_))))))));refine Cc O (λb=>?_) (λb=>?_)
 ·refine ac (ai O (ad (aZ (cf (Er ?_)))));refine R1 O O λw' a=>?_;exact ⟨by rw [hI,a8 b],a.fr⟩
 refine ac (I (cI 0 O O bh O) (Lp Y O aK O (λw a=>FW H ke ks r m 2 w Z a.V d f) (ai O (ad ?_))));refine Cc O (λc=>?_) (λc=>?_)
 ·refine ac (ai O (ad (aZ (cf (Er ?_)))));refine R1 O O λw' a=>?_;exact ⟨by rw [hI,av (by rw [b]; decide),a8 c],a.fr⟩
 refine ac (I (cI 0 O O bh O) (Lp Y O aK O (λw a=>FW H ke ks r m 3 w Z a.V d f) (ai O (ad ?_))));refine Cc O (λg=>?_) (λg=>?_)
 ·refine ac (ai O (ad (aZ (cf (Er ?_)))));refine R1 O O λw' a=>?_;exact ⟨by rw [hI,av (by rw [b]; decide),av (by rw [c]; decide),a8 g],a.fr⟩
 refine Ck (Eb (Et (ac (ai O (ad (aZ ?_))))));refine R1 O O λw' a=>?_;exact ⟨by rw [hI,av (by rw [b]; decide),av (by rw [c]; decide),av (by rw [g]; decide)],a.fr⟩
def vz (x:ak):hn x=qi x.op x.n x.mod x.nm (kR x.args):=by cases x; rw [hn]; rfl
def tQ (x:bE):bz x=pt x.op x.mod x.nm (kR x.args) (h3 x.body) x.other.length (h3 x.other):=by cases x; rw [bz]; rfl
def Ms:∀l:List ak,(kR l).length=l.length
 | []=>rfl
 | x::r=>by unfold kR; simp [Ms r]
def FX:∀{l:List ak} {i:Nat} {y:ak},l[i]? = some y->(kR l)[i]? = some (hn y)
 | [],i,y,h=>by simp at h
 | x::r,0,y,h=>by simp at h; subst h; rfl
 | x::r,i+1,y,h=>by
   have:=FX (l:=r) (i:=i) (y:=y) (by simpa using h);unfold kR
   simpa using this
variable {bH:ak}
def pH {l:List ak}   (h:l[ae]? = some bH):nb (kR l) ae=hn bH:=by unfold nb; rw [FX h]; rfl
def O4 {mod nm:Tx} (h:(mod==[])=true):kQ mod nm=nm:=by unfold kQ; rw [a8 h]
def VL {mod nm:Tx} (h:(mod==[])=false):kQ mod nm=mod++[32,46,32]++nm:=by unfold kQ; rw [av (by rw [h]; decide)]
def VM (h:bH.op=1) (a:0<=bH.n):hn bH=Lib.decDigits bH.n.toNat:=by rw [vz,qi,a8 h,wh a]
def VN (h:bH.op=2):hn bH=[105,110]:=by rw [vz,qi,av Z,a8 h]; rfl
def VO (h:bH.op=3):hn bH=kQ bH.mod bH.nm:=by rw [vz,qi,av Z,av Z,a8 h]
variable {xx:ak}
def VP (h:bH.op=4) (a:bH.args[0]? = some xx):hn bH=kQ bH.mod bH.nm++[32,91,32]++hn xx++[32,93]:=by rw [vz,qi,av Z,av Z,av Z,a8 h,pH a]
def VQ (h:bH.op=5):hn bH=kQ bH.mod bH.nm++[32,40]++fR (kR bH.args)++[32,41]:=by rw [vz,qi,av Z,av Z,av Z,av Z,a8 h]
def VR (h:bH.op=6) (a:bH.args[0]? = some xx):hn bH=[33,32]++hn xx:=by rw [vz,qi,av Z,av Z,av Z,av Z,av Z,a8 h,pH a]
def VS {x y a:ak} (h:7<=x.op) (b:x.args[0]? = some y) (c:x.args[1]? = some a):hn x=[40,32]++hn y++[32]++rh x.op++[32]++hn a++[32,41]:=by rw [vz,qi,av Z,av Z,av Z,av Z,av Z,av Z,pH b,pH c]
def Mt (x:Tx):∀l:List Tx,l≠[]->fR (l++[x])=fR l++[32,44]++[32]++x
 | [],h=>absurd rfl h
 | [y],_=>by simp [fR]
 | y::z::r,_=>by
   have:=Mt x (z::r) au
   show [32]++y++[32,44]++fR ((z::r)++[x])=[32]++y++[32,44]++fR (z::r)++[32,44]++[32]++x
   rw [this];simp
def Mu (h:eG[ae]? = some bZ) (hi:ae=0):fR (eG.take (ae+1))=fR (eG.take ae)++[32]++bZ:=by
 subst hi;rw [j2 h];simp [fR]
def Mv (h:eG[ae]? = some bZ) (hi:0<ae):fR (eG.take (ae+1))=fR (eG.take ae)++[32,44]++[32]++bZ:=by
 have c:=(cS.1 h).1;rw [j2 h,Mt];intro a
 have b:(eG.take ae).length=ae:=by rw [mc]; omega
 rw [a,b8] at b;omega
def Mw (l:List Tx) (i:Nat):(fR (l.take i)).length<=(fR l).length:=by
 have key:∀(a b:List Tx),(fR a).length<=(fR (a++b)).length:=by
   intro a b
   induction a with
   | nil=>simp [fR]
   | cons x r c=>
     cases r with
     | nil=>cases b with
       | nil=>simp
       | cons y b=>simp only [bt,zO,fR,bT,b5,b8]; omega
     | cons y r=>simp only [bt,zO,fR,bT,b5,b8] at c ⊢; omega
 have:=key (l.take i) (l.drop i)
 rwa [pR] at this
variable {aL:Int}
def VT (h:7<=aL/\aL<=15):opsL[(aL-7).toNat]? = some (rh aL):=by
 have:aL=7\/aL=8\/aL=9\/aL=10\/aL=11\/aL=12\/aL=13\/aL=14\/aL=15:=Z
 rcases this with rfl | rfl | rfl | rfl | rfl | rfl | rfl | rfl | rfl<;>rfl
variable {dA:bE}
def VU (h:dA.op=1) (a:dA.args[0]? = some bH):bz dA=kQ dA.mod dA.nm++[32,61,32]++hn bH++[32,59]:=by rw [tQ,pt,a8 h,pH a]
def VV (h:dA.op=2) (a:dA.args[0]? = some bH) (b:dA.args[1]? = some xx):bz dA=kQ dA.mod dA.nm++[32,91,32]++hn bH++[32,93,32,61,32]++hn xx++[32,59]:=by rw [tQ,pt,av Z,a8 h,pH a,pH b]
def VW (h:dA.op=3):bz dA=kQ dA.mod dA.nm++[32,40]++fR (kR dA.args)++[32,41,32,59]:=by rw [tQ,pt,av Z,av Z,a8 h]
def Mx (h:dA.op=4) (a:dA.args[0]? = some bH) (b:0<dA.other.length):bz dA=[105,102,32]++hn bH++[32]++jX dA.body++[32,101,108,115,101,32]++jX dA.other:=by
 rw [tQ,pt,av Z,av Z,av Z,a8 h,a8 b,pH a]; simp [jX,gz,gO]
def My (h:dA.op=4) (a:dA.args[0]? = some bH) (b:¬0<dA.other.length):bz dA=[105,102,32]++hn bH++[32]++jX dA.body:=by
 rw [tQ,pt,av Z,av Z,av Z,a8 h,av b,pH a]; simp [jX,gz]
def VX (h:dA.op=5) (a:dA.args[0]? = some bH):bz dA=[119,104,105,108,101,32]++hn bH++[32]++jX dA.body:=by
 rw [tQ,pt,av Z,av Z,av Z,av Z,a8 h,pH a]; simp [jX,gP]
def VY (h:dA.op=6) (a:dA.args[0]? = some bH):bz dA=[114,101,116,117,114,110,32]++hn bH++[32,59]:=by
 rw [tQ,pt,av Z,av Z,av Z,av Z,av Z,a8 h,pH a]; simp [gA]
def VZ (h:dA.op=7) (a:dA.args[0]? = some bH):bz dA=[111,117,116,32]++hn bH++[32,59]:=by
 rw [tQ,pt,av Z,av Z,av Z,av Z,av Z,av Z,pH a]; simp [gB]
def FY:∀a b:List bE,h3 (a++b)=h3 a++h3 b
 | [],b=>by simp [h3]
 | x::a,b=>by
   rw [bt,show ∀q,h3 (x::q)=bz x++[32]++h3 q from λq=>by rw [h3],FY a b,show ∀q,h3 (x::q)=bz x++[32]++h3 q from λq=>by rw [h3]]; simp only [n5]
variable {cD:List bE}
def Mz (h:cD[ae]? = some dA):h3 (cD.take (ae+1))=h3 (cD.take ae)++bz dA++[32]:=by
 rw [j2 h,FY]; simp [h3]
def MA (l:List bE) (i:Nat):(h3 (l.take i)).length<=(h3 l).length:=by
 conv=>rhs; rw [<-pR i l,FY,bT]
 omega
def V0 (h:cD[ae]? = some dA):(h3 (cD.take ae)).length+(bz dA).length+1<=(h3 cD).length:=by
 have:=MA cD (ae+1);rw [Mz h,bT,bT] at this;exact this
def V1 (l:List bE):(jX l).length=(h3 l).length+3:=by
 unfold jX u9;simp only [bT,b5,b8]; omega
def MB (H:View) (k:Nat):Prop:=∀(x:ak) (a:Option Addr) (n d:Nat) (w:World),Le H w->Sl (gn k) 5 H a n x.args->(hB x d).b6=0->(hn x).length<=9223372036854775807->Calls prog 220 #[.agg #[.int .i64 x.op,.int .i64 x.n,st x.mod,st x.nm,.slice a x.args.length n]] w λe w'=>e = .returned (st (hn x))/\Ext w w'
def V2 (H:View) (ke k:Nat):Prop:=∀(l:List bE) (a:Option Addr) (n d:Nat) (w:World),Le H w->Sl (e5 ke k) 6 H a n l->(eS l d).b6=0->(jX l).length<=9223372036854775807->Calls prog 54 #[.slice a l.length n] w λe w'=>e = .returned (st (jX l))/\Ext w w'
def xA (mod nm:Tx) (w:World) (f:(kQ mod nm).length<=9223372036854775807) :
   Calls prog 219 #[st mod,st nm] w λe w'=>e = .returned (st (kQ mod nm))/\Ext w w':=by
 refine enter func219 O 12 O O ?_;refine CE (Vs:=[]) (Ws.init au) (ac (ai O (ad (Cs (ac (ab O (I (mT O O) (ad ?_))))))));refine Cc O (λc=>?_) (λc=>?_)
 ·have a:=O4 (nm:=nm) c;refine ac (ab O (ai O (ad (aZ (Er ?_)))));refine R1 O O λw' d=>?_;exact ⟨by rw [a],d.fr⟩
 have a:=VL (nm:=nm) c;have hN:=congrArg List.length a;simp only [bT,b5,b8] at hN;refine am (ac (ab O (I (az (b:=[32,46,32]) O O (by (try simp only [bT,b5,b8]); omega)) (ab O (I (az O O (by (try simp only [bT,b5,b8]); omega)) (ai O (ad (aZ ?_))))))));refine R1 O O λw' d=>?_;exact ⟨by rw [a],d.fr⟩
def V3 (op:Int) (h:7<=op/\op<=15) (w:World) :
   Calls prog 267 #[.int .i64 op] w λe w'=>e = .returned (st (rh op))/\Ext w w':=by
 refine enter func267 O 8 O O ?_;refine CE (Vs:=[]) (Ws.init au) (ac (ai O (ad (ac ?_))));refine Lb Y O ei O O O O λk=>?_;refine h1 (T:=9) (m:=9) 0 [[38],[124],[43],[45],[42],[47],[37],[61],[60]] O O (show 9<=9 by decide) bf λb c=>?_;obtain ⟨d,f,g,a⟩:=c.aq (op-7).toNat (rh op) (VT h);have a:cw b d (f+(op-7).toNat*1) (eE (rh op)):=a;refine ab O (I (n_ (((op-7).toNat:Nat):Int) O O Z Z) (I (Yo (i:=(op-7).toNat) dT O O g (by first | omega | (simp only [b5,b8]; omega))) (I (cC 0 aa O O (a 0 _ O)) (ai O (ad (aZ ?_))))));refine R1 O O λw' j=>?_;exact ⟨O,j.fr⟩
def MC (H:View) (k:Nat) (p:∀c,c<k->MB H c) (xs:List ak) (a:Option Addr) (n d:Nat) (w:World) (B:Le H w) (l:Sl (gn k) 5 H a n xs) (C:(ek xs d).b6=0) (E:(fR (kR xs)).length<=9223372036854775807) :
   Calls prog 221 #[.slice a xs.length n] w λe w'=>e = .returned (st (fR (kR xs)))/\Ext w w':=by
 have F:=l.cap;have G:=l.max;have J:=Ms xs;refine enter func221 O 24 O O ?_;refine CE (Vs:=[H]) (Ws.init (by simp [B])) (ac (ai O (ad (ac (ai O (ad (Cs (ac (ai O (ad (Cb ?_)))))))))));refine fT (ι:=Nat) (λi=>[(4,.int .i64 (i:Int)),(3,st (fR ((kR xs).take i)))]) [(0,_),(2,_)] (λi=>i<=xs.length) (λi=>xs.length-i) 0 (cx _) ?_;intro i hi;refine Cs (ac (ab O (ab O (I (Yn fG O) (I (cy O O) (ad ?_))))));refine Cc O (λh=>?_) (λh=>?_)
 ·have q:i<xs.length:=by simpa using h
  have q:i<xs.length:=by simpa using h
  obtain ⟨y,m⟩:=dw q;obtain ⟨K,L,r,s⟩:=l.aq i y m
  obtain ⟨c,rfl⟩:∃c,k=c+1:=by
    cases k with
    | zero=>exact s.elim
    | succ c=>exact ⟨c,rfl⟩
  obtain ⟨t,u,v,x⟩:=s;have z:=oQ C m;have A:=FX m;have j:=Mw (kR xs) (i+1);refine am (Cs (Cb (Cs (ac (ab O (I (ed O O) (ad ?_)))))));refine Cc O (λo=>?_) (λo=>?_)
  ·have f:=Mv A (by simp at o; omega);rw [f] at j;simp only [bT,b5,b8] at j;refine Cr (ab O (I (az (b:=[32,44]) O O (by (try simp only [bT,b5,b8]); omega)) (ai O (ad (Cr (ab O (I (az (b:=[32]) O O (by (try simp only [bT,b5,b8]); omega)) (ab O ?_))))))));refine ab O (I (Yo fG O O r Z) (I (eq 0 fY O O O (v)) (Lp Y O aK O (λw g=>p c Z y t u d w g.V x z Z) (I (az O O (by (try simp only [bT,b5,b8]); omega)) (ai O (Ln (Eb (Et (Cr (ab O ?_))))))))));refine I (Yi O O O Z) (ai O (Ln ?_));rw [<-f];exact ct (i+1) Z Z ag
  have f:=Mu A (by simp at o; omega);rw [f] at j;simp only [bT,b5,b8] at j;refine am (Cr (ab O (I (az (b:=[32]) O O (by (try simp only [bT,b5,b8]); omega)) (ab O (ab O (I (Yo fG O O r Z) (I (eq 0 fY O O O (v)) (Lp Y O aK O (λw g=>p c Z y t u d w g.V x z Z) ?_))))))));refine I (az O O (by (try simp only [bT,b5,b8]); omega)) (ai O (Ln (Eb (Et (Cr (ab O (I (Yi O O O Z) (ai O (Ln ?_)))))))));rw [<-f];exact ct (i+1) Z Z ag
 have M:¬i<xs.length:=by simpa using h
 have D:fR ((kR xs).take i)=fR (kR xs):=by rw [nn Z]
 refine Ce (Ex (Ex (cU (Et (ac (ab O (ai O (ad (aZ ?_)))))))));refine R1 O O λw' g=>?_;exact ⟨by rw [D],g.fr⟩
def tR (H:View) (k:Nat) (x:ak) (a:Option Addr) (n d:Nat) (w:World) (T:Le H w) (p:Sl (gn k) 5 H a n x.args) (U:(hB x d).b6=0) (ao:(hn x).length<=9223372036854775807) :
   Calls prog 220 #[.agg #[.int .i64 x.op,.int .i64 x.n,st x.mod,st x.nm,.slice a x.args.length n]] w λe w'=>e = .returned (st (hn x))/\Ext w w':=by
 induction k using Nat.strongRecOn generalizing x a n d w
 rename_i k W;have r:∀f,f<k->MB H f:=λf j x a n d w X L M N=>W f j x a n d w X L M N;have ap:=p.cap;have ar:=p.max;have m:=Ud U;have au:=m.kind;refine enter func220 O 74 O O ?_;refine CE (Vs:=[H]) (Ws.init (by simp [T])) (ac ?_);refine WL.box Y O O λav=>?_;refine ai O (ad (Cs (ac (I (Yf jI O) (I (Yd 0 O O O aa) (ad (Cb (ac (I (bx O O) (ai O (ad ?_)))))))))));refine Cc O (λB=>?_) (λB=>?_)
 ·have j:x.op=1:=by simpa using B
  have ab:=Ky (n:=x.n) (by have:=m.num; rwa [j] at this);have P:0<=x.n:=ab.1;have g:=VM j P;refine ac (I (Yf gK O) (I (Yd 0 O O O aa) ?_))
  refine Lp Y O aK O (λw c=>by
      have:=Ft x.n.toNat w Z;rw [C4 P] at this
      exact this) ?_
  refine ai O (ad (aZ (cf (Er ?_))));refine R1 O O λw' c=>?_;exact ⟨by rw [g],c.fr⟩
 have L:¬x.op=1:=by simpa using B
 refine ac (I (bx O O) (ai O (ad ?_)));refine Cc O (λC=>?_) (λC=>?_)
 ·have j:x.op=2:=by simpa using C
  have g:hn x=[105,110]:=VN j
  have Ct:st (hn x) = .string { data:=#[105,110] }:=by rw [g]; rfl
  refine ac (ai O (ad (aZ (cf (Er ?_)))));refine R1 O O λw' c=>?_;exact ⟨by rw [Ct],c.fr⟩
 have M:¬x.op=2:=by simpa using C
 refine ac (I (bx O O) (ai O (ad ?_)));refine Cc O (λD=>?_) (λD=>?_)
 ·have j:x.op=3:=by simpa using D
  have g:=VO j;have hN:=congrArg List.length g;refine ac (I (Yf rr O) (I (Yd 0 O O O aa) (I (Yf rs O) (I (Yd 0 O O O aa) (Lp Y O aK O (λw c=>xA _ _ w Z) (ai O (ad (aZ (cf (Er ?_))))))))));refine R1 O O λw' c=>?_;exact ⟨by rw [g],c.fr⟩
 have N:¬x.op=3:=by simpa using D
 refine ac (I (bx O O) (ai O (ad ?_)));refine Cc O (λE=>?_) (λE=>?_)
 ·have j:x.op=4:=by simpa using E
  have q:=m.ta (.inl j);obtain ⟨y,l⟩:∃y,x.args[0]? = some y:=qp q bf;obtain ⟨Q,R,s,o⟩:=p.aq 0 y l
  obtain ⟨f,rfl⟩:∃f,k=f+1:=by
    cases k with
    | zero=>exact o.elim
    | succ f=>exact ⟨f,rfl⟩
  obtain ⟨t,u,v,z⟩:=o;have A:=oQ m.sub l;have g:=VP j l;have hN:=congrArg List.length g;simp only [bT,b5,b8] at hN;refine Cs ?_;refine WC.hU [(0,true),(1,true),(2,true),(3,true),(6,true),(7,true),(8,true),(9,true),(4,false),(5,true),(10,false),(11,true),(12,true),(13,true)] mixed aa (λ_ _ _ d _ h=>by cases d<;>exact h) ?_;refine D0 O ag (Yf rr O) (D0 O ag (Yd 0 O O O aa) (D0 O ag (Yf rs O) (D0 O ag (Yd 0 O O O aa) (D0 O ag (Yf bA O) (D0 O ag (Yd 0 O O O aa) (D0 O ag (Yo (i:=0) fG O O s Z) (D0 O ag (eq 0 fY O O O (v)) ?_)))))));refine De O ag ?_;refine Lp Y O aK O (λw c=>xA _ _ w Z) (Ln (Ed (D0 O ag (az (b:=[32,91,32]) O O (by (try simp only [bT,b5,b8]); omega)) ?_)));refine De O ag ?_;refine Lp Y O aK O (λw c=>r f Z y t u (d+1) w c.V z A Z) (Ln (Ed (D0 O ag (az O O (by (try simp only [bT,b5,b8]); omega)) (D0 O ag (az (b:=[32,93]) O O (by (try simp only [bT,b5,b8]); omega)) (D0 O ag (Ya O) ?_)))));refine WD.nil ag ?_;refine Et (aZ (cf (Er ?_)));refine R1 O O λw' c=>?_;exact ⟨by rw [g],c.fr⟩
 have aw:¬x.op=4:=by simpa using E
 refine ac (I (bx O O) (ai O (ad ?_)));refine Cc O (λF=>?_) (λF=>?_)
 ·have j:x.op=5:=by simpa using F
  have g:=VQ j;have hN:=congrArg List.length g;simp only [bT,b5,b8] at hN;refine Cs ?_;refine WC.hU [(0,true),(1,true),(2,true),(3,true),(6,true),(7,true),(4,false),(5,true),(8,false),(9,true),(10,true),(11,true)] mixed aa (λ_ _ _ d _ h=>by cases d<;>exact h) ?_;refine D0 O ag (Yf rr O) (D0 O ag (Yd 0 O O O aa) (D0 O ag (Yf rs O) (D0 O ag (Yd 0 O O O aa) (D0 O ag (Yf bA O) (D0 O ag (Yd 0 O O O aa) ?_)))));refine De O ag ?_;refine Lp Y O aK O (λw c=>xA _ _ w Z) (Ln (Ed (D0 O ag (az (b:=[32,40]) O O (by (try simp only [bT,b5,b8]); omega)) ?_)));refine De O ag ?_;refine Lp Y O aK O (λw c=>MC H k r x.args a n (d+1) w c.V p m.sub Z) (Ln (Ed (D0 O ag (az O O (by (try simp only [bT,b5,b8]); omega)) (D0 O ag (az (b:=[32,41]) O O (by (try simp only [bT,b5,b8]); omega)) (D0 O ag (Ya O) ?_)))));refine WD.nil ag ?_;refine Et (aZ (cf (Er ?_)));refine R1 O O λw' c=>?_;exact ⟨by rw [g],c.fr⟩
 have ax:¬x.op=5:=by simpa using F
 refine ac (I (bx O O) (ai O (ad ?_)));refine Cc O (λG=>?_) (λG=>?_)
 ·have j:x.op=6:=by simpa using G
  have q:=m.ta (.inr j);obtain ⟨y,l⟩:∃y,x.args[0]? = some y:=qp q bf;obtain ⟨Q,R,s,o⟩:=p.aq 0 y l
  obtain ⟨f,rfl⟩:∃f,k=f+1:=by
    cases k with
    | zero=>exact o.elim
    | succ f=>exact ⟨f,rfl⟩
  obtain ⟨t,u,v,z⟩:=o;have A:=oQ m.sub l;have g:=VR j l;have hN:=congrArg List.length g;simp only [bT,b5,b8] at hN;refine ac (I (Yf bA O) (I (Yd 0 O O O aa) (I (Yo (i:=0) fG O O s Z) (I (eq 0 fY O O O (v)) (Lp Y O aK O (λw c=>r f Z y t u (d+1) w c.V z A Z) (I (az (a:=[33,32]) O O (by (try simp only [bT,b5,b8]); omega)) (ai O ?_)))))));refine ad (aZ (cf (Er ?_)));refine R1 O O λw' c=>?_;exact ⟨by rw [g],c.fr⟩
 have ay:¬x.op=6:=by simpa using G
 have J:7<=x.op/\x.op<=15:=Z
 have q:=m.Kk J.1;obtain ⟨y,l⟩:∃y,x.args[0]? = some y:=qp q bf;obtain ⟨S,K⟩:∃y,x.args[1]? = some y:=qp q bf;obtain ⟨Q,R,s,o⟩:=p.aq 0 y l;obtain ⟨aA,aB,ae,af⟩:=p.aq 1 S K
 obtain ⟨f,rfl⟩:∃f,k=f+1:=by
   cases k with
   | zero=>exact o.elim
   | succ f=>exact ⟨f,rfl⟩
 obtain ⟨t,u,v,z⟩:=o;obtain ⟨ah,aj,al,am⟩:=af;have A:=oQ m.sub l;have an:=oQ m.sub K;have g:=VS J.1 l K;have hN:=congrArg List.length g;simp only [bT,b5,b8] at hN;refine Ck (Eb (Et (Cs ?_)));refine WC.hU [(0,true),(1,true),(2,true),(3,true),(7,true),(8,true),(12,true),(13,true),(14,true),(15,true),(4,false),(5,true),(6,true),(9,false),(10,true),(11,true),(16,false),(17,true),(18,true),(19,true)] mixed aa (λ_ _ _ d _ h=>by cases d<;>exact h) ?_;refine D0 O ag (Yf bA O) (D0 O ag (Yd 0 O O O aa) (D0 O ag (Yo (i:=0) fG O O s Z) (D0 O ag (eq 0 fY O O O (v)) (D0 O ag (Yf jI O) (D0 O ag (Yd 0 O O O aa) (D0 O ag (Yf bA O) (D0 O ag (Yd 0 O O O aa) ?_)))))));refine D0 O ag (Yo (i:=1) fG O O ae Z) (D0 O ag (eq 0 fY O O O (al)) ?_);refine De O ag ?_;refine Lp Y O aK O (λw c=>r f Z y t u (d+1) w c.V z A Z) (Ln (Ed (D0 O ag (az (a:=[40,32]) O O (by (try simp only [bT,b5,b8]); omega)) (D0 O ag (az (b:=[32]) O O (by (try simp only [bT,b5,b8]); omega)) ?_))));refine De O ag ?_;refine Lp Y O aK O (λw c=>V3 _ J w) (Ln (Ed (D0 O ag (az O O (by (try simp only [bT,b5,b8]); omega)) (D0 O ag (az (b:=[32]) O O (by (try simp only [bT,b5,b8]); omega)) ?_))));refine De O ag ?_;refine Lp Y O aK O (λw c=>r f Z S ah aj (d+1) w c.V am an Z) (Ln (Ed (D0 O ag (az O O (by (try simp only [bT,b5,b8]); omega)) (D0 O ag (az (b:=[32,41]) O O (by (try simp only [bT,b5,b8]); omega)) (D0 O ag (Ya O) ?_)))));refine WD.nil ag ?_;refine Et (aZ ?_);refine R1 O O λw' c=>?_;exact ⟨by rw [g],c.fr⟩
def MD (b:Bool) (w:World) :
   Calls prog 52 #[.bool b] w λe w'=>e = .returned (st (mE b))/\Ext w w':=by
 refine enter func52 O 4 O O ?_;refine CE (Vs:=[]) (Ws.init au) (ac (ai O (ad (Cs (ac (ab O (ad ?_)))))));refine Cc O (λa=>?_) (λa=>?_)
 ·subst a;refine ac (ai O (ad (aZ (Er ?_))));refine R1 O O λw' c=>?_;exact ⟨O,c.fr⟩
 subst a;refine am (ac (ai O (ad (aZ ?_))));refine R1 O O λw' c=>?_;exact ⟨O,c.fr⟩
def V4 (H:View) (ke k:Nat) (F:V2 H ke k) (x:bE) (a:Option Addr) (n:Nat) (a2:Option Addr) (n2:Nat) (a3:Option Addr) (n3 d:Nat) (w:World) (af:Le H w) (v:Sl (gn ke) 5 H a n x.args) (S:Sl (e5 ke k) 6 H a2 n2 x.body) (ah:Sl (e5 ke k) 6 H a3 n3 x.other) (aj:(iz x d).b6=0) (aA:(bz x).length<=9223372036854775807) :
   Calls prog 129 #[.agg #[.int .i64 x.op,st x.mod,st x.nm,.slice a x.args.length n,.slice a2 x.body.length n2,.slice a3 x.other.length n3]] w λe w'=>e = .returned (st (bz x))/\Ext w w':=by
 have aB:=v.cap;have aC:=v.max;have l:=Uf aj;have aD:=l.kind;refine enter func129 O 109 O O ?_;refine CE (Vs:=[H]) (Ws.init (by simp [af])) (ac ?_);refine WL.box Y O O λaE=>?_;refine ai O (ad (Cs (ac (I (Yf ht O) (I (Yd 0 O O O aa) (ad (Cb (ac (I (bx O O) (ai O (ad ?_)))))))))));refine Cc O (λG=>?_) (λG=>?_)
 ·have z:x.op=1:=by simpa using G
  have o:=zb l Z Z;obtain ⟨y,g⟩:∃y,x.args[0]? = some y:=qp o bf;obtain ⟨A,B,p,m⟩:=v.aq 0 y g
  obtain ⟨f,rfl⟩:∃f,ke=f+1:=by
    cases ke with
    | zero=>exact m.elim
    | succ f=>exact ⟨f,rfl⟩
  obtain ⟨q,r,s,t⟩:=m;have u:=oQ l.exprs g;have j:=VU z g;have hN:=congrArg List.length j;simp only [bT,b5,b8] at hN;refine Cs ?_;refine WC.hU [(0,true),(1,true),(2,true),(3,true),(6,true),(7,true),(8,true),(9,true),(4,false),(5,true),(10,false),(11,true),(12,true),(13,true)] mixed aa (λ_ _ _ d _ h=>by cases d<;>exact h) ?_;refine D0 O ag (Yf qm O) (D0 O ag (Yd 0 O O O aa) (D0 O ag (Yf qn O) (D0 O ag (Yd 0 O O O aa) (D0 O ag (Yf h5 O) (D0 O ag (Yd 0 O O O aa) (D0 O ag (Yo (i:=0) fG O O p Z) (D0 O ag (eq 0 fY O O O (s)) ?_)))))));refine De O ag ?_;refine Lp Y O aK O (λw c=>xA _ _ w Z) (Ln (Ed (D0 O ag (az (b:=[32,61,32]) O O (by (try simp only [bT,b5,b8]); omega)) ?_)));refine De O ag ?_;refine Lp Y O aK O (λw c=>tR H f y q r 1 w c.V t u Z) (Ln (Ed (D0 O ag (az O O (by (try simp only [bT,b5,b8]); omega)) (D0 O ag (az (b:=[32,59]) O O (by (try simp only [bT,b5,b8]); omega)) (D0 O ag (Ya O) ?_)))));refine WD.nil ag ?_;refine Et (aZ (cf (Er ?_)));refine R1 O O λw' c=>?_;exact ⟨by rw [j],c.fr⟩
 have T:¬x.op=1:=by simpa using G
 refine ac (I (bx O O) (ai O (ad ?_)));refine Cc O (λJ=>?_) (λJ=>?_)
 ·have z:x.op=2:=by simpa using J
  have o:=Ug l Z;obtain ⟨y,g⟩:∃y,x.args[0]? = some y:=qp o bf;obtain ⟨U,K⟩:∃y,x.args[1]? = some y:=qp o bf;obtain ⟨A,B,p,m⟩:=v.aq 0 y g;obtain ⟨aF,aG,ak,al⟩:=v.aq 1 U K
  obtain ⟨f,rfl⟩:∃f,ke=f+1:=by
    cases ke with
    | zero=>exact m.elim
    | succ f=>exact ⟨f,rfl⟩
  obtain ⟨q,r,s,t⟩:=m;obtain ⟨an,ao,ap,ar⟩:=al;have u:=oQ l.exprs g;have au:=oQ l.exprs K;have j:=VV z g K;have hN:=congrArg List.length j;simp only [bT,b5,b8] at hN;refine Cs ?_;refine WC.hU [(0,true),(1,true),(2,true),(3,true),(6,true),(7,true),(8,true),(9,true),(13,true),(14,true),(15,true),(16,true),(4,false),(5,true),(10,false),(11,true),(12,true),(17,false),(18,true),(19,true),(20,true)] mixed aa (λ_ _ _ d _ h=>by cases d<;>exact h) ?_;refine D0 O ag (Yf qm O) (D0 O ag (Yd 0 O O O aa) (D0 O ag (Yf qn O) (D0 O ag (Yd 0 O O O aa) (D0 O ag (Yf h5 O) (D0 O ag (Yd 0 O O O aa) (D0 O ag (Yo (i:=0) fG O O p Z) (D0 O ag (eq 0 fY O O O (s)) ?_)))))));refine D0 O ag (Yf h5 O) (D0 O ag (Yd 0 O O O aa) (D0 O ag (Yo (i:=1) fG O O ak Z) (D0 O ag (eq 0 fY O O O (ap)) ?_)));refine De O ag ?_;refine Lp Y O aK O (λw c=>xA _ _ w Z) (Ln (Ed (D0 O ag (az (b:=[32,91,32]) O O (by (try simp only [bT,b5,b8]); omega)) ?_)));refine De O ag ?_;refine Lp Y O aK O (λw c=>tR H f y q r 1 w c.V t u Z) (Ln (Ed (D0 O ag (az O O (by (try simp only [bT,b5,b8]); omega)) (D0 O ag (az (b:=[32,93,32,61,32]) O O (by (try simp only [bT,b5,b8]); omega)) ?_))));refine De O ag ?_;refine Lp Y O aK O (λw c=>tR H f U an ao 1 w c.V ar au Z) (Ln (Ed (D0 O ag (az O O (by (try simp only [bT,b5,b8]); omega)) (D0 O ag (az (b:=[32,59]) O O (by (try simp only [bT,b5,b8]); omega)) (D0 O ag (Ya O) ?_)))));refine WD.nil ag ?_;refine Et (aZ (cf (Er ?_)));refine R1 O O λw' c=>?_;exact ⟨by rw [j],c.fr⟩
 have W:¬x.op=2:=by simpa using J
 refine ac (I (bx O O) (ai O (ad ?_)));refine Cc O (λL=>?_) (λL=>?_)
 ·have z:x.op=3:=by simpa using L
  have j:=VW z;have hN:=congrArg List.length j;simp only [bT,b5,b8] at hN;refine Cs ?_;refine WC.hU [(0,true),(1,true),(2,true),(3,true),(6,true),(7,true),(4,false),(5,true),(8,false),(9,true),(10,true),(11,true)] mixed aa (λ_ _ _ d _ h=>by cases d<;>exact h) ?_;refine D0 O ag (Yf qm O) (D0 O ag (Yd 0 O O O aa) (D0 O ag (Yf qn O) (D0 O ag (Yd 0 O O O aa) (D0 O ag (Yf h5 O) (D0 O ag (Yd 0 O O O aa) ?_)))));refine De O ag ?_;refine Lp Y O aK O (λw c=>xA _ _ w Z) (Ln (Ed (D0 O ag (az (b:=[32,40]) O O (by (try simp only [bT,b5,b8]); omega)) ?_)));refine De O ag ?_;refine Lp Y O aK O (λw c=>MC H ke (λf _ x a n d w aw T W X=>tR H f x a n d w aw T W X) x.args a n 1 w c.V v l.exprs Z) (Ln (Ed (D0 O ag (az O O (by (try simp only [bT,b5,b8]); omega)) (D0 O ag (az (b:=[32,41,32,59]) O O (by (try simp only [bT,b5,b8]); omega)) (D0 O ag (Ya O) ?_)))));refine WD.nil ag ?_;refine Et (aZ (cf (Er ?_)));refine R1 O O λw' c=>?_;exact ⟨by rw [j],c.fr⟩
 have X:¬x.op=3:=by simpa using L
 refine ac (I (bx O O) (ai O (ad ?_)));refine Cc O (λM=>?_) (λM=>?_)
 ·have C:x.op=4:=by simpa using M
  have o:=zb l Z Z;obtain ⟨y,g⟩:∃y,x.args[0]? = some y:=qp o bf;obtain ⟨A,B,p,m⟩:=v.aq 0 y g
  obtain ⟨f,rfl⟩:∃f,ke=f+1:=by
    cases ke with
    | zero=>exact m.elim
    | succ f=>exact ⟨f,rfl⟩
  obtain ⟨q,r,s,t⟩:=m;have u:=oQ l.exprs g;have N:(eS x.body (d+1)).b6=0:=l.body (by simp [inner,C])
  have ax:(bz x).length=(if 0<x.other.length then 6+(jX x.other).length else 0)+(4+(hn y).length+(jX x.body).length):=by
    by_cases E:0<x.other.length
    · rw [Mx C g E,a8 E]; simp only [bT,b5,b8]; omega
    · rw [My C g E,av E]; simp only [bT,b5,b8]; omega
  refine Cs ?_;refine WC.hU [(0,true),(1,true),(2,true),(3,true),(7,true),(8,true),(4,false),(5,true),(6,true),(9,false),(10,true),(11,true)] mixed aa (λ_ _ _ d _ h=>by cases d<;>exact h) ?_;refine D0 O ag (Yf h5 O) (D0 O ag (Yd 0 O O O aa) (D0 O ag (Yo (i:=0) fG O O p Z) (D0 O ag (eq 0 fY O O O (s)) (D0 O ag (Yf mL O) (D0 O ag (Yd 0 O O O aa) ?_)))));refine De O ag ?_;refine Lp Y O aK O (λw c=>tR H f y q r 1 w c.V t u Z) (Ln (Ed (D0 O ag (az (a:=[105,102,32]) O O (by (try simp only [bT,b5,b8]); omega)) (D0 O ag (az (b:=[32]) O O (by (try simp only [bT,b5,b8]); omega)) ?_))));refine De O ag ?_;refine Lp Y O aK O (λw c=>F x.body a2 n2 (d+1) w c.V S N Z) (Ln (Ed (D0 O ag (az O O (by (try simp only [bT,b5,b8]); omega)) (D0 O ag (Ya O) ?_))));refine WD.nil ag ?_;refine Et (Cs (ac (I (Yf lN O) (I (Yd 0 O O O aa) (I (Yn h_ O) (I (ed O O) ?_))))));rw [nV];refine ad ?_;refine Cc O (λP=>?_) (λP=>?_)
  ·have D:0<x.other.length:=by simpa using P
   have j:=Mx C g D;rw [a8 D] at ax;have ay:(eS x.other (d+1)).b6=0:=l.other D;refine Cr (ab O (I (az (b:=[32,101,108,115,101,32]) O O (by (try simp only [bT,b5,b8]); omega)) (I (Yf lN O) (I (Yd 0 O O O aa) (Lp Y O aK O (λw c=>F x.other a3 n3 (d+1) w c.V ah ay Z) (I (az O O (by (try simp only [bT,b5,b8]); omega)) (ai O ?_)))))));refine ad (ac (ab O (ai O (ad (aZ (cf (Er ?_)))))));refine R1 O O λw' c=>?_;exact ⟨by rw [j],c.fr⟩
  have D:¬0<x.other.length:=by simpa using P
  have j:=My C g D;refine am (ac (ab O (ai O (ad (aZ (cf (Er ?_)))))));refine R1 O O λw' c=>?_;exact ⟨by rw [j],c.fr⟩
 have aH:¬x.op=4:=by simpa using M
 refine ac (I (bx O O) (ai O (ad ?_)));refine Cc O (λQ=>?_) (λQ=>?_)
 ·have ae:x.op=5:=by simpa using Q
  have o:=zb l Z Z;obtain ⟨y,g⟩:∃y,x.args[0]? = some y:=qp o bf;obtain ⟨A,B,p,m⟩:=v.aq 0 y g
  obtain ⟨f,rfl⟩:∃f,ke=f+1:=by
    cases ke with
    | zero=>exact m.elim
    | succ f=>exact ⟨f,rfl⟩
  obtain ⟨q,r,s,t⟩:=m;have u:=oQ l.exprs g;have N:(eS x.body (d+1)).b6=0:=l.body (by simp [inner,ae]);have j:=VX ae g;have hN:=congrArg List.length j;simp only [bT,b5,b8] at hN;refine Cs ?_;refine WC.hU [(0,true),(1,true),(2,true),(3,true),(7,true),(8,true),(4,false),(5,true),(6,true),(9,false),(10,true),(11,true)] mixed aa (λ_ _ _ d _ h=>by cases d<;>exact h) ?_;refine D0 O ag (Yf h5 O) (D0 O ag (Yd 0 O O O aa) (D0 O ag (Yo (i:=0) fG O O p Z) (D0 O ag (eq 0 fY O O O (s)) (D0 O ag (Yf mL O) (D0 O ag (Yd 0 O O O aa) ?_)))));refine De O ag ?_;refine Lp Y O aK O (λw c=>tR H f y q r 1 w c.V t u Z) (Ln (Ed (D0 O ag (az (a:=[119,104,105,108,101,32]) O O (by (try simp only [bT,b5,b8]); omega)) (D0 O ag (az (b:=[32]) O O (by (try simp only [bT,b5,b8]); omega)) ?_))));refine De O ag ?_;refine Lp Y O aK O (λw c=>F x.body a2 n2 (d+1) w c.V S N Z) (Ln (Ed (D0 O ag (az O O (by (try simp only [bT,b5,b8]); omega)) (D0 O ag (Ya O) ?_))));refine WD.nil ag ?_;refine Et (aZ (cf (Er ?_)));refine R1 O O λw' c=>?_;exact ⟨by rw [j],c.fr⟩
 have aI:¬x.op=5:=by simpa using Q
 refine ac (I (bx O O) (ai O (ad ?_)));refine Cc O (λR=>?_) (λR=>?_)
 ·have z:x.op=6:=by simpa using R
  have o:=zb l Z Z;obtain ⟨y,g⟩:∃y,x.args[0]? = some y:=qp o bf;obtain ⟨A,B,p,m⟩:=v.aq 0 y g
  obtain ⟨f,rfl⟩:∃f,ke=f+1:=by
    cases ke with
    | zero=>exact m.elim
    | succ f=>exact ⟨f,rfl⟩
  obtain ⟨q,r,s,t⟩:=m;have u:=oQ l.exprs g;have j:=VY z g;have hN:=congrArg List.length j;simp only [bT,b5,b8] at hN;refine ac (I (Yf h5 O) (I (Yd 0 O O O aa) (I (Yo (i:=0) fG O O p Z) (I (eq 0 fY O O O (s)) (Lp Y O aK O (λw c=>tR H f y q r 1 w c.V t u Z) (I (az (a:=[114,101,116,117,114,110,32]) O O (by (try simp only [bT,b5,b8]); omega)) (I (az (b:=[32,59]) O O (by (try simp only [bT,b5,b8]); omega)) ?_)))))));refine ai O (ad (aZ (cf (Er ?_))));refine R1 O O λw' c=>?_;exact ⟨by rw [j],c.fr⟩
 have aJ:¬x.op=6:=by simpa using R
 have z:x.op=7:=Z
 have o:=zb l Z Z;obtain ⟨y,g⟩:∃y,x.args[0]? = some y:=qp o bf;obtain ⟨A,B,p,m⟩:=v.aq 0 y g
 obtain ⟨f,rfl⟩:∃f,ke=f+1:=by
   cases ke with
   | zero=>exact m.elim
   | succ f=>exact ⟨f,rfl⟩
 obtain ⟨q,r,s,t⟩:=m;have u:=oQ l.exprs g;have j:=VZ z g;have hN:=congrArg List.length j;simp only [bT,b5,b8] at hN;refine Ck (Eb (Et (ac (I (Yf h5 O) (I (Yd 0 O O O aa) (I (Yo (i:=0) fG O O p Z) (I (eq 0 fY O O O (s)) (Lp Y O aK O (λw c=>tR H f y q r 1 w c.V t u Z) (I (az (a:=[111,117,116,32]) O O (by (try simp only [bT,b5,b8]); omega)) (I (az (b:=[32,59]) O O (by (try simp only [bT,b5,b8]); omega)) ?_))))))))));refine ai O (ad (aZ ?_));refine R1 O O λw' c=>?_;exact ⟨by rw [j],c.fr⟩
def ME (H:View) (ke k:Nat) (l:List bE) (a:Option Addr) (n d:Nat) (w:World) (o:Le H w) (g:Sl (e5 ke k) 6 H a n l) (p:(eS l d).b6=0) (Q:(jX l).length<=9223372036854775807) :
   Calls prog 54 #[.slice a l.length n] w λe w'=>e = .returned (st (jX l))/\Ext w w':=by
 induction k using Nat.strongRecOn generalizing l a n d w
 rename_i k q;have R:=g.cap;have S:=g.max;have r:(dF l d).b6=0:=(u_ p).2.2;have hN:=V1 l;refine enter func54 O 21 O O ?_;refine CE (Vs:=[H]) (Ws.init (by simp [o])) (ac (ai O (ad (ac (ai O (ad (Cs (ac (ai O (ad (Cb ?_)))))))))));refine fT (ι:=Nat) (λi=>[(4,.int .i64 (i:Int)),(3,st ([123,32]++h3 (l.take i)))]) [(0,_),(2,_)] (λi=>i<=l.length) (λi=>l.length-i) 0 (cx _) ?_;intro i hi;refine Cs (ac (ab O (ab O (I (Yn h_ O) (I (cy O O) (ad ?_))))));refine Cc O (λh=>?_) (λh=>?_)
 ·have s:i<l.length:=by simpa using h
  obtain ⟨y,f⟩:=dw s;obtain ⟨T,U,t,m⟩:=g.aq i y f
  obtain ⟨c,rfl⟩:∃c,k=c+1:=by
    cases k with
    | zero=>exact m.elim
    | succ c=>exact ⟨c,rfl⟩
  obtain ⟨u,v,x,z,A,B,C,D,E,F⟩:=m;have G:=LO r f;have W:=V0 f
  have J:[123,32]++h3 (l.take i)++bz y++[32]=[123,32]++h3 (l.take (i+1)):=by rw [Mz f]; simp
  refine am (Cs (Cb (Cr (ab O (ab O (ab O (I (Yo h_ O O t Z) (I (eq 0 iR O O O (C)) (Lp Y O aK O (λw j=>V4 H ke c (λl a n d w K L M N=>q c Z l a n d w K L M N) y u v x z A B d w j.V D E F G Z) (I (az O O (by (try simp only [bT,b5,b8]); omega)) ?_))))))))));refine I (az (b:=[32]) O O (by (try simp only [bT,b5,b8]); omega)) (ai O (Ln (Eb (Et (Cr (ab O (I (Yi O O O Z) (ai O (Ln ?_)))))))));rw [J];exact ct (i+1) Z Z ag
 have X:¬i<l.length:=by simpa using h
 have P:[123,32]++h3 (l.take i)++[125]=jX l:=by rw [nn Z]; rfl
 have aa:=MA l i;refine Ce (Ex (Ex (cU (Et (ac (ab O (I (az (b:=[125]) O O (by (try simp only [bT,b5,b8]); omega)) (ai O (ad (aZ ?_))))))))));refine R1 O O λw' j=>?_;exact ⟨by rw [P],j.fr⟩
def V5 (h:eF.kind=1) (a:0<=eF.n):lf eF=mE eF.ao++([99,111,110,115,116,32]++eF.nm++[32,61,32]++Lib.decDigits eF.n.toNat++[32,59,32]):=by rw [lf,y1,a8 h,wh a]; simp [kM]
def V6 (h:eF.kind=2):lf eF=mE eF.ao++([118,97,114,32]++eF.nm++[32,59,32]):=by rw [lf,y1,av Z,a8 h]; simp [kN]
def V7 (a:¬eF.kind=1) (b:¬eF.kind=2) (c:0<=eF.n):lf eF=mE eF.ao++([97,114,114,97,121,32]++eF.nm++[32,91,32]++Lib.decDigits eF.n.toNat++[32,93,32,59,32]):=by rw [lf,y1,av a,av b,wh c]; simp [kO]
def MF (p:eI):rk p=mE p.ao++[112,114,111,99,32]++p.nm++[32,40]++fR p.params++[32,41,32]++p.aH.flatMap qk++jX p.body++[32]:=by unfold rk; simp [tC]
def MG (m:cm):vb m=[109,111,100,117,108,101,32]++m.nm++[32,123,32]++m.aP.flatMap oL++m.decls.flatMap lf++m.procs.flatMap rk++[109,97,105,110,32]++jX m.main++[32,125]:=by unfold vb; simp [sh,m_]
def V8 (u:Tx):(oL u).length=u.length+7:=by unfold oL si; simp only [bT,b5,b8]; omega
def V9 (u:Tx):(qk u).length=u.length+9:=by unfold qk rf; simp only [bT,b5,b8]; omega
def flatAll {f:a9->Tx} {l:List a9}  (h:¬ae<l.length):(l.take ae).flatMap f=l.flatMap f:=by rw [nn Z]
def MH (H:View) (ke ks:Nat) (r:iB) (m:cm) (w:World) (av:Le H w) (k:jb ke ks H r m) (aw:(jP m).b6=0) (aW:(vb m).length<=9223372036854775807) :
   Calls prog 12 #[.agg (fi m r).toArray] w λe w'=>e = .returned (st (vb m))/\Ext w w':=by
 have M:=BB aw;have hN:=congrArg List.length (MG m);simp only [bT,b5,b8] at hN;have aX:=k.aP.cap;have aY:=k.aP.max;have a0:=k.decls.cap;have a1:=k.decls.max;have a2:=k.procs.cap;have a3:=k.procs.max;refine enter func12 O 154 O O ?_;refine CE (Vs:=[H]) (Ws.init (by simp [av])) (ac ?_);refine WL.box Y O O λa5=>?_;refine ai O (ad (ac (I (Yf g7 O) (I (Yd 0 O O O aa) (I (az (a:=[109,111,100,117,108,101,32]) O O (by (try simp only [bT,b5,b8]); omega)) (I (az (b:=[32,123,32]) O O (by (try simp only [bT,b5,b8]); omega)) (ai O (ad (Cs (ac ?_))))))))));refine ai O (ad (Cb ?_));refine fT (ι:=Nat×Tx) (λg=>[(4,.int .i64 (g.1:Int)),(3,st g.2)]) [(1,_),(2,_)] (λg=>g.1<=m.aP.length/\g.2=[109,111,100,117,108,101,32]++m.nm++[32,123,32]++(m.aP.take g.1).flatMap oL) (λg=>m.aP.length-g.1) (0,[109,111,100,117,108,101,32]++m.nm++[32,123,32]) ⟨cx _,by simp [fR]⟩ ?_;intro g ⟨a6,F⟩;have al:=congrArg List.length F;simp only [bT,b5,b8] at al;refine Cs (ac (ab O (I (Yf j4 O) (I (Yd 0 O O O aa) (I (Yn dT O) (I (cy O O) (ad ?_)))))));refine Cc O (λN=>?_) (λN=>?_)
 ·have l:g.1<m.aP.length:=by simpa using N
  obtain ⟨u,P⟩:=dw l;obtain ⟨ax,ay,x,i⟩:=k.aP.aq g.1 u P;have i:cw H ax (ay+g.1*1) (eE u):=i;have Q:=BQ (f:=oL) P;rw [V8] at Q;refine am (Cs (Cb (Cr (ab O (I (az (b:=[117,115,101,32]) O O (by (try simp only [bT,b5,b8]); omega)) (I (Yf j4 O) (I (Yd 0 O O O aa) (ab O (I (Yo dT O O x Z) (I (cC 0 aa O O (i 0 _ O)) ?_))))))))));refine I (az O O (by (try simp only [bT,b5,b8]); omega)) (I (az (b:=[32,59,32]) O O (by (try simp only [bT,b5,b8]); omega)) (ai O (Ln (Eb (Et (Cr (ab O (I (Yi O O O Z) (ai O (Ln ?_))))))))));exact ct ((g.1+1,g.2++[117,115,101,32]++u++[32,59,32]):Nat×Tx) (by show m.aP.length-(g.1+1)<m.aP.length-g.1; omega) ⟨by show g.1+1<=m.aP.length; omega,by show _=_++(m.aP.take (g.1+1)).flatMap oL; rw [jG P,F]; simp [oL,si]⟩ ag
 have aA:¬g.1<m.aP.length:=by simpa using N
 rw [flatAll aA] at F al;refine Ce (Ex (Ex (cU (Et (Cs (ac (ai O (ad (Cb ?_)))))))));refine fT (ι:=Nat×Tx) (λc=>[(5,.int .i64 (c.1:Int)),(3,st c.2)]) [(1,_),(2,_)] (λc=>c.1<=m.decls.length/\c.2=([109,111,100,117,108,101,32]++m.nm++[32,123,32]++m.aP.flatMap oL)++(m.decls.take c.1).flatMap lf) (λc=>m.decls.length-c.1) (0,g.2) ⟨cx _,by simp [fR,F]⟩ ?_;intro c ⟨a7,y⟩;have an:=congrArg List.length y;simp only [bT,b5,b8] at an;refine Cs (ac (ab O (I (Yf oO O) (I (Yd 0 O O O aa) (I (Yn nW O) (I (cy O O) (ad ?_)))))));refine Cc O (λR=>?_) (λR=>?_)
 ·have l:c.1<m.decls.length:=by simpa using R
  obtain ⟨d,z⟩:=dw l;obtain ⟨aB,aC,aD,S⟩:=k.decls.aq c.1 d z;have S:cw H aB (aC+c.1*4) d.cells:=S;have A:=vd (M.decls d (gu z));have Q:=BQ (f:=lf) z
  have a8:(mE d.ao).length<=(lf d).length:=by unfold lf; rw [bT]; omega
  refine am (Cs (Cb (ac (I (Yf oO O) (I (Yd 0 O O O aa) (ab O (I (Yo nW O O aD Z) (I (eq 0 mM O O O (S)) ?_))))))));refine Al Y O oP λa9=>?_;refine aT 0 Y O O O pA O O O (ad (ac (ab O (I (Yf zd O) (I (Yd 0 O O O aa) (Lp Y O aK O (λw o=>MD _ w) (I (az O O (by (try simp only [bT,b5,b8]); omega)) (ai O ?_))))))));refine ad (ac (I (Yf lM O) (I (Yd 0 O O O aa) (ad (Cb (ac (I (bx O O) (ai O (ad ?_)))))))));refine Cc O (λT=>?_) (λT=>?_)
  ·have q:d.kind=1:=by simpa using T
   have B:0<=d.n:=(A.n1 q).1;have aE:d.n<=1099511627775:=(A.n1 q).2;have t:=V5 q B;have C:=congrArg List.length t;simp only [bT,b5,b8] at C;refine WC.hU [(0,true),(1,true),(2,true),(3,true),(4,true),(5,true),(6,true),(7,true),(8,false),(9,true),(10,true),(11,true)] mixed aa (λ_ _ _ d _ h=>by cases d<;>exact h) ?_;refine D0 O ag (Ym O) (D0 O ag (az (b:=[99,111,110,115,116,32]) O O (by (try simp only [bT,b5,b8]); omega)) (D0 O ag (Yf rq O) (D0 O ag (Yd 0 O O O aa) (D0 O ag (az O O (by (try simp only [bT,b5,b8]); omega)) (D0 O ag (az (b:=[32,61,32]) O O (by (try simp only [bT,b5,b8]); omega)) (D0 O ag (Yf mK O) (D0 O ag (Yd 0 O O O aa) ?_)))))));refine De O ag ?_
   refine Lp Y O aK O (λw o=>by
       have:=Ft d.n.toNat w Z;rw [C4 B] at this
       exact this) ?_
   refine Ln (Ed (D0 O ag (az O O (by (try simp only [bT,b5,b8]); omega)) (D0 O ag (az (b:=[32,59,32]) O O (by (try simp only [bT,b5,b8]); omega)) (D0 O ag (Ya O) ?_))));refine WD.nil ag ?_;refine Eb (Eb (Et (Cr (ab O (I (Yi O O O Z) (ai O (Ln ?_)))))));exact ct ((c.1+1,c.2++mE d.ao++[99,111,110,115,116,32]++d.nm++[32,61,32]++Lib.decDigits d.n.toNat++[32,59,32]):Nat×Tx) (by show m.decls.length-(c.1+1)<m.decls.length-c.1; omega) ⟨by show c.1+1<=m.decls.length; omega,by show _=_++(m.decls.take (c.1+1)).flatMap lf; rw [jG z,t,y]; simp⟩ (λ_ h=>Wd 1 h)
  have aF:¬d.kind=1:=by simpa using T
  refine ac (I (bx O O) (ai O (ad ?_)));refine Cc O (λU=>?_) (λU=>?_)
  ·have q:d.kind=2:=by simpa using U
   have t:=V6 q;have C:=congrArg List.length t;simp only [bT,b5,b8] at C;refine Cr (ab O (I (az (b:=[118,97,114,32]) O O (by (try simp only [bT,b5,b8]); omega)) (I (Yf rq O) (I (Yd 0 O O O aa) (I (az O O (by (try simp only [bT,b5,b8]); omega)) (I (az (b:=[32,59,32]) O O (by (try simp only [bT,b5,b8]); omega)) (ai O ?_)))))));refine Ln (Eb (Eb (Et (Cr (ab O (I (Yi O O O Z) (ai O (Ln ?_))))))));exact ct ((c.1+1,c.2++mE d.ao++[118,97,114,32]++d.nm++[32,59,32]):Nat×Tx) (by show m.decls.length-(c.1+1)<m.decls.length-c.1; omega) ⟨by show c.1+1<=m.decls.length; omega,by show _=_++(m.decls.take (c.1+1)).flatMap lf; rw [jG z,t,y]; simp⟩ (λ_ h=>Wd 1 h)
  have aG:¬d.kind=2:=by simpa using U
  have q:d.kind=3:=by have:=A.kind; omega
  have B:0<=d.n:=by have:=A.n3 q; omega
  have aE:d.n<=1099511627775:=by have:=A.n3 q; omega
  have t:=V7 aF aG B;have C:=congrArg List.length t;simp only [bT,b5,b8] at C;refine WC.hU [(0,true),(1,true),(2,true),(3,true),(4,true),(5,true),(6,true),(7,true),(8,false),(9,true),(10,true),(11,true)] mixed aa (λ_ _ _ d _ h=>by cases d<;>exact h) ?_;refine D0 O ag (Ym O) (D0 O ag (az (b:=[97,114,114,97,121,32]) O O (by (try simp only [bT,b5,b8]); omega)) (D0 O ag (Yf rq O) (D0 O ag (Yd 0 O O O aa) (D0 O ag (az O O (by (try simp only [bT,b5,b8]); omega)) (D0 O ag (az (b:=[32,91,32]) O O (by (try simp only [bT,b5,b8]); omega)) (D0 O ag (Yf mK O) (D0 O ag (Yd 0 O O O aa) ?_)))))));refine De O ag ?_
  refine Lp Y O aK O (λw o=>by
      have:=Ft d.n.toNat w Z;rw [C4 B] at this
      exact this) ?_
  refine Ln (Ed (D0 O ag (az O O (by (try simp only [bT,b5,b8]); omega)) (D0 O ag (az (b:=[32,93,32,59,32]) O O (by (try simp only [bT,b5,b8]); omega)) (D0 O ag (Ya O) ?_))));refine WD.nil ag ?_;refine Eb (Eb (Et (Cr (ab O (I (Yi O O O Z) (ai O (Ln ?_)))))));exact ct ((c.1+1,c.2++mE d.ao++[97,114,114,97,121,32]++d.nm++[32,91,32]++Lib.decDigits d.n.toNat++[32,93,32,59,32]):Nat×Tx) (by show m.decls.length-(c.1+1)<m.decls.length-c.1; omega) ⟨by show c.1+1<=m.decls.length; omega,by show _=_++(m.decls.take (c.1+1)).flatMap lf; rw [jG z,t,y]; simp⟩ (λ_ h=>Wd 1 h)
 have aI:¬c.1<m.decls.length:=by simpa using R
 rw [flatAll aI] at y an;refine Ce (Ex (Ex (cU (Et (Cs (ac (ai O (ad (Cb ?_)))))))));refine fT (ι:=Nat×Tx) (λj=>[(7,.int .i64 (j.1:Int)),(3,st j.2)]) [(1,_),(2,_)] (λj=>j.1<=m.procs.length/\j.2=(([109,111,100,117,108,101,32]++m.nm++[32,123,32]++m.aP.flatMap oL)++m.decls.flatMap lf)++(m.procs.take j.1).flatMap rk) (λj=>m.procs.length-j.1) (0,c.2) ⟨cx _,by simp [fR,y]⟩ ?_;intro j ⟨a',G⟩;have ap:=congrArg List.length G;simp only [bT,b5,b8] at ap;refine Cs (ac (ab O (I (Yf lh O) (I (Yd 0 O O O aa) (I (Yn j5 O) (I (cy O O) (ad ?_)))))));refine Cc O (λW=>?_) (λW=>?_)
 ·have l:j.1<m.procs.length:=by simpa using W
  obtain ⟨p,J⟩:=dw l;obtain ⟨a_,ba,aJ,aL⟩:=k.procs.aq j.1 p J;obtain ⟨bb,bc,bd,be,aM,aN,i,X,ae,aO⟩:=aL;have aQ:=sm (M.procs p (gu J));have Q:=BQ (f:=rk) J;have aR:=congrArg List.length (MF p);simp only [bT,b5,b8] at aR;have bf:=X.cap;have bg:=X.max;have bh:=ae.cap;have bj:=ae.max;refine am (Cs (Cb (ac (I (Yf lh O) (I (Yd 0 O O O aa) (ab O (I (Yo j5 O O aJ Z) (I (eq 0 ru O O O (i)) ?_))))))));refine Al Y O pB λbk=>?_;refine aT 0 Y O O O dq O O O (ad (Cs ?_));refine WC.hU [(0,true),(1,true),(2,true),(6,true),(7,true),(3,false),(4,true),(5,true),(8,true),(9,true),(10,true)] mixed aa (λ_ _ _ d _ h=>by cases d<;>exact h) ?_;refine D0 O ag (Ym O) (D0 O ag (Yf Fz O) (D0 O ag (Yd 0 O O O aa) (D0 O ag (Yf za O) (D0 O ag (Yd 0 O O O aa) ?_))));refine De O ag ?_;refine Lp Y O aK O (λw o=>MD _ w) (Ln (Ed (D0 O ag (az O O (by (try simp only [bT,b5,b8]); omega)) (D0 O ag (az (b:=[112,114,111,99,32]) O O (by (try simp only [bT,b5,b8]); omega)) (D0 O ag (az O O (by (try simp only [bT,b5,b8]); omega)) (D0 O ag (az (b:=[32,40]) O O (by (try simp only [bT,b5,b8]); omega)) (D0 O ag (Ya O) ?_)))))));refine WD.nil ag ?_;refine Et (Cs (ac (ai O (ad (Cb ?_)))));refine fT (ι:=Nat×Tx) (λe=>[(9,.int .i64 (e.1:Int)),(3,st e.2)]) [(1,_),(2,_),(7,_),(8,_)] (λe=>e.1<=p.params.length/\e.2=(j.2++mE p.ao++[112,114,111,99,32]++p.nm++[32,40])++fR (p.params.take e.1)) (λe=>p.params.length-e.1) (0,(j.2++mE p.ao++[112,114,111,99,32]++p.nm++[32,40])) ⟨cx _,by simp [fR]⟩ ?_;intro e ⟨bl,D⟩;have ar:=congrArg List.length D;simp only [bT,b5,b8] at ar;refine Cs (ac (ab O (I (Yf kT O) (I (Yd 0 O O O aa) (I (Yn dT O) (I (cy O O) (ad ?_)))))));refine Cc O (λaf=>?_) (λaf=>?_)
  ·have l:e.1<p.params.length:=by simpa using af
   obtain ⟨s,v⟩:=dw l;obtain ⟨ah,pos,x,i⟩:=X.aq e.1 s v;have i:cw H ah (pos+e.1*1) (eE s):=i;have K:=Mw p.params (e.1+1);refine am (Cs (Cb (Cs (ac (ab O (I (ed O O) (ad ?_)))))));refine Cc O (λaj=>?_) (λaj=>?_)
   ·have E:=Mv v (by simp at aj; omega);rw [E] at K;simp only [bT,b5,b8] at K;refine Cr (ab O (I (az (b:=[32,44]) O O (by (try simp only [bT,b5,b8]); omega)) (ai O (ad (Cr (ab O (I (az (b:=[32]) O O (by (try simp only [bT,b5,b8]); omega)) (I (Yf kT O) ?_))))))));refine I (Yd 0 O O O aa) (ab O (I (Yo dT O O x Z) (I (cC 0 aa O O (i 0 _ O)) (I (az O O (by (try simp only [bT,b5,b8]); omega)) (ai O (Ln (Eb (Et (Cr (ab O ?_))))))))));refine I (Yi O O O Z) (ai O (Ln ?_));exact ct ((e.1+1,e.2++[32,44]++[32]++s):Nat×Tx) (by show p.params.length-(e.1+1)<p.params.length-e.1; omega) ⟨by show e.1+1<=p.params.length; omega,by show _=_++fR (p.params.take (e.1+1)); rw [E,D]; simp⟩ ag
   have E:=Mu v (by simp at aj; omega);rw [E] at K;simp only [bT,b5,b8] at K;refine am (Cr (ab O (I (az (b:=[32]) O O (by (try simp only [bT,b5,b8]); omega)) (I (Yf kT O) (I (Yd 0 O O O aa) (ab O (I (Yo dT O O x Z) (I (cC 0 aa O O (i 0 _ O)) ?_))))))));refine I (az O O (by (try simp only [bT,b5,b8]); omega)) (ai O (Ln (Eb (Et (Cr (ab O (I (Yi O O O Z) (ai O (Ln ?_)))))))));exact ct ((e.1+1,e.2++[32]++s):Nat×Tx) (by show p.params.length-(e.1+1)<p.params.length-e.1; omega) ⟨by show e.1+1<=p.params.length; omega,by show _=_++fR (p.params.take (e.1+1)); rw [E,D]; simp⟩ ag
  have bm:¬e.1<p.params.length:=by simpa using af
  rw [show p.params.take e.1=p.params from nn Z] at D ar;refine Ce (Ex (Ex (cU (Et (ac (ab O (I (az (b:=[32,41,32]) O O (by (try simp only [bT,b5,b8]); omega)) (ai O (ad (Cs (ac (ai O (ad (Cb ?_))))))))))))));refine fT (ι:=Nat×Tx) (λf=>[(10,.int .i64 (f.1:Int)),(3,st f.2)]) [(1,_),(2,_),(7,_),(8,_)] (λf=>f.1<=p.aH.length/\f.2=((j.2++mE p.ao++[112,114,111,99,32]++p.nm++[32,40])++fR p.params++[32,41,32])++(p.aH.take f.1).flatMap qk) (λf=>p.aH.length-f.1) (0,e.2++[32,41,32]) ⟨cx _,by simp [fR,D]⟩ ?_;intro f ⟨bn,L⟩;have au:=congrArg List.length L;simp only [bT,b5,b8] at au;refine Cs (ac (ab O (I (Yf nX O) (I (Yd 0 O O O aa) (I (Yn dT O) (I (cy O O) (ad ?_)))))));refine Cc O (λak=>?_) (λak=>?_)
  ·have l:f.1<p.aH.length:=by simpa using ak
   obtain ⟨s,v⟩:=dw l;obtain ⟨ah,pos,x,i⟩:=ae.aq f.1 s v;have i:cw H ah (pos+f.1*1) (eE s):=i;have aS:=BQ (f:=qk) v;rw [V9] at aS;refine am (Cs (Cb (Cr (ab O (I (az (b:=[108,111,99,97,108,32]) O O (by (try simp only [bT,b5,b8]); omega)) (I (Yf nX O) (I (Yd 0 O O O aa) (ab O (I (Yo dT O O x Z) (I (cC 0 aa O O (i 0 _ O)) ?_))))))))));refine I (az O O (by (try simp only [bT,b5,b8]); omega)) (I (az (b:=[32,59,32]) O O (by (try simp only [bT,b5,b8]); omega)) (ai O (Ln (Eb (Et (Cr (ab O (I (Yi O O O Z) (ai O (Ln ?_))))))))));exact ct ((f.1+1,f.2++[108,111,99,97,108,32]++s++[32,59,32]):Nat×Tx) (by show p.aH.length-(f.1+1)<p.aH.length-f.1; omega) ⟨by show f.1+1<=p.aH.length; omega,by show _=_++(p.aH.take (f.1+1)).flatMap qk; rw [jG v,L]; simp [qk,rf]⟩ ag
  have aU:¬f.1<p.aH.length:=by simpa using ak
  rw [flatAll aU] at L au;refine Ce (Ex (Ex (cU (Et (Cr (ab O (I (Yf vq O) (I (Yd 0 O O O aa) (Lp Y O aK O (λw o=>ME H ke ks p.body aM aN 1 w o.V aO aQ.body Z) (I (az O O (by (try simp only [bT,b5,b8]); omega)) (I (az (b:=[32]) O O (by (try simp only [bT,b5,b8]); omega)) (ai O ?_))))))))))));refine Ln (Eb (Et (Cr (ab O (I (Yi O O O Z) (ai O (Ln ?_)))))));exact ct ((j.1+1,f.2++jX p.body++[32]):Nat×Tx) (by show m.procs.length-(j.1+1)<m.procs.length-j.1; omega) ⟨by show j.1+1<=m.procs.length; omega,by show _=_++(m.procs.take (j.1+1)).flatMap rk; rw [jG J,MF,L,G]; simp⟩ (λ_ h=>Wd 1 h)
 have aV:¬j.1<m.procs.length:=by simpa using W
 rw [flatAll aV] at G ap;refine Ce (Ex (Ex (cU (Et (ac (ab O (I (az (b:=[109,97,105,110,32]) O O (by (try simp only [bT,b5,b8]); omega)) (I (Yf vr O) (I (Yd 0 O O O aa) (Lp Y O aK O (λw o=>ME H ke ks m.main r.a4 r.c4 1 w o.V k.main M.main Z) (I (az O O (by (try simp only [bT,b5,b8]); omega)) ?_)))))))))));refine I (az (b:=[32,125]) O O (by (try simp only [bT,b5,b8]); omega)) (ai O (ad (aZ ?_)));refine R1 O O λw' o=>?_;exact ⟨by rw [G,<-MG],o.fr⟩
def asks (s:Tx) (l:Tk):Bool:=(l.head?.map λt=>(!(t.kind==2)&&(t.text==s))).getD false
structure GE where
 es:List XE
 a:Option Addr
 c:Nat
 J:View
 r:Option Addr×Nat
 q:Tk
 more:Bool
structure GO where
 j:Nat
 o:Int
 r:Option Addr×Nat
 q:Tk
structure zo (f:Nat) (N:View) (x:bE) (p:pG):Prop where
 args:Sl (gn 8) 5 N p.s1.1 p.s1.2 x.args
 body:Sl (e5 8 f) 6 N p.s2.1 p.s2.2 x.body
 other:Sl (e5 8 f) 6 N p.s3.1 p.s3.2 x.other
def FZ (h:Sl (e5 8 ae) 6 bc cj aB cD) (hv:bK bc b_):Sl (e5 8 ae) 6 b_ cj aB cD:=h.imp λb o y a=>nw hv (eH _) (eH _) b o y a
def zo.mv {p:pG} (h:zo ae bc dA p) (hv:bK bc b_):zo ae b_ dA p:=⟨zh h.args hv,FZ h.body hv,FZ h.other hv⟩
def zp (J:View) (f:Nat) (es:List SX):Prop:=∀e ∈ es,zo f J e.1 e.2
def zp.nil (J:View) (f:Nat):zp J f []:=by intro e h; simp at h
def zp.snoc {es:List SX} {e:SX} (h:zp bc ae es) (b:bK bc fW) (c:bK b_ fW) (d:zo ae b_ e.1 e.2):zp fW ae (es++[e]):=by
 intro x a
 rcases fB.1 a with a | a
 · exact (h x a).mv b
 · rw [fH] at a
   subst a;exact d.mv c
variable {pb:Tk->List bE×Tk} {l r q1 q2 q3 q4:Tk} {x y:ak} {b o:List bE} {p:Tx×Tx} {xs:List ak}
variable {ps:Tk->bE×Tk} {s:bE} {n:Nat}
def zq:hx prog 241=some [(0,1),(1,1),(2,1),(3,1),(4,1),(5,1)]:=aa
structure zr (N:View) (x:eI) (p:vv):Prop where
 params:Sl rdStr 1 N p.s1.1 p.s1.2 x.params
 aH:Sl rdStr 1 N p.s2.1 p.s2.2 x.aH
 body:Sl (e5 8 6) 6 N p.s3.1 p.s3.2 x.body
def zr.mv (h:zr bc g8 zi) (hv:bK bc b_):zr b_ g8 zi:=⟨n0 h.params hv,n0 h.aH hv,FZ h.body hv⟩
def l9 (J:View) (es:List PX):Prop:=∀e ∈ es,zr J e.1 e.2
def l9.nil (J:View):l9 J []:=by intro e h; simp at h
def l9.snoc (h:l9 bc vp) (b:bK bc fW) (c:bK b_ fW) (d:zr b_ vx.1 vx.2):l9 fW (vp++[vx]):=by
 intro x a
 rcases fB.1 a with a | a
 · exact (h x a).mv b
 · rw [fH] at a
   subst a;exact d.mv c
structure Y2 where
 ds:List de
 a:Option Addr
 c:Nat
 go:Bool
 ao:Bool
 r:Option Addr×Nat
 q:Tk
structure GH where
 ps:List Tx
 a:Option Addr
 c:Nat
 more:Bool
 r:Option Addr×Nat
 q:Tk
def r_:dV prog 4=some 1:=aa
def V' (a b:View) (a1 a2:Option Addr) (c1 c2:Nat) (l:List Tx) (w:World) (n:Le a w) (o:Le b w) (c:Sl rdStr 1 a a1 c1 l) (f:Sl rdStr 1 b a2 c2 l) :
   Calls prog 75 #[.slice a1 l.length c1,.slice a2 l.length c2] w λe w'=>e = .returned (.bool true)/\Ext w w':=by
 have z:=c.cap;have A:=c.max;have B:=f.cap;have C:=f.max;refine enter func75 O 26 O O ?_;refine CE (Vs:=[a,b]) (Ws.init (by simp [n,o])) (ac (ai O (ad (Cs (ac (ab O (I (Yn dT O) (ab O (I (Yn dT O) ?_)))))))));refine I (jQ O O O) (ad ?_);refine WC.mf O ?_;refine am (Cs (ac (ai O (ad (Cb ?_)))));refine fT (ι:=Nat) (λi=>[(5,.int .i64 (i:Int))]) [(0,_),(1,_)] (λi=>i<=l.length) (λi=>l.length-i) 0 (cx _) ?_;intro i hi;refine Cs (ac (ab O (ab O (I (Yn dT O) (I (cy O O) (ad ?_))))));refine Cc O (λk=>?_) (λk=>?_)
 ·have p:i<l.length:=by simpa using k
  obtain ⟨x,m⟩:=dw p;obtain ⟨q,r,s,g⟩:=c.aq i x m;obtain ⟨t,u,v,j⟩:=f.aq i x m;have g:cw a q (r+i*1) (eE x):=g;have j:cw b t (u+i*1) (eE x):=j;refine am (Cs (Cb (Cs ?_)));refine WC.hU [(0,true),(1,true),(2,true),(3,true),(4,true),(5,true),(6,true),(7,true),(8,true)] mixed aa (λ_ _ _ d _ h=>by cases d<;>exact h) ?_;refine D0 O ag (Ym O) (D0 O ag (Ym O) (D0 O ag (Yo dT O O s Z) (D0 O ag (cC 0 aa O O (g 0 _ O)) (D0 O ag (Ym O) (D0 O ag (Ym O) (D0 O ag (Yo dT O O v Z) (D0 O ag (cC 1 aa O O (j 0 _ O)) ?_)))))));refine D0 O ag (yu O O O) ?_;refine WD.nil ag ?_;refine Et ?_;refine WC.mf O ?_;refine Ck (Eb (Et (Cr (ab O (I (Yi O O O Z) (ai O (Ln ?_)))))));exact ct (i+1) Z Z ag
 refine Ce (Ex (Ex (cU (Et (ac (ai O (ad (aZ ?_))))))));refine R1 O O λw' y=>?_;exact ⟨O,y.fr⟩
abbrev SP:=Option Addr×Nat
def cP:bW->List UInt8:=λx=>x.name
abbrev nh:=List UInt8×Int×Nat
def iv (M:List nh):List cQ:=M.map λe=>(e.1,.int .i64 e.2.1,e.2.2)
def mN (k:List UInt8):List nh->Nat->Option (Nat×Int)
 | [],_=>none
 | e::r,i=>if (k==e.1)=true then some (i,e.2.1) else mN k r (i+1)
def F0 (k:List UInt8) (M:List nh):Int:=match mN k M 0 with | some (_,n)=>n | none=>0
def zt (k:List UInt8) (n:Int) (M:List nh) (c:Nat):List nh:=match mN k M 0 with
 | some (i,_)=>M.modify i λe=>(k,n,e.2.2)
 | none=>M++[(k,n,c)]
def F1 (k:List UInt8) (M:List nh) (c:Nat):Nat:=match mN k M 0 with | some _=>c | none=>c+1
def B1 (k:List UInt8):∀(M:List nh) (i:Nat),cR k (iv M) i=(mN k M i).map λr=>(r.1,.int .i64 r.2)
 | [],_=>rfl
 | e::r,i=>by
   simp only [iv,jn,cR,mN];cases (k==e.1)
   · simp only [aw,cn]
     exact B1 k r (i+1)
   · simp
def V_ (k:List UInt8) (M:List nh):yh k (iv M) (.int .i64 0) = .int .i64 (F0 k M):=by
 unfold yh F0;rw [B1]
 cases mN k M 0<;>rfl
def Wa (k:List UInt8) (n:Int) (M:List nh) (c:Nat):v8 k (.int .i64 n) (iv M) c=iv (zt k n M c):=by
 unfold v8 zt;rw [B1]
 cases mN k M 0 with
 | none=>simp [iv]
 | some r=>
   simp only [dN];apply pS;intro i;simp only [iv,x1,gS]
   cases M[i]? with
   | none=>simp
   | some e=>by_cases h:r.1=i<;>simp [h]
def Wb (k:List UInt8) (M:List nh) (c:Nat):v9 k (iv M) c=F1 k M c:=by
 unfold v9 F1;rw [B1]
 cases mN k M 0<;>rfl
def keysOf (M:List nh):List (List UInt8):=M.map (·.1)
def F2 {k:List UInt8}:∀{M:List nh} {i:Nat},mN k M i=none↔k ∉ keysOf M
 | [],_=>by simp [mN,keysOf]
 | e::r,i=>by
   simp only [mN,keysOf,jn,et,not_or]
   by_cases h:k=e.1
   · simp [h]
   · have:=F2 (k:=k) (M:=r) (i:=i+1)
     simp [h,keysOf] at this ⊢;exact this
variable {aS:List UInt8}
def MI:∀{M:List nh} {i j:Nat} {n:Int},mN aS M i=some (j,n)->i<=j/\(M[j-i]?).map (·.1)=some aS
 | [],_,_,_,h=>by simp [mN] at h
 | e::r,i,j,n,h=>by
   simp only [mN] at h
   split at h
   · rename_i a
     injection h with h; injection h with b c
     subst b;simp at a;simp [a]
   · obtain ⟨b,c⟩:=MI h
     refine ⟨Z,?_⟩
     have:j-i=(j-(i+1))+1:=Z
     rw [this]; simpa using c
def MJ (k:List UInt8) (n:Int) (M:List nh) (c:Nat):keysOf (zt k n M c)=if k ∈ keysOf M then keysOf M else keysOf M++[k]:=by
 unfold zt
 cases h:mN k M 0 with
 | none=>rw [av (F2.1 h)]; simp [keysOf]
 | some r=>
   obtain ⟨j,v⟩:=r;have a:=(MI h).2
   have f:k ∈ keysOf M:=by
     cases Classical.em (k ∈ keysOf M) with
     | inl b=>exact b
     | inr b=>rw [F2.2 b] at h; cases h
   rw [a8 f];apply pS;intro i;simp only [keysOf,gS,x1]
   cases g:M[i]? with
   | none=>simp
   | some e=>
     by_cases d:j=i
     · subst d; simp only [pQ,g] at a; simp at a; simp [a]
     · simp [d]
def ni (l:List (List UInt8)):Nat->List nh×Nat
 | 0=>([],0)
 | i+1=>(zt (l[i]?.getD []) (IntKind.i64.wrap (F0 (l[i]?.getD []) (ni l i).1+1)) (ni l i).1 (ni l i).2,F1 (l[i]?.getD []) (ni l i).1 (ni l i).2)
def MK (l:List (List UInt8)) (k:List UInt8):∀i,k ∈ keysOf (ni l i).1↔∃j,j<i/\l[j]?.getD []=k
 | 0=>by simp [ni,keysOf]
 | i+1=>by
   have b:=MK l k i;simp only [ni,MJ]
   have step:(∃j,j<i+1/\l[j]?.getD []=k)↔(∃j,j<i/\l[j]?.getD []=k)\/l[i]?.getD []=k:=by
     constructor
     · rintro ⟨j,a,e⟩
       rcases gT.1 a with h | rfl
       · exact .inl ⟨j,h,e⟩
       · exact .inr e
     · rintro (⟨j,a,e⟩ | e)
       · exact ⟨j,Z,e⟩
       · exact ⟨i,Z,e⟩
   rw [step,<-b]
   split
   · rename_i c
     constructor
     · exact .inl
     · rintro (h | h)
       · exact h
       · rw [<-h]; exact c
   · simp [eq_comm]
def ML (l:List (List UInt8)):∀i,(keysOf (ni l i).1).length<=i/\((keysOf (ni l i).1).length<i↔∃c,c<i/\∃j,j<c/\l[j]?.getD []=l[c]?.getD [])
 | 0=>by simp [ni,keysOf]
 | i+1=>by
   obtain ⟨n,g⟩:=ML l i;have k:=MK l (l[i]?.getD []) i;simp only [ni,MJ]
   split
   · rename_i f
     obtain ⟨j,d,e⟩:=k.1 f;exact ⟨Z,⟨λ_=>⟨i,Z,j,d,e⟩,λ_=>by omega⟩⟩
   · rename_i f
     refine ⟨by simp; omega,?_⟩;rw [bT,pT]
     constructor
     · intro h
       obtain ⟨c,a,b⟩:=g.1 Z;exact ⟨c,Z,b⟩
     · rintro ⟨c,m,j,d,e⟩
       rcases gT.1 m with h | rfl
       · have:=g.2 ⟨c,h,j,d,e⟩; omega
       · exact absurd (k.2 ⟨j,d,e⟩) f
def Wc (l:List (List UInt8)):decide (((ni l l.length).1.length:Int)<(l.length:Int))=e1 l:=by
 have h:=(ML l l.length).2;simp only [keysOf,gD] at h;rw [j9];unfold e1;simp only [sP,ey,x0,kW]
 constructor
 · intro b
   obtain ⟨i,hi,j,a,e⟩:=h.1 Z;exact ⟨i,hi,j,a,e.symm⟩
 · rintro ⟨i,hi,j,a,e⟩
   have:=h.2 ⟨i,hi,j,a,e.symm⟩;omega
def qu:prog.underlying 124=some (.map 9 3):=aa
def u1:zeroOf prog 3=some (.int .i64 0):=aa
def lO:cJ prog 48 0=some 0:=aa
def oT:cJ prog 48 3=some 3:=aa
def j8:cJ prog 48 1=some 1:=aa
def ir:cJ prog 48 2=some 2:=aa
def jK:cJ prog 42 1=some 1:=aa
def bn:ga prog 40=some 4:=aa
def hR:ig prog 48=some 4:=aa
def ha:zeroOf prog 48=some (.agg #[.int .i64 0,.int .i64 0,.int .i64 0,st []]):=aa
def iu:dV prog 48=some 4:=aa
def rz:cJ prog 42 0=some 0:=aa
def oq (H:View) (a:Option Addr) (c:Nat) (l:List (List UInt8)) (w:World) (u:Le H w) (g:Sl rdStr 1 H a c l) :
   Calls prog 65 #[.slice a l.length c] w λe w'=>e = .returned (.bool (e1 l))/\Ext w w':=by
 have G:=g.cap;have J:=g.max;refine enter func65 O 25 O O ?_;refine CE (Vs:=[H]) (Ws.init (by simp [u])) (ac (ai O (ad (Cs (ac (ai O (ad (Cb ?_))))))));refine fT (ι:=Nat) (λi=>[(3,.int .i64 (i:Int))]) [(0,_)] (λi=>i<=l.length/\∀b,b<i->∀j,j<b->(l[b]?.getD []==l[j]?.getD [])=false) (λi=>l.length-i) 0 ⟨cx _,au⟩ ?_;intro i ⟨hi,r⟩;refine Cs (ac (ab O (ab O (I (Yn dT O) (I (cy O O) (ad ?_))))));refine Cc O (λm=>?_) (λm=>?_)
 ·have s:i<l.length:=by simpa using m
  obtain ⟨v,x,y,n⟩:=g.aq i (l[i]?.getD []) (by rw [dM s]; rfl);have z:vc H v (x+i*1)=some (st (l[i]?.getD [])):=n 0 _ rfl;refine am (Cs (Cb (ac (ai O (ad (Cb ?_))))));refine fT (ι:=Nat) (λj=>[(4,.int .i64 (j:Int))]) [(0,_),(3,_)] (λj=>j<=i/\∀f,f<j->(l[i]?.getD []==l[f]?.getD [])=false) (λj=>i-j) 0 ⟨cx _,au⟩ ?_;intro j ⟨K,t⟩;refine Cs (ac (ab O (ab O (I (cy O O) (ad ?_)))));refine Cc O (λo=>?_) (λo=>?_)
  ·have A:j<i:=by simpa using o
   obtain ⟨B,C,D,n⟩:=g.aq j (l[j]?.getD []) (by rw [dM Z]; rfl);have E:vc H B (C+j*1)=some (st (l[j]?.getD [])):=n 0 _ rfl;refine am (Cs (Cb (Cs ?_)));refine WC.hU [(0,true),(1,true),(2,true),(3,true),(4,true),(5,true),(6,true),(7,true),(8,true)] mixed aa (λ_ _ _ d _ h=>by cases d<;>exact h) ?_;refine D0 O ag (Ym O) (D0 O ag (Ym O) (D0 O ag (Yo dT O O y Z) (D0 O ag (cC 0 aa O O (z)) (D0 O ag (Ym O) (D0 O ag (Ym O) (D0 O ag (Yo dT O O D Z) (D0 O ag (cC 0 aa O O (E)) ?_)))))));refine D0 O ag (mT O O) ?_;refine WD.nil ag ?_;refine Et ?_;refine Cc O (λp=>?_) (λp=>?_)
   ·refine ac (ai O (ad (aZ (cf (Er (Er (cf (cf (Er (Er (cf (Er ?_))))))))))));refine R1 O O λw' q=>?_;exact ⟨by rw [IQ s A p],q.fr⟩
   refine Ck (Eb (Et (Cr (ab O (I (Yi O O O Z) (ai O (Ln ?_)))))));exact ct (j+1) Z ⟨Z,λf k=>by rcases gT.1 k with h | rfl; exact t f h; exact p⟩ ag
  refine Ce (Ex (Ex (cU (Eb (Et (Cr (ab O (I (Yi O O O Z) (ai O (Ln ?_))))))))));exact ct (i+1) Z ⟨Z,λb k f F=>by rcases gT.1 k with h | rfl; exact r b h f F; exact t f (by simp at o; omega)⟩ ag
 refine Ce (Ex (Ex (cU (Et (ac (ai O (ad (aZ ?_))))))));refine R1 O O λw' q=>?_;exact ⟨by rw [P7 λb k=>r b (by simp at m; omega)],q.fr⟩
def F3 (H:View) (a:Option Addr) (c:Nat) (l:List (List UInt8)) (w:World) (f:Le H w) (b:Sl rdStr 1 H a c l) :
   Calls prog 70 #[.slice a l.length c] w λe w'=>e = .returned (.bool (e1 l))/\Ext w w':=by
 have r:=b.cap;have s:=b.max;refine enter func70 O 23 O O ?_;refine CE (Vs:=[H]) (Ws.init (by simp [f])) (ac (ai O (ad (ac ?_))));refine WL.OI Y O λg=>?_;refine ai O (ad (Cs (ac (ab O (I (Yn dT O) (ab O (ad (Cb ?_))))))));refine e0 (ι:=Nat) (λi=>[(9,.int .i64 (i:Int))]) [(0,_),(2,_),(3,_),(7,_),(8,_)] (λi=>Ws w [] [aE g (o4 (iv (ni l i).1) (ni l i).2)] [H]) (λi=>i<=l.length) (λi=>l.length-i) 0 (cx _) ag ?_;intro i hi;refine ac (I (cy O O) (ad (Cs ?_)));refine Cc O (λd=>?_) (λd=>?_)
 ·have h:i<l.length:=by simpa using d
  obtain ⟨j,k,m,n⟩:=b.aq i (l[i]?.getD []) (by rw [dM h]; rfl);have o:vc H j (k+i*1)=some (st (l[i]?.getD [])):=n 0 _ rfl;refine am (Cs (Cb (ac (I (Yo dT O O m Z) (I (cC 0 aa O O (o)) (ai O (ad (Cr (ab O (ab O (I (OJ 0 qu aa u1 O O O) ?_)))))))))));rw [V_];refine I (sT O O) ?_;refine WL.OL 0 Y qu aa O O O O ?_;rw [Wa,Wb];refine Ln (Eb (Et (Cr (I (Yi O O O Z) (ab O (Ln ?_))))));exact ct (i+1) Z Z ag
 have p:i=l.length:=by simp at d; omega
 subst p;refine Ce (Ex (Ex (cU (Et (ac (ab O (I (OK 0 qu O O) (ab O (I (Yn dT O) (I (cy O O) (ai O ?_)))))))))));refine ad (aZ ?_);refine R1 O O λw' q=>?_;exact ⟨by rw [<-Wc]; simp [iv],q.fr⟩
def O5 (x:bW) (w:World) :
   Calls prog 127 #[.agg #[.int .i64 x.kind,.int .i64 x.n,.int .i64 x.pl,st x.name]] w λe w'=>e = .returned (.bool (k6 x))/\Ext w w':=by
 refine enter func127 O 42 O O ?_;refine CE (Vs:=[]) (Ws.init au) (ac ?_);refine WL.box Y O O λl=>?_;refine ai O (ad (ac (ai O (ai O (ad (ac (ai O (ad (Cs (ac (I (Yf lO O) ?_)))))))))));refine I (Yd 0 O O O aa) (ad (Cb (ac (I (bx O O) (ai O (ad ?_))))));refine Cc O (λc=>?_) (λc=>?_)
 ·refine Cr (ai O (Ln (Eb (Et (ac (I (Yf oT O) (I (Yd 0 O O O aa) (Lp Y O aK O (λw a=>jF _ w) (ab O ?_)))))))));apply La 4 O O O O Y O O O O O
  ·intro h;refine Vg (Yf j8 O) (Vg (Yd 0 O O O aa) (Vg (Ym O) (Vg (ih O O) ?_)));exact Gt 4 O O O
  refine ab O ?_;apply La 4 O O O O Y O O O O O
  ·intro i;refine Vg (Yf j8 O) (Vg (Yd 0 O O O aa) (Vg (Ym O) (Vg (lS O O) ?_)));exact Gt 4 O O O
  refine ab O ?_;apply La 3 O O O O Y O O O O O
  ·intro j;refine Vg (Yf ir O) (Vg (Yd 0 O O O aa) (Vg (ih O O) ?_));exact Gt 3 O O O
  refine ab O ?_;apply La 4 O O O O Y O O O O O
  ·intro k;refine Vg (Yf ir O) (Vg (Yd 0 O O O aa) (Vg (Ym O) (Vg (lS O O) ?_)));exact Gt 4 O O O
  refine ai O (ad (aZ ?_));refine R1 O O λw' a=>?_
  have b:x.kind=1:=by simpa using c
  exact ⟨by rw [AQ (by simp [b])],a.fr⟩
 refine ac (I (bx O O) (ai O (ad ?_)));refine Cc O (λd=>?_) (λd=>?_)
 ·refine Cr (ai O (Ln (Eb (Et (ac (I (Yf oT O) (I (Yd 0 O O O aa) (Lp Y O aK O (λw a=>jF _ w) (ab O ?_)))))))));apply La 4 O O O O Y O O O O O
  ·intro h;refine Vg (Yf j8 O) (Vg (Yd 0 O O O aa) (Vg (Ym O) (Vg (ih O O) ?_)));exact Gt 4 O O O
  refine ab O ?_;apply La 4 O O O O Y O O O O O
  ·intro i;refine Vg (Yf j8 O) (Vg (Yd 0 O O O aa) (Vg (Ym O) (Vg (lS O O) ?_)));exact Gt 4 O O O
  refine ab O ?_;apply La 3 O O O O Y O O O O O
  ·intro j;refine Vg (Yf ir O) (Vg (Yd 0 O O O aa) (Vg (ih O O) ?_));exact Gt 3 O O O
  refine ab O ?_;apply La 4 O O O O Y O O O O O
  ·intro k;refine Vg (Yf ir O) (Vg (Yd 0 O O O aa) (Vg (Ym O) (Vg (lS O O) ?_)));exact Gt 4 O O O
  refine ai O (ad (aZ ?_));refine R1 O O λw' a=>?_
  have b:x.kind=2:=by simpa using d
  exact ⟨by rw [AQ (by simp [b])],a.fr⟩
 refine ac (I (bx O O) (ai O (ad ?_)));refine Cc O (λf=>?_) (λf=>?_)
 ·refine Cr (ai O (ai O (Ln (Eb (Et (ac (I (Yf oT O) (I (Yd 0 O O O aa) (Lp Y O aK O (λw a=>jF _ w) (ab O ?_))))))))));apply La 4 O O O O Y O O O O O
  ·intro h;refine Vg (Yf j8 O) (Vg (Yd 0 O O O aa) (Vg (Ym O) (Vg (ih O O) ?_)));exact Gt 4 O O O
  refine ab O ?_;apply La 4 O O O O Y O O O O O
  ·intro i;refine Vg (Yf j8 O) (Vg (Yd 0 O O O aa) (Vg (Ym O) (Vg (lS O O) ?_)));exact Gt 4 O O O
  refine ab O ?_;apply La 3 O O O O Y O O O O O
  ·intro j;refine Vg (Yf ir O) (Vg (Yd 0 O O O aa) (Vg (ih O O) ?_));exact Gt 3 O O O
  refine ab O ?_;apply La 4 O O O O Y O O O O O
  ·intro k;refine Vg (Yf ir O) (Vg (Yd 0 O O O aa) (Vg (Ym O) (Vg (lS O O) ?_)));exact Gt 4 O O O
  refine ai O (ad (aZ ?_));refine R1 O O λw' a=>?_
  have b:x.kind=3:=by simpa using f
  exact ⟨by rw [AQ (by simp [b])],a.fr⟩
 refine ac (I (bx O O) (ai O (ad ?_)));refine Cc O (λg=>?_) (λg=>?_)
 ·refine Cr (ai O (Ln (Eb (Et (ac (I (Yf oT O) (I (Yd 0 O O O aa) (Lp Y O aK O (λw a=>jF _ w) (ab O ?_)))))))));apply La 4 O O O O Y O O O O O
  ·intro h;refine Vg (Yf j8 O) (Vg (Yd 0 O O O aa) (Vg (Ym O) (Vg (ih O O) ?_)));exact Gt 4 O O O
  refine ab O ?_;apply La 4 O O O O Y O O O O O
  ·intro i;refine Vg (Yf j8 O) (Vg (Yd 0 O O O aa) (Vg (Ym O) (Vg (lS O O) ?_)));exact Gt 4 O O O
  refine ab O ?_;apply La 3 O O O O Y O O O O O
  ·intro j;refine Vg (Yf ir O) (Vg (Yd 0 O O O aa) (Vg (ih O O) ?_));exact Gt 3 O O O
  refine ab O ?_;apply La 4 O O O O Y O O O O O
  ·intro k;refine Vg (Yf ir O) (Vg (Yd 0 O O O aa) (Vg (Ym O) (Vg (lS O O) ?_)));exact Gt 4 O O O
  refine ai O (ad (aZ ?_));refine R1 O O λw' a=>?_
  have b:x.kind=4:=by simpa using g
  exact ⟨by rw [AQ (by simp [b])],a.fr⟩
 refine ac (ai O (ad (aZ (cf (Er ?_)))));refine R1 O O λw' a=>?_;simp at c d f g;exact ⟨by rw [P6 c d f g],a.fr⟩
def B3 (H:View) (a:Option Addr) (c:Nat) (name:List UInt8) (b:List bW) (w:World) (s:Le H w) (l:Sl hK 4 H a c b) :
   Calls prog 51 #[.agg #[st name,.slice a b.length c]] w λe w'=>e = .returned (.int .i64 (h6 name b))/\Ext w w':=by
 have M:=l.cap;have N:=l.max;refine enter func51 O 34 O O ?_;refine CE (Vs:=[H]) (Ws.init (by simp [s])) (ac ?_);refine WL.box Y O O λt=>?_;refine ai O (ad (Cs (ac (I (Yf jK O) (I (Yd 0 O O O aa) (I (Yn bn O) (I (ed O O) (ad ?_))))))));refine Cc O (λm=>?_) (λm=>?_)
 ·have i:16<b.length:=by simp at m; omega
  refine ac (ai O (ad (aZ (Er ?_))));refine R1 O O λw' f=>?_;exact ⟨by rw [h6,a8 i],f.fr⟩
 have i:¬16<b.length:=by simp at m; omega
 refine am (ac (ai O (LW (λ_ h=>h.g3 9 1) (ad (Cs (ac (I (Yf jK O) (I (Yd 1 O O O aa) (I (Yn bn O) (ab O ?_))))))))));refine ad (Cb ?_);refine e0 (ι:=Nat×Option Addr×Nat) (λg=>[(13,.int .i64 (g.1:Int)),(3,.slice g.2.1 ((b.take g.1).map (·.name)).length g.2.2)]) [(1,_),(11,_),(12,_)] (λg=>Ws w [] [cW 9 1 eE g.2.1 g.2.2 ((b.take g.1).map (·.name)),aE t (.cells (Value.agg #[st name,.slice a b.length c]).cells 42 (0,0))] [H]) (λg=>g.1<=b.length/\∀j x,j<g.1->b[j]? = some x->k6 x=true) (λg=>b.length-g.1) (0,none,0) ⟨cx _,au⟩ ag ?_;intro g ⟨hi,n⟩;refine ac (I (cy O O) (ad (Cs ?_)));refine Cc O (λo=>?_) (λo=>?_)
 ·have u:g.1<b.length:=by simpa using o
  obtain ⟨x,k⟩:=dw u;obtain ⟨v,z,A,p⟩:=l.aq g.1 x k;have p:cw H v (z+g.1*4) x.cells:=p
  have B:(b.take (g.1+1)).map (·.name)=(b.take g.1).map (·.name)++[x.name]:=by rw [kV,k]; simp
  have hL:((b.take g.1).map (·.name)).length=g.1:=by simp; omega
  refine am (Cs (Cb (ac (I (Yo bn O O A Z) (I (eq 0 hR O O O (p)) ?_)))));refine Al Y O ha λP=>?_;refine aT 0 Y O O O iu O O O (ad (Cs (ac (I (cI 0 O O hR O) (Lp Y O aK O (λw f=>O5 x w) (I (eR O) (ad ?_)))))));refine Cc O (λq=>?_) (λq=>?_)
  ·have C:=IR k (by simpa using q);refine ac (ai O (ad (aZ (Er (cf (Er (Er (cf (Er ?_)))))))));refine R1 O O λw' f=>?_;exact ⟨by rw [h6,av i,C]; rfl,f.fr⟩
  have D:k6 x=true:=by simpa using q
  refine am (Cr (ab O (I (Yf oT O) (I (Yd 0 O O O aa) ?_))));refine Lb Y O ei O O O O λQ=>?_;refine dn 0 (.cells (eE x.name).toArray 9 (0,0)) O (O) ?_;refine LA (x.name) 2 0 Y O ei O O O O O O Z Z λE F=>?_;refine ai O (Ln (Eb (Et (Cr (I (Yi O O O Z) (ab O (Ln ?_)))))));rw [<-B]
  exact ct ((g.1+1,E,F):Nat×Option Addr×Nat) (by first | omega | (dsimp only; omega)) ⟨by first | omega | (dsimp only; omega),λj y G d=>by
      rcases gT.1 G with h | h
      · exact n j y h d
      · subst h; rw [k] at d; injection d with d; subst d; exact D⟩ (λ_ h=>Wd 2 h)
 have J:g.1=b.length:=by simp at o; omega
 rw [J,gv];refine Ce (Ex (Ex (cU (Et (Cs (Cs ?_))))));refine WC.r0 (rd:=rdStr) 0 O iM eZ λK L=>?_;refine Cr (ab O ?_)
 refine Lp Y O aK O (λw f=>by
     have:=F3 K g.2.1 g.2.2 (b.map (·.name)) w f.V L
     exact this) ?_
 refine ab O ?_;apply Lo 4 O O O O Y O O O O O
 ·intro R;refine Vg (Yf rz O) (Vg (Yd 0 O O O aa) (Lp (.g O O O) O aK O (λw f=>jF _ w) (Vg (eR O) ?_)));exact Gt 4 O O O
 refine ad ?_;refine Cc O (λr=>?_) (λr=>?_)
 ·refine ac (ai O (ad (aZ (Er ?_))));refine R1 O O λw' f=>?_;have d:=AR λj y d=>n j y (by have:=(cS.1 d).1; omega) d;exact ⟨by rw [h6,av i,d,r]; rfl,f.fr⟩
 refine am (ac (ai O (ad (aZ ?_))));refine R1 O O λw' f=>?_;have d:=AR λj y d=>n j y (by have:=(cS.1 d).1; omega) d;exact ⟨by rw [h6,av i,d,r]; rfl,f.fr⟩
def We (H:View) (a:Option Addr) (c:Nat) (name:List UInt8) (b:List bW) (w:World) (v:Le H w) (l:Sl hK 4 H a c b) :
   Calls prog 63 #[.agg #[st name,.slice a b.length c]] w λe w'=>e = .returned (.int .i64 (h6 name b))/\Ext w w':=by
 have P:=l.cap;have Q:=l.max;refine enter func63 O 98 O O ?_;refine CE (Vs:=[H]) (Ws.init (by simp [v])) (ac ?_);refine WL.box Y O O λz=>?_;refine ai O (ad (Cs (ac (I (Yf jK O) (I (Yd 0 O O O aa) (I (Yn bn O) (I (ed O O) (ad ?_))))))));refine Cc O (λm=>?_) (λm=>?_)
 ·have i:16<b.length:=by simp at m; omega
  refine ac (ai O (ad (aZ (Er ?_))));refine R1 O O λw' d=>?_;exact ⟨by rw [h6,a8 i],d.fr⟩
 have i:¬16<b.length:=by simp at m; omega
 refine am (Cs (ac (I (Yf rz O) (I (Yd 0 O O O aa) (Lp Y O aK O (λw d=>Fs _ w) (I (eR O) (ad ?_)))))));refine Cc O (λn=>?_) (λn=>?_)
 ·refine ac (ai O (ad (aZ (Er ?_))));refine R1 O O λw' d=>?_
  have o:gc name=false:=by simpa using n
  exact ⟨by rw [h6,av i,o]; simp,d.fr⟩
 refine am (ac (ai O (LW (λ_ h=>h.g3 9 1) (ad (Cs (ac (ai O (ad (Cb ?_)))))))));refine e0 (ι:=Nat×Option Addr×Nat) (λg=>[(4,.int .i64 (g.1:Int)),(3,.slice g.2.1 ((b.take g.1).map (·.name)).length g.2.2)]) [(1,_)] (λg=>Ws w [] [cW 9 1 eE g.2.1 g.2.2 ((b.take g.1).map (·.name)),aE z (.cells (Value.agg #[st name,.slice a b.length c]).cells 42 (0,0))] [H]) (λg=>g.1<=b.length/\∀j x,j<g.1->b[j]? = some x->k6 x=true) (λg=>b.length-g.1) (0,none,0) ⟨cx _,au⟩ ag ?_;intro g ⟨hi,p⟩;refine Cs (ac (ab O (I (Yf jK O) (I (Yd 1 O O O aa) (I (Yn bn O) (I (cy O O) (ad ?_)))))));refine Cc O (λq=>?_) (λq=>?_)
 ·have A:g.1<b.length:=by simpa using q
  obtain ⟨x,k⟩:=dw A;obtain ⟨B,C,D,r⟩:=l.aq g.1 x k;have r:cw H B (C+g.1*4) x.cells:=r
  have E:(b.take (g.1+1)).map (·.name)=(b.take g.1).map (·.name)++[x.name]:=by rw [kV,k]; simp
  have hL:((b.take g.1).map (·.name)).length=g.1:=by simp; omega
  refine am (Cs (Cb (ac (I (Yf jK O) (I (Yd 1 O O O aa) (ab O (I (Yo bn O O D Z) (I (eq 0 hR O O O (r)) ?_))))))));refine Al Y O ha λR=>?_;refine aT 0 Y O O O iu O O O (ad (ac (ab O (I (Yf oT O) (I (Yd 0 O O O aa) ?_)))));refine Lb Y O ei O O O O λS=>?_;refine dn 0 (.cells (eE x.name).toArray 9 (0,0)) O (O) ?_;refine LA (x.name) 2 0 Y O ei O O O O O O Z Z λF G=>?_;refine ai O (ad (ac (ai O (ad (ac (I (Yf oT O) (I (Yd 1 O O O aa) (Lp Y O aK O (λw d=>Fs _ w) (I (eR O) ?_)))))))));refine ab O ?_;apply Lo 4 O O O O Y O O O O O
  ·intro T;refine Vg (Yf lO O) (Vg (Yd 1 O O O aa) (Lp (.g O O O) O aK O (λw d=>mB _ _ _ w) (Vg (eR O) ?_)));exact Gt 4 O O O
  refine ab O ?_;apply Lo 4 O O O O Y O O O O O
  ·intro U;refine Vg (Yf j8 O) (Vg (Yd 1 O O O aa) (Lp (.g O O O) O aK O (λw d=>mB _ _ _ w) (Vg (eR O) ?_)));exact Gt 4 O O O
  refine ab O ?_;apply Lo 5 O O O O Y O O O O O
  ·intro W;refine Vg (Yf ir O) (Vg (Yd 1 O O O aa) (Vg (Ym O) (Lp (.g O O O) O aK O (λw d=>mB _ _ _ w) (Vg (eR O) ?_))));exact Gt 5 O O O
  refine ab O ?_;apply Lo 8 O O O O Y O O O O O
  ·intro X;refine Vg (Yf lO O) (Vg (Yd 1 O O O aa) (Vg (bx O O) (Vg (Ym O) ?_)));apply La 3 O O O O (.g O O O) O O O O O
   ·intro ae;refine Vg (Yf ir O) (Vg (Yd 1 O O O aa) (Vg (fh O O) ?_));exact Gt 3 O O O
   exact Gt 5 O O O
  refine ab O ?_;apply Lo 8 O O O O Y O O O O O
  ·intro af;refine Vg (Yf lO O) (Vg (Yd 1 O O O aa) (Vg (bx O O) (Vg (Ym O) ?_)));apply La 3 O O O O (.g O O O) O O O O O
   ·intro ah;refine Vg (Yf j8 O) (Vg (Yd 1 O O O aa) (Vg (fh O O) ?_));exact Gt 3 O O O
   exact Gt 5 O O O
  refine ab O ?_;apply Lo 9 O O O O Y O O O O O
  ·intro aj;refine Vg (Yf lO O) (Vg (Yd 1 O O O aa) (Vg (bx O O) (Vg (Ym O) ?_)));apply La 4 O O O O (.g O O O) O O O O O
   ·intro ak;refine Vg (Yf j8 O) (Vg (Yd 1 O O O aa) (Lp (.g O O O) O aK O (λw d=>mB _ _ _ w) (Vg (eR O) ?_)));exact Gt 4 O O O
   exact Gt 5 O O O
  refine ab O ?_;apply Lo 8 O O O O Y O O O O O
  ·intro al;refine Vg (Yf lO O) (Vg (Yd 1 O O O aa) (Vg (bx O O) (Vg (Ym O) ?_)));apply La 3 O O O O (.g O O O) O O O O O
   ·intro an;refine Vg (Yf j8 O) (Vg (Yd 1 O O O aa) (Vg (ed O O) ?_));exact Gt 3 O O O
   exact Gt 5 O O O
  refine ad ?_;refine Cc O (λs=>?_) (λs=>?_)
  ·have t:k6 x=false:=congrArg Bool.not s;have J:=IR k t;refine ac (ai O (ad (aZ (cf (Er (Er (cf (Er ?_))))))));refine R1 O O λw' d=>?_;exact ⟨by rw [h6,av i,J]; rfl,d.fr⟩
  have t:k6 x=true:=congrArg Bool.not s;refine Ck (Eb (Et (Cr (ab O (I (Yi O O O Z) (ai O (Ln ?_)))))));rw [<-E]
  exact ct ((g.1+1,F,G):Nat×Option Addr×Nat) (by first | omega | (dsimp only; omega)) ⟨by first | omega | (dsimp only; omega),λj y K f=>by
      rcases gT.1 K with h | h
      · exact p j y h f
      · subst h; rw [k] at f; injection f with f; subst f; exact t⟩ (λ_ h=>Wd 2 h)
 have L:g.1=b.length:=by simp at q; omega
 rw [L,gv];refine Ce (Ex (Ex (cU (Et (Cs (Cs ?_))))));refine WC.r0 (rd:=rdStr) 0 O iM eZ λM N=>?_;refine Cr (ab O ?_)
 refine Lp Y O aK O (λw d=>by
     have:=oq M g.2.1 g.2.2 (b.map (·.name)) w d.V N
     exact this) ?_
 refine ad ?_;refine Cc O (λu=>?_) (λu=>?_)
 ·refine ac (ai O (ad (aZ (Er ?_))));refine R1 O O λw' d=>?_;have f:=AR λj y f=>p j y (by have:=(cS.1 f).1; omega) f;exact ⟨by rw [h6,av i,f,u]; rfl,d.fr⟩
 refine am (ac (ai O (ad (aZ ?_))));refine R1 O O λw' d=>?_
 have o:gc name=true:=by simpa using n
 have f:=AR λj y f=>p j y (by have:=(cS.1 f).1; omega) f;exact ⟨by rw [h6,av i,f,u,o]; rfl,d.fr⟩
def zu (h:iA bp=0):kS bp:=BB (BD.1 h)
def PV (h:KA eF):0<=iZ eF/\iZ eF<=32:=by
 unfold iZ;have a:=h.n3
 split
 · omega
 · split
   · rename_i b; have:=a b; omega
   · omega
def MM:∀{l:List de},(∀d ∈ l,(g5 d).b6=0)->0<=eU l/\eU l<=32*(l.length:Int)
 | [],_=>by simp [eU]
 | d::l,h=>by
   have b:=PV (vd (h d au));have c:=MM (l:=l) λx a=>h x (cz _ a);simp only [eU,b5];omega
def B4 (a:kS bp) (i:Nat):0<=eU (bp.decls.take i)/\eU (bp.decls.take i)<=320:=by
 have h:=MM (l:=bp.decls.take i) λd b=>a.decls d (zS b);have c:=a.fy.2.1
 have e:((bp.decls.take i).length:Int)<=10:=by rw [mc]; omega
 omega
def MN (h:eF.kind=1):bW.cells (bw aL eF)=[.int .i64 eF.kind,.int .i64 eF.n,.int .i64 0,st eF.nm]:=by rw [bw,a8 h]; rfl
def B5 (h:¬eF.kind=1):bW.cells (bw aL eF)=[.int .i64 eF.kind,.int .i64 eF.n,.int .i64 aL,st eF.nm]:=by rw [bw,av h]; rfl
def MO (h:eF.kind=1):iZ eF=0:=by rw [iZ,av Z,av Z]
def D1 (h:eF.kind=2):iZ eF=1:=by rw [iZ,a8 h]
def MQ (h:eF.kind=3):iZ eF=eF.n:=by rw [iZ,av Z,a8 h]
def oU:hx prog 48=some [(0,1),(1,1),(2,1),(3,1)]:=aa
def kr:hc prog 40 48 (.agg #[.int .i64 0,.int .i64 0,.int .i64 0,st []]) 4 40:=jr aa
def F4 (H:View) (ke ks:Nat) (r:iB) (m:cm) (w:World) (J:Le H w) (a:jb ke ks H r m) (j:kS m) :
   Calls prog 56 #[.agg (fi m r).toArray] w λe w'=>∃r:SP,e = .returned (.tuple #[.slice r.1 (dG m).length r.2,.int .i64 (kF m)])/\Ext w w'/\Sl hK 4 (nv w w') r.1 r.2 (dG m):=by
 have fy:=j.fy;have V:=a.decls.max;have W:=a.decls.cap;have X:=a.procs.max;have ae:=a.procs.cap;refine enter func56 O 67 O O ?_;refine CE (Vs:=[H]) (Ws.init (by simp [J])) (ac ?_);refine WL.box Y O O λx=>?_;refine ai O (ai O (ad (ac (ai O (LW (λ_ h=>h.g3 48 4) (ad (ac (ai O (ad (Cs (ac ?_)))))))))));refine I (Yf oO O) (I (Yd 1 O O O aa) (I (Yn nW O) (ab O (ad (Cb ?_)))));refine e0 (ι:=Nat×Option Addr×Nat) (λg=>[(14,.int .i64 (g.1:Int)),(4,.slice g.2.1 (gX (m.decls.take g.1) 0).length g.2.2),(5,.int .i64 (eU (m.decls.take g.1)))]) [(1,_),(2,_),(3,_),(12,_),(13,_)] (λg=>Ws w [] [cW 48 4 bW.cells g.2.1 g.2.2 (gX (m.decls.take g.1) 0),aE x (.cells (fi m r).toArray 27 (0,0))] [H]) (λg=>g.1<=m.decls.length) (λg=>m.decls.length-g.1) (0,none,0) (cx _) ag ?_;intro g hi;refine ac (I (cy O O) (ad (Cs ?_)));refine Cc O (λk=>?_) (λk=>?_)
 ·have n:g.1<m.decls.length:=by simpa using k
  obtain ⟨d,o⟩:=dw n;obtain ⟨K,L,M,q⟩:=a.decls.aq g.1 d o;have q:cw H K (L+g.1*4) d.cells:=q;have y:=vd (j.decls d (gu o));have z:m.decls.take (g.1+1)=m.decls.take g.1++[d]:=j2 o
  have b:gX (m.decls.take (g.1+1)) 0=gX (m.decls.take g.1) 0++[bw (eU (m.decls.take g.1)) d]:=by rw [z,D5,C0]
  have s:eU (m.decls.take (g.1+1))=eU (m.decls.take g.1)+iZ d:=by rw [z,D4]
  have af:=B4 j g.1;have ah:=B4 j (g.1+1)
  have aj:(gX (m.decls.take g.1) 0).length=g.1:=by rw [wr,mc]; omega
  have ak:=y.n3;refine am (Cs (Cb (ac (I (Yo nW O O M Z) (I (eq 0 mM O O O (q)) ?_)))));refine Al Y O oP λal=>?_;refine aT 0 Y O O O pA O O O (ad (ac (I (Yf lM O) (I (Yd 0 O O O aa) (I (Yf mK O) (I (Yd 0 O O O aa) (I (Yf rq O) (I (Yd 0 O O O aa) ?_))))))));refine I (Yb ha oU O O) ?_;refine Al Y O ha λan=>?_;refine aT 0 Y O O O iu O O O (ad (Cs (ac (I (Yf lM O) (I (Yd 1 O O O aa) (ad (Cb (ac (I (bx O O) (ai O (ad ?_)))))))))));refine Cc O (λt=>?_) (λt=>?_)
  ·have A:d.kind=2:=by simpa using t
   have c:=D1 A;refine ac (ab O (I (Yf ir O) (aT 0 Y O O O dr O O O (ad (Cr (ab O (I (uq (eU (m.decls.take (g.1+1))) O O (by rw [s,c]) Z) (ai O ?_))))))));refine Ln (Eb (Et (Cr (ab O (I (cI 0 O O hR O) ?_)))));refine Lb Y O kr O O O O λB=>?_;refine dn 0 (.cells (bW.cells (bw (eU (m.decls.take g.1)) d)).toArray 48 (0,0)) O (by rw [B5 Z]; rfl) ?_;refine LA (bw (eU (m.decls.take g.1)) d) 3 0 Y O kr O O O O O O Z Z λf i=>?_;refine ai O (Ln (Eb (Et (Cr (I (Yi O O O Z) (ab O (Ln ?_)))))));rw [<-b];exact ct ((g.1+1,f,i):Nat×Option Addr×Nat) (by first | omega | (dsimp only; omega)) (by first | omega | (dsimp only; omega)) (λ_ h=>Wd 3 h)
  have A:¬d.kind=2:=by simpa using t
  refine ac (I (bx O O) (ai O (ad ?_)));refine Cc O (λu=>?_) (λu=>?_)
  ·have C:d.kind=3:=by simpa using u
   have c:=MQ C;refine ac (ab O (I (Yf ir O) (aT 0 Y O O O dr O O O (ad (Cr (ab O (I (Yf mK O) (I (Yd 1 O O O aa) ?_))))))));refine I (uq (eU (m.decls.take (g.1+1))) O O (by rw [s,c]) Z) (ai O (Ln (Eb (Et (Cr (ab O (I (cI 0 O O hR O) ?_)))))));refine Lb Y O kr O O O O λB=>?_;refine dn 0 (.cells (bW.cells (bw (eU (m.decls.take g.1)) d)).toArray 48 (0,0)) O (by rw [B5 Z]; rfl) ?_;refine LA (bw (eU (m.decls.take g.1)) d) 3 0 Y O kr O O O O O O Z Z λf i=>?_;refine ai O (Ln (Eb (Et (Cr (I (Yi O O O Z) (ab O (Ln ?_)))))));rw [<-b];exact ct ((g.1+1,f,i):Nat×Option Addr×Nat) (by first | omega | (dsimp only; omega)) (by first | omega | (dsimp only; omega)) (λ_ h=>Wd 3 h)
  have C:¬d.kind=3:=by simpa using u
  have D:d.kind=1:=by have:=y.kind; omega
  have c:=MO D
  have N:eU (m.decls.take (g.1+1))=eU (m.decls.take g.1):=by rw [s,c]; omega
  refine Ck (Eb (Et (Cr (ab O (I (cI 0 O O hR O) ?_)))));refine Lb Y O kr O O O O λB=>?_;refine dn 0 (.cells (bW.cells (bw (eU (m.decls.take g.1)) d)).toArray 48 (0,0)) O (by rw [MN D]; rfl) ?_;refine LA (bw (eU (m.decls.take g.1)) d) 3 0 Y O kr O O O O O O Z Z λf i=>?_;refine ai O (Ln (Eb (Et (Cr (I (Yi O O O Z) (ab O (Ln ?_)))))));rw [<-b];rw [<-N];exact ct ((g.1+1,f,i):Nat×Option Addr×Nat) (by first | omega | (dsimp only; omega)) (by first | omega | (dsimp only; omega)) (λ_ h=>Wd 3 h)
 have l:g.1=m.decls.length:=by simp at k; omega
 rw [l,gv]
 clear l k hi
 refine Ce (Ex (Ex (cU (Et (Cs (ac (I (Yf lh O) (I (Yd 1 O O O aa) (I (Yn j5 O) (ab O (ad (Cb ?_))))))))))));rw [show gX m.decls 0=gX m.decls 0++i0 (m.procs.take 0) 0 by simp [i0]];refine e0 (ι:=Nat×Option Addr×Nat) (λg=>[(49,.int .i64 (g.1:Int)),(4,.slice g.2.1 (gX m.decls 0++i0 (m.procs.take g.1) 0).length g.2.2)]) [(2,_),(3,_),(5,_),(47,_),(48,_)] (λg=>Ws w [] [cW 48 4 bW.cells g.2.1 g.2.2 (gX m.decls 0++i0 (m.procs.take g.1) 0),aE x (.cells (fi m r).toArray 27 (0,0))] [H]) (λg=>g.1<=m.procs.length) (λg=>m.procs.length-g.1) (0,g.2.1,g.2.2) (cx _) ag ?_
 clear g
 intro g hi;refine ac (I (cy O O) (ad (Cs ?_)));refine Cc O (λv=>?_) (λv=>?_)
 ·have n:g.1<m.procs.length:=by simpa using v
  obtain ⟨p,E⟩:=dw n;obtain ⟨ao,ap,P,Q⟩:=a.procs.aq g.1 p E;obtain ⟨ar,au,av,aw,ax,ay,R,F,az,aA⟩:=Q;have aB:=F.max;have aC:=F.cap;have S:m.procs.take (g.1+1)=m.procs.take g.1++[p]:=j2 E
  have b:gX m.decls 0++i0 (m.procs.take (g.1+1)) 0=(gX m.decls 0++i0 (m.procs.take g.1) 0)++[tc g.1 p]:=by
    rw [S,D6,n5,gC,mc,rJ Z]
  have aD:(gX m.decls 0++i0 (m.procs.take g.1) 0).length<=16:=by rw [bT,wr,AS,mc]; omega
  refine am (Cs (Cb (ac (ab O (I (Yo j5 O O P Z) (I (eq 0 ru O O O (R)) ?_))))));refine Al Y O pB λaF=>?_;refine ai O (aT 0 Y O O O dq O O O (ad (Cr (ab O (I (Yf kT O) (I (Yd 0 O O O aa) (I (Yn dT O) (ab O ?_))))))));refine I (Yf za O) (I (Yd 0 O O O aa) (I (Yb ha oU O O) ?_));refine Lb Y O kr O O O O λaG=>?_;refine dn 0 (.cells (bW.cells (tc g.1 p)).toArray 48 (0,0)) O (O) ?_;refine LA (tc g.1 p) 2 0 Y O kr O O O O O O Z Z λT U=>?_;refine ai O (Ln (Eb (Et (Cr (I (Yi O O O Z) (ab O (Ln ?_)))))));rw [<-b];exact ct ((g.1+1,T,U):Nat×Option Addr×Nat) (by first | omega | (dsimp only; omega)) (by first | omega | (dsimp only; omega)) (λ_ h=>Wd 2 h)
 have l:g.1=m.procs.length:=by simp at v; omega
 rw [l,gv];refine Ce (Ex (Ex (cU (Et (ac (ab O (ab O (ai O (ai O (ad (aZ ?_)))))))))));refine WE.jp O O O λw' G=>?_;exact ⟨(g.2.1,g.2.2),O,G.fr,G.ls 0 O bW.dk eZ⟩
def MR (h:bp.procs[ae]? = some g8):bp.decls.map (·.ao)++(bp.procs.take (ae+1)).map (·.ao)=(bp.decls.map (·.ao)++(bp.procs.take ae).map (·.ao))++[g8.ao]:=by rw [j2 h]; simp
def MS (h:bp.decls[ae]? = some eF):(bp.decls.take (ae+1)).map (·.ao)=(bp.decls.take ae).map (·.ao)++[eF.ao]:=by rw [j2 h]; simp
def F5 (h:¬iA bp=0):en bp=(([],[]),iA bp):=by rw [en,a8 h]
def F6 (h:iA bp=0) (a:(e1 ((dG bp).map (·.name))||e1 bp.aP)=true):en bp=(([],[]),6):=by rw [en,av (by simp [h]),a8 a]
def MT (h:iA bp=0) (a:(e1 ((dG bp).map (·.name))||e1 bp.aP)=false):en bp=((bp.nm,jv (dG bp) (k7 bp)),0):=by rw [en,av (by simp [h]),av (by simp [a])]
def FQ (m:cm) (i:Nat):List bW:=jv ((dG m).take i) ((k7 m).take i)
def MU (m:cm):FQ m (dG m).length=jv (dG m) (k7 m):=by
 unfold FQ;rw [gv,uH,<-wu,gv]
variable {ay:bW}
def MV (a:(dG bp)[ae]? = some ay) (b:(k7 bp)[ae]? = some dh):FQ bp (ae+1)=FQ bp ae++(if dh=true then [ay] else []):=P8 (by rw [uH,wu]) a b
def MW (m:cm) (i:Nat):(FQ m i).length<=i:=by
 have:=D7 ((dG m).take i) ((k7 m).take i);simp at this
 show (jv _ _).length<=i
 omega
structure GF where
 i:Nat
 n:SP
 f:SP
def m7:hc prog 132 4 (.bool false) 1 1:=jr aa
def kU:zeroOf prog 42=some (.agg #[st [],.slice none 0 0]):=aa
def vA:hx prog 42=some [(0,1),(1,1)]:=aa
def bU:dV prog 42=some 2:=aa
def ll:ig prog 42=some 2:=aa
def l5:ga prog 132=some 1:=aa
def MX:dV prog 40=some 1:=aa
def Wg (H:View) (ke ks:Nat) (r:iB) (m:cm) (w:World) (s:Le H w) (a:jb ke ks H r m) (t:kS m) :
   Calls prog 69 #[.agg (fi m r).toArray] w λe w'=>∃r:SP,e = .returned (.slice r.1 (k7 m).length r.2)/\Ext w w'/\Sl rdBool 1 (nv w w') r.1 r.2 (k7 m):=by
 have fy:=t.fy;have G:=a.decls.max;have J:=a.decls.cap;have K:=a.procs.max;have L:=a.procs.cap;refine enter func69 O 35 O O ?_;refine CE (Vs:=[H]) (Ws.init (by simp [s])) (ac ?_);refine WL.box Y O O λl=>?_;refine ai O (ad (ac (ai O (LW (λ_ h=>h.g3 4 1) (ad (Cs (ac (I (Yf oO O) (I (Yd 1 O O O aa) (I (Yn nW O) ?_))))))))));refine ab O (ad (Cb ?_));refine e0 (ι:=Nat×Option Addr×Nat) (λg=>[(11,.int .i64 (g.1:Int)),(3,.slice g.2.1 ((m.decls.take g.1).map (·.ao)).length g.2.2)]) [(1,_),(2,_),(9,_),(10,_)] (λg=>Ws w [] [cW 4 1 nC g.2.1 g.2.2 ((m.decls.take g.1).map (·.ao)),aE l (.cells (fi m r).toArray 27 (0,0))] [H]) (λg=>g.1<=m.decls.length) (λg=>m.decls.length-g.1) (0,none,0) (cx _) ag ?_;intro g hi;refine ac (I (cy O O) (ad (Cs ?_)));refine Cc O (λb=>?_) (λb=>?_)
 ·have f:g.1<m.decls.length:=by simpa using b
  obtain ⟨d,n⟩:=dw f;obtain ⟨u,v,x,i⟩:=a.decls.aq g.1 d n;have i:cw H u (v+g.1*4) d.cells:=i;have j:=MS n
  have y:((m.decls.take g.1).map (·.ao)).length=g.1:=by simp; omega
  refine am (Cs (Cb (ac (I (Yo nW O O x Z) (I (eq 0 mM O O O (i)) ?_)))));refine Al Y O oP λM=>?_;refine aT 0 Y O O O pA O O O (ad (Cr (ab O (I (Yf zd O) (I (Yd 0 O O O aa) ?_)))));refine Lb Y O m7 O O O O λN=>?_;refine dn 0 (.cells (nC d.ao).toArray 4 (0,0)) O (O) ?_;refine LA (d.ao) 2 0 Y O m7 O O O O O O Z Z λz A=>?_;refine ai O (Ln (Eb (Et (Cr (I (Yi O O O Z) (ab O (Ln ?_)))))));rw [<-j];exact ct ((g.1+1,z,A):Nat×Option Addr×Nat) (by first | omega | (dsimp only; omega)) (by first | omega | (dsimp only; omega)) (λ_ h=>Wd 2 h)
 have c:g.1=m.decls.length:=by simp at b; omega
 rw [c,gv]
 clear c b hi
 refine Ce (Ex (Ex (cU (Et (Cs (ac (I (Yf lh O) (I (Yd 1 O O O aa) (I (Yn j5 O) (ab O (ad (Cb ?_))))))))))));rw [show m.decls.map (·.ao)=m.decls.map (·.ao)++(m.procs.take 0).map (·.ao) by simp];refine e0 (ι:=Nat×Option Addr×Nat) (λg=>[(24,.int .i64 (g.1:Int)),(3,.slice g.2.1 (m.decls.map (·.ao)++(m.procs.take g.1).map (·.ao)).length g.2.2)]) [(2,_),(22,_),(23,_)] (λg=>Ws w [] [cW 4 1 nC g.2.1 g.2.2 (m.decls.map (·.ao)++(m.procs.take g.1).map (·.ao)),aE l (.cells (fi m r).toArray 27 (0,0))] [H]) (λg=>g.1<=m.procs.length) (λg=>m.procs.length-g.1) (0,g.2.1,g.2.2) (cx _) ag ?_
 clear g
 intro g hi;refine ac (I (cy O O) (ad (Cs ?_)));refine Cc O (λk=>?_) (λk=>?_)
 ·have f:g.1<m.procs.length:=by simpa using k
  obtain ⟨p,o⟩:=dw f;obtain ⟨P,Q,B,C⟩:=a.procs.aq g.1 p o;obtain ⟨R,S,T,U,V,W,D,X,ae,af⟩:=C;have j:=MR o
  have y:(m.decls.map (·.ao)++(m.procs.take g.1).map (·.ao)).length<=16:=by simp; omega
  refine am (Cs (Cb (ac (I (Yo j5 O O B Z) (I (eq 0 ru O O O (D)) ?_)))));refine Al Y O pB λah=>?_;refine aT 0 Y O O O dq O O O (ad (Cr (ab O (I (Yf Fz O) (I (Yd 0 O O O aa) ?_)))));refine Lb Y O m7 O O O O λaj=>?_;refine dn 0 (.cells (nC p.ao).toArray 4 (0,0)) O (O) ?_;refine LA (p.ao) 2 0 Y O m7 O O O O O O Z Z λE F=>?_;refine ai O (Ln (Eb (Et (Cr (I (Yi O O O Z) (ab O (Ln ?_)))))));rw [<-j];exact ct ((g.1+1,E,F):Nat×Option Addr×Nat) (by first | omega | (dsimp only; omega)) (by first | omega | (dsimp only; omega)) (λ_ h=>Wd 2 h)
 have c:g.1=m.procs.length:=by simp at k; omega
 rw [c,gv];refine Ce (Ex (Ex (cU (Et (ac (ab O (ai O (ad (aZ ?_)))))))));refine R1 O O λw' q=>?_;exact ⟨(g.2.1,g.2.2),O,q.fr,q.ls 0 O I0 eZ⟩
def zv (H:View) (ke ks:Nat) (r:iB) (m:cm) (w:World) (J:Le H w) (b:jb ke ks H r m) (an:wM m<=109951162777) :
   Calls prog 15 #[.agg (fi m r).toArray] w λe w'=>∃r:SP,e = .returned (.tuple #[.agg #[st (en m).1.1,.slice r.1 (en m).1.2.length r.2],.int .i64 (en m).2])/\Ext w w'/\Sl hK 4 (nv w w') r.1 r.2 (en m).1.2:=by
 refine enter func15 O 60 O O ?_;refine CE (Vs:=[H]) (Ws.init (by simp [J])) (ac ?_);refine WL.box Y O O λK=>?_;refine Al Y O kU λL=>?_;refine ai O (ad (Cs (ac (I (cI 1 O O bh O) (Lp Y O aK O (λw a=>LL H ke ks r m w a.V b Z) (ai O (ad (ac (ab O (I (fh O O) ?_))))))))));refine ad ?_;refine Cc O (λj=>?_) (λj=>?_)
 ·have c:¬iA m=0:=by simpa using j
  refine ac (I (Yb kU vA O O) (ab O (aT 0 Y O O O bU O O O (ai O (ad (aZ (Er ?_)))))));refine WE.mV 0 O O O O ll O λw' a=>?_;rw [F5 c];exact ⟨(none,0),O,a.fr,Sl.nil⟩
 have c:iA m=0:=by simpa using j
 have k:=zu c;have fy:=k.fy;have ao:=b.decls.max;have ap:=b.decls.cap;have ar:=b.procs.max;have au:=b.procs.cap;have il:=uH m;have pl:=wu m;refine am (ac (I (cI 1 O O bh O) ?_));refine Ld Y O aK O (λr:SP=>.tuple #[.slice r.1 (dG m).length r.2,.int .i64 (kF m)]) (λH r=>Sl hK 4 H r.1 r.2 (dG m)) (λw a=>F4 H ke ks r m w a.V b k) ?_;intro z aw ax l;refine ab O (I (Yx O O) (I (Yx O O) (ai O (ai O (ad (ac (I (Yf g7 O) (I (Yd 1 O O O aa) ?_))))))));refine I (Yb kU vA O O) (LW (λ_ h=>h.g3 48 4) ?_);refine Al Y O kU λM=>?_;refine aT 0 Y O O O bU O O O (ad (ac (ai O (LW (λ_ h=>h.g3 9 1) (ad (ac (I (cI 4 O O bh O) ?_)))))));refine Ld Y O aK O (λr:SP=>.slice r.1 (k7 m).length r.2) (λH r=>Sl rdBool 1 H r.1 r.2 (k7 m)) (λw a=>Wg H ke ks r m w a.V b k) ?_;intro A ay az o;have aA:=l.max;have aB:=l.cap;have aC:=o.max;have aD:=o.cap;refine ai O (ad (Cs (ac (ab O (I (Yn bn O) (ab O (ad (Cb ?_))))))));refine e0 (ι:=GF) (λg=>[(30,.int .i64 (g.i:Int)),(8,.slice g.n.1 (((dG m).take g.i).map cP).length g.n.2)]) [(1,_),(2,_),(3,_),(7,_),(9,_),(28,_),(29,_)] (λg=>Ws w [] [aE M (.cells #[st m.nm,.slice g.f.1 (FQ m g.i).length g.f.2] 42 (0,0)),cW 9 1 eE g.n.1 g.n.2 (((dG m).take g.i).map cP),cW 48 4 bW.cells g.f.1 g.f.2 (FQ m g.i),aE L (.cells #[st [],.slice none 0 0] 42 (0,0)),aE K (.cells (fi m r).toArray 27 (0,0))] [A,z,H]) (λg=>g.i<=(dG m).length) (λg=>(dG m).length-g.i) ⟨0,(none,0),(none,0)⟩ (cx _) (λ_ h=>by exact (((((h.f 4 O).f 4 O).f 4 O).f 3 O).f 4 O:)) ?_;intro g hi;refine ac (I (cy O O) (ad (Cs ?_)));refine Cc O (λp=>?_) (λp=>?_)
 ·have B:g.i<(dG m).length:=by simpa using p
  obtain ⟨x,q⟩:=dw B;obtain ⟨N,P,Q,s⟩:=l.aq g.i x q;have s:cw z N (P+g.i*4) x.cells:=s;obtain ⟨d,C⟩:=dw (by rw [wu,<-uH]; exact B);obtain ⟨R,S,T,t⟩:=o.aq g.i d C;have t:cw A R (S+g.i*1) (nC d):=t
  have D:((dG m).take (g.i+1)).map cP=((dG m).take g.i).map cP++[x.name]:=by rw [kV,q]; simp [cP]
  have hL:(((dG m).take g.i).map cP).length=g.i:=by simp; omega
  have E:=MV q C;have aF:=MW m g.i;refine am (Cs (Cb (ac (ab O (I (Yo bn O O Q Z) (I (eq 1 hR O O O (s)) ?_))))));refine Al Y O ha λaG=>?_;refine ai O (aT 0 Y O O O iu O O O (ad (ac (ab O (I (Yf oT O) (I (Yd 0 O O O aa) ?_))))));refine Lb Y O ei O O O O λaH=>?_;refine dn 0 (.cells (eE x.name).toArray 9 (0,0)) O (O) ?_;refine LA ((x.name:List UInt8)) 3 0 Y O ei O O O O O O Z Z λF G=>?_;refine ai O (ad (ac (ab O (ab O (I (Yo l5 O O T Z) (I (cC 0 aa O O (t 0 _ O)) (ad ?_)))))));refine Cc O (λu=>?_) (λu=>?_)
  ·have U:d=true:=by simpa using u
   have W:FQ m (g.i+1)=FQ m g.i++[x]:=by rw [E,a8 U]
   refine Cr (I (Yf jK O) (I (Yd 2 O O O aa) (I (cI 1 O O hR O) ?_)));refine Lb Y O kr O O O O λaI=>?_;refine dn 0 (.cells (bW.cells x).toArray 48 (0,0)) O (O) ?_;refine LA (x) 5 0 Y O kr O O O O O O Z Z λX ae=>?_;refine I (Yf jK O) (aT 3 Y O O O MX O O O (Ln (Eb (Et (Cr (I (Yi O O O Z) (ab O (Ln ?_))))))));rw [<-D];rw [<-W];exact ct (⟨g.i+1,(F,G),(X,ae)⟩:GF) (by first | omega | (dsimp only; omega)) (by first | omega | (dsimp only; omega)) (λ_ h=>Wd 3 h)
  have af:¬d=true:=by simpa using u
  have ag:FQ m (g.i+1)=FQ m g.i:=by rw [E,av af,qB]
  refine Ck (Eb (Et (Cr (I (Yi O O O Z) (ab O (Ln ?_))))));rw [<-D];rw [<-ag];exact ct (⟨g.i+1,(F,G),g.f⟩:GF) (by first | omega | (dsimp only; omega)) (by first | omega | (dsimp only; omega)) (λ_ h=>Wd 2 h)
 have ah:g.i=(dG m).length:=by simp at p; omega
 have aj:=MU m;refine Ce (Ex (Ex (cU (Et (Cs (Cs ?_))))));rw [ah,gv];refine WC.r0 (rd:=rdStr) 1 O iM eZ λak al=>?_;refine Cr (ab O ?_)
 refine Lp Y O aK O (λw a=>by
     have:=F3 ak g.n.1 g.n.2 ((dG m).map cP) w a.V al
     exact this) ?_
 refine ab O ?_;apply Lo 3 O O O O Y O O O O O
 ·intro aJ;refine Vg (Yf j4 O) (Vg (Yd 3 O O O aa) (Lp (.g O O O) O aK O (λw a=>F3 H r.a1 r.c1 m.aP w a.V b.aP) ?_));exact Gt 3 O O O
 refine ad ?_;refine Cc O (λv=>?_) (λv=>?_)
 ·have y:(e1 ((dG m).map (·.name))||e1 m.aP)=true:=v;refine ac (I (Yb kU vA O O) (aT 2 Y O O O bU O O O (ai O (ad (aZ (Er ?_))))));refine WE.mV 2 O O O O ll O λw' a=>?_;rw [F6 c y];exact ⟨(none,0),O,a.fr,Sl.nil⟩
 have y:(e1 ((dG m).map (·.name))||e1 m.aP)=false:=v;refine am (ac (I (cI 0 O O ll O) (aT 2 Y O O O bU O O O (ai O (ad (aZ ?_))))));refine WE.mV 2 O O O O ll O λw' a=>?_;rw [MT c y];rw [aj] at a ⊢;exact ⟨g.f,O,a.fr,a.ls 1 O bW.dk eZ⟩
structure GI where
 i:Nat
 s:SP
 p:SP
def ck:List UInt8:=[99,110,116]
def pI:List bW:=[⟨1,3,0,[107]⟩,⟨2,0,0,[115,117,109]⟩,⟨3,4,1,[116]⟩,⟨4,1,0,[100,111,119,110]⟩]
variable {aO:List bW}
def Wh (h:(aO.map (·.name)).Nodup) (b:aO[ae]? = some ay):ay.name ∉ (aO.take ae).map (·.name):=by
 intro d;have i:ae<aO.length:=(cS.1 b).1;obtain ⟨j,c⟩:=ln d;rw [gS] at c;obtain ⟨y,a,e⟩:=dX.1 c
 have f:j<ae:=by have:=(cS.1 a).1; simp at this; omega
 rw [i6,a8 f] at a
 have g:(aO.map (·.name))[j]? = (aO.map (·.name))[ae]?:=by rw [gS,gS,a,b]; simp [e]
 have:=(uc (by simpa using (cS.1 a).1) h).1 g;omega
def PW:v3 prog 48=some [0,0,0,1]:=aa
def F7:prog.underlying 122=some (.map 9 48):=aa
def MY (H:View) (ke ks:Nat) (r:iB) (m:cm) (w:World) (T:Le H w) (c:jb ke ks H r m) (v:kS m) :
   Calls prog 64 #[.agg (fi m r).toArray] w λe w'=>∃r:SP×SP,e = .returned (.tuple #[.slice r.1.1 (dG m).length r.1.2,.slice r.2.1 (k7 m).length r.2.2,.int .i64 (kF m)])/\Ext w w'/\Sl hK 4 (nv w w') r.1.1 r.1.2 (dG m)/\Sl rdBool 1 (nv w w') r.2.1 r.2.2 (k7 m):=by
 have fy:=v.fy;have ar:=c.decls.max;have au:=c.decls.cap;have av:=c.procs.max;have aw:=c.procs.cap;refine enter func64 O 94 O O ?_;refine CE (Vs:=[H]) (Ws.init (by simp [T])) (ac ?_);refine WL.box Y O O λM=>?_;refine ai O (ai O (ai O (ad (ac (ai O (LW (λ_ h=>h.g3 48 4) (ad (ac (ai O ?_)))))))));refine LW (λ_ h=>h.g3 4 1) (ad (ac (ai O (ad (Cs (ac (ai O (ad (Cb ?_)))))))));refine e0 (ι:=GI) (λg=>[(8,.int .i64 (g.i:Int)),(5,.slice g.s.1 (gX (m.decls.take g.i) 0).length g.s.2),(6,.slice g.p.1 ((m.decls.take g.i).map (·.ao)).length g.p.2),(7,.int .i64 (eU (m.decls.take g.i)))]) [(1,_),(2,_),(3,_),(4,_)] (λg=>Ws w [] [cW 48 4 bW.cells g.s.1 g.s.2 (gX (m.decls.take g.i) 0),cW 4 1 nC g.p.1 g.p.2 ((m.decls.take g.i).map (·.ao)),aE M (.cells (fi m r).toArray 27 (0,0))] [H]) (λg=>g.i<=m.decls.length) (λg=>m.decls.length-g.i) ⟨0,(none,0),(none,0)⟩ (cx _) (λ_ h=>(((h.f 2 O).f 1 O).f 2 O:)) ?_;intro g hi;refine Cs (ac (ab O (I (Yf oO O) (I (Yd 2 O O O aa) (I (Yn nW O) (I (cy O O) (ad ?_)))))));refine Cc O (λx=>?_) (λx=>?_)
 ·have A:g.i<m.decls.length:=by simpa using x
  obtain ⟨d,y⟩:=dw A;obtain ⟨U,V,W,B⟩:=c.decls.aq g.i d y;have B:cw H U (V+g.i*4) d.cells:=B;have N:=vd (v.decls d (gu y));have P:m.decls.take (g.i+1)=m.decls.take g.i++[d]:=j2 y
  have j:gX (m.decls.take (g.i+1)) 0=gX (m.decls.take g.i) 0++[bw (eU (m.decls.take g.i)) d]:=by rw [P,D5,C0]
  have C:eU (m.decls.take (g.i+1))=eU (m.decls.take g.i)+iZ d:=by rw [P,D4]
  have ax:=B4 v g.i;have ay:=B4 v (g.i+1)
  have az:(gX (m.decls.take g.i) 0).length=g.i:=by rw [wr,mc]; omega
  have aA:=N.n3;have k:=MS y
  have X:((m.decls.take g.i).map (·.ao)).length=g.i:=by simp; omega
  refine am (Cs (Cb (ac (I (Yf oO O) (I (Yd 2 O O O aa) (ab O (I (Yo nW O O W Z) (I (eq 0 mM O O O (B)) ?_))))))));refine Al Y O oP λaB=>?_;refine aT 0 Y O O O pA O O O (ad (ac (I (Yf lM O) (I (Yd 0 O O O aa) (I (Yf mK O) (I (Yd 0 O O O aa) (I (Yf rq O) (I (Yd 0 O O O aa) ?_))))))));refine I (Yb ha oU O O) ?_;refine Al Y O ha λaC=>?_;refine aT 0 Y O O O iu O O O (ad (Cs (ac (I (Yf lM O) (I (Yd 1 O O O aa) (I (fh O O) (ad ?_)))))));refine Cc O (λD=>?_) (λD=>?_)
  ·have l:¬d.kind=1:=by simpa using D
   refine Cr (ab O (I (Yf ir O) (aT 0 Y O O O dr O O O (ad (Cs (ac (I (Yf lM O) (I (Yd 1 O O O aa) (I (bx O O) ?_)))))))));refine ad ?_;refine Cc O (λb=>?_) (λb=>?_)
   ·have E:d.kind=2:=by simpa using b
    have n:=D1 E;refine Cr (ab O (I (uq (eU (m.decls.take (g.i+1))) O O (by rw [C,n]) Z) (ai O (ad (Cs (ac (I (Yf lM O) (I (Yd 1 O O O aa) (I (bx O O) ?_)))))))));refine ad ?_;refine Cc O (λa=>?_) (λa=>?_)
    ·exact (show False by simp at a; omega).elim
    refine am (ac (ab O (I (cI 0 O O hR O) ?_)));refine Lb Y O kr O O O O λQ=>?_;refine dn 0 (.cells (bW.cells (bw (eU (m.decls.take g.i)) d)).toArray 48 (0,0)) O (by rw [B5 l]; rfl) ?_;refine LA (bw (eU (m.decls.take g.i)) d) 3 0 Y O kr O O O O O O Z Z λo q=>?_;refine ai O (ad (Cr (ab O (I (Yf zd O) (I (Yd 2 O O O aa) ?_)))));refine Lb Y O m7 O O O O λR=>?_;refine dn 0 (.cells (nC d.ao).toArray 4 (0,0)) O (O) ?_;refine LA (d.ao) 5 0 Y O m7 O O O O O O Z Z λt u=>?_;refine ai O (Ln (Eb (Et (Cr (ab O (I (Yi O O O Z) (ai O (Ln ?_))))))));rw [<-j];rw [<-k];exact ct (⟨g.i+1,(o,q),(t,u)⟩:GI) (by first | omega | (dsimp only; omega)) (by first | omega | (dsimp only; omega)) (λ_ h=>Wd 4 h)
   have E:¬d.kind=2:=by simpa using b
   refine am (Cs (ac (I (Yf lM O) (I (Yd 1 O O O aa) (I (bx O O) (ad ?_))))));refine Cc O (λa=>?_) (λa=>?_)
   ·have ae:d.kind=3:=by simpa using a
    have n:=MQ ae;refine Cr (ab O (I (Yf mK O) (I (Yd 1 O O O aa) (I (uq (eU (m.decls.take (g.i+1))) O O (by rw [C,n]) Z) (ai O (ad (ac (ab O ?_))))))));refine I (cI 0 O O hR O) ?_;refine Lb Y O kr O O O O λQ=>?_;refine dn 0 (.cells (bW.cells (bw (eU (m.decls.take g.i)) d)).toArray 48 (0,0)) O (by rw [B5 l]; rfl) ?_;refine LA (bw (eU (m.decls.take g.i)) d) 3 0 Y O kr O O O O O O Z Z λo q=>?_;refine ai O (ad (Cr (ab O (I (Yf zd O) (I (Yd 2 O O O aa) ?_)))));refine Lb Y O m7 O O O O λR=>?_;refine dn 0 (.cells (nC d.ao).toArray 4 (0,0)) O (O) ?_;refine LA (d.ao) 5 0 Y O m7 O O O O O O Z Z λt u=>?_;refine ai O (Ln (Eb (Et (Cr (ab O (I (Yi O O O Z) (ai O (Ln ?_))))))));rw [<-j];rw [<-k];exact ct (⟨g.i+1,(o,q),(t,u)⟩:GI) (by first | omega | (dsimp only; omega)) (by first | omega | (dsimp only; omega)) (λ_ h=>Wd 4 h)
   exact (show False by have:=N.kind; simp at a; omega).elim
  have l:d.kind=1:=by simpa using D
  have n:=MO l
  have af:eU (m.decls.take (g.i+1))=eU (m.decls.take g.i):=by rw [C,n]; omega
  refine am (Cs (ac (I (Yf lM O) (I (Yd 1 O O O aa) (I (bx O O) (ad ?_))))));refine Cc O (λb=>?_) (λb=>?_)
  ·exact (show False by simp at b; omega).elim
  have E:¬d.kind=2:=by simpa using b
  refine am (Cs (ac (I (Yf lM O) (I (Yd 1 O O O aa) (I (bx O O) (ad ?_))))));refine Cc O (λa=>?_) (λa=>?_)
  ·exact (show False by simp at a; omega).elim
  refine am (ac (ab O (I (cI 0 O O hR O) ?_)));refine Lb Y O kr O O O O λQ=>?_;refine dn 0 (.cells (bW.cells (bw (eU (m.decls.take g.i)) d)).toArray 48 (0,0)) O (by rw [MN l]; rfl) ?_;refine LA (bw (eU (m.decls.take g.i)) d) 3 0 Y O kr O O O O O O Z Z λo q=>?_;refine ai O (ad (Cr (ab O (I (Yf zd O) (I (Yd 2 O O O aa) ?_)))));refine Lb Y O m7 O O O O λR=>?_;refine dn 0 (.cells (nC d.ao).toArray 4 (0,0)) O (O) ?_;refine LA (d.ao) 5 0 Y O m7 O O O O O O Z Z λt u=>?_;refine ai O (Ln (Eb (Et (Cr (ab O (I (Yi O O O Z) (ai O (Ln ?_))))))));rw [<-j];rw [<-k];rw [<-af];exact ct (⟨g.i+1,(o,q),(t,u)⟩:GI) (by first | omega | (dsimp only; omega)) (by first | omega | (dsimp only; omega)) (λ_ h=>Wd 4 h)
 have z:g.i=m.decls.length:=by simp at x; omega
 rw [z,gv]
 clear z x hi
 refine Ce (Ex (Ex (cU (Et (Cs (ac (ai O (ad (Cb ?_)))))))));rw [show gX m.decls 0=gX m.decls 0++i0 (m.procs.take 0) 0 by simp [i0]];rw [show m.decls.map (·.ao)=m.decls.map (·.ao)++(m.procs.take 0).map (·.ao) by simp];refine e0 (ι:=GI) (λg=>[(11,.int .i64 (g.i:Int)),(5,.slice g.s.1 (gX m.decls 0++i0 (m.procs.take g.i) 0).length g.s.2),(6,.slice g.p.1 (m.decls.map (·.ao)++(m.procs.take g.i).map (·.ao)).length g.p.2)]) [(1,_),(2,_),(3,_),(4,_),(7,_)] (λg=>Ws w [] [cW 48 4 bW.cells g.s.1 g.s.2 (gX m.decls 0++i0 (m.procs.take g.i) 0),cW 4 1 nC g.p.1 g.p.2 (m.decls.map (·.ao)++(m.procs.take g.i).map (·.ao)),aE M (.cells (fi m r).toArray 27 (0,0))] [H]) (λg=>g.i<=m.procs.length) (λg=>m.procs.length-g.i) ⟨0,g.s,g.p⟩ (cx _) ag ?_
 clear g
 intro g hi;refine Cs (ac (ab O (I (Yf lh O) (I (Yd 2 O O O aa) (I (Yn j5 O) (I (cy O O) (ad ?_)))))));refine Cc O (λF=>?_) (λF=>?_)
 ·have A:g.i<m.procs.length:=by simpa using F
  obtain ⟨p,G⟩:=dw A;obtain ⟨aD,aF,J,ah⟩:=c.procs.aq g.i p G;obtain ⟨aG,aH,aI,aJ,aK,aL,K,S,aM,aN⟩:=ah;have aO:=S.max;have aP:=S.cap;have aj:m.procs.take (g.i+1)=m.procs.take g.i++[p]:=j2 G
  have j:gX m.decls 0++i0 (m.procs.take (g.i+1)) 0=(gX m.decls 0++i0 (m.procs.take g.i) 0)++[tc g.i p]:=by
    rw [aj,D6,n5,gC,mc,rJ Z]
  have aQ:(gX m.decls 0++i0 (m.procs.take g.i) 0).length<=16:=by rw [bT,wr,AS,mc]; omega
  have k:=MR G
  have X:(m.decls.map (·.ao)++(m.procs.take g.i).map (·.ao)).length<=16:=by simp; omega
  refine am (Cs (Cb (Cs ?_)));refine WC.gW 0 [(0,true),(1,true),(2,true),(3,true),(4,true),(5,true),(6,true),(7,true),(8,true),(9,true),(10,true),(11,true),(12,true),(13,true),(14,true),(15,true),(16,false),(17,false),(18,true)] mixed aa (λ_ _ _ d _ h=>by cases d<;>exact h) ?_;refine D0 O (Wp 0) (Ym O) (D0 O (Wp 0) (Yf lh O) (D0 O (Wp 0) (Yd 1 O O O aa) (D0 O (Wp 0) (Ym O) (D0 O (Wp 0) (Yo j5 O O J Z) (D0 O (Wp 0) (Yf kT O) (D0 O (Wp 0) (cC 0 aa O O (K 2 _ O)) (D0 O (Wp 0) (Yn dT O) ?_)))))));refine D0 O (Wp 0) (Ym O) (D0 O (Wp 0) (Yf lh O) (D0 O (Wp 0) (Yd 1 O O O aa) (D0 O (Wp 0) (Ym O) (D0 O (Wp 0) (Yo j5 O O J Z) (D0 O (Wp 0) (Yf za O) (D0 O (Wp 0) (cC 0 aa O O (K 0 _ O)) (D0 O (Wp 0) (Yb ha oU O O) ?_)))))));refine De O (Wp 0) ?_;refine Lb Y O kr O O O O λaR=>?_;refine dn 0 (.cells (bW.cells (tc g.i p)).toArray 48 (0,0)) O (O) (Ln (Ed ?_));refine De O (λ_ h=>(Wo 0 (Wd 1 h):)) ?_;refine LA (tc g.i p) 1 0 Y O kr O O O O O O Z Z λak al=>?_;refine Ln (Ed (D0 O (λ_ h=>(Wo 0 (Wd 1 h):)) (Ya O) ?_));refine WD.nil (λ_ h=>(Wo 0 (Wd 1 h):)) ?_;refine Et (Cr (ab O (I (Yf lh O) (I (Yd 3 O O O aa) (ab O (I (Yo j5 O O J Z) (I (Yf Fz O) (I (cC 0 aa O O (K 1 _ O)) ?_))))))));refine Lb Y O m7 O O O O λaS=>?_;refine dn 0 (.cells (nC p.ao).toArray 4 (0,0)) O (O) ?_;refine LA (p.ao) 3 0 Y O m7 O O O O O O Z Z λan ap=>?_;refine ai O (Ln (Eb (Et (Cr (ab O (I (Yi O O O Z) (ai O (Ln ?_))))))));rw [<-j];rw [<-k];exact ct (⟨g.i+1,(ak,al),(an,ap)⟩:GI) (by first | omega | (dsimp only; omega)) (by first | omega | (dsimp only; omega)) (λ_ h=>Wd 2 h)
 have z:g.i=m.procs.length:=by simp at F; omega
 rw [z,gv];refine Ce (Ex (Ex (cU (Et (ac (ab O (ab O (ab O (ai O (ai O (ai O ?_)))))))))));refine ad (aZ ?_);refine WE.N2 O O O O λw' L=>?_;exact ⟨(g.s,g.p),O,L.fr,L.ls 0 O bW.dk eZ,L.ls 1 O I0 eZ⟩
def Wj (H:View) (ke ks:Nat) (r:iB) (m:cm) (w:World) (L:Le H w) (b:jb ke ks H r m) (M:wM m<=109951162777) :
   Calls prog 62 #[.agg (fi m r).toArray] w λe w'=>∃r:SP,e = .returned (.tuple #[.agg #[st (en m).1.1,.slice r.1 (en m).1.2.length r.2],.int .i64 (en m).2])/\Ext w w'/\Sl hK 4 (nv w w') r.1 r.2 (en m).1.2:=by
 refine enter func62 O 62 O O ?_;refine CE (Vs:=[H]) (Ws.init (by simp [L])) (ac ?_);refine WL.box Y O O λN=>?_;refine Al Y O kU λP=>?_;refine ai O (ad (Cs (ac (I (cI 1 O O bh O) ?_))))
 refine Lp Y O aK O (λw a=>by
     have:=Mr H ke ks r m w a.V b M;rw [<-Iv] at this
     exact this) ?_
 refine ai O (ad (ac (ab O (I (fh O O) (ad ?_)))));refine Cc O (λl=>?_) (λl=>?_)
 ·have c:¬iA m=0:=by simpa using l
  refine ac (I (Yb kU vA O O) (ab O (aT 0 Y O O O bU O O O (ai O (ad (aZ (Er ?_)))))));refine WE.mV 0 O O O O ll O λw' a=>?_;rw [F5 c];exact ⟨(none,0),O,a.fr,Sl.nil⟩
 have c:iA m=0:=by simpa using l
 have B:=zu c;have fy:=B.fy;have ap:=b.decls.max;have ar:=b.decls.cap;have au:=b.procs.max;have aw:=b.procs.cap;have il:=uH m;have pl:=wu m;refine am (ac (I (cI 1 O O bh O) ?_));refine Ld Y O aK O (λr:SP×SP=>.tuple #[.slice r.1.1 (dG m).length r.1.2,.slice r.2.1 (k7 m).length r.2.2,.int .i64 (kF m)]) (λH r=>Sl hK 4 H r.1.1 r.1.2 (dG m)/\Sl rdBool 1 H r.2.1 r.2.2 (k7 m)) (λw a=>MY H ke ks r m w a.V b B) ?_;intro o ax ay ⟨p,s⟩;have az:=p.max;have aA:=p.cap;have aB:=s.max;have aC:=s.cap;refine ab O (I (Yx O O) (I (Yx O O) (I (Yx O O) (ai O (ai O (ai O (ad (ac ?_))))))));refine ai O (LW (λ_ h=>h.g3 9 1) (ad (ac (I (Yf g7 O) (I (Yd 2 O O O aa) (LW (λ_ h=>h.g3 48 4) (I (Yb kU vA O O) ?_)))))));refine Al Y O kU λQ=>?_;refine aT 0 Y O O O bU O O O (ad (Cs (ac (ai O (ad (Cb ?_))))));refine e0 (ι:=GF) (λg=>[(10,.int .i64 (g.i:Int)),(8,.slice g.n.1 (((dG m).take g.i).map cP).length g.n.2)]) [(1,_),(2,_),(3,_),(5,_),(6,_),(9,_)] (λg=>Ws w [] [aE Q (.cells #[st m.nm,.slice g.f.1 (FQ m g.i).length g.f.2] 42 (0,0)),cW 9 1 eE g.n.1 g.n.2 (((dG m).take g.i).map cP),cW 48 4 bW.cells g.f.1 g.f.2 (FQ m g.i),aE P (.cells #[st [],.slice none 0 0] 42 (0,0)),aE N (.cells (fi m r).toArray 27 (0,0))] [o,H]) (λg=>g.i<=(dG m).length) (λg=>(dG m).length-g.i) ⟨0,(none,0),(none,0)⟩ (cx _) (λ_ h=>by exact (((((h.f 4 O).f 4 O).f 3 O).f 4 O).f 4 O:)) ?_;intro g hi;refine Cs (ac (ab O (ab O (I (Yn bn O) (I (cy O O) (ad ?_))))));refine Cc O (λt=>?_) (λt=>?_)
 ·have C:g.i<(dG m).length:=by simpa using t
  obtain ⟨x,u⟩:=dw C;obtain ⟨R,S,D,j⟩:=p.aq g.i x u;have j:cw o R (S+g.i*4) x.cells:=j;obtain ⟨k,E⟩:=dw (by rw [wu,<-uH]; exact C);obtain ⟨T,U,W,v⟩:=s.aq g.i k E;have v:cw o T (U+g.i*1) (nC k):=v
  have F:((dG m).take (g.i+1)).map cP=((dG m).take g.i).map cP++[x.name]:=by rw [kV,u]; simp [cP]
  have hL:(((dG m).take g.i).map cP).length=g.i:=by simp; omega
  have G:=MV u E;have aD:=MW m g.i;refine am (Cs (Cb (ac (ab O (ab O (ab O (I (Yo bn O O D Z) (I (Yf oT O) (I (cC 0 aa O O (j 3 _ O)) ?_)))))))));refine Lb Y O ei O O O O λaF=>?_;refine dn 0 (.cells (eE x.name).toArray 9 (0,0)) O (O) ?_;refine LA ((x.name:List UInt8)) 2 0 Y O ei O O O O O O Z Z λJ K=>?_;refine ai O (ad (ac (ab O (ab O (I (Yo l5 O O W Z) (I (cC 0 aa O O (v 0 _ O)) (ad ?_)))))));refine Cc O (λy=>?_) (λy=>?_)
  ·have X:k=true:=by simpa using y
   have ae:FQ m (g.i+1)=FQ m g.i++[x]:=by rw [G,a8 X]
   refine CU (λ_=>true) [3] [8,9] (.q false 0 (.q true 1 (.q false 2 (.q false 3 (.q false 4 (.q true 5 (.e 6 (.e 7 .nil .stop) .stop))))))) mixed aa (λ_ _ _ d _ _ h=>by cases d<;>exact h) ?_;refine U0 O (Wp 3) (Yf jK O) (U0 O (Wp 3) (Yd 1 O O O aa) (U0 O (Wp 3) (Ym O) (U0 O (Wp 3) (Ym O) (U0 O (Wp 3) (Yo bn O O D Z) (U0 O (Wp 3) (eq 0 hR O O O (j)) ?_)))));refine Ue O (Wp 3) ?_ WU.stop;refine Lb Y O kr O O O O λaG=>?_;refine dn 0 (.cells (bW.cells x).toArray 48 (0,0)) O (O) (Ln (Eu ?_));refine Ue O (λ_ h=>(Wo 3 (Wd 1 h):)) ?_ WU.stop;refine LA (x) 4 0 Y O kr O O O O O O Z Z λaf ag=>?_;refine Ln (Eu ?_);refine WU.nil (λ_ h=>(Wo 3 (Wd 1 h):)) ?_;refine WS.e O ?_;refine I (Yf jK O) (Ln (Es ?_));refine WS.e O ?_;refine aT 2 Y O O O MX O O O (Ln (Es ?_));refine WS.nil ?_;refine Eb (Et (Cr (ab O (I (Yi O O O Z) (ai O (Ln ?_))))));rw [<-F];rw [<-ae];exact ct (⟨g.i+1,(J,K),(af,ag)⟩:GF) (by first | omega | (dsimp only; omega)) (by first | omega | (dsimp only; omega)) (λ_ h=>Wd 2 h)
  have ah:¬k=true:=by simpa using y
  have aj:FQ m (g.i+1)=FQ m g.i:=by rw [G,av ah,qB]
  refine Ck (Eb (Et (Cr (ab O (I (Yi O O O Z) (ai O (Ln ?_)))))));rw [<-F];rw [<-aj];exact ct (⟨g.i+1,(J,K),g.f⟩:GF) (by first | omega | (dsimp only; omega)) (by first | omega | (dsimp only; omega)) (λ_ h=>Wd 1 h)
 have ak:g.i=(dG m).length:=by simp at t; omega
 have al:=MU m;refine Ce (Ex (Ex (cU (Et (Cs (Cs ?_))))));rw [ak,gv];refine WC.r0 (rd:=rdStr) 1 O iM eZ λan ao=>?_;refine Cr (I (Yf j4 O) (I (Yd 3 O O O aa) (Lp Y O aK O (λw a=>oq H r.a1 r.c1 m.aP w a.V b.aP) (ab O ?_))));apply Lo 2 O O O O Y O O O O O
 ·intro aH;refine Vg (Ym O) ?_
  refine Lp (.g O O O) O aK O (λw a=>by
      have:=oq an g.n.1 g.n.2 ((dG m).map cP) w a.V ao
      exact this) ?_
  exact Gt 2 O O O
 refine ad ?_;refine Cc O (λz=>?_) (λz=>?_)
 ·have A:(e1 ((dG m).map (·.name))||e1 m.aP)=true:=by rw [Bool.or_comm]; exact z
  refine ac (I (Yb kU vA O O) (aT 2 Y O O O bU O O O (ai O (ad (aZ (Er ?_))))));refine WE.mV 2 O O O O ll O λw' a=>?_;rw [F6 c A];exact ⟨(none,0),O,a.fr,Sl.nil⟩
 have A:(e1 ((dG m).map (·.name))||e1 m.aP)=false:=by rw [Bool.or_comm]; exact z
 refine am (ac (I (cI 0 O O ll O) (aT 2 Y O O O bU O O O (ai O (ad (aZ ?_))))));refine WE.mV 2 O O O O ll O λw' a=>?_;rw [MT c A];rw [al] at a ⊢;exact ⟨g.f,O,a.fr,a.ls 1 O bW.dk eZ⟩
def Wk (b c:View) (a1 a2:Option Addr) (c1 c2:Nat) (n1:List UInt8) (a:List bW) (w:World) (o:Le b w) (p:Le c w) (f:Sl hK 4 b a1 c1 a) (g:Sl hK 4 c a2 c2 a) :
   Calls prog 50 #[.agg #[st n1,.slice a1 a.length c1],.agg #[st n1,.slice a2 a.length c2]] w λe w'=>e = .returned (.bool true)/\Ext w w':=by
 have A:=f.cap;have B:=f.max;have C:=g.cap;have D:=g.max;refine enter func50 O 38 O O ?_;refine CE (Vs:=[b,c]) (Ws.init (by simp [o,p])) (ac ?_);refine WL.box Y O O λE=>?_;refine WL.box Y O O λF=>?_;refine ai O (ad (Cs (ac (I (Yf rz O) (I (Yd 1 O O O aa) (I (Yf rz O) (I (Yd 0 O O O aa) (I (yu O O O) (ab O ?_)))))))));apply Lo 7 (x:=false) O O O O Y O O O O O
 ·intro G;refine Vg (Yf jK O) (Vg (Yd 1 O O O aa) (Vg (Yn bn O) (Vg (Yf jK O) (Vg (Yd 0 O O O aa) (Vg (Yn bn O) (Vg (jQ O O O) ?_))))));exact Gt 7 O O O
 refine ad ?_;refine WC.mf O ?_;refine am (Cs (ac (ai O (ad (Cb ?_)))));refine fT (ι:=Nat) (λi=>[(5,.int .i64 (i:Int))]) [(2,_),(3,_)] (λi=>i<=a.length) (λi=>a.length-i) 0 (cx _) ?_;intro i hi;refine Cs (ac (ab O (I (Yf jK O) (I (Yd 1 O O O aa) (I (Yn bn O) (I (cy O O) (ad ?_)))))));refine Cc O (λl=>?_) (λl=>?_)
 ·have q:i<a.length:=by simpa using l
  obtain ⟨x,m⟩:=dw q;obtain ⟨r,s,t,j⟩:=f.aq i x m;obtain ⟨u,v,y,k⟩:=g.aq i x m;have j:cw b r (s+i*4) x.cells:=j;have k:cw c u (v+i*4) x.cells:=k;refine am (Cs (Cb (Cs ?_)));refine WC.hU [(0,true),(1,true),(2,true),(3,true),(4,true),(5,true),(6,true),(7,true),(8,true),(9,true),(10,true)] mixed aa (λ_ _ _ d _ h=>by cases d<;>exact h) ?_;refine D0 O ag (Yf jK O) (D0 O ag (Yd 1 O O O aa) (D0 O ag (Ym O) (D0 O ag (Yo bn O O t Z) (D0 O ag (eq 0 hR O O O (j)) (D0 O ag (Yf jK O) (D0 O ag (Yd 0 O O O aa) (D0 O ag (Ym O) ?_)))))));refine D0 O ag (Yo bn O O y Z) (D0 O ag (eq 1 hR O O O (k)) (D0 O ag (Hp PW O O O) ?_));refine WD.nil ag ?_;refine Et ?_;refine Cc O (λn=>?_) (λn=>?_)
  ·exact (show False by simp at n).elim
  refine Ck (Eb (Et (Cr (ab O (I (Yi O O O Z) (ai O (Ln ?_)))))));exact ct (i+1) Z Z ag
 refine Ce (Ex (Ex (cU (Et (ac (ai O (ad (aZ ?_))))))));refine R1 O O λw' z=>?_;exact ⟨O,z.fr⟩
def F8 (w:World) :
   Calls prog 49 #[] w λe w'=>∃r:SP,e = .returned (.agg #[st ck,.slice r.1 pI.length r.2])/\Ext w w'/\Sl hK 4 (nv w w') r.1 r.2 pI:=by
 refine enter func49 O 7 O O ?_;refine CE (Vs:=[]) (Ws.init au) (ac ?_);refine Al Y O kU λf=>?_;refine ad (ac (I (Yb ha oU O O) (I (Yb ha oU O O) (I (Yb ha oU O O) (I (Yb ha oU O O) ?_)))));refine Lb Y O kr O O O O λa=>?_;refine I (Yb kU vA O O) (aT 1 Y O O O bU O O O (ad (aZ ?_)));refine WE.fm (hW O (ej 1 O O ll O)) λw' b=>?_
 exact ⟨(some ⟨a,0,none⟩,4),O,b.fr,⟨show pI.length<=4 by decide,show 4<=9223372036854775807 by decide,au,λj x d=>⟨a,0,O,λk v c=>b.yc 0 O (by
     have:k<4:=(cS.1 c).1
     show (pI.flatMap bW.cells)[0+j*4+k]? = some v
     rw [gC,kZ bW.dk d this]; exact c)⟩⟩⟩
def B6 (H:View) (a:Option Addr) (c:Nat) (l:List bW) (w:World) (o:Le H w) (d:Sl hK 4 H a c l) (p:(l.map (·.name)).Nodup) :
   Calls prog 57 #[.slice a l.length c] w λe w'=>∃b:Nat,e = .returned (.map (some b))/\Ext w w'/\(nv w w') b=some (dy st (i2 l 0) l.length):=by
 have v:=d.cap;have y:=d.max;refine enter func57 O 19 O O ?_;refine CE (Vs:=[H]) (Ws.init (by simp [o])) (ac (ai O (ad (ac ?_))));refine WL.rY st Y O λk=>?_;refine dn 0 (dy st (i2 (l.take 0) 0) (l.take 0).length) O O (ai O (ad (Cs (ac (ab O (I (Yn bn O) (ab O (ad (Cb ?_)))))))));refine e0 (ι:=Nat) (λi=>[(9,.int .i64 (i:Int))]) [(2,_),(3,_),(7,_),(8,_)] (λi=>Ws w [] [aE k (dy st (i2 (l.take i) 0) (l.take i).length)] [H]) (λi=>i<=l.length) (λi=>l.length-i) 0 (cx _) ag ?_;intro i hi;refine ac (I (cy O O) (ad (Cs ?_)));refine Cc O (λf=>?_) (λf=>?_)
 ·have q:i<l.length:=by simpa using f
  obtain ⟨x,g⟩:=dw q;obtain ⟨r,s,t,j⟩:=d.aq i x g;have j:cw H r (s+i*4) x.cells:=j;have m:=Ql (Wh p g);refine am (Cs (Cb (ac (I (Yo bn O O t Z) (I (eq 0 hR O O O (j)) ?_)))));refine Al Y O ha λz=>?_;refine aT 0 Y O O O iu O O O (ad (Cr (ab O (I (Yf oT O) (I (Yd 0 O O O aa) (I (cI 0 O O hR O) ?_))))));refine WL.wg 1 p2 Y F7 aa O O O O ?_;refine Ln (Eb (Et (Cr (I (Yi O O O Z) (ab O (Ln ?_))))));refine WE.fg 1 (dy st (i2 (l.take (i+1)) 0) (l.take (i+1)).length) O (by rw [j2 g,<-m.1,<-m.2]; rfl) ?_;exact ct (i+1) Z Z (λ_ h=>Wd 1 h)
 have u:i=l.length:=by simp at f; omega
 rw [u,gv];refine Ce (Ex (Ex (cU (Et (ac (ab O (ai O (ad (aZ ?_)))))))));refine R1 O O λw' n=>?_;exact ⟨k,O,n.fr,n.Qh 0 O⟩
def g1 (e:Int):List PanicEntry:=[⟨.iface 116 (.agg #[.int .i64 e]),false,false⟩]
def zw (H:View) (b o:Nat) (l:List bW):Prop:=∃a:Nat,vc H b o=some (.map (some a))/\H a=some (dy st (i2 l 0) l.length)
structure pJ (H:View) (sb:Nat) (σ:gy):Prop where
 at_:∃(ob ub:Nat) (fa:Option Addr) (fc lb:Nat),(vc H sb 0=some (.map (some ob))/\vc H sb 1=some (.map (some ub))/\vc H sb 2=some (.slice fa σ.p8.length fc)/\vc H sb 3=some (.map (some lb)))/\H ob=some (dy st (i2 σ.own 0) σ.own.length)/\H ub=some (dy st (gJ σ.aP 0) σ.aP.length)/\Sl zw 1 H fa fc σ.p8/\H lb=some (dy st (gJ σ.aH 0) σ.aH.length)
 nd:σ.aP.Nodup
 len:σ.aP.length=σ.p8.length
 fy:σ.aP.length<=3/\σ.aH.length<=7
def F9:bW:=⟨0,0,0,[]⟩
def lP (nm:List UInt8) (l:List (List UInt8)):Int:=match idxOf nm l 0 with | some k=>((k+1:Nat):Int) | none=>0
def B8 (nm:List UInt8) (l:List (List UInt8)):hY nm (gJ l 0) (.int .i64 0) = .int .i64 (lP nm l):=Qk nm l
def F' {nm:List UInt8} {l:List (List UInt8)} (h:0<lP nm l):∃k:Nat,idxOf nm l 0=some k/\lP nm l=((k+1:Nat):Int)/\k<l.length:=by
 unfold lP at h ⊢
 cases a:idxOf nm l 0 with
 | none=>rw [a] at h; exact absurd h bf
 | some k=>exact ⟨k,rfl,rfl,by have:=(tg a).2; exact (cS.1 this).1⟩
def F_ {nm:List UInt8} {l:List (List UInt8)} (h:¬0<lP nm l):idxOf nm l 0=none:=by
 unfold lP at h
 cases a:idxOf nm l 0 with
 | none=>rfl
 | some k=>rw [a] at h; exact absurd (by simp only; omega) h
def xE (nm:List UInt8) (l:List bW):bW:=(fO nm l).getD F9
def M1 (nm:List UInt8) (l:List bW):hY nm (i2 l 0) (.agg #[.int .i64 0,.int .i64 0,.int .i64 0,st []]) = .agg (xE nm l).cells.toArray:=by
 rw [(I4 nm l _).1];unfold xE
 cases fO nm l<;>rfl
def M2 (nm:List UInt8) (l:List bW):p3 nm (i2 l 0)=(fO nm l).isSome:=(I4 nm l (.bool false)).2
def M3 (h:(fO aS aO).isSome=true):fO aS aO=some (xE aS aO):=by
 unfold xE
 cases a:fO aS aO with
 | none=>rw [a] at h; cases h
 | some x=>rfl
def M4 (h:(fO aS aO).isSome=false):fO aS aO=none:=by
 cases a:fO aS aO with
 | none=>rfl
 | some x=>rw [a] at h; cases h
def M5 {σ:gy}   (h:idxOf aS σ.aH 0=some ae):eo σ [] aS=some (-1,AX ae):=by rw [eo,a8 rfl,h]
def ve {σ:gy}  (h:idxOf aS σ.aH 0=none):eo σ [] aS=(fO aS σ.own).map λx=>(0,x):=by rw [eo,a8 rfl,h]
variable {ea:gy} {db:List UInt8}
def M6 (h:¬aS=[]) (a:ea.aP.Nodup) (b:ea.aP.length=ea.p8.length)   (c:idxOf aS ea.aP 0=some ae) (d:ea.p8[ae]? = some aO):eo ea aS db=(fO db aO).map λx=>(((ae+1:Nat):Int),x):=by
 rw [eo,av h,I6 a b,c];simp [d]
def Wl (h:¬aS=[]) (a:idxOf aS ea.aP 0=none):eo ea aS db=none:=by
 rw [eo,av h,Ef (ij.1 a)]
def Ga:∀{us:List (List UInt8)} {fs:List (List bW)} {s:Nat} {m:Int} {x:bW},iC aS db us fs s=some (m,x)->0<=m
 | [],_,_,_,_,h=>by simp [iC] at h
 | u::us,[],_,_,_,h=>by simp [iC] at h
 | u::us,f::fs,s,m,x,h=>by
   rw [iC] at h
   split at h
   · split at h
     · injection h with h; injection h with a b; omega
     · exact Ga h
   · exact Ga h
def dv (h:eo ea aS db=some (aL,ay)):aL = -1\/0<=aL:=by
 unfold eo at h
 split at h
 · split at h
   · injection h with h; injection h with a c; exact .inl a.symm
   · cases b:fO db ea.own with
     | none=>rw [b] at h; cases h
     | some y=>rw [b] at h; injection h with h; injection h with a c; right; omega
 · exact .inr (Ga h)
def ib (σ:gy) (mod nm:List UInt8) (kind args:Int):Int:=match eo σ mod nm with
 | none=>5
 | some (m,it)=>if ¬(0<=m/\it.kind=kind) then 7 else if kind=4/\¬it.n=args then 8 else 0
def zx {kind args:Int} (h:eo ea aS db=none):ib ea aS db kind args=5:=by unfold ib; rw [h]
def sz {kind args m:Int}  (h:eo ea aS db=some (m,ay)):ib ea aS db kind args=if ¬(0<=m/\ay.kind=kind) then 7 else if kind=4/\¬ay.n=args then 8 else 0:=by unfold ib; rw [h]
def Gb (d:View) (f:Nat) (σ:gy) (k:Nat):Prop:=∀(b:View) (l:List ak) (a:Option Addr) (c:Nat) (w:World),Le d w->Le b w->Sl (gn k) 5 b a c l->ff l<=109951162777->
 Calls prog 224 #[.pointer (some ⟨f,0,none⟩),.slice a l.length c] w λe w'=>(∃r:SP,e = .returned (.slice r.1 (be σ l).length r.2)/\Ext w w'/\hM σ l=0/\Sl (k8 (k+1)) 5 (nv w w') r.1 r.2 (be σ l))\/(∃_:Unit,e = .panicked (g1 (hM σ l))/\Ext w w'/\hM σ l≠0)
def PZ:hx prog 116=some [(0,1)]:=aa
def B9:zeroOf prog 116=some (.agg #[.int .i64 0]):=aa
def Wn:prog.concrete 116=true:=aa
def sA:cJ prog 127 3=some 3:=aa
def P_:cJ prog 127 0=some 0:=aa
def ur:cJ prog 127 1=some 1:=aa
def zy:cJ prog 127 2=some 2:=aa
def Qb:ga prog 125=some 1:=aa
def qv (b:Bool) (n:Int) (w:World) :
   Calls prog 58 #[.bool b,.int .i64 n] w λe w'=>(∃_:Unit,e = .returned (.tuple #[])/\Ext w w'/\b=true)\/(∃_:Unit,e = .panicked (g1 n)/\Ext w w'/\b=false):=by
 refine enter func58 O 9 O O ?_;refine CE (Vs:=[]) (Ws.init au) (ac (ab O (I (eR O) (ad ?_))));refine Cc O (λa=>?_) (λa=>?_)
 ·refine Cr (ab O (I (Yb B9 PZ O O) (I (pZ Wn O) ?_)));refine WL.panic Y O ?_;refine an λw' c=>?_;exact .inr ⟨(),O,c.fr,by simpa using a⟩
 refine Ck ?_;refine E0 O λw' c=>?_;exact .inl ⟨(),O,c.fr,by simpa using a⟩
def Gd (j:View) (r:Nat) (σ:gy) (w:World) (u:Le j w) (v:pJ j r σ) (mod nm:List UInt8) :
   Calls prog 222 #[.pointer (some ⟨r,0,none⟩),st mod,st nm] w λe w'=>(∃i:Int×bW,e = .returned (.tuple #[.int .i64 i.1,.agg i.2.cells.toArray])/\Ext w w'/\eo σ mod nm=some i)\/(∃_:Unit,e = .panicked (g1 5)/\Ext w w'/\eo σ mod nm=none):=by
 obtain ⟨⟨M,N,fa,fc,lb,⟨x,y,z,A⟩,B,C,m,D⟩,s,t,fy⟩:=v;refine enter func222 O 65 O O ?_;refine CE (Vs:=[j]) (Ws.init (by simp [u])) (ac (ai O ?_));refine Al Y O ha λP=>?_;refine ad (Cs (ac (ab O (I (mT O O) (ad ?_)))));refine Cc O (λn=>?_) (λn=>?_)
 ·obtain rfl:mod=[]:=by simpa using n
  refine Cs (ac (ab O (I (bV O) (I (Yf sA O) (I (cC 0 aa O O (A)) (ab O (I (IY 0 O p2 qu aa u1 O O (D)) ?_)))))));rw [B8];refine ai O (ad (ac (ab O (I (ed O O) (ad ?_)))));refine Cc O (λo=>?_) (λo=>?_)
  ·obtain ⟨k,b,g,E⟩:=F' (nm:=nm) (l:=σ.aH) (by simpa using o);refine ac (ab O (I (n_ (k:Int) O O (by rw [g]; omega) (by omega)) (I (Yb ha oU O O) (ai O (aT 0 Y O O O iu O O O (ad (aZ (Er (Er ?_)))))))));refine WE.fm (hX O (hV O) (ej 0 O O hR O)) λw' a=>?_;exact .inl ⟨(-1,AX k),O,a.fr,M5 b⟩
  have b:=F_ (nm:=nm) (l:=σ.aH) (by simpa using o);refine am (ac (ab O (I (bV O) (I (Yf P_ O) (I (cC 0 aa O O (x)) (ab O (I (IZ 0 O p2 F7 aa ha O O (B)) ?_)))))));rw [M1,M2];refine ab O (I (Yx O O) (I (Yx O O) ?_));refine Al Y O ha λQ=>?_;refine aT 0 Y O O O iu O O O (ai O (ad (ac (ab O ?_))));refine WL.lz (ι:=Unit) (κ:=Unit) Y O aK O (λ_=>.tuple #[]) (λ_=>(fO nm σ.own).isSome=true) (λ_=>g1 5) (λ_=>(fO nm σ.own).isSome=false) (λw a=>qv _ _ w) ?_ ?_
  ·intro _ c;refine Ep (Ep ?_);refine an λw' a=>?_;exact .inr ⟨(),O,a.fr,by rw [ve b,M4 c]; rfl⟩
  intro _ F;refine ad (Cs ?_);refine WC.gW 1 [(0,true),(1,true),(2,false)] mixed (by kernel_rfl) (λ_ _ _ d _ h=>by cases d<;>exact h) ?_;refine D0 O (Wp 1) (cI 0 O O hR O) (D0 O (Wp 1) (Ya O) ?_);refine De O (Wp 1) ?_;refine aT 1 Y O O O iu O O O (Ln (Ed ?_));refine WD.nil (Wp 1) ?_;refine Et (aZ (Er ?_));refine WE.fm (hX O (hV O) (ej 1 O O hR O)) λw' a=>?_;exact .inl ⟨(0,xE nm σ.own),O,a.fr,by rw [ve b,M3 F]; rfl⟩
 have p:¬mod=[]:=by simpa using n
 refine am (ac (ab O (I (bV O) (I (Yf ur O) (I (cC 0 aa O O (y)) (ab O (I (IY 0 O p2 qu aa u1 O O (C)) ?_)))))));rw [B8];refine ai O (ad (ac (ab O (I (ed O O) ?_))));refine WL.lz (ι:=Unit) (κ:=Unit) Y O aK O (λ_=>.tuple #[]) (λ_=>decide (0<lP mod σ.aP)=true) (λ_=>g1 5) (λ_=>decide (0<lP mod σ.aP)=false) (λw a=>qv _ _ w) ?_ ?_
 ·intro _ c;refine Ep ?_;refine an λw' a=>?_;exact .inr ⟨(),O,a.fr,Wl p (F_ (by simpa using c))⟩
 intro _ G;obtain ⟨k,b,g,E⟩:=F' (nm:=mod) (l:=σ.aP) (by simpa using G);obtain ⟨f,q⟩:∃f,σ.p8[k]? = some f:=⟨_,dM (by omega)⟩;obtain ⟨R,S,H,T,J,K⟩:=m.aq k f q;have U:=m.cap;have V:=m.max;refine ad (ac (ab O (I (bV O) (I (Yf zy O) (I (cC 0 aa O O (z)) (ab O (I (n_ (k:Int) O O (by rw [g]; omega) (by omega)) (I (Yo Qb O O H (by omega)) ?_))))))));refine I (cC 0 aa O O (J)) (ab O (I (IZ 0 O p2 F7 aa ha O O (K)) ?_));rw [M1,M2];refine ab O (I (Yx O O) (I (Yx O O) ?_));refine Al Y O ha λW=>?_;refine aT 0 Y O O O iu O O O (ai O (ad (ac (ab O ?_))));refine WL.lz (ι:=Unit) (κ:=Unit) Y O aK O (λ_=>.tuple #[]) (λ_=>(fO nm f).isSome=true) (λ_=>g1 5) (λ_=>(fO nm f).isSome=false) (λw a=>qv _ _ w) ?_ ?_
 ·intro _ c;refine Ep ?_;refine an λw' a=>?_;exact .inr ⟨(),O,a.fr,by rw [M6 p s t b q,M4 c]; rfl⟩
 intro _ L;refine ad (Cs ?_);refine WC.gW 1 [(0,true),(1,true),(2,true),(3,false)] mixed (by kernel_rfl) (λ_ _ _ d _ h=>by cases d<;>exact h) ?_;refine D0 O (Wp 1) (Ym O) (D0 O (Wp 1) (cI 0 O O hR O) (D0 O (Wp 1) (Ya O) ?_));refine De O (Wp 1) ?_;refine aT 1 Y O O O iu O O O (Ln (Ed ?_));refine WD.nil (Wp 1) ?_;refine Et (aZ ?_);refine WE.fm (hX O (hV O) (ej 1 O O hR O)) λw' a=>?_;rw [g] at *;exact .inl ⟨(((k+1:Nat):Int),xE nm f),O,a.fr,by rw [M6 p s t b q,M3 L]; rfl⟩
end Go.Proofs.YtgeahfjicmlocaaGreatDoor
end
