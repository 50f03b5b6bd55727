/- LinkSame: the code of a program does what the program means (proved in the second form, bulk at most 1048576). -/
import Derived.Test.YtgeahfjicmlocaaGreatDoorM3
set_option linter.unusedVariables false
set_option linter.unusedSimpArgs false
set_option linter.defProp false
section
namespace Go.Proofs.YtgeahfjicmlocaaGreatDoor
open Go.Bw Go.Proofs.Tryz
abbrev kI:Int->Value:=λn:Int=>Value.int .i64 n
def vS (r:Bool) (a:Int):Value:=.agg #[.bool r,.int .i64 a]
def i2 (n:Nat):List (aL Int):=[(1,vS false 0,0),(2,vS false 0,1),(3,vS true 0,2),(4,vS true 1,3),(5,vS true (-1),4),(6,vS false 1,5)]++(List.range n).map λj=>(((7+j:Nat):Int),vS false 2,6+j)
def kl:List (aL Int):=[(1,vS true 1,0),(2,vS true 2,1),(3,vS true (-1),2),(4,vS false 1,3),(5,vS false 1,4),(6,vS false 1,5),(7,vS false 1,6)]
def T1 (n:Nat) (h:n<9):cY kI (aan ((7+n:Nat):Int) (vS false 2) (i2 n)<|6+n) (j7 ((7+n:Nat):Int) (i2 n)<|6+n)=cY kI (i2<|n+1) (6+(n+1)):=by
 match n,h with
 | 0,_=>rfl
 | 1,_=>rfl
 | 2,_=>rfl
 | 3,_=>rfl
 | 4,_=>rfl
 | 5,_=>rfl
 | 6,_=>rfl
 | 7,_=>rfl
 | 8,_=>rfl
def MC (op:Int):gn op (i2 9) (vS false 0)=vS ((aR op).getD (false,0)).1 ((aR op).getD (false,0)).2/\oT op (i2 9) = !(aR op).isNone:=by
 by_cases e:op=1
 · subst e; exact ⟨rfl,rfl⟩
 by_cases f:op=2
 · subst f; exact ⟨rfl,rfl⟩
 by_cases a:op=3
 · subst a; exact ⟨rfl,rfl⟩
 by_cases b:op=4
 · subst b; exact ⟨rfl,rfl⟩
 by_cases c:op=5
 · subst c; exact ⟨rfl,rfl⟩
 by_cases d:op=6
 · subst d; exact ⟨rfl,rfl⟩
 by_cases g:op=7
 · subst g; exact ⟨rfl,rfl⟩
 by_cases h:op=8
 · subst h; exact ⟨rfl,rfl⟩
 by_cases i:op=9
 · subst i; exact ⟨rfl,rfl⟩
 by_cases j:op=10
 · subst j; exact ⟨rfl,rfl⟩
 by_cases k:op=11
 · subst k; exact ⟨rfl,rfl⟩
 by_cases l:op=12
 · subst l; exact ⟨rfl,rfl⟩
 by_cases m:op=13
 · subst m; exact ⟨rfl,rfl⟩
 by_cases n:op=14
 · subst n; exact ⟨rfl,rfl⟩
 by_cases o:op=15
 · subst o; exact ⟨rfl,rfl⟩
 have p:aR op=none:=by
   unfold aR;rw [ZX aa,ZX a,ZX b,ZX c,ZX d,ZX aa]
 have q:dC op (i2 9) 0=none:=by
   show dC op [(1,vS false 0,0),(2,vS false 0,1),(3,vS true 0,2),(4,vS true 1,3),(5,vS true (-1),4),(6,vS false 1,5),(7,vS false 2,6),(8,vS false 2,7),(9,vS false 2,8),(10,vS false 2,9),(11,vS false 2,10),(12,vS false 2,11),(13,vS false 2,12),(14,vS false 2,13),(15,vS false 2,14)] 0=none
   simp [dC,e,f,a,b,c,d,g,h,i,j,k,l,m,n,o]
 rw [gn,oT,q,p];exact ⟨O,O⟩
def MD (op:Int):gn op kl (vS false 0)=vS ((dp op).getD (false,0)).1 ((dp op).getD (false,0)).2/\oT op kl = !(dp op).isNone:=by
 by_cases a:op=1
 · subst a; exact ⟨rfl,rfl⟩
 by_cases b:op=2
 · subst b; exact ⟨rfl,rfl⟩
 by_cases c:op=3
 · subst c; exact ⟨rfl,rfl⟩
 by_cases d:op=4
 · subst d; exact ⟨rfl,rfl⟩
 by_cases e:op=5
 · subst e; exact ⟨rfl,rfl⟩
 by_cases f:op=6
 · subst f; exact ⟨rfl,rfl⟩
 by_cases g:op=7
 · subst g; exact ⟨rfl,rfl⟩
 have h:dp op=none:=by
   unfold dp;rw [ZX a,ZX b,ZX c,ZX aa]
 have i:dC op kl 0=none:=by simp [kl,dC,a,b,c,d,e,f,g]
 rw [gn,oT,i,h];exact ⟨O,O⟩
def ME:∀a b:List Tx,bO (a++b)=bO a+bO b
 | [],b=>by apply bM.ext'<;>simp [bM.u4,bM.u5,bM.u6,bO,c0]
 | x::a,b=>by
   rw [h5,show ∀q,bO (x::q)=ez (!hF x)+bO q from λ_=>rfl,ME a b,show ∀q,bO (x::q)=ez (!hF x)+bO q from λ_=>rfl,bM.iG]
def T2 (s:Tx):bO [s]=ez (!hF s):=rfl
variable {iP:List Tx} {Z:Nat} {ck:Tx}
def T3 (h:iP[Z]? = some ck):bO (iP.take<|Z+1)=bO (iP.take Z)+ez (!hF ck):=by rw [ly h,ME,T2]
def xx (c:bM):c+c0=c:=rfl
def T4 (c:bM):c.f<=c.cA:=by unfold bM.cA; omega
def T5 (c:bM):c.m<=c.cA:=by unfold bM.cA; omega
def T6 (c:bM):c.k<=c.cA:=by unfold bM.cA; omega
def fw:hf prog 22 9 (st []) 1 16:=jb ab
def fQ:aat prog 22=some 1:=ab
def oD:gX prog 343=some [(0,1),(1,1)]:=ab
def l9:zeroOf prog 343=some (.agg #[.bool false,.int .i64 0]):=ab
def m5:prog.underlying 248=some (.map 3 343):=ab
def mixed:prog.follows .mixedOrders=true:=ab
def vJ:au prog 252 0=some 0:=ab
def vK:u0 prog 250=some (10,1):=ab
def dL:aJ prog 3=some 1:=ab
def T7 (w:World) :
   Calls prog 271 #[] w λe a=>∃r:Option Addr×Nat,e = .returned (.slice r.1 tx.length r.2)/\Ext w a/\Sl rdStr 1 (nv w a) r.1 r.2 tx:=by
 refine enter func271 O 2 O O ?_;refine CE (Vs:=[]) (Ws.init ai)<|ae<|ag O<|ad<|ae ?_;refine Lb Y O fw O O O O λb=>?_;refine ag O<|ad<|am ?_;refine WE.aau (iF O<|j6 O) λa c=>?_
 exact ⟨(some ⟨b,0,none⟩,15),O,c.fr,⟨show tx.length<=15 by decide,show 15<=9223372036854775807 by decide,ai,λj x f=>⟨b,0,O,λk v d=>c.IC 0 O (by
     have:k<1:=(cq.1 d).1
     show (tx.flatMap gk)[0+j*1+k]? = some v
     rw [lK,px oY f this]; exact d)⟩⟩⟩
def T8 (b:View) (a:Option Addr) (c:Nat) (l:List Tx) (s:Tx) (w:World) (t:Le b w) (f:Sl rdStr 1 b a c l) :
   Calls prog 325 #[.slice a l.length c,st s] w λe g=>(∃n:Int,e = .returned (.int .i64 n)/\decide (0<=n)=l.contains s)/\Ext w g:=by
 have C:=f.cap;have D:=f.max;refine enter func325 O 19 O O ?_;refine CE (Vs:=[b]) (Ws.init (by simp [t]))<|ae<|ag O<|ad<|Cs<|ae<|ac O<|I (Yn fQ O)<|ac O<|ad<|Cb ?_;refine ql (ι:=Nat) (λi=>[(8,.int .i64 (i:Int))]) [(0,_),(1,_),(7,_)] (λi=>i<=l.length/\∀j,j<i->l[j]?≠some s) (λi=>l.length-i) 0 ⟨di _,ai⟩ ?_;intro i ⟨hi,r⟩;refine ae<|I (cI O O)<|ad<|Cs ?_;refine Cc O (λk=>?_)<|λk=>?_
 ·have u:i<l.length:=by simpa using k
  obtain ⟨x,m⟩:=cR u;obtain ⟨v,y,E,o⟩:=f.b5 i x m;have o:ar b v (y+i*1) (gk x):=o;refine bW<|Cs<|Cb<|ae<|ac O<|ag O<|ad<|ae<|ac O<|ac O<|ac O<|I (Yo fQ O O x_ aa) ?_;refine I (eQ 0 ab O O<|o 0 _ O)<|I (yn O O)<|ad ?_;refine Cc O (λp=>?_)<|λp=>?_
  ·have z:s=x:=by simpa using p
   refine ae<|ac O<|ag O<|ad<|am<|cN<|Er<|Er<|cN<|Er ?_;refine R1 O O λg q=>?_;refine ⟨⟨_,O,?_⟩,q.fr⟩;rw [aaa aa,AJ.2 (by rw [z]; exact az m)]
  have A:¬s=x:=by simpa using p
  refine Ck<|Eb<|Et<|Cr<|I (Yi O O O aa)<|ac O<|Ln ?_;exact c8 (i+1) aa ⟨aa,λj d=>by rcases ne.1 d with h | rfl; exact r j h; rw [m]; intro e; injection e with e; exact A e.symm⟩ ay
 have F:¬i<l.length:=by simpa using k
 have B:l.contains s=false:=by
   rw [D2];intro h;rw [AJ] at h;obtain ⟨j,d⟩:=iE h;exact r j (by have:=(cq.1 d).1; omega) d
 refine Ce<|Ex<|Ex<|dQ<|Et<|ae<|ag O<|ad<|am ?_;refine R1 O O λg q=>?_;refine ⟨⟨_,O,?_⟩,q.fr⟩;rw [B]; rfl
def T9 (b:View) (a:Option Addr) (c:Nat) (l:List Tx) (s:Tx) (w:World) (g:Le b w) (i:Sl rdStr 1 b a c l) :
   Calls prog 270 #[.slice a l.length c,st s] w λe d=>e = .returned (.bool<|l.contains s)/\Ext w d:=by
 refine enter func270 O 9 O O ?_;refine CE (Vs:=[b]) (Ws.init (by simp [g]))<|ae<|ag O<|ad<|ae<|ac O<|ac O ?_
 refine Ld Y O aF O (λn:Int=>.int .i64 n) (λ_ n=>decide (0<=n)=l.contains s) (λw f=>(T8 b a c l s w f.V i).mono λe d h=>by
     obtain ⟨⟨n,j,k⟩,m⟩:=h
     exact ⟨n,j,m,k⟩) ?_
 intro p q r o;refine I (hS O O)<|ag O<|ad<|am ?_;refine R1 O O λd f=>?_;exact ⟨by rw [o],f.fr⟩
def CL (s:Tx) (w:World) :
   Calls prog 230 #[st s] w λe b=>e = .returned (.bool<|hF s)/\Ext w b:=by
 refine enter func230 O 11 O O ?_;refine CE (Vs:=[]) (Ws.init ai)<|ae<|ag O<|ad<|ae<|ac O<|Lp Y O aF O (λw a=>qP _ w)<|ac O ?_;apply La 4 O O O O Y O O O O O
 ·intro k;refine Ld (.g O O O) O aF O (λr:Option Addr×Nat=>.slice r.1 tx.length r.2) (λd r=>Sl rdStr 1 d r.1 r.2 tx) (λw a=>T7 w) ?_;intro f c l i;refine Vg (Ym O)<|Lp (.g O O O) O aF O (λw a=>T9 f c.1 c.2 tx s w a.V i)<|Vg (gW O) ?_;refine WL.wk ?_<|Gt 4 O O O;exact λ_ h=>Ws.aB (h)<|λ_ j=>qh [_] j
 refine ag O<|ad<|am ?_;refine R1 O O λb a=>?_;exact ⟨O,a.fr⟩
def T' (w:World) :
   Calls prog 134 #[] w λe d=>∃b:Nat,e = .returned (.map<|some b)/\Ws w [] [aq b (cY kI (i2 9) 15)] [] d:=by
 refine enter func134 O 19 O O ?_;refine CE (Vs:=[]) (Ws.init ai)<|ae<|ag O<|ad<|ae ?_;refine WL.pD (λn:Int=>Value.int .i64 n) Y O λa=>?_;refine I (Yb l9 oD O O) ?_;refine WL.cz 0 mR Y m5 lw O O O O ?_;refine I (Yb l9 oD O O) ?_;refine WL.cz 0 mR Y m5 lw O O O O ?_;refine I (Yb l9 oD O O) ?_;refine WL.cz 0 mR Y m5 lw O O O O ?_;refine I (Yb l9 oD O O) ?_;refine WL.cz 0 mR Y m5 lw O O O O ?_;refine I (Yb l9 oD O O) ?_;refine WL.cz 0 mR Y m5 lw O O O O ?_;refine I (Yb l9 oD O O) ?_;refine WL.cz 0 mR Y m5 lw O O O O ?_;refine ac O<|dk 0 (cY kI (i2 0)<|6+0) O O<|ag O<|ad<|Cs<|ae<|ag O<|ad<|Cb ?_;refine ey (ι:=Nat) (λi=>[(2,.int .i64 ((7+i:Nat):Int))]) [(0,_),(1,_)] (λi=>Ws w [] [aq a (cY kI (i2 i)<|6+i)] []) (λi=>i<=9) (λi=>9-i) 0 (di _) ay ?_;intro i hi;refine Cs<|ae<|ac O<|I (jF O O)<|ad ?_;refine Cc O (λc=>?_)<|λc=>?_
 ·have f:i<9:=by simp at c; omega
  refine bW<|Cs<|Cb<|Cr<|ac O<|ac O<|I (Yb l9 oD O O) ?_;refine WL.rh 0 mR Y m5 lw O O O O ?_;refine Ln<|Eb<|Et<|Cr<|ac O<|I (Ba (((7+i:Nat):Int)+1) O O O aa)<|ag O<|Ln ?_;rw [show (((7+i:Nat):Int)+1)=((7+(i+1):Nat):Int) by omega]
  exact c8 (i+1) aa aa (λ_ h=>by
    have h:=Ws.nn h 0 rfl (congrArg (aq a)<|T1 i f)
    exact h)
 have g:i=9:=by simp at c; omega
 subst g;refine Ce<|Ex<|Ex<|dQ<|Et<|ae<|ac O<|ag O<|ad<|am ?_;refine WE.aau (iF O<|j6 O) λd j=>?_;exact ⟨a,O,j⟩
def T_ (w:World) :
   Calls prog 135 #[] w λe a=>∃b:Nat,e = .returned (.map<|some b)/\Ws w [] [aq b (cY kI kl 7)] [] a:=by
 refine enter func135 O 10 O O ?_;refine CE (Vs:=[]) (Ws.init ai)<|ae<|ag O<|ad<|ae ?_;refine WL.pD (λn:Int=>Value.int .i64 n) Y O λc=>?_;refine I (Yb l9 oD O O) ?_;refine WL.cz 0 mR Y m5 lw O O O O ?_;refine I (Yb l9 oD O O) ?_;refine WL.cz 0 mR Y m5 lw O O O O ?_;refine I (Yb l9 oD O O) ?_;refine WL.cz 0 mR Y m5 lw O O O O ?_;refine I (Yb l9 oD O O) ?_;refine WL.cz 0 mR Y m5 lw O O O O ?_;refine I (Yb l9 oD O O) ?_;refine WL.cz 0 mR Y m5 lw O O O O ?_;refine I (Yb l9 oD O O) ?_;refine WL.cz 0 mR Y m5 lw O O O O ?_;refine I (Yb l9 oD O O) ?_;refine WL.cz 0 mR Y m5 lw O O O O ?_;refine ac O<|ag O<|ad<|am ?_;refine WE.aau (iF O<|j6 O) λa d=>?_;exact ⟨c,O,d⟩
def uc (a n o:Nat) (c:bM) (b:Bool) (w:World) (p:c.cA<=4611686018427387904) (g:Ws w [a] [aq a (.cells #[.int .i64 0,.int .i64 ((c).f:Int),.int .i64 ((c).m:Int),.int .i64 0,.int .i64 ((c).k:Int),.int .i64 0,.int .i64 0,.int .i64 0,.int .i64 0,.int .i64 0,.map (some n),.map (some o)] 252 (0,0))] [] w) :
   Calls prog 137 #[.pointer (some ⟨a,0,none⟩),.bool b,.int .i64 1] w λe j=>e = .returned (.tuple #[])/\Ws w [a] [aq a (.cells #[.int .i64 0,.int .i64 ((c+ez b).f:Int),.int .i64 ((c+ez b).m:Int),.int .i64 0,.int .i64 ((c+ez b).k:Int),.int .i64 0,.int .i64 0,.int .i64 0,.int .i64 0,.int .i64 0,.map (some n),.map (some o)] 252 (0,0))] [] j:=by
 have q:=T4 c;refine enter func137 O 17 O O ?_;refine CE g<|ae<|ac O<|ad ?_;refine Cc O (λl=>?_)<|λl=>?_
 ·subst l;refine WC.n0 0 [(0,true),(1,true),(2,true),(3,true),(4,true),(7,true),(8,true),(5,false),(6,true),(9,true),(10,false)] mixed ab (λ_ _ _ d _ h=>by cases d<;>exact h) ?_;refine D0 O (Wp 0) (Ym O)<|D0 O (Wp 0) (Ym O)<|D0 O (Wp 0) (bw O)<|D0 O (Wp 0) (Yf vJ O)<|D0 O (Wp 0) (u1 (i:=1) vK O O a8)<|D0 O (Wp 0) (bw O)<|D0 O (Wp 0) (Yf vJ O) ?_;refine De O (Wp 0) ?_;refine I (Yd 0 O O O ab)<|Ln<|Ed<|D0 O (Wp 0) (Yi O O O aa)<|D0 O (Wp 0) (u1 (i:=1) vK O O a8) ?_;refine De O (Wp 0) ?_;refine aT 0 Y O O O dL O O O<|Ln<|Ed ?_;refine WD.nil (Wp 0) ?_;refine E0 O λj g=>?_;exact ⟨O,g⟩
 subst l;refine Ck ?_;refine E0 O λj g=>?_;exact ⟨O,g⟩
def xy (a n o:Nat) (c:bM) (b:Bool) (w:World) (p:c.cA<=4611686018427387904) (g:Ws w [a] [aq a (.cells #[.int .i64 0,.int .i64 ((c).f:Int),.int .i64 ((c).m:Int),.int .i64 0,.int .i64 ((c).k:Int),.int .i64 0,.int .i64 0,.int .i64 0,.int .i64 0,.int .i64 0,.map (some n),.map (some o)] 252 (0,0))] [] w) :
   Calls prog 137 #[.pointer (some ⟨a,0,none⟩),.bool b,.int .i64 2] w λe j=>e = .returned (.tuple #[])/\Ws w [a] [aq a (.cells #[.int .i64 0,.int .i64 ((c+c7 b).f:Int),.int .i64 ((c+c7 b).m:Int),.int .i64 0,.int .i64 ((c+c7 b).k:Int),.int .i64 0,.int .i64 0,.int .i64 0,.int .i64 0,.int .i64 0,.map (some n),.map (some o)] 252 (0,0))] [] j:=by
 have q:=T5 c;refine enter func137 O 17 O O ?_;refine CE g<|ae<|ac O<|ad ?_;refine Cc O (λl=>?_)<|λl=>?_
 ·subst l;refine WC.n0 0 [(0,true),(1,true),(2,true),(3,true),(4,true),(7,true),(8,true),(5,false),(6,true),(9,true),(10,false)] mixed ab (λ_ _ _ d _ h=>by cases d<;>exact h) ?_;refine D0 O (Wp 0) (Ym O)<|D0 O (Wp 0) (Ym O)<|D0 O (Wp 0) (bw O)<|D0 O (Wp 0) (Yf vJ O)<|D0 O (Wp 0) (u1 (i:=2) vK O O a8)<|D0 O (Wp 0) (bw O)<|D0 O (Wp 0) (Yf vJ O) ?_;refine De O (Wp 0) ?_;refine I (Yd 0 O O O ab)<|Ln<|Ed<|D0 O (Wp 0) (Yi O O O aa)<|D0 O (Wp 0) (u1 (i:=2) vK O O a8) ?_;refine De O (Wp 0) ?_;refine aT 0 Y O O O dL O O O<|Ln<|Ed ?_;refine WD.nil (Wp 0) ?_;refine E0 O λj g=>?_;exact ⟨O,g⟩
 subst l;refine Ck ?_;refine E0 O λj g=>?_;exact ⟨O,g⟩
def sv (a n o:Nat) (c:bM) (b:Bool) (w:World) (p:c.cA<=4611686018427387904) (g:Ws w [a] [aq a (.cells #[.int .i64 0,.int .i64 ((c).f:Int),.int .i64 ((c).m:Int),.int .i64 0,.int .i64 ((c).k:Int),.int .i64 0,.int .i64 0,.int .i64 0,.int .i64 0,.int .i64 0,.map (some n),.map (some o)] 252 (0,0))] [] w) :
   Calls prog 137 #[.pointer (some ⟨a,0,none⟩),.bool b,.int .i64 4] w λe j=>e = .returned (.tuple #[])/\Ws w [a] [aq a (.cells #[.int .i64 0,.int .i64 ((c+eE b).f:Int),.int .i64 ((c+eE b).m:Int),.int .i64 0,.int .i64 ((c+eE b).k:Int),.int .i64 0,.int .i64 0,.int .i64 0,.int .i64 0,.int .i64 0,.map (some n),.map (some o)] 252 (0,0))] [] j:=by
 have q:=T6 c;refine enter func137 O 17 O O ?_;refine CE g<|ae<|ac O<|ad ?_;refine Cc O (λl=>?_)<|λl=>?_
 ·subst l;refine WC.n0 0 [(0,true),(1,true),(2,true),(3,true),(4,true),(7,true),(8,true),(5,false),(6,true),(9,true),(10,false)] mixed ab (λ_ _ _ d _ h=>by cases d<;>exact h) ?_;refine D0 O (Wp 0) (Ym O)<|D0 O (Wp 0) (Ym O)<|D0 O (Wp 0) (bw O)<|D0 O (Wp 0) (Yf vJ O)<|D0 O (Wp 0) (u1 (i:=4) vK O O a8)<|D0 O (Wp 0) (bw O)<|D0 O (Wp 0) (Yf vJ O) ?_;refine De O (Wp 0) ?_;refine I (Yd 0 O O O ab)<|Ln<|Ed<|D0 O (Wp 0) (Yi O O O aa)<|D0 O (Wp 0) (u1 (i:=4) vK O O a8) ?_;refine De O (Wp 0) ?_;refine aT 0 Y O O O dL O O O<|Ln<|Ed ?_;refine WD.nil (Wp 0) ?_;refine E0 O λj g=>?_;exact ⟨O,g⟩
 subst l;refine Ck ?_;refine E0 O λj g=>?_;exact ⟨O,g⟩
def sw:∀l:List Tx,(bO l).cA<=l.length
 | []=>cQ _
 | s::r=>by
   have:=sw r; have:=mT (!hF s);rw [show bO (s::r)=ez (!hF s)+bO r from rfl,bM.e1,gf];omega
def GG (n:Nat):decide ((3:Int)<(n:Int))=decide (3<n):=by rw [kr]; simp; omega
def MF (x:bT) (d:Nat):iX x d=if 6<d then ⟨0,1,0⟩ else eE (aR x.op).isNone+eR ((aR x.op).getD (false,0)) x.mod x.nm x.args.length+ez (jI x.op x.n)+dZ x.args (d+1):=by
 cases x; rw [iX]; rfl
def MG (d:Nat):∀a b:List bT,dZ (a++b) d=dZ a d+dZ b d
 | [],b=>by apply bM.ext'<;>simp [bM.u4,bM.u5,bM.u6,dZ,c0]
 | x::a,b=>by
   rw [h5,show ∀q,dZ (x::q) d=iX x d+dZ q d from λq=>by rw [dZ],MG d a b,show ∀q,dZ (x::q) d=iX x d+dZ q d from λq=>by rw [dZ],bM.iG]
variable {e_:List bT} {iQ:bT}
def MH (d:Nat) (h:e_[Z]? = some iQ):dZ (e_.take<|Z+1) d=dZ (e_.take Z) d+iX iQ d:=by
 rw [ly h,MG,show dZ [iQ] d=iX iQ d+c0 by rw [dZ,dZ],xx]
def MI:∀(l:List bT) (i:Nat),Z_ (l.take i)<=Z_ l
 | [],i=>by simp
 | x::r,0=>by simp [Z_]
 | x::r,i+1=>by have:=MI r i; simp only [nb,Z_]; omega
def MJ (h:e_[Z]? = some iQ):Z_ (e_.take Z)+wE iQ<=Z_ e_:=by
 have c:=MI e_ (Z+1);rw [ly h] at c
 have:∀a b:List bT,Z_ (a++b)=Z_ a+Z_ b:=by
   intro a b
   induction a with
   | nil=>simp [Z_]
   | cons y a d=>simp only [h5,Z_,d]; omega
 rw [this] at c;simp only [Z_] at c;omega
def CM (x:b9) (d:Nat):n6 x d=eE (dp x.op).isNone+eR ((dp x.op).getD (false,0)) x.mod x.nm x.args.length+dZ x.args 1+ez (iH x.op x.body.length x.other.length)
     + (if (inner x.op||decide (0<x.body.length))=true then e' x.body (d+1) else c0)+(if 0<x.other.length then e' x.other (d+1) else c0):=by
 cases x; rw [n6]; rfl
def MK (d:Nat):∀a b:List b9,dI (a++b) d=dI a d+dI b d
 | [],b=>by apply bM.ext'<;>simp [bM.u4,bM.u5,bM.u6,dI,c0]
 | x::a,b=>by
   rw [h5,show ∀q,dI (x::q) d=n6 x d+dI q d from λq=>by rw [dI],MK d a b,show ∀q,dI (x::q) d=n6 x d+dI q d from λq=>by rw [dI],bM.iG]
variable {k4:List b9} {jU:b9}
def CN (d:Nat) (h:k4[Z]? = some jU):dI (k4.take<|Z+1) d=dI (k4.take Z) d+n6 jU d:=by
 rw [ly h,MK,show dI [jU] d=n6 jU d+c0 by rw [dI,dI],xx]
def ML:∀(l:List b9) (i:Nat),e2 (l.take i)<=e2 l
 | [],i=>by simp
 | x::r,0=>by simp [e2]
 | x::r,i+1=>by have:=ML r i; simp only [nb,e2]; omega
def Ua (h:k4[Z]? = some jU):e2 (k4.take Z)+wS jU<=e2 k4:=by
 have c:=ML k4 (Z+1);rw [ly h] at c
 have:∀a b:List b9,e2 (a++b)=e2 a+e2 b:=by
   intro a b
   induction a with
   | nil=>simp [e2]
   | cons y a d=>simp only [h5,e2,d]; omega
 rw [this] at c;simp only [e2] at c;omega
def zD:au prog 109 1=some 1:=ab
def xz:au prog 109 0=some 0:=ab
def sN:au prog 109 3=some 3:=ab
def MM:au prog 343 0=some 0:=ab
def MN:au prog 343 1=some 1:=ab
def xA (b h j:Nat) (g:View) (a:Option Addr) (n:Nat) (l:List Tx) (c:bM) (w:World) (o:Sl rdStr 1 g a n l) (B:c.cA+l.length<=4611686018427387904) (d:Ws w [b] [aq b (.cells #[.int .i64 0,.int .i64 ((c).f:Int),.int .i64 ((c).m:Int),.int .i64 0,.int .i64 ((c).k:Int),.int .i64 0,.int .i64 0,.int .i64 0,.int .i64 0,.int .i64 0,.map (some h),.map (some j)] 252 (0,0))] [g] w) :
   Calls prog 136 #[.pointer (some ⟨b,0,none⟩),.slice a l.length n] w λe r=>e = .returned (.tuple #[])/\Ws w [b] [aq b (.cells #[.int .i64 0,.int .i64 ((c+bO l).f:Int),.int .i64 ((c+bO l).m:Int),.int .i64 0,.int .i64 ((c+bO l).k:Int),.int .i64 0,.int .i64 0,.int .i64 0,.int .i64 0,.int .i64 0,.map (some h),.map (some j)] 252 (0,0))] [g] r:=by
 have C:=o.cap;have D:=o.max;refine enter func136 O 18 O O ?_;refine CE d<|ae<|ac O<|I (Yn fQ O)<|ac O<|ad<|Cb ?_;refine ey (ι:=Nat) (λi=>[(8,.int .i64 (i:Int))]) [(0,_),(6,_),(7,_)] (λi=>Ws w [b] [aq b (.cells #[.int .i64 0,.int .i64 ((c+bO (l.take i)).f:Int),.int .i64 ((c+bO (l.take i)).m:Int),.int .i64 0,.int .i64 ((c+bO (l.take i)).k:Int),.int .i64 0,.int .i64 0,.int .i64 0,.int .i64 0,.int .i64 0,.map (some h),.map (some j)] 252 (0,0))] [g]) (λi=>i<=l.length) (λi=>l.length-i) 0 (di _) ay ?_;intro i hi;refine ae<|I (cI O O)<|ad<|Cs ?_;refine Cc O (λp=>?_)<|λp=>?_
 ·have t:i<l.length:=by simpa using p
  obtain ⟨x,s⟩:=cR t;obtain ⟨u,v,E,q⟩:=o.b5 i x s;have q:ar g u (v+i*1) (gk x):=q
  have y:c+bO (l.take i)+ez (!hF x)=c+bO (l.take<|i+1):=by rw [T3 s,bM.iG]
  have z:(c+bO (l.take i)).cA<=4611686018427387904:=by
    rw [bM.e1];have:=sw (l.take i);simp at this;omega
  refine bW<|Cs<|Cb<|ae<|I (Yo fQ O O x_ aa)<|I (eQ 0 ab O O<|q 0 _ O)<|ag O<|ad<|Cr<|ac O<|ac O<|Lp Y O aF O (λw d=>CL _ w) ?_;refine I (gW O)<|hs [_] _ _ Y O aF O O [] ai (λw d=>uc b h j (c+bO (l.take i)) (!hF x) w (z) d)<|Ln<|Eb<|Et<|Cr<|I (Yi O O O aa)<|ac O<|Ln ?_;rw [y];exact c8 (i+1) aa aa ay
 have F:¬i<l.length:=by simpa using p
 have A:l.take i=l:=lJ aa;rw [A];refine Ce<|Ex<|Ex<|dQ ?_;refine E0 O λr d=>?_;exact ⟨O,d⟩
def Ub (g h i:Nat) (d:eb) (c:bM) (w:World) (j:c.cA+4<=4611686018427387904) (a:Ws w [g] [aq g (.cells #[.int .i64 0,.int .i64 ((c).f:Int),.int .i64 ((c).m:Int),.int .i64 0,.int .i64 ((c).k:Int),.int .i64 0,.int .i64 0,.int .i64 0,.int .i64 0,.int .i64 0,.map (some h),.map (some i)] 252 (0,0))] [] w) :
   Calls prog 138 #[.pointer (some ⟨g,0,none⟩),.agg #[.int .i64 d.kind,st d.nm,.bool d.cZ,.int .i64 d.n]] w λe o=>e = .returned (.tuple #[])/\Ws w [g] [aq g (.cells #[.int .i64 0,.int .i64 ((c+iI d).f:Int),.int .i64 ((c+iI d).m:Int),.int .i64 0,.int .i64 ((c+iI d).k:Int),.int .i64 0,.int .i64 0,.int .i64 0,.int .i64 0,.int .i64 0,.map (some h),.map (some i)] 252 (0,0))] [] o:=by
 have q:(c+bO [d.nm]).cA<=4611686018427387904:=by
   rw [bM.e1];have:=sw [d.nm];simp at this;omega
 refine enter func138 O 44 O O ?_;refine CE a<|ae ?_;refine WL.box Y O O λz=>?_;refine ad<|ae<|ac O<|I (Yf zD O)<|I (Yd 0 O O O ab) ?_;refine Lb Y O fw O O O O λA=>?_;refine ib (T:=9) (m:=1) 0 [d.nm] O O (show 1<=1 by decide) a8 λx y=>?_;refine Lf 1 O<|hs [_] _ [aq g (.cells #[.int .i64 0,.int .i64 ((c+bO [d.nm]).f:Int),.int .i64 ((c+bO [d.nm]).m:Int),.int .i64 0,.int .i64 ((c+bO [d.nm]).k:Int),.int .i64 0,.int .i64 0,.int .i64 0,.int .i64 0,.int .i64 0,.map (some h),.map (some i)] 252 (0,0))] Y O aF O O [x] ai (λw a=>xA g h i x _ _ [d.nm] (c) w y (by show c.cA+1<=_; omega) a)<|ad<|ae<|I (Yf xz O)<|I (Yd 1 O O O ab)<|ad<|Cb<|ae<|I (bz O O)<|ag O ?_;refine ad ?_;refine Cc O (λs=>?_)<|λs=>?_
 ·have p:d.kind=1:=by simpa using s
  have l:∀b,(b=(decide (d.n<0)||decide (1099511627775<d.n)))->c+bO [d.nm]+ez b=c+iI d:=λb j=>by rw [j,iI,ZZ p,bM.iG]
  refine Cr<|ac O<|I (Yf sN O)<|I (Yd 1 O O O ab)<|I (cI O O)<|ac O ?_;apply Lo 3 O O O O Y O O O O O
  ·intro B;refine Vg (Yf sN O)<|Vg (Yd 1 O O O ab)<|Vg (eh O O) ?_;exact Gt 3 O O O
  refine hs [_] _ _ Y O aF O O [] ai (λw a=>uc g h i (c+bO [d.nm]) (decide (d.n<0)||decide (1099511627775<d.n)) w (q) a)<|Ln<|Eb ?_;refine E0 O λo a=>?_;rw [l _ rfl] at a;exact ⟨O,Wv 1<|Wt 1 a⟩
 have p:¬d.kind=1:=by simpa using s
 refine ae<|I (bz O O)<|ag O<|ad ?_;refine Cc O (λt=>?_)<|λt=>?_
 ·have r:d.kind=2:=by simpa using t
  have l:∀b,(b=(!(d.n==0)))->c+bO [d.nm]+ez b=c+iI d:=λb j=>by rw [j,iI,ZX p,ZZ r,bM.iG]
  refine Cr<|ac O<|I (Yf sN O)<|I (Yd 1 O O O ab)<|I (h9 O O)<|hs [_] _ _ Y O aF O O [] ai (λw a=>uc g h i (c+bO [d.nm]) (!(d.n==0)) w (q) a)<|Ln<|Eb ?_;refine E0 O λo a=>?_;rw [l _ rfl] at a;exact ⟨O,Wv 1<|Wt 1 a⟩
 have r:¬d.kind=2:=by simpa using t
 refine ae<|I (bz O O)<|ag O<|ad ?_;refine Cc O (λu=>?_)<|λu=>?_
 ·have v:d.kind=3:=by simpa using u
  have l:∀b,(b=(decide (d.n<1)||decide (32<d.n)))->c+bO [d.nm]+ez b=c+iI d:=λb j=>by rw [j,iI,ZX p,ZX r,ZZ v,bM.iG]
  refine Cr<|ac O<|I (Yf sN O)<|I (Yd 1 O O O ab)<|I (cI O O)<|ac O ?_;apply Lo 3 O O O O Y O O O O O
  ·intro C;refine Vg (Yf sN O)<|Vg (Yd 1 O O O ab)<|Vg (eh O O) ?_;exact Gt 3 O O O
  refine hs [_] _ _ Y O aF O O [] ai (λw a=>uc g h i (c+bO [d.nm]) (decide (d.n<1)||decide (32<d.n)) w (q) a)<|Ln<|Eb ?_;refine E0 O λo a=>?_;rw [l _ rfl] at a;exact ⟨O,Wv 1<|Wt 1 a⟩
 have v:¬d.kind=3:=by simpa using u
 have l:∀b,(b=true)->c+bO [d.nm]+eE b=c+iI d:=λb j=>by rw [j,iI,ZX p,ZX r,ZX v,bM.iG]
 refine Cr<|ac O<|hs [_] _ _ Y O aF O O [] ai (λw a=>sv g h i (c+bO [d.nm]) (true) w (q) a)<|Ln<|Eb ?_;refine E0 O λo a=>?_;rw [l _ rfl] at a;exact ⟨O,Wv 1<|Wt 1 a⟩
def MO (d h i:Nat) (r:Bool) (a:Int) (mod nm:Tx) (len:Nat) (c:bM) (w:World) (q:c.cA+4<=4611686018427387904) (l:mod.length+nm.length<=9223372036854775807) (b:Ws w [d] [aq d (.cells #[.int .i64 0,.int .i64 ((c).f:Int),.int .i64 ((c).m:Int),.int .i64 0,.int .i64 ((c).k:Int),.int .i64 0,.int .i64 0,.int .i64 0,.int .i64 0,.int .i64 0,.map (some h),.map (some i)] 252 (0,0))] [] w) :
   Calls prog 231 #[.pointer (some ⟨d,0,none⟩),.agg #[.bool r,.int .i64 a],st mod,st nm,.int .i64 (len:Int)] w λe j=>e = .returned (.tuple #[])/\Ws w [d] [aq d (.cells #[.int .i64 0,.int .i64 ((c+eR (r,a) mod nm len).f:Int),.int .i64 ((c+eR (r,a) mod nm len).m:Int),.int .i64 0,.int .i64 ((c+eR (r,a) mod nm len).k:Int),.int .i64 0,.int .i64 0,.int .i64 0,.int .i64 0,.int .i64 0,.map (some h),.map (some i)] 252 (0,0))] [] j:=by
 have n:(c+ez (pF r mod nm)).cA<=4611686018427387904:=by rw [bM.e1]; have:=mT (pF r mod nm); omega
 have o:(c+ez (pF r mod nm)+ez (pG a len)).cA<=4611686018427387904:=by rw [bM.e1,bM.e1]; have:=mT (pF r mod nm); have:=mT (pG a len); omega
 have p:c+ez (pF r mod nm)+ez (pG a len)+c7 (decide<|3<len)=c+eR (r,a) mod nm len:=by rw [eR,bM.iG,bM.iG,bM.iG]
 refine enter func231 O 54 O O ?_;refine CE b<|ae ?_;refine WL.box Y O O λs=>?_;refine ad<|ae<|ac O<|I (Yf MM O)<|I (Yd 0 O O O ab)<|ac O ?_;apply La 12 O O O O Y O O O O O
 ·intro t;refine Vg (Ym O)<|Vg (oO O O)<|Vg (Ym O) ?_;apply La 3 O O O O (.g O O O) O O O O O
  ·intro u;refine Vg (Ym O)<|Lp (.g O O O) O aF O (λw b=>CL _ w)<|Vg (gW O) ?_;exact Gt 3 O O O
  refine Vg (Ym O) ?_;apply Lo 3 O O O O (.g O O O) O O O O O
  ·intro v;refine Vg (Ym O)<|Lp (.g O O O) O aF O (λw b=>CL _ w)<|Vg (gW O) ?_;exact Gt 3 O O O
  exact Gt 6 O O O
 refine ac O ?_;apply Lo 9 O O O O Y O O O O O
 ·intro x;refine Vg (Yf MM O)<|Vg (Yd 0 O O O ab)<|Vg (gW O)<|Vg (Ym O) ?_;apply La 4 O O O O (.g O O O) O O O O O
  ·intro y;refine Vg (Ym O)<|Vg (Ym O)<|Vg (Po O O l)<|Vg (oO O O) ?_;exact Gt 4 O O O
  exact Gt 5 O O O
 refine Lf 1 O<|hs [_] _ _ Y O aF O O [] ai (λw b=>uc d h i (c) (pF r mod nm) w aa b)<|ad<|ae<|ac O<|I (Yf MN O)<|I (Yd 1 O O O ab)<|I (hS O O)<|ac O ?_;apply La 4 O O O O Y O O O O O
 ·intro z;refine Vg (Ym O)<|Vg (Yf MN O)<|Vg (Yd 1 O O O ab)<|Vg (h9 O O) ?_;exact Gt 4 O O O
 refine hs [_] _ _ Y O aF O O [] ai (λw b=>uc d h i (c+ez (pF r mod nm)) (pG a len) w (n) b)<|ad<|Cr<|ac O<|ac O<|I (eh O O) ?_;rw [GG];refine hs [_] _ _ Y O aF O O [] ai (λw b=>xy d h i (c+ez (pF r mod nm)+ez (pG a len)) (decide<|3<len) w (o) b)<|Ln ?_;refine E0 O λj b=>?_;rw [p] at b;exact ⟨O,Wt 1 b⟩
def Uc:au prog 252 1=some 10:=ab
def vL:au prog 239 0=some 0:=ab
def E2:aJ prog 343=some 2:=ab
def MQ:hr prog 343=some 2:=ab
def CO:au prog 239 2=some 2:=ab
def CP:au prog 239 3=some 3:=ab
def xB:au prog 239 4=some 4:=ab
def eC:aat prog 237=some 5:=ab
def CQ:au prog 239 1=some 1:=ab
def k6:hr prog 239=some 5:=ab
def jX:zeroOf prog 239=some (.agg #[.int .i64 0,.int .i64 0,st [],st [],.slice none 0 0]):=ab
def nP:aJ prog 239=some 5:=ab
def Ud (o b j:Nat) (p:View) (k:Nat) (x:bT) (a:Option Addr) (n:Nat) (d:Nat) (c:bM) (w:World) (r:Sl (js k) 5 p a n x.args) (P:c.cA+8*wE x<=1152921504606846976) (l:Ws w [o,b,j] [aq o (.cells #[.int .i64 0,.int .i64 ((c).f:Int),.int .i64 ((c).m:Int),.int .i64 0,.int .i64 ((c).k:Int),.int .i64 0,.int .i64 0,.int .i64 0,.int .i64 0,.int .i64 0,.map (some b),.map (some j)] 252 (0,0)),aq b (cY kI (i2 9) 15),aq j (cY kI kl 7)] [p] w) :
   Calls prog 232 #[.pointer (some ⟨o,0,none⟩),.agg #[.int .i64 x.op,.int .i64 x.n,st x.mod,st x.nm,.slice a x.args.length n],.int .i64 (d:Int)] w λe s=>e = .returned (.tuple #[])/\Ws w [o,b,j] [aq o (.cells #[.int .i64 0,.int .i64 ((c+iX x d).f:Int),.int .i64 ((c+iX x d).m:Int),.int .i64 0,.int .i64 ((c+iX x d).k:Int),.int .i64 0,.int .i64 0,.int .i64 0,.int .i64 0,.int .i64 0,.map (some b),.map (some j)] 252 (0,0)),aq b (cY kI (i2 9) 15),aq j (cY kI kl 7)] [p] s:=by
 induction k using Nat.strongRecOn generalizing x a n d c w
 rename_i k B;have Q:=r.cap;have R:=r.max;have S:=Jp x;have C:gn x.op (i2 9) (.agg #[.bool false,.int .i64 0]) = .agg #[.bool ((aR x.op).getD (false,0)).1,.int .i64 ((aR x.op).getD (false,0)).2]:=(MC x.op).1;have D:=(MC x.op).2;have T:=yJ (aR x.op).isNone;have U:=By ((aR x.op).getD (false,0)) x.mod x.nm x.args.length;have V:=mT (jI x.op x.n);refine enter func232 O 76 O O ?_;refine CE l<|ae ?_;refine WL.box Y O O λW=>?_;refine ad<|Cs<|ae<|ac O<|I (eh O O)<|ad ?_;refine Cc O (λt=>?_)<|λt=>?_
 ·have u:6<d:=by simp at t; omega
  refine ae<|ac O<|Lf 1 O<|hs [_] _ _ Y O aF O O [] ai (λw l=>xy o b j (c) (true) w aa l)<|ad<|am<|Er ?_;refine WE.Ei O λs l=>?_;rw [show c+iX x d=c+c7 true by rw [MF,ZZ u]; rfl];exact ⟨O,(by have h:=l; have h:=h.aj 3 O; have h:=h.aj 3 O; have h:=h.aj 2 O; exact Wt 3 h)⟩
 have u:¬6<d:=by simp at t; omega
 have E:c+iX x d=c+eE (aR x.op).isNone+eR ((aR x.op).getD (false,0)) x.mod x.nm x.args.length+ez (jI x.op x.n)+dZ x.args (d+1):=by rw [MF,ZX u,bM.iG,bM.iG,bM.iG,bM.iG,bM.iG]
 have X:(c+eE (aR x.op).isNone).cA<=1152921504606846980:=by rw [bM.e1]; omega
 have Z:(c+eE (aR x.op).isNone+eR ((aR x.op).getD (false,0)) x.mod x.nm x.args.length).cA<=1152921504606846990:=by rw [bM.e1,bM.e1]; omega
 refine bW<|Cs ?_;refine WC.qn [(0,true),(1,true),(2,true),(3,true),(4,true),(5,true),(6,true),(7,true),(8,true),(9,true),(10,false),(11,false),(12,false)] mixed ab (λ_ _ _ d _ h=>by cases d<;>exact h) ?_;refine D0 O ay (Ym O)<|D0 O ay (bw O)<|D0 O ay (Yf Uc O)<|D0 O ay (Yd 1 O O O ab)<|D0 O ay (Yf vL O)<|D0 O ay (Yd 0 O O O ab)<|D0 O ay (EM 2 mR m5 lw l9 O O O) ?_;rw [C,D];refine D0 O ay (Ym O)<|D0 O ay (Yx O O)<|D0 O ay (Yx O O) ?_;refine De O ay ?_;refine Al Y O l9 λaf=>?_;refine Ln<|Ed ?_;refine De O (λ_ h=>(Wd 1 h:)) ?_;refine aT 0 Y O O O E2 O O O<|Ln<|Ed ?_;refine De O (λ_ h=>(Wd 1 h:)) ?_;refine ag O<|Ln<|Ed ?_;refine WD.nil (λ_ h=>(Wd 1 h:)) ?_;refine Et<|ae<|ac O<|ac O<|I (gW O) ?_;rw [Bool.not_not];refine Lf 2 O<|hs [_] _ _ Y O aF O O [] ai (λw l=>sv o b j (c) ((aR x.op).isNone) w aa l)<|ad<|ae<|ac O<|I (db 1 O O MQ O)<|I (Yf CO O)<|I (Yd 2 O O O ab)<|I (Yf CP O) ?_;refine I (Yd 2 O O O ab)<|I (Yf xB O)<|I (Yd 2 O O O ab)<|I (Yn eC O)<|hs [_] _ _ Y O aF O O [] ai (λw l=>MO o b j ((aR x.op).getD (false,0)).1 ((aR x.op).getD (false,0)).2 x.mod x.nm x.args.length (c+eE (aR x.op).isNone) w aa aa l)<|ad<|ae<|ac O<|I (Yf vL O) ?_;refine I (Yd 2 O O O ab)<|I (bz O O)<|ac O ?_;apply La 8 O O O O Y O O O O O
 ·intro ah;refine Vg (Yf CQ O)<|Vg (Yd 2 O O O ab)<|Vg (cI O O)<|Vg (Ym O) ?_;apply Lo 3 O O O O (.g O O O) O O O O O
  ·intro ak;refine Vg (Yf CQ O)<|Vg (Yd 2 O O O ab)<|Vg (eh O O) ?_;exact Gt 3 O O O
  exact Gt 5 O O O
 refine ac O ?_;apply Lo 8 O O O O Y O O O O O
 ·intro al;refine Vg (Yf vL O)<|Vg (Yd 2 O O O ab)<|Vg (h9 O O)<|Vg (Ym O) ?_;apply La 3 O O O O (.g O O O) O O O O O
  ·intro an;refine Vg (Yf CQ O)<|Vg (Yd 2 O O O ab)<|Vg (h9 O O) ?_;exact Gt 3 O O O
  exact Gt 5 O O O
 refine hs [_] _ _ Y O aF O O [] ai (λw l=>uc o b j (c+eE (aR x.op).isNone+eR ((aR x.op).getD (false,0)) x.mod x.nm x.args.length) (jI x.op x.n) w aa l)<|ad<|ae<|I (Yf xB O)<|I (Yd 2 O O O ab)<|I (Yn eC O)<|ac O<|ad<|Cb ?_;refine ey (ι:=Nat) (λi=>[(66,.int .i64 (i:Int))]) [(0,_),(2,_),(64,_),(65,_)] (λi=>Ws w [o,b,j] [aq o (.cells #[.int .i64 0,.int .i64 ((c+eE (aR x.op).isNone+eR ((aR x.op).getD (false,0)) x.mod x.nm x.args.length+ez (jI x.op x.n)+dZ (x.args.take i) (d+1)).f:Int),.int .i64 ((c+eE (aR x.op).isNone+eR ((aR x.op).getD (false,0)) x.mod x.nm x.args.length+ez (jI x.op x.n)+dZ (x.args.take i) (d+1)).m:Int),.int .i64 0,.int .i64 ((c+eE (aR x.op).isNone+eR ((aR x.op).getD (false,0)) x.mod x.nm x.args.length+ez (jI x.op x.n)+dZ (x.args.take i) (d+1)).k:Int),.int .i64 0,.int .i64 0,.int .i64 0,.int .i64 0,.int .i64 0,.map (some b),.map (some j)] 252 (0,0)),aq b (cY kI (i2 9) 15),aq j (cY kI kl 7)] [p]) (λi=>i<=x.args.length) (λi=>x.args.length-i) 0 (di _) (λ_ h=>(Wt 3 (((h.f 4 O).f 4 O).f 2 O):)) ?_;intro i hi;refine ae<|I (cI O O)<|ad<|Cs ?_;refine Cc O (λv=>?_)<|λv=>?_
 ·have F:i<x.args.length:=by simpa using v
  obtain ⟨y,z⟩:=cR F;obtain ⟨ao,ap,G,A⟩:=r.b5 i y z
  obtain ⟨q,rfl⟩:∃q,k=q+1:=by
    cases k with
    | zero=>exact A.elim
    | succ q=>exact ⟨q,rfl⟩
  obtain ⟨H,J,K,L⟩:=A;have ar:=MJ z;have au:=wU (x.args.take i) (d+1)
  have M:(c+eE (aR x.op).isNone+eR ((aR x.op).getD (false,0)) x.mod x.nm x.args.length+ez (jI x.op x.n)+dZ (x.args.take i) (d+1)).cA+8*wE y<=1152921504606846976:=by rw [bM.e1,bM.e1,bM.e1,bM.e1]; omega
  have N:c+eE (aR x.op).isNone+eR ((aR x.op).getD (false,0)) x.mod x.nm x.args.length+ez (jI x.op x.n)+dZ (x.args.take i) (d+1)+iX y (d+1)=c+eE (aR x.op).isNone+eR ((aR x.op).getD (false,0)) x.mod x.nm x.args.length+ez (jI x.op x.n)+dZ (x.args.take<|i+1) (d+1):=by rw [MH (d+1) z,<-bM.iG]
  refine bW<|Cs<|Cb<|ae<|I (Yo eC O O G aa)<|I (dz 0 k6 O O O<|K) ?_;refine Al Y O jX λav=>?_;refine aT 0 Y O O O nP O O O<|ad<|Cr<|ac O<|I (db 0 O O k6 O)<|ac O<|I (Yi O O O aa)<|Lf 3 O<|Lf 3 O ?_;refine Lf 3 O ?_
  refine hs [_,_,_] _ [aq o (.cells #[.int .i64 0,.int .i64 ((c+eE (aR x.op).isNone+eR ((aR x.op).getD (false,0)) x.mod x.nm x.args.length+ez (jI x.op x.n)+dZ (x.args.take i) (d+1)+iX y (d+1)).f:Int),.int .i64 ((c+eE (aR x.op).isNone+eR ((aR x.op).getD (false,0)) x.mod x.nm x.args.length+ez (jI x.op x.n)+dZ (x.args.take i) (d+1)+iX y (d+1)).m:Int),.int .i64 0,.int .i64 ((c+eE (aR x.op).isNone+eR ((aR x.op).getD (false,0)) x.mod x.nm x.args.length+ez (jI x.op x.n)+dZ (x.args.take i) (d+1)+iX y (d+1)).k:Int),.int .i64 0,.int .i64 0,.int .i64 0,.int .i64 0,.int .i64 0,.map (some b),.map (some j)] 252 (0,0)),aq b (cY kI (i2 9) 15),aq j (cY kI kl 7)] Y O aF O O [p] ai (λw l=>by
      have:=B q aa y H J (d+1) (c+eE (aR x.op).isNone+eR ((aR x.op).getD (false,0)) x.mod x.nm x.args.length+ez (jI x.op x.n)+dZ (x.args.take i) (d+1)) w L M l
      exact this) ?_
  refine Ln<|Eb<|Et<|Cr<|I (Yi O O O aa)<|ac O<|Ln ?_;rw [N];exact c8 (i+1) aa aa<|λ_ h=>(Wt 3 h:)
 have aw:¬i<x.args.length:=by simpa using v
 rw [lJ aa,<-E];refine Ce<|Ex<|Ex<|dQ ?_;refine E0 O λs l=>?_;exact ⟨O,l⟩
def xC (c:bM):c0+c=c:=by apply bM.ext'<;>simp [bM.u4,bM.u5,bM.u6,c0]
def zE (n:Nat):decide ((0:Int)<(n:Int))=decide (0<n):=by rw [kr]; simp
def MR (n:Nat):decide ((10:Int)<(n:Int))=decide (10<n):=by rw [kr]; simp; omega
def ND (h:¬6<Z):e' k4 Z=c7 (decide<|10<k4.length)+dI k4 Z:=by rw [e',oW,ZX h]
def qQ:aat prog 25=some 6:=ab
def bI:hr prog 241=some 6:=ab
def sO:zeroOf prog 241=some (.agg #[.int .i64 0,st [],st [],.slice none 0 0,.slice none 0 0,.slice none 0 0]):=ab
def qR:aJ prog 241=some 6:=ab
def Uf:au prog 252 2=some 11:=ab
def pj:au prog 241 0=some 0:=ab
def zF:au prog 241 1=some 1:=ab
def zG:au prog 241 2=some 2:=ab
def p1:au prog 241 3=some 3:=ab
def xD:au prog 241 4=some 4:=ab
def ud:au prog 241 5=some 5:=ab
def MS (q b o:Nat) (r:View) (ke k:Nat) (l:List b9) (a:Option Addr) (n:Nat) (d:Nat) (c:bM) (w:World) (B:Sl (h_ ke k) 6 r a n l) (aA:c.cA+2+8*e2 l<=1152921504606846976) (p:Ws w [q,b,o] [aq q (.cells #[.int .i64 0,.int .i64 ((c).f:Int),.int .i64 ((c).m:Int),.int .i64 0,.int .i64 ((c).k:Int),.int .i64 0,.int .i64 0,.int .i64 0,.int .i64 0,.int .i64 0,.map (some b),.map (some o)] 252 (0,0)),aq b (cY kI (i2 9) 15),aq o (cY kI kl 7)] [r] w) :
   Calls prog 139 #[.pointer (some ⟨q,0,none⟩),.slice a l.length n,.int .i64 (d:Int)] w λe C=>e = .returned (.tuple #[])/\Ws w [q,b,o] [aq q (.cells #[.int .i64 0,.int .i64 ((c+e' l d).f:Int),.int .i64 ((c+e' l d).m:Int),.int .i64 0,.int .i64 ((c+e' l d).k:Int),.int .i64 0,.int .i64 0,.int .i64 0,.int .i64 0,.int .i64 0,.map (some b),.map (some o)] 252 (0,0)),aq b (cY kI (i2 9) 15),aq o (cY kI kl 7)] [r] C:=by
 induction k using Nat.strongRecOn generalizing l a n d c w
 rename_i k D;have aB:=B.cap;have aC:=B.max;have aD:=wT (decide<|10<l.length);refine enter func139 O 116 O O ?_;refine CE p<|Cs<|ae<|ac O<|I (eh O O)<|ad ?_;refine Cc O (λE=>?_)<|λE=>?_
 ·have F:6<d:=by simp at E; omega
  refine ae<|ac O<|hs [_] _ _ Y O aF O O [] ai (λw p=>xy q b o (c) (true) w aa p)<|ad<|am<|Er ?_;refine WE.Ei O λC p=>?_;rw [show c+e' l d=c+c7 true by rw [e',oW,ZZ F]; rfl];exact ⟨O,p⟩
 have F:¬6<d:=by simp at E; omega
 refine bW<|ae<|ac O<|ac O<|I (Yn qQ O)<|I (eh O O) ?_;rw [MR];refine hs [_] _ _ Y O aF O O [] ai (λw p=>xy q b o (c) (decide<|10<l.length) w aa p)<|ad<|ae<|ac O<|I (Yn qQ O)<|ac O<|ad<|Cb ?_;refine ey (ι:=Nat) (λi=>[(24,.int .i64 (i:Int))]) [(0,_),(2,_),(22,_),(23,_)] (λi=>Ws w [q,b,o] [aq q (.cells #[.int .i64 0,.int .i64 ((c+c7 (decide<|10<l.length)+dI (l.take i) d).f:Int),.int .i64 ((c+c7 (decide<|10<l.length)+dI (l.take i) d).m:Int),.int .i64 0,.int .i64 ((c+c7 (decide<|10<l.length)+dI (l.take i) d).k:Int),.int .i64 0,.int .i64 0,.int .i64 0,.int .i64 0,.int .i64 0,.map (some b),.map (some o)] 252 (0,0)),aq b (cY kI (i2 9) 15),aq o (cY kI kl 7)] [r]) (λi=>i<=l.length) (λi=>l.length-i) 0 (di _) ay ?_;intro i hi;refine ae<|I (cI O O)<|ad<|Cs ?_;refine Cc O (λG=>?_)<|λG=>?_
 ·have H:i<l.length:=by simpa using G
  obtain ⟨y,v⟩:=cR H;obtain ⟨aE,aG,W,S⟩:=B.b5 i y v
  obtain ⟨s,rfl⟩:∃s,k=s+1:=by
    cases k with
    | zero=>exact S.elim
    | succ s=>exact ⟨s,rfl⟩
  obtain ⟨X,Z,T,U,J,K,af,L,M,A⟩:=S;have aH:=Ua v;have aI:=Jq y;have aJ:=yK (l.take i) d;have aK:=yJ (dp y.op).isNone;have aL:=By ((dp y.op).getD (false,0)) y.mod y.nm y.args.length;have aM:=mT (iH y.op y.body.length y.other.length);have aN:=wU y.args 1;have aO:=EV y.body (d+1);have ah:gn y.op kl (.agg #[.bool false,.int .i64 0]) = .agg #[.bool ((dp y.op).getD (false,0)).1,.int .i64 ((dp y.op).getD (false,0)).2]:=(MD y.op).1;have aj:=(MD y.op).2;have aP:=L.cap;have aQ:=L.max;have aR:=M.cap;have aS:=M.max;have aU:=A.cap;have aV:=A.max
  have aW:(c+c7 (decide<|10<l.length)+dI (l.take i) d).cA<=1152921504606846976:=by simp only [bM.e1]; omega
  have aX:(c+c7 (decide<|10<l.length)+dI (l.take i) d+eE (dp y.op).isNone).cA+4<=1152921504606846976:=by simp only [bM.e1]; omega
  have aY:(c+c7 (decide<|10<l.length)+dI (l.take i) d+eE (dp y.op).isNone+eR ((dp y.op).getD (false,0)) y.mod y.nm y.args.length+dZ y.args 1).cA<=1152921504606846976:=by simp only [bM.e1]; omega
  have ak:(c+c7 (decide<|10<l.length)+dI (l.take i) d+eE (dp y.op).isNone+eR ((dp y.op).getD (false,0)) y.mod y.nm y.args.length+dZ y.args 1+ez (iH y.op y.body.length y.other.length)).cA+2+8*e2 y.body<=1152921504606846976:=by simp only [bM.e1]; omega
  have al:(c+c7 (decide<|10<l.length)+dI (l.take i) d+eE (dp y.op).isNone+eR ((dp y.op).getD (false,0)) y.mod y.nm y.args.length+dZ y.args 1+ez (iH y.op y.body.length y.other.length)+e' y.body (d+1)).cA+2+8*e2 y.other<=1152921504606846976:=by simp only [bM.e1]; omega
  have an:(c+c7 (decide<|10<l.length)+dI (l.take i) d+eE (dp y.op).isNone+eR ((dp y.op).getD (false,0)) y.mod y.nm y.args.length+dZ y.args 1+ez (iH y.op y.body.length y.other.length)).cA+2+8*e2 y.other<=1152921504606846976:=by simp only [bM.e1]; omega
  refine bW<|Cs<|Cb<|ae<|I (Yo qQ O O W aa)<|I (dz 0 bI O O O<|af) ?_;refine Al Y O sO λao=>?_;refine aT 0 Y O O O qR O O O<|ad<|Cs ?_;refine WC.qn [(0,true),(1,true),(2,true),(3,true),(4,true),(5,true),(6,true),(7,true),(8,true),(9,true),(10,false),(11,false),(12,false)] mixed ab (λ_ _ _ d _ h=>by cases d<;>exact h) ?_;refine D0 O ay (Ym O)<|D0 O ay (bw O)<|D0 O ay (Yf Uf O)<|D0 O ay (Yd 1 O O O ab)<|D0 O ay (Yf pj O)<|D0 O ay (Yd 0 O O O ab)<|D0 O ay (EM 3 mR m5 lw l9 O O O) ?_;rw [ah,aj];refine D0 O ay (Ym O)<|D0 O ay (Yx O O)<|D0 O ay (Yx O O) ?_;refine De O ay ?_;refine Al Y O l9 λaZ=>?_;refine Ln<|Ed ?_;refine De O (λ_ h=>(Wd 1 h:)) ?_;refine aT 0 Y O O O E2 O O O<|Ln<|Ed ?_;refine De O (λ_ h=>(Wd 1 h:)) ?_;refine ag O<|Ln<|Ed ?_;refine WD.nil (λ_ h=>(Wd 1 h:)) ?_;refine Et<|ae<|ac O<|ac O<|I (gW O) ?_;rw [Bool.not_not];refine Lf 2 O<|hs [_] _ _ Y O aF O O [] ai (λw p=>sv q b o (c+c7 (decide<|10<l.length)+dI (l.take i) d) ((dp y.op).isNone) w aa p)<|ad<|ae<|ac O<|I (db 1 O O MQ O)<|I (Yf zF O)<|I (Yd 2 O O O ab)<|I (Yf zG O) ?_;refine I (Yd 2 O O O ab)<|I (Yf p1 O)<|I (Yd 2 O O O ab)<|I (Yn eC O)<|hs [_] _ _ Y O aF O O [] ai (λw p=>MO q b o ((dp y.op).getD (false,0)).1 ((dp y.op).getD (false,0)).2 y.mod y.nm y.args.length (c+c7 (decide<|10<l.length)+dI (l.take i) d+eE (dp y.op).isNone) w aa aa p)<|ad<|Cs<|ae<|I (Yf p1 O)<|I (Yd 2 O O O ab) ?_;refine I (Yn eC O)<|ac O<|ad<|Cb ?_;refine ey (ι:=Nat) (λj=>[(55,.int .i64 (j:Int))]) [(0,_),(2,_),(7,_),(22,_),(23,_),(24,_),(53,_),(54,_)] (λj=>Ws w [q,b,o] ([aq q (.cells #[.int .i64 0,.int .i64 ((c+c7 (decide<|10<l.length)+dI (l.take i) d+eE (dp y.op).isNone+eR ((dp y.op).getD (false,0)) y.mod y.nm y.args.length+dZ (y.args.take j) 1).f:Int),.int .i64 ((c+c7 (decide<|10<l.length)+dI (l.take i) d+eE (dp y.op).isNone+eR ((dp y.op).getD (false,0)) y.mod y.nm y.args.length+dZ (y.args.take j) 1).m:Int),.int .i64 0,.int .i64 ((c+c7 (decide<|10<l.length)+dI (l.take i) d+eE (dp y.op).isNone+eR ((dp y.op).getD (false,0)) y.mod y.nm y.args.length+dZ (y.args.take j) 1).k:Int),.int .i64 0,.int .i64 0,.int .i64 0,.int .i64 0,.int .i64 0,.map (some b),.map (some o)] 252 (0,0)),aq b (cY kI (i2 9) 15),aq o (cY kI kl 7)]++[aq ao (.cells (u' y X Z T U J K).toArray 241 (0,0))]) [r]) (λj=>j<=y.args.length) (λj=>y.args.length-j) 0 (di _) (λ_ h=>by exact (Wt 4 ((((h.f 2 O).f 4 O).f 4 O).f 3 O):)) ?_
  intro j a0;refine ae<|I (cI O O)<|ad<|Cs ?_;refine Cc O (λN=>?_)<|λN=>?_
  ·have H:j<y.args.length:=by simpa using N
   obtain ⟨z,P⟩:=cR H;obtain ⟨a1,a2,ap,V⟩:=L.b5 j z P
   obtain ⟨Q,rfl⟩:∃Q,ke=Q+1:=by
     cases ke with
     | zero=>exact V.elim
     | succ s=>exact ⟨s,rfl⟩
   obtain ⟨ar,au,av,aw⟩:=V;have a3:=MJ P;have a4:=wU (y.args.take j) 1
   have ax:(c+c7 (decide<|10<l.length)+dI (l.take i) d+eE (dp y.op).isNone+eR ((dp y.op).getD (false,0)) y.mod y.nm y.args.length+dZ (y.args.take j) 1).cA+8*wE z<=1152921504606846976:=by simp only [bM.e1]; omega
   have az:c+c7 (decide<|10<l.length)+dI (l.take i) d+eE (dp y.op).isNone+eR ((dp y.op).getD (false,0)) y.mod y.nm y.args.length+dZ (y.args.take j) 1+iX z 1=c+c7 (decide<|10<l.length)+dI (l.take i) d+eE (dp y.op).isNone+eR ((dp y.op).getD (false,0)) y.mod y.nm y.args.length+dZ (y.args.take<|j+1) 1:=by rw [MH 1 P,<-bM.iG]
   refine bW<|Cs<|Cb<|ae<|I (Yo eC O O ap aa)<|I (dz 0 k6 O O O<|av) ?_;refine Al Y O jX λa5=>?_;refine aT 0 Y O O O nP O O O<|ad<|Cr<|ac O<|I (db 0 O O k6 O)<|Lf 3 O<|Lf 3 O<|Lf 3 O ?_
   refine hs [_,_,_] _ [aq q (.cells #[.int .i64 0,.int .i64 ((c+c7 (decide<|10<l.length)+dI (l.take i) d+eE (dp y.op).isNone+eR ((dp y.op).getD (false,0)) y.mod y.nm y.args.length+dZ (y.args.take j) 1+iX z 1).f:Int),.int .i64 ((c+c7 (decide<|10<l.length)+dI (l.take i) d+eE (dp y.op).isNone+eR ((dp y.op).getD (false,0)) y.mod y.nm y.args.length+dZ (y.args.take j) 1+iX z 1).m:Int),.int .i64 0,.int .i64 ((c+c7 (decide<|10<l.length)+dI (l.take i) d+eE (dp y.op).isNone+eR ((dp y.op).getD (false,0)) y.mod y.nm y.args.length+dZ (y.args.take j) 1+iX z 1).k:Int),.int .i64 0,.int .i64 0,.int .i64 0,.int .i64 0,.int .i64 0,.map (some b),.map (some o)] 252 (0,0)),aq b (cY kI (i2 9) 15),aq o (cY kI kl 7)] Y O aF O O [r] ai (λw p=>by
       have:=Ud q b o r Q z ar au 1 (c+c7 (decide<|10<l.length)+dI (l.take i) d+eE (dp y.op).isNone+eR ((dp y.op).getD (false,0)) y.mod y.nm y.args.length+dZ (y.args.take j) 1) w aw ax p
       exact this) ?_
   refine Ln<|Eb<|Et<|Cr<|I (Yi O O O aa)<|ac O<|Ln ?_;rw [az];exact c8 (j+1) aa aa (λ_ h=>by exact (Wt 4 ((((h.f 4 O).f 3 O).f 3 O).f 3 O):))
  have a6:¬j<y.args.length:=by simpa using N
  rw [lJ (by omega:y.args.length<=j)];refine Ce<|Ex<|Ex<|dQ<|Et<|ae<|I (Yf pj O)<|I (Yd 3 O O O ab)<|I (bz O O)<|ac O ?_;apply Lo 3 O O O O Y O O O O O
  ·intro a7;refine Vg (Yf pj O)<|Vg (Yd 3 O O O ab)<|Vg (bz O O) ?_;exact Gt 3 O O O
  refine ag O<|ad<|ae<|ac O<|ac O<|I (gW O)<|ac O ?_;apply La 4 O O O O Y O O O O O
  ·intro a8;refine Vg (Yf xD O)<|Vg (Yd 3 O O O ab)<|Vg (Yn qQ O)<|Vg (eh O O) ?_;rw [zE];exact Gt 4 O O O
  refine ac O ?_;apply Lo 9 O O O O Y O O O O O
  ·intro a9;refine Vg (Yf pj O)<|Vg (Yd 3 O O O ab)<|Vg (h9 O O)<|Vg (Ym O) ?_;apply La 4 O O O O (.g O O O) O O O O O
   ·intro a';refine Vg (Yf ud O)<|Vg (Yd 3 O O O ab)<|Vg (Yn qQ O)<|Vg (eh O O) ?_;rw [zE];exact Gt 4 O O O
   exact Gt 5 O O O
  refine hs [_] _ _ Y O aF O O [] ai (λw p=>uc q b o (c+c7 (decide<|10<l.length)+dI (l.take i) d+eE (dp y.op).isNone+eR ((dp y.op).getD (false,0)) y.mod y.nm y.args.length+dZ y.args 1) (iH y.op y.body.length y.other.length) w aa p)<|ad<|Cs<|ae<|ac O<|ac O ?_;apply Lo 4 O O O O Y O O O O O
  ·intro a_;refine Vg (Yf xD O)<|Vg (Yd 3 O O O ab)<|Vg (Yn qQ O)<|Vg (eh O O) ?_;rw [zE];exact Gt 4 O O O
  refine ad ?_;refine Cc O (λR=>?_)<|λR=>?_
  ·have x:(if (inner y.op||decide (0<y.body.length))=true then e' y.body (d+1) else c0)=e' y.body (d+1):=ZZ R;refine Cr<|ac O<|I (Yf xD O)<|I (Yd 3 O O O ab)<|ac O<|I (Yi O O O aa) ?_
   refine hs [_,_,_] _ [aq q (.cells #[.int .i64 0,.int .i64 ((c+c7 (decide<|10<l.length)+dI (l.take i) d+eE (dp y.op).isNone+eR ((dp y.op).getD (false,0)) y.mod y.nm y.args.length+dZ y.args 1+ez (iH y.op y.body.length y.other.length)+e' y.body (d+1)).f:Int),.int .i64 ((c+c7 (decide<|10<l.length)+dI (l.take i) d+eE (dp y.op).isNone+eR ((dp y.op).getD (false,0)) y.mod y.nm y.args.length+dZ y.args 1+ez (iH y.op y.body.length y.other.length)+e' y.body (d+1)).m:Int),.int .i64 0,.int .i64 ((c+c7 (decide<|10<l.length)+dI (l.take i) d+eE (dp y.op).isNone+eR ((dp y.op).getD (false,0)) y.mod y.nm y.args.length+dZ y.args 1+ez (iH y.op y.body.length y.other.length)+e' y.body (d+1)).k:Int),.int .i64 0,.int .i64 0,.int .i64 0,.int .i64 0,.int .i64 0,.map (some b),.map (some o)] 252 (0,0)),aq b (cY kI (i2 9) 15),aq o (cY kI kl 7)] Y O aF O O [r] ai (λw p=>by
       have:=D s aa y.body T U (d+1) (c+c7 (decide<|10<l.length)+dI (l.take i) d+eE (dp y.op).isNone+eR ((dp y.op).getD (false,0)) y.mod y.nm y.args.length+dZ y.args 1+ez (iH y.op y.body.length y.other.length)) w M ak p
       exact this) ?_
   refine ad<|ae<|I (Yf ud O)<|I (Yd 3 O O O ab)<|I (Yn qQ O)<|I (eh O O) ?_;rw [zE];refine ad ?_;refine Cc O (λt=>?_)<|λt=>?_
   ·have u:(if 0<y.other.length then e' y.other (d+1) else c0)=e' y.other (d+1):=ZZ (by simpa using t);refine Cr<|ac O<|I (Yf ud O)<|I (Yd 3 O O O ab)<|ac O<|I (Yi O O O aa) ?_
    refine hs [_,_,_] _ [aq q (.cells #[.int .i64 0,.int .i64 ((c+c7 (decide<|10<l.length)+dI (l.take i) d+eE (dp y.op).isNone+eR ((dp y.op).getD (false,0)) y.mod y.nm y.args.length+dZ y.args 1+ez (iH y.op y.body.length y.other.length)+e' y.body (d+1)+e' y.other (d+1)).f:Int),.int .i64 ((c+c7 (decide<|10<l.length)+dI (l.take i) d+eE (dp y.op).isNone+eR ((dp y.op).getD (false,0)) y.mod y.nm y.args.length+dZ y.args 1+ez (iH y.op y.body.length y.other.length)+e' y.body (d+1)+e' y.other (d+1)).m:Int),.int .i64 0,.int .i64 ((c+c7 (decide<|10<l.length)+dI (l.take i) d+eE (dp y.op).isNone+eR ((dp y.op).getD (false,0)) y.mod y.nm y.args.length+dZ y.args 1+ez (iH y.op y.body.length y.other.length)+e' y.body (d+1)+e' y.other (d+1)).k:Int),.int .i64 0,.int .i64 0,.int .i64 0,.int .i64 0,.int .i64 0,.map (some b),.map (some o)] 252 (0,0)),aq b (cY kI (i2 9) 15),aq o (cY kI kl 7)] Y O aF O O [r] ai (λw p=>by
        have:=D s aa y.other J K (d+1) (c+c7 (decide<|10<l.length)+dI (l.take i) d+eE (dp y.op).isNone+eR ((dp y.op).getD (false,0)) y.mod y.nm y.args.length+dZ y.args 1+ez (iH y.op y.body.length y.other.length)+e' y.body (d+1)) w A al p
        exact this) ?_
    refine Ln<|Eb<|Et<|Cr<|I (Yi O O O aa)<|ac O<|Ln ?_;rw [show c+c7 (decide<|10<l.length)+dI (l.take i) d+eE (dp y.op).isNone+eR ((dp y.op).getD (false,0)) y.mod y.nm y.args.length+dZ y.args 1+ez (iH y.op y.body.length y.other.length)+e' y.body (d+1)+e' y.other (d+1)=c+c7 (decide<|10<l.length)+dI (l.take<|i+1) d by rw [CN d v,CM,x,u]; simp only [bM.iG,xx,xC]];exact c8 (i+1) aa aa<|λ_ h=>(Wt 3 h:)
   have u:(if 0<y.other.length then e' y.other (d+1) else c0)=c0:=ZX (by simpa using t);refine Ck<|Eb<|Et<|Cr<|I (Yi O O O aa)<|ac O<|Ln ?_;rw [show c+c7 (decide<|10<l.length)+dI (l.take i) d+eE (dp y.op).isNone+eR ((dp y.op).getD (false,0)) y.mod y.nm y.args.length+dZ y.args 1+ez (iH y.op y.body.length y.other.length)+e' y.body (d+1)=c+c7 (decide<|10<l.length)+dI (l.take<|i+1) d by rw [CN d v,CM,x,u]; simp only [bM.iG,xx,xC]];exact c8 (i+1) aa aa<|λ_ h=>(Wt 3 h:)
  have x:(if (inner y.op||decide (0<y.body.length))=true then e' y.body (d+1) else c0)=c0:=ZX (λe=>by rw [show (inner y.op||decide (0<y.body.length))=false from R] at e; cases e);refine bW<|ae<|I (Yf ud O)<|I (Yd 3 O O O ab)<|I (Yn qQ O)<|I (eh O O) ?_;rw [zE];refine ad ?_;refine Cc O (λt=>?_)<|λt=>?_
  ·have u:(if 0<y.other.length then e' y.other (d+1) else c0)=e' y.other (d+1):=ZZ (by simpa using t);refine Cr<|ac O<|I (Yf ud O)<|I (Yd 3 O O O ab)<|ac O<|I (Yi O O O aa) ?_
   refine hs [_,_,_] _ [aq q (.cells #[.int .i64 0,.int .i64 ((c+c7 (decide<|10<l.length)+dI (l.take i) d+eE (dp y.op).isNone+eR ((dp y.op).getD (false,0)) y.mod y.nm y.args.length+dZ y.args 1+ez (iH y.op y.body.length y.other.length)+e' y.other (d+1)).f:Int),.int .i64 ((c+c7 (decide<|10<l.length)+dI (l.take i) d+eE (dp y.op).isNone+eR ((dp y.op).getD (false,0)) y.mod y.nm y.args.length+dZ y.args 1+ez (iH y.op y.body.length y.other.length)+e' y.other (d+1)).m:Int),.int .i64 0,.int .i64 ((c+c7 (decide<|10<l.length)+dI (l.take i) d+eE (dp y.op).isNone+eR ((dp y.op).getD (false,0)) y.mod y.nm y.args.length+dZ y.args 1+ez (iH y.op y.body.length y.other.length)+e' y.other (d+1)).k:Int),.int .i64 0,.int .i64 0,.int .i64 0,.int .i64 0,.int .i64 0,.map (some b),.map (some o)] 252 (0,0)),aq b (cY kI (i2 9) 15),aq o (cY kI kl 7)] Y O aF O O [r] ai (λw p=>by
       have:=D s aa y.other J K (d+1) (c+c7 (decide<|10<l.length)+dI (l.take i) d+eE (dp y.op).isNone+eR ((dp y.op).getD (false,0)) y.mod y.nm y.args.length+dZ y.args 1+ez (iH y.op y.body.length y.other.length)) w A an p
       exact this) ?_
   refine Ln<|Eb<|Et<|Cr<|I (Yi O O O aa)<|ac O<|Ln ?_;rw [show c+c7 (decide<|10<l.length)+dI (l.take i) d+eE (dp y.op).isNone+eR ((dp y.op).getD (false,0)) y.mod y.nm y.args.length+dZ y.args 1+ez (iH y.op y.body.length y.other.length)+e' y.other (d+1)=c+c7 (decide<|10<l.length)+dI (l.take<|i+1) d by rw [CN d v,CM,x,u]; simp only [bM.iG,xx,xC]];exact c8 (i+1) aa aa<|λ_ h=>(Wt 3 h:)
  have u:(if 0<y.other.length then e' y.other (d+1) else c0)=c0:=ZX (by simpa using t);refine Ck<|Eb<|Et<|Cr<|I (Yi O O O aa)<|ac O<|Ln ?_;rw [show c+c7 (decide<|10<l.length)+dI (l.take i) d+eE (dp y.op).isNone+eR ((dp y.op).getD (false,0)) y.mod y.nm y.args.length+dZ y.args 1+ez (iH y.op y.body.length y.other.length)=c+c7 (decide<|10<l.length)+dI (l.take<|i+1) d by rw [CN d v,CM,x,u]; simp only [bM.iG,xx,xC]];exact c8 (i+1) aa aa<|λ_ h=>(Wt 3 h:)
 have ba:¬i<l.length:=by simpa using G
 rw [lJ aa,bM.iG,<-ND F];refine Ce<|Ex<|Ex<|dQ ?_;refine E0 O λC p=>?_;exact ⟨O,p⟩
def MT:∀(l:List eb) (i:Nat),wD (l.take i)<=wD l
 | [],i=>by simp
 | x::r,0=>by simp [wD]
 | x::r,i+1=>by have:=MT r i; simp only [nb,wD]; omega
def s9:∀(l:List f') (i:Nat),wP (l.take i)<=wP l
 | [],i=>by simp
 | x::r,0=>by simp [wP]
 | x::r,i+1=>by have:=s9 r i; simp only [nb,wP]; omega
variable {aaF:List f'} {iR:f'}
def MU (h:aaF[Z]? = some iR):wP (aaF.take Z)+(1+iR.nm.length+wN iR.params+wN iR.aC+e2 iR.body)<=wP aaF:=by
 have c:=s9 aaF (Z+1);rw [ly h] at c
 have:∀a b:List f',wP (a++b)=wP a+wP b:=by
   intro a b
   induction a with
   | nil=>simp [wP]
   | cons y a d=>simp only [h5,wP,d]; omega
 rw [this] at c;simp only [wP] at c;omega
def MV:∀a b:List eb,e6 (a++b)=e6 a+e6 b
 | [],b=>by apply bM.ext'<;>simp [bM.u4,bM.u5,bM.u6,e6,c0]
 | x::a,b=>by
   rw [h5,show ∀q,e6 (x::q)=iI x+e6 q from λ_=>rfl,MV a b,show ∀q,e6 (x::q)=iI x+e6 q from λ_=>rfl,bM.iG]
variable {vM:List eb} {jn:eb}
def Ug (h:vM[Z]? = some jn):e6 (vM.take<|Z+1)=e6 (vM.take Z)+iI jn:=by rw [ly h,MV]; rfl
def MW:∀a b:List f',fH (a++b)=fH a+fH b
 | [],b=>by apply bM.ext'<;>simp [bM.u4,bM.u5,bM.u6,fH,c0]
 | x::a,b=>by
   rw [h5,show ∀q,fH (x::q)=qr x+fH q from λ_=>rfl,MW a b,show ∀q,fH (x::q)=qr x+fH q from λ_=>rfl,bM.iG]
def Uh (h:aaF[Z]? = some iR):fH (aaF.take<|Z+1)=fH (aaF.take Z)+qr iR:=by rw [ly h,MW]; rfl
def Ui (n:Nat):decide ((4:Int)<(n:Int))=decide (4<n):=by rw [kr]; simp; omega
def Uj (n:Nat):decide ((6:Int)<(n:Int))=decide (6<n):=by rw [kr]; simp; omega
def eN (i:Nat):Nat:=if i=0 then 4 else if i=1 then 2 else 1
def cE (c:bM) (i:Nat):Nat:=if i=0 then c.k else if i=1 then c.m else c.f
def Uk {i:Nat} (h:i<3):(#[.int .i64 4,.int .i64 2,.int .i64 1]:Array Value)[i]? = some (.int .i64 (eN i:Int)):=by
 match i,h with
 | 0,_=>rfl
 | 1,_=>rfl
 | 2,_=>rfl
def Ul (i:Nat):eN i<10:=by unfold eN; split; omega; split<;>omega
def Um {c:bM} {a b i:Nat} (h:i<3) {T:TypeId} {d:Nat×Nat}:i_ (.cells #[.int .i64 0,.int .i64 (c.f:Int),.int .i64 (c.m:Int),.int .i64 0,.int .i64 (c.k:Int),.int .i64 0,.int .i64 0,.int .i64 0,.int .i64 0,.int .i64 0,.map (some a),.map (some b)] T d) (0+0+eN i*1)=some (.int .i64 (cE c i:Int)):=by
 match i,h with
 | 0,_=>rfl
 | 1,_=>rfl
 | 2,_=>rfl
variable {p2:bM}
def Un {i:Nat} (h:i<3) (d:∀j,j<i->cE p2 j=0) (c:0<cE p2 i):(eN i:Int)=sd p2:=by
 match i,h,d,c with
 | 0,_,_,c=>unfold sd; rw [ZZ (show 0<p2.k from c)]; rfl
 | 1,_,d,c=>have:=d 0 aa; unfold sd; rw [ZX (by simp [cE] at this; omega),ZZ (show 0<p2.m from c)]; rfl
 | 2,_,d,c=>have a:=d 0 aa; have b:=d 1 aa; unfold sd; rw [ZX (by simp [cE] at a; omega),ZX (by simp [cE] at b; omega),ZZ (show 0<p2.f from c)]; rfl
def Uo (h:∀j,j<3->cE p2 j=0):sd p2=0:=by
 have a:=h 0 aa; have b:=h 1 aa; have d:=h 2 aa;simp [cE] at a b d;unfold sd;rw [ZX aa,ZX aa,ZX aa]
def Up:gX prog 252=some [(0,10),(10,1),(11,1)]:=ab
def NS:zeroOf prog 252=some (.agg #[.int .i64 0,.int .i64 0,.int .i64 0,.int .i64 0,.int .i64 0,.int .i64 0,.int .i64 0,.int .i64 0,.int .i64 0,.int .i64 0,.map none,.map none]):=ab
def tv:au prog 27 0=some 0:=ab
def ue:au prog 27 1=some 1:=ab
def xF:au prog 27 2=some 2:=ab
def vN:aat prog 23=some 4:=ab
def vO:au prog 27 3=some 3:=ab
def sP:aat prog 24=some 5:=ab
def pk:hr prog 109=some 4:=ab
def rQ:zeroOf prog 109=some (.agg #[.int .i64 0,st [],.bool false,.int .i64 0]):=ab
def sQ:aJ prog 109=some 4:=ab
def xG:hr prog 113=some 5:=ab
def uf:zeroOf prog 113=some (.agg #[st [],.bool false,.slice none 0 0,.slice none 0 0,.slice none 0 0]):=ab
def xH:aJ prog 113=some 5:=ab
def MX:au prog 113 0=some 0:=ab
def rR:au prog 113 2=some 2:=ab
def xI:au prog 113 3=some 3:=ab
def GJ:au prog 113 4=some 4:=ab
def GK:au prog 27 4=some 4:=ab
def Ur:u0 prog 256=some (3,1):=ab
def Us:zeroOf prog 256=some (.agg #[.int .i64 0,.int .i64 0,.int .i64 0]):=ab
def Ut:Br prog 256=some 3:=ab
def MY (l:View) (ke ks:Nat) (r:cb) (m:df) (w:World) (L:Le l w) (o:n7 ke ks l r m) (ax:wM m<=9007199254740992) :
   Calls prog 68 #[.agg (iJ m r).toArray] w λe s=>e = .returned (.int .i64<|ku m)/\Ext w s:=by
 have az:=EW m.nm;have aD:=wV m.aA;have aE:=wT ((decide (3<m.aA.length)||decide (10<m.decls.length))||decide (6<m.procs.length));have aG:=EU m.decls;have aH:=Bz m.procs;have aI:=EV m.main 1;have aJ:wM m=1+m.nm.length+wN m.aA+wD m.decls+wP m.procs+e2 m.main:=rfl;have aK:c0.cA=0:=rfl;have aL:=jB m.aA;have aM:=o.aA.cap;have aN:=o.aA.max;have aO:=o.decls.cap;have aP:=o.decls.max;have aQ:=o.procs.cap;have aR:=o.procs.max
 have M:∀i,(e6<|m.decls.take i).cA<=8*wD m.decls:=λi=>by have:=EU (m.decls.take i); have:=MT m.decls i; omega
 have N:∀i,(fH<|m.procs.take i).cA<=8*wP m.procs:=λi=>by have:=Bz (m.procs.take i); have:=s9 m.procs i; omega
 have aS:(c0+bO [m.nm]).cA+16+m.aA.length<=1152921504606846976:=by simp only [bM.e1]; omega
 have aU:(c0+bO [m.nm]+bO m.aA).cA+16+m.aA.length<=1152921504606846976:=by simp only [bM.e1]; omega
 have aV:(c0+bO [m.nm]+bO m.aA+c7 ((decide (3<m.aA.length)||decide (10<m.decls.length))||decide (6<m.procs.length))).cA+16+m.aA.length<=1152921504606846976:=by simp only [bM.e1]; omega
 have aW:(c0+bO [m.nm]+bO m.aA+c7 ((decide (3<m.aA.length)||decide (10<m.decls.length))||decide (6<m.procs.length))+e6 m.decls).cA+16+m.aA.length<=1152921504606846976:=by simp only [bM.e1]; omega
 have aX:(c0+bO [m.nm]+bO m.aA+c7 ((decide (3<m.aA.length)||decide (10<m.decls.length))||decide (6<m.procs.length))+e6 m.decls+fH m.procs).cA+16+8*e2 m.main<=1152921504606846976:=by simp only [bM.e1]; omega
 refine enter func68 O 106 O O ?_;refine CE (Vs:=[l]) (Ws.init (by simp [L]))<|ae ?_;refine WL.box Y O O λt=>?_;refine ag O<|ad<|ae ?_
 refine WL.yF (ι:=Nat) Y O aF O (λb=>.map<|some b) (λb=>[aq b (cY kI (i2 9) 15)]) (λ_=>True) (λw a=>(T' w).mono λe s h=>by
     obtain ⟨b,u,v⟩:=h
     exact ⟨b,u,trivial,v⟩) ?_
 intro c _
 refine WL.yF (ι:=Nat) Y O aF O (λb=>.map<|some b) (λb=>[aq b (cY kI kl 7)]) (λ_=>True) (λw a=>(T_ w).mono λe s h=>by
     obtain ⟨b,u,v⟩:=h
     exact ⟨b,u,trivial,v⟩) ?_
 intro g _;refine I (Yb NS Up O O) ?_;refine WL.box Y O O λn=>?_;refine dk 0 (.cells #[.int .i64 0,.int .i64 ((c0).f:Int),.int .i64 ((c0).m:Int),.int .i64 0,.int .i64 ((c0).k:Int),.int .i64 0,.int .i64 0,.int .i64 0,.int .i64 0,.int .i64 0,.map (some c),.map (some g)] 252 (0,0)) O O<|ag O<|ad<|ae<|ac O<|I (Yf tv O)<|I (Yd 3 O O O ab) ?_;refine Lb Y O fw O O O O λaY=>?_;refine ib (T:=9) (m:=1) 0 [m.nm] O O (show 1<=1 by decide) a8 λH P=>?_;refine hs [_] _ [aq n (.cells #[.int .i64 0,.int .i64 ((c0+bO [m.nm]).f:Int),.int .i64 ((c0+bO [m.nm]).m:Int),.int .i64 0,.int .i64 ((c0+bO [m.nm]).k:Int),.int .i64 0,.int .i64 0,.int .i64 0,.int .i64 0,.int .i64 0,.map (some c),.map (some g)] 252 (0,0))] Y O aF O O [H] ai (λw a=>xA n c g H _ _ [m.nm] (c0) w P (by show c0.cA+1<=_; omega) a)<|ad<|ae<|ac O<|I (Yf ue O)<|I (Yd 3 O O O ab)<|hs [_] _ _ Y O aF O O [l] ai (λw a=>xA n c g l r.a1 r.c1 m.aA (c0+bO [m.nm]) w o.aA aa a)<|ad<|ae<|ac O ?_;refine I (Yf ue O)<|I (Yd 3 O O O ab)<|I (Yn fQ O)<|I (eh O O) ?_;rw [GG];refine ac O ?_;apply Lo 4 O O O O Y O O O O O
 ·intro aZ;refine Vg (Yf xF O)<|Vg (Yd 3 O O O ab)<|Vg (Yn vN O)<|Vg (eh O O) ?_;rw [MR];exact Gt 4 O O O
 refine ac O ?_;apply Lo 4 O O O O Y O O O O O
 ·intro a0;refine Vg (Yf vO O)<|Vg (Yd 3 O O O ab)<|Vg (Yn sP O)<|Vg (eh O O) ?_;rw [Uj];exact Gt 4 O O O
 refine hs [_] _ _ Y O aF O O [] ai (λw a=>xy n c g (c0+bO [m.nm]+bO m.aA) ((decide (3<m.aA.length)||decide (10<m.decls.length))||decide (6<m.procs.length)) w aa a)<|ad<|Cs<|ae<|I (Yf xF O)<|I (Yd 3 O O O ab)<|I (Yn vN O)<|ac O<|ad<|Cb ?_;refine ey (ι:=Nat) (λi=>[(44,.int .i64 (i:Int))]) [(1,_),(2,_),(3,_),(42,_),(43,_)] (λi=>Ws w [] [aq n (.cells #[.int .i64 0,.int .i64 ((c0+bO [m.nm]+bO m.aA+c7 ((decide (3<m.aA.length)||decide (10<m.decls.length))||decide (6<m.procs.length))+e6 (m.decls.take i)).f:Int),.int .i64 ((c0+bO [m.nm]+bO m.aA+c7 ((decide (3<m.aA.length)||decide (10<m.decls.length))||decide (6<m.procs.length))+e6 (m.decls.take i)).m:Int),.int .i64 0,.int .i64 ((c0+bO [m.nm]+bO m.aA+c7 ((decide (3<m.aA.length)||decide (10<m.decls.length))||decide (6<m.procs.length))+e6 (m.decls.take i)).k:Int),.int .i64 0,.int .i64 0,.int .i64 0,.int .i64 0,.int .i64 0,.map (some c),.map (some g)] 252 (0,0)),aq c (cY kI (i2 9) 15),aq g (cY kI kl 7),aq t (.cells (iJ m r).toArray 27 (0,0))] [l]) (λi=>i<=m.decls.length) (λi=>m.decls.length-i) 0 (di _) (λ_ h=>by have h:=h.aj 3 O; have h:=h.aj 2 O; have h:=h.aj 3 O; have h:=h.aj 3 O; have h:=Ws.aB h (b7:=[l]) ai; exact h) ?_;intro i hi;refine ae<|I (cI O O)<|ad<|Cs ?_;refine Cc O (λx=>?_)<|λx=>?_
 ·have q:i<m.decls.length:=by simpa using x
  obtain ⟨d,J⟩:=cR q;obtain ⟨Q,R,S,y⟩:=o.decls.b5 i d J;have y:ar l Q (R+i*4) d.cells:=y
  have U:c0+bO [m.nm]+bO m.aA+c7 ((decide (3<m.aA.length)||decide (10<m.decls.length))||decide (6<m.procs.length))+e6 (m.decls.take i)+iI d=c0+bO [m.nm]+bO m.aA+c7 ((decide (3<m.aA.length)||decide (10<m.decls.length))||decide (6<m.procs.length))+e6 (m.decls.take<|i+1):=by rw [Ug J,<-bM.iG]
  have a2:=M i
  have a3:(c0+bO [m.nm]+bO m.aA+c7 ((decide (3<m.aA.length)||decide (10<m.decls.length))||decide (6<m.procs.length))+e6 (m.decls.take i)).cA+4<=4611686018427387904:=by simp only [bM.e1]; omega
  refine bW<|Cs<|Cb<|ae<|I (Yo vN O O S aa)<|I (dz 0 pk O O O<|y) ?_;refine Al Y O rQ λa5=>?_;refine aT 0 Y O O O sQ O O O<|ad<|Cr<|ac O<|I (db 0 O O pk O)<|Lf 1 O<|hs [_] _ _ Y O aF O O [] ai (λw a=>Ub n c g d (c0+bO [m.nm]+bO m.aA+c7 ((decide (3<m.aA.length)||decide (10<m.decls.length))||decide (6<m.procs.length))+e6 (m.decls.take i)) w aa a)<|Ln<|Eb<|Et<|Cr<|I (Yi O O O aa) ?_;refine ac O<|Ln ?_;rw [U];exact c8 (i+1) aa aa (λ_ h=>by exact (Wt 4 ((((h.f 4 O).f 4 O).f 4 O).f 3 O):))
 have a6:¬i<m.decls.length:=by simpa using x
 rw [lJ aa];refine Ce<|Ex<|Ex<|dQ<|Et<|Cs<|ae<|I (Yf vO O)<|I (Yd 3 O O O ab)<|I (Yn sP O)<|ac O<|ad<|Cb ?_;refine ey (ι:=Nat) (λj=>[(55,.int .i64 (j:Int))]) [(1,_),(2,_),(3,_),(53,_),(54,_)] (λj=>Ws w [] [aq n (.cells #[.int .i64 0,.int .i64 ((c0+bO [m.nm]+bO m.aA+c7 ((decide (3<m.aA.length)||decide (10<m.decls.length))||decide (6<m.procs.length))+e6 m.decls+fH (m.procs.take j)).f:Int),.int .i64 ((c0+bO [m.nm]+bO m.aA+c7 ((decide (3<m.aA.length)||decide (10<m.decls.length))||decide (6<m.procs.length))+e6 m.decls+fH (m.procs.take j)).m:Int),.int .i64 0,.int .i64 ((c0+bO [m.nm]+bO m.aA+c7 ((decide (3<m.aA.length)||decide (10<m.decls.length))||decide (6<m.procs.length))+e6 m.decls+fH (m.procs.take j)).k:Int),.int .i64 0,.int .i64 0,.int .i64 0,.int .i64 0,.int .i64 0,.map (some c),.map (some g)] 252 (0,0)),aq c (cY kI (i2 9) 15),aq g (cY kI kl 7),aq t (.cells (iJ m r).toArray 27 (0,0))] [l]) (λj=>j<=m.procs.length) (λj=>m.procs.length-j) 0 (di _) ay ?_;intro j z;refine ae<|I (cI O O)<|ad<|Cs ?_;refine Cc O (λA=>?_)<|λA=>?_
 ·have q:j<m.procs.length:=by simpa using A
  obtain ⟨p,B⟩:=cR q;obtain ⟨a7,a9,V,W⟩:=o.procs.b5 j p B;obtain ⟨X,Z,af,ah,ak,al,an,C,D,ao⟩:=W;have a':=MU B;have a_:=N j;have ba:=Bz (m.procs.take j);have bb:=EW p.nm;have bc:=wV p.params;have bd:=wV p.aC;have be:=wT (decide (3<p.params.length)||decide (4<p.aC.length));have bf:=jB p.params;have bg:=jB p.aC;have bh:=C.cap;have bi:=C.max;have bj:=D.cap;have bk:=D.max
  have ap:c0+bO [m.nm]+bO m.aA+c7 ((decide (3<m.aA.length)||decide (10<m.decls.length))||decide (6<m.procs.length))+e6 m.decls+fH (m.procs.take j)+bO [p.nm]+bO p.params+bO p.aC+c7 (decide (3<p.params.length)||decide (4<p.aC.length))+e' p.body 1=c0+bO [m.nm]+bO m.aA+c7 ((decide (3<m.aA.length)||decide (10<m.decls.length))||decide (6<m.procs.length))+e6 m.decls+fH (m.procs.take<|j+1):=by rw [Uh B,qr]; simp only [bM.iG]
  have bl:(c0+bO [m.nm]+bO m.aA+c7 ((decide (3<m.aA.length)||decide (10<m.decls.length))||decide (6<m.procs.length))+e6 m.decls+fH (m.procs.take j)).cA+16+p.params.length+p.aC.length+8*e2 p.body<=1152921504606846976:=by simp only [bM.e1]; omega
  have bm:(c0+bO [m.nm]+bO m.aA+c7 ((decide (3<m.aA.length)||decide (10<m.decls.length))||decide (6<m.procs.length))+e6 m.decls+fH (m.procs.take j)+bO [p.nm]).cA+16+p.params.length+p.aC.length+8*e2 p.body<=1152921504606846976:=by simp only [bM.e1]; omega
  have bn:(c0+bO [m.nm]+bO m.aA+c7 ((decide (3<m.aA.length)||decide (10<m.decls.length))||decide (6<m.procs.length))+e6 m.decls+fH (m.procs.take j)+bO [p.nm]+bO p.params).cA+16+p.params.length+p.aC.length+8*e2 p.body<=1152921504606846976:=by simp only [bM.e1]; omega
  have bo:(c0+bO [m.nm]+bO m.aA+c7 ((decide (3<m.aA.length)||decide (10<m.decls.length))||decide (6<m.procs.length))+e6 m.decls+fH (m.procs.take j)+bO [p.nm]+bO p.params+bO p.aC).cA+16+p.params.length+p.aC.length+8*e2 p.body<=1152921504606846976:=by simp only [bM.e1]; omega
  have bp:(c0+bO [m.nm]+bO m.aA+c7 ((decide (3<m.aA.length)||decide (10<m.decls.length))||decide (6<m.procs.length))+e6 m.decls+fH (m.procs.take j)+bO [p.nm]+bO p.params+bO p.aC+c7 (decide (3<p.params.length)||decide (4<p.aC.length))).cA+16+p.params.length+p.aC.length+8*e2 p.body<=1152921504606846976:=by simp only [bM.e1]; omega
  refine bW<|Cs<|Cb<|ae<|I (Yo sP O O V aa)<|I (dz 0 xG O O O<|an) ?_;refine Al Y O uf λbq=>?_;refine aT 0 Y O O O xH O O O<|ad<|ae<|ac O<|I (Yf MX O)<|I (Yd 0 O O O ab) ?_;refine Lb Y O fw O O O O λbr=>?_;refine ib (T:=9) (m:=1) 0 [p.nm] O O (show 1<=1 by decide) a8 λK au=>?_;refine Lf 1 O ?_;refine hs [_] _ [aq n (.cells #[.int .i64 0,.int .i64 ((c0+bO [m.nm]+bO m.aA+c7 ((decide (3<m.aA.length)||decide (10<m.decls.length))||decide (6<m.procs.length))+e6 m.decls+fH (m.procs.take j)+bO [p.nm]).f:Int),.int .i64 ((c0+bO [m.nm]+bO m.aA+c7 ((decide (3<m.aA.length)||decide (10<m.decls.length))||decide (6<m.procs.length))+e6 m.decls+fH (m.procs.take j)+bO [p.nm]).m:Int),.int .i64 0,.int .i64 ((c0+bO [m.nm]+bO m.aA+c7 ((decide (3<m.aA.length)||decide (10<m.decls.length))||decide (6<m.procs.length))+e6 m.decls+fH (m.procs.take j)+bO [p.nm]).k:Int),.int .i64 0,.int .i64 0,.int .i64 0,.int .i64 0,.int .i64 0,.map (some c),.map (some g)] 252 (0,0))] Y O aF O O [K] ai (λw a=>xA n c g K _ _ [p.nm] (c0+bO [m.nm]+bO m.aA+c7 ((decide (3<m.aA.length)||decide (10<m.decls.length))||decide (6<m.procs.length))+e6 m.decls+fH (m.procs.take j)) w au (by show (c0+bO [m.nm]+bO m.aA+c7 ((decide (3<m.aA.length)||decide (10<m.decls.length))||decide (6<m.procs.length))+e6 m.decls+fH (m.procs.take j)).cA+1<=_; omega) a) ?_;refine ad<|ae<|ac O<|I (Yf rR O)<|I (Yd 1 O O O ab)<|hs [_] _ _ Y O aF O O [l] ai (λw a=>xA n c g l X Z p.params (c0+bO [m.nm]+bO m.aA+c7 ((decide (3<m.aA.length)||decide (10<m.decls.length))||decide (6<m.procs.length))+e6 m.decls+fH (m.procs.take j)+bO [p.nm]) w C aa a)<|ad<|ae<|ac O<|I (Yf xI O) ?_;refine I (Yd 1 O O O ab)<|hs [_] _ _ Y O aF O O [l] ai (λw a=>xA n c g l af ah p.aC (c0+bO [m.nm]+bO m.aA+c7 ((decide (3<m.aA.length)||decide (10<m.decls.length))||decide (6<m.procs.length))+e6 m.decls+fH (m.procs.take j)+bO [p.nm]+bO p.params) w D aa a)<|ad<|ae<|ac O<|I (Yf rR O)<|I (Yd 1 O O O ab)<|I (Yn fQ O)<|I (eh O O) ?_;rw [GG];refine ac O ?_;apply Lo 4 O O O O Y O O O O O
  ·intro bs;refine Vg (Yf xI O)<|Vg (Yd 1 O O O ab)<|Vg (Yn fQ O)<|Vg (eh O O) ?_;rw [Ui];exact Gt 4 O O O
  refine hs [_] _ _ Y O aF O O [] ai (λw a=>xy n c g (c0+bO [m.nm]+bO m.aA+c7 ((decide (3<m.aA.length)||decide (10<m.decls.length))||decide (6<m.procs.length))+e6 m.decls+fH (m.procs.take j)+bO [p.nm]+bO p.params+bO p.aC) (decide (3<p.params.length)||decide (4<p.aC.length)) w aa a)<|ad<|Cr<|ac O<|I (Yf GJ O)<|I (Yd 1 O O O ab)<|Lf 3 O<|Lf 3 O<|Lf 2 O ?_;refine hs [_,_,_] _ _ Y O aF O O [l] ai (λw a=>MS n c g l ke ks (p.body) ak al 1 (c0+bO [m.nm]+bO m.aA+c7 ((decide (3<m.aA.length)||decide (10<m.decls.length))||decide (6<m.procs.length))+e6 m.decls+fH (m.procs.take j)+bO [p.nm]+bO p.params+bO p.aC+c7 (decide (3<p.params.length)||decide (4<p.aC.length))) w ao aa a)<|Ln<|Eb<|Et<|Cr<|I (Yi O O O aa)<|ac O<|Ln ?_;rw [ap];exact c8 (j+1) aa aa (λ_ h=>by exact (Wv 1 (Wt 4<|(((h.f 4 O).f 3 O).f 3 O).f 3 O):))
 have bt:¬j<m.procs.length:=by simpa using A
 rw [lJ aa];refine Ce<|Ex<|Ex<|dQ<|Et<|ae<|ac O<|I (Yf GK O)<|I (Yd 3 O O O ab)<|hs [_,_,_] _ _ Y O aF O O [l] ai (λw a=>MS n c g l ke ks (m.main) r.a4 r.c4 1 (c0+bO [m.nm]+bO m.aA+c7 ((decide (3<m.aA.length)||decide (10<m.decls.length))||decide (6<m.procs.length))+e6 m.decls+fH m.procs) w o.main aa a)<|ad<|Cs<|ae<|I (Jx Us Ur O O) ?_;refine ac O<|ad<|Cb ?_;refine ey (ι:=Nat) (λi=>[(94,.int .i64 (i:Int))]) [(3,_),(93,_)] (λi=>Ws w [] [aq n (.cells #[.int .i64 0,.int .i64 ((c0+bO [m.nm]+bO m.aA+c7 ((decide (3<m.aA.length)||decide (10<m.decls.length))||decide (6<m.procs.length))+e6 m.decls+fH m.procs+e' m.main 1).f:Int),.int .i64 ((c0+bO [m.nm]+bO m.aA+c7 ((decide (3<m.aA.length)||decide (10<m.decls.length))||decide (6<m.procs.length))+e6 m.decls+fH m.procs+e' m.main 1).m:Int),.int .i64 0,.int .i64 ((c0+bO [m.nm]+bO m.aA+c7 ((decide (3<m.aA.length)||decide (10<m.decls.length))||decide (6<m.procs.length))+e6 m.decls+fH m.procs+e' m.main 1).k:Int),.int .i64 0,.int .i64 0,.int .i64 0,.int .i64 0,.int .i64 0,.map (some c),.map (some g)] 252 (0,0)),aq c (cY kI (i2 9) 15),aq g (cY kI kl 7),aq t (.cells (iJ m r).toArray 27 (0,0))] [l]) (λi=>i<=3/\∀j,j<i->cE (c0+bO [m.nm]+bO m.aA+c7 ((decide (3<m.aA.length)||decide (10<m.decls.length))||decide (6<m.procs.length))+e6 m.decls+fH m.procs+e' m.main 1) j=0) (λi=>3-i) 0 ⟨di _,ai⟩ ay ?_;intro i ⟨hi,E⟩;refine ae<|I (cI O O)<|ad<|Cs ?_;refine Cc O (λF=>?_)<|λF=>?_
 ·have q:i<3:=by simp at F; omega
  refine bW<|Cs<|Cb<|ae<|I (xn (i:=i) Ut O O q<|Uk q)<|ag O<|ad<|ae<|ac O<|ac O<|I (bw O)<|I (Yf vJ O) ?_;refine I (u1 (i:=eN i) vK O O<|Ul i)<|I (Yd 0 O O (Um q) ab)<|I (eh O O)<|ad ?_;refine Cc O (λG=>?_)<|λG=>?_
  ·have av:0<cE (c0+bO [m.nm]+bO m.aA+c7 ((decide (3<m.aA.length)||decide (10<m.decls.length))||decide (6<m.procs.length))+e6 m.decls+fH m.procs+e' m.main 1) i:=by simpa using G
   refine ae<|ac O<|ag O<|ad<|am<|cN<|Er<|Er<|cN<|Er ?_;refine R1 O O λs a=>?_;refine ⟨?_,a.fr⟩;rw [Un q E av,show c0+bO [m.nm]+bO m.aA+c7 ((decide (3<m.aA.length)||decide (10<m.decls.length))||decide (6<m.procs.length))+e6 m.decls+fH m.procs+e' m.main 1=tz m by rw [tz,xC]]
   rfl
  have aw:cE (c0+bO [m.nm]+bO m.aA+c7 ((decide (3<m.aA.length)||decide (10<m.decls.length))||decide (6<m.procs.length))+e6 m.decls+fH m.procs+e' m.main 1) i=0:=by simp at G; omega
  refine Ck<|Eb<|Et<|Cr<|I (Yi O O O aa)<|ac O<|Ln ?_;exact c8 (i+1) aa ⟨aa,λj z=>by rcases ne.1 z with h | rfl; exact E j h; exact aw⟩ ay
 have bu:¬i<3:=by simp at F; omega
 refine Ce<|Ex<|Ex<|dQ<|Et<|ae<|ag O<|ad<|am ?_;refine R1 O O λs a=>?_;refine ⟨?_,a.fr⟩;rw [ku,show tz m=c0+bO [m.nm]+bO m.aA+c7 ((decide (3<m.aA.length)||decide (10<m.decls.length))||decide (6<m.procs.length))+e6 m.decls+fH m.procs+e' m.main 1 by rw [tz,xC],Uo λj z=>E j aa]
def MZ:aJ prog 222=some 1:=ab
def Uu:Br prog 437=some 9:=ab
def M0:zeroOf prog 437=some (.agg #[st [],st [],st [],st [],st [],st [],st [],st [],st []]):=ab
def Uv:u0 prog 437=some (9,1):=ab
def Uw:aJ prog 437=some 9:=ab
def Ux:hr prog 437=some 9:=ab
def Uy (w:World) :
   Calls prog 350 #[] w λe a=>e = .returned (.agg (opsL.map st).toArray)/\Ext w a:=by
 refine enter func350 O 2 O O ?_;refine CE (Vs:=[]) (Ws.init ai)<|ae ?_;refine Al Y O M0 λc=>?_;refine ad<|ae<|I (Jx M0 Uv O O)<|aT 0 Y O O O Uw O O O<|ad<|am ?_;refine WE.aau (iF O<|eM 0 O O Ux O) λa b=>?_;exact ⟨O,b.fr⟩
def Uz:au prog 109 2=some 2:=ab
def UA:au prog 113 1=some 1:=ab
def nQ:hr prog 27=some 5:=ab
abbrev bA (a:Nat) (r:Option Addr×Nat) (l:Tk):List aQ:=[aq a (.cells #[.slice r.1 l.length r.2] 227 (0,0))]
def ho:List PanicEntry:=[⟨.iface 229<|.agg #[],false,false⟩]
def kJ:List Tx->Tk->Option Tk
 | [],l=>some l
 | w::ws,l=>(bN w l).bind (kJ ws)
def fj (w:Tx) (l:Tk):kJ [w] l=bN w l:=by unfold kJ; cases bN w l<;>rfl
def M1 (v w:Tx) (l:Tk):kJ [v,w] l=(bN v l).bind (bN w):=by
 unfold kJ
 cases bN v l with
 | none=>rfl
 | some q=>exact fj w q
def M2:∀{b:List Tx} {l r:Tk},iy l->kJ b l=some r->iy r
 | [],l,r,a,h=>by injection h with h; subst h; exact a
 | w::b,l,r,a,h=>by
   obtain ⟨q,c,d⟩:=cU.1 h;exact M2 (LS a c) d
def tW (s:Tx) (t:Tok) (r:Tk):bN s (t::r)=if (t.text==s)=true then some r else none:=rfl
variable {a' bR:Tk}
def i3 (h:bN ck a'=some bR):bR.length+1=a'.length:=by
 cases a' with
 | nil=>cases h
 | cons t r=>
   rw [tW] at h
   split at h
   · injection h with h; subst h; rfl
   · cases h
def UB (h:bN ck a'=some bR):kJ (ck::iP) a'=kJ iP bR:=by show (bN ck a').bind (kJ iP)=_; rw [h]; rfl
def UC (h:bN ck a'=none):kJ (ck::iP) a'=none:=by show (bN ck a').bind (kJ iP)=_; rw [h]; rfl
structure dM (l:Tk):Prop where
 all:iy l
 len:l.length<=4096
def sR (h:dM a') (e:ha a' iP bR):dM bR:=⟨e.ok,by have:=h.len; rw [e.2,jE] at this; omega⟩
def i4 (h:dM a') (e:bN ck a'=some bR):dM bR:=⟨LS h.all e,by have:=i3 e; have:=h.len; omega⟩
def zI:∀{a:List Tx} {l q:Tk},kJ a l=some q->q.length+a.length=l.length
 | [],l,q,h=>by injection h with h; subst h; rfl
 | w::a,l,q,h=>by
   obtain ⟨d,b,c⟩:=cU.1 h;have:=i3 b; have:=zI c;simp only [gf];omega
def i5 (h:dM a') (e:kJ iP a'=some bR):dM bR:=⟨M2 h.all e,by have:=zI e; have:=h.len; omega⟩
def qT (h:dM a') (e:gZ a'=some (ck,bR)):dM bR:=sR h (rH h.all e).1
variable {aH:Int}
def ui (h:dM a') (e:nH a'=some (aH,bR)):dM bR:=sR h<|Gb h.all e
def M3 {p:Tx×Tx} (h:dM a') (e:m1 a'=some (p,bR)):dM bR:=sR h<|rB (mod:=p.1) (nm:=p.2) h.all e
def p3 (h:dM a') (e:bf Z a'=some (iQ,bR)):dM bR:=sR h<|xj Z a' iQ bR h.all e
def p4 (h:dM a') (e:bf Z a'=some (iQ,bR)):bR.length+1<=a'.length:=by
 have a:=(xj Z a' iQ bR h.all e).2;have b:=SC iQ;rw [a]
 cases c:kG iQ with
 | nil=>exact absurd c b
 | cons y t=>simp
def UD (h:iP[Z]? = some ck):iP.drop Z=ck::iP.drop (Z+1):=by
 obtain ⟨hi,e⟩:=cq.1 h;rw [<-e];exact pt hi
def p5:au prog 227 0=some 0:=ab
def sS:gX prog 229=some []:=ab
def sT:zeroOf prog 229=some (.agg #[]):=ab
def sU:prog.concrete 229=true:=ab
def UE:BB prog 234 2=some 2:=ab
def UF:BB prog 234 1=some 1:=ab
def UG (c:Nat) (d:View) (r:Option Addr×Nat) (l:Tk) (s:Tx) (w:World) (f:Sl dY 3 d r.1 r.2 l) (g:Ws w (List.flatMap aQ.ids<|bA c r l) (bA c r l) [d] w) :
   Calls prog 209 #[.pointer (some ⟨c,0,none⟩),st s] w λe j=>∃i:Bool×(Option Addr×Nat)×Tk,e = .returned (.bool i.1)/\((i.1=true->bN s l=some i.2.2)/\(i.1=false->bN s l=none/\l=i.2.2)/\Sl dY 3 d i.2.1.1 i.2.1.2 i.2.2)/\Ws w (List.flatMap aQ.ids<|bA c r l) (bA c i.2.1 i.2.2) [d] j:=by
 have n:=f.cap;have z:=f.max;have k:=f.drop 1;refine enter func209 O 33 O O ?_;refine CE g<|ae<|ag O<|ad<|ae<|ac O<|I (bw O)<|I (Yf p5 O)<|I (Yd 0 O O O ab) ?_;refine I (Yn rO O)<|I (eh O O)<|ac O ?_;apply La 9 (x:=((l.head?.map λt=>t.text==s).getD false)) O O O O Y O O O O O
 ·intro o
  obtain ⟨t,a,rfl⟩:∃t a,l=t::a:=by
    cases l with
    | nil=>simp at o
    | cons t a=>exact ⟨t,a,rfl⟩
  obtain ⟨p,q,u,m⟩:=f.b5 0 t rfl;have m:ar d p (q+0*3) t.cells:=m;refine Vg (Ym O)<|Vg (bw O)<|Vg (Yf p5 O)<|Vg (Yd 0 O O O ab)<|Vg (Yo (i:=0) rO O O u ai)<|Vg (Yf TS O)<|Vg (eQ 0 ab O O<|m 2 _ O)<|Vg (Ym O) ?_;refine Vg (yn O O) ?_;exact Gt 9 O O O
 refine ag O<|ad<|Cs<|ae<|ac O<|ad ?_;refine Cc O (λb=>?_)<|λb=>?_
 ·obtain ⟨t,a,rfl⟩:∃t a,l=t::a:=by
    cases l with
    | nil=>simp at b
    | cons t a=>exact ⟨t,a,rfl⟩
  have v:(t.text==s)=true:=by simpa using b
  have k:=k ai;refine Cr<|ac O<|ac O<|I (bw O)<|I (Yf p5 O)<|I (Yd 0 O O O ab)<|I (yD 1 rO O O O ai n)<|I (bw O) ?_;refine I (Yf p5 O)<|aT 0 Y O O O MZ O O O<|ad<|ae<|ac O<|ag O<|ad<|am ?_;refine R1 O O λj g=>?_;exact ⟨(true,(if r.2-1=0 then r.1 else r.1.map (·.add<|1*3),r.2-1),a),by rw [b],⟨λ_=>by rw [tW,ZZ v],λh=>(by cases h),k⟩,g⟩
 have y:bN s l=none:=by
   cases l with
   | nil=>rfl
   | cons t a=>rw [tW,ZX]; intro h; simp [h] at b
 refine bW<|ae<|ac O<|ag O<|ad<|am ?_;refine R1 O O λj g=>?_;exact ⟨(false,r,l),by rw [b],⟨λh=>(by cases h),λ_=>⟨y,O⟩,f⟩,g⟩
def iA (a:Nat) (b:View) (r:Option Addr×Nat) (l:Tk) (s:Tx) (c:Sl dY 3 b r.1 r.2 l):Mt prog 209 [.pointer (some ⟨a,0,none⟩),st s] ((bA a r l)) [b] (ι:=Bool×(Option Addr×Nat)×Tk) (λi=>.bool i.1) (λi=>bA a i.2.1 i.2.2) (λi=>(i.1=true->bN s l=some i.2.2)/\(i.1=false->bN s l=none/\l=i.2.2)/\Sl dY 3 b i.2.1.1 i.2.1.2 i.2.2):=⟨aF,λw d=>UG a b r l s w c d⟩
def UH (c:Nat) (d:View) (r:Option Addr×Nat) (l:Tk) (f:View) (a:Option Addr) (n:Nat) (b:List Tx) (w:World) (m:Sl rdStr 1 f a n b) (A:Sl dY 3 d r.1 r.2 l) (i:Ws w (List.flatMap aQ.ids<|bA c r l) (bA c r l) [d,f] w) :
   Calls prog 207 #[.pointer (some ⟨c,0,none⟩),.slice a b.length n] w λe j=>(∃(r2:Option Addr×Nat) (q:Tk),e = .returned (.tuple #[])/\kJ b l=some q/\Sl dY 3 d r2.1 r2.2 q/\Ws w (List.flatMap aQ.ids<|bA c r l) (bA c r2 q) [d,f] j)\/(∃(r2:Option Addr×Nat) (q:Tk),e = .panicked ho/\kJ b l=none/\Ws w (List.flatMap aQ.ids<|bA c r l) (bA c r2 q) [d,f] j):=by
 have K:=m.cap;have L:=m.max;refine enter func207 O 19 O O ?_;refine CE i<|ae<|ac O<|I (Yn fQ O)<|ac O<|ad<|Cb ?_;refine ey (ι:=Nat×(Option Addr×Nat)×Tk) (λg=>[(8,.int .i64 (g.1:Int))]) [(0,_),(6,_),(7,_)] (λg=>Ws w (List.flatMap aQ.ids<|bA c r l) (bA c g.2.1 g.2.2) [d,f]) (λg=>g.1<=b.length/\kJ b l=kJ (b.drop g.1) g.2.2/\Sl dY 3 d g.2.1.1 g.2.1.2 g.2.2) (λg=>b.length-g.1) (0,r,l) ⟨di _,O,A⟩ ay ?_;intro g ⟨hi,k,t⟩;refine ae<|I (cI O O)<|ad<|Cs ?_;refine Cc O (λo=>?_)<|λo=>?_
 ·have B:g.1<b.length:=by simpa using o
  obtain ⟨x,u⟩:=cR B;obtain ⟨C,D,M,p⟩:=m.b5 g.1 x u;have p:ar f C (D+g.1*1) (gk x):=p;have v:=UD u;refine bW<|Cs<|Cb<|ae<|I (Yo fQ O O x_ aa)<|I (eQ 1 ab O O<|p 0 _ O)<|ag O<|ad<|ae<|ac O<|ac O ?_;refine WL.kw (iA c d g.2.1 g.2.2 x t) ?_;intro ⟨N,y,z⟩ ⟨E,F,G⟩;refine I (gW O)<|ad ?_;refine Cc O (λs=>?_)<|λs=>?_
  ·obtain ⟨H,P⟩:=F (by simpa using s);refine Cr<|I (Yb sT sS O O)<|I (pB sU O) ?_;refine WL.panic Y O ?_;refine WE.bS<|Ep<|Ep<|WE.bS ?_;refine bE λj i=>?_;exact .inr ⟨y,z,O,by rw [k,v,UC H],(by have h:=i; exact h)⟩
  have J:=E (by simpa using s);refine Ck<|Eb<|Et<|Cr<|I (Yi O O O aa)<|ac O<|Ln ?_;exact c8 ((g.1+1,y,z):Nat×(Option Addr×Nat)×Tk) (by show b.length-(g.1+1)<b.length-g.1; omega) ⟨by show g.1+1<=b.length; omega,by rw [k,v,UB J],G⟩ ay
 have Q:¬g.1<b.length:=by simpa using o
 rw [uL aa] at k;refine Ce<|Ex<|Ex<|dQ ?_;refine E0 O λj i=>?_;exact .inl ⟨g.2.1,g.2.2,O,by rw [k]; rfl,t,i⟩
def i6 (b:Nat) (d:View) (r:Option Addr×Nat) (l:Tk) (f:View) (a:Option Addr) (n:Nat) (c:List Tx) (m:Sl rdStr 1 f a n c) (o:Sl dY 3 d r.1 r.2 l):vH prog 207 [.pointer (some ⟨b,0,none⟩),.slice a c.length n] ((bA b r l)) [d,f] (ι:=(Option Addr×Nat)×Tk) (κ:=(Option Addr×Nat)×Tk) (λ_=>.tuple #[]) (λi=>bA b i.1 i.2) (λi=>kJ c l=some i.2/\Sl dY 3 d i.1.1 i.1.2 i.2) (λ_=>ho) (λi=>bA b i.1 i.2) (λ_=>kJ c l=none):=⟨aF,λw p=>(UH b d r l f _ _ c w m o p).mono λe t h=>by
   rcases h with ⟨r2,q,g,j,k,s⟩ | ⟨r2,q,g,j,k⟩
   · exact .inl ⟨(r2,q),g,⟨j,k⟩,s⟩
   · exact .inr ⟨(r2,q),g,j,k⟩⟩
def UI (b:Nat) (c:View) (r:Option Addr×Nat) (l:Tk) (k:Int) (w:World) (f:Sl dY 3 c r.1 r.2 l) (g:Ws w (List.flatMap aQ.ids<|bA b r l) (bA b r l) [c] w) :
   Calls prog 259 #[.pointer (some ⟨b,0,none⟩),.int .i64 k] w λe m=>(∃(t:Tok) (r2:Option Addr×Nat) (q:Tk),e = .returned (.agg #[.int .i64 t.kind,.int .i64 t.n,st t.text])/\nG k l=some (t,q)/\Sl dY 3 c r2.1 r2.2 q/\Ws w (List.flatMap aQ.ids<|bA b r l) (bA b r2 q) [c] m)\/(∃(r2:Option Addr×Nat) (q:Tk),e = .panicked ho/\nG k l=none/\Ws w (List.flatMap aQ.ids<|bA b r l) (bA b r2 q) [c] m):=by
 have v:=f.cap;have C:=f.max;have o:=f.drop 1;refine enter func259 O 40 O O ?_;refine CE g<|ae ?_;refine Al Y O vI λD=>?_;refine ad<|Cs<|ae<|ac O<|I (bw O)<|I (Yf p5 O)<|I (Yd 1 O O O ab)<|I (Yn rO O)<|I (bz O O)<|ac O ?_;apply Lo 9 (x:=(!((l.head?.map λt=>t.kind==k).getD false))) O O O O Y O O O O O
 ·intro y
  obtain ⟨t,a,rfl⟩:∃t a,l=t::a:=by
    cases l with
    | nil=>simp at y
    | cons t a=>exact ⟨t,a,rfl⟩
  obtain ⟨p,s,u,d⟩:=f.b5 0 t rfl;have d:ar c p (s+0*3) t.cells:=d;refine Vg (Ym O)<|Vg (bw O)<|Vg (Yf p5 O)<|Vg (Yd 1 O O O ab)<|Vg (Yo (i:=0) rO O O u ai)<|Vg (Yf My O)<|Vg (eQ 0 ab O O<|d 0 _ O)<|Vg (Ym O) ?_;refine Vg (h9 O O) ?_;exact Gt 9 O O O
 refine ad ?_;refine Cc O (λj=>?_)<|λj=>?_
 ·have z:nG k l=none:=by
    cases l with
    | nil=>rfl
    | cons t a=>
      simp only [nG];rw [ZX];intro h;simp [h] at j;omega
  refine Cr<|I (Yb sT sS O O)<|I (pB sU O) ?_;refine WL.panic Y O ?_;refine Ep ?_;refine bE λm g=>?_;exact .inr ⟨r,l,O,z,(by have h:=g; have h:=h.aj 1 O; have h:=Wt 1 h; exact h)⟩
 obtain ⟨t,a,rfl⟩:∃t a,l=t::a:=by
   cases l with
   | nil=>simp at j
   | cons t a=>exact ⟨t,a,rfl⟩
 have A:t.kind=k:=by simp at j; exact j.2
 have B:nG k (t::a)=some (t,a):=by simp only [nG]; rw [ZZ A]
 have o:=o ai;obtain ⟨p,s,u,d⟩:=f.b5 0 t rfl;have d:ar c p (s+0*3) t.cells:=d;refine bW<|ae<|ac O<|I (bw O)<|I (Yf p5 O)<|I (Yd 1 O O O ab)<|I (Yo (i:=0) rO O O u ai)<|I (dz 0 xw O O O<|d) ?_;refine Al Y O vI λE=>?_;refine aT 0 Y O O O zC O O O<|ad<|ae<|ac O<|ac O<|I (bw O)<|I (Yf p5 O)<|I (Yd 2 O O O ab)<|I (yD 1 rO O O O ai v) ?_;refine I (bw O)<|I (Yf p5 O)<|aT 2 Y O O O MZ O O O<|ad<|ae<|I (db 0 O O xw O)<|aT 1 Y O O O zC O O O<|ad<|am ?_;refine WE.aau (iF O<|eM 1 O O xw O) λm g=>?_;exact .inl ⟨t,(if r.2-1=0 then r.1 else r.1.map (·.add<|1*3),r.2-1),a,O,B,o,Wd 2 g⟩
def M4 (a:Nat) (b:View) (r:Option Addr×Nat) (l:Tk) (k:Int) (g:Sl dY 3 b r.1 r.2 l):vH prog 259 [.pointer (some ⟨a,0,none⟩),.int .i64 k] ((bA a r l)) [b] (ι:=Tok×(Option Addr×Nat)×Tk) (κ:=(Option Addr×Nat)×Tk) (λi=>.agg #[.int .i64 i.1.kind,.int .i64 i.1.n,st i.1.text]) (λi=>bA a i.2.1 i.2.2) (λi=>nG k l=some (i.1,i.2.2)/\Sl dY 3 b i.2.1.1 i.2.1.2 i.2.2) (λ_=>ho) (λi=>bA a i.1 i.2) (λ_=>nG k l=none):=⟨aF,λw j=>(UI a b r l k w g j).mono λe o h=>by
   rcases h with ⟨t,r2,q,c,d,f,m⟩ | ⟨r2,q,c,d,f⟩
   · exact .inl ⟨(t,r2,q),c,⟨d,f⟩,m⟩
   · exact .inr ⟨(r2,q),c,d,f⟩⟩
def UJ (a:Nat) (c:View) (r:Option Addr×Nat) (l:Tk) (w:World) (m:Sl dY 3 c r.1 r.2 l) (b:Ws w (List.flatMap aQ.ids<|bA a r l) (bA a r l) [c] w) :
   Calls prog 208 #[.pointer (some ⟨a,0,none⟩)] w λe d=>(∃(s:Tx) (r2:Option Addr×Nat) (q:Tk),e = .returned (st s)/\gZ l=some (s,q)/\Sl dY 3 c r2.1 r2.2 q/\Ws w (List.flatMap aQ.ids<|bA a r l) (bA a r2 q) [c] d)\/(∃(r2:Option Addr×Nat) (q:Tk),e = .panicked ho/\gZ l=none/\Ws w (List.flatMap aQ.ids<|bA a r l) (bA a r2 q) [c] d):=by
 refine enter func208 O 13 O O ?_;refine CE b<|ae<|ag O<|ad<|ae<|ac O ?_;refine WL.kx (M4 a c r l 1 m) ?_ ?_
 ·intro ⟨n,o⟩ p;refine Ep ?_;refine bE λd b=>?_;exact .inr ⟨n,o,O,by unfold gZ; rw [p]; rfl,(by have h:=b; exact h)⟩
 intro ⟨i,j,f⟩ ⟨k,t⟩;refine I (Jy UE O O)<|ag O<|ad<|Cs<|ae<|ac O<|Lp Y O aF O (λw b=>CL _ w)<|I (gW O)<|ad ?_;refine Cc O (λg=>?_)<|λg=>?_
 ·have u:gZ l=none:=by unfold gZ; rw [k]; simp only [cS]; rw [ZX (by simpa using g)]
  refine Cr<|I (Yb sT sS O O)<|I (pB sU O) ?_;refine WL.panic Y O ?_;refine Ep ?_;refine bE λd b=>?_;exact .inr ⟨j,f,O,u,(by have h:=b; exact h)⟩
 have v:gZ l=some (i.text,f):=by unfold gZ; rw [k]; simp only [cS]; rw [ZZ (by simpa using g)]
 refine bW<|ae<|ac O<|ag O<|ad<|am ?_;refine R1 O O λd b=>?_;exact .inl ⟨i.text,j,f,O,v,t,b⟩
def qU (a:Nat) (b:View) (r:Option Addr×Nat) (l:Tk) (g:Sl dY 3 b r.1 r.2 l):vH prog 208 [.pointer (some ⟨a,0,none⟩)] ((bA a r l)) [b] (ι:=(Tx)×(Option Addr×Nat)×Tk) (κ:=(Option Addr×Nat)×Tk) (λi=>st i.1) (λi=>bA a i.2.1 i.2.2) (λi=>gZ l=some (i.1,i.2.2)/\Sl dY 3 b i.2.1.1 i.2.1.2 i.2.2) (λ_=>ho) (λi=>bA a i.1 i.2) (λ_=>gZ l=none):=⟨aF,λw j=>(UJ a b r l w g j).mono λe m h=>by
   rcases h with ⟨t,r2,q,c,d,f,k⟩ | ⟨r2,q,c,d,f⟩
   · exact .inl ⟨(t,r2,q),c,⟨d,f⟩,k⟩
   · exact .inr ⟨(r2,q),c,d,f⟩⟩
def UK (a:Nat) (b:View) (r:Option Addr×Nat) (l:Tk) (w:World) (f:Sl dY 3 b r.1 r.2 l) (c:Ws w (List.flatMap aQ.ids<|bA a r l) (bA a r l) [b] w) :
   Calls prog 260 #[.pointer (some ⟨a,0,none⟩)] w λe d=>(∃(n:Int) (r2:Option Addr×Nat) (q:Tk),e = .returned (.int .i64 n)/\nH l=some (n,q)/\Sl dY 3 b r2.1 r2.2 q/\Ws w (List.flatMap aQ.ids<|bA a r l) (bA a r2 q) [b] d)\/(∃(r2:Option Addr×Nat) (q:Tk),e = .panicked ho/\nH l=none/\Ws w (List.flatMap aQ.ids<|bA a r l) (bA a r2 q) [b] d):=by
 refine enter func260 O 6 O O ?_;refine CE c<|ae<|ag O<|ad<|ae<|ac O ?_;refine WL.kx (M4 a b r l 2 f) ?_ ?_
 ·intro ⟨g,i⟩ j;refine Ep ?_;refine bE λd c=>?_;exact .inr ⟨g,i,O,by unfold nH; rw [j]; rfl,(by have h:=c; exact h)⟩
 intro ⟨k,m,o⟩ ⟨p,s⟩;refine I (Jy UF O O)<|ag O<|ad<|am ?_;refine R1 O O λd c=>?_;exact .inl ⟨k.n,m,o,O,by unfold nH; rw [p]; rfl,s,c⟩
def ut (a:Nat) (b:View) (r:Option Addr×Nat) (l:Tk) (g:Sl dY 3 b r.1 r.2 l):vH prog 260 [.pointer (some ⟨a,0,none⟩)] ((bA a r l)) [b] (ι:=(Int)×(Option Addr×Nat)×Tk) (κ:=(Option Addr×Nat)×Tk) (λi=>.int .i64 i.1) (λi=>bA a i.2.1 i.2.2) (λi=>nH l=some (i.1,i.2.2)/\Sl dY 3 b i.2.1.1 i.2.1.2 i.2.2) (λ_=>ho) (λi=>bA a i.1 i.2) (λ_=>nH l=none):=⟨aF,λw j=>(UK a b r l w g j).mono λe m h=>by
   rcases h with ⟨t,r2,q,c,d,f,k⟩ | ⟨r2,q,c,d,f⟩
   · exact .inl ⟨(t,r2,q),c,⟨d,f⟩,k⟩
   · exact .inr ⟨(r2,q),c,d,f⟩⟩
def UL (a:Nat) (c:View) (r:Option Addr×Nat) (l:Tk) (w:World) (v:dM l) (x:Sl dY 3 c r.1 r.2 l) (b:Ws w (List.flatMap aQ.ids<|bA a r l) (bA a r l) [c] w) :
   Calls prog 314 #[.pointer (some ⟨a,0,none⟩)] w λe d=>(∃(p:Tx×Tx) (r2:Option Addr×Nat) (q:Tk),e = .returned (.tuple #[st p.1,st p.2])/\m1 l=some (p,q)/\Sl dY 3 c r2.1 r2.2 q/\Ws w (List.flatMap aQ.ids<|bA a r l) (bA a r2 q) [c] d)\/(∃(r2:Option Addr×Nat) (q:Tk),e = .panicked ho/\m1 l=none/\Ws w (List.flatMap aQ.ids<|bA a r l) (bA a r2 q) [c] d):=by
 refine enter func314 O 13 O O ?_;refine CE b<|ae<|ag O<|ag O<|ad<|ae<|ac O ?_;refine WL.kx (qU a c r l x) ?_ ?_
 ·intro ⟨g,i⟩ j;refine Ep ?_;refine bE λd b=>?_;exact .inr ⟨g,i,O,by unfold m1; rw [j]; rfl,(by have h:=b; exact h)⟩
 intro ⟨n,y,o⟩ ⟨f,z⟩;have A:=qT v f;refine ag O<|ad<|Cs<|ae<|ac O ?_;refine WL.kw (iA a c y o [46] z) ?_;intro ⟨L,s,B⟩ ⟨C,D,t⟩;refine ad ?_;refine Cc O (λk=>?_)<|λk=>?_
 ·have m:=C k;have E:=i4 A m;refine ae<|ac O<|ac O ?_;refine WL.kx (qU a c s B t) ?_ ?_
  ·intro ⟨g,i⟩ j;refine Ep<|Ep ?_;refine bE λd b=>?_;exact .inr ⟨g,i,O,by unfold m1; rw [f]; simp only [cS]; rw [m]; simp only; rw [j]; rfl,(by have h:=b; exact h)⟩
  intro ⟨F,G,H⟩ ⟨u,I⟩;have M:=qT E u;refine ag O<|ag O<|ad<|am<|Er ?_;refine WE.ng O O O λd b=>?_;exact .inl ⟨(n,F),G,H,O,by unfold m1; rw [f]; simp only [cS]; rw [m]; simp only; rw [u]; rfl,I,b⟩
 obtain ⟨J,K⟩:=D k;subst K;refine bW<|ae<|ac O<|ag O<|ag O<|ad<|am ?_;refine WE.ng O O O λd b=>?_;exact .inl ⟨([],n),s,o,O,by unfold m1; rw [f]; simp only [cS]; rw [J],t,b⟩
def M5 (a:Nat) (b:View) (r:Option Addr×Nat) (l:Tk) (g:dM l) (j:Sl dY 3 b r.1 r.2 l):vH prog 314 [.pointer (some ⟨a,0,none⟩)] ((bA a r l)) [b] (ι:=(Tx×Tx)×(Option Addr×Nat)×Tk) (κ:=(Option Addr×Nat)×Tk) (λi=>.tuple #[st i.1.1,st i.1.2]) (λi=>bA a i.2.1 i.2.2) (λi=>m1 l=some (i.1,i.2.2)/\Sl dY 3 b i.2.1.1 i.2.1.2 i.2.2) (λ_=>ho) (λi=>bA a i.1 i.2) (λ_=>m1 l=none):=⟨aF,λw k=>(UL a b r l w g j k).mono λe n h=>by
   rcases h with ⟨t,r2,q,c,d,f,m⟩ | ⟨r2,q,c,d,f⟩
   · exact .inl ⟨(t,r2,q),c,⟨d,f⟩,m⟩
   · exact .inr ⟨(r2,q),c,d,f⟩⟩
abbrev XE:=bT×Option Addr×Nat
def XE.cells (e:XE):List Value:=u9 e.1 e.2.1 e.2.2
def XE.cD (e:XE):(XE.cells e).length=5:=rfl
def XE.one (e:XE):(XE.cells e).all (·.oneCell')=true:=rfl
def lz (a:View) (b o:Nat) (e:XE):Prop:=ar a b o<|XE.cells e
def iB (J:View) (f:Nat) (es:List XE):Prop:=∀e ∈ es,Sl (js f) 5 J e.2.1 e.2.2 e.1.args
def iB.nil (J:View) (f:Nat):iB J f []:=by intro e h; simp at h
variable {an b4 gz:View} {zH:List XE}
def iB.snoc {e:XE} (h:iB an Z zH) (d:bG an gz) (f:bG b4 gz) (g:Sl (js Z) 5 b4 e.2.1 e.2.2 e.1.args):iB gz Z (zH++[e]):=by
 intro x a
 rcases ge.1 a with a | a
 · exact (h x a).imp λb o y c=>wQ d (cQ _) b o y c
 · rw [gU] at a
   subst a;exact g.imp λb o y c=>wQ f (cQ _) b o y c
variable {aw:Nat} {dj:Option Addr}
def lA (h:Sl lz 5 an dj aw zH) (hv:bG an gz) (d:bG b4 gz) (f:iB b4 Z zH):Sl (js<|Z+1) 5 gz dj aw (zH.map (·.1)):=by
 refine ⟨by simpa using h.cap,h.max,h.spot,λi x a=>?_⟩;rw [e4] at a;obtain ⟨e,c,rfl⟩:=dS.1 a;obtain ⟨b,o,g,j⟩:=h.b5 i e c;exact ⟨b,o,g,e.2.1,e.2.2,ar.mono hv j,(f e<|az c).imp λb o y k=>wQ d (cQ _) b o y k⟩
def zK (h:Sl (js Z) 5 an dj aw e_) (hv:bG an b4):Sl (js Z) 5 b4 dj aw e_:=h.imp λb o y a=>wQ hv (cQ _) b o y a
structure GA where
 es:List XE
 a:Option Addr
 c:Nat
 J:View
 r:Option Addr×Nat
 q:Tk
def CR (b:View) (f:Nat):Prop:=∀(a:Nat) (r:Option Addr×Nat) (l:Tk) (d:Nat) (w:World),f+d=7->dM l->Sl dY 3 b r.1 r.2 l->Ws w (List.flatMap aQ.ids<|bA a r l) (bA a r l) [b] w->
 Calls prog 313 #[.pointer (some ⟨a,0,none⟩),.int .i64 (d:Int)] w λe c=>(∃(x:bT) (s:Option Addr×Nat) (r2:Option Addr×Nat) (q:Tk),e = .returned (.agg #[.int .i64 (x).op,.int .i64 (x).n,st (x).mod,st (x).nm,.slice s.1 (x).args.length s.2])/\bf f l=some (x,q)/\Sl (js f) 5 (nv w c) s.1 s.2 x.args/\Sl dY 3 b r2.1 r2.2 q/\Ws w (List.flatMap aQ.ids<|bA a r l) (bA a r2 q) [b] c)\/(∃(r2:Option Addr×Nat) (q:Tk),e = .panicked ho/\bf f l=none/\Ws w (List.flatMap aQ.ids<|bA a r l) (bA a r2 q) [b] c)
variable {aas:Tk->Option (bT×Tk)} {hP:Tk}
def UM (a:aas a'=some (iQ,bR)) (b:bN [41] bR=some hP):mC aas (Z+1) a'=some ([iQ],hP):=by rw [mC,a]; simp only [cS]; rw [b]
def UN (a:aas a'=some (iQ,bR)) (b:bN [41] bR=none) (c:bN [44] bR=some hP):mC aas (Z+1) a'=(mC aas Z hP).map λp=>(iQ::p.1,p.2):=by rw [mC,a]; simp only [cS]; rw [b]; simp only; rw [c]
def UO (a:aas a'=some (iQ,bR)) (b:bN [41] bR=none) (c:bN [44] bR=none):mC aas (Z+1) a'=none:=by rw [mC,a]; simp only [cS]; rw [b]; simp only; rw [c]
def UP (a:aas a'=none):mC aas (Z+1) a'=none:=by rw [mC,a]; rfl
def M7:∀(a:List Tx) (i k:Nat) (w:Tx) (l q:Tk),a[i]? = some w->(∀j v,j<i->a[j]? = some v->bN v l=none)->bN w l=some q->du a k l=some (k+i,q)
 | [],i,k,w,l,q,h,_,_=>by simp at h
 | v::a,0,k,w,l,q,h,_,b=>by
   simp at h; subst h;rw [du,b]; rfl
 | v::a,i+1,k,w,l,q,h,c,b=>by
   rw [du,c 0 v aa rfl];simp only;rw [M7 a i (k+1) w l q (by simpa using h) (λj u e d=>c (j+1) u aa (by simpa using d)) b]
   congr 2
   omega
def M8:∀(a:List Tx) (k:Nat) (l:Tk),(∀w ∈ a,bN w l=none)->du a k l=none
 | [],_,_,_=>rfl
 | w::a,k,l,h=>by
   rw [du,h w ai];exact M8 a (k+1) l λv hv=>h v<|dT _ hv
def UQ (h:opsL[Z]? = some ck):((opsL.map st).toArray)[Z]? = some (st ck):=by
 rw [List.getElem?_toArray,e4,h]; rfl
def lB:hf prog 237 239 (.agg #[.int .i64 0,.int .i64 0,st [],st [],.slice none 0 0]) 5 72:=jb ab
def p6 (g:CR an Z) (a:Nat) (r:Option Addr×Nat) (l:Tk) (d:Nat) (u:Z+d=7) (j:dM l) (k:Sl dY 3 an r.1 r.2 l):Mu prog 313 [.pointer (some ⟨a,0,none⟩),.int .i64 (d:Int)] (bA a r l) [an] (ι:=(bT×(Option Addr×Nat))×(Option Addr×Nat)×Tk) (κ:=(Option Addr×Nat)×Tk) (λi=>.agg #[.int .i64 (i.1.1).op,.int .i64 (i.1.1).n,st (i.1.1).mod,st (i.1.1).nm,.slice i.1.2.1 (i.1.1).args.length i.1.2.2]) (λi=>bA a i.2.1 i.2.2) (λm i=>bf Z l=some (i.1.1,i.2.2)/\Sl (js Z) 5 m i.1.2.1 i.1.2.2 i.1.1.args/\Sl dY 3 an i.2.1.1 i.2.1.2 i.2.2) (λ_=>ho) (λi=>bA a i.1 i.2) (λ_=>bf Z l=none):=⟨⟨aF,λ_ _ h=>h⟩,λw o=>(g a r l d w aa j k o).mono λe v h=>by
   rcases h with ⟨x,s,r2,q,b,c,f,p,t⟩ | ⟨r2,q,b,c,f⟩
   · exact .inl ⟨((x,s),r2,q),b,⟨c,f,p⟩,t⟩
   · exact .inr ⟨(r2,q),b,c,f⟩⟩
def M9 (i:Nat) (b:View) (r:Option Addr×Nat) (l:Tk) (f d:Nat) (w:World) (ao:CR b f) (ap:f+d=7) (y:dM l) (ar:Sl dY 3 b r.1 r.2 l) (j:Ws w (List.flatMap aQ.ids<|bA i r l) (bA i r l) [b] w) :
   Calls prog 315 #[.pointer (some ⟨i,0,none⟩),.int .i64 (d:Int)] w λe u=>(∃(xs:List bT) (s:Option Addr×Nat) (r2:Option Addr×Nat) (q:Tk),e = .returned (.slice s.1 xs.length s.2)/\l4 (bf f) l=some (xs,q)/\Sl (js<|f+1) 5 (nv w u) s.1 s.2 xs/\Sl dY 3 b r2.1 r2.2 q/\Ws w (List.flatMap aQ.ids<|bA i r l) (bA i r2 q) [b] u)\/(∃(r2:Option Addr×Nat) (q:Tk),e = .panicked ho/\l4 (bf f) l=none/\Ws w (List.flatMap aQ.ids<|bA i r l) (bA i r2 q) [b] u):=by
 refine enter func315 O 21 O O ?_;refine CE j<|ae<|ag O<|ad<|ae<|ag O<|LW (λ_ h=>h.g4 239 5) ?_;refine WL.v0 ?_;refine ad<|Cs<|ae<|ac O<|Lf 1 O ?_;refine WL.kw (iA i b r l [41] ar) ?_;intro ⟨aP,I,au⟩ ⟨av,aw,K⟩;refine ad ?_;refine Cc O (λB=>?_)<|λB=>?_
 ·have L:=av B;have aR:=i4 y L;refine ae<|ac O<|ag O<|ad<|am<|Er ?_;refine R1 O O λu j=>?_;exact .inl ⟨[],(none,0),I,au,O,by rw [l4,L],Sl.nil,K,Wv 1<|Wt 1 j⟩
 obtain ⟨ax,ay⟩:=aw B;subst ay;refine bW<|Cb ?_;refine ey (ι:=GA) (λg=>[(5,.slice g.a g.es.length g.c)]) [(0,_),(1,_)] (λg=>Ws w (List.flatMap aQ.ids<|bA i r l) (bA i g.r g.q++[cC 239 5 XE.cells g.a g.c g.es]) [g.J,b]) (λg=>(g.es.length+g.q.length<=l.length/\dM g.q)/\Sl dY 3 b g.r.1 g.r.2 g.q/\(gw w g.J/\iB g.J f g.es)/\∃n,g.q.length<n/\l4 (bf f) l=(mC (bf f) n g.q).map λp=>(g.es.map (·.1)++p.1,p.2)) (λg=>g.q.length) ⟨[],none,0,v0,I,l⟩ ⟨⟨ai,y⟩,K,⟨rj w,iB.nil _ _⟩,l.length+1,ai,by rw [l4,ax]; simp⟩ (λ_ h=>by have h:=Ws.aB h (b7:=[v0,b]) ai; exact h) ?_;intro g ⟨⟨aS,C⟩,az,⟨M,N⟩,o⟩;refine Cb<|ae<|ac O<|ac O<|ac O ?_;refine WL.ke (p6 (ao) i g.r g.q d ap C az) ?_ ?_
 ·intro ⟨D,E⟩ F;refine Ep<|WE.bS<|Ep<|WE.bS ?_;refine bE λu j=>?_;obtain ⟨n,P,o⟩:=o;obtain ⟨n,rfl⟩:∃k,n=k+1:=⟨n-1,aa⟩;exact .inr ⟨D,E,O,by rw [o,UP F]; rfl,(by have h:=j; have h:=Wt 1 h; have h:=Ws.aB h (b7:=[b]) ai; exact h)⟩
 intro aT ⟨⟨z,t⟩,aA,A⟩ Q ⟨v,R,aC⟩;have S:dM A:=p3 C v;have aU:A.length+1<=List.length (g.q):=p4 C v;refine WL.j' λU V W X=>?_;refine Lb Y O lB O O O O λaV=>?_;refine dk 0 (.cells (XE.cells (z,t.1,t.2)).toArray 239 (0,0)) O O ?_;refine LA ((z,t.1,t.2):XE) 2 0 Y O lB O O O O O O (by have:=y.len; omega) (by have:=y.len; omega) λZ ab=>?_;refine ag O<|ad<|Cs<|ae<|ac O<|Lf 1 O ?_;refine WL.kw (iA i b aA A [41] aC) ?_;intro ⟨aW,af,aD⟩ ⟨aE,aF,ah⟩;refine ad ?_;refine Cc O (λG=>?_)<|λG=>?_
 ·have ak:=aE G;have aX:=i4 S ak;obtain ⟨n,P,o⟩:=o;obtain ⟨n,rfl⟩:∃k,n=k+1:=⟨n-1,aa⟩;refine Cs ?_;refine WC.o1 (rd:=lz) 2 O (λk al=>by simp [bA,aq] at al; subst al; simp [fk,bA,aq,a6]) XE.cD dN λaY aH aI=>?_;refine Cr<|ac O<|ag O<|ad<|am<|Er<|cN<|Er<|cN ?_;refine R1 O O λu j=>?_;exact .inl ⟨(g.es++[(z,t.1,t.2)]).map (·.1),(Z,ab),af,aD,by rw [fu],by rw [o,UM v ak]; simp,lA aI (aG j ai aH) (aG j ai<|X _ Q M)<|iB.snoc N W V R,ah,Wv 2<|Wt 1 j⟩
 obtain ⟨an,aJ⟩:=aF G;subst aJ;obtain ⟨n,P,o⟩:=o;obtain ⟨n,rfl⟩:∃k,n=k+1:=⟨n-1,aa⟩;refine bW<|Cr<|ac O ?_;refine Lb Y O fw O O O O λaZ=>?_;refine ib (T:=9) (m:=1) 0 [[44]] O O (show 1<=1 by decide) a8 λaK aL=>?_;refine WL.kx (i6 i b af A aK _ _ [[44]] aL ah) ?_ ?_
 ·intro ⟨D,E⟩ F;refine WE.bS<|Ep<|WE.bS ?_;refine bE λu j=>?_;exact .inr ⟨D,E,O,by rw [o,UO v an ((fj _ _).symm.trans F)]; rfl,(by have h:=j; have h:=Wt 1 h; have h:=Ws.aB h (b7:=[b]) ai; exact h)⟩
 intro ⟨aM,H⟩ ⟨x,aN⟩;have aO:=i5 S x;refine Ln<|Eb ?_
 exact c8 (⟨g.es++[(z,t.1,t.2)],Z,ab,U,aM,H⟩:GA) (by have:=zI x; simp at this; show H.length<g.q.length; omega) ⟨⟨by have:=zI x; simp at this ⊢; omega,aO⟩,aN,⟨X _ Q M,iB.snoc N W V R⟩,n,(show H.length<n by have:=zI x; simp at this; omega),by rw [o,UN v an ((fj _ _).symm.trans x)]; simp [th]⟩ (λ_ h=>by
     have h:=h.aj 2 rfl;have h:=h.aj 1 rfl;have h:=Wt 2 h;have h:=Ws.aB h (b7:=[U,b]) ai
     exact h)
def UR (h:bN [105,110] a'=some bR):oz aas a'=some (bT.mk 2 0 [] [] [],bR):=by unfold oz; rw [show vw=[105,110] from rfl,h]
def M' (a:bN [105,110] a'=none) (h:bN [33] a'=some bR):oz aas a'=(aas bR).map λx=>(bT.mk 6 0 [] [] [x.1],x.2):=by unfold oz; rw [show vw=[105,110] from rfl,a]; simp only; rw [h]
def M_ (a:bN [105,110] a'=none) (b:bN [33] a'=none) (h:bN [40] a'=some bR):oz aas a'=nI aas bR:=by unfold oz; rw [show vw=[105,110] from rfl,a]; simp only; rw [b]; simp only; rw [h]
def vP (a:bN [105,110] a'=none) (b:bN [33] a'=none) (h:bN [40] a'=none):oz aas a'=(m1 a').bind λp=>pW aas p.1.1 p.1.2 p.2:=by unfold oz; rw [show vw=[105,110] from rfl,a]; simp only; rw [b]; simp only; rw [h]
variable {fi:Tx}
def uV (h:bN [91] a'=some bR):pW aas ck fi a'=(aas bR).bind λx=>(bN [93] x.2).map λr=>(bT.mk 4 0 ck fi [x.1],r):=by unfold pW; rw [h]
def Na {l q:Tk} (a:bN [91] l=none) (h:bN [40] l=some q):pW aas ck fi l=(l4 aas q).map λq=>(bT.mk 5 0 ck fi q.1,q.2):=by unfold pW; rw [a]; simp only; rw [h]
def US (a:bN [91] a'=none) (h:bN [40] a'=none):pW aas ck fi a'=some (bT.mk 3 0 ck fi [],a'):=by unfold pW; rw [a]; simp only; rw [h]
def UT (a:Z+aw=7) (h:6<aw\/a'=[]):bf Z a'=none:=by
 rcases h with h | rfl
 · obtain rfl:Z=0:=aa
   rfl
 · cases Z<;>rfl
variable {sV:Tok}
def UU (h:sV.kind=2):bf (Z+1) (sV::a')=some (bT.mk 1 sV.n [] [] [],a'):=by rw [bf,ZZ h]
def UV {f:Nat}  {r:Tk} (h:¬sV.kind=2):bf (f+1) (sV::r)=oz (bf f) (sV::r):=by rw [bf,ZX h]
def Nb (h:sV.kind=2):nH (sV::a')=some (sV.n,a'):=by simp [nH,nG,h]
def oE:gX prog 239=some [(0,1),(1,1),(2,1),(3,1),(4,1)]:=ab
def eI:aJ prog 237=some 1:=ab
def UW (b:Nat) (c:View) (r:Option Addr×Nat) (l:Tk) (f d:Nat) (w:World) (Q:CR c f) (R:f+d=7) (F:dM l) (af:Sl dY 3 c r.1 r.2 l) (a:Ws w (List.flatMap aQ.ids<|bA b r l) (bA b r l) [c] w) :
   Calls prog 349 #[.pointer (some ⟨b,0,none⟩),.int .i64 (d:Int)] w λe t=>(∃(x:bT) (s:Option Addr×Nat) (r2:Option Addr×Nat) (q:Tk),e = .returned (.agg #[.int .i64 (x).op,.int .i64 (x).n,st (x).mod,st (x).nm,.slice s.1 (x).args.length s.2])/\nI (bf f) l=some (x,q)/\Sl (js<|f+1) 5 (nv w t) s.1 s.2 x.args/\Sl dY 3 c r2.1 r2.2 q/\Ws w (List.flatMap aQ.ids<|bA b r l) (bA b r2 q) [c] t)\/(∃(r2:Option Addr×Nat) (q:Tk),e = .panicked ho/\nI (bf f) l=none/\Ws w (List.flatMap aQ.ids<|bA b r l) (bA b r2 q) [c] t):=by
 refine enter func349 O 35 O O ?_;refine CE a<|ae ?_;refine Al Y O jX λah=>?_;refine dk 0 (.cells (u9 (bT.mk 0 0 [] [] []) none 0).toArray 239 (0,0)) O O<|ad<|ae<|ac O<|ac O<|Lf 1 O ?_;refine WL.ke (p6 (Q) b r l d R F af) ?_ ?_
 ·intro ⟨y,z⟩ A;refine Ep ?_;refine bE λt a=>?_;exact .inr ⟨y,z,O,by rw [nI,A]; rfl,(by have h:=a; have h:=Wt 1 h; exact h)⟩
 intro ai ⟨⟨G,B⟩,aj,p⟩ ak ⟨u,al,an⟩;have ao:dM p:=p3 F u;have aV:p.length+1<=List.length (l):=p4 F u;refine Al Y O jX λap=>?_;refine aT 0 Y O O O nP O O O<|ad<|Cs<|ae<|Lp Y O aF O (λw a=>Uy w)<|ac O<|ad<|Cb ?_;refine ey (ι:=Nat×(Option Addr×Nat)) (λg=>[(13,.int .i64 (g.1:Int))]) [(0,_),(1,_),(4,_),(5,_),(12,_)] (λg=>Ws w (List.flatMap aQ.ids<|bA b r l) (bA b g.2 p++[aq ap (.cells (XE.cells (G,B.1,B.2)).toArray 239 (0,0)),aq ah (.cells (u9 (bT.mk 0 0 [] [] []) none 0).toArray 239 (0,0))]) [ai,c]) (λg=>g.1<=9/\(∀j v,j<g.1->opsL[j]? = some v->bN v p=none)/\Sl dY 3 c g.2.1 g.2.2 p) (λg=>9-g.1) (0,aj) ⟨di _,by simp,an⟩ (λ_ h=>(((h.f 2 O).f 1 O).f 2 O:)) ?_;intro g ⟨hi,H,ar⟩;refine ae<|I (cI O O)<|ad<|Cs ?_;refine Cc O (λJ=>?_)<|λJ=>?_
 ·have S:g.1<9:=by simp at J; omega
  obtain ⟨o,K⟩:∃o,opsL[g.1]? = some o:=⟨_,c6 (by show g.1<9; exact S)⟩;refine bW<|Cs<|Cb<|ae<|ac O<|I (xn (i:=g.1) Uu O O S<|UQ K)<|ag O<|ag O<|ad<|ae<|ac O<|ac O ?_;refine WL.kw (iA b c g.2 p o ar) ?_;intro ⟨aW,U,C⟩ ⟨au,av,V⟩;refine ad ?_;refine Cc O (λL=>?_)<|λL=>?_
  ·have W:=au L;have M:=i4 ao W
   have N:du opsL 0 p=some (g.1,C):=by rw [M7 opsL g.1 0 o p C K H W,lK]
   refine ae<|ac O<|ac O ?_;refine WL.ke (p6 (Q) b U C d R M V) ?_ ?_
   ·intro ⟨y,z⟩ A;refine Ep<|WE.bS<|Ep<|Ep<|WE.bS<|Ep ?_;refine bE λt a=>?_;exact .inr ⟨y,z,O,by rw [nI,u]; simp only [cS]; rw [N]; simp only [cS]; rw [A]; rfl,(by have h:=a; have h:=Wt 1 h; have h:=Ws.aB h (b7:=[c]) (by simp); exact h)⟩
   intro aX ⟨⟨X,Z⟩,aw,P⟩ ax ⟨D,ay,az⟩;have aA:dM P:=p3 M D;have aY:P.length+1<=List.length (C):=p4 M D;refine WL.j' λaC aD aE aH=>?_;refine Al Y O jX λaZ=>?_;refine aT 0 Y O O O nP O O O<|ad<|ae<|ac O ?_;refine Lb Y O fw O O O O λa0=>?_;refine ib (T:=9) (m:=1) 0 [[41]] O O (show 1<=1 by decide) (by decide) λaI aJ=>?_;refine Lf 1 O ?_;refine WL.kx (i6 b c aw P aI _ _ [[41]] aJ az) ?_ ?_
   ·intro ⟨y,z⟩ A;refine Ep<|WE.bS<|Ep<|Ep<|WE.bS<|Ep ?_;refine bE λt a=>?_;exact .inr ⟨y,z,O,by rw [nI,u]; simp only [cS]; rw [N]; simp only [cS]; rw [D]; simp only [cS]; rw [<-fj,A]; rfl,(by have h:=a; have h:=Wt 1 h; have h:=Ws.aB h (b7:=[c]) (by simp); exact h)⟩
   intro ⟨aK,aL⟩ ⟨aa,aM⟩;have a1:=i5 aA aa;refine ad<|ae<|ac O<|I (Ba ((7:Int)+(g.1:Int)) O O O (by omega))<|I (db 2 O O k6 O)<|I (db 1 O O k6 O) ?_;refine Lb Y O lB O O O O λaN=>?_;refine LN (rd:=lz) (f:=XE.cells) (m:=2) 0 [(G,B.1,B.2),(X,Z.1,Z.2)] O O (λk ab=>by simp [bA,aq] at ab; subst ab; simp [fk,bA,aq,a6]) XE.cD (λ_ _ _ _ h=>h) (show 2<=2 by decide) (by decide) λa2 aO aP=>?_;refine I (Yb jX oE O O)<|aT 3 Y O O O nP O O O<|ad<|am<|cN<|Er<|Er<|cN<|Er ?_;refine WE.aau (iF O<|eM 3 O O k6 O) λt a=>?_;exact .inl ⟨bT.mk (7+(g.1:Int)) 0 [] [] [G,X],(some ⟨aN,0,none⟩,2),aK,aL,O,by rw [nI,u]; simp only [cS]; rw [N]; simp only [cS]; rw [D]; simp only [cS]; rw [<-fj,aa]; rfl,lA aP (aG a (by simp) aO) (aG a (by simp)<|aH _ ax ak)<|((iB.nil aC f).snoc (bG.refl _) aE al).snoc (bG.refl _) aD ay,aM,Wv 3<|Wt 1 a⟩
  obtain ⟨aR,aS⟩:=av L;subst aS;refine Ck<|Eb<|Et<|Cr<|I (Yi O O O (by omega))<|ac O<|Ln ?_
  exact c8 ((g.1+1,U):Nat×(Option Addr×Nat)) (by show 9-(g.1+1)<9-g.1; omega) ⟨by show g.1+1<=9; omega,λj v E hv=>by
      rcases ne.1 E with h | rfl
      · exact H j v h hv
      · rw [K] at hv; injection hv with hv; subst hv; exact aR,V⟩<|λ_ h=>h
 have a3:¬g.1<9:=by simp at J; omega
 have aU:du opsL 0 p=none:=M8 _ _ _ λv hv=>by
   obtain ⟨j,E⟩:=iE hv;exact H j v (by have:=(cq.1 E).1; have:opsL.length=9:=rfl; omega) E
 refine Ce<|Ex<|Ex<|dQ<|Et<|Cr<|I (Yb sT sS O O)<|I (pB sU O) ?_;refine WL.panic Y O ?_;refine bE λt a=>?_;exact .inr ⟨g.2,p,O,by rw [nI,u]; simp only [cS]; rw [aU]; rfl,(by have h:=a; have h:=Wt 1 h; have h:=Ws.aB h (b7:=[c]) (by simp); exact h)⟩
def ug (c:View) (f:Nat) (b:Nat) (r:Option Addr×Nat) (l:Tk) (d:Nat) (w:World) (a0:f+d=7) (J:dM l) (L:Sl dY 3 c r.1 r.2 l) (a:Ws w (List.flatMap aQ.ids<|bA b r l) (bA b r l) [c] w) :
   Calls prog 313 #[.pointer (some ⟨b,0,none⟩),.int .i64 (d:Int)] w λe g=>(∃(x:bT) (s:Option Addr×Nat) (r2:Option Addr×Nat) (q:Tk),e = .returned (.agg #[.int .i64 (x).op,.int .i64 (x).n,st (x).mod,st (x).nm,.slice s.1 (x).args.length s.2])/\bf f l=some (x,q)/\Sl (js f) 5 (nv w g) s.1 s.2 x.args/\Sl dY 3 c r2.1 r2.2 q/\Ws w (List.flatMap aQ.ids<|bA b r l) (bA b r2 q) [c] g)\/(∃(r2:Option Addr×Nat) (q:Tk),e = .panicked ho/\bf f l=none/\Ws w (List.flatMap aQ.ids<|bA b r l) (bA b r2 q) [c] g):=by
 induction f using Nat.strongRecOn generalizing b r l d w
 rename_i f a1;have cg:=L.cap;have ch:=L.max;refine enter func313 O 83 O O ?_;refine CE a<|ae ?_;refine Al Y O jX λci=>?_;refine dk 0 (.cells (u9 (bT.mk 0 0 [] [] []) none 0).toArray 239 (0,0)) O O<|ad<|Cs<|ae<|ac O<|I (eh O O)<|ac O ?_;apply Lo 6 O O O O Y O O O O O
 ·intro cj;refine Vg (Ym O)<|Vg (bw O)<|Vg (Yf p5 O)<|Vg (Yd 1 O O O ab)<|Vg (Yn rO O)<|Vg (bz O O) ?_;exact Gt 6 O O O
 refine ad ?_;refine Cc O (λM=>?_)<|λM=>?_
 ·have a2:bf f l=none:=UT a0 (by
    simp at M
    rcases M with h | h
    · left; omega
    · right; exact h)
  refine Cr<|I (Yb sT sS O O)<|I (pB sU O) ?_;refine WL.panic Y O ?_;refine Ep ?_;refine bE λg a=>?_;exact .inr ⟨r,l,O,a2,(by have h:=a; have h:=h.aj 1 O; have h:=Wt 1 h; exact h)⟩
 have ck:¬6<d:=by
   intro h
   have v:(6:Int)<(d:Int):=aa
   simp [v] at M
 obtain ⟨f,rfl⟩:∃k,f=k+1:=⟨f-1,aa⟩
 obtain ⟨A,E,rfl⟩:∃t r,l=t::r:=by
   cases l with
   | nil=>simp at M
   | cons t r=>exact ⟨t,r,rfl⟩
 obtain ⟨a3,a4,a5,S⟩:=L.b5 0 A rfl;have S:ar c a3 (a4+0*3) A.cells:=S;have P:CR c f:=λb r l d w B v C N=>a1 f aa b r l d w B v C N;refine bW<|Cs<|Cb<|ae<|ac O<|I (bw O)<|I (Yf p5 O)<|I (Yd 1 O O O ab)<|I (Yo (i:=0) rO O O a5 ai)<|I (Yf My O)<|I (eQ 0 ab O O<|S 0 _ O) ?_;refine I (bz O O)<|ag O<|ad ?_;refine Cc O (λU=>?_)<|λU=>?_
 ·have y:A.kind=2:=by simpa using U
  refine ae<|ac O<|Lf 1 O ?_;refine WL.kx (ut b c r (A::E) L) ?_ ?_
  ·intro ⟨o,p⟩ j;refine Ep<|WE.bS<|Ep ?_;refine bE λg a=>?_;rw [Nb y] at j;cases j
  intro ⟨cl,a7,cm⟩ ⟨F,a9⟩;have cn:=ui J F;refine I (Yb jX oE O O) ?_;rw [Nb y] at F
  injection F with F
  injection F with a' F
  subst a';subst F;refine aT 1 Y O O O nP O O O<|ad<|am<|cN<|Er ?_;refine WE.aau (iF O<|eM 1 O O k6 O) λg a=>?_;exact .inl ⟨bT.mk 1 A.n [] [] [],(none,0),a7,E,O,UU y,Sl.nil,a9,Wt 1 a⟩
 have y:¬A.kind=2:=by simpa using U
 have u:=UV (f:=f) (r:=E) y;refine ae<|ac O<|Lf 1 O ?_;refine WL.kw (iA b c r (A::E) [105,110] L) ?_;intro ⟨co,aD,a_⟩ ⟨ba,bb,aE⟩;refine ag O<|ad ?_;refine Cc O (λV=>?_)<|λV=>?_
 ·have aH:=ba V;have cp:=i4 J aH;refine ae<|I (Yb jX oE O O)<|aT 1 Y O O O nP O O O<|ad<|am<|cN<|Er ?_;refine WE.aau (iF O<|eM 1 O O k6 O) λg a=>?_;exact .inl ⟨bT.mk 2 0 [] [] [],(none,0),aD,a_,O,by rw [u,UR aH],Sl.nil,aE,Wt 1 a⟩
 obtain ⟨z,bc⟩:=bb V;subst bc;refine ae<|ac O ?_;refine WL.kw (iA b c aD (A::E) [33] aE) ?_;intro ⟨cq,aI,aJ⟩ ⟨bd,be,aK⟩;refine ag O<|ad ?_;refine Cc O (λW=>?_)<|λW=>?_
 ·have X:=bd W;have Z:=i4 J X;refine ae<|ac O<|ac O<|I (Yi O O O aa) ?_;refine WL.ke (p6 (P) b aI aJ (d+1) aa Z aK) ?_ ?_
  ·intro ⟨o,p⟩ j;refine Ep<|WE.bS<|Ep ?_;refine bE λg a=>?_;exact .inr ⟨o,p,O,by rw [u,M' z X,j]; rfl,(by have h:=a; have h:=Wt 1 h; exact h)⟩
  intro bg ⟨⟨aL,aM⟩,bh,af⟩ bi ⟨ah,bj,bk⟩;have cr:dM af:=p3 Z ah;have cs:af.length+1<=List.length (aJ):=p4 Z ah;refine Lb Y O lB O O O O λbl=>?_;refine LN (rd:=lz) (f:=XE.cells) (m:=1) 0 [(aL,aM.1,aM.2)] O O (λk y=>by simp [bA,aq] at y; subst y; simp [fk,bA,aq,a6]) XE.cD dN (show 1<=1 by decide) a8 λct bm bn=>?_;refine I (Yb jX oE O O)<|aT 1 Y O O O nP O O O<|ad<|am<|cN<|Er ?_;refine WE.aau (iF O<|eM 1 O O k6 O) λg a=>?_;exact .inl ⟨bT.mk 6 0 [] [] [aL],(some ⟨bl,0,none⟩,1),bh,af,O,by rw [u,M' z X,ah]; rfl,lA bn (aG a ai bm) (aG a ai bi)<|(iB.nil bg f).snoc (bG.refl _) (bG.refl _) bj,bk,Wv 2<|Wt 1 a⟩
 obtain ⟨D,bo⟩:=be W;subst bo;refine ae<|ac O ?_;refine WL.kw (iA b c aI (A::E) [40] aK) ?_;intro ⟨cu,aN,ak⟩ ⟨bp,bq,aO⟩;refine ag O<|ad ?_;refine Cc O (λal=>?_)<|λal=>?_
 ·have an:=bp al;have br:=i4 J an;refine ae<|ac O<|ac O<|I (Yi O O O aa) ?_
  refine oZ (ι:=((bT)×(Option Addr×Nat))×(Option Addr×Nat)×Tk) (κ:=(Option Addr×Nat)×Tk) [_] _ Y O aF O O (λi=>.agg #[.int .i64 (i.1.1).op,.int .i64 (i.1.1).n,st (i.1.1).mod,st (i.1.1).nm,.slice i.1.2.1 (i.1.1).args.length i.1.2.2]) (λi=>bA b i.2.1 i.2.2) (λao i=>nI (bf f) ak=some (i.1.1,i.2.2)/\Sl (js<|f+1) 5 ao i.1.2.1 i.1.2.2 i.1.1.args/\Sl dY 3 c i.2.1.1 i.2.1.2 i.2.2) (λ_=>ho) (λi=>bA b i.1 i.2) (λ_=>nI (bf f) ak=none) ([c]) ai lH (λw a=>(UW b c aN ak f (d+1) w P aa br aO a).mono λe g h=>by
      rcases h with ⟨x,s,r2,q,B,v,C,N,ap⟩ | ⟨r2,q,B,v,C⟩
      · exact .inl ⟨((x,s),r2,q),B,⟨v,C,N⟩,ap⟩
      · exact .inr ⟨(r2,q),B,v,C⟩) ?_ ?_
  ·intro ⟨o,p⟩ j;refine Ep<|WE.bS<|Ep ?_;refine bE λg a=>?_;exact .inr ⟨o,p,O,by rw [u,M_ z D an,j],(by have h:=a; have h:=Wt 1 h; exact h)⟩
  intro cv ⟨⟨bs,bt⟩,bu,bv⟩ bx ⟨bB,bC,bD⟩;refine aT 1 Y O O O nP O O O<|ad<|am<|cN<|Er ?_;refine WE.aau (iF O<|eM 1 O O k6 O) λg a=>?_;exact .inl ⟨bs,bt,bu,bv,O,by rw [u,M_ z D an,bB],zK bC<|aG a ai bx,bD,Wv 1<|Wt 1 a⟩
 obtain ⟨G,bF⟩:=bq al;subst bF;refine Ck<|Eb<|Et<|ae<|ac O ?_;refine WL.kx (M5 b c aN (A::E) J aO) ?_ ?_
 ·intro ⟨o,p⟩ j;refine Ep ?_;refine bE λg a=>?_;exact .inr ⟨o,p,O,by rw [u,vP z D G,j]; rfl,(by have h:=a; have h:=Wt 1 h; exact h)⟩
 intro ⟨K,bH,au⟩ ⟨H,bI⟩;have aP:=M3 J H;refine ac O<|I (Yx O O)<|I (Yx O O)<|ag O<|ag O<|ad<|ae<|ac O<|ac O ?_;refine I (Yb jX oE O O) ?_;refine Al Y O jX λcw=>?_;refine aT 0 Y O O O nP O O O<|ad<|Cs<|Cb<|ae<|ac O<|Lf 1 O ?_;refine WL.kw (iA b c bH au [91] bI) ?_;intro ⟨cx,aR,aS⟩ ⟨bJ,bK,aU⟩;refine ag O<|ad ?_;refine Cc O (λav=>?_)<|λav=>?_
 ·have Q:=bJ av;have aw:=i4 aP Q;refine ae<|ac O<|ac O<|I (Yi O O O aa) ?_;refine WL.ke (p6 (P) b aR aS (d+1) aa aw aU) ?_ ?_
  ·intro ⟨o,p⟩ j;refine Ep<|WE.bS<|Ep ?_;refine bE λg a=>?_;exact .inr ⟨o,p,O,by rw [u,vP z D G,H]; simp only [cS]; rw [uV Q,j]; rfl,(by have h:=a; have h:=Wt 1 h; exact h)⟩
  intro bL ⟨⟨aV,aW⟩,bM,ax⟩ bN ⟨R,bO,bP⟩;have bQ:dM ax:=p3 aw R;have cy:ax.length+1<=List.length (aS):=p4 aw R;refine Lb Y O lB O O O O λbR=>?_;refine LN (rd:=lz) (f:=XE.cells) (m:=1) 0 [(aV,aW.1,aW.2)] O O (λk y=>by simp [bA,aq] at y; subst y; simp [fk,bA,aq,a6]) XE.cD dN (show 1<=1 by decide) a8 λcz bU bV=>?_;refine I (Yf vL O)<|aT 1 Y O O O dL O O O<|I (Yf xB O)<|aT 1 Y O O O eI O O O<|ad<|Cr<|ac O ?_;refine Lb Y O fw O O O O λcA=>?_;refine ib (T:=9) (m:=1) 0 [[93]] O O (show 1<=1 by decide) a8 λbX bY=>?_;refine WL.kx (i6 b c bM ax bX _ _ [[93]] bY bP) ?_ ?_
  ·intro ⟨o,p⟩ j;refine WE.bS<|Ep ?_;refine bE λg a=>?_;exact .inr ⟨o,p,O,by rw [u,vP z D G,H]; simp only [cS]; rw [uV Q,R]; simp only [cS]; rw [<-fj,j]; rfl,(by have h:=a; have h:=Wt 1 h; have h:=Ws.aB h (b7:=[c]) ai; exact h)⟩
  intro ⟨bZ,b0⟩ ⟨aX,b1⟩;have cB:=i5 bQ aX;refine Ln<|Eb<|Et<|ae<|I (db 1 O O k6 O)<|aT 2 Y O O O nP O O O<|ad<|am ?_;refine WE.aau (iF O<|eM 2 O O k6 O) λg a=>?_;exact .inl ⟨bT.mk 4 0 K.1 K.2 [aV],(some ⟨bR,0,none⟩,1),bZ,b0,O,by rw [u,vP z D G,H]; simp only [cS]; rw [uV Q,R]; simp only [cS]; rw [<-fj,aX]; rfl,lA bV (aG a ai bU) (aG a ai bN)<|(iB.nil bL f).snoc (bG.refl _) (bG.refl _) bO,b1,Wv 3<|Wt 1 a⟩
 obtain ⟨ay,b2⟩:=bK av;subst b2;refine ae<|ac O ?_;refine WL.kw (iA b c aR au [40] aU) ?_;intro ⟨cC,aY,az⟩ ⟨b3,b4,aZ⟩;refine ag O<|ad ?_;refine Cc O (λaA=>?_)<|λaA=>?_
 ·have aC:=b3 aA;have b6:=i4 aP aC;refine Cr<|ac O<|ac O<|I (Yi O O O aa) ?_
  refine oZ (ι:=((List bT)×(Option Addr×Nat))×(Option Addr×Nat)×Tk) (κ:=(Option Addr×Nat)×Tk) [_] _ Y O aF O O (λi=>.slice i.1.2.1 i.1.1.length i.1.2.2) (λi=>bA b i.2.1 i.2.2) (λao i=>l4 (bf f) az=some (i.1.1,i.2.2)/\Sl (js<|f+1) 5 ao i.1.2.1 i.1.2.2 i.1.1/\Sl dY 3 c i.2.1.1 i.2.1.2 i.2.2) (λ_=>ho) (λi=>bA b i.1 i.2) (λ_=>l4 (bf f) az=none) ([c]) ai lH (λw a=>(M9 b c aY az f (d+1) w P aa b6 aZ a).mono λe g h=>by
      rcases h with ⟨x,s,r2,q,B,v,C,N,ap⟩ | ⟨r2,q,B,v,C⟩
      · exact .inl ⟨((x,s),r2,q),B,⟨v,C,N⟩,ap⟩
      · exact .inr ⟨(r2,q),B,v,C⟩) ?_ ?_
  ·intro ⟨o,p⟩ j;refine WE.bS<|Ep ?_;refine bE λg a=>?_;exact .inr ⟨o,p,O,by rw [u,vP z D G,H]; simp only [cS]; rw [Na ay aC,j]; rfl,(by have h:=a; have h:=Wt 1 h; exact h)⟩
  intro cE ⟨⟨b8,b9⟩,b',b_⟩ ca ⟨cb,cc,cd⟩;refine I (Yf vL O)<|aT 1 Y O O O dL O O O<|I (Yf xB O)<|aT 1 Y O O O eI O O O<|Ln<|Eb<|Et<|ae<|I (db 1 O O k6 O)<|aT 2 Y O O O nP O O O<|ad<|am ?_;refine WE.aau (iF O<|eM 2 O O k6 O) λg a=>?_;exact .inl ⟨bT.mk 5 0 K.1 K.2 b8,b9,b',b_,O,by rw [u,vP z D G,H]; simp only [cS]; rw [Na ay aC,cb]; rfl,zK cc<|aG a ai ca,cd,Wv 1<|Wt 1 a⟩
 obtain ⟨ce,cf⟩:=b4 aA;subst cf;refine Ck<|Eb<|Et<|ae<|I (db 1 O O k6 O)<|aT 2 Y O O O nP O O O<|ad<|am ?_;refine WE.aau (iF O<|eM 2 O O k6 O) λg a=>?_;exact .inl ⟨bT.mk 3 0 K.1 K.2 [],(none,0),aY,au,O,by rw [u,vP z D G,H]; simp only [cS]; rw [US ay ce],Sl.nil,aZ,Wt 1 a⟩
structure qV where
 s1:Option Addr×Nat
 s2:Option Addr×Nat
 s3:Option Addr×Nat
abbrev SX:=b9×qV
def SX.cells (e:SX):List Value:=u' e.1 e.2.s1.1 e.2.s1.2 e.2.s2.1 e.2.s2.2 e.2.s3.1 e.2.s3.2
def SX.cD (e:SX):(SX.cells e).length=6:=rfl
def CS (a:View) (b o:Nat) (e:SX):Prop:=ar a b o<|SX.cells e
structure vQ (f:Nat) (N:View) (x:b9) (p:qV):Prop where
 args:Sl (js 7) 5 N p.s1.1 p.s1.2 x.args
 body:Sl (h_ 7 f) 6 N p.s2.1 p.s2.2 x.body
 other:Sl (h_ 7 f) 6 N p.s3.1 p.s3.2 x.other
def sW (h:Sl (h_ 7 Z) 6 an dj aw k4) (hv:bG an b4):Sl (h_ 7 Z) 6 b4 dj aw k4:=h.imp λb o y a=>wR hv (cQ _) (cQ _) b o y a
variable {CJ:qV}
def vQ.mv (h:vQ Z an jU CJ) (hv:bG an b4):vQ Z b4 jU CJ:=⟨zK h.args hv,sW h.body hv,sW h.other hv⟩
def qW (J:View) (f:Nat) (es:List SX):Prop:=∀e ∈ es,vQ f J e.1 e.2
def qW.nil (J:View) (f:Nat):qW J f []:=by intro e h; simp at h
variable {CT:List SX} {vR:SX}
def qW.snoc (h:qW an Z CT) (b:bG an gz) (c:bG b4 gz) (d:vQ Z b4 vR.1 vR.2):qW gz Z (CT++[vR]):=by
 intro x a
 rcases ge.1 a with a | a
 · exact (h x a).mv b
 · rw [gU] at a
   subst a;exact d.mv c
def uZ (h:Sl CS 6 an dj aw CT) (hv:bG an gz) (f:bG b4 gz) (g:qW b4 Z CT):Sl (h_ 7<|Z+1) 6 gz dj aw (CT.map (·.1)):=by
 refine ⟨by simpa using h.cap,h.max,h.spot,λi x c=>?_⟩;rw [e4] at c;obtain ⟨e,d,rfl⟩:=dS.1 c;obtain ⟨b,o,j,k⟩:=h.b5 i e d;have a:=(g e<|az d).mv f;exact ⟨b,o,j,e.2.s1.1,e.2.s1.2,e.2.s2.1,e.2.s2.2,e.2.s3.1,e.2.s3.2,ar.mono hv k,a.args,a.body,a.other⟩
structure GS where
 es:List SX
 a:Option Addr
 c:Nat
 J:View
 r:Option Addr×Nat
 q:Tk
def Nd (b:View) (f:Nat):Prop:=∀(a:Nat) (r:Option Addr×Nat) (l:Tk) (d:Nat) (w:World),f+d=7->dM l->Sl dY 3 b r.1 r.2 l->Ws w (List.flatMap aQ.ids<|bA a r l) (bA a r l) [b] w->
 Calls prog 212 #[.pointer (some ⟨a,0,none⟩),.int .i64 (d:Int)] w λe c=>(∃(x:List b9) (s:Option Addr×Nat) (r2:Option Addr×Nat) (q:Tk),e = .returned (.slice s.1 x.length s.2)/\hA f l=some (x,q)/\Sl (h_ 7 f) 6 (nv w c) s.1 s.2 x/\Sl dY 3 b r2.1 r2.2 q/\Ws w (List.flatMap aQ.ids<|bA a r l) (bA a r2 q) [b] c)\/(∃(r2:Option Addr×Nat) (q:Tk),e = .panicked ho/\hA f l=none/\Ws w (List.flatMap aQ.ids<|bA a r l) (bA a r2 q) [b] c)
def zL (h:dM a') (e:hA Z a'=some (k4,bR)):dM bR:=sR h<|zg Z a' k4 bR h.all e
def UX (h:dM a') (e:aar (hA Z) a'=some (jU,bR)):dM bR:=sR h<|Gf (zg Z) h.all e
def UY (h:dM a') (e:l4 (bf 6) a'=some (e_,bR)):dM bR:=by
 unfold l4 at e
 cases a:bN [41] a' with
 | some q=>
   rw [a] at e;simp only [aN,dO] at e;obtain ⟨_,rfl⟩:=e;exact i4 h a
 | none=>
   rw [a] at e;exact sR h<|Gd (xj 6) _ _ _ _ h.all e
def zM (h:kJ [ck,fi] a'=some bR):∃a,bN ck a'=some a/\bN fi a=some bR:=by rw [M1] at h; exact cU.1 h
def UZ (h:kJ [ck,fi] a'=none):bN ck a'=none\/∃a,bN ck a'=some a/\bN fi a=none:=by
 rw [M1] at h
 cases hv:bN ck a' with
 | none=>exact .inl rfl
 | some a=>rw [hv] at h; exact .inr ⟨a,rfl,h⟩
variable {xK:Tk->Option (b9×Tk)}
def NX (h:bN [125] a'=some bR):oA xK (Z+1) a'=some ([],bR):=by rw [oA,h]
def U1 (h:bN [125] a'=none) (a:xK a'=some (jU,bR)):oA xK (Z+1) a'=(oA xK Z bR).map λp=>(jU::p.1,p.2):=by rw [oA,h]; simp only; rw [a]; rfl
def U2 (h:bN [125] a'=none) (a:xK a'=none):oA xK (Z+1) a'=none:=by rw [oA,h]; simp only; rw [a]; rfl
def zN:aJ prog 25=some 1:=ab
def zO:aJ prog 9=some 1:=ab
def nk:hf prog 25 241 (.agg #[.int .i64 0,st [],st [],.slice none 0 0,.slice none 0 0,.slice none 0 0]) 6 112:=jb ab
def U3 (b:Nat) (c:View) (r:Option Addr×Nat) (l:Tk) (f d:Nat) (w:World) (aK:Nd c f) (d3:f+(d+1)=7) (Z:dM l) (cn:Sl dY 3 c r.1 r.2 l) (a:Ws w (List.flatMap aQ.ids<|bA b r l) (bA b r l) [c] w) :
   Calls prog 261 #[.pointer (some ⟨b,0,none⟩),.int .i64 (d:Int)] w λe o=>(∃(x:b9) (p:qV) (r2:Option Addr×Nat) (q:Tk),e = .returned (.agg #[.int .i64 (x).op,st (x).mod,st (x).nm,.slice (p).s1.1 (x).args.length (p).s1.2,.slice (p).s2.1 (x).body.length (p).s2.2,.slice (p).s3.1 (x).other.length (p).s3.2])/\aar (hA f) l=some (x,q)/\vQ f (nv w o) x p/\Sl dY 3 c r2.1 r2.2 q/\Ws w (List.flatMap aQ.ids<|bA b r l) (bA b r2 q) [c] o)\/(∃(r2:Option Addr×Nat) (q:Tk),e = .panicked ho/\aar (hA f) l=none/\Ws w (List.flatMap aQ.ids<|bA b r l) (bA b r2 q) [c] o):=by
 refine enter func261 O 104 O O ?_;refine CE a<|ae ?_;refine Al Y O sO λd4=>?_;refine dk 0 (.cells (u' (b9.mk 0 [] [] [] [] []) none 0 none 0 none 0).toArray 241 (0,0)) O O<|ad<|ae ?_;refine Al Y O sO λd5=>?_;refine dk 0 (.cells (u' (b9.mk 0 [] [] [] [] []) none 0 none 0 none 0).toArray 241 (0,0)) O O<|ad<|Cs<|Cb<|ae<|ac O<|Lf 2 O ?_;refine WL.kw (iA b c r l [105,102] cn) ?_;intro ⟨d6,bl,bm⟩ ⟨co,cp,bn⟩;refine ag O<|ad ?_;refine Cc O (λaL=>?_)<|λaL=>?_
 ·have U:=co aL;have aM:=i4 Z U;refine ae<|ac O ?_;refine WL.ke (p6 ((λb r l d w t u v z=>ug c 6 b r l d w t u v z)) b bl bm 1 O aM bn) ?_ ?_
  ·intro ⟨j,n⟩ g;refine Ep<|WE.bS<|Ep ?_;refine bE λo a=>?_;exact .inr ⟨j,n,O,by simp only [aar,g0,hj,hk,hl,bk,g_,U,g,cS,dR,ei,eu],(by have h:=a; have h:=Wt 1 h; exact h)⟩
  intro bo ⟨⟨aN,bp⟩,cq,ah⟩ bq ⟨V,br,cr⟩;have bs:dM ah:=p3 aM V;have d7:ah.length+1<=List.length (bm):=p4 aM V;refine Lb Y O lB O O O O λbt=>?_;refine LN (rd:=lz) (f:=XE.cells) (m:=1) 0 [(aN,bp.1,bp.2)] O O (λk C=>by simp [bA,aq] at C; subst C; simp [fk,bA,aq,a6]) XE.cD (λ_ _ _ _ h=>h) (show 1<=1 by decide) (by decide) λd8 bu bv=>?_;refine I (Yf pj O)<|aT 1 Y O O O dL O O O<|I (Yf p1 O)<|aT 1 Y O O O eI O O O<|ad<|ae<|ac O<|ac O<|I (Yi O O O (by omega)) ?_
  refine oZ (ι:=((List b9)×(Option Addr×Nat))×(Option Addr×Nat)×Tk) (κ:=(Option Addr×Nat)×Tk) [_] _ Y O aF O O (λi=>.slice i.1.2.1 i.1.1.length i.1.2.2) (λi=>bA b i.2.1 i.2.2) (λW i=>hA f ah=some (i.1.1,i.2.2)/\Sl (h_ 7 f) 6 W i.1.2.1 i.1.2.2 i.1.1/\Sl dY 3 c i.2.1.1 i.2.1.2 i.2.2) (λ_=>ho) (λi=>bA b i.1 i.2) (λ_=>hA f ah=none) ([c]) (by simp) (λ_ _ h=>h) (λw a=>(aK b cq ah (d+1) w (by omega) bs cr a).mono λe o h=>by
      rcases h with ⟨x,s,r2,q,t,u,v,z,X⟩ | ⟨r2,q,t,u,v⟩
      · exact .inl ⟨((x,s),r2,q),t,⟨u,v,z⟩,X⟩
      · exact .inr ⟨(r2,q),t,u,v⟩) ?_ ?_
  ·intro ⟨j,n⟩ g;refine Ep<|WE.bS<|Ep ?_;refine bE λo a=>?_;exact .inr ⟨j,n,O,by simp only [aar,g0,hj,hk,hl,bk,g_,U,V,g,cS,dR,ei,eu],(by have h:=a; have h:=Wt 1 h; have h:=Ws.aB h (b7:=[c]) (by simp); exact h)⟩
  intro d9 ⟨⟨bw,bx⟩,cs,aO⟩ bB ⟨ai,bC,cu⟩;have cv:dM aO:=zL bs ai;refine I (Yf xD O)<|aT 1 Y O O O zN O O O<|ad<|Cs<|ae<|ac O ?_;refine WL.kw (iA b c cs aO [101,108,115,101] cu) ?_;intro ⟨d',bD,aP⟩ ⟨cw,cx,bF⟩;refine ad ?_;refine Cc O (λaR=>?_)<|λaR=>?_
  ·have ap:=cw aR;have bH:=i4 cv ap;refine ae<|ac O<|ac O<|I (Yi O O O (by omega)) ?_
   refine oZ (ι:=((List b9)×(Option Addr×Nat))×(Option Addr×Nat)×Tk) (κ:=(Option Addr×Nat)×Tk) [_] _ Y O aF O O (λi=>.slice i.1.2.1 i.1.1.length i.1.2.2) (λi=>bA b i.2.1 i.2.2) (λW i=>hA f aP=some (i.1.1,i.2.2)/\Sl (h_ 7 f) 6 W i.1.2.1 i.1.2.2 i.1.1/\Sl dY 3 c i.2.1.1 i.2.1.2 i.2.2) (λ_=>ho) (λi=>bA b i.1 i.2) (λ_=>hA f aP=none) ([c]) (by simp) (λ_ _ h=>h) (λw a=>(aK b bD aP (d+1) w (by omega) bH bF a).mono λe o h=>by
       rcases h with ⟨x,s,r2,q,t,u,v,z,X⟩ | ⟨r2,q,t,u,v⟩
       · exact .inl ⟨((x,s),r2,q),t,⟨u,v,z⟩,X⟩
       · exact .inr ⟨(r2,q),t,u,v⟩) ?_ ?_
   ·intro ⟨j,n⟩ g;refine Ep<|Ep<|WE.bS<|Ep ?_;refine bE λo a=>?_;exact .inr ⟨j,n,O,by simp only [aar,g0,hj,hk,hl,bk,g_,U,V,ai,ap,g,cS,dR,ei,eu],(by have h:=a; have h:=Wt 1 h; have h:=Ws.aB h (b7:=[c]) (by simp); exact h)⟩
   intro d_ ⟨⟨aS,cy⟩,bJ,aU⟩ cz ⟨aV,cA,cB⟩;have ea:dM aU:=zL bH aV;refine I (Yf ud O)<|aT 1 Y O O O zN O O O<|ad<|ae<|I (Yf ud O)<|I (Yd 1 O O O ab)<|I (Yn qQ O)<|I (bz O O)<|ad ?_;refine Cc O (λaW=>?_)<|λaW=>?_
   ·have aX:aS.length=0:=by simpa using aW
    refine Cr<|I (Yb sT sS O O)<|I (pB sU O) ?_;refine WL.panic Y O ?_;refine Ep<|WE.bS<|Ep ?_;refine bE λo a=>?_;exact .inr ⟨bJ,aU,O,by simp only [aar,g0,hj,hk,hl,bk,g_,U,V,ai,ap,aV,cS,dR,ei,eu,ZZ aX],(by have h:=a; have h:=Wt 1 h; have h:=Ws.aB h (b7:=[c]) (by simp); exact h)⟩
   have aX:¬aS.length=0:=by simpa using aW
   refine bW<|ae<|I (db 1 O O bI O)<|aT 2 Y O O O qR O O O<|ad<|am<|cN<|Er ?_;refine WE.aau (iF O<|eM 2 O O bI O) λo a=>?_;exact .inl ⟨b9.mk 4 [] [] [aN] bw aS,⟨(some ⟨bt,0,none⟩,1),bx,cy⟩,bJ,aU,O,by simp only [aar,g0,hj,hk,hl,bk,g_,U,V,ai,ap,aV,cS,dR,ei,eu,ZX aX],⟨(lA bv (aG a (by simp) bu) (aG a (by simp) bq)<|(iB.nil bo 6).snoc (bG.refl _) (bG.refl _) br),(sW bC<|aG a (by simp) bB),(sW cA<|aG a (by simp) cz)⟩,cB,Wv 4<|Wt 1 a⟩
  obtain ⟨cC,cE⟩:=cx aR;subst cE;refine bW<|ae<|I (db 1 O O bI O)<|aT 2 Y O O O qR O O O<|ad<|am<|cN<|Er ?_;refine WE.aau (iF O<|eM 2 O O bI O) λo a=>?_;exact .inl ⟨b9.mk 4 [] [] [aN] bw [],⟨(some ⟨bt,0,none⟩,1),bx,((none,0):Option Addr×Nat)⟩,bD,aO,O,by simp only [aar,g0,hj,hk,hl,bk,g_,U,V,ai,cC,cS,dR,ei,eu],⟨(lA bv (aG a (by simp) bu) (aG a (by simp) bq)<|(iB.nil bo 6).snoc (bG.refl _) (bG.refl _) br),(sW bC<|aG a (by simp) bB),Sl.nil⟩,bF,Wv 3<|Wt 1 a⟩
 obtain ⟨y,cF⟩:=cp aL;subst cF;refine ae<|ac O ?_;refine WL.kw (iA b c bl l [119,104,105,108,101] bn) ?_;intro ⟨eb,bK,bL⟩ ⟨cG,cH,bM⟩;refine ag O<|ad ?_;refine Cc O (λaY=>?_)<|λaY=>?_
 ·have ar:=cG aY;have aZ:=i4 Z ar;refine ae<|ac O ?_;refine WL.ke (p6 ((λb r l d w t u v z=>ug c 6 b r l d w t u v z)) b bK bL 1 O aZ bM) ?_ ?_
  ·intro ⟨j,n⟩ g;refine Ep<|WE.bS<|Ep ?_;refine bE λo a=>?_;exact .inr ⟨j,n,O,by simp only [aar,g0,hj,hk,hl,bk,g_,y,ar,g,cS,dR,ei,eu],(by have h:=a; have h:=Wt 1 h; exact h)⟩
  intro cI ⟨⟨bN,bO⟩,cJ,aj⟩ cK ⟨au,cL,cM⟩;have bP:dM aj:=p3 aZ au;have ec:aj.length+1<=List.length (bL):=p4 aZ au;refine Lb Y O lB O O O O λcO=>?_;refine LN (rd:=lz) (f:=XE.cells) (m:=1) 0 [(bN,bO.1,bO.2)] O O (λk C=>by simp [bA,aq] at C; subst C; simp [fk,bA,aq,a6]) XE.cD (λ_ _ _ _ h=>h) (show 1<=1 by decide) (by decide) λed cP cQ=>?_;refine I (Yf pj O)<|aT 1 Y O O O dL O O O<|I (Yf p1 O)<|aT 1 Y O O O eI O O O<|ad<|ae<|ac O<|ac O<|I (Yi O O O (by omega)) ?_
  refine oZ (ι:=((List b9)×(Option Addr×Nat))×(Option Addr×Nat)×Tk) (κ:=(Option Addr×Nat)×Tk) [_] _ Y O aF O O (λi=>.slice i.1.2.1 i.1.1.length i.1.2.2) (λi=>bA b i.2.1 i.2.2) (λW i=>hA f aj=some (i.1.1,i.2.2)/\Sl (h_ 7 f) 6 W i.1.2.1 i.1.2.2 i.1.1/\Sl dY 3 c i.2.1.1 i.2.1.2 i.2.2) (λ_=>ho) (λi=>bA b i.1 i.2) (λ_=>hA f aj=none) ([c]) (by simp) (λ_ _ h=>h) (λw a=>(aK b cJ aj (d+1) w (by omega) bP cM a).mono λe o h=>by
      rcases h with ⟨x,s,r2,q,t,u,v,z,X⟩ | ⟨r2,q,t,u,v⟩
      · exact .inl ⟨((x,s),r2,q),t,⟨u,v,z⟩,X⟩
      · exact .inr ⟨(r2,q),t,u,v⟩) ?_ ?_
  ·intro ⟨j,n⟩ g;refine Ep<|WE.bS<|Ep ?_;refine bE λo a=>?_;exact .inr ⟨j,n,O,by simp only [aar,g0,hj,hk,hl,bk,g_,y,ar,au,g,cS,dR,ei,eu],(by have h:=a; have h:=Wt 1 h; have h:=Ws.aB h (b7:=[c]) (by simp); exact h)⟩
  intro ee ⟨⟨cR,cT⟩,cU,bQ⟩ cV ⟨bR,cW,cX⟩;have ef:dM bQ:=zL bP bR;refine I (Yf xD O)<|aT 1 Y O O O zN O O O<|ad<|ae<|I (db 1 O O bI O)<|aT 2 Y O O O qR O O O<|ad<|am<|cN<|Er ?_;refine WE.aau (iF O<|eM 2 O O bI O) λo a=>?_;exact .inl ⟨b9.mk 5 [] [] [bN] cR [],⟨(some ⟨cO,0,none⟩,1),cT,((none,0):Option Addr×Nat)⟩,cU,bQ,O,by simp only [aar,g0,hj,hk,hl,bk,g_,y,ar,au,bR,cS,dR,ei,eu],⟨(lA cQ (aG a (by simp) cP) (aG a (by simp) cK)<|(iB.nil cI 6).snoc (bG.refl _) (bG.refl _) cL),(sW cW<|aG a (by simp) cV),Sl.nil⟩,cX,Wv 3<|Wt 1 a⟩
 obtain ⟨B,cY⟩:=cH aY;subst cY;refine ae<|ac O ?_;refine WL.kw (iA b c bK l [114,101,116,117,114,110] bM) ?_;intro ⟨eg,bU,bV⟩ ⟨cZ,c0,bX⟩;refine ag O<|ad ?_;refine Cc O (λa0=>?_)<|λa0=>?_
 ·have av:=cZ a0;have a1:=i4 Z av;refine Cr<|ac O ?_;refine WL.ke (p6 ((λb r l d w t u v z=>ug c 6 b r l d w t u v z)) b bU bV 1 O a1 bX) ?_ ?_
  ·intro ⟨j,n⟩ g;refine WE.bS<|Ep ?_;refine bE λo a=>?_;exact .inr ⟨j,n,O,by simp only [aar,g0,hj,hk,hl,bk,g_,y,B,av,g,cS,dR,ei,eu],(by have h:=a; have h:=Wt 1 h; exact h)⟩
  intro c1 ⟨⟨bY,bZ⟩,c2,a2⟩ c3 ⟨aw,c4,c5⟩;have c6:dM a2:=p3 a1 aw;have eh:a2.length+1<=List.length (bV):=p4 a1 aw;refine Lb Y O lB O O O O λc7=>?_;refine LN (rd:=lz) (f:=XE.cells) (m:=1) 0 [(bY,bZ.1,bZ.2)] O O (λk C=>by simp [bA,aq] at C; subst C; simp [fk,bA,aq,a6]) XE.cD (λ_ _ _ _ h=>h) (show 1<=1 by decide) (by decide) λej c8 c9=>?_;refine I (Yf pj O)<|aT 1 Y O O O dL O O O<|I (Yf p1 O)<|aT 1 Y O O O eI O O O<|Ln<|Eb<|Et<|ae<|ac O ?_;refine Lb Y O fw O O O O λak=>?_;refine ib (T:=9) (m:=1) 0 [[59]] O O (show 1<=1 by decide) (by decide) λH J=>?_;refine WL.kx (i6 b c c2 a2 H _ _ [[59]] J c5) ?_ ?_
  ·intro ⟨j,n⟩ g;rw [fj] at g;refine Ep ?_;refine bE λo a=>?_;exact .inr ⟨j,n,O,by simp only [aar,g0,hj,hk,hl,bk,g_,y,B,av,aw,g,cS,dR,ei,eu],(by have h:=a; have h:=Wt 1 h; have h:=Ws.aB h (b7:=[c]) (by simp); exact h)⟩
  intro ⟨K,L⟩ ⟨A,M⟩;have al:=i5 c6 A;rw [fj] at A;refine ad<|ae<|I (db 1 O O bI O)<|aT 2 Y O O O qR O O O<|ad<|am ?_;refine WE.aau (iF O<|eM 2 O O bI O) λo a=>?_;exact .inl ⟨b9.mk 6 [] [] [bY] [] [],⟨(some ⟨c7,0,none⟩,1),((none,0):Option Addr×Nat),((none,0):Option Addr×Nat)⟩,K,L,O,by simp only [aar,g0,hj,hk,hl,bk,g_,y,B,av,aw,A,cS,dR,ei,eu],⟨(lA c9 (aG a (by simp) c8) (aG a (by simp) c3)<|(iB.nil c1 6).snoc (bG.refl _) (bG.refl _) c4),Sl.nil,Sl.nil⟩,M,Wv 3<|Wt 1 a⟩
 obtain ⟨D,c'⟩:=c0 a0;subst c';refine ae<|ac O ?_;refine WL.kw (iA b c bU l [111,117,116] bX) ?_;intro ⟨ek,b0,b1⟩ ⟨c_,da,b2⟩;refine ag O<|ad ?_;refine Cc O (λa3=>?_)<|λa3=>?_
 ·have ax:=c_ a3;have a4:=i4 Z ax;refine Cr<|ac O ?_;refine WL.ke (p6 ((λb r l d w t u v z=>ug c 6 b r l d w t u v z)) b b0 b1 1 O a4 b2) ?_ ?_
  ·intro ⟨j,n⟩ g;refine WE.bS<|Ep ?_;refine bE λo a=>?_;exact .inr ⟨j,n,O,by simp only [aar,g0,hj,hk,hl,bk,g_,y,B,D,ax,g,cS,dR,ei,eu],(by have h:=a; have h:=Wt 1 h; exact h)⟩
  intro dc ⟨⟨b3,b4⟩,dd,a5⟩ de ⟨ay,df,dg⟩;have dh:dM a5:=p3 a4 ay;have el:a5.length+1<=List.length (b1):=p4 a4 ay;refine Lb Y O lB O O O O λdi=>?_;refine LN (rd:=lz) (f:=XE.cells) (m:=1) 0 [(b3,b4.1,b4.2)] O O (λk C=>by simp [bA,aq] at C; subst C; simp [fk,bA,aq,a6]) XE.cD (λ_ _ _ _ h=>h) (show 1<=1 by decide) (by decide) λem dj dl=>?_;refine I (Yf pj O)<|aT 1 Y O O O dL O O O<|I (Yf p1 O)<|aT 1 Y O O O eI O O O<|Ln<|Eb<|Et<|ae<|ac O ?_;refine Lb Y O fw O O O O λak=>?_;refine ib (T:=9) (m:=1) 0 [[59]] O O (show 1<=1 by decide) (by decide) λH J=>?_;refine WL.kx (i6 b c dd a5 H _ _ [[59]] J dg) ?_ ?_
  ·intro ⟨j,n⟩ g;rw [fj] at g;refine Ep ?_;refine bE λo a=>?_;exact .inr ⟨j,n,O,by simp only [aar,g0,hj,hk,hl,bk,g_,y,B,D,ax,ay,g,cS,dR,ei,eu],(by have h:=a; have h:=Wt 1 h; have h:=Ws.aB h (b7:=[c]) (by simp); exact h)⟩
  intro ⟨K,L⟩ ⟨A,M⟩;have al:=i5 dh A;rw [fj] at A;refine ad<|ae<|I (db 1 O O bI O)<|aT 2 Y O O O qR O O O<|ad<|am ?_;refine WE.aau (iF O<|eM 2 O O bI O) λo a=>?_;exact .inl ⟨b9.mk 7 [] [] [b3] [] [],⟨(some ⟨di,0,none⟩,1),((none,0):Option Addr×Nat),((none,0):Option Addr×Nat)⟩,K,L,O,by simp only [aar,g0,hj,hk,hl,bk,g_,y,B,D,ax,ay,A,cS,dR,ei,eu],⟨(lA dl (aG a (by simp) dj) (aG a (by simp) de)<|(iB.nil dc 6).snoc (bG.refl _) (bG.refl _) df),Sl.nil,Sl.nil⟩,M,Wv 3<|Wt 1 a⟩
 obtain ⟨E,dm⟩:=da a3;subst dm;refine ae<|ac O ?_;refine WL.kx (M5 b c b0 l Z b2) ?_ ?_
 ·intro ⟨j,n⟩ g;refine Ep<|WE.bS<|Ep ?_;refine bE λo a=>?_;exact .inr ⟨j,n,O,by simp only [aar,g0,hj,hk,hl,bk,g_,y,B,D,E,g,cS,dR,ei,eu],(by have h:=a; have h:=Wt 1 h; exact h)⟩
 intro ⟨S,dn,a7⟩ ⟨F,dp⟩;have a8:=M3 Z F;refine ac O<|I (Yx O O)<|I (Yx O O)<|I (Yf zF O)<|aT 1 Y O O O zO O O O<|I (Yf zG O)<|aT 1 Y O O O zO O O O<|ad<|Cb<|ae ?_;refine ac O ?_;refine WL.kw (iA b c dn a7 [40] dp) ?_;intro ⟨en,b5,a9⟩ ⟨dq,dr,b6⟩;refine ag O<|ad ?_;refine Cc O (λa'=>?_)<|λa'=>?_
 ·have az:=dq a';have b8:=i4 a8 az;refine Cr<|ac O ?_
  refine oZ (ι:=((List bT)×(Option Addr×Nat))×(Option Addr×Nat)×Tk) (κ:=(Option Addr×Nat)×Tk) [_] _ Y O aF O O (λi=>.slice i.1.2.1 i.1.1.length i.1.2.2) (λi=>bA b i.2.1 i.2.2) (λW i=>l4 (bf 6) a9=some (i.1.1,i.2.2)/\Sl (js<|6+1) 5 W i.1.2.1 i.1.2.2 i.1.1/\Sl dY 3 c i.2.1.1 i.2.1.2 i.2.2) (λ_=>ho) (λi=>bA b i.1 i.2) (λ_=>l4 (bf 6) a9=none) ([c]) (by simp) (λ_ _ h=>h) (λw a=>(M9 b c b5 a9 6 (1) w (λb r l d w t u v z=>ug c 6 b r l d w t u v z) (by omega) b8 b6 a).mono λe o h=>by
      rcases h with ⟨x,s,r2,q,t,u,v,z,X⟩ | ⟨r2,q,t,u,v⟩
      · exact .inl ⟨((x,s),r2,q),t,⟨u,v,z⟩,X⟩
      · exact .inr ⟨(r2,q),t,u,v⟩) ?_ ?_
  ·intro ⟨j,n⟩ g;refine WE.bS<|WE.bS<|Ep ?_;refine bE λo a=>?_;exact .inr ⟨j,n,O,by simp only [aar,g0,hj,hk,hl,bk,g_,y,B,D,E,F,az,g,cS,dR,ei,eu],(by have h:=a; have h:=Wt 1 h; exact h)⟩
  intro eo ⟨⟨ds,dt⟩,du,b'⟩ dv ⟨a_,dw,dx⟩;have dy:dM b':=UY b8 a_;refine I (Yf pj O)<|aT 1 Y O O O dL O O O<|I (Yf p1 O)<|aT 1 Y O O O eI O O O<|Ln<|Eb<|Eb<|Et<|ae<|ac O ?_;refine Lb Y O fw O O O O λak=>?_;refine ib (T:=9) (m:=1) 0 [[59]] O O (show 1<=1 by decide) (by decide) λH J=>?_;refine WL.kx (i6 b c du b' H _ _ [[59]] J dx) ?_ ?_
  ·intro ⟨j,n⟩ g;rw [fj] at g;refine Ep ?_;refine bE λo a=>?_;exact .inr ⟨j,n,O,by simp only [aar,g0,hj,hk,hl,bk,g_,y,B,D,E,F,az,a_,g,cS,dR,ei,eu],(by have h:=a; have h:=Wt 1 h; have h:=Ws.aB h (b7:=[c]) (by simp); exact h)⟩
  intro ⟨K,L⟩ ⟨A,M⟩;have al:=i5 dy A;rw [fj] at A;refine ad<|ae<|I (db 1 O O bI O)<|aT 2 Y O O O qR O O O<|ad<|am ?_;refine WE.aau (iF O<|eM 2 O O bI O) λo a=>?_;exact .inl ⟨b9.mk 3 S.1 S.2 ds [] [],⟨dt,((none,0):Option Addr×Nat),((none,0):Option Addr×Nat)⟩,K,L,O,by simp only [aar,g0,hj,hk,hl,bk,g_,y,B,D,E,F,az,a_,A,cS,dR,ei,eu],⟨(zK dw<|aG a (by simp) dv),Sl.nil,Sl.nil⟩,M,Wv 2<|Wt 1 a⟩
 obtain ⟨G,dz⟩:=dr a';subst dz;refine ae<|ac O ?_;refine WL.kw (iA b c b5 a7 [91] b6) ?_;intro ⟨ep,b_,ca⟩ ⟨dA,dB,cb⟩;refine ag O<|ad ?_;refine Cc O (λba=>?_)<|λba=>?_
 ·have N:=dA ba;have bb:=i4 a8 N;refine ae<|ac O ?_;refine WL.ke (p6 ((λb r l d w t u v z=>ug c 6 b r l d w t u v z)) b b_ ca 1 O bb cb) ?_ ?_
  ·intro ⟨j,n⟩ g;refine Ep<|WE.bS<|WE.bS<|Ep ?_;refine bE λo a=>?_;exact .inr ⟨j,n,O,by simp only [aar,g0,hj,hk,hl,bk,g_,y,B,D,E,F,G,N,g,cS,dR,ei,eu],(by have h:=a; have h:=Wt 1 h; exact h)⟩
  intro eq ⟨⟨aA,aC⟩,dC,bc⟩ cc ⟨P,cd,dD⟩;have dE:dM bc:=p3 bb P;have er:bc.length+1<=List.length (ca):=p4 bb P;refine Al Y O jX λes=>?_;refine aT 0 Y O O O nP O O O<|ad<|ae<|ac O ?_;refine Lb Y O fw O O O O λet=>?_;refine ib (T:=9) (m:=2) 0 [[93],[61]] O O (show 2<=2 by decide) (by decide) λdF dG=>?_;refine Lf 1 O ?_;refine WL.kx (i6 b c dC bc dF _ _ [[93],[61]] dG dD) ?_ ?_
  ·intro ⟨j,n⟩ g;refine Ep<|WE.bS<|WE.bS<|Ep ?_;refine bE λo a=>?_
   rcases UZ g with g | ⟨an,dH,g⟩
   · exact .inr ⟨j,n,O,by simp only [aar,g0,hj,hk,hl,bk,g_,y,B,D,E,F,G,N,P,g,cS,dR,ei,eu],(by have h:=a; have h:=Wt 1 h; have h:=Ws.aB h (b7:=[c]) (by simp); exact h)⟩
   · exact .inr ⟨j,n,O,by simp only [aar,g0,hj,hk,hl,bk,g_,y,B,D,E,F,G,N,P,dH,g,cS,dR,ei,eu],(by have h:=a; have h:=Wt 1 h; have h:=Ws.aB h (b7:=[c]) (by simp); exact h)⟩
  intro ⟨dI,ce⟩ ⟨aa,dJ⟩;have bd:=i5 dE aa;refine ad ?_;refine CU (λ_=>true) [2,0] [7] (.q true 0<|.q false 1<|.q false 4<|.e 2 (.e 3 (.e 5 (.q false 6 .nil) .stop)<|.e 5 (.e 3 (.q false 6 .nil) .stop) .stop) .stop) mixed (by kernel_rfl) (λ_ _ _ d _ _ h=>by cases d<;>exact h) ?_;refine U0 O (ct [2,0]) (db 0 O O k6 O)<|U0 O (ct [2,0]) (Ym O)<|U0 O (ct [2,0]) (Yf pj O) ?_;refine Ue O (ct [2,0]) ?_ WU.stop;refine WL.ke (p6 ((λb r l d w t u v z=>ug c 6 b r l d w t u v z)) b dI ce 1 O bd dJ) ?_ ?_
  ·intro ⟨j,n⟩ g;refine Ep<|WE.bS<|WE.bS<|Ep ?_;refine bE λo a=>?_;obtain ⟨an,Q,R⟩:=zM aa;exact .inr ⟨j,n,O,by simp only [aar,g0,hj,hk,hl,bk,g_,y,B,D,E,F,G,N,P,Q,R,g,cS,dR,ei,eu],(by have h:=a; have h:=Wt 1 h; have h:=Ws.aB h (b7:=[c]) (by simp); exact h)⟩
  intro ev ⟨⟨aD,aE⟩,cf,aH⟩ cg ⟨af,ch,ci⟩;have cj:dM aH:=p3 bd af;have ew:aH.length+1<=List.length (ce):=p4 bd af;refine Ln<|Eu ?_;refine Ue O (λ_ h=>(Wv 1 (Wo 0<|Wo 2 h):)) ?_ ?_
  ·refine Lb Y O lB O O O O λbe=>?_;refine LN (rd:=lz) (f:=XE.cells) (m:=2) 0 [(aA,aC.1,aC.2),(aD,aE.1,aE.2)] O O (λk C=>by simp [bA,aq] at C; subst C; simp [fk,bA,aq,a6]) XE.cD (λ_ _ _ _ h=>h) (show 2<=2 by decide) (by decide) λdK bg bh=>?_;refine Ln<|Eu ?_;refine Ue O (λ_ h=>(Wv 2 (Wo 0<|Wo 2 h):)) ?_ WU.stop;refine aT 2 Y O O O dL O O O<|Ln<|Eu<|U0 O (λ_ h=>(Wv 2 (Wo 0<|Wo 2 h):)) (Yf p1 O) ?_;refine WU.nil (λ_ h=>(Wv 2 (Wo 0<|Wo 2 h):)) ?_;refine WS.e O ?_;refine aT 2 Y O O O eI O O O<|Ln<|Es ?_;refine WS.nil ?_;refine Eb<|Eb<|Et<|ae<|ac O ?_;refine Lb Y O fw O O O O λak=>?_;refine ib (T:=9) (m:=1) 0 [[59]] O O (show 1<=1 by decide) (by decide) λH J=>?_;refine WL.kx (i6 b c cf aH H _ _ [[59]] J ci) ?_ ?_
   ·intro ⟨j,n⟩ g;rw [fj] at g;refine Ep ?_;refine bE λo a=>?_;obtain ⟨an,Q,R⟩:=zM aa;exact .inr ⟨j,n,O,by simp only [aar,g0,hj,hk,hl,bk,g_,y,B,D,E,F,G,N,P,Q,R,af,g,cS,dR,ei,eu],(by have h:=a; have h:=Wt 1 h; have h:=Ws.aB h (b7:=[c]) (by simp); exact h)⟩
   intro ⟨K,L⟩ ⟨A,M⟩;have al:=i5 cj A;rw [fj] at A;refine ad<|ae<|I (db 2 O O bI O)<|aT 3 Y O O O qR O O O<|ad<|am ?_;refine WE.aau (iF O<|eM 3 O O bI O) λo a=>?_;obtain ⟨an,Q,R⟩:=zM aa;exact .inl ⟨b9.mk 2 S.1 S.2 [aA,aD] [] [],⟨(some ⟨be,0,none⟩,2),((none,0):Option Addr×Nat),((none,0):Option Addr×Nat)⟩,K,L,O,by simp only [aar,g0,hj,hk,hl,bk,g_,y,B,D,E,F,G,N,P,Q,R,af,A,cS,dR,ei,eu],⟨(lA bh (aG a (by simp) bg) (bG.refl _)<|((iB.nil (nv w o) 6).snoc (bG.refl _) (aG a (by simp) cc) cd).snoc (bG.refl _) (aG a (by simp) cg) ch),Sl.nil,Sl.nil⟩,M,Wv 5<|Wt 1 a⟩
  refine Ue O (λ_ h=>(Wv 1 (Wo 0<|Wo 2 h):)) ?_ WU.stop;refine aT 2 Y O O O dL O O O<|Ln<|Eu ?_;refine Ue O (λ_ h=>(Wv 1 (Wo 0<|Wo 2 h):)) ?_ WU.stop;refine Lb Y O lB O O O O λbe=>?_;refine LN (rd:=lz) (f:=XE.cells) (m:=2) 0 [(aA,aC.1,aC.2),(aD,aE.1,aE.2)] O O (λk C=>by simp [bA,aq] at C; subst C; simp [fk,bA,aq,a6]) XE.cD (λ_ _ _ _ h=>h) (show 2<=2 by decide) (by decide) λdK bg bh=>?_;refine Ln<|Eu<|U0 O (λ_ h=>(Wv 2 (Wo 0<|Wo 2 h):)) (Yf p1 O) ?_;refine WU.nil (λ_ h=>(Wv 2 (Wo 0<|Wo 2 h):)) ?_;refine WS.e O ?_;refine aT 2 Y O O O eI O O O<|Ln<|Es ?_;refine WS.nil ?_;refine Eb<|Eb<|Et<|ae<|ac O ?_;refine Lb Y O fw O O O O λak=>?_;refine ib (T:=9) (m:=1) 0 [[59]] O O (show 1<=1 by decide) (by decide) λH J=>?_;refine WL.kx (i6 b c cf aH H _ _ [[59]] J ci) ?_ ?_
  ·intro ⟨j,n⟩ g;rw [fj] at g;refine Ep ?_;refine bE λo a=>?_;obtain ⟨an,Q,R⟩:=zM aa;exact .inr ⟨j,n,O,by simp only [aar,g0,hj,hk,hl,bk,g_,y,B,D,E,F,G,N,P,Q,R,af,g,cS,dR,ei,eu],(by have h:=a; have h:=Wt 1 h; have h:=Ws.aB h (b7:=[c]) (by simp); exact h)⟩
  intro ⟨K,L⟩ ⟨A,M⟩;have al:=i5 cj A;rw [fj] at A;refine ad<|ae<|I (db 2 O O bI O)<|aT 3 Y O O O qR O O O<|ad<|am ?_;refine WE.aau (iF O<|eM 3 O O bI O) λo a=>?_;obtain ⟨an,Q,R⟩:=zM aa;exact .inl ⟨b9.mk 2 S.1 S.2 [aA,aD] [] [],⟨(some ⟨be,0,none⟩,2),((none,0):Option Addr×Nat),((none,0):Option Addr×Nat)⟩,K,L,O,by simp only [aar,g0,hj,hk,hl,bk,g_,y,B,D,E,F,G,N,P,Q,R,af,A,cS,dR,ei,eu],⟨(lA bh (aG a (by simp) bg) (bG.refl _)<|((iB.nil (nv w o) 6).snoc (bG.refl _) (aG a (by simp) cc) cd).snoc (bG.refl _) (aG a (by simp) cg) ch),Sl.nil,Sl.nil⟩,M,Wv 5<|Wt 1 a⟩
 obtain ⟨aI,dN⟩:=dB ba;subst dN;refine ae<|ac O ?_;refine Lb Y O fw O O O O λex=>?_;refine ib (T:=9) (m:=1) 0 [[61]] O O (show 1<=1 by decide) (by decide) λdO dP=>?_;refine WL.kx (i6 b c b_ a7 dO _ _ [[61]] dP cb) ?_ ?_
 ·intro ⟨j,n⟩ g;rw [fj] at g;refine Ep<|WE.bS<|WE.bS<|Ep ?_;refine bE λo a=>?_;exact .inr ⟨j,n,O,by simp only [aar,g0,hj,hk,hl,bk,g_,y,B,D,E,F,G,aI,g,cS,dR,ei,eu],(by have h:=a; have h:=Wt 1 h; have h:=Ws.aB h (b7:=[c]) (by simp); exact h)⟩
 intro ⟨dQ,ck⟩ ⟨ao,dS⟩;have bi:=i5 a8 ao;rw [fj] at ao;refine ad<|Cr<|ac O ?_;refine WL.ke (p6 ((λb r l d w t u v z=>ug c 6 b r l d w t u v z)) b dQ ck 1 O bi dS) ?_ ?_
 ·intro ⟨j,n⟩ g;refine WE.bS<|WE.bS<|Ep ?_;refine bE λo a=>?_;exact .inr ⟨j,n,O,by simp only [aar,g0,hj,hk,hl,bk,g_,y,B,D,E,F,G,aI,ao,g,cS,dR,ei,eu],(by have h:=a; have h:=Wt 1 h; have h:=Ws.aB h (b7:=[c]) (by simp); exact h)⟩
 intro dT ⟨⟨cl,cm⟩,dU,bj⟩ dV ⟨aJ,dW,dX⟩;have dZ:dM bj:=p3 bi aJ;have ey:bj.length+1<=List.length (ck):=p4 bi aJ;refine Lb Y O lB O O O O λd0=>?_;refine LN (rd:=lz) (f:=XE.cells) (m:=1) 0 [(cl,cm.1,cm.2)] O O (λk C=>by simp [bA,aq] at C; subst C; simp [fk,bA,aq,a6]) XE.cD (λ_ _ _ _ h=>h) (show 1<=1 by decide) (by decide) λez d1 d2=>?_;refine I (Yf pj O)<|aT 1 Y O O O dL O O O<|I (Yf p1 O)<|aT 1 Y O O O eI O O O<|Ln<|Eb<|Eb<|Et<|ae<|ac O ?_;refine Lb Y O fw O O O O λak=>?_;refine ib (T:=9) (m:=1) 0 [[59]] O O (show 1<=1 by decide) (by decide) λH J=>?_;refine WL.kx (i6 b c dU bj H _ _ [[59]] J dX) ?_ ?_
 ·intro ⟨j,n⟩ g;rw [fj] at g;refine Ep ?_;refine bE λo a=>?_;exact .inr ⟨j,n,O,by simp only [aar,g0,hj,hk,hl,bk,g_,y,B,D,E,F,G,aI,ao,aJ,g,cS,dR,ei,eu],(by have h:=a; have h:=Wt 1 h; have h:=Ws.aB h (b7:=[c]) (by simp); exact h)⟩
 intro ⟨K,L⟩ ⟨A,M⟩;have al:=i5 dZ A;rw [fj] at A;refine ad<|ae<|I (db 1 O O bI O)<|aT 2 Y O O O qR O O O<|ad<|am ?_;refine WE.aau (iF O<|eM 2 O O bI O) λo a=>?_;exact .inl ⟨b9.mk 1 S.1 S.2 [cl] [] [],⟨(some ⟨d0,0,none⟩,1),((none,0):Option Addr×Nat),((none,0):Option Addr×Nat)⟩,K,L,O,by simp only [aar,g0,hj,hk,hl,bk,g_,y,B,D,E,F,G,aI,ao,aJ,A,cS,dR,ei,eu],⟨(lA d2 (aG a (by simp) d1) (aG a (by simp) dV)<|(iB.nil dT 6).snoc (bG.refl _) (bG.refl _) dW),Sl.nil,Sl.nil⟩,M,Wv 4<|Wt 1 a⟩
def Nf (b:View) (f:Nat) (j:Nat) (r:Option Addr×Nat) (l:Tk) (d:Nat) (w:World) (aT:f+d=7) (E:dM l) (af:Sl dY 3 b r.1 r.2 l) (o:Ws w (List.flatMap aQ.ids<|bA j r l) (bA j r l) [b] w) :
   Calls prog 212 #[.pointer (some ⟨j,0,none⟩),.int .i64 (d:Int)] w λe t=>(∃(x:List b9) (s:Option Addr×Nat) (r2:Option Addr×Nat) (q:Tk),e = .returned (.slice s.1 x.length s.2)/\hA f l=some (x,q)/\Sl (h_ 7 f) 6 (nv w t) s.1 s.2 x/\Sl dY 3 b r2.1 r2.2 q/\Ws w (List.flatMap aQ.ids<|bA j r l) (bA j r2 q) [b] t)\/(∃(r2:Option Addr×Nat) (q:Tk),e = .panicked ho/\hA f l=none/\Ws w (List.flatMap aQ.ids<|bA j r l) (bA j r2 q) [b] t):=by
 induction f using Nat.strongRecOn generalizing j r l d w
 rename_i f ah;refine enter func212 O 23 O O ?_;refine CE o<|ae<|ag O<|ad<|Cs<|ae<|ac O<|I (eh O O)<|ad ?_;refine Cc O (λF=>?_)<|λF=>?_
 ·have ak:hA f l=none:=by
    obtain rfl:f=0:=by simp at F; omega
    rfl
  refine Cr<|I (Yb sT sS O O)<|I (pB sU O) ?_;refine WL.panic Y O ?_;refine Ep ?_;refine bE λt o=>?_;exact .inr ⟨r,l,O,ak,(by have h:=o; exact h)⟩
 have aU:¬6<d:=by simp at F; omega
 obtain ⟨f,rfl⟩:∃k,f=k+1:=⟨f-1,aa⟩;have al:Nd b f:=λj r l d w v y z G=>ah f aa j r l d w v y z G;refine bW<|ae<|ac O ?_;refine Lb Y O fw O O O O λaV=>?_;refine ib (T:=9) (m:=1) 0 [[123]] O O (show 1<=1 by decide) a8 λan ao=>?_;refine WL.kx (i6 j b r l an _ _ [[123]] ao af) ?_ ?_
 ·intro ⟨H,K⟩ B;rw [fj] at B;refine Ep ?_;refine bE λt o=>?_;exact .inr ⟨H,K,O,by rw [hA,B]; rfl,(by have h:=o; have h:=Ws.aB h (b7:=[b]) ai; exact h)⟩
 intro ⟨ap,L⟩ ⟨C,ar⟩;have au:=i5 E C;rw [fj] at C;refine ad<|ae<|ag O<|LW (λ_ h=>h.g4 241 6) ?_;refine WL.v0 ?_;refine ad<|Cs<|Cb ?_;refine ey (ι:=GS) (λg=>[(5,.slice g.a g.es.length g.c)]) [(0,_),(1,_),(4,_)] (λg=>Ws w (List.flatMap aQ.ids<|bA j r l) (bA j g.r g.q++[cC 241 6 SX.cells g.a g.c g.es]) [g.J,b]) (λg=>(g.es.length+g.q.length<=l.length/\dM g.q)/\Sl dY 3 b g.r.1 g.r.2 g.q/\(gw w g.J/\qW g.J f g.es)/\∃n,g.q.length<n/\hA (f+1) l=(oA (aar<|hA f) n g.q).map λp=>(g.es.map (·.1)++p.1,p.2)) (λg=>g.q.length) ⟨[],none,0,v0,ap,L⟩ ⟨⟨by have:L.length+1=l.length:=i3 C; simp; omega,au⟩,ar,⟨rj w,qW.nil _ _⟩,L.length+1,ai,by rw [hA,C]; simp⟩ (λ_ h=>by have h:=h.aj 1 O; have h:=Ws.aB h (b7:=[v0,b]) ai; exact h) ?_;intro g ⟨⟨aW,D⟩,av,⟨R,S⟩,u⟩;refine Cs<|ae<|ac O ?_;refine WL.kw (iA j b g.r g.q [125] av) ?_;intro ⟨aX,U,aw⟩ ⟨ax,ay,V⟩;refine I (gW O)<|ad ?_;refine Cc O (λM=>?_)<|λM=>?_
 ·obtain ⟨W,az⟩:=ay (by simpa using M);subst az;obtain ⟨n,aA,u⟩:=u;obtain ⟨n,rfl⟩:∃k,n=k+1:=⟨n-1,aa⟩;refine bW<|Cb<|Cr<|ac O<|ac O<|ac O ?_
  refine oZ (ι:=(b9×qV)×(Option Addr×Nat)×Tk) (κ:=(Option Addr×Nat)×Tk) [_] _ Y O aF O O (λi=>.agg #[.int .i64 (i.1.1).op,st (i.1.1).mod,st (i.1.1).nm,.slice (i.1.2).s1.1 (i.1.1).args.length (i.1.2).s1.2,.slice (i.1.2).s2.1 (i.1.1).body.length (i.1.2).s2.2,.slice (i.1.2).s3.1 (i.1.1).other.length (i.1.2).s3.2]) (λi=>bA j i.2.1 i.2.2) (λaC i=>aar (hA f) g.q=some (i.1.1,i.2.2)/\vQ f aC i.1.1 i.1.2/\Sl dY 3 b i.2.1.1 i.2.1.2 i.2.2) (λ_=>ho) (λi=>bA j i.1 i.2) (λ_=>aar (hA f) g.q=none) ([b]) ai lH (λw o=>(U3 j b U g.q f d w al aa D V o).mono λe t h=>by
      rcases h with ⟨x,s,r2,q,v,y,z,G,aD⟩ | ⟨r2,q,v,y,z⟩
      · exact .inl ⟨((x,s),r2,q),v,⟨y,z,G⟩,aD⟩
      · exact .inr ⟨(r2,q),v,y,z⟩) ?_ ?_
  ·intro ⟨H,K⟩ B;refine WE.bS<|Ep<|WE.bS<|Ep ?_;refine bE λt o=>?_;exact .inr ⟨H,K,O,by rw [u,U2 W B]; rfl,(by have h:=o; have h:=Wt 1 h; have h:=Ws.aB h (b7:=[b]) ai; exact h)⟩
  intro aY ⟨⟨N,P⟩,aE,A⟩ aH ⟨Q,aI,aJ⟩;have aK:dM A:=UX D Q;have aZ:A.length<List.length (g.q):=M6 (zg f) (D).all Q;refine WL.j' λX aL aM aN=>?_;refine Lb Y O nk O O O O λa0=>?_;refine dk 0 (.cells (SX.cells (N,P)).toArray 241 (0,0)) O O ?_;refine LA ((N,P):SX) 2 0 Y O nk O O O O O O (by have:=E.len; omega) (by have:=E.len; omega) λaO aP=>?_;refine ag O<|Ln<|Eb ?_
  exact c8 (⟨g.es++[(N,P)],aO,aP,X,aE,A⟩:GS) (by show A.length<g.q.length; omega) ⟨⟨by simp; omega,aK⟩,aJ,⟨aN _ aH R,qW.snoc S aM aL aI⟩,n,(show A.length<n by omega),by rw [u,U1 W Q]; simp [th]⟩ (λ_ h=>by
      have h:=h.aj 2 rfl;have h:=h.aj 2 rfl;have h:=Wt 2 h;have h:=Ws.aB h (b7:=[X,b]) ai
      exact h)
 have Z:=ax (by simpa using M);have a1:=i4 D Z;obtain ⟨n,aA,u⟩:=u;obtain ⟨n,rfl⟩:∃k,n=k+1:=⟨n-1,aa⟩;refine Ce<|Ex<|Ex<|dQ<|Et<|Cs ?_;refine WC.o1 (rd:=CS) 1 O (λk ab=>by simp [bA,aq] at ab; subst ab; simp [fk,bA,aq,a6]) SX.cD dN λa2 aR aS=>?_;refine Cr<|ac O<|ag O<|ad<|am ?_;refine R1 O O λt o=>?_;exact .inl ⟨g.es.map (·.1),(g.a,g.c),U,aw,by rw [fu],by rw [u,NX Z]; simp,uZ aS (aG o ai aR) (aG o ai R) S,V,(Wv 2 o)⟩
variable {ax:Bool}
def U4 {o:Option eb} (h:dM a') (e:h2 ax a'=some (o,bR)):dM bR:=by
 cases o with
 | none=>obtain rfl:=Gg e; exact h
 | some d=>exact sR h (LO h.all e).1
def U5 (h:dM a') (e:h2 ax a'=some (some jn,bR)):bR.length<a'.length:=by
 have a:=(LO h.all e).1.2;rw [a];simp [zh];omega
def U6 (h:dM a') (e:kh ax a'=some (iR,bR)):dM bR:=sR h (LR h.all e).1
def u_ (h:dM a') (e:kh ax a'=some (iR,bR)):bR.length<a'.length:=by
 have a:=(LR h.all e).1.2;rw [a];simp [Gh];omega
def oF (h:dM a') (e:gZ a'=some (ck,bR)):bR.length<a'.length:=by
 have a:=(rH h.all e).1.2;rw [a];simp
def GR (a:ax=true->bN [112,117,98] a'=some bR) (b:ax=false->bN [112,117,98] a'=none/\a'=bR):ls a'=(ax,bR):=by
 unfold ls;rw [show Co=[112,117,98] from rfl]
 cases ax with
 | true=>rw [a rfl]; rfl
 | false=>obtain ⟨c,d⟩:=b rfl; rw [c,d]; rfl
def vf (h:dM a') (a:ax=true->bN [112,117,98] a'=some bR) (b:ax=false->bN [112,117,98] a'=none/\a'=bR):dM bR/\bR.length<=a'.length:=by
 cases ax with
 | true=>exact ⟨i4 h<|a rfl,by have:=i3 (a rfl); omega⟩
 | false=>obtain ⟨_,c⟩:=b rfl; subst c; exact ⟨h,cQ _⟩
def U7 (h:bN [41] a'=some bR):kg (Z+1) ax a'=some ([],bR):=by rw [kg,h]
def U8 (h:bN [41] a'=none) (a:gZ a'=some (ck,bR)):kg (Z+1) true a'=(kg Z false bR).map λp=>(ck::p.1,p.2):=by rw [kg,h]; simp [a]
def U9 (h:bN [41] a'=none) (a:gZ a'=none):kg (Z+1) true a'=none:=by rw [kg,h]; simp [a]
def U' (h:bN [41] a'=none) (a:bN [44] a'=some bR) (b:gZ bR=some (ck,hP)):kg (Z+1) false a'=(kg Z false hP).map λp=>(ck::p.1,p.2):=by rw [kg,h]; simp [b,a]
def U_ (h:bN [41] a'=none) (a:bN [44] a'=none):kg (Z+1) false a'=none:=by rw [kg,h]; simp [a]
def Va (h:bN [41] a'=none) (a:bN [44] a'=some bR) (b:gZ bR=none):kg (Z+1) false a'=none:=by rw [kg,h]; simp [b,a]
def isNil (l:List Tx):Bool:=match l with | []=>true | _=>false
def Ng (l:List Tx) (x:Tx):isNil (l++[x])=false:=by cases l<;>rfl
def Vb (h:¬0<iP.length):isNil iP=true:=by cases iP with | nil=>rfl | cons _ _=>exact absurd ai h
def Vc (h:0<iP.length):isNil iP=false:=by cases iP with | nil=>simp at h | cons _ _=>rfl
structure i0 where
 s1:Option Addr×Nat
 s2:Option Addr×Nat
 s3:Option Addr×Nat
abbrev PX:=f'×i0
def PX.cells (e:PX):List Value:=ES e.1 e.2.s1.1 e.2.s1.2 e.2.s2.1 e.2.s2.2 e.2.s3.1 e.2.s3.2
def PX.cD (e:PX):(PX.cells e).length=5:=rfl
def vg (a:View) (b o:Nat) (e:PX):Prop:=ar a b o<|PX.cells e
structure vT (N:View) (x:f') (p:i0):Prop where
 params:Sl rdStr 1 N p.s1.1 p.s1.2 x.params
 aC:Sl rdStr 1 N p.s2.1 p.s2.2 x.aC
 body:Sl (h_ 7 6) 6 N p.s3.1 p.s3.2 x.body
def qX (h:Sl rdStr 1 an dj Z iP) (hv:bG an b4):Sl rdStr 1 b4 dj Z iP:=h.imp λb o y a=>jA hv b o y a
def GV (h:Sl u7 4 an dj Z vM) (hv:bG an b4):Sl u7 4 b4 dj Z vM:=h.imp λb o y a=>Qp hv b o y a
variable {DC:i0}
def vT.mv (h:vT an iR DC) (hv:bG an b4):vT b4 iR DC:=⟨qX h.params hv,qX h.aC hv,sW h.body hv⟩
def rT (J:View) (es:List PX):Prop:=∀e ∈ es,vT J e.1 e.2
def rT.nil (J:View):rT J []:=by intro e h; simp at h
variable {CV:List PX} {vU:PX}
def rT.snoc (h:rT an CV) (b:bG an gz) (c:bG b4 gz) (d:vT b4 vU.1 vU.2):rT gz (CV++[vU]):=by
 intro x a
 rcases ge.1 a with a | a
 · exact (h x a).mv b
 · rw [gU] at a
   subst a;exact d.mv c
def Nh (h:Sl vg 5 an dj Z CV) (hv:bG an gz) (f:bG b4 gz) (g:rT b4 CV):Sl (Bx 7 6) 5 gz dj Z (CV.map (·.1)):=by
 refine ⟨by simpa using h.cap,h.max,h.spot,λi x c=>?_⟩;rw [e4] at c;obtain ⟨e,d,rfl⟩:=dS.1 c;obtain ⟨b,o,j,k⟩:=h.b5 i e d;have a:=(g e<|az d).mv f;exact ⟨b,o,j,e.2.s1.1,e.2.s1.2,e.2.s2.1,e.2.s2.2,e.2.s3.1,e.2.s3.2,ar.mono hv k,a.params,a.aC,a.body⟩
structure GN where
 ps:List Tx
 a:Option Addr
 c:Nat
 r:Option Addr×Nat
 q:Tk
structure GD where
 ds:List eb
 a:Option Addr
 c:Nat
 cZ:Bool
 r:Option Addr×Nat
 q:Tk
structure GM where
 ps:List PX
 a:Option Addr
 c:Nat
 J:View
 cZ:Bool
 r:Option Addr×Nat
 q:Tk
def Vd (h:bN [108,111,99,97,108] a'=none):mD (Z+1) a'=some ([],a'):=by rw [mD,show vv=[108,111,99,97,108] from rfl,h]
variable {xL:Tk}
def Ve (h:bN [108,111,99,97,108] a'=some bR) (a:gZ bR=some (ck,hP)) (b:bN [59] hP=some xL):mD (Z+1) a'=(mD Z xL).map λp=>(ck::p.1,p.2):=by rw [mD,show vv=[108,111,99,97,108] from rfl,h]; simp [a,b]
def Vf (h:bN [108,111,99,97,108] a'=some bR) (a:gZ bR=none):mD (Z+1) a'=none:=by rw [mD,show vv=[108,111,99,97,108] from rfl,h]; simp [a]
def Of (h:bN [108,111,99,97,108] a'=some bR) (a:gZ bR=some (ck,hP)) (b:bN [59] hP=none):mD (Z+1) a'=none:=by rw [mD,show vv=[108,111,99,97,108] from rfl,h]; simp [a,b]
def Vh (h:bN [117,115,101] a'=none):m2 (Z+1) a'=some ([],a'):=by rw [m2,show zb=[117,115,101] from rfl,h]
def Vi (h:bN [117,115,101] a'=some bR) (a:gZ bR=some (ck,hP)) (b:bN [59] hP=some xL):m2 (Z+1) a'=(m2 Z xL).map λp=>(ck::p.1,p.2):=by rw [m2,show zb=[117,115,101] from rfl,h]; simp [a,b]
def Vj (h:bN [117,115,101] a'=some bR) (a:gZ bR=none):m2 (Z+1) a'=none:=by rw [m2,show zb=[117,115,101] from rfl,h]; simp [a]
def Vk (h:bN [117,115,101] a'=some bR) (a:gZ bR=some (ck,hP)) (b:bN [59] hP=none):m2 (Z+1) a'=none:=by rw [m2,show zb=[117,115,101] from rfl,h]; simp [a,b]
def Pb (h:h2 ax a'=some (none,bR)):oB (Z+1) ax a'=some (([],ax),bR):=by rw [oB,h]; rfl
variable {yy:Bool}
def Vm (h:h2 ax a'=some (some jn,bR)) (a:ls bR=(yy,hP)):oB (Z+1) ax a'=(oB Z yy hP).map λp=>((jn::p.1.1,p.1.2),p.2):=by rw [oB,h]; simp only [cS]; rw [a]
def Vn (h:h2 ax a'=none):oB (Z+1) ax a'=none:=by rw [oB,h]; rfl
def Vo (h:bN [112,114,111,99] a'=none):oC (Z+1) ax a'=some (([],ax),a'):=by rw [oC,show Cp=[112,114,111,99] from rfl,h]
def Vp (a:bN [112,114,111,99] a'=some bR) (h:kh ax bR=some (iR,hP)) (b:ls hP=(yy,xL)):oC (Z+1) ax a'=(oC Z yy xL).map λp=>((iR::p.1.1,p.1.2),p.2):=by rw [oC,show Cp=[112,114,111,99] from rfl,a]; simp only; rw [h]; simp only [cS]; rw [b]
def Vq (a:bN [112,114,111,99] a'=some bR) (h:kh ax bR=none):oC (Z+1) ax a'=none:=by rw [oC,show Cp=[112,114,111,99] from rfl,a]; simp only; rw [h]; rfl
def nr:gX prog 109=some [(0,1),(1,1),(2,1),(3,1)]:=ab
def Vr (d:Nat) (b:View) (r:Option Addr×Nat) (l:Tk) (cZ:Bool) (w:World) (H:dM l) (Z:Sl dY 3 b r.1 r.2 l) (a:Ws w (List.flatMap aQ.ids<|bA d r l) (bA d r l) [b] w) :
   Calls prog 210 #[.pointer (some ⟨d,0,none⟩),.bool cZ] w λe i=>(∃(o:Option eb) (r2:Option Addr×Nat) (q:Tk),e = .returned (.tuple #[.agg #[.int .i64 ((o).getD (⟨0,[],cZ,0⟩:eb)).kind,st ((o).getD (⟨0,[],cZ,0⟩:eb)).nm,.bool ((o).getD (⟨0,[],cZ,0⟩:eb)).cZ,.int .i64 ((o).getD (⟨0,[],cZ,0⟩:eb)).n],.bool (o).isSome])/\h2 cZ l=some (o,q)/\Sl dY 3 b r2.1 r2.2 q/\Ws w (List.flatMap aQ.ids<|bA d r l) (bA d r2 q) [b] i)\/(∃(r2:Option Addr×Nat) (q:Tk),e = .panicked ho/\h2 cZ l=none/\Ws w (List.flatMap aQ.ids<|bA d r l) (bA d r2 q) [b] i):=by
 refine enter func210 O 50 O O ?_;refine CE a<|ae ?_;refine Al Y O rQ λbh=>?_;refine ag O<|ad<|ae<|ac O<|I (Yb rQ nr O O) ?_;refine Al Y O rQ λbi=>?_;refine aT 0 Y O O O sQ O O O<|ad<|Cs<|Cb<|ae<|ac O<|Lf 2 O ?_;refine WL.kw (iA d b r l [99,111,110,115,116] Z) ?_;intro ⟨bj,P,aa⟩ ⟨ab,af,Q⟩;refine ag O<|ad ?_;refine Cc O (λJ=>?_)<|λJ=>?_
 ·have t:=ab J;have ah:=i4 H t;refine ae<|ac O ?_;refine WL.kx (qU d b P aa Q) ?_ ?_
  ·intro ⟨f,g⟩ c;refine Ep<|WE.bS<|Ep ?_;refine bE λi a=>?_;exact .inr ⟨f,g,O,by simp only [h2,l1,tR,l3,t,c,cS,dR,ei,eu],(by have h:=a; have h:=Wt 1 h; exact h)⟩
  intro ⟨aj,ak,al⟩ ⟨x,an⟩;have ao:=qT ah x;refine I (Yf xz O)<|aT 1 Y O O O dL O O O<|I (Yf zD O)<|aT 1 Y O O O zO O O O<|ad<|ae<|ac O ?_;refine Lb Y O fw O O O O λbk=>?_;refine ib (T:=9) (m:=1) 0 [[61]] O O (show 1<=1 by decide) a8 λap aq=>?_;refine WL.kx (i6 d b ak al ap _ _ [[61]] aq an) ?_ ?_
  ·intro ⟨f,g⟩ c;rw [fj] at c;refine Ep<|WE.bS<|Ep ?_;refine bE λi a=>?_;exact .inr ⟨f,g,O,by simp only [h2,l1,tR,l3,t,x,c,cS,dR,ei,eu],(by have h:=a; have h:=Wt 1 h; have h:=Ws.aB h (b7:=[b]) ai; exact h)⟩
  intro ⟨ar,au⟩ ⟨y,av⟩;have aw:=i5 ao y;rw [fj] at y;refine ad<|Cr<|ac O ?_;refine WL.kx (ut d b ar au av) ?_ ?_
  ·intro ⟨f,g⟩ c;refine WE.bS<|Ep ?_;refine bE λi a=>?_;exact .inr ⟨f,g,O,by simp only [h2,l1,tR,l3,t,x,y,c,cS,dR,ei,eu],(by have h:=a; have h:=Wt 1 h; have h:=Ws.aB h (b7:=[b]) ai; exact h)⟩
  intro ⟨ax,ay,az⟩ ⟨K,aA⟩;have aC:=ui aw K;refine I (Yf sN O)<|aT 1 Y O O O dL O O O<|Ln<|Eb<|Et<|ae<|ac O ?_;refine Lb Y O fw O O O O λR=>?_;refine ib (T:=9) (m:=1) 0 [[59]] O O (show 1<=1 by decide) a8 λz A=>?_;refine WL.kx (i6 d b ay az z _ _ [[59]] A aA) ?_ ?_
  ·intro ⟨f,g⟩ c;rw [fj] at c;refine Ep ?_;refine bE λi a=>?_;exact .inr ⟨f,g,O,by simp only [h2,l1,tR,l3,t,x,y,K,c,cS,dR,ei,eu],(by have h:=a; have h:=Wt 1 h; have h:=Ws.aB h (b7:=[b]) ai; exact h)⟩
  intro ⟨B,C⟩ ⟨j,D⟩;have S:=i5 aC j;rw [fj] at j;refine ad<|ae<|I (db 1 O O pk O)<|aT 2 Y O O O sQ O O O<|ag O<|ad<|am ?_;refine WE.aau (hV O (eM 2 O O pk O)<|j6 O) λi a=>?_;exact .inl ⟨some ⟨1,aj,cZ,ax⟩,B,C,O,by simp only [h2,l1,tR,l3,t,x,y,K,j,cS,dR,ei,eu],D,Wv 2<|Wt 1 a⟩
 obtain ⟨k,aD⟩:=af J;subst aD;refine ae<|ac O ?_;refine WL.kw (iA d b P l [118,97,114] Q) ?_;intro ⟨bl,U,aE⟩ ⟨aF,aG,V⟩;refine ag O<|ad ?_;refine Cc O (λL=>?_)<|λL=>?_
 ·have E:=aF L;have aH:=i4 H E;refine Cr<|ac O ?_;refine WL.kx (qU d b U aE V) ?_ ?_
  ·intro ⟨f,g⟩ c;refine WE.bS<|Ep ?_;refine bE λi a=>?_;exact .inr ⟨f,g,O,by simp only [h2,l1,tR,l3,k,E,c,cS,dR,ei,eu],(by have h:=a; have h:=Wt 1 h; exact h)⟩
  intro ⟨aI,aJ,aK⟩ ⟨M,aL⟩;have aM:=qT aH M;refine I (Yf xz O)<|aT 1 Y O O O dL O O O<|I (Yf zD O)<|aT 1 Y O O O zO O O O<|Ln<|Eb<|Et<|ae<|ac O ?_;refine Lb Y O fw O O O O λR=>?_;refine ib (T:=9) (m:=1) 0 [[59]] O O (show 1<=1 by decide) a8 λz A=>?_;refine WL.kx (i6 d b aJ aK z _ _ [[59]] A aL) ?_ ?_
  ·intro ⟨f,g⟩ c;rw [fj] at c;refine Ep ?_;refine bE λi a=>?_;exact .inr ⟨f,g,O,by simp only [h2,l1,tR,l3,k,E,M,c,cS,dR,ei,eu],(by have h:=a; have h:=Wt 1 h; have h:=Ws.aB h (b7:=[b]) ai; exact h)⟩
  intro ⟨B,C⟩ ⟨j,D⟩;have S:=i5 aM j;rw [fj] at j;refine ad<|ae<|I (db 1 O O pk O)<|aT 2 Y O O O sQ O O O<|ag O<|ad<|am ?_;refine WE.aau (hV O (eM 2 O O pk O)<|j6 O) λi a=>?_;exact .inl ⟨some ⟨2,aI,cZ,0⟩,B,C,O,by simp only [h2,l1,tR,l3,k,E,M,j,cS,dR,ei,eu],D,Wv 1<|Wt 1 a⟩
 obtain ⟨p,aN⟩:=aG L;subst aN;refine ae<|ac O ?_;refine WL.kw (iA d b U l [97,114,114,97,121] V) ?_;intro ⟨bm,W,aO⟩ ⟨aP,aR,X⟩;refine ag O<|ad ?_;refine Cc O (λN=>?_)<|λN=>?_
 ·have s:=aP N;have aS:=i4 H s;refine ae<|ac O ?_;refine WL.kx (qU d b W aO X) ?_ ?_
  ·intro ⟨f,g⟩ c;refine Ep<|WE.bS<|Ep ?_;refine bE λi a=>?_;exact .inr ⟨f,g,O,by simp only [h2,l1,tR,l3,k,p,s,c,cS,dR,ei,eu],(by have h:=a; have h:=Wt 1 h; exact h)⟩
  intro ⟨aU,aV,aW⟩ ⟨u,aX⟩;have aY:=qT aS u;refine I (Yf xz O)<|aT 1 Y O O O dL O O O<|I (Yf zD O)<|aT 1 Y O O O zO O O O<|ad<|ae<|ac O ?_;refine Lb Y O fw O O O O λbn=>?_;refine ib (T:=9) (m:=1) 0 [[91]] O O (show 1<=1 by decide) a8 λaZ a0=>?_;refine WL.kx (i6 d b aV aW aZ _ _ [[91]] a0 aX) ?_ ?_
  ·intro ⟨f,g⟩ c;rw [fj] at c;refine Ep<|WE.bS<|Ep ?_;refine bE λi a=>?_;exact .inr ⟨f,g,O,by simp only [h2,l1,tR,l3,k,p,s,u,c,cS,dR,ei,eu],(by have h:=a; have h:=Wt 1 h; have h:=Ws.aB h (b7:=[b]) ai; exact h)⟩
  intro ⟨a1,a2⟩ ⟨v,a3⟩;have a4:=i5 aY v;rw [fj] at v;refine ad<|ae<|ac O ?_;refine WL.kx (ut d b a1 a2 a3) ?_ ?_
  ·intro ⟨f,g⟩ c;refine Ep<|WE.bS<|Ep ?_;refine bE λi a=>?_;exact .inr ⟨f,g,O,by simp only [h2,l1,tR,l3,k,p,s,u,v,c,cS,dR,ei,eu],(by have h:=a; have h:=Wt 1 h; have h:=Ws.aB h (b7:=[b]) ai; exact h)⟩
  intro ⟨a5,a6,a7⟩ ⟨F,a9⟩;have a':=ui a4 F;refine I (Yf sN O)<|aT 1 Y O O O dL O O O<|ad<|Cr<|ac O ?_;refine Lb Y O fw O O O O λbo=>?_;refine ib (T:=9) (m:=1) 0 [[93]] O O (show 1<=1 by decide) a8 λa_ ba=>?_;refine WL.kx (i6 d b a6 a7 a_ _ _ [[93]] ba a9) ?_ ?_
  ·intro ⟨f,g⟩ c;rw [fj] at c;refine WE.bS<|Ep ?_;refine bE λi a=>?_;exact .inr ⟨f,g,O,by simp only [h2,l1,tR,l3,k,p,s,u,v,F,c,cS,dR,ei,eu],(by have h:=a; have h:=Wt 1 h; have h:=Ws.aB h (b7:=[b]) ai; exact h)⟩
  intro ⟨bb,bc⟩ ⟨G,bd⟩;have be:=i5 a' G;rw [fj] at G;refine Ln<|Eb<|Et<|ae<|ac O ?_;refine Lb Y O fw O O O O λR=>?_;refine ib (T:=9) (m:=1) 0 [[59]] O O (show 1<=1 by decide) a8 λz A=>?_;refine WL.kx (i6 d b bb bc z _ _ [[59]] A bd) ?_ ?_
  ·intro ⟨f,g⟩ c;rw [fj] at c;refine Ep ?_;refine bE λi a=>?_;exact .inr ⟨f,g,O,by simp only [h2,l1,tR,l3,k,p,s,u,v,F,G,c,cS,dR,ei,eu],(by have h:=a; have h:=Wt 1 h; have h:=Ws.aB h (b7:=[b]) ai; exact h)⟩
  intro ⟨B,C⟩ ⟨j,D⟩;have S:=i5 be j;rw [fj] at j;refine ad<|ae<|I (db 1 O O pk O)<|aT 2 Y O O O sQ O O O<|ag O<|ad<|am ?_;refine WE.aau (hV O (eM 2 O O pk O)<|j6 O) λi a=>?_;exact .inl ⟨some ⟨3,aU,cZ,a5⟩,B,C,O,by simp only [h2,l1,tR,l3,k,p,s,u,v,F,G,j,cS,dR,ei,eu],D,Wv 3<|Wt 1 a⟩
 obtain ⟨bf,bg⟩:=aR N;subst bg;refine ae<|I (db 1 O O pk O)<|aT 2 Y O O O sQ O O O<|ag O<|ad<|am<|cN<|Er ?_;refine WE.aau (hV O (eM 2 O O pk O)<|j6 O) λi a=>?_;exact .inl ⟨none,W,l,O,by simp only [h2,l1,tR,l3,k,p,bf,cS,dR,ei,eu],X,Wt 1 a⟩
def Ps (a:Nat) (b:View) (r:Option Addr×Nat) (l:Tk) (cZ:Bool) (g:dM l) (j:Sl dY 3 b r.1 r.2 l):vH prog 210 [.pointer (some ⟨a,0,none⟩),.bool cZ] ((bA a r l)) [b] (ι:=(Option eb)×(Option Addr×Nat)×Tk) (κ:=(Option Addr×Nat)×Tk) (λi=>.tuple #[.agg #[.int .i64 ((i.1).getD (⟨0,[],cZ,0⟩:eb)).kind,st ((i.1).getD (⟨0,[],cZ,0⟩:eb)).nm,.bool ((i.1).getD (⟨0,[],cZ,0⟩:eb)).cZ,.int .i64 ((i.1).getD (⟨0,[],cZ,0⟩:eb)).n],.bool (i.1).isSome]) (λi=>bA a i.2.1 i.2.2) (λi=>h2 cZ l=some (i.1,i.2.2)/\Sl dY 3 b i.2.1.1 i.2.1.2 i.2.2) (λ_=>ho) (λi=>bA a i.1 i.2) (λ_=>h2 cZ l=none):=⟨aF,λw k=>(Vr a b r l cZ w g j k).mono λe o h=>by
   rcases h with ⟨t,r2,q,c,d,f,m⟩ | ⟨r2,q,c,d,f⟩
   · exact .inl ⟨(t,r2,q),c,⟨d,f⟩,m⟩
   · exact .inr ⟨(r2,q),c,d,f⟩⟩
def zQ (nm:Tx) (cZ:Bool) (a1:Option Addr) (n1 c1:Nat) (a2:Option Addr) (n2 c2:Nat) (a3:Option Addr) (n3 c3:Nat):List Value:=[st nm,.bool cZ,.slice a1 n1 c1,.slice a2 n2 c2,.slice a3 n3 c3]
def Nk:gX prog 113=some [(0,1),(1,1),(2,1),(3,1),(4,1)]:=ab
def CX:aJ prog 22=some 1:=ab
def Vt (j:Nat) (b:View) (r:Option Addr×Nat) (l:Tk) (cZ:Bool) (w:World) (F:dM l) (aR:Sl dY 3 b r.1 r.2 l) (f:Ws w (List.flatMap aQ.ids<|bA j r l) (bA j r l) [b] w) :
   Calls prog 211 #[.pointer (some ⟨j,0,none⟩),.bool cZ] w λe z=>(∃(p:f') (s:i0) (r2:Option Addr×Nat) (q:Tk),e = .returned (.agg #[st (p).nm,.bool (p).cZ,.slice (s).s1.1 (p).params.length (s).s1.2,.slice (s).s2.1 (p).aC.length (s).s2.2,.slice (s).s3.1 (p).body.length (s).s3.2])/\kh cZ l=some (p,q)/\vT (nv w z) p s/\Sl dY 3 b r2.1 r2.2 q/\Ws w (List.flatMap aQ.ids<|bA j r l) (bA j r2 q) [b] z)\/(∃(r2:Option Addr×Nat) (q:Tk),e = .panicked ho/\kh cZ l=none/\Ws w (List.flatMap aQ.ids<|bA j r l) (bA j r2 q) [b] z):=by
 refine enter func211 O 46 O O ?_;refine CE f<|ae ?_;refine Al Y O uf λaK=>?_;refine dk 0 (.cells (zQ [] false none 0 0 none 0 0 none 0 0).toArray 113 (0,0)) O O<|ad<|ae<|ac O<|ac O<|Lf 1 O ?_;refine WL.kx (qU j b r l aR) ?_ ?_
 ·intro ⟨u,y⟩ t;refine Ep ?_;refine bE λz f=>?_;exact .inr ⟨u,y,O,by simp only [kh,t,ei],(by have h:=f; have h:=Wt 1 h; exact h)⟩
 intro ⟨af,aS,ag⟩ ⟨D,aU⟩;have aV:=qT F D;refine I (Yb uf Nk O O) ?_;refine Al Y O uf λaL=>?_;refine aT 0 Y O O O xH O O O<|LW (λ_ h=>h.g4 9 1)<|LW (λ_ h=>h.g4 9 1)<|ad<|ae<|ac O ?_;refine Lb Y O fw O O O O λbG=>?_;refine ib (T:=9) (m:=1) 0 [[40]] O O (show 1<=1 by decide) a8 λaW aX=>?_;refine Lf 3 O ?_;refine WL.kx (i6 j b aS ag aW _ _ [[40]] aX aU) ?_ ?_
 ·intro ⟨u,y⟩ t;rw [fj] at t;refine Ep ?_;refine bE λz f=>?_;exact .inr ⟨u,y,O,by simp only [kh,D,t,cS,ei],(by have h:=f; have h:=Wt 1 h; have h:=Ws.aB h (b7:=[b]) ai; exact h)⟩
 intro ⟨aY,S⟩ ⟨E,aZ⟩;have a0:=i5 aV E;rw [fj] at E;refine ad<|Cs<|Cb ?_;refine ey (ι:=GN) (λg=>[]) [(0,_),(4,_),(5,_)] (λg=>Ws w (List.flatMap aQ.ids<|bA j r l) (bA j g.r g.q++[aq aL (.cells (zQ af cZ g.a g.ps.length g.c none 0 0 none 0 0).toArray 113 (0,0)),cC 9 1 gk g.a g.c g.ps,(cC 9 1 gk none 0 ([]:List Tx)),aq aK (.cells (zQ [] false none 0 0 none 0 0 none 0 0).toArray 113 (0,0))]) [b]) (λg=>(g.ps.length+g.q.length<=l.length/\dM g.q)/\Sl dY 3 b g.r.1 g.r.2 g.q/\∃n,g.q.length<n/\kg (S.length+1) true S=(kg n (isNil g.ps) g.q).map λp=>(g.ps++p.1,p.2)) (λg=>g.q.length) ⟨[],none,0,aY,S⟩ ⟨⟨by have:ag.length<l.length:=oF F D; have:S.length+1=ag.length:=i3 E; simp; omega,a0⟩,aZ,S.length+1,ai,by simp [isNil]⟩ (λ_ h=>by have h:=h.aj 4 O; have h:=h.aj 3 O; have h:=h.aj 3 O; have h:=h.aj 4 O; have h:=h.aj 4 O; have h:=Ws.aB h (b7:=[b]) ai; exact h) ?_;intro g ⟨⟨bH,N⟩,a1,o⟩;refine Cs<|ae<|ac O ?_;refine WL.kw (iA j b g.r g.q [41] a1) ?_;intro ⟨bI,ah,U⟩ ⟨a2,a3,ak⟩;refine I (gW O)<|ad ?_;refine Cc O (λal=>?_)<|λal=>?_
 ·obtain ⟨V,a4⟩:=a3 (by simpa using al);subst a4;obtain ⟨n,an,o⟩:=o;obtain ⟨n,rfl⟩:∃k,n=k+1:=⟨n-1,aa⟩;refine bW<|Cb<|Cs<|ae<|I (Yf rR O)<|I (Yd 1 O O O ab)<|I (Yn fQ O)<|I (eh O O)<|ad ?_;refine Cc O (λao=>?_)<|λao=>?_
  ·have ap:0<g.ps.length:=by simpa using ao
   rw [Vc ap] at o;refine Cr<|ac O ?_;refine Lb Y O fw O O O O λbJ=>?_;refine ib (T:=9) (m:=1) 0 [[44]] O O (show 1<=1 by decide) a8 λa5 a7=>?_;refine WL.kx (i6 j b ah g.q a5 _ _ [[44]] a7 ak) ?_ ?_
   ·intro ⟨u,y⟩ t;rw [fj] at t;refine Ep<|WE.bS<|Ep<|WE.bS<|Ep ?_;refine bE λz f=>?_;rw [U_ V t] at o;exact .inr ⟨u,y,O,by simp only [kh,D,E,o,cS,ei,eu],(by have h:=f; have h:=Wt 1 h; have h:=Ws.aB h (b7:=[b]) ai; exact h)⟩
   intro ⟨a9,G⟩ ⟨H,a'⟩;have X:=i5 N H;rw [fj] at H;refine ad ?_;refine CU (λ_=>true) [0,1] [6,7] (.q false 0<|.q true 1<|.q false 2<|.e 3 (.e 4 (.e 5 .nil .stop) .stop) .stop) mixed ab (λ_ _ _ d _ _ h=>by cases d<;>exact h) ?_;refine U0 O (ct [0,1]) (Yf rR O)<|U0 O (ct [0,1]) (Yd 0 O O O ab)<|U0 O (ct [0,1]) (Ym O) ?_;refine Ue O (ct [0,1]) ?_ WU.stop;refine WL.kx (qU j b a9 G a') ?_ ?_
   ·intro ⟨u,y⟩ t;refine Ep<|WE.bS<|Ep<|WE.bS<|Ep ?_;refine bE λz f=>?_;rw [Va V H t] at o;exact .inr ⟨u,y,O,by simp only [kh,D,E,o,cS,ei,eu],(by have h:=f; have h:=Wt 1 h; have h:=Ws.aB h (b7:=[b]) ai; exact h)⟩
   intro ⟨J,ar,A⟩ ⟨C,au⟩;have av:=qT X C;refine Ln<|Eu ?_;refine Ue O (ct [0,1]) ?_ WU.stop;refine Lb Y O fw O O O O λa_=>?_;refine dk 0 (.cells (gk J).toArray 9 (0,0)) O O<|Ln<|Eu ?_;refine Ue O (λ_ h=>(Wo 1 (Wo 0<|Wd 1 h):)) ?_ WU.stop;refine LA (J:Tx) 3 0 Y O fw O O O O O O (by have:=F.len; omega) (by have:=F.len; omega) λaw ax=>?_;refine Ln<|Eu ?_;refine WU.nil (λ_ h=>(Wo 1 (Wo 0<|Wd 1 h):)) ?_;refine WS.e O ?_;refine I (Yf rR O)<|Ln<|Es ?_;refine WS.e O ?_;refine aT 2 Y O O O CX O O O<|Ln<|Es ?_;refine WS.nil ?_;refine Eb ?_
   exact c8 (⟨g.ps++[J],aw,ax,ar,A⟩:GN) (by have:A.length<G.length:=oF X C; have:G.length+1=g.q.length:=i3 H; show A.length<g.q.length; omega) ⟨⟨by have:A.length<G.length:=oF X C; have:G.length+1=g.q.length:=i3 H; simp; omega,av⟩,au,n,(show A.length<n by have:A.length<G.length:=oF X C; have:G.length+1=g.q.length:=i3 H; omega),by rw [o,U' V H C,Ng]; simp [th]⟩ (λ_ h=>by
       have h:=h.aj 5 rfl;have h:=h.aj 5 rfl;have h:=h.aj 5 rfl;have h:=h.aj 5 rfl;have h:=h.aj 5 rfl;have h:=Wt 5 h;have h:=Ws.aB h (b7:=[b]) ai
       exact h)
  have ap:¬0<g.ps.length:=by simpa using ao
  rw [Vb ap] at o;refine bW ?_;refine CU (λ_=>true) [0,1] [6,7] (.q false 0<|.q true 1<|.q false 2<|.e 3 (.e 4 (.e 5 .nil .stop) .stop) .stop) mixed ab (λ_ _ _ d _ _ h=>by cases d<;>exact h) ?_;refine U0 O (ct [0,1]) (Yf rR O)<|U0 O (ct [0,1]) (Yd 0 O O O ab)<|U0 O (ct [0,1]) (Ym O) ?_;refine Ue O (ct [0,1]) ?_ WU.stop;refine WL.kx (qU j b ah g.q ak) ?_ ?_
  ·intro ⟨u,y⟩ t;refine Ep<|WE.bS<|Ep<|WE.bS<|Ep ?_;refine bE λz f=>?_;rw [U9 V t] at o;exact .inr ⟨u,y,O,by simp only [kh,D,E,o,cS,ei,eu],(by have h:=f; have h:=Wt 1 h; exact h)⟩
  intro ⟨J,ar,A⟩ ⟨C,au⟩;have av:=qT N C;refine Ln<|Eu ?_;refine Ue O (ct [0,1]) ?_ WU.stop;refine Lb Y O fw O O O O λa_=>?_;refine dk 0 (.cells (gk J).toArray 9 (0,0)) O O<|Ln<|Eu ?_;refine Ue O (λ_ h=>(Wo 1 (Wo 0<|Wd 1 h):)) ?_ WU.stop;refine LA (J:Tx) 3 0 Y O fw O O O O O O (by have:=F.len; omega) (by have:=F.len; omega) λaw ax=>?_;refine Ln<|Eu ?_;refine WU.nil (λ_ h=>(Wo 1 (Wo 0<|Wd 1 h):)) ?_;refine WS.e O ?_;refine I (Yf rR O)<|Ln<|Es ?_;refine WS.e O ?_;refine aT 2 Y O O O CX O O O<|Ln<|Es ?_;refine WS.nil ?_;refine Eb ?_
  exact c8 (⟨g.ps++[J],aw,ax,ar,A⟩:GN) (by have:A.length<g.q.length:=oF N C; show A.length<g.q.length; omega) ⟨⟨by have:A.length<g.q.length:=oF N C; simp; omega,av⟩,au,n,(show A.length<n by have:A.length<g.q.length:=oF N C; omega),by rw [o,U8 V C,Ng]; simp [th]⟩ (λ_ h=>by
      have h:=h.aj 5 rfl;have h:=h.aj 5 rfl;have h:=h.aj 5 rfl;have h:=h.aj 5 rfl;have h:=h.aj 5 rfl;have h:=Wt 5 h;have h:=Ws.aB h (b7:=[b]) ai
      exact h)
 have az:=a2 (by simpa using al);have ba:=i4 N az;obtain ⟨n,an,o⟩:=o;obtain ⟨n,rfl⟩:∃k,n=k+1:=⟨n-1,aa⟩;rw [U7 az] at o;simp at o;refine Ce<|Ex<|Ex<|dQ<|Et<|Cs<|Cb ?_;refine ey (ι:=GN) (λv=>[]) [(0,_),(4,_),(5,_)] (λv=>Ws w (List.flatMap aQ.ids<|bA j r l) (bA j v.r v.q++[aq aL (.cells (zQ af cZ g.a g.ps.length g.c v.a v.ps.length v.c none 0 0).toArray 113 (0,0)),cC 9 1 gk g.a g.c g.ps,cC 9 1 gk v.a v.c v.ps,aq aK (.cells (zQ [] false none 0 0 none 0 0 none 0 0).toArray 113 (0,0))]) [b]) (λv=>(v.ps.length+v.q.length<=l.length/\dM v.q)/\Sl dY 3 b v.r.1 v.r.2 v.q/\∃n,v.q.length<n/\mD (U.length+1) U=(mD n v.q).map λp=>(v.ps++p.1,p.2)) (λv=>v.q.length) ⟨[],none,0,ah,U⟩ ⟨⟨by have:U.length+1=g.q.length:=i3 az; simp; omega,ba⟩,ak,U.length+1,ai,ai⟩ ay ?_;intro v ⟨⟨bK,aA⟩,bb,B⟩;refine Cs<|ae<|ac O ?_;refine WL.kw (iA j b v.r v.q [108,111,99,97,108] bb) ?_;intro ⟨bL,aM,K⟩ ⟨bc,bd,aN⟩;refine ad ?_;refine Cc O (λaD=>?_)<|λaD=>?_
 ·have L:=bc aD;have Z:=i4 aA L;obtain ⟨n,an,B⟩:=B;obtain ⟨n,rfl⟩:∃k,n=k+1:=⟨n-1,aa⟩;refine bW<|Cb<|Cs ?_;refine CU (λ_=>true) [0,2] [6,7] (.q false 0<|.q true 1<|.q false 2<|.e 3 (.e 4 (.e 5 .nil .stop) .stop) .stop) mixed ab (λ_ _ _ d _ _ h=>by cases d<;>exact h) ?_;refine U0 O (ct [0,2]) (Yf xI O)<|U0 O (ct [0,2]) (Yd 0 O O O ab)<|U0 O (ct [0,2]) (Ym O) ?_;refine Ue O (ct [0,2]) ?_ WU.stop;refine WL.kx (qU j b aM K aN) ?_ ?_
  ·intro ⟨u,y⟩ t;refine Ep<|Ep<|WE.bS<|Ep<|WE.bS<|Ep ?_;refine bE λz f=>?_;rw [Vf L t] at B;exact .inr ⟨u,y,O,by simp only [kh,D,E,o,B,cS,ei,eu],(by have h:=f; have h:=Wt 1 h; exact h)⟩
  intro ⟨aE,be,M⟩ ⟨P,bf⟩;have bg:=qT Z P;refine Ln<|Eu ?_;refine Ue O (ct [0,2]) ?_ WU.stop;refine Lb Y O fw O O O O λbM=>?_;refine dk 0 (.cells (gk aE).toArray 9 (0,0)) O O<|Ln<|Eu ?_;refine Ue O (λ_ h=>(Wo 2 (Wo 0<|Wd 1 h):)) ?_ WU.stop;refine LA (aE:Tx) 4 0 Y O fw O O O O O O (by have:=F.len; omega) (by have:=F.len; omega) λbh bi=>?_;refine Ln<|Eu ?_;refine WU.nil (λ_ h=>(Wo 2 (Wo 0<|Wd 1 h):)) ?_;refine WS.e O ?_;refine I (Yf xI O)<|Ln<|Es ?_;refine WS.e O ?_;refine aT 2 Y O O O CX O O O<|Ln<|Es ?_;refine WS.nil ?_;refine Et<|Cr<|ac O ?_;refine Lb Y O fw O O O O λbN=>?_;refine ib (T:=9) (m:=1) 0 [[59]] O O (show 1<=1 by decide) a8 λbj bk=>?_;refine Lf 1 O ?_;refine WL.kx (i6 j b be M bj _ _ [[59]] bk bf) ?_ ?_
  ·intro ⟨u,y⟩ t;rw [fj] at t;refine WE.bS<|Ep<|WE.bS<|Ep ?_;refine bE λz f=>?_;rw [Of L P t] at B;exact .inr ⟨u,y,O,by simp only [kh,D,E,o,B,cS,ei,eu],(by have h:=f; have h:=Wt 1 h; have h:=Ws.aB h (b7:=[b]) ai; exact h)⟩
  intro ⟨bl,Q⟩ ⟨R,bm⟩;have bn:=i5 bg R;rw [fj] at R;refine Ln<|Eb ?_
  exact c8 (⟨v.ps++[aE],bh,bi,bl,Q⟩:GN) (by have:K.length+1=v.q.length:=i3 L; have:M.length<K.length:=oF Z P; have:Q.length+1=M.length:=i3 R; show Q.length<v.q.length; omega) ⟨⟨by have:K.length+1=v.q.length:=i3 L; have:M.length<K.length:=oF Z P; have:Q.length+1=M.length:=i3 R; simp; omega,bn⟩,bm,n,(show Q.length<n by have:K.length+1=v.q.length:=i3 L; have:M.length<K.length:=oF Z P; have:Q.length+1=M.length:=i3 R; omega),by rw [B,Ve L P R]; simp [th]⟩ (λ_ h=>by
      have h:=h.aj 5 rfl;have h:=h.aj 5 rfl;have h:=h.aj 5 rfl;have h:=h.aj 5 rfl;have h:=h.aj 4 rfl;have h:=Wt 5 h;have h:=Ws.aB h (b7:=[b]) ai
      exact h)
 obtain ⟨bo,bp⟩:=bd aD;subst bp;obtain ⟨n,an,B⟩:=B;obtain ⟨n,rfl⟩:∃k,n=k+1:=⟨n-1,aa⟩;rw [Vd bo] at B;simp at B;refine Ce<|Ex<|Ex<|dQ<|Et<|ae<|ac O ?_
 refine oZ (ι:=((List b9)×(Option Addr×Nat))×(Option Addr×Nat)×Tk) (κ:=(Option Addr×Nat)×Tk) [_] _ Y O aF O O (λi=>.slice i.1.2.1 i.1.1.length i.1.2.2) (λi=>bA j i.2.1 i.2.2) (λbq i=>hA 6 v.q=some (i.1.1,i.2.2)/\Sl (h_ 7 6) 6 bq i.1.2.1 i.1.2.2 i.1.1/\Sl dY 3 b i.2.1.1 i.2.1.2 i.2.2) (λ_=>ho) (λi=>bA j i.1 i.2) (λ_=>hA 6 v.q=none) ([b]) ai lH (λw f=>(Nf b 6 j aM v.q (1) w aa aA aN f).mono λe z h=>by
     rcases h with ⟨x,s,r2,q,aH,aI,aJ,br,bs⟩ | ⟨r2,q,aH,aI,aJ⟩
     · exact .inl ⟨((x,s),r2,q),aH,⟨aI,aJ,br⟩,bs⟩
     · exact .inr ⟨(r2,q),aH,aI,aJ⟩) ?_ ?_
 ·intro ⟨u,y⟩ t;refine Ep ?_;refine bE λz f=>?_;exact .inr ⟨u,y,O,by simp only [kh,D,E,o,B,t,cS,ei,eu],(by have h:=f; have h:=Wt 1 h; exact h)⟩
 intro bO ⟨⟨bt,bu⟩,bv,aO⟩ bw ⟨aP,bx,bz⟩;have bP:dM aO:=zL aA aP;refine I (Yf GJ O)<|aT 1 Y O O O zN O O O<|ad<|Cs ?_;refine WC.o1 (rd:=rdStr) 2 O (λk W=>by simp [bA,aq] at W; subst W; simp [fk,bA,aq,a6]) oY dN λbQ bB bC=>?_;refine WC.o1 (rd:=rdStr) 2 O (λk W=>by simp [bA,aq] at W; subst W; simp [fk,bA,aq,a6]) oY dN λbR bD bF=>?_;refine Cr<|I (db 1 O O xG O)<|aT 2 Y O O O xH O O O<|ad<|am ?_;refine WE.aau (iF O<|eM 2 O O xG O) λz f=>?_;exact .inl ⟨⟨af,cZ,g.ps,v.ps,bt⟩,⟨(g.a,g.c),(v.a,v.c),bu⟩,bv,aO,O,by simp only [kh,D,E,o,B,aP,cS,dR],⟨qX bC<|aG f ai bB,qX bF<|aG f ai bD,sW bx<|aG f ai bw⟩,bz,Wv 3<|Wt 1 f⟩
structure GU where
 us:List Tx
 a:Option Addr
 c:Nat
 r:Option Addr×Nat
 q:Tk
def oG (nm:Tx) (a1:Option Addr) (n1 c1:Nat) (a2:Option Addr) (n2 c2:Nat) (a3:Option Addr) (n3 c3:Nat) (a4:Option Addr) (a c4:Nat):List Value:=[st nm,.slice a1 n1 c1,.slice a2 n2 c2,.slice a3 n3 c3,.slice a4 a c4]
def sY (a:bN [109,111,100,117,108,101] a'=some bR) (c:gZ bR=some (ck,hP)) (e:bN [123] hP=some xL):lu a'=(m2 (xL.length+1) xL).bind λu=>
   (oB ((ls u.2).2.length+1) (ls u.2).1 (ls u.2).2).bind λd=>(oC (d.2.length+1) d.1.2 d.2).bind λp=>if p.1.2=true then none else
   (bN qL p.2).bind λr=>(hA 6 r).bind λb=>(bN [125] b.2).map λr=>(⟨ck,u.1,d.1.1,p.1.1,b.1⟩,r):=by
 rw [lu,show za=[109,111,100,117,108,101] from rfl,a]; simp only [cS]; rw [c]; simp only [cS]; rw [e]; rfl
def sZ:zeroOf prog 27=some (.agg #[st [],.slice none 0 0,.slice none 0 0,.slice none 0 0,.slice none 0 0]):=ab
def CY:gX prog 27=some [(0,1),(1,1),(2,1),(3,1),(4,1)]:=ab
def uh:aJ prog 27=some 5:=ab
def GW:hf prog 24 113 (.agg #[st [],.bool false,.slice none 0 0,.slice none 0 0,.slice none 0 0]) 5 96:=jb ab
def Vu:aJ prog 24=some 1:=ab
def vF:hf prog 23 109 (.agg #[.int .i64 0,st [],.bool false,.int .i64 0]) 4 40:=jb ab
def Vv:aJ prog 23=some 1:=ab
def Vw (j:Nat) (b:View) (r:Option Addr×Nat) (l:Tk) (w:World) (H:dM l) (bp:Sl dY 3 b r.1 r.2 l) (f:Ws w (List.flatMap aQ.ids<|bA j r l) (bA j r l) [b] w) :
   Calls prog 122 #[.pointer (some ⟨j,0,none⟩)] w λe z=>(∃(m:df) (s:cb) (r2:Option Addr×Nat) (q:Tk),e = .returned (.agg (iJ m s).toArray)/\lu l=some (m,q)/\n7 7 6 (nv w z) s m/\Sl dY 3 b r2.1 r2.2 q/\Ws w (List.flatMap aQ.ids<|bA j r l) (bA j r2 q) [b] z)\/(∃(r2:Option Addr×Nat) (q:Tk),e = .panicked ho/\lu l=none/\Ws w (List.flatMap aQ.ids<|bA j r l) (bA j r2 q) [b] z):=by
 refine enter func122 O 71 O O ?_;refine CE f<|ae ?_;refine Al Y O sZ λaD=>?_;refine dk 0 (.cells (oG [] none 0 0 none 0 0 none 0 0 none 0 0).toArray 27 (0,0)) O O<|ad<|ae<|ac O ?_;refine Lb Y O fw O O O O λcO=>?_;refine ib (T:=9) (m:=1) 0 [[109,111,100,117,108,101]] O O (show 1<=1 by decide) a8 λbq br=>?_;refine Lf 1 O ?_;refine WL.kx (i6 j b r l bq _ _ [[109,111,100,117,108,101]] br bp) ?_ ?_
 ·intro ⟨t,u⟩ o;rw [fj] at o;refine Ep ?_;refine bE λz f=>?_;exact .inr ⟨t,u,O,by simp only [lu,za,o,ei],(by have h:=f; have h:=Wt 1 h; have h:=Ws.aB h (b7:=[b]) ai; exact h)⟩
 intro ⟨bs,aE⟩ ⟨B,bt⟩;have a2:=i5 H B;rw [fj] at B;refine ad<|ae<|ac O ?_;refine WL.kx (qU j b bs aE bt) ?_ ?_
 ·intro ⟨t,u⟩ o;refine Ep ?_;refine bE λz f=>?_;exact .inr ⟨t,u,O,by simp only [lu,za,B,o,cS,ei],(by have h:=f; have h:=Wt 1 h; have h:=Ws.aB h (b7:=[b]) ai; exact h)⟩
 intro ⟨ao,bu,aH⟩ ⟨C,bv⟩;have bw:=qT a2 C;refine I (Yb sZ CY O O) ?_;refine Al Y O sZ λaI=>?_;refine aT 0 Y O O O uh O O O<|LW (λ_ h=>h.g4 9 1)<|LW (λ_ h=>h.g4 109 4)<|LW (λ_ h=>h.g4 113 5) ?_;refine WL.v0 ?_;refine ad<|ae<|ac O ?_;refine Lb Y O fw O O O O λcP=>?_;refine ib (T:=9) (m:=1) 0 [[123]] O O (show 1<=1 by decide) a8 λbx bz=>?_;refine Lf 4 O ?_;refine WL.kx (i6 j b bu aH bx _ _ [[123]] bz bv) ?_ ?_
 ·intro ⟨t,u⟩ o;rw [fj] at o;refine Ep ?_;refine bE λz f=>?_;exact .inr ⟨t,u,O,by simp only [lu,za,B,C,o,cS,ei],(by have h:=f; have h:=Wt 1 h; have h:=Ws.aB h (b7:=[b]) ai; exact h)⟩
 intro ⟨bB,ap⟩ ⟨D,bC⟩;have bD:=i5 bw D;rw [fj] at D;refine ad<|Cs<|Cb ?_;refine ey (ι:=GU) (λg=>[]) [(0,_),(2,_),(3,_)] (λg=>Ws w (List.flatMap aQ.ids<|bA j r l) (bA j g.r g.q++[aq aI (.cells (oG ao g.a g.us.length g.c none 0 0 none 0 0 none 0 0).toArray 27 (0,0)),cC 9 1 gk g.a g.c g.us,cC 109 4 eb.cells none 0 ([]:List eb),cC 113 5 PX.cells none 0 ([]:List PX),aq aD (.cells (oG [] none 0 0 none 0 0 none 0 0 none 0 0).toArray 27 (0,0))]) [v0,b]) (λg=>(g.us.length+g.q.length<=l.length/\dM g.q)/\Sl dY 3 b g.r.1 g.r.2 g.q/\∃n,g.q.length<n/\m2 (ap.length+1) ap=(m2 n g.q).map λp=>(g.us++p.1,p.2)) (λg=>g.q.length) ⟨[],none,0,bB,ap⟩ ⟨⟨by have:aE.length+1=l.length:=i3 B; have:aH.length<aE.length:=oF a2 C; have:ap.length+1=aH.length:=i3 D; simp; omega,bD⟩,bC,ap.length+1,ai,ai⟩ (λ_ h=>by have h:=h.aj 5 O; have h:=h.aj 2 O; have h:=h.aj 3 O; have h:=h.aj 4 O; have h:=h.aj 5 O; have h:=h.aj 5 O; have h:=Ws.aB h (b7:=[v0,b]) ai; exact h) ?_;intro g ⟨⟨cQ,a3⟩,bF,y⟩;refine Cs<|ae<|ac O ?_;refine WL.kw (iA j b g.r g.q [117,115,101] bF) ?_;intro ⟨cR,a4,K⟩ ⟨bG,bH,a5⟩;refine ad ?_;refine Cc O (λaJ=>?_)<|λaJ=>?_
 ·have L:=bG aJ;have aw:=i4 a3 L;obtain ⟨n,V,y⟩:=y;obtain ⟨n,rfl⟩:∃k,n=k+1:=⟨n-1,aa⟩;refine bW<|Cb<|Cs ?_;refine CU (λ_=>true) [0,1] [6,7] (.q false 0<|.q true 1<|.q false 2<|.e 3 (.e 4 (.e 5 .nil .stop) .stop) .stop) mixed ab (λ_ _ _ d _ _ h=>by cases d<;>exact h) ?_;refine U0 O (ct [0,1]) (Yf ue O)<|U0 O (ct [0,1]) (Yd 0 O O O ab)<|U0 O (ct [0,1]) (Ym O) ?_;refine Ue O (ct [0,1]) ?_ WU.stop;refine WL.kx (qU j b a4 K a5) ?_ ?_
  ·intro ⟨t,u⟩ o;refine Ep<|Ep<|WE.bS<|Ep<|WE.bS<|Ep ?_;refine bE λz f=>?_;rw [Vj L o] at y;exact .inr ⟨t,u,O,by rw [sY B C D]; simp only [qL,y,cS,dR,ei,eu],(by have h:=f; have h:=Wt 1 h; have h:=Ws.aB h (b7:=[b]) ai; exact h)⟩
  intro ⟨aK,bI,M⟩ ⟨W,bJ⟩;have bK:=qT aw W;refine Ln<|Eu ?_;refine Ue O (ct [0,1]) ?_ WU.stop;refine Lb Y O fw O O O O λcT=>?_;refine dk 0 (.cells (gk aK).toArray 9 (0,0)) O O<|Ln<|Eu ?_;refine Ue O (λ_ h=>(Wo 1 (Wo 0<|Wd 1 h):)) ?_ WU.stop;refine LA (aK:Tx) 3 0 Y O fw O O O O O O (by have:=H.len; omega) (by have:=H.len; omega) λbL bM=>?_;refine Ln<|Eu ?_;refine WU.nil (λ_ h=>(Wo 1 (Wo 0<|Wd 1 h):)) ?_;refine WS.e O ?_;refine I (Yf ue O)<|Ln<|Es ?_;refine WS.e O ?_;refine aT 2 Y O O O CX O O O<|Ln<|Es ?_;refine WS.nil ?_;refine Et<|Cr<|ac O ?_;refine Lb Y O fw O O O O λcU=>?_;refine ib (T:=9) (m:=1) 0 [[59]] O O (show 1<=1 by decide) a8 λbN bO=>?_;refine Lf 1 O ?_;refine WL.kx (i6 j b bI M bN _ _ [[59]] bO bJ) ?_ ?_
  ·intro ⟨t,u⟩ o;rw [fj] at o;refine WE.bS<|Ep<|WE.bS<|Ep ?_;refine bE λz f=>?_;rw [Vk L W o] at y;exact .inr ⟨t,u,O,by rw [sY B C D]; simp only [qL,y,cS,dR,ei,eu],(by have h:=f; have h:=Wt 1 h; have h:=Ws.aB h (b7:=[b]) ai; exact h)⟩
  intro ⟨bP,X⟩ ⟨Z,bQ⟩;have bR:=i5 bK Z;rw [fj] at Z;refine Ln<|Eb ?_
  exact c8 (⟨g.us++[aK],bL,bM,bP,X⟩:GU) (by have:K.length+1=g.q.length:=i3 L; have:M.length<K.length:=oF aw W; have:X.length+1=M.length:=i3 Z; show X.length<g.q.length; omega) ⟨⟨by have:K.length+1=g.q.length:=i3 L; have:M.length<K.length:=oF aw W; have:X.length+1=M.length:=i3 Z; simp; omega,bR⟩,bQ,n,(show X.length<n by have:K.length+1=g.q.length:=i3 L; have:M.length<K.length:=oF aw W; have:X.length+1=M.length:=i3 Z; omega),by rw [y,Vi L W Z]; simp [th]⟩ (λ_ h=>by
      have h:=h.aj 6 rfl;have h:=h.aj 6 rfl;have h:=h.aj 6 rfl;have h:=h.aj 6 rfl;have h:=h.aj 6 rfl;have h:=h.aj 5 rfl;have h:=Wt 6 h;have h:=Ws.aB h (b7:=[v0,b]) ai
      exact h)
 obtain ⟨bT,bU⟩:=bH aJ;subst bU;obtain ⟨n,V,y⟩:=y;obtain ⟨n,rfl⟩:∃k,n=k+1:=⟨n-1,aa⟩;rw [Vh bT] at y;simp at y;refine Ce<|Ex<|Ex<|dQ<|Et<|ae<|ac O ?_;refine WL.kw (iA j b a4 g.q [112,117,98] a5) ?_;intro ⟨aL,bV,N⟩ ⟨a7,a9,bX⟩;have P:ls g.q=(aL,N):=GR a7 a9;obtain ⟨bY,cV⟩:dM N/\N.length<=List.length (g.q):=vf a3 a7 a9;refine ag O<|ad<|Cs<|Cb ?_;refine ey (ι:=GD) (λv=>[(4,.bool v.cZ)]) [(0,_),(2,_),(3,_)] (λv=>Ws w (List.flatMap aQ.ids<|bA j r l) (bA j v.r v.q++[aq aI (.cells (oG ao g.a g.us.length g.c v.a v.ds.length v.c none 0 0 none 0 0).toArray 27 (0,0)),cC 9 1 gk g.a g.c g.us,cC 109 4 eb.cells v.a v.c v.ds,cC 113 5 PX.cells none 0 ([]:List PX),aq aD (.cells (oG [] none 0 0 none 0 0 none 0 0 none 0 0).toArray 27 (0,0))]) [v0,b]) (λv=>(v.ds.length+v.q.length<=l.length/\dM v.q)/\Sl dY 3 b v.r.1 v.r.2 v.q/\∃n,v.q.length<n/\oB (N.length+1) aL N=(oB n v.cZ v.q).map λp=>((v.ds++p.1.1,p.1.2),p.2)) (λv=>v.q.length) ⟨[],none,0,aL,bV,N⟩ ⟨⟨by simp; omega,bY⟩,bX,N.length+1,ai,ai⟩ ay ?_;intro v ⟨⟨cW,aM⟩,bZ,A⟩;refine Cb<|ae<|ac O<|ac O ?_;refine WL.kx (Ps j b v.r v.q v.cZ aM bZ) ?_ ?_
 ·intro ⟨t,u⟩ o;refine Ep<|WE.bS<|Ep<|WE.bS<|Ep ?_;refine bE λz f=>?_;obtain ⟨n,V,A⟩:=A;obtain ⟨n,rfl⟩:∃k,n=k+1:=⟨n-1,aa⟩;rw [Vn o] at A;exact .inr ⟨t,u,O,by rw [sY B C D]; simp only [qL,y,P,A,cS,dR,ei,eu],(by have h:=f; have h:=Wt 1 h; have h:=Ws.aB h (b7:=[b]) ai; exact h)⟩
 intro ⟨aN,a',E⟩ ⟨af,a_⟩;have ba:=U4 aM af;refine ac O<|I (Yx O O)<|I (Yx O O) ?_;refine Al Y O rQ λcX=>?_;refine aT 0 Y O O O sQ O O O<|ag O<|ad<|Cs<|ae<|ac O<|I (gW O)<|ad ?_;refine Cc O (λax=>?_)<|λax=>?_
 ·obtain ⟨n,V,A⟩:=A;obtain ⟨n,rfl⟩:∃k,n=k+1:=⟨n-1,aa⟩
  cases az:aN with
  | some x=>rw [az] at ax; simp at ax
  | none=>
  rw [az] at af;have b0:E=v.q:=Gg af;rw [Pb af] at A;simp at A;refine Ce<|Ex<|Eg O<|Ex<|dQ<|Et<|Cs<|Cb ?_;refine ey (ι:=GM) (λe=>[(4,.bool e.cZ)]) [(0,_),(2,_),(3,_)] (λe=>Ws w (List.flatMap aQ.ids<|bA j r l) (bA j e.r e.q++[aq aI (.cells (oG ao g.a g.us.length g.c v.a v.ds.length v.c e.a e.ps.length e.c none 0 0).toArray 27 (0,0)),cC 9 1 gk g.a g.c g.us,cC 109 4 eb.cells v.a v.c v.ds,cC 113 5 PX.cells e.a e.c e.ps,aq aD (.cells (oG [] none 0 0 none 0 0 none 0 0 none 0 0).toArray 27 (0,0))]) [e.J,b]) (λe=>(e.ps.length+e.q.length<=l.length/\dM e.q)/\Sl dY 3 b e.r.1 e.r.2 e.q/\(gw w e.J/\rT e.J e.ps)/\∃n,e.q.length<n/\oC (E.length+1) v.cZ E=(oC n e.cZ e.q).map λp=>((e.ps.map (·.1)++p.1.1,p.1.2),p.2)) (λe=>e.q.length) ⟨[],none,0,v0,v.cZ,a',E⟩ ⟨⟨(by have h:=congrArg List.length b0; simp at h ⊢; omega),ba⟩,a_,⟨rj w,rT.nil _⟩,E.length+1,ai,ai⟩ (λ_ h=>by have h:=h.aj 6 O; have h:=h.aj 6 O; have h:=h.aj 6 O; have h:=h.aj 6 O; have h:=h.aj 6 O; have h:=h.aj 6 O; have h:=Wt 6 h; have h:=Ws.aB h (b7:=[v0,b]) ai; exact h) ?_;intro e ⟨⟨cY,bb⟩,b1,⟨bc,bd⟩,hC⟩;refine Cs<|ae<|ac O ?_;refine WL.kw (iA j b e.r e.q [112,114,111,99] b1) ?_;intro ⟨c0,aO,F⟩ ⟨b2,b3,be⟩;refine ad ?_;refine Cc O (λaP=>?_)<|λaP=>?_
  ·have ah:=b2 aP;have ar:=i4 bb ah;obtain ⟨n,V,hC⟩:=hC;obtain ⟨n,rfl⟩:∃k,n=k+1:=⟨n-1,aa⟩;refine bW<|Cb<|Cs ?_;refine CU (λ_=>true) [0,3] [7,8] (.q false 0<|.q true 1<|.q false 2<|.q false 3<|.e 4 (.e 5 (.e 6 .nil .stop) .stop) .stop) mixed ab (λ_ _ _ d _ _ h=>by cases d<;>exact h) ?_;refine U0 O (ct [0,3]) (Yf vO O)<|U0 O (ct [0,3]) (Yd 0 O O O ab)<|U0 O (ct [0,3]) (Ym O)<|U0 O (ct [0,3]) (Ym O) ?_;refine Ue O (ct [0,3]) ?_ WU.stop
   refine oZ (ι:=(f'×i0)×(Option Addr×Nat)×Tk) (κ:=(Option Addr×Nat)×Tk) [_] _ Y O aF O O (λi=>.agg #[st (i.1.1).nm,.bool (i.1.1).cZ,.slice (i.1.2).s1.1 (i.1.1).params.length (i.1.2).s1.2,.slice (i.1.2).s2.1 (i.1.1).aC.length (i.1.2).s2.2,.slice (i.1.2).s3.1 (i.1.1).body.length (i.1.2).s3.2]) (λi=>bA j i.2.1 i.2.2) (λaR i=>kh e.cZ F=some (i.1.1,i.2.2)/\vT aR i.1.1 i.1.2/\Sl dY 3 b i.2.1.1 i.2.1.2 i.2.2) (λ_=>ho) (λi=>bA j i.1 i.2) (λ_=>kh e.cZ F=none) ([b]) ai lH (λw f=>(Vt j b aO F e.cZ w ar be f).mono λe z h=>by
       rcases h with ⟨x,s,r2,q,Q,R,S,aS,aU⟩ | ⟨r2,q,Q,R,S⟩
       · exact .inl ⟨((x,s),r2,q),Q,⟨R,S,aS⟩,aU⟩
       · exact .inr ⟨(r2,q),Q,R,S⟩) ?_ ?_
   ·intro ⟨t,u⟩ o;refine Ep<|Ep<|WE.bS<|Ep<|WE.bS<|Ep ?_;refine bE λz f=>?_;rw [Vq ah o] at hC;exact .inr ⟨t,u,O,by rw [sY B C D]; simp only [qL,y,P,A,hC,cS,dR,ei,eu],(by have h:=f; have h:=Wt 1 h; have h:=Ws.aB h (b7:=[b]) ai; exact h)⟩
   intro c1 ⟨⟨aV,aW⟩,b4,U⟩ b5 ⟨au,b6,b8⟩;have b':dM U:=U6 ar au;refine Ln<|Eu ?_;refine Ue O (λ_ h=>(Wv 1 (Wo 3<|Wo 0 h):)) ?_ WU.stop;refine Lb Y O GW O O O O λc2=>?_;refine dk 0 (.cells (PX.cells (aV,aW)).toArray 113 (0,0)) O O<|Ln<|Eu ?_;refine Ue O (λ_ h=>(Wv 1 (Wo 3<|Wo 0<|Wd 1 h):)) ?_ WU.stop;refine LA ((aV,aW):PX) 5 0 Y O GW O O O O O O (by have:=H.len; omega) (by have:=H.len; omega) λb_ ca=>?_;refine Ln<|Eu ?_;refine WU.nil (λ_ h=>(Wv 1 (Wo 3<|Wo 0<|Wd 1 h):)) ?_;refine WS.e O ?_;refine I (Yf vO O)<|Ln<|Es ?_;refine WS.e O ?_;refine aT 2 Y O O O Vu O O O<|Ln<|Es ?_;refine WS.nil ?_;refine Et ?_;refine WC.j' λbf cc cd ce=>?_;refine Cr<|ac O<|Lf 1 O ?_;refine WL.kw (iA j b b4 U [112,117,98] b8) ?_;intro ⟨bg,cf,ak⟩ ⟨bh,bi,cg⟩;have ch:ls U=(bg,ak):=GR bh bi;obtain ⟨ci,c3⟩:dM ak/\ak.length<=List.length (U):=vf b' bh bi;refine ag O<|Ln<|Eb ?_
   exact c8 (⟨e.ps++[(aV,aW)],b_,ca,bf,bg,cf,ak⟩:GM) (by have:F.length+1=e.q.length:=i3 ah; have:U.length<F.length:=u_ ar au; show ak.length<e.q.length; omega) ⟨⟨by have:F.length+1=e.q.length:=i3 ah; have:U.length<F.length:=u_ ar au; simp; omega,ci⟩,cg,⟨ce _ b5 bc,rT.snoc bd cd cc b6⟩,n,(show ak.length<n by have:F.length+1=e.q.length:=i3 ah; have:U.length<F.length:=u_ ar au; omega),by rw [hC,Vp ah au ch]; simp [th]⟩ (λ_ h=>by
       have h:=h.aj 6 rfl;have h:=h.aj 6 rfl;have h:=h.aj 6 rfl;have h:=h.aj 6 rfl;have h:=h.aj 6 rfl;have h:=h.aj 5 rfl;have h:=Wt 6 h;have h:=Ws.aB h (b7:=[bf,b]) ai
       exact h)
  obtain ⟨cj,ck⟩:=b3 aP;subst ck;obtain ⟨n,V,hC⟩:=hC;obtain ⟨n,rfl⟩:∃k,n=k+1:=⟨n-1,aa⟩;rw [Vo cj] at hC;simp at hC;refine Ce<|Ex<|Ex<|dQ<|Et<|Cs<|ae<|ac O<|ad ?_;refine Cc O (λaX=>?_)<|λaX=>?_
  ·have al:e.cZ=true:=aX;refine Cr<|I (Yb sT sS O O)<|I (pB sU O) ?_;refine WL.panic Y O ?_;refine Ep ?_;refine bE λz f=>?_;exact .inr ⟨aO,e.q,O,by rw [sY B C D]; simp only [qL,y,P,A,hC,al,Z',cS,dR,ei,eu],(by have h:=f; have h:=Wt 1 h; have h:=Ws.aB h (b7:=[b]) ai; exact h)⟩
  have al:e.cZ=false:=aX;refine bW<|ae<|ac O ?_;refine Lb Y O fw O O O O λc4=>?_;refine ib (T:=9) (m:=1) 0 [[109,97,105,110]] O O (show 1<=1 by decide) a8 λcl cm=>?_;refine WL.kx (i6 j b aO e.q cl _ _ [[109,97,105,110]] cm be) ?_ ?_
  ·intro ⟨t,u⟩ o;rw [fj] at o;refine Ep ?_;refine bE λz f=>?_;exact .inr ⟨t,u,O,by rw [sY B C D]; simp only [qL,y,P,A,hC,al,o,dV,Z9,cS,dR,ei,eu],(by have h:=f; have h:=Wt 1 h; have h:=Ws.aB h (b7:=[b]) ai; exact h)⟩
  intro ⟨cn,aY⟩ ⟨av,co⟩;have bj:=i5 bb av;rw [fj] at av;refine ad<|ae<|ac O ?_
  refine oZ (ι:=((List b9)×(Option Addr×Nat))×(Option Addr×Nat)×Tk) (κ:=(Option Addr×Nat)×Tk) [_] _ Y O aF O O (λi=>.slice i.1.2.1 i.1.1.length i.1.2.2) (λi=>bA j i.2.1 i.2.2) (λaR i=>hA 6 aY=some (i.1.1,i.2.2)/\Sl (h_ 7 6) 6 aR i.1.2.1 i.1.2.2 i.1.1/\Sl dY 3 b i.2.1.1 i.2.1.2 i.2.2) (λ_=>ho) (λi=>bA j i.1 i.2) (λ_=>hA 6 aY=none) ([b]) ai lH (λw f=>(Nf b 6 j cn aY (1) w aa bj co f).mono λe z h=>by
      rcases h with ⟨x,s,r2,q,Q,R,S,aS,aU⟩ | ⟨r2,q,Q,R,S⟩
      · exact .inl ⟨((x,s),r2,q),Q,⟨R,S,aS⟩,aU⟩
      · exact .inr ⟨(r2,q),Q,R,S⟩) ?_ ?_
  ·intro ⟨t,u⟩ o;refine Ep ?_;refine bE λz f=>?_;exact .inr ⟨t,u,O,by rw [sY B C D]; simp only [qL,y,P,A,hC,al,av,o,dV,Z9,cS,dR,ei,eu],(by have h:=f; have h:=Wt 1 h; have h:=Ws.aB h (b7:=[b]) ai; exact h)⟩
  intro c5 ⟨⟨bk,aA⟩,cp,bl⟩ cq ⟨aZ,cr,cs⟩;have cu:dM bl:=zL bj aZ;refine I (Yf GK O)<|aT 1 Y O O O zN O O O<|ad<|ae<|ac O ?_;refine Lb Y O fw O O O O λc6=>?_;refine ib (T:=9) (m:=1) 0 [[125]] O O (show 1<=1 by decide) a8 λcv cw=>?_;refine WL.kx (i6 j b cp bl cv _ _ [[125]] cw cs) ?_ ?_
  ·intro ⟨t,u⟩ o;rw [fj] at o;refine Ep ?_;refine bE λz f=>?_;exact .inr ⟨t,u,O,by rw [sY B C D]; simp only [qL,y,P,A,hC,al,av,aZ,o,dV,Z9,cS,dR,ei,eu],(by have h:=f; have h:=Wt 1 h; have h:=Ws.aB h (b7:=[b]) ai; exact h)⟩
  intro ⟨cx,cy⟩ ⟨a0,cz⟩;have c7:=i5 cu a0;rw [fj] at a0;refine ad<|Cs ?_;refine WC.o1 (rd:=rdStr) 2 O (λk G=>by simp [bA,aq] at G; subst G; simp [fk,bA,aq,a6]) oY dN λc9 cA cB=>?_;refine WC.o1 (rd:=u7) 2 O (λk G=>by simp [bA,aq] at G; subst G; simp [fk,bA,aq,a6]) eb.cD dN λc' cE cF=>?_;refine WC.o1 (rd:=vg) 2 O (λk G=>by simp [bA,aq] at G; subst G; simp [fk,bA,aq,a6]) PX.cD dN λc_ cG cH=>?_;refine Cr<|I (db 1 O O nQ O)<|aT 2 Y O O O uh O O O<|ad<|am ?_;refine WE.aau (iF O<|eM 2 O O nQ O) λz f=>?_;exact .inl ⟨⟨ao,g.us,v.ds,e.ps.map (·.1),bk⟩,⟨g.a,g.c,v.a,v.c,e.a,e.c,aA.1,aA.2⟩,cx,cy,by show Ending.returned (.agg #[st ao,.slice g.a g.us.length g.c,.slice v.a v.ds.length v.c,.slice e.a e.ps.length e.c,.slice aA.1 bk.length aA.2])=_; simp [iJ],by rw [sY B C D]; simp only [qL,y,P,A,hC,al,av,aZ,a0,dV,Z9,cS,dR,ei,eu],⟨qX cB<|aG f ai cA,GV cF<|aG f ai cE,Nh cH (aG f ai cG) (aG f ai bc) bd,sW cr<|aG f ai cq⟩,cz,Wv 7<|Wt 1 f⟩
 obtain ⟨n,V,A⟩:=A;obtain ⟨n,rfl⟩:∃k,n=k+1:=⟨n-1,aa⟩
 obtain ⟨a1,az⟩:∃x,aN=some x:=by
   cases aN with
   | none=>simp at ax
   | some x=>exact ⟨x,rfl⟩
 subst az;have da:E.length<v.q.length:=U5 aM af;refine bW<|ae<|I (Yf xF O)<|I (Yd 2 O O O ab)<|I (db 0 O O pk O) ?_;refine Lb Y O vF O O O O λdc=>?_;refine dk 0 (.cells (eb.cells a1).toArray 109 (0,0)) O O ?_;refine LA (a1:eb) 5 0 Y O vF O O O O O O (by have:=H.len; omega) (by have:=H.len; omega) λcI cJ=>?_;refine I (Yf xF O)<|aT 3 Y O O O Vv O O O<|ad<|Cr<|ac O<|Lf 2 O ?_;refine WL.kw (iA j b a' E [112,117,98] a_) ?_;intro ⟨bm,cK,an⟩ ⟨bn,bo,cL⟩;have cM:ls E=(bm,an):=GR bn bo;obtain ⟨cN,dd⟩:dM an/\an.length<=List.length (E):=vf ba bn bo;refine ag O<|Ln<|Eb ?_
 exact c8 (⟨v.ds++[a1],cI,cJ,bm,cK,an⟩:GD) (by show an.length<v.q.length; omega) ⟨⟨by simp; omega,cN⟩,cL,n,(show an.length<n by omega),by rw [A,Vm af cM]; simp [th]⟩ (λ_ h=>by
     have h:=h.aj 7 rfl;have h:=h.aj 7 rfl;have h:=h.aj 7 rfl;have h:=h.aj 7 rfl;have h:=h.aj 7 rfl;have h:=h.aj 5 rfl;have h:=Wt 6 h;have h:=Ws.aB h (b7:=[v0,b]) ai
     exact h)
def Vx (h:¬(gj ck).2=0):lv ck=(rI,(gj ck).2):=by rw [lv,ZZ h]
def Vy (h:(gj ck).2=0) (a:lu (gj ck).1=none):lv ck=(rI,1):=by rw [lv,ZX (by simp [h]),a]
variable {bP:df}
def Vz (h:(gj ck).2=0) (b:lu (gj ck).1=some (bP,a')) (a:0<a'.length\/¬ku bP=0):lv ck=(rI,1):=by
 rw [lv,ZX (by simp [h]),b]
 cases a' with
 | cons t r=>rfl
 | nil=>
   simp only;rw [ZX]
   rcases a with a | a
   · simp at a
   · exact a
def VA (h:(gj ck).2=0) (a:lu (gj ck).1=some (bP,a')) (b:a'.length=0) (c:ku bP=0):lv ck=(bP,0):=by
 rw [lv,ZX (by simp [h]),a];obtain rfl:a'=[]:=uK b;simp only;rw [ZZ c]
def GY (h:(gj ck).2=0):dM (gj ck).1:=⟨SQ h,(Jl<|Jm h).2⟩
def CZ:cb:=⟨none,0,none,0,none,0,none,0⟩
def GZ (N:View):n7 7 6 N CZ rI:=⟨Sl.nil,Sl.nil,Sl.nil,Sl.nil⟩
def VB {s:cb}  (h:n7 Z aw an s bP) (hv:bG an b4):n7 Z aw b4 s bP:=⟨qX h.aA hv,GV h.decls hv,h.procs.imp λb o x a=>Qq hv (cQ _) (cQ _) b o x a,h.main.imp λb o x a=>wR hv (cQ _) (cQ _) b o x a⟩
def C0:prog.underlying 20=some (.interface<|prog.methodsAt 20):=ab
def l6:aJ prog 30=some 1:=ab
def zA:zeroOf prog 30=some (.int .i64 0):=ab
def VC:gX prog 227=some [(0,1)]:=ab
def VD:zeroOf prog 227=some (.agg #[.slice none 0 0]):=ab
def VE (a b:Nat) (c:Array Value) (i:c.size=5) (d:Int) (w:World) (f:Ws w (List.flatMap aQ.ids [aq a (.cells c 27 (0,0)),aq b (.cells #[.int .i64 d] 30 (0,0))]) [aq a (.cells c 27 (0,0)),aq b (.cells #[.int .i64 d] 30 (0,0))] [] w) :
   CallsD prog 121 #[.pointer (some ⟨a,0,none⟩),.pointer (some ⟨b,0,none⟩)] (.returning) w λe h g=>h = .returning/\(e = .returned (.tuple #[])/\Ws w (List.flatMap aQ.ids [aq a (.cells c 27 (0,0)),aq b (.cells #[.int .i64 d] 30 (0,0))]) [aq a (.cells c 27 (0,0)),aq b (.cells #[.int .i64 d] 30 (0,0))] [] g):=by
 refine ix func121 O 5 O O O O O (λ_=>rfl) (.inl ⟨O,O,O⟩) ?_;refine LW (W':=Ws w (List.flatMap aQ.ids [aq a (.cells c 27 (0,0)),aq b (.cells #[.int .i64 d] 30 (0,0))]) [aq a (.cells c 27 (0,0)),aq b (.cells #[.int .i64 d] 30 (0,0))] []) (λ_ e=>by subst e; exact f)<|I (Ez C0 O)<|ad ?_;refine WC.uQ O ?_;refine Ck ?_;refine E0 O λg f=>?_;exact ⟨O,f⟩
def Nn (a b:Nat) (c:List Value) (g:c.length=5) (d:Int) (w:World) (f:Ws w (List.flatMap aQ.ids [aq a (.cells c.toArray 27 (0,0)),aq b (.cells #[.int .i64 d] 30 (0,0))]) [aq a (.cells c.toArray 27 (0,0)),aq b (.cells #[.int .i64 d] 30 (0,0))] [] w) :
   CallsD prog 121 #[.pointer (some ⟨a,0,none⟩),.pointer (some ⟨b,0,none⟩)] (.panicking ho) w λe i h=>i = .panicking [⟨.iface 229<|.agg #[],true,false⟩]/\(e = .returned (.tuple #[])/\Ws w (List.flatMap aQ.ids [aq a (.cells c.toArray 27 (0,0)),aq b (.cells #[.int .i64 d] 30 (0,0))]) [aq a (.cells (oG [] none 0 0 none 0 0 none 0 0 none 0 0).toArray 27 (0,0)),aq b (.cells #[.int .i64 1] 30 (0,0))] [] h):=by
 refine ix func121 O 5 O O O O O (λ_=>rfl) (.inr ⟨_,O,O,O⟩) ?_;refine LW (W':=Ws w (List.flatMap aQ.ids [aq a (.cells c.toArray 27 (0,0)),aq b (.cells #[.int .i64 d] 30 (0,0))]) [aq a (.cells c.toArray 27 (0,0)),aq b (.cells #[.int .i64 d] 30 (0,0))] []) (λ_ e=>by subst e; exact f)<|I (PT C0 O)<|ad ?_;refine WC.AP O ?_;refine Cr<|I (Yb sZ CY O O) ?_;refine WL.Ix 0 (.cells (oG [] none 0 0 none 0 0 none 0 0 none 0 0).toArray 27 (0,0)) Y O O O uh O O (by simp [r6,g]) (by simp [mc,aZ,oG,g,uL]) ?_;refine aT 1 Y O O O l6 O O O<|Ln ?_;refine E0 O λh f=>?_;exact ⟨O,f⟩
def VF (l:View) (s:Tx) (w:World) (D:Le l w) (E:Laid l) :
   Calls prog 44 #[st s] w λe d=>∃r:cb,e = .returned (.tuple #[.agg (iJ (lv s).1 r).toArray,.int .i64 (lv s).2])/\Ext w d/\n7 7 6 (nv w d) r (lv s).1:=by
 refine Be func44 O 35 O O ?_;refine CE (Vs:=[l]) (Ws.init (by simp [D]))<|ae ?_;refine Al Y O sZ λf=>?_;refine dk 0 (.cells (oG [] none 0 0 none 0 0 none 0 0 none 0 0).toArray 27 (0,0)) O O ?_;refine Al Y O zA λj=>?_;refine dk 0 (.cells #[.int .i64 0] 30 (0,0)) O O<|ad<|ae<|ac O ?_;refine Ld Y O aF O (λr:Option Addr×Nat=>.tuple #[.slice r.1 (gj s).1.length r.2,.int .i64 (gj s).2]) (λo r=>Sl dY 3 o r.1 r.2 (gj s).1) (λw a=>T0 l s w a.V E) ?_;intro p F Q G;refine ac O<|I (Yx O O)<|I (Yx O O)<|ag O<|aT 0 Y O O O l6 O O O<|ad<|Cs<|ae<|I (Yd 0 O O O ab)<|I (h9 O O) ?_;refine ad ?_;refine Cc O (λt=>?_)<|λt=>?_
 ·have c:¬(gj s).2=0:=by simpa using t
  refine Cs ?_;refine CU (mg [.cell 2 27,.cell 3 30]) [1] [3] (.q false 0<|.q true 1<|.e 2 .nil .stop) mixed ab (λ_ _ _ _ _ H h=>oR (fn:=f44) [.cell 2 27,.cell 3 30] O H h) ?_;refine U0 O (Wp 1) (Yb sZ CY O O)<|U0 O (Wp 1) (Yd 0 O O O ab) ?_;refine Ue O (Wp 1) ?_ WU.stop;refine aT 1 Y O O O uh O O O<|Ln<|Eu ?_;refine WU.nil (Wp 1) ?_;refine WS.e O ?_;refine aT 0 Y O O O l6 O O O<|Ln<|Es ?_;refine WS.nil ?_;refine Et<|am<|Er ?_;refine WE.r9 (hV O (eM 1 O O nQ O)<|h6 0 O O O ab) λd a=>?_;rw [Vx c];exact ⟨CZ,O,a.fr,GZ _⟩
 have c:(gj s).2=0:=by simpa using t
 refine aao 0 (.cells #[.int .i64 0] 30 (0,0)) O (by show Obj.cells #[.int .i64 (gj s).2] _ _=_; rw [c])<|bW<|ae<|I (wF O) ?_;refine WL.defer Y O ?_;refine ad<|ae<|ac O<|I (Yb VD VC O O) ?_;refine WL.box Y O O λu=>?_;refine ag O<|ad<|ae<|ac O ?_
 refine oZ (ι:=(df×cb)×(Option Addr×Nat)×Tk) (κ:=(Option Addr×Nat)×Tk) [_] _ Y O aF O O (λi=>.agg (iJ i.1.1 i.1.2).toArray) (λi=>bA u i.2.1 i.2.2) (λo i=>lu (gj s).1=some (i.1.1,i.2.2)/\n7 7 6 o i.1.2 i.1.1/\Sl dY 3 p i.2.1.1 i.2.1.2 i.2.2) (λ_=>ho) (λi=>bA u i.1 i.2) (λ_=>lu (gj s).1=none) ([p]) ai lH (λw a=>(Vw u p F (gj s).1 w (GY c) G a).mono λe d h=>by
     rcases h with ⟨x,s,r2,q,m,v,y,J,K⟩ | ⟨r2,q,m,v,y⟩
     · exact .inl ⟨((x,s),r2,q),m,⟨v,y,J⟩,K⟩
     · exact .inr ⟨(r2,q),m,v,y⟩) ?_ ?_
 ·intro ⟨R,S⟩ L;refine Ep ?_;refine WE.front 1 O ?_;refine WE.front 2 O ?_;refine WE.qo aF (cO [_,_] _ [aq f (.cells (oG [] none 0 0 none 0 0 none 0 0 none 0 0).toArray 27 (0,0)),aq j (.cells #[.int .i64 1] 30 (0,0))] O<|λw a=>Nn f j (oG [] none 0 0 none 0 0 none 0 0 none 0 0) O 0 w a) (hV O (eM 0 O O nQ O)<|h6 1 O O O ab) λd a=>?_;rw [Vy c L];exact ⟨CZ,O,a.fr,GZ _⟩
 intro M ⟨⟨b,k⟩,T,n⟩ N ⟨z,B,U⟩
 have W:wM b<=73728:=by
   have m:wM b+18*n.length<=18*(gj s).1.length:=Mr z;have:=(GY c).len;omega
 refine aT 2 Y O O O uh O O O<|ad<|Cs<|Cs<|aao 2 (.cells (iJ b k).toArray 27 (0,0)) O O<|Cr<|ac O<|I (bw O)<|I (Yf p5 O)<|I (Yd 0 O O O ab) ?_;refine I (Yn rO O)<|I (eh O O)<|ac O ?_;apply Lo 3 O O O O Y O O O O O
 ·intro X;refine Vg (db 2 O O nQ O)<|Lp (.g O O O) O aF O (λw a=>MY M 7 6 k b w a.V B aa)<|Vg (h9 O O) ?_;exact Gt 3 O O O
 refine ad ?_;refine Cc O (λA=>?_)<|λA=>?_
 ·have P:0<n.length\/¬ku b=0:=by simpa using A
  refine Cr<|I (Yb sT sS O O)<|I (pB sU O) ?_;refine WL.panic Y O ?_;refine Ep ?_;refine WE.front 1 O ?_;refine WE.front 2 O ?_;refine WE.qo aF (cO [_,_] _ [aq f (.cells (oG [] none 0 0 none 0 0 none 0 0 none 0 0).toArray 27 (0,0)),aq j (.cells #[.int .i64 1] 30 (0,0))] O<|λw a=>Nn f j (iJ b k) O 0 w a) (hV O (eM 0 O O nQ O)<|h6 1 O O O ab) λd a=>?_;rw [Vz c z P];exact ⟨CZ,O,a.fr,GZ _⟩
 have C:¬0<n.length/\ku b=0:=by simpa using A
 refine bW<|ae<|I (db 2 O O nQ O)<|aT 2 Y O O O uh O O O<|aT 1 Y O O O l6 O O O<|ad<|am ?_;refine WE.front 1 O ?_;refine WE.front 2 O ?_;refine WE.Ey aF (cO [_,_] _ [aq f (.cells (iJ b k).toArray 27 (0,0)),aq j (.cells #[.int .i64 0] 30 (0,0))] O<|λw a=>VE f j (iJ b k).toArray O 0 w a) (hV O (eM 0 O O nQ O)<|h6 1 O O O ab) λd a=>?_;rw [VA c z (by have:=C.1; show n.length=0; omega) C.2];exact ⟨k,O,a.fr,VB B<|aG a ai N⟩
def No (s:Tx):(gk s).all (·.oneCell')=true:=rfl
def asks (s:Tx) (l:Tk):Bool:=(l.head?.map λt=>(!(t.kind==2)&&(t.text==s))).getD false
structure GE where
 es:List XE
 a:Option Addr
 c:Nat
 J:View
 r:Option Addr×Nat
 q:Tk
 more:Bool
structure GO where
 j:Nat
 o:Int
 r:Option Addr×Nat
 q:Tk
structure zR (f:Nat) (N:View) (x:b9) (p:qV):Prop where
 args:Sl (js 8) 5 N p.s1.1 p.s1.2 x.args
 body:Sl (h_ 8 f) 6 N p.s2.1 p.s2.2 x.body
 other:Sl (h_ 8 f) 6 N p.s3.1 p.s3.2 x.other
def G0 (h:Sl (h_ 8 Z) 6 an dj aw k4) (hv:bG an b4):Sl (h_ 8 Z) 6 b4 dj aw k4:=h.imp λb o y a=>wR hv (cQ _) (cQ _) b o y a
def zR.mv (h:zR Z an jU CJ) (hv:bG an b4):zR Z b4 jU CJ:=⟨zK h.args hv,G0 h.body hv,G0 h.other hv⟩
def zS (J:View) (f:Nat) (es:List SX):Prop:=∀e ∈ es,zR f J e.1 e.2
def zS.nil (J:View) (f:Nat):zS J f []:=by intro e h; simp at h
def zS.snoc (h:zS an Z CT) (b:bG an gz) (c:bG b4 gz) (d:zR Z b4 vR.1 vR.2):zS gz Z (CT++[vR]):=by
 intro x a
 rcases ge.1 a with a | a
 · exact (h x a).mv b
 · rw [gU] at a
   subst a;exact d.mv c
variable {pb:Tk->List b9×Tk} {l r q1 q2 q3 q4:Tk} {x y:bT} {b o:List b9} {p:Tx×Tx} {xs:List bT}
variable {ps:Tk->b9×Tk} {s:b9} {n:Nat}
def zT:gX prog 241=some [(0,1),(1,1),(2,1),(3,1),(4,1),(5,1)]:=ab
structure zU (N:View) (x:f') (p:i0):Prop where
 params:Sl rdStr 1 N p.s1.1 p.s1.2 x.params
 aC:Sl rdStr 1 N p.s2.1 p.s2.2 x.aC
 body:Sl (h_ 8 6) 6 N p.s3.1 p.s3.2 x.body
def zU.mv (h:zU an iR DC) (hv:bG an b4):zU b4 iR DC:=⟨qX h.params hv,qX h.aC hv,G0 h.body hv⟩
def zV (J:View) (es:List PX):Prop:=∀e ∈ es,zU J e.1 e.2
def zV.nil (J:View):zV J []:=by intro e h; simp at h
def zV.snoc (h:zV an CV) (b:bG an gz) (c:bG b4 gz) (d:zU b4 vU.1 vU.2):zV gz (CV++[vU]):=by
 intro x a
 rcases ge.1 a with a | a
 · exact (h x a).mv b
 · rw [gU] at a
   subst a;exact d.mv c
structure ZV where
 ds:List eb
 a:Option Addr
 c:Nat
 go:Bool
 cZ:Bool
 r:Option Addr×Nat
 q:Tk
structure GH where
 ps:List Tx
 a:Option Addr
 c:Nat
 more:Bool
 r:Option Addr×Nat
 q:Tk
abbrev SP:=Option Addr×Nat
def vV:cP->List UInt8:=λx=>x.name
abbrev nR:=List UInt8×Int×Nat
def iv (M:List nR):List pz:=M.map λe=>(e.1,.int .i64 e.2.1,e.2.2)
def m6 (k:List UInt8):List nR->Nat->Option (Nat×Int)
 | [],_=>none
 | e::r,i=>if (k==e.1)=true then some (i,e.2.1) else m6 k r (i+1)
def G1 (k:List UInt8) (M:List nR):Int:=match m6 k M 0 with | some (_,n)=>n | none=>0
def zW (k:List UInt8) (n:Int) (M:List nR) (c:Nat):List nR:=match m6 k M 0 with
 | some (i,_)=>M.modify i λe=>(k,n,e.2.2)
 | none=>M++[(k,n,c)]
def G2 (k:List UInt8) (M:List nR) (c:Nat):Nat:=match m6 k M 0 with | some _=>c | none=>c+1
def C1 (k:List UInt8):∀(M:List nR) (i:Nat),oQ k (iv M) i=(m6 k M i).map λr=>(r.1,.int .i64 r.2)
 | [],_=>rfl
 | e::r,i=>by
   simp only [iv,k_,oQ,m6];cases (k==e.1)
   · simp only [dV,Z9]
     exact C1 k r<|i+1
   · simp
def VG (k:List UInt8) (M:List nR):yA k (iv M) (.int .i64 0) = .int .i64 (G1 k M):=by
 unfold yA G1;rw [C1]
 cases m6 k M 0<;>rfl
def VH (k:List UInt8) (n:Int) (M:List nR) (c:Nat):wH k (.int .i64 n) (iv M) c=iv (zW k n M c):=by
 unfold wH zW;rw [C1]
 cases m6 k M 0 with
 | none=>simp [iv]
 | some r=>
   simp only [dR];apply r0;intro i;simp only [iv,eX,e4]
   cases M[i]? with
   | none=>simp
   | some e=>by_cases h:r.1=i<;>simp [h]
def VI (k:List UInt8) (M:List nR) (c:Nat):wI k (iv M) c=G2 k M c:=by
 unfold wI G2;rw [C1]
 cases m6 k M 0<;>rfl
def keysOf (M:List nR):List (List UInt8):=M.map (·.1)
def G3 {k:List UInt8}:∀{M:List nR} {i:Nat},m6 k M i=none↔k ∉ keysOf M
 | [],_=>by simp [m6,keysOf]
 | e::r,i=>by
   simp only [m6,keysOf,k_,ep,not_or]
   by_cases h:k=e.1
   · simp [h]
   · have:=G3 (k:=k) (M:=r) (i:=i+1)
     simp [h,keysOf] at this ⊢;exact this
def Np {k:List UInt8}:∀{M:List nR} {i j:Nat} {n:Int},m6 k M i=some (j,n)->i<=j/\(M[j-i]?).map (·.1)=some k
 | [],_,_,_,h=>by simp [m6] at h
 | e::r,i,j,n,h=>by
   simp only [m6] at h
   split at h
   · rename_i a
     injection h with h; injection h with b c
     subst b;simp at a;simp [a]
   · obtain ⟨b,c⟩:=Np h
     refine ⟨aa,?_⟩
     have:j-i=(j-(i+1))+1:=aa
     rw [this]; simpa using c
def Nq (k:List UInt8) (n:Int) (M:List nR) (c:Nat):keysOf (zW k n M c)=if k ∈ keysOf M then keysOf M else keysOf M++[k]:=by
 unfold zW
 cases h:m6 k M 0 with
 | none=>rw [ZX (G3.1 h)]; simp [keysOf]
 | some r=>
   obtain ⟨j,v⟩:=r;have a:=(Np h).2
   have f:k ∈ keysOf M:=by
     cases Classical.em (k ∈ keysOf M) with
     | inl b=>exact b
     | inr b=>rw [G3.2 b] at h; cases h
   rw [ZZ f];apply r0;intro i;simp only [keysOf,e4,eX]
   cases g:M[i]? with
   | none=>simp
   | some e=>
     by_cases d:j=i
     · subst d; simp only [nX,g] at a; simp at a; simp [a]
     · simp [d]
def nS (l:List (List UInt8)):Nat->List nR×Nat
 | 0=>([],0)
 | i+1=>(zW (l[i]?.getD []) (IntKind.i64.wrap<|G1 (l[i]?.getD []) (nS l i).1+1) (nS l i).1 (nS l i).2,G2 (l[i]?.getD []) (nS l i).1 (nS l i).2)
def Nr (l:List (List UInt8)) (k:List UInt8):∀i,k ∈ keysOf (nS l i).1↔∃j,j<i/\l[j]?.getD []=k
 | 0=>by simp [nS,keysOf]
 | i+1=>by
   have b:=Nr l k i;simp only [nS,Nq]
   have step:(∃j,j<i+1/\l[j]?.getD []=k)↔(∃j,j<i/\l[j]?.getD []=k)\/l[i]?.getD []=k:=by
     constructor
     · rintro ⟨j,a,e⟩
       rcases ne.1 a with h | rfl
       · exact .inl ⟨j,h,e⟩
       · exact .inr e
     · rintro (⟨j,a,e⟩ | e)
       · exact ⟨j,aa,e⟩
       · exact ⟨i,aa,e⟩
   rw [step,<-b]
   split
   · rename_i c
     constructor
     · exact .inl
     · rintro (h | h)
       · exact h
       · rw [<-h]; exact c
   · simp [eq_comm]
def E6 (l:List (List UInt8)):∀i,(keysOf (nS l i).1).length<=i/\((keysOf (nS l i).1).length<i↔∃c,c<i/\∃j,j<c/\l[j]?.getD []=l[c]?.getD [])
 | 0=>by simp [nS,keysOf]
 | i+1=>by
   obtain ⟨n,g⟩:=E6 l i;have k:=Nr l (l[i]?.getD []) i;simp only [nS,Nq]
   split
   · rename_i f
     obtain ⟨j,d,e⟩:=k.1 f;exact ⟨aa,⟨λ_=>⟨i,aa,j,d,e⟩,λ_=>by omega⟩⟩
   · rename_i f
     refine ⟨by simp; omega,?_⟩;rw [jE,yg]
     constructor
     · intro h
       obtain ⟨c,a,b⟩:=g.1 aa;exact ⟨c,aa,b⟩
     · rintro ⟨c,m,j,d,e⟩
       rcases ne.1 m with h | rfl
       · have:=g.2 ⟨c,h,j,d,e⟩; omega
       · exact absurd (k.2 ⟨j,d,e⟩) f
def VJ (l:List (List UInt8)):decide (((nS l l.length).1.length:Int)<(l.length:Int))=f_ l:=by
 have h:=(E6 l l.length).2;simp only [keysOf,fu] at h;rw [kr];unfold f_;simp only [aab,q5,uJ,aac]
 constructor
 · intro b
   obtain ⟨i,hi,j,a,e⟩:=h.1 aa;exact ⟨i,hi,j,a,e.symm⟩
 · rintro ⟨i,hi,j,a,e⟩
   have:=h.2 ⟨i,hi,j,a,e.symm⟩;omega
def iC:prog.underlying 124=some (.map 9 3):=ab
def l8:zeroOf prog 3=some (.int .i64 0):=ab
def zX:au prog 48 0=some 0:=ab
def vW:au prog 48 3=some 3:=ab
def p7:au prog 48 1=some 1:=ab
def mH:au prog 48 2=some 2:=ab
def zY:au prog 42 1=some 1:=ab
def vX:aat prog 40=some 4:=ab
def m7:hr prog 48=some 4:=ab
def bx:zeroOf prog 48=some (.agg #[.int .i64 0,.int .i64 0,.int .i64 0,st []]):=ab
def mI:aJ prog 48=some 4:=ab
def G4:au prog 42 0=some 0:=ab
def G5 (b:View) (a:Option Addr) (c:Nat) (l:List (List UInt8)) (w:World) (h:Le b w) (d:Sl rdStr 1 b a c l) :
   Calls prog 70 #[.slice a l.length c] w λe g=>e = .returned (.bool<|f_ l)/\Ext w g:=by
 have s:=d.cap;have t:=d.max;refine enter func70 O 23 O O ?_;refine CE (Vs:=[b]) (Ws.init (by simp [h]))<|ae<|ag O<|ad<|ae ?_;refine WL.PO Y O λj=>?_;refine ag O<|ad<|Cs<|ae<|ac O<|I (Yn fQ O)<|ac O<|ad<|Cb ?_;refine ey (ι:=Nat) (λi=>[(9,.int .i64 (i:Int))]) [(0,_),(2,_),(3,_),(7,_),(8,_)] (λi=>Ws w [] [aq j (pA (iv (nS l i).1) (nS l i).2)] [b]) (λi=>i<=l.length) (λi=>l.length-i) 0 (di _) ay ?_;intro i hi;refine ae<|I (cI O O)<|ad<|Cs ?_;refine Cc O (λf=>?_)<|λf=>?_
 ·have k:i<l.length:=by simpa using f
  obtain ⟨pb,m,n,o⟩:=d.b5 i (l[i]?.getD []) (by rw [c6 k]; rfl);have p:vc b pb (m+i*1)=some (st<|l[i]?.getD []):=o 0 _ rfl;refine bW<|Cs<|Cb<|ae<|I (Yo fQ O O n aa)<|I (eQ 0 ab O O<|p)<|ag O<|ad<|Cr<|ac O<|ac O<|I (PP 0 iC ab l8 O O O) ?_;rw [VG];refine I (r3 O O) ?_;refine WL.PQ 0 Y iC ab O O O O ?_;rw [VH,VI];refine Ln<|Eb<|Et<|Cr<|I (Yi O O O aa)<|ac O<|Ln ?_;exact c8 (i+1) aa aa ay
 have q:i=l.length:=by simp at f; omega
 subst q;refine Ce<|Ex<|Ex<|dQ<|Et<|ae<|ac O<|I (pR 0 iC O O)<|ac O<|I (Yn fQ O)<|I (cI O O)<|ag O ?_;refine ad<|am ?_;refine R1 O O λg r=>?_;exact ⟨by rw [<-VJ]; simp [iv],r.fr⟩
def Py (x:cP) (w:World) :
   Calls prog 127 #[.agg #[.int .i64 x.kind,.int .i64 x.n,.int .i64 x.pl,st x.name]] w λe c=>e = .returned (.bool<|cH x)/\Ext w c:=by
 refine enter func127 O 42 O O ?_;refine CE (Vs:=[]) (Ws.init ai)<|ae ?_;refine WL.box Y O O λm=>?_;refine ag O<|ad<|ae<|ag O<|ag O<|ad<|ae<|ag O<|ad<|Cs<|ae<|I (Yf zX O) ?_;refine I (Yd 0 O O O ab)<|ad<|Cb<|ae<|I (bz O O)<|ag O<|ad ?_;refine Cc O (λd=>?_)<|λd=>?_
 ·refine Cr<|ag O<|Ln<|Eb<|Et<|ae<|I (Yf vW O)<|I (Yd 0 O O O ab)<|Lp Y O aF O (λw a=>qP _ w)<|ac O ?_;apply La 4 O O O O Y O O O O O
  ·intro i;refine Vg (Yf p7 O)<|Vg (Yd 0 O O O ab)<|Vg (Ym O)<|Vg (hS O O) ?_;exact Gt 4 O O O
  refine ac O ?_;apply La 4 O O O O Y O O O O O
  ·intro j;refine Vg (Yf p7 O)<|Vg (Yd 0 O O O ab)<|Vg (Ym O)<|Vg (jF O O) ?_;exact Gt 4 O O O
  refine ac O ?_;apply La 3 O O O O Y O O O O O
  ·intro k;refine Vg (Yf mH O)<|Vg (Yd 0 O O O ab)<|Vg (hS O O) ?_;exact Gt 3 O O O
  refine ac O ?_;apply La 4 O O O O Y O O O O O
  ·intro l;refine Vg (Yf mH O)<|Vg (Yd 0 O O O ab)<|Vg (Ym O)<|Vg (jF O O) ?_;exact Gt 4 O O O
  refine ag O<|ad<|am ?_;refine R1 O O λc a=>?_
  have b:x.kind=1:=by simpa using d
  exact ⟨by rw [BK (by simp [b])],a.fr⟩
 refine ae<|I (bz O O)<|ag O<|ad ?_;refine Cc O (λf=>?_)<|λf=>?_
 ·refine Cr<|ag O<|Ln<|Eb<|Et<|ae<|I (Yf vW O)<|I (Yd 0 O O O ab)<|Lp Y O aF O (λw a=>qP _ w)<|ac O ?_;apply La 4 O O O O Y O O O O O
  ·intro i;refine Vg (Yf p7 O)<|Vg (Yd 0 O O O ab)<|Vg (Ym O)<|Vg (hS O O) ?_;exact Gt 4 O O O
  refine ac O ?_;apply La 4 O O O O Y O O O O O
  ·intro j;refine Vg (Yf p7 O)<|Vg (Yd 0 O O O ab)<|Vg (Ym O)<|Vg (jF O O) ?_;exact Gt 4 O O O
  refine ac O ?_;apply La 3 O O O O Y O O O O O
  ·intro k;refine Vg (Yf mH O)<|Vg (Yd 0 O O O ab)<|Vg (hS O O) ?_;exact Gt 3 O O O
  refine ac O ?_;apply La 4 O O O O Y O O O O O
  ·intro l;refine Vg (Yf mH O)<|Vg (Yd 0 O O O ab)<|Vg (Ym O)<|Vg (jF O O) ?_;exact Gt 4 O O O
  refine ag O<|ad<|am ?_;refine R1 O O λc a=>?_
  have b:x.kind=2:=by simpa using f
  exact ⟨by rw [BK (by simp [b])],a.fr⟩
 refine ae<|I (bz O O)<|ag O<|ad ?_;refine Cc O (λg=>?_)<|λg=>?_
 ·refine Cr<|ag O<|ag O<|Ln<|Eb<|Et<|ae<|I (Yf vW O)<|I (Yd 0 O O O ab)<|Lp Y O aF O (λw a=>qP _ w)<|ac O ?_;apply La 4 O O O O Y O O O O O
  ·intro i;refine Vg (Yf p7 O)<|Vg (Yd 0 O O O ab)<|Vg (Ym O)<|Vg (hS O O) ?_;exact Gt 4 O O O
  refine ac O ?_;apply La 4 O O O O Y O O O O O
  ·intro j;refine Vg (Yf p7 O)<|Vg (Yd 0 O O O ab)<|Vg (Ym O)<|Vg (jF O O) ?_;exact Gt 4 O O O
  refine ac O ?_;apply La 3 O O O O Y O O O O O
  ·intro k;refine Vg (Yf mH O)<|Vg (Yd 0 O O O ab)<|Vg (hS O O) ?_;exact Gt 3 O O O
  refine ac O ?_;apply La 4 O O O O Y O O O O O
  ·intro l;refine Vg (Yf mH O)<|Vg (Yd 0 O O O ab)<|Vg (Ym O)<|Vg (jF O O) ?_;exact Gt 4 O O O
  refine ag O<|ad<|am ?_;refine R1 O O λc a=>?_
  have b:x.kind=3:=by simpa using g
  exact ⟨by rw [BK (by simp [b])],a.fr⟩
 refine ae<|I (bz O O)<|ag O<|ad ?_;refine Cc O (λh=>?_)<|λh=>?_
 ·refine Cr<|ag O<|Ln<|Eb<|Et<|ae<|I (Yf vW O)<|I (Yd 0 O O O ab)<|Lp Y O aF O (λw a=>qP _ w)<|ac O ?_;apply La 4 O O O O Y O O O O O
  ·intro i;refine Vg (Yf p7 O)<|Vg (Yd 0 O O O ab)<|Vg (Ym O)<|Vg (hS O O) ?_;exact Gt 4 O O O
  refine ac O ?_;apply La 4 O O O O Y O O O O O
  ·intro j;refine Vg (Yf p7 O)<|Vg (Yd 0 O O O ab)<|Vg (Ym O)<|Vg (jF O O) ?_;exact Gt 4 O O O
  refine ac O ?_;apply La 3 O O O O Y O O O O O
  ·intro k;refine Vg (Yf mH O)<|Vg (Yd 0 O O O ab)<|Vg (hS O O) ?_;exact Gt 3 O O O
  refine ac O ?_;apply La 4 O O O O Y O O O O O
  ·intro l;refine Vg (Yf mH O)<|Vg (Yd 0 O O O ab)<|Vg (Ym O)<|Vg (jF O O) ?_;exact Gt 4 O O O
  refine ag O<|ad<|am ?_;refine R1 O O λc a=>?_
  have b:x.kind=4:=by simpa using h
  exact ⟨by rw [BK (by simp [b])],a.fr⟩
 refine ae<|ag O<|ad<|am<|cN<|Er ?_;refine R1 O O λc a=>?_;simp at d f g h;exact ⟨by rw [QG d f g h],a.fr⟩
def VL (i:View) (a:Option Addr) (c:Nat) (name:List UInt8) (b:List cP) (w:World) (u:Le i w) (n:Sl lP 4 i a c b) :
   Calls prog 51 #[.agg #[st name,.slice a b.length c]] w λe k=>e = .returned (.int .i64<|pJ name b)/\Ext w k:=by
 have M:=n.cap;have N:=n.max;refine enter func51 O 34 O O ?_;refine CE (Vs:=[i]) (Ws.init (by simp [u]))<|ae ?_;refine WL.box Y O O λv=>?_;refine ag O<|ad<|Cs<|ae<|I (Yf zY O)<|I (Yd 0 O O O ab)<|I (Yn vX O)<|I (eh O O)<|ad ?_;refine Cc O (λo=>?_)<|λo=>?_
 ·have l:16<b.length:=by simp at o; omega
  refine ae<|ag O<|ad<|am<|Er ?_;refine R1 O O λk f=>?_;exact ⟨by rw [pJ,ZZ l],f.fr⟩
 have l:¬16<b.length:=by simp at o; omega
 refine bW<|ae<|ag O<|LW (λ_ h=>h.g4 9 1)<|ad<|Cs<|ae<|I (Yf zY O)<|I (Yd 1 O O O ab)<|I (Yn vX O)<|ac O ?_;refine ad<|Cb ?_;refine ey (ι:=Nat×Option Addr×Nat) (λg=>[(13,.int .i64 (g.1:Int)),(3,.slice g.2.1 ((b.take g.1).map (·.name)).length g.2.2)]) [(1,_),(11,_),(12,_)] (λg=>Ws w [] [cC 9 1 gk g.2.1 g.2.2 ((b.take g.1).map (·.name)),aq v (.cells (Value.agg #[st name,.slice a b.length c]).cells 42 (0,0))] [i]) (λg=>g.1<=b.length/\∀j x,j<g.1->b[j]? = some x->cH x=true) (λg=>b.length-g.1) (0,none,0) ⟨di _,ai⟩ ay ?_;intro g ⟨hi,p⟩;refine ae<|I (cI O O)<|ad<|Cs ?_;refine Cc O (λq=>?_)<|λq=>?_
 ·have z:g.1<b.length:=by simpa using q
  obtain ⟨x,m⟩:=cR z;obtain ⟨pb,A,B,r⟩:=n.b5 g.1 x m;have r:ar i pb (A+g.1*4) x.cells:=r
  have C:(b.take<|g.1+1).map (·.name)=(b.take g.1).map (·.name)++[x.name]:=by rw [gV,m]; simp
  have hL:((b.take g.1).map (·.name)).length=g.1:=by simp; omega
  refine bW<|Cs<|Cb<|ae<|I (Yo vX O O B aa)<|I (dz 0 m7 O O O<|r) ?_;refine Al Y O bx λP=>?_;refine aT 0 Y O O O mI O O O<|ad<|Cs<|ae<|I (db 0 O O m7 O)<|Lp Y O aF O (λw f=>Py x w)<|I (gW O)<|ad ?_;refine Cc O (λs=>?_)<|λs=>?_
  ·have D:=QI m (by simpa using s);refine ae<|ag O<|ad<|am<|Er<|cN<|Er<|Er<|cN<|Er ?_;refine R1 O O λk f=>?_;exact ⟨by rw [pJ,ZX l,D]; rfl,f.fr⟩
  have E:cH x=true:=by simpa using s
  refine bW<|Cr<|ac O<|I (Yf vW O)<|I (Yd 0 O O O ab) ?_;refine Lb Y O fw O O O O λQ=>?_;refine dk 0 (.cells (gk x.name).toArray 9 (0,0)) O (O) ?_;refine LA (x.name) 2 0 Y O fw O O O O O O aa aa λF G=>?_;refine ag O<|Ln<|Eb<|Et<|Cr<|I (Yi O O O aa)<|ac O<|Ln ?_;rw [<-C]
  exact c8 ((g.1+1,F,G):Nat×Option Addr×Nat) (by first | omega | (dsimp only; omega)) ⟨by first | omega | (dsimp only; omega),λj y H d=>by
      rcases ne.1 H with h | h
      · exact p j y h d
      · subst h; rw [m] at d; injection d with d; subst d; exact E⟩<|λ_ h=>Wd 2 h
 have J:g.1=b.length:=by simp at q; omega
 rw [J,gE];refine Ce<|Ex<|Ex<|dQ<|Et<|Cs<|Cs ?_;refine WC.pH (rd:=rdStr) 0 O oY dN λK L=>?_;refine Cr<|ac O ?_
 refine Lp Y O aF O (λw f=>by
     have:=G5 K g.2.1 g.2.2 (b.map (·.name)) w f.V L
     exact this) ?_
 refine ac O ?_;apply Lo 4 O O O O Y O O O O O
 ·intro R;refine Vg (Yf G4 O)<|Vg (Yd 0 O O O ab)<|Lp (.g O O O) O aF O (λw f=>qP _ w)<|Vg (gW O) ?_;exact Gt 4 O O O
 refine ad ?_;refine Cc O (λt=>?_)<|λt=>?_
 ·refine ae<|ag O<|ad<|am<|Er ?_;refine R1 O O λk f=>?_;have d:=JJ λj y d=>p j y (by have:=(cq.1 d).1; omega) d;exact ⟨by rw [pJ,ZX l,d,t]; rfl,f.fr⟩
 refine bW<|ae<|ag O<|ad<|am ?_;refine R1 O O λk f=>?_;have d:=JJ λj y d=>p j y (by have:=(cq.1 d).1; omega) d;exact ⟨by rw [pJ,ZX l,d,t]; rfl,f.fr⟩
def Nt (h:ku bP=0):lr bP:=LK<|LU.1 h
def VM (h:LJ jn):0<=jt jn/\jt jn<=32:=by
 unfold jt;have a:=h.n3
 split
 · omega
 · split
   · rename_i b; have:=a b; omega
   · omega
def Nu:∀{l:List eb},(∀d ∈ l,(iI d).cA=0)->0<=bh l/\bh l<=32*(l.length:Int)
 | [],_=>by simp [bh]
 | d::l,h=>by
   have b:=VM (Ct<|h d ai);have c:=Nu (l:=l) λx a=>h x<|dT _ a;simp only [bh,gf];omega
def Nv (a:lr bP) (i:Nat):0<=bh (bP.decls.take i)/\bh (bP.decls.take i)<=320:=by
 have h:=Nu (l:=bP.decls.take i) λd b=>a.decls d<|yh b;have c:=a.e8.2.1
 have e:((bP.decls.take i).length:Int)<=10:=by rw [k']; omega
 omega
def VN (h:jn.kind=1):cP.cells (n_ aH jn)=[.int .i64 jn.kind,.int .i64 jn.n,.int .i64 0,st jn.nm]:=by rw [n_,ZZ h]; rfl
def Nw (h:¬jn.kind=1):cP.cells (n_ aH jn)=[.int .i64 jn.kind,.int .i64 jn.n,.int .i64 aH,st jn.nm]:=by rw [n_,ZX h]; rfl
def VO (h:jn.kind=1):jt jn=0:=by rw [jt,ZX aa,ZX aa]
def VP (h:jn.kind=2):jt jn=1:=by rw [jt,ZZ h]
def VQ (h:jn.kind=3):jt jn=jn.n:=by rw [jt,ZX aa,ZZ h]
def vY:gX prog 48=some [(0,1),(1,1),(2,1),(3,1)]:=ab
def qY:hf prog 40 48 (.agg #[.int .i64 0,.int .i64 0,.int .i64 0,st []]) 4 40:=jb ab
def Nx (a:View) (ke ks:Nat) (r:cb) (m:df) (w:World) (K:Le a w) (b:n7 ke ks a r m) (k:lr m) :
   Calls prog 56 #[.agg (iJ m r).toArray] w λe o=>∃r:SP,e = .returned (.tuple #[.slice r.1 (fy m).length r.2,.int .i64 (mm m)])/\Ext w o/\Sl lP 4 (nv w o) r.1 r.2 (fy m):=by
 have e8:=k.e8;have W:=b.decls.max;have X:=b.decls.cap;have Z:=b.procs.max;have af:=b.procs.cap;refine enter func56 O 67 O O ?_;refine CE (Vs:=[a]) (Ws.init (by simp [K]))<|ae ?_;refine WL.box Y O O λz=>?_;refine ag O<|ag O<|ad<|ae<|ag O<|LW (λ_ h=>h.g4 48 4)<|ad<|ae<|ag O<|ad<|Cs<|ae ?_;refine I (Yf xF O)<|I (Yd 1 O O O ab)<|I (Yn vN O)<|ac O<|ad<|Cb ?_;refine ey (ι:=Nat×Option Addr×Nat) (λg=>[(14,.int .i64 (g.1:Int)),(4,.slice g.2.1 (jL (m.decls.take g.1) 0).length g.2.2),(5,.int .i64 (bh<|m.decls.take g.1))]) [(1,_),(2,_),(3,_),(12,_),(13,_)] (λg=>Ws w [] [cC 48 4 cP.cells g.2.1 g.2.2 (jL (m.decls.take g.1) 0),aq z (.cells (iJ m r).toArray 27 (0,0))] [a]) (λg=>g.1<=m.decls.length) (λg=>m.decls.length-g.1) (0,none,0) (di _) ay ?_;intro g hi;refine ae<|I (cI O O)<|ad<|Cs ?_;refine Cc O (λl=>?_)<|λl=>?_
 ·have q:g.1<m.decls.length:=by simpa using l
  obtain ⟨d,s⟩:=cR q;obtain ⟨L,M,N,t⟩:=b.decls.b5 g.1 d s;have t:ar a L (M+g.1*4) d.cells:=t;have A:=Ct (k.decls d<|az s);have B:m.decls.take (g.1+1)=m.decls.take g.1++[d]:=ly s
  have c:jL (m.decls.take<|g.1+1) 0=jL (m.decls.take g.1) 0++[n_ (bh<|m.decls.take g.1) d]:=by rw [B,JL,D_]
  have u:bh (m.decls.take<|g.1+1)=bh (m.decls.take g.1)+jt d:=by rw [B,JK]
  have ah:=Nv k g.1;have ai:=Nv k (g.1+1)
  have aj:(jL (m.decls.take g.1) 0).length=g.1:=by rw [BL,k']; omega
  have ak:=A.n3;refine bW<|Cs<|Cb<|ae<|I (Yo vN O O N aa)<|I (dz 0 pk O O O<|t) ?_;refine Al Y O rQ λal=>?_;refine aT 0 Y O O O sQ O O O<|ad<|ae<|I (Yf xz O)<|I (Yd 0 O O O ab)<|I (Yf sN O)<|I (Yd 0 O O O ab)<|I (Yf zD O)<|I (Yd 0 O O O ab) ?_;refine I (Yb bx vY O O) ?_;refine Al Y O bx λan=>?_;refine aT 0 Y O O O mI O O O<|ad<|Cs<|ae<|I (Yf xz O)<|I (Yd 1 O O O ab)<|ad<|Cb<|ae<|I (bz O O)<|ag O<|ad ?_;refine Cc O (λv=>?_)<|λv=>?_
  ·have C:d.kind=2:=by simpa using v
   have f:=VP C;refine ae<|ac O<|I (Yf mH O)<|aT 0 Y O O O dL O O O<|ad<|Cr<|ac O<|I (Ba (bh<|m.decls.take<|g.1+1) O O (by rw [u,f]) aa)<|ag O ?_;refine Ln<|Eb<|Et<|Cr<|ac O<|I (db 0 O O m7 O) ?_;refine Lb Y O qY O O O O λD=>?_;refine dk 0 (.cells (cP.cells<|n_ (bh<|m.decls.take g.1) d).toArray 48 (0,0)) O (by rw [Nw aa]; rfl) ?_;refine LA (n_ (bh<|m.decls.take g.1) d) 3 0 Y O qY O O O O O O aa aa λi j=>?_;refine ag O<|Ln<|Eb<|Et<|Cr<|I (Yi O O O aa)<|ac O<|Ln ?_;rw [<-c];exact c8 ((g.1+1,i,j):Nat×Option Addr×Nat) (by first | omega | (dsimp only; omega)) (by first | omega | (dsimp only; omega))<|λ_ h=>Wd 3 h
  have C:¬d.kind=2:=by simpa using v
  refine ae<|I (bz O O)<|ag O<|ad ?_;refine Cc O (λx=>?_)<|λx=>?_
  ·have E:d.kind=3:=by simpa using x
   have f:=VQ E;refine ae<|ac O<|I (Yf mH O)<|aT 0 Y O O O dL O O O<|ad<|Cr<|ac O<|I (Yf sN O)<|I (Yd 1 O O O ab) ?_;refine I (Ba (bh<|m.decls.take<|g.1+1) O O (by rw [u,f]) aa)<|ag O<|Ln<|Eb<|Et<|Cr<|ac O<|I (db 0 O O m7 O) ?_;refine Lb Y O qY O O O O λD=>?_;refine dk 0 (.cells (cP.cells<|n_ (bh<|m.decls.take g.1) d).toArray 48 (0,0)) O (by rw [Nw aa]; rfl) ?_;refine LA (n_ (bh<|m.decls.take g.1) d) 3 0 Y O qY O O O O O O aa aa λi j=>?_;refine ag O<|Ln<|Eb<|Et<|Cr<|I (Yi O O O aa)<|ac O<|Ln ?_;rw [<-c];exact c8 ((g.1+1,i,j):Nat×Option Addr×Nat) (by first | omega | (dsimp only; omega)) (by first | omega | (dsimp only; omega))<|λ_ h=>Wd 3 h
  have E:¬d.kind=3:=by simpa using x
  have F:d.kind=1:=by have:=A.kind; omega
  have f:=VO F
  have P:bh (m.decls.take<|g.1+1)=bh (m.decls.take g.1):=by rw [u,f]; omega
  refine Ck<|Eb<|Et<|Cr<|ac O<|I (db 0 O O m7 O) ?_;refine Lb Y O qY O O O O λD=>?_;refine dk 0 (.cells (cP.cells<|n_ (bh<|m.decls.take g.1) d).toArray 48 (0,0)) O (by rw [VN F]; rfl) ?_;refine LA (n_ (bh<|m.decls.take g.1) d) 3 0 Y O qY O O O O O O aa aa λi j=>?_;refine ag O<|Ln<|Eb<|Et<|Cr<|I (Yi O O O aa)<|ac O<|Ln ?_;rw [<-c];rw [<-P];exact c8 ((g.1+1,i,j):Nat×Option Addr×Nat) (by first | omega | (dsimp only; omega)) (by first | omega | (dsimp only; omega))<|λ_ h=>Wd 3 h
 have n:g.1=m.decls.length:=by simp at l; omega
 rw [n,gE]
 clear n l hi
 refine Ce<|Ex<|Ex<|dQ<|Et<|Cs<|ae<|I (Yf vO O)<|I (Yd 1 O O O ab)<|I (Yn sP O)<|ac O<|ad<|Cb ?_;rw [show jL m.decls 0=jL m.decls 0++lQ (m.procs.take 0) 0 by simp [lQ]];refine ey (ι:=Nat×Option Addr×Nat) (λg=>[(49,.int .i64 (g.1:Int)),(4,.slice g.2.1 (jL m.decls 0++lQ (m.procs.take g.1) 0).length g.2.2)]) [(2,_),(3,_),(5,_),(47,_),(48,_)] (λg=>Ws w [] [cC 48 4 cP.cells g.2.1 g.2.2 (jL m.decls 0++lQ (m.procs.take g.1) 0),aq z (.cells (iJ m r).toArray 27 (0,0))] [a]) (λg=>g.1<=m.procs.length) (λg=>m.procs.length-g.1) (0,g.2.1,g.2.2) (di _) ay ?_
 clear g
 intro g hi;refine ae<|I (cI O O)<|ad<|Cs ?_;refine Cc O (λy=>?_)<|λy=>?_
 ·have q:g.1<m.procs.length:=by simpa using y
  obtain ⟨p,G⟩:=cR q;obtain ⟨ao,ap,Q,R⟩:=b.procs.b5 g.1 p G;obtain ⟨au,av,aw,ax,aA,aB,S,H,aC,aD⟩:=R;have aE:=H.max;have aF:=H.cap;have T:m.procs.take (g.1+1)=m.procs.take g.1++[p]:=ly G
  have c:jL m.decls 0++lQ (m.procs.take<|g.1+1) 0=(jL m.decls 0++lQ (m.procs.take g.1) 0)++[yM g.1 p]:=by
    rw [T,JM,bV,lK,k',wo aa]
  have aG:(jL m.decls 0++lQ (m.procs.take g.1) 0).length<=16:=by rw [jE,BL,E4,k']; omega
  refine bW<|Cs<|Cb<|ae<|ac O<|I (Yo sP O O Q aa)<|I (dz 0 xG O O O<|S) ?_;refine Al Y O uf λaH=>?_;refine ag O<|aT 0 Y O O O xH O O O<|ad<|Cr<|ac O<|I (Yf rR O)<|I (Yd 0 O O O ab)<|I (Yn fQ O)<|ac O ?_;refine I (Yf MX O)<|I (Yd 0 O O O ab)<|I (Yb bx vY O O) ?_;refine Lb Y O qY O O O O λaI=>?_;refine dk 0 (.cells (cP.cells<|yM g.1 p).toArray 48 (0,0)) O (O) ?_;refine LA (yM g.1 p) 2 0 Y O qY O O O O O O aa aa λU V=>?_;refine ag O<|Ln<|Eb<|Et<|Cr<|I (Yi O O O aa)<|ac O<|Ln ?_;rw [<-c];exact c8 ((g.1+1,U,V):Nat×Option Addr×Nat) (by first | omega | (dsimp only; omega)) (by first | omega | (dsimp only; omega))<|λ_ h=>Wd 2 h
 have n:g.1=m.procs.length:=by simp at y; omega
 rw [n,gE];refine Ce<|Ex<|Ex<|dQ<|Et<|ae<|ac O<|ac O<|ag O<|ag O<|ad<|am ?_;refine WE.ng O O O λo J=>?_;exact ⟨(g.2.1,g.2.2),O,J.fr,J.hW 0 O cP.cD dN⟩
end Go.Proofs.YtgeahfjicmlocaaGreatDoor
end
