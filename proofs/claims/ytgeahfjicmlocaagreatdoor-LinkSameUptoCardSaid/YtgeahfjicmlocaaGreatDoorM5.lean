/- LinkSame: the code of a program does what the program means (proved in the second form, bulk at most 1048576). -/
import Derived.Test.YtgeahfjicmlocaaGreatDoorM4
set_option linter.unusedVariables false
set_option linter.unusedSimpArgs false
set_option linter.defProp false
section
namespace Go.Proofs.YtgeahfjicmlocaaGreatDoor
open Go.Bw Go.Proofs.Tryz
variable {bP:df} {Z:Nat} {iR:f'}
def VR (h:bP.procs[Z]? = some iR):bP.decls.map (·.cZ)++(bP.procs.take<|Z+1).map (·.cZ)=(bP.decls.map (·.cZ)++(bP.procs.take Z).map (·.cZ))++[iR.cZ]:=by rw [ly h]; simp
def VS {d:eb} (h:bP.decls[Z]? = some d):(bP.decls.take<|Z+1).map (·.cZ)=(bP.decls.take Z).map (·.cZ)++[d.cZ]:=by rw [ly h]; simp
def Ny (h:¬ku bP=0):gy bP=(([],[]),ku bP):=by rw [gy,ZZ h]
def Nz (h:ku bP=0) (a:(f_ ((fy bP).map (·.name))||f_ bP.aA)=true):gy bP=(([],[]),6):=by rw [gy,ZX (by simp [h]),ZZ a]
def VT (h:ku bP=0) (a:(f_ ((fy bP).map (·.name))||f_ bP.aA)=false):gy bP=((bP.nm,jM (fy bP) (mn bP)),0):=by rw [gy,ZX (by simp [h]),ZX (by simp [a])]
def FQ (m:df) (i:Nat):List cP:=jM ((fy m).take i)<|(mn m).take i
def VU (m:df):FQ m (fy m).length=jM (fy m) (mn m):=by
 unfold FQ;rw [gE,yN,<-BM,gE]
variable {et:cP}
def VV {p:Bool} (a:(fy bP)[Z]? = some et) (b:(mn bP)[Z]? = some p):FQ bP (Z+1)=FQ bP Z++(if p=true then [et] else []):=QJ (by rw [yN,BM]) a b
def VW (m:df) (i:Nat):(FQ m i).length<=i:=by
 have:=E5 ((fy m).take i) ((mn m).take i);simp at this
 show (jM _ _).length<=i
 omega
structure GF where
 i:Nat
 n:SP
 f:SP
def C2:hf prog 132 4 (.bool false) 1 1:=jb ab
def s0:zeroOf prog 42=some (.agg #[st [],.slice none 0 0]):=ab
def C3:gX prog 42=some [(0,1),(1,1)]:=ab
def vZ:aJ prog 42=some 2:=ab
def v3:hr prog 42=some 2:=ab
def VX:aat prog 132=some 1:=ab
def VY:aJ prog 40=some 1:=ab
def VZ (a:View) (ke ks:Nat) (r:cb) (m:df) (w:World) (u:Le a w) (b:n7 ke ks a r m) (v:lr m) :
   Calls prog 69 #[.agg (iJ m r).toArray] w λe i=>∃r:SP,e = .returned (.slice r.1 (mn m).length r.2)/\Ext w i/\Sl rdBool 1 (nv w i) r.1 r.2 (mn m):=by
 have e8:=v.e8;have J:=b.decls.max;have K:=b.decls.cap;have L:=b.procs.max;have M:=b.procs.cap;refine enter func69 O 35 O O ?_;refine CE (Vs:=[a]) (Ws.init (by simp [u]))<|ae ?_;refine WL.box Y O O λo=>?_;refine ag O<|ad<|ae<|ag O<|LW (λ_ h=>h.g4 4 1)<|ad<|Cs<|ae<|I (Yf xF O)<|I (Yd 1 O O O ab)<|I (Yn vN O) ?_;refine ac O<|ad<|Cb ?_;refine ey (ι:=Nat×Option Addr×Nat) (λg=>[(11,.int .i64 (g.1:Int)),(3,.slice g.2.1 ((m.decls.take g.1).map (·.cZ)).length g.2.2)]) [(1,_),(2,_),(9,_),(10,_)] (λg=>Ws w [] [cC 4 1 vh g.2.1 g.2.2 ((m.decls.take g.1).map (·.cZ)),aq o (.cells (iJ m r).toArray 27 (0,0))] [a]) (λg=>g.1<=m.decls.length) (λg=>m.decls.length-g.1) (0,none,0) (di _) ay ?_;intro g hi;refine ae<|I (cI O O)<|ad<|Cs ?_;refine Cc O (λc=>?_)<|λc=>?_
 ·have j:g.1<m.decls.length:=by simpa using c
  obtain ⟨d,q⟩:=cR j;obtain ⟨x,y,z,k⟩:=b.decls.b5 g.1 d q;have k:ar a x (y+g.1*4) d.cells:=k;have l:=VS q
  have A:((m.decls.take g.1).map (·.cZ)).length=g.1:=by simp; omega
  refine bW<|Cs<|Cb<|ae<|I (Yo vN O O z aa)<|I (dz 0 pk O O O<|k) ?_;refine Al Y O rQ λN=>?_;refine aT 0 Y O O O sQ O O O<|ad<|Cr<|ac O<|I (Yf Uz O)<|I (Yd 0 O O O ab) ?_;refine Lb Y O C2 O O O O λP=>?_;refine dk 0 (.cells (vh d.cZ).toArray 4 (0,0)) O (O) ?_;refine LA (d.cZ) 2 0 Y O C2 O O O O O O aa aa λB C=>?_;refine ag O<|Ln<|Eb<|Et<|Cr<|I (Yi O O O aa)<|ac O<|Ln ?_;rw [<-l];exact c8 ((g.1+1,B,C):Nat×Option Addr×Nat) (by first | omega | (dsimp only; omega)) (by first | omega | (dsimp only; omega))<|λ_ h=>Wd 2 h
 have f:g.1=m.decls.length:=by simp at c; omega
 rw [f,gE]
 clear f c hi
 refine Ce<|Ex<|Ex<|dQ<|Et<|Cs<|ae<|I (Yf vO O)<|I (Yd 1 O O O ab)<|I (Yn sP O)<|ac O<|ad<|Cb ?_;rw [show m.decls.map (·.cZ)=m.decls.map (·.cZ)++(m.procs.take 0).map (·.cZ) by simp];refine ey (ι:=Nat×Option Addr×Nat) (λg=>[(24,.int .i64 (g.1:Int)),(3,.slice g.2.1 (m.decls.map (·.cZ)++(m.procs.take g.1).map (·.cZ)).length g.2.2)]) [(2,_),(22,_),(23,_)] (λg=>Ws w [] [cC 4 1 vh g.2.1 g.2.2 (m.decls.map (·.cZ)++(m.procs.take g.1).map (·.cZ)),aq o (.cells (iJ m r).toArray 27 (0,0))] [a]) (λg=>g.1<=m.procs.length) (λg=>m.procs.length-g.1) (0,g.2.1,g.2.2) (di _) ay ?_
 clear g
 intro g hi;refine ae<|I (cI O O)<|ad<|Cs ?_;refine Cc O (λn=>?_)<|λn=>?_
 ·have j:g.1<m.procs.length:=by simpa using n
  obtain ⟨p,s⟩:=cR j;obtain ⟨Q,R,D,E⟩:=b.procs.b5 g.1 p s;obtain ⟨S,T,U,V,W,X,F,Z,af,ah⟩:=E;have l:=VR s
  have A:(m.decls.map (·.cZ)++(m.procs.take g.1).map (·.cZ)).length<=16:=by simp; omega
  refine bW<|Cs<|Cb<|ae<|I (Yo sP O O D aa)<|I (dz 0 xG O O O<|F) ?_;refine Al Y O uf λai=>?_;refine aT 0 Y O O O xH O O O<|ad<|Cr<|ac O<|I (Yf UA O)<|I (Yd 0 O O O ab) ?_;refine Lb Y O C2 O O O O λaj=>?_;refine dk 0 (.cells (vh p.cZ).toArray 4 (0,0)) O (O) ?_;refine LA (p.cZ) 2 0 Y O C2 O O O O O O aa aa λG H=>?_;refine ag O<|Ln<|Eb<|Et<|Cr<|I (Yi O O O aa)<|ac O<|Ln ?_;rw [<-l];exact c8 ((g.1+1,G,H):Nat×Option Addr×Nat) (by first | omega | (dsimp only; omega)) (by first | omega | (dsimp only; omega))<|λ_ h=>Wd 2 h
 have f:g.1=m.procs.length:=by simp at n; omega
 rw [f,gE];refine Ce<|Ex<|Ex<|dQ<|Et<|ae<|ac O<|ag O<|ad<|am ?_;refine R1 O O λi t=>?_;exact ⟨(g.2.1,g.2.2),O,t.fr,t.hW 0 O QZ dN⟩
def V0 (b:View) (ke ks:Nat) (r:cb) (m:df) (w:World) (K:Le b w) (c:n7 ke ks b r m) (an:wM m<=109951162777) :
   Calls prog 15 #[.agg (iJ m r).toArray] w λe d=>∃r:SP,e = .returned (.tuple #[.agg #[st (gy m).1.1,.slice r.1 (gy m).1.2.length r.2],.int .i64 (gy m).2])/\Ext w d/\Sl lP 4 (nv w d) r.1 r.2 (gy m).1.2:=by
 refine enter func15 O 60 O O ?_;refine CE (Vs:=[b]) (Ws.init (by simp [K]))<|ae ?_;refine WL.box Y O O λL=>?_;refine Al Y O s0 λM=>?_;refine ag O<|ad<|Cs<|ae<|I (db 1 O O nQ O)<|Lp Y O aF O (λw a=>MY b ke ks r m w a.V c aa)<|ag O<|ad<|ae<|ac O<|I (h9 O O) ?_;refine ad ?_;refine Cc O (λl=>?_)<|λl=>?_
 ·have j:¬ku m=0:=by simpa using l
  refine ae<|I (Yb s0 C3 O O)<|ac O<|aT 0 Y O O O vZ O O O<|ag O<|ad<|am<|Er ?_;refine WE.tp 0 O O O O v3 O λd a=>?_;rw [Ny j];exact ⟨(none,0),O,a.fr,Sl.nil⟩
 have j:ku m=0:=by simpa using l
 have o:=Nt j;have e8:=o.e8;have ao:=c.decls.max;have ap:=c.decls.cap;have au:=c.procs.max;have av:=c.procs.cap;have il:=yN m;have pl:=BM m;refine bW<|ae<|I (db 1 O O nQ O) ?_;refine Ld Y O aF O (λr:SP=>.tuple #[.slice r.1 (fy m).length r.2,.int .i64 (mm m)]) (λb r=>Sl lP 4 b r.1 r.2<|fy m) (λw a=>Nx b ke ks r m w a.V c o) ?_;intro B aw ax p;refine ac O<|I (Yx O O)<|I (Yx O O)<|ag O<|ag O<|ad<|ae<|I (Yf tv O)<|I (Yd 1 O O O ab) ?_;refine I (Yb s0 C3 O O)<|LW (λ_ h=>h.g4 48 4) ?_;refine Al Y O s0 λN=>?_;refine aT 0 Y O O O vZ O O O<|ad<|ae<|ag O<|LW (λ_ h=>h.g4 9 1)<|ad<|ae<|I (db 4 O O nQ O) ?_;refine Ld Y O aF O (λr:SP=>.slice r.1 (mn m).length r.2) (λb r=>Sl rdBool 1 b r.1 r.2<|mn m) (λw a=>VZ b ke ks r m w a.V c o) ?_;intro C ay az q;have aB:=p.max;have aC:=p.cap;have aD:=q.max;have aE:=q.cap;refine ag O<|ad<|Cs<|ae<|ac O<|I (Yn vX O)<|ac O<|ad<|Cb ?_;refine ey (ι:=GF) (λg=>[(30,.int .i64 (g.i:Int)),(8,.slice g.n.1 (((fy m).take g.i).map vV).length g.n.2)]) [(1,_),(2,_),(3,_),(7,_),(9,_),(28,_),(29,_)] (λg=>Ws w [] [aq N (.cells #[st m.nm,.slice g.f.1 (FQ m g.i).length g.f.2] 42 (0,0)),cC 9 1 gk g.n.1 g.n.2 (((fy m).take g.i).map vV),cC 48 4 cP.cells g.f.1 g.f.2 (FQ m g.i),aq M (.cells #[st [],.slice none 0 0] 42 (0,0)),aq L (.cells (iJ m r).toArray 27 (0,0))] [C,B,b]) (λg=>g.i<=(fy m).length) (λg=>(fy m).length-g.i) ⟨0,(none,0),(none,0)⟩ (di _) (λ_ h=>by exact (((((h.f 4 O).f 4 O).f 4 O).f 3 O).f 4 O:)) ?_;intro g hi;refine ae<|I (cI O O)<|ad<|Cs ?_;refine Cc O (λs=>?_)<|λs=>?_
 ·have D:g.i<(fy m).length:=by simpa using s
  obtain ⟨x,t⟩:=cR D;obtain ⟨pb,P,Q,u⟩:=p.b5 g.i x t;have u:ar B pb (P+g.i*4) x.cells:=u;obtain ⟨k,E⟩:=cR (by rw [BM,<-yN]; exact D);obtain ⟨R,S,T,v⟩:=q.b5 g.i k E;have v:ar C R (S+g.i*1) (vh k):=v
  have F:((fy m).take<|g.i+1).map vV=((fy m).take g.i).map vV++[x.name]:=by rw [gV,t]; simp [vV]
  have hL:(((fy m).take g.i).map vV).length=g.i:=by simp; omega
  have G:=VV t E;have aG:=VW m g.i;refine bW<|Cs<|Cb<|ae<|ac O<|I (Yo vX O O Q aa)<|I (dz 1 m7 O O O<|u) ?_;refine Al Y O bx λaH=>?_;refine ag O<|aT 0 Y O O O mI O O O<|ad<|ae<|ac O<|I (Yf vW O)<|I (Yd 0 O O O ab) ?_;refine Lb Y O fw O O O O λaI=>?_;refine dk 0 (.cells (gk x.name).toArray 9 (0,0)) O (O) ?_;refine LA ((x.name:List UInt8)) 3 0 Y O fw O O O O O O aa aa λH J=>?_;refine ag O<|ad<|ae<|ac O<|ac O<|I (Yo VX O O T aa)<|I (eQ 0 ab O O<|v 0 _ O)<|ad ?_;refine Cc O (λy=>?_)<|λy=>?_
  ·have U:k=true:=by simpa using y
   have W:FQ m (g.i+1)=FQ m g.i++[x]:=by rw [G,ZZ U]
   refine Cr<|I (Yf zY O)<|I (Yd 2 O O O ab)<|I (db 1 O O m7 O) ?_;refine Lb Y O qY O O O O λaJ=>?_;refine dk 0 (.cells (cP.cells x).toArray 48 (0,0)) O (O) ?_;refine LA (x) 5 0 Y O qY O O O O O O aa aa λX Z=>?_;refine I (Yf zY O)<|aT 3 Y O O O VY O O O<|Ln<|Eb<|Et<|Cr<|I (Yi O O O aa)<|ac O<|Ln ?_;rw [<-F];rw [<-W];exact c8 (⟨g.i+1,(H,J),(X,Z)⟩:GF) (by first | omega | (dsimp only; omega)) (by first | omega | (dsimp only; omega))<|λ_ h=>Wd 3 h
  have af:¬k=true:=by simpa using y
  have ah:FQ m (g.i+1)=FQ m g.i:=by rw [G,ZX af,wr]
  refine Ck<|Eb<|Et<|Cr<|I (Yi O O O aa)<|ac O<|Ln ?_;rw [<-F];rw [<-ah];exact c8 (⟨g.i+1,(H,J),g.f⟩:GF) (by first | omega | (dsimp only; omega)) (by first | omega | (dsimp only; omega))<|λ_ h=>Wd 2 h
 have ai:g.i=(fy m).length:=by simp at s; omega
 have aj:=VU m;refine Ce<|Ex<|Ex<|dQ<|Et<|Cs<|Cs ?_;rw [ai,gE];refine WC.pH (rd:=rdStr) 1 O oY dN λak al=>?_;refine Cr<|ac O ?_
 refine Lp Y O aF O (λw a=>by
     have:=G5 ak g.n.1 g.n.2 ((fy m).map vV) w a.V al
     exact this) ?_
 refine ac O ?_;apply Lo 3 O O O O Y O O O O O
 ·intro aK;refine Vg (Yf ue O)<|Vg (Yd 3 O O O ab)<|Lp (.g O O O) O aF O (λw a=>G5 b r.a1 r.c1 m.aA w a.V c.aA) ?_;exact Gt 3 O O O
 refine ad ?_;refine Cc O (λz=>?_)<|λz=>?_
 ·have A:(f_ ((fy m).map (·.name))||f_ m.aA)=true:=z;refine ae<|I (Yb s0 C3 O O)<|aT 2 Y O O O vZ O O O<|ag O<|ad<|am<|Er ?_;refine WE.tp 2 O O O O v3 O λd a=>?_;rw [Nz j A];exact ⟨(none,0),O,a.fr,Sl.nil⟩
 have A:(f_ ((fy m).map (·.name))||f_ m.aA)=false:=z;refine bW<|ae<|I (db 0 O O v3 O)<|aT 2 Y O O O vZ O O O<|ag O<|ad<|am ?_;refine WE.tp 2 O O O O v3 O λd a=>?_;rw [VT j A];rw [aj] at a ⊢;exact ⟨g.f,O,a.fr,a.hW 1 O cP.cD dN⟩
structure GI where
 i:Nat
 s:SP
 p:SP
def bO:List UInt8:=[99,110,116]
def fp:List cP:=[⟨1,3,0,[107]⟩,⟨2,0,0,[115,117,109]⟩,⟨3,4,1,[116]⟩,⟨4,1,0,[100,111,119,110]⟩]
variable {bq:List cP}
def V1 (h:(bq.map (·.name)).Nodup) (b:bq[Z]? = some et):et.name ∉ (bq.take Z).map (·.name):=by
 intro d;have i:Z<bq.length:=(cq.1 b).1;obtain ⟨j,c⟩:=iE d;rw [e4] at c;obtain ⟨y,a,e⟩:=dS.1 c
 have f:j<Z:=by have:=(cq.1 a).1; simp at this; omega
 rw [jq,ZZ f] at a
 have g:(bq.map (·.name))[j]? = (bq.map (·.name))[Z]?:=by rw [e4,e4,a,b]; simp [e]
 have:=(e5 (by simpa using (cq.1 a).1) h).1 g;omega
def G7:prog.underlying 122=some (.map 9 48):=ab
def NA (w:World) :
   Calls prog 49 #[] w λe a=>∃r:SP,e = .returned (.agg #[st bO,.slice r.1 fp.length r.2])/\Ext w a/\Sl lP 4 (nv w a) r.1 r.2 fp:=by
 refine enter func49 O 7 O O ?_;refine CE (Vs:=[]) (Ws.init ai)<|ae ?_;refine Al Y O s0 λg=>?_;refine ad<|ae<|I (Yb bx vY O O)<|I (Yb bx vY O O)<|I (Yb bx vY O O)<|I (Yb bx vY O O) ?_;refine Lb Y O qY O O O O λb=>?_;refine I (Yb s0 C3 O O)<|aT 1 Y O O O vZ O O O<|ad<|am ?_;refine WE.aau (iF O<|eM 1 O O v3 O) λa c=>?_
 exact ⟨(some ⟨b,0,none⟩,4),O,c.fr,⟨show fp.length<=4 by decide,show 4<=9223372036854775807 by decide,ai,λj x f=>⟨b,0,O,λk v d=>c.IC 0 O (by
     have:k<4:=(cq.1 d).1
     show (fp.flatMap cP.cells)[0+j*4+k]? = some v
     rw [lK,px cP.cD f this]; exact d)⟩⟩⟩
def NB (d:View) (a:Option Addr) (c:Nat) (l:List cP) (w:World) (q:Le d w) (f:Sl lP 4 d a c l) (r:(l.map (·.name)).Nodup) :
   Calls prog 57 #[.slice a l.length c] w λe g=>∃b:Nat,e = .returned (.map<|some b)/\Ext w g/\(nv w g) b=some (cY st (je l 0) l.length):=by
 have z:=f.cap;have A:=f.max;refine enter func57 O 19 O O ?_;refine CE (Vs:=[d]) (Ws.init (by simp [q]))<|ae<|ag O<|ad<|ae ?_;refine WL.pD st Y O λn=>?_;refine dk 0 (cY st (je (l.take 0) 0) (l.take 0).length) O O<|ag O<|ad<|Cs<|ae<|ac O<|I (Yn vX O)<|ac O<|ad<|Cb ?_;refine ey (ι:=Nat) (λi=>[(9,.int .i64 (i:Int))]) [(2,_),(3,_),(7,_),(8,_)] (λi=>Ws w [] [aq n (cY st (je (l.take i) 0) (l.take i).length)] [d]) (λi=>i<=l.length) (λi=>l.length-i) 0 (di _) ay ?_;intro i hi;refine ae<|I (cI O O)<|ad<|Cs ?_;refine Cc O (λj=>?_)<|λj=>?_
 ·have s:i<l.length:=by simpa using j
  obtain ⟨x,k⟩:=cR s;obtain ⟨t,u,v,m⟩:=f.b5 i x k;have m:ar d t (u+i*4) x.cells:=m;have o:=Q2 (V1 r k);refine bW<|Cs<|Cb<|ae<|I (Yo vX O O v aa)<|I (dz 0 m7 O O O<|m) ?_;refine Al Y O bx λB=>?_;refine aT 0 Y O O O mI O O O<|ad<|Cr<|ac O<|I (Yf vW O)<|I (Yd 0 O O O ab)<|I (db 0 O O m7 O) ?_;refine WL.rh 1 iW Y G7 ab O O O O ?_;refine Ln<|Eb<|Et<|Cr<|I (Yi O O O aa)<|ac O<|Ln ?_;refine WE.od 1 (cY st (je (l.take<|i+1) 0) (l.take<|i+1).length) O (by rw [ly k,<-o.1,<-o.2]; rfl) ?_;exact c8 (i+1) aa aa<|λ_ h=>Wd 1 h
 have y:i=l.length:=by simp at j; omega
 rw [y,gE];refine Ce<|Ex<|Ex<|dQ<|Et<|ae<|ac O<|ag O<|ad<|am ?_;refine R1 O O λg p=>?_;exact ⟨n,O,p.fr,p.QY 0 O⟩
def iS (e:Int):List PanicEntry:=[⟨.iface 116<|.agg #[.int .i64 e],false,false⟩]
def G8 (a:View) (b o:Nat) (l:List cP):Prop:=∃c:Nat,vc a b o=some (.map<|some c)/\a c=some (cY st (je l 0) l.length)
structure fq (H:View) (sb:Nat) (σ:hH):Prop where
 at_:∃(ob ub:Nat) (fa:Option Addr) (fc lb:Nat),(vc H sb 0=some (.map<|some ob)/\vc H sb 1=some (.map<|some ub)/\vc H sb 2=some (.slice fa σ.gC.length fc)/\vc H sb 3=some (.map<|some lb))/\H ob=some (cY st (je σ.own 0) σ.own.length)/\H ub=some (cY st (hY σ.aA 0) σ.aA.length)/\Sl G8 1 H fa fc σ.gC/\H lb=some (cY st (hY σ.aC 0) σ.aC.length)
 nd:σ.aA.Nodup
 len:σ.aA.length=σ.gC.length
 e8:σ.aA.length<=3/\σ.aC.length<=7
def V2:cP:=⟨0,0,0,[]⟩
def m8 (nm:List UInt8) (l:List (List UInt8)):Int:=match idxOf nm l 0 with | some k=>((k+1:Nat):Int) | none=>0
def G9 (nm:List UInt8) (l:List (List UInt8)):gn nm (hY l 0) (.int .i64 0) = .int .i64 (m8 nm l):=J5 nm l
def G' {nm:List UInt8} {l:List (List UInt8)} (h:0<m8 nm l):∃k:Nat,idxOf nm l 0=some k/\m8 nm l=((k+1:Nat):Int)/\k<l.length:=by
 unfold m8 at h ⊢
 cases a:idxOf nm l 0 with
 | none=>rw [a] at h; exact absurd h a8
 | some k=>exact ⟨k,rfl,rfl,by have:=(pP a).2; exact (cq.1 this).1⟩
def G_ {nm:List UInt8} {l:List (List UInt8)} (h:¬0<m8 nm l):idxOf nm l 0=none:=by
 unfold m8 at h
 cases a:idxOf nm l 0 with
 | none=>rfl
 | some k=>rw [a] at h; exact absurd (by simp only; omega) h
def xM (nm:List UInt8) (l:List cP):cP:=(hI nm l).getD V2
def NE (nm:List UInt8) (l:List cP):gn nm (je l 0) (.agg #[.int .i64 0,.int .i64 0,.int .i64 0,st []]) = .agg (xM nm l).cells.toArray:=by
 rw [(J4 nm l _).1];unfold xM
 cases hI nm l<;>rfl
def NF (nm:List UInt8) (l:List cP):oT nm (je l 0)=(hI nm l).isSome:=(J4 nm l<|.bool false).2
variable {aU:List UInt8}
def NG (h:(hI aU bq).isSome=true):hI aU bq=some (xM aU bq):=by
 unfold xM
 cases a:hI aU bq with
 | none=>rw [a] at h; cases h
 | some x=>rfl
def NH (h:(hI aU bq).isSome=false):hI aU bq=none:=by
 cases a:hI aU bq with
 | none=>rfl
 | some x=>rw [a] at h; cases h
variable {eW:hH}
def V3 (h:idxOf aU eW.aC 0=some Z):gI eW [] aU=some (-1,E_ Z):=by rw [gI,ZZ rfl,h]
def zk (h:idxOf aU eW.aC 0=none):gI eW [] aU=(hI aU eW.own).map λx=>(0,x):=by rw [gI,ZZ rfl,h]
variable {dG:List UInt8}
def NI (h:¬aU=[]) (a:eW.aA.Nodup) (b:eW.aA.length=eW.gC.length)   (c:idxOf aU eW.aA 0=some Z) (d:eW.gC[Z]? = some bq):gI eW aU dG=(hI dG bq).map λx=>(((Z+1:Nat):Int),x):=by
 rw [gI,ZX h,J8 a b,c];simp [d]
def V4 (h:¬aU=[]) (a:idxOf aU eW.aA 0=none):gI eW aU dG=none:=by
 rw [gI,ZX h,Fk (sj.1 a)]
def Ha:∀{us:List (List UInt8)} {fs:List (List cP)} {s:Nat} {m:Int} {x:cP},kS aU dG us fs s=some (m,x)->0<=m
 | [],_,_,_,_,h=>by simp [kS] at h
 | u::us,[],_,_,_,h=>by simp [kS] at h
 | u::us,f::fs,s,m,x,h=>by
   rw [kS] at h
   split at h
   · split at h
     · injection h with h; injection h with a b; omega
     · exact Ha h
   · exact Ha h
variable {aH:Int}
def eK (h:gI eW aU dG=some (aH,et)):aH = -1\/0<=aH:=by
 unfold gI at h
 split at h
 · split at h
   · injection h with h; injection h with a c; exact .inl a.symm
   · cases b:hI dG eW.own with
     | none=>rw [b] at h; cases h
     | some y=>rw [b] at h; injection h with h; injection h with a c; right; omega
 · exact .inr<|Ha h
def jY (a:hH) (mod nm:List UInt8) (kind args:Int):Int:=match gI a mod nm with
 | none=>5
 | some (m,it)=>if ¬(0<=m/\it.kind=kind) then 7 else if kind=4/\¬it.n=args then 8 else 0
variable {bQ:Int}
def zZ (h:gI eW aU dG=none):jY eW aU dG aH bQ=5:=by unfold jY; rw [h]
def s5 {kind args m:Int}  (h:gI eW aU dG=some (m,et)):jY eW aU dG kind args=if ¬(0<=m/\et.kind=kind) then 7 else if kind=4/\¬et.n=args then 8 else 0:=by unfold jY; rw [h]
def Hb (g:View) (h:Nat) (b:hH) (k:Nat):Prop:=∀(f:View) (l:List bT) (a:Option Addr) (c:Nat) (w:World),Le g w->Le f w->Sl (js k) 5 f a c l->Z_ l<=109951162777->
 Calls prog 224 #[.pointer (some ⟨h,0,none⟩),.slice a l.length c] w λe d=>(∃r:SP,e = .returned (.slice r.1 (hK b l).length r.2)/\Ext w d/\ir b l=0/\Sl (ie<|k+1) 5 (nv w d) r.1 r.2 (hK b l))\/(∃_:Unit,e = .panicked (iS<|ir b l)/\Ext w d/\ir b l≠0)
def V5:gX prog 116=some [(0,1)]:=ab
def C5:zeroOf prog 116=some (.agg #[.int .i64 0]):=ab
def V6:prog.concrete 116=true:=ab
def z0:au prog 127 3=some 3:=ab
def V7:au prog 127 0=some 0:=ab
def NJ:au prog 127 1=some 1:=ab
def v4:au prog 127 2=some 2:=ab
def V8:aat prog 125=some 1:=ab
def s6 (b:Bool) (n:Int) (w:World) :
   Calls prog 58 #[.bool b,.int .i64 n] w λe a=>(∃_:Unit,e = .returned (.tuple #[])/\Ext w a/\b=true)\/(∃_:Unit,e = .panicked (iS n)/\Ext w a/\b=false):=by
 refine enter func58 O 9 O O ?_;refine CE (Vs:=[]) (Ws.init ai)<|ae<|ac O<|I (gW O)<|ad ?_;refine Cc O (λc=>?_)<|λc=>?_
 ·refine Cr<|ac O<|I (Yb C5 V5 O O)<|I (pB V6 O) ?_;refine WL.panic Y O ?_;refine bE λa d=>?_;exact .inr ⟨(),O,d.fr,by simpa using c⟩
 refine Ck ?_;refine E0 O λa d=>?_;exact .inl ⟨(),O,d.fr,by simpa using c⟩
def Hd (n:View) (t:Nat) (b:hH) (w:World) (x:Le n w) (y:fq n t b) (mod nm:List UInt8) :
   Calls prog 222 #[.pointer (some ⟨t,0,none⟩),st mod,st nm] w λe c=>(∃i:Int×cP,e = .returned (.tuple #[.int .i64 i.1,.agg i.2.cells.toArray])/\Ext w c/\gI b mod nm=some i)\/(∃_:Unit,e = .panicked (iS 5)/\Ext w c/\gI b mod nm=none):=by
 obtain ⟨⟨P,Q,fa,fc,lb,⟨z,A,B,C⟩,D,E,o,F⟩,u,v,e8⟩:=y;refine enter func222 O 65 O O ?_;refine CE (Vs:=[n]) (Ws.init (by simp [x]))<|ae<|ag O ?_;refine Al Y O bx λR=>?_;refine ad<|Cs<|ae<|ac O<|I (yn O O)<|ad ?_;refine Cc O (λp=>?_)<|λp=>?_
 ·obtain rfl:mod=[]:=by simpa using p
  refine Cs<|ae<|ac O<|I (bw O)<|I (Yf z0 O)<|I (eQ 0 ab O O<|C)<|ac O<|I (JX 0 O iW iC ab l8 O O<|F) ?_;rw [G9];refine ag O<|ad<|ae<|ac O<|I (eh O O)<|ad ?_;refine Cc O (λq=>?_)<|λq=>?_
  ·obtain ⟨k,g,m,G⟩:=G' (nm:=nm) (l:=b.aC) (by simpa using q);refine ae<|ac O<|I (py (k:Int) O O (by rw [m]; omega) (by omega))<|I (Yb bx vY O O)<|ag O<|aT 0 Y O O O mI O O O<|ad<|am<|Er<|Er ?_;refine WE.aau (hV O (j6 O)<|eM 0 O O m7 O) λc a=>?_;exact .inl ⟨(-1,E_ k),O,a.fr,V3 g⟩
  have g:=G_ (nm:=nm) (l:=b.aC) (by simpa using q);refine bW<|ae<|ac O<|I (bw O)<|I (Yf V7 O)<|I (eQ 0 ab O O<|z)<|ac O<|I (JY 0 O iW G7 ab bx O O<|D) ?_;rw [NE,NF];refine ac O<|I (Yx O O)<|I (Yx O O) ?_;refine Al Y O bx λS=>?_;refine aT 0 Y O O O mI O O O<|ag O<|ad<|ae<|ac O ?_;refine WL.mU (ι:=Unit) (κ:=Unit) Y O aF O (λ_=>.tuple #[]) (λ_=>(hI nm b.own).isSome=true) (λ_=>iS 5) (λ_=>(hI nm b.own).isSome=false) (λw a=>s6 _ _ w) ?_ ?_
  ·intro _ j;refine Ep<|Ep ?_;refine bE λc a=>?_;exact .inr ⟨(),O,a.fr,by rw [zk g,NH j]; rfl⟩
  intro _ H;refine ad<|Cs ?_;refine WC.n0 1 [(0,true),(1,true),(2,false)] mixed (by kernel_rfl) (λ_ _ _ d _ h=>by cases d<;>exact h) ?_;refine D0 O (Wp 1) (db 0 O O m7 O)<|D0 O (Wp 1) (Ya O) ?_;refine De O (Wp 1) ?_;refine aT 1 Y O O O mI O O O<|Ln<|Ed ?_;refine WD.nil (Wp 1) ?_;refine Et<|am<|Er ?_;refine WE.aau (hV O (j6 O)<|eM 1 O O m7 O) λc a=>?_;exact .inl ⟨(0,xM nm b.own),O,a.fr,by rw [zk g,NG H]; rfl⟩
 have r:¬mod=[]:=by simpa using p
 refine bW<|ae<|ac O<|I (bw O)<|I (Yf NJ O)<|I (eQ 0 ab O O<|A)<|ac O<|I (JX 0 O iW iC ab l8 O O<|E) ?_;rw [G9];refine ag O<|ad<|ae<|ac O<|I (eh O O) ?_;refine WL.mU (ι:=Unit) (κ:=Unit) Y O aF O (λ_=>.tuple #[]) (λ_=>decide (0<m8 mod b.aA)=true) (λ_=>iS 5) (λ_=>decide (0<m8 mod b.aA)=false) (λw a=>s6 _ _ w) ?_ ?_
 ·intro _ j;refine Ep ?_;refine bE λc a=>?_;exact .inr ⟨(),O,a.fr,V4 r<|G_ (by simpa using j)⟩
 intro _ J;obtain ⟨k,g,m,G⟩:=G' (nm:=mod) (l:=b.aA) (by simpa using J);obtain ⟨f,s⟩:∃f,b.gC[k]? = some f:=⟨_,c6 (by omega)⟩;obtain ⟨pb,T,K,U,L,M⟩:=o.b5 k f s;have V:=o.cap;have W:=o.max;refine ad<|ae<|ac O<|I (bw O)<|I (Yf v4 O)<|I (eQ 0 ab O O<|B)<|ac O<|I (py (k:Int) O O (by rw [m]; omega) (by omega))<|I (Yo V8 O O K (by omega)) ?_;refine I (eQ 0 ab O O<|L)<|ac O<|I (JY 0 O iW G7 ab bx O O<|M) ?_;rw [NE,NF];refine ac O<|I (Yx O O)<|I (Yx O O) ?_;refine Al Y O bx λX=>?_;refine aT 0 Y O O O mI O O O<|ag O<|ad<|ae<|ac O ?_;refine WL.mU (ι:=Unit) (κ:=Unit) Y O aF O (λ_=>.tuple #[]) (λ_=>(hI nm f).isSome=true) (λ_=>iS 5) (λ_=>(hI nm f).isSome=false) (λw a=>s6 _ _ w) ?_ ?_
 ·intro _ j;refine Ep ?_;refine bE λc a=>?_;exact .inr ⟨(),O,a.fr,by rw [NI r u v g s,NH j]; rfl⟩
 intro _ N;refine ad<|Cs ?_;refine WC.n0 1 [(0,true),(1,true),(2,true),(3,false)] mixed (by kernel_rfl) (λ_ _ _ d _ h=>by cases d<;>exact h) ?_;refine D0 O (Wp 1) (Ym O)<|D0 O (Wp 1) (db 0 O O m7 O)<|D0 O (Wp 1) (Ya O) ?_;refine De O (Wp 1) ?_;refine aT 1 Y O O O mI O O O<|Ln<|Ed ?_;refine WD.nil (Wp 1) ?_;refine Et<|am ?_;refine WE.aau (hV O (j6 O)<|eM 1 O O m7 O) λc a=>?_;rw [m] at *;exact .inl ⟨(((k+1:Nat):Int),xM nm f),O,a.fr,by rw [NI r u v g s,NG N]; rfl⟩
def V9 {n m:Int}   {len:Nat} (h:gI eW aU dG=some (m,et)):dy eW 3 n aU dG len=if m = -1 then ⟨16,n,0,et.pl,0⟩ else if et.kind=1 then ⟨1,et.n,0,0,0⟩ else if et.kind=2 then ⟨3,n,m,et.pl,0⟩ else ⟨3,n,0,0,7⟩:=by
 unfold dy;rw [ZZ a8,h];simp
def He (a:aH=3\/aH=4\/aH=5) (h:gI eW aU dG=none):dy eW aH bQ aU dG Z=⟨aH,bQ,0,0,5⟩:=by
 unfold dy;rw [ZZ (by unfold aX; simp; omega),h]
def V' (a:¬aH=3) (b:¬aH=4) (c:¬aH=5):dy eW aH bQ aU dG Z=⟨aH,bQ,0,0,0⟩:=by
 unfold dy;rw [ZX (by unfold aX; simp; omega)]
def V_ (h:jY eW aU dG 3 0≠0):(dy eW 4 aH aU dG Z).e=jY eW aU dG 3 0:=by
 cases a:gI eW aU dG with
 | none=>rw [He ai a,zZ a]
 | some i=>
   obtain ⟨m,it⟩:=i;have d:=eK a;rw [s5 a] at h ⊢;unfold dy;rw [ZZ a8,a]
   by_cases b:m = -1
   · simp [b]
   · by_cases c:it.kind=3
     · exact absurd (by rw [ZX aa,ZX aa]) h
     · simp [b,c]
def Wa (a:gI eW aU dG=some (bQ,et)) (h:jY eW aU dG 3 0=0):dy eW 4 aH aU dG Z=⟨4,et.n,bQ,et.pl,0⟩:=by
 rw [s5 a] at h;have d:=eK a
 have c:0<=bQ/\et.kind=3:=by
   by_cases b:0<=bQ/\et.kind=3
   · exact b
   · rw [ZZ b] at h; cases h
 unfold dy;rw [ZZ a8,a];simp [c.2,show ¬bQ = -1 by omega]
def Wb {len:Nat} (h:jY eW aU dG 4 (len:Int)≠0):(dy eW 5 aH aU dG len).e=jY eW aU dG 4 (len:Int):=by
 cases a:gI eW aU dG with
 | none=>rw [He ai a,zZ a]
 | some i=>
   obtain ⟨m,it⟩:=i;have f:=eK a;rw [s5 a] at h ⊢;unfold dy;rw [ZZ a8,a]
   by_cases b:m = -1
   · simp [b]
   · by_cases c:it.kind=4
     · by_cases d:it.n=(len:Int)
       · exact absurd (by rw [ZX aa,ZX aa]) h
       · simp [b,c,d,show 0<=m by omega]
     · simp [b,c]
def Wc {len:Nat} (b:gI eW aU dG=some (bQ,et)) (h:jY eW aU dG 4 (len:Int)=0):dy eW 5 aH aU dG len=⟨5,aH,bQ,et.pl,0⟩:=by
 rw [s5 b] at h;have e:=eK b
 have c:0<=bQ/\et.kind=4:=by
   by_cases a:0<=bQ/\et.kind=4
   · exact a
   · rw [ZZ a] at h; cases h
 have d:et.n=(len:Int):=by
   rw [ZX (λa=>a c)] at h
   by_cases a:et.n=(len:Int)
   · exact a
   · rw [ZZ ⟨rfl,a⟩] at h; cases h
 unfold dy;rw [ZZ a8,b];simp [c.2,d,show ¬bQ = -1 by omega]
def Hf (a:aH=1\/aH=2\/aH=3) (h:gI eW aU dG=none):dJ eW aH aU dG Z=⟨aH,0,0,0,5⟩:=by
 unfold dJ;rw [ZZ (by unfold aX; simp; omega),h]
def P6 (a:¬aH=1) (b:¬aH=2) (c:¬aH=3):dJ eW aH aU dG Z=⟨aH,0,0,0,0⟩:=by
 unfold dJ;rw [ZX (by unfold aX; simp; omega)]
def We {len:Nat} (h:gI eW aU dG=some (aH,et)):dJ eW 1 aU dG len=if aH = -1\/et.kind=2 then ⟨1,0,aH,et.pl,0⟩ else ⟨1,0,0,0,7⟩:=by
 unfold dJ;rw [ZZ a8,h]
 by_cases a:aH = -1\/et.kind=2
 · simp [a]
 · simp [a,show ¬aH = -1 from λe=>a<|.inl e]
def P_ (h:jY eW aU dG 3 0≠0):(dJ eW 2 aU dG Z).e=jY eW aU dG 3 0:=by
 cases a:gI eW aU dG with
 | none=>rw [Hf ai a,zZ a]
 | some i=>
   obtain ⟨m,it⟩:=i;have d:=eK a;rw [s5 a] at h ⊢;unfold dJ;rw [ZZ a8,a]
   by_cases b:m = -1
   · simp [b]
   · by_cases c:it.kind=3
     · exact absurd (by rw [ZX aa,ZX aa]) h
     · simp [b,c]
def Wg (a:gI eW aU dG=some (aH,et)) (h:jY eW aU dG 3 0=0):dJ eW 2 aU dG Z=⟨2,et.n,aH,et.pl,0⟩:=by
 rw [s5 a] at h;have d:=eK a
 have c:0<=aH/\et.kind=3:=by
   by_cases b:0<=aH/\et.kind=3
   · exact b
   · rw [ZZ b] at h; cases h
 unfold dJ;rw [ZZ a8,a];simp [c.2,show ¬aH = -1 by omega]
def Wh {len:Nat} (h:jY eW aU dG 4 (len:Int)≠0):(dJ eW 3 aU dG len).e=jY eW aU dG 4 (len:Int):=by
 cases a:gI eW aU dG with
 | none=>rw [Hf ai a,zZ a]
 | some i=>
   obtain ⟨m,it⟩:=i;have f:=eK a;rw [s5 a] at h ⊢;unfold dJ;rw [ZZ a8,a]
   by_cases b:m = -1
   · simp [b]
   · by_cases c:it.kind=4
     · by_cases d:it.n=(len:Int)
       · exact absurd (by rw [ZX aa,ZX aa]) h
       · simp [b,c,d,show 0<=m by omega]
     · simp [b,c]
def Qa {len:Nat} (b:gI eW aU dG=some (aH,et)) (h:jY eW aU dG 4 (len:Int)=0):dJ eW 3 aU dG len=⟨3,0,aH,et.pl,0⟩:=by
 rw [s5 b] at h;have e:=eK b
 have c:0<=aH/\et.kind=4:=by
   by_cases a:0<=aH/\et.kind=4
   · exact a
   · rw [ZZ a] at h; cases h
 have d:et.n=(len:Int):=by
   rw [ZX (λa=>a c)] at h
   by_cases a:et.n=(len:Int)
   · exact a
   · rw [ZZ ⟨rfl,a⟩] at h; cases h
 unfold dJ;rw [ZZ a8,b];simp [c.2,d,show ¬aH = -1 by omega]
structure GX (X:Type) where
 i:Nat
 es:List X
 a:Option Addr
 c:Nat
 J:View
def xN:zeroOf prog 53=some (.agg #[.int .i64 0,.int .i64 0,.int .i64 0,.int .i64 0,.slice none 0 0]):=ab
def Wj:gX prog 53=some [(0,1),(1,1),(2,1),(3,1),(4,1)]:=ab
def z1:aJ prog 53=some 5:=ab
def pn:au prog 53 0=some 0:=ab
def k8:au prog 53 3=some 3:=ab
def m9:au prog 53 1=some 1:=ab
def mJ:au prog 53 2=some 2:=ab
def lC:au prog 53 4=some 4:=ab
def NK:aJ prog 49=some 1:=ab
def gS:hr prog 53=some 5:=ab
def C6 (k:View) (l:Nat) (c:hH) (w:World) (t:Le k w) (u:fq k l c) (mod nm:List UInt8) (kind args:Int) :
   Calls prog 223 #[.pointer (some ⟨l,0,none⟩),st mod,st nm,.int .i64 kind,.int .i64 args] w λe f=>(∃i:Int×cP,e = .returned (.tuple #[.int .i64 i.1,.agg i.2.cells.toArray])/\Ext w f/\gI c mod nm=some i/\jY c mod nm kind args=0)\/(∃_:Unit,e = .panicked (iS<|jY c mod nm kind args)/\Ext w f/\jY c mod nm kind args≠0):=by
 refine enter func223 O 41 O O ?_;refine CE (Vs:=[k]) (Ws.init (by simp [t]))<|ae<|ag O ?_;refine Al Y O bx λz=>?_;refine ad<|ae<|ac O<|ac O<|ac O ?_;refine WL.mU Y O aF O _ _ _ _ (λw a=>Hd k l c w a.V u mod nm) ?_ ?_
 ·intro _ g;refine Ep ?_;refine bE λf a=>?_;rw [zZ g];exact .inr ⟨(),O,a.fr,a8⟩
 intro ⟨m,j⟩ s;have b:=s5 (kind:=kind) (args:=args) s;refine ac O<|I (Yx O O)<|I (Yx O O) ?_;refine Al Y O bx λA=>?_;refine ag O<|aT 0 Y O O O mI O O O<|ad<|ae<|ac O<|I (hS O O)<|ac O ?_;apply La 4 O O O O Y O O O O O
 ·intro B;refine Vg (Yf zX O)<|Vg (Yd 0 O O O ab)<|Vg (Ym O)<|Vg (bz O O) ?_;exact Gt 4 O O O
 refine WL.mU (ι:=Unit) (κ:=Unit) Y O aF O (λ_=>.tuple #[]) (λ_=>_=true) (λ_=>iS _) (λ_=>_=false) (λw a=>s6 _ _ w) ?_ ?_
 ·intro _ g;refine Ep ?_;refine bE λf a=>?_
  have o:¬(0<=m/\j.kind=kind):=by rintro ⟨p,q⟩; simp [p,q] at g
  rw [ZZ o] at b;rw [b];exact .inr ⟨(),O,a.fr,a8⟩
 intro _ v
 have o:0<=m/\j.kind=kind:=by simpa using v
 rw [ZX (λx=>x o)] at b;refine ad<|ae<|ac O<|I (h9 O O)<|ac O ?_;apply Lo 4 O O O O Y O O O O O
 ·intro C;refine Vg (Yf p7 O)<|Vg (Yd 0 O O O ab)<|Vg (Ym O)<|Vg (bz O O) ?_;exact Gt 4 O O O
 refine WL.mU (ι:=Unit) (κ:=Unit) Y O aF O (λ_=>.tuple #[]) (λ_=>_=true) (λ_=>iS _) (λ_=>_=false) (λw a=>s6 _ _ w) ?_ ?_
 ·intro _ g;refine Ep ?_;refine bE λf a=>?_
  have r:kind=4/\¬j.n=args:=by simpa using g
  rw [ZZ r] at b;rw [b];exact .inr ⟨(),O,a.fr,a8⟩
 intro _ y;refine ad<|Cs ?_;refine WC.n0 1 [(0,true),(1,true),(2,true),(3,false)] mixed ab (λ_ _ _ d _ h=>by cases d<;>exact h) ?_;refine D0 O (Wp 1) (Ym O)<|D0 O (Wp 1) (db 0 O O m7 O)<|D0 O (Wp 1) (Ya O) ?_;refine De O (Wp 1) ?_;refine aT 1 Y O O O mI O O O<|Ln<|Ed ?_;refine WD.nil (Wp 1) ?_;refine Et<|am ?_;refine WE.aau (hV O (j6 O)<|eM 1 O O m7 O) λf a=>?_
 have r:¬(kind=4/\¬j.n=args):=by rintro ⟨p,q⟩; simp [p,q] at y
 rw [ZX r] at b;exact .inl ⟨(m,j),O,a.fr,s,b⟩
def Wk (o u:View) (s:Nat) (b:hH) (k:Nat) (x:bT) (a:Option Addr) (c:Nat) (w:World) (Q:Le o w) (R:Le u w) (v:fq o s b) (hN:Hb o s b k) (y:Sl (js k) 5 u a c x.args) (aw:wE x<=109951162777) :
   Calls prog 268 #[.pointer (some ⟨s,0,none⟩),.agg (u9 x a c).toArray] w λe j=>(∃r:SP,e = .returned (.agg (mo (og b x) r.1 r.2).toArray)/\Ext w j/\ka b x=0/\rk (k+1) (nv w j) (og b x,r))\/(∃_:Unit,e = .panicked (iS<|ka b x)/\Ext w j/\ka b x≠0):=by
 have ax:=Jp x;have ay:=y.cap;have az:=y.max;refine enter func268 O 98 O O ?_;refine CE (Vs:=[u,o]) (Ws.init (by simp [R,Q]))<|ae ?_;refine WL.box Y O O λJ=>?_;refine Al Y O xN λK=>?_;refine ad<|ae<|I (Yf vL O)<|I (Yd 1 O O O ab)<|I (Yf CQ O)<|I (Yd 1 O O O ab)<|I (Yb xN Wj O O) ?_;refine Al Y O xN λL=>?_;refine aT 0 Y O O O z1 O O O<|ad ?_;refine WC.yG (ι:=Unit) (λ_u=>[(0,.pointer (some ⟨s,0,none⟩)),(3,.pointer (some ⟨J,0,none⟩)),(4,.pointer (some ⟨K,0,none⟩)),(5,.pointer (some ⟨L,0,none⟩))]) (λ_u=>Ws w [] [aq L (.cells #[.int .i64 (dy b x.op x.n x.mod x.nm x.args.length).op,.int .i64 (dy b x.op x.n x.mod x.nm x.args.length).n,.int .i64 (dy b x.op x.n x.mod x.nm x.args.length).m,.int .i64 (dy b x.op x.n x.mod x.nm x.args.length).pl,.slice none 0 0] 53 (0,0)),aq K (.cells #[.int .i64 0,.int .i64 0,.int .i64 0,.int .i64 0,.slice none 0 0] 53 (0,0)),aq J (.cells (u9 x a c).toArray 239 (0,0))] [u,o]) (λ_u=>(dy b x.op x.n x.mod x.nm x.args.length).e=0) ?_ ?_
 ·refine ae<|I (Yf vL O)<|I (Yd 2 O O O ab)<|ad<|Cb<|ae<|I (bz O O)<|ag O<|ad ?_;refine Cc O (λz=>?_)<|λz=>?_
  ·have p:x.op=3:=by simpa using z
   refine ae<|ac O<|I (Yf CO O)<|I (Yd 2 O O O ab)<|I (Yf CP O)<|I (Yd 2 O O O ab) ?_;refine WL.mU Y O aF O _ _ _ _ (λw f=>Hd o s b w f.V v x.mod x.nm) ?_ ?_
   ·intro _ i;refine Ep<|WE.bS<|Ep ?_;refine bE λj f=>?_
    have l:ka b x=5:=by rw [tJ,He aa i]; rfl
    rw [l];exact .inr ⟨(),O,f.fr,a8⟩
   intro ⟨A,t⟩ M;have q:=V9 (n:=x.n) (len:=x.args.length) M;have aA:=eK M;rw [<-p] at q;refine ac O<|I (Yx O O)<|I (Yx O O) ?_;refine Al Y O bx λaB=>?_;refine ag O<|aT 0 Y O O O mI O O O<|ad<|Cb<|ae<|ac O<|I (cI O O)<|ag O<|ad ?_;refine Cc O (λB=>?_)<|λB=>?_
   ·have C:A = -1:=by simp at B; omega
    have g:(dy b x.op x.n x.mod x.nm x.args.length)=⟨16,x.n,0,t.pl,0⟩:=by rw [q,ZZ C]
    refine WC.n0 1 [(0,true),(1,true),(2,true),(3,false),(4,false),(5,false)] mixed ab (λ_ _ _ d _ h=>by cases d<;>exact h) ?_;refine D0 O (Wp 1) (Yf mH O)<|D0 O (Wp 1) (Yd 0 O O O ab)<|D0 O (Wp 1) (Yf pn O) ?_;refine De O (Wp 1) ?_;refine aT 1 Y O O O dL O O O<|Ln<|Ed ?_;refine De O (Wp 1) ?_;refine I (Yf k8 O)<|Ln<|Ed ?_;refine De O (Wp 1) ?_;refine aT 1 Y O O O dL O O O<|Ln<|Ed ?_;refine WD.nil (Wp 1) ?_;refine Eb<|Eb ?_;refine WE.od 1 (.cells #[.int .i64 (dy b x.op x.n x.mod x.nm x.args.length).op,.int .i64 (dy b x.op x.n x.mod x.nm x.args.length).n,.int .i64 (dy b x.op x.n x.mod x.nm x.args.length).m,.int .i64 (dy b x.op x.n x.mod x.nm x.args.length).pl,.slice none 0 0] 53 (0,0)) O (by rw [g]; rfl) ?_
    exact h' () (by rw [g]) (λ_ h=>by
      have h:=h.aj 3 rfl;have h:=h.aj 3 rfl;have h:=h.aj 3 rfl;have h:=Wt 3 h
      exact h)
   have C:¬A = -1:=by simp at B; omega
   rw [ZX C] at q;refine ae<|I (Yf zX O)<|I (Yd 0 O O O ab)<|I (bz O O)<|ag O<|ad ?_;refine Cc O (λD=>?_)<|λD=>?_
   ·have E:t.kind=1:=by simpa using D
    have g:(dy b x.op x.n x.mod x.nm x.args.length)=⟨1,t.n,0,0,0⟩:=by rw [q,ZZ E]
    refine WC.n0 1 [(0,true),(1,true),(2,true),(3,false),(4,false),(5,false)] mixed ab (λ_ _ _ d _ h=>by cases d<;>exact h) ?_;refine D0 O (Wp 1) (Yf p7 O)<|D0 O (Wp 1) (Yd 0 O O O ab)<|D0 O (Wp 1) (Yf pn O) ?_;refine De O (Wp 1) ?_;refine aT 1 Y O O O dL O O O<|Ln<|Ed ?_;refine De O (Wp 1) ?_;refine I (Yf m9 O)<|Ln<|Ed ?_;refine De O (Wp 1) ?_;refine aT 1 Y O O O dL O O O<|Ln<|Ed ?_;refine WD.nil (Wp 1) ?_;refine Eb<|Eb ?_;refine WE.od 1 (.cells #[.int .i64 (dy b x.op x.n x.mod x.nm x.args.length).op,.int .i64 (dy b x.op x.n x.mod x.nm x.args.length).n,.int .i64 (dy b x.op x.n x.mod x.nm x.args.length).m,.int .i64 (dy b x.op x.n x.mod x.nm x.args.length).pl,.slice none 0 0] 53 (0,0)) O (by rw [g]; rfl) ?_
    exact h' () (by rw [g]) (λ_ h=>by
      have h:=h.aj 3 rfl;have h:=h.aj 3 rfl;have h:=h.aj 3 rfl;have h:=Wt 3 h
      exact h)
   have E:¬t.kind=1:=by simpa using D
   rw [ZX E] at q;refine ae<|I (Yf zX O)<|I (Yd 0 O O O ab)<|I (bz O O) ?_;refine WL.mU (ι:=Unit) (κ:=Unit) Y O aF O (λ_=>.tuple #[]) (λ_=>_=true) (λ_=>iS _) (λ_=>_=false) (λw f=>s6 _ _ w) ?_ ?_
   ·intro _ i;refine Ep<|WE.bS<|WE.bS<|Ep ?_;refine bE λj f=>?_
    have F:¬t.kind=2:=by simpa using i
    rw [ZX F] at q
    have l:ka b x=7:=by rw [tJ,q]; rfl
    rw [l];exact .inr ⟨(),O,f.fr,a8⟩
   intro _ S
   have F:t.kind=2:=by simpa using S
   have g:(dy b x.op x.n x.mod x.nm x.args.length)=⟨x.op,x.n,A,t.pl,0⟩:=by rw [q,ZZ F,p]
   refine ad ?_;refine WC.n0 1 [(0,true),(1,true),(2,true),(3,true),(4,false),(5,false),(6,false)] mixed ab (λ_ _ _ d _ h=>by cases d<;>exact h) ?_;refine D0 O (Wp 1) (Ym O)<|D0 O (Wp 1) (Yf mH O)<|D0 O (Wp 1) (Yd 0 O O O ab)<|D0 O (Wp 1) (Yf mJ O) ?_;refine De O (Wp 1) ?_;refine aT 1 Y O O O dL O O O<|Ln<|Ed ?_;refine De O (Wp 1) ?_;refine I (Yf k8 O)<|Ln<|Ed ?_;refine De O (Wp 1) ?_;refine aT 1 Y O O O dL O O O<|Ln<|Ed ?_;refine WD.nil (Wp 1) ?_;refine Eb<|Eb ?_;refine WE.od 1 (.cells #[.int .i64 (dy b x.op x.n x.mod x.nm x.args.length).op,.int .i64 (dy b x.op x.n x.mod x.nm x.args.length).n,.int .i64 (dy b x.op x.n x.mod x.nm x.args.length).m,.int .i64 (dy b x.op x.n x.mod x.nm x.args.length).pl,.slice none 0 0] 53 (0,0)) O (by rw [g]; rfl) ?_
   exact h' () (by rw [g]) (λ_ h=>by
     have h:=h.aj 3 rfl;have h:=h.aj 3 rfl;have h:=h.aj 3 rfl;have h:=Wt 3 h
     exact h)
  have T:¬x.op=3:=by simpa using z
  refine ae<|I (bz O O)<|ag O<|ad ?_;refine Cc O (λG=>?_)<|λG=>?_
  ·have p:x.op=4:=by simpa using G
   refine ae<|ac O<|I (Yf CO O)<|I (Yd 2 O O O ab)<|I (Yf CP O)<|I (Yd 2 O O O ab) ?_;refine WL.mU Y O aF O _ _ _ _ (λw f=>C6 o s b w f.V v x.mod x.nm 3 0) ?_ ?_
   ·intro _ i;refine Ep<|WE.bS<|Ep ?_;refine bE λj f=>?_
    have l:ka b x=jY b x.mod x.nm 3 0:=by rw [tJ,p,V_ i,si i]
    rw [l];exact .inr ⟨(),O,f.fr,i⟩
   intro ⟨U,N⟩ ⟨W,X⟩
   have g:(dy b x.op x.n x.mod x.nm x.args.length)=⟨x.op,N.n,U,N.pl,0⟩:=by rw [p]; exact Wa W X
   refine ac O<|I (Yx O O)<|I (Yx O O) ?_;refine Al Y O bx λaC=>?_;refine ag O<|aT 0 Y O O O mI O O O<|ad ?_;refine WC.n0 1 [(0,true),(1,true),(2,true),(3,true),(4,true),(5,true),(6,false),(7,false),(8,false),(9,false),(10,false)] mixed ab (λ_ _ _ d _ h=>by cases d<;>exact h) ?_;refine D0 O (Wp 1) (Ym O)<|D0 O (Wp 1) (Yf mH O)<|D0 O (Wp 1) (Yd 0 O O O ab)<|D0 O (Wp 1) (Yf p7 O)<|D0 O (Wp 1) (Yd 0 O O O ab)<|D0 O (Wp 1) (Yf mJ O) ?_;refine De O (Wp 1) ?_;refine aT 1 Y O O O dL O O O<|Ln<|Ed ?_;refine De O (Wp 1) ?_;refine I (Yf k8 O)<|Ln<|Ed ?_;refine De O (Wp 1) ?_;refine aT 1 Y O O O dL O O O<|Ln<|Ed ?_;refine De O (Wp 1) ?_;refine I (Yf m9 O)<|Ln<|Ed ?_;refine De O (Wp 1) ?_;refine aT 1 Y O O O dL O O O<|Ln<|Ed ?_;refine WD.nil (Wp 1) ?_;refine Eb ?_;refine WE.od 1 (.cells #[.int .i64 (dy b x.op x.n x.mod x.nm x.args.length).op,.int .i64 (dy b x.op x.n x.mod x.nm x.args.length).n,.int .i64 (dy b x.op x.n x.mod x.nm x.args.length).m,.int .i64 (dy b x.op x.n x.mod x.nm x.args.length).pl,.slice none 0 0] 53 (0,0)) O (by rw [g]; rfl) ?_
   exact h' () (by rw [g]) (λ_ h=>by
     have h:=h.aj 3 rfl;have h:=h.aj 3 rfl;have h:=h.aj 3 rfl;have h:=Wt 3 h
     exact h)
  have Z:¬x.op=4:=by simpa using G
  refine ae<|I (bz O O)<|ag O<|ad ?_;refine Cc O (λH=>?_)<|λH=>?_
  ·have p:x.op=5:=by simpa using H
   refine ae<|ac O<|I (Yf CO O)<|I (Yd 2 O O O ab)<|I (Yf CP O)<|I (Yd 2 O O O ab)<|I (Yf xB O)<|I (Yd 2 O O O ab) ?_;refine I (Yn eC O) ?_;refine WL.mU Y O aF O _ _ _ _ (λw f=>C6 o s b w f.V v x.mod x.nm 4 (x.args.length:Int)) ?_ ?_
   ·intro _ i;refine Ep<|WE.bS<|Ep ?_;refine bE λj f=>?_
    have l:ka b x=jY b x.mod x.nm 4 (x.args.length:Int):=by rw [tJ,p,Wb i,si i]
    rw [l];exact .inr ⟨(),O,f.fr,i⟩
   intro ⟨af,ah⟩ ⟨ak,al⟩
   have g:(dy b x.op x.n x.mod x.nm x.args.length)=⟨x.op,x.n,af,ah.pl,0⟩:=by rw [p]; exact Wc ak al
   refine ac O<|I (Yx O O)<|I (Yx O O) ?_;refine Al Y O bx λaD=>?_;refine ag O<|aT 0 Y O O O mI O O O<|ad ?_;refine WC.n0 1 [(0,true),(1,true),(2,true),(3,true),(4,false),(5,false),(6,false)] mixed ab (λ_ _ _ d _ h=>by cases d<;>exact h) ?_;refine D0 O (Wp 1) (Ym O)<|D0 O (Wp 1) (Yf mH O)<|D0 O (Wp 1) (Yd 0 O O O ab)<|D0 O (Wp 1) (Yf mJ O) ?_;refine De O (Wp 1) ?_;refine aT 1 Y O O O dL O O O<|Ln<|Ed ?_;refine De O (Wp 1) ?_;refine I (Yf k8 O)<|Ln<|Ed ?_;refine De O (Wp 1) ?_;refine aT 1 Y O O O dL O O O<|Ln<|Ed ?_;refine WD.nil (Wp 1) ?_;refine Eb ?_;refine WE.od 1 (.cells #[.int .i64 (dy b x.op x.n x.mod x.nm x.args.length).op,.int .i64 (dy b x.op x.n x.mod x.nm x.args.length).n,.int .i64 (dy b x.op x.n x.mod x.nm x.args.length).m,.int .i64 (dy b x.op x.n x.mod x.nm x.args.length).pl,.slice none 0 0] 53 (0,0)) O (by rw [g]; rfl) ?_
   exact h' () (by rw [g]) (λ_ h=>by
     have h:=h.aj 3 rfl;have h:=h.aj 3 rfl;have h:=h.aj 3 rfl;have h:=Wt 3 h
     exact h)
  have an:¬x.op=5:=by simpa using H
  have g:(dy b x.op x.n x.mod x.nm x.args.length)=⟨x.op,x.n,0,0,0⟩:=V' T Z an;refine Ck<|Eb ?_;refine WE.od 0 (.cells #[.int .i64 (dy b x.op x.n x.mod x.nm x.args.length).op,.int .i64 (dy b x.op x.n x.mod x.nm x.args.length).n,.int .i64 (dy b x.op x.n x.mod x.nm x.args.length).m,.int .i64 (dy b x.op x.n x.mod x.nm x.args.length).pl,.slice none 0 0] 53 (0,0)) O (by rw [g]; rfl) ?_
  exact h' () (by rw [g]) (λ_ h=>by
    have h:=h.aj 2 rfl;have h:=h.aj 2 rfl;have h:=h.aj 2 rfl
    exact h)
 intro _ P;refine ae<|ac O<|I (Yf xB O)<|I (Yd 2 O O O ab) ?_;refine WL.tH (ι:=SP) (κ:=Unit) Y O aF O (λr=>.slice r.1 (hK b x.args).length r.2) (λao r=>ir b x.args=0/\Sl (ie<|k+1) 5 ao r.1 r.2 (hK b x.args)) (λ_=>iS<|ir b x.args) (λ_=>ir b x.args≠0) (λw f=>hN u x.args a c w f.V f.V y aa) ?_ ?_
 ·intro _ i;refine Ep ?_;refine bE λj f=>?_
  have l:ka b x=ir b x.args:=by rw [tJ,P,nt]
  rw [l];exact .inr ⟨(),O,f.fr,i⟩
 intro aE ap ar ⟨au,av⟩;refine I (Yf lC O)<|aT 0 Y O O O NK O O O<|ad<|ae<|I (db 0 O O gS O)<|aT 1 Y O O O z1 O O O<|ad<|am ?_;refine WE.aau (iF O<|eM 1 O O gS O) λj f=>?_;rw [Fa];exact .inl ⟨ap,O,f.fr,by rw [tJ,P,nt,au],BN av<|aG f ai ar⟩
def Wl (g:View) (h:Nat) (b:hH) (ke k:Nat):Prop:=∀(f:View) (l:List b9) (a:Option Addr) (c:Nat) (w:World),Le g w->Le f w->Sl (h_ ke k) 6 f a c l->e2 l<=109951162777->
 Calls prog 61 #[.pointer (some ⟨h,0,none⟩),.slice a l.length c] w λe d=>(∃r:SP,e = .returned (.slice r.1 (ft b l).length r.2)/\Ext w d/\a7 b l=0/\Sl (gG (ke+1)<|k+1) 7 (nv w d) r.1 r.2 (ft b l))\/(∃_:Unit,e = .panicked (iS<|a7 b l)/\Ext w d/\a7 b l≠0)
variable {bB iZ ss:Type}
def z2 {f:bB->iZ} {g:ss->iZ} {es:List bB} {l:List ss}  {x:ss} {e:bB} (h:es.map f=(l.take Z).map g) (a:l[Z]? = some x) (b:f e=g x):(es++[e]).map f=(l.take<|Z+1).map g:=by
 rw [ly a]; simp [h,b]
def z3 {f:bB->iZ} {g:ss->iZ} {es:List bB} {l:List ss}  (h:es.map f=(l.take Z).map g) (hi:Z<=l.length):es.length=Z:=by
 have:=congrArg List.length h
 simpa [wo hi] using this
def z4 {f:bB->iZ} {g:ss->iZ} {es:List bB} {l:List ss}  (h:es.map f=(l.take Z).map g) (hi:Z=l.length):es.map f=l.map g:=by subst hi; simpa using h
def NL:hf prog 49 53 (.agg #[.int .i64 0,.int .i64 0,.int .i64 0,.int .i64 0,.slice none 0 0]) 5 56:=jb ab
def xO:zeroOf prog 51=some (.agg #[.int .i64 0,.int .i64 0,.int .i64 0,.int .i64 0,.slice none 0 0,.slice none 0 0,.slice none 0 0]):=ab
def QE:gX prog 51=some [(0,1),(1,1),(2,1),(3,1),(4,1),(5,1),(6,1)]:=ab
def z5:aJ prog 51=some 7:=ab
def mK:au prog 51 2=some 2:=ab
def cf:au prog 51 3=some 3:=ab
def uj:au prog 51 1=some 1:=ab
def lD:au prog 51 4=some 4:=ab
def v7:au prog 51 5=some 5:=ab
def Hg:aJ prog 35=some 1:=ab
def uk:au prog 51 6=some 6:=ab
def ul:hr prog 51=some 7:=ab
def NM:hf prog 35 51 (.agg #[.int .i64 0,.int .i64 0,.int .i64 0,.int .i64 0,.slice none 0 0,.slice none 0 0,.slice none 0 0]) 7 104:=jb ab
def Wn (j d:View) (o:Nat) (b:hH) (D:fq j o b) (k:Nat) (l:List bT) (a:Option Addr) (c:Nat) (w:World) (E:Le j w) (F:Le d w) (p:Sl (js k) 5 d a c l) (av:Z_ l<=109951162777) :
   Calls prog 224 #[.pointer (some ⟨o,0,none⟩),.slice a l.length c] w λe m=>(∃r:SP,e = .returned (.slice r.1 (hK b l).length r.2)/\Ext w m/\ir b l=0/\Sl (ie<|k+1) 5 (nv w m) r.1 r.2 (hK b l))\/(∃_:Unit,e = .panicked (iS<|ir b l)/\Ext w m/\ir b l≠0):=by
 induction k using Nat.strongRecOn generalizing d l a c w
 rename_i k G;have aw:=p.cap;have ax:=p.max;have ay:=Jt l;refine enter func224 O 22 O O ?_;refine CE (Vs:=[d,j]) (Ws.init (by simp [F,E]))<|ae<|ag O<|ad<|ae<|ag O<|LW (λ_ h=>h.g4 53 5) ?_;refine WL.v0 ?_;refine ad<|Cs<|ae<|ac O<|I (Yn eC O)<|ac O<|ad<|Cb ?_;refine ey (ι:=GX XN) (λg=>[(10,.int .i64 (g.i:Int)),(5,.slice g.a g.es.length g.c)]) [(0,_),(4,_),(8,_),(9,_)] (λg=>Ws w [] [cC 53 5 XN.cells g.a g.c g.es] [g.J,d,j]) (λg=>g.i<=l.length/\g.es.map (·.1)=(l.take g.i).map (og b)/\iY (ka b) (l.take g.i)=0/\(gw w g.J/\Xs (rk k) g.J g.es)) (λg=>l.length-g.i) ⟨0,[],none,0,v0⟩ ⟨di _,O,O,⟨rj w,Xs.nil _⟩⟩ (λ_ h=>by have h:=Ws.aB h (b7:=[v0,d,j]) ai; exact h) ?_;intro g ⟨hi,q,s,⟨v,x⟩⟩;refine ae<|I (cI O O)<|ad<|Cs ?_;refine Cc O (λt=>?_)<|λt=>?_
 ·have H:g.i<l.length:=by simpa using t
  obtain ⟨y,n⟩:=cR H;obtain ⟨az,aA,K,z⟩:=p.b5 g.i y n
  obtain ⟨k2,rfl⟩:∃k2,k=k2+1:=by
    cases k with
    | zero=>exact z.elim
    | succ k2=>exact ⟨k2,rfl⟩
  obtain ⟨L,M,N,P⟩:=z;have aC:=z3 q hi;refine bW<|Cs<|Cb<|ae<|I (Yo eC O O K aa)<|I (dz 1 k6 O O O<|N) ?_;refine Al Y O jX λaD=>?_;refine aT 0 Y O O O nP O O O<|ad<|Cr<|ac O<|ac O<|I (db 0 O O k6 O) ?_;refine WL.tH (ι:=SP) (κ:=Unit) Y O aF O (λr=>.agg (mo (og b y) r.1 r.2).toArray) (λQ r=>ka b y=0/\rk (k2+1) Q (og b y,r)) (λ_=>iS<|ka b y) (λ_=>ka b y≠0) (λw f=>Wk j d o b k2 y L M w f.V f.V D (λd l a c w S T U W=>G k2 aa d l a c w S T U W) P (by have:=Jr n; omega)) ?_ ?_
  ·intro _ A;refine WE.bS<|Ep<|Ep<|WE.bS<|Ep ?_;refine bE λm f=>?_
   have X:ir b l=ka b y:=by rw [Ff,yO (ka b) n s A]
   rw [X];exact .inr ⟨(),O,f.fr,A⟩
  intro aE u Z ⟨ab,af⟩;refine WL.j' λah aj ak al=>?_;refine Lb Y O NL O O O O λaH=>?_;refine dk 0 (.cells (XN.cells (og b y,u)).toArray 53 (0,0)) O (O) ?_;refine LA (((og b y,u):XN)) 2 0 Y O NL O O O O O O aa aa λan ao=>?_;refine ag O<|Ln<|Eb<|Et<|Cr<|I (Yi O O O aa)<|ac O<|Ln ?_;exact c8 (⟨g.i+1,g.es++[(og b y,u)],an,ao,ah⟩:GX XN) (by show _-(g.i+1)<_; omega) ⟨(by show g.i+1<=_; omega),z2 q n O,by show iY (ka b) (l.take<|g.i+1)=0; rw [Fe (ka b) n,s,nt,ab],⟨al _ Z v,Xs.snoc (R:=rk _) (λhv h=>rk.mv hv h) x ak aj af⟩⟩<|λ_ h=>Wd 2 h
 have B:g.i=l.length:=by simp at t; omega
 refine Ce<|Ex<|Ex<|dQ<|Et<|Cs ?_;refine WC.o1 (rd:=JP) 0 O (λ_ ap=>by cases ap) XN.cD dN λaI aq ar=>?_;refine Cr<|ac O<|ag O<|ad<|am ?_;refine R1 O O λm f=>?_
 have au:ir b l=0:=by rw [Ff,<-s,B,gE]
 have C:=z4 q B;rw [<-jJ] at C;rw [<-C];exact .inl ⟨(g.a,g.c),by rw [fu],f.fr,au,QL ar (aG f ai aq) (aG f ai v) x⟩
def QP (b:View) (d:Nat) (e:hH) (f:fq b d e) (k:Nat):Hb b d e k:=by
 intro g l a c w h i j m;exact Wn b g d e f k l a c w h i j m
def QQ (o p:View) (q:Nat) (b:hH) (ke k:Nat) (x:b9) (a:Option Addr) (c:Nat) (a2:Option Addr) (c2:Nat) (a3:Option Addr) (c3:Nat) (w:World) (Q:Le o w) (R:Le p w) (v:fq o q b) (hN:Hb o q b ke) (H:Wl o q b ke k) (y:Sl (js ke) 5 p a c x.args) (S:Sl (h_ ke k) 6 p a2 c2 x.body) (T:Sl (h_ ke k) 6 p a3 c3 x.other) (aD:wS x<=109951162777) :
   Calls prog 131 #[.pointer (some ⟨q,0,none⟩),.agg (u' x a c a2 c2 a3 c3).toArray] w λe j=>(∃r:sg,e = .returned (.agg (de (oh b x) r).toArray)/\Ext w j/\ju b x=0/\pL (ke+1) (k+1) (nv w j) (oh b x,r))\/(∃_:Unit,e = .panicked (iS<|ju b x)/\Ext w j/\ju b x≠0):=by
 have aE:=Jq x;have aH:=y.cap;have aI:=y.max;refine enter func131 O 88 O O ?_;refine CE (Vs:=[p,o]) (Ws.init (by simp [R,Q]))<|ae ?_;refine WL.box Y O O λJ=>?_;refine Al Y O xO λK=>?_;refine ad<|ae<|I (Yf pj O)<|I (Yd 1 O O O ab)<|I (Yb xO QE O O) ?_;refine Al Y O xO λL=>?_;refine aT 0 Y O O O z5 O O O<|ad<|ae ?_;refine Al Y O bx λaJ=>?_;refine ad ?_;refine WC.yG (ι:=Unit) (λ_u=>[(0,.pointer (some ⟨q,0,none⟩)),(3,.pointer (some ⟨J,0,none⟩)),(4,.pointer (some ⟨K,0,none⟩)),(5,.pointer (some ⟨L,0,none⟩))]) (λ_u=>Ws w [] [aq L (.cells #[.int .i64 (dJ b x.op x.mod x.nm x.args.length).op,.int .i64 (dJ b x.op x.mod x.nm x.args.length).n,.int .i64 (dJ b x.op x.mod x.nm x.args.length).m,.int .i64 (dJ b x.op x.mod x.nm x.args.length).pl,.slice none 0 0,.slice none 0 0,.slice none 0 0] 51 (0,0)),aq K (.cells #[.int .i64 0,.int .i64 0,.int .i64 0,.int .i64 0,.slice none 0 0,.slice none 0 0,.slice none 0 0] 51 (0,0)),aq J (.cells (u' x a c a2 c2 a3 c3).toArray 241 (0,0))] [p,o]) (λ_u=>(dJ b x.op x.mod x.nm x.args.length).e=0) ?_ ?_
 ·refine ae<|I (Yf pj O)<|I (Yd 3 O O O ab)<|ad<|Cb<|ae<|I (bz O O)<|ag O<|ad ?_;refine Cc O (λz=>?_)<|λz=>?_
  ·have s:x.op=1:=by simpa using z
   refine ae<|ac O<|I (Yf zF O)<|I (Yd 3 O O O ab)<|I (Yf zG O)<|I (Yd 3 O O O ab) ?_;refine WL.mU Y O aF O _ _ _ _ (λw f=>Hd o q b w f.V v x.mod x.nm) ?_ ?_
   ·intro _ g;refine Ep<|WE.bS<|Ep ?_;refine bE λj f=>?_
    have i:ju b x=5:=by rw [rl,Hf aa g]; rfl
    rw [i];exact .inr ⟨(),O,f.fr,a8⟩
   intro ⟨A,B⟩ M;have C:=We (len:=x.args.length) M;have aK:=eK M;refine ac O<|I (Yx O O)<|I (Yx O O)<|I (Yf mK O)<|aT 1 Y O O O dL O O O<|aT 0 Y O O O mI O O O<|ad<|ae<|I (Yf mK O) ?_;refine I (Yd 1 O O O ab)<|I (cI O O)<|ac O ?_;apply Lo 3 O O O O Y O O O O O
   ·intro aL;refine Vg (Yf zX O)<|Vg (Yd 0 O O O ab)<|Vg (bz O O) ?_;exact Gt 3 O O O
   refine WL.mU (ι:=Unit) (κ:=Unit) Y O aF O (λ_=>.tuple #[]) (λ_=>_=true) (λ_=>iS _) (λ_=>_=false) (λw f=>s6 _ _ w) ?_ ?_
   ·intro _ g;refine Ep<|WE.bS<|Ep ?_;refine bE λj f=>?_
    have D:¬(A = -1\/B.kind=2):=by simp at g; omega
    rw [ZX D] at C
    have i:ju b x=7:=by rw [rl,s,C]; rfl
    rw [i];exact .inr ⟨(),O,f.fr,a8⟩
   intro _ U
   have D:A = -1\/B.kind=2:=by
     simp at U;omega
   have l:(dJ b x.op x.mod x.nm x.args.length)=⟨x.op,0,A,B.pl,0⟩:=by rw [s]; rw [C,ZZ D]
   refine ad<|Cr<|I (Yf mH O)<|I (Yd 0 O O O ab)<|I (Yf cf O)<|aT 1 Y O O O dL O O O<|Ln<|Eb ?_;refine WE.od 1 (.cells #[.int .i64 (dJ b x.op x.mod x.nm x.args.length).op,.int .i64 (dJ b x.op x.mod x.nm x.args.length).n,.int .i64 (dJ b x.op x.mod x.nm x.args.length).m,.int .i64 (dJ b x.op x.mod x.nm x.args.length).pl,.slice none 0 0,.slice none 0 0,.slice none 0 0] 51 (0,0)) O (by rw [l]; rfl) ?_
   exact h' () (by rw [l]) (λ_ h=>by
     have h:=h.aj 3 rfl;have h:=h.aj 3 rfl;have h:=h.aj 3 rfl;have h:=Wt 3 h
     exact h)
  have W:¬x.op=1:=by simpa using z
  refine ae<|I (bz O O)<|ag O<|ad ?_;refine Cc O (λE=>?_)<|λE=>?_
  ·have s:x.op=2:=by simpa using E
   refine ae<|ac O<|I (Yf zF O)<|I (Yd 3 O O O ab)<|I (Yf zG O)<|I (Yd 3 O O O ab) ?_;refine WL.mU Y O aF O _ _ _ _ (λw f=>C6 o q b w f.V v x.mod x.nm 3 0) ?_ ?_
   ·intro _ g;refine Ep<|WE.bS<|Ep ?_;refine bE λj f=>?_
    have i:ju b x=jY b x.mod x.nm 3 0:=by rw [rl,s,P_ g,si g]
    rw [i];exact .inr ⟨(),O,f.fr,g⟩
   intro ⟨X,N⟩ ⟨Z,af⟩
   have l:(dJ b x.op x.mod x.nm x.args.length)=⟨x.op,N.n,X,N.pl,0⟩:=by rw [s]; exact Wg Z af
   refine ac O<|I (Yx O O)<|I (Yx O O)<|I (Yf mK O)<|aT 1 Y O O O dL O O O<|aT 0 Y O O O mI O O O<|ad ?_;refine WC.n0 1 [(0,true),(1,true),(2,true),(3,true),(4,true),(5,false),(6,false),(7,false)] mixed ab (λ_ _ _ d _ h=>by cases d<;>exact h) ?_;refine D0 O (Wp 1) (Yf mH O)<|D0 O (Wp 1) (Yd 0 O O O ab)<|D0 O (Wp 1) (Yf p7 O)<|D0 O (Wp 1) (Yd 0 O O O ab)<|D0 O (Wp 1) (Yf cf O) ?_;refine De O (Wp 1) ?_;refine aT 1 Y O O O dL O O O<|Ln<|Ed ?_;refine De O (Wp 1) ?_;refine I (Yf uj O)<|Ln<|Ed ?_;refine De O (Wp 1) ?_;refine aT 1 Y O O O dL O O O<|Ln<|Ed ?_;refine WD.nil (Wp 1) ?_;refine Eb ?_;refine WE.od 1 (.cells #[.int .i64 (dJ b x.op x.mod x.nm x.args.length).op,.int .i64 (dJ b x.op x.mod x.nm x.args.length).n,.int .i64 (dJ b x.op x.mod x.nm x.args.length).m,.int .i64 (dJ b x.op x.mod x.nm x.args.length).pl,.slice none 0 0,.slice none 0 0,.slice none 0 0] 51 (0,0)) O (by rw [l]; rfl) ?_
   exact h' () (by rw [l]) (λ_ h=>by
     have h:=h.aj 3 rfl;have h:=h.aj 3 rfl;have h:=h.aj 3 rfl;have h:=Wt 3 h
     exact h)
  have ah:¬x.op=2:=by simpa using E
  refine ae<|I (bz O O)<|ag O<|ad ?_;refine Cc O (λF=>?_)<|λF=>?_
  ·have s:x.op=3:=by simpa using F
   refine ae<|ac O<|I (Yf zF O)<|I (Yd 3 O O O ab)<|I (Yf zG O)<|I (Yd 3 O O O ab)<|I (Yf p1 O)<|I (Yd 3 O O O ab) ?_;refine I (Yn eC O) ?_;refine WL.mU Y O aF O _ _ _ _ (λw f=>C6 o q b w f.V v x.mod x.nm 4 (x.args.length:Int)) ?_ ?_
   ·intro _ g;refine Ep<|WE.bS<|Ep ?_;refine bE λj f=>?_
    have i:ju b x=jY b x.mod x.nm 4 (x.args.length:Int):=by rw [rl,s,Wh g,si g]
    rw [i];exact .inr ⟨(),O,f.fr,g⟩
   intro ⟨ak,al⟩ ⟨an,ao⟩
   have l:(dJ b x.op x.mod x.nm x.args.length)=⟨x.op,0,ak,al.pl,0⟩:=by rw [s]; exact Qa an ao
   refine ac O<|I (Yx O O)<|I (Yx O O)<|I (Yf mK O)<|aT 1 Y O O O dL O O O<|aT 0 Y O O O mI O O O<|ad<|Cr<|I (Yf mH O) ?_;refine I (Yd 0 O O O ab)<|I (Yf cf O)<|aT 1 Y O O O dL O O O<|Ln<|Eb ?_;refine WE.od 1 (.cells #[.int .i64 (dJ b x.op x.mod x.nm x.args.length).op,.int .i64 (dJ b x.op x.mod x.nm x.args.length).n,.int .i64 (dJ b x.op x.mod x.nm x.args.length).m,.int .i64 (dJ b x.op x.mod x.nm x.args.length).pl,.slice none 0 0,.slice none 0 0,.slice none 0 0] 51 (0,0)) O (by rw [l]; rfl) ?_
   exact h' () (by rw [l]) (λ_ h=>by
     have h:=h.aj 3 rfl;have h:=h.aj 3 rfl;have h:=h.aj 3 rfl;have h:=Wt 3 h
     exact h)
  have ap:¬x.op=3:=by simpa using F
  have l:(dJ b x.op x.mod x.nm x.args.length)=⟨x.op,0,0,0,0⟩:=P6 W ah ap;refine Ck<|Eb ?_;refine WE.od 1 (.cells #[.int .i64 (dJ b x.op x.mod x.nm x.args.length).op,.int .i64 (dJ b x.op x.mod x.nm x.args.length).n,.int .i64 (dJ b x.op x.mod x.nm x.args.length).m,.int .i64 (dJ b x.op x.mod x.nm x.args.length).pl,.slice none 0 0,.slice none 0 0,.slice none 0 0] 51 (0,0)) O (by rw [l]; rfl) ?_
  exact h' () (by rw [l]) (λ_ h=>by
    have h:=h.aj 3 rfl;have h:=h.aj 3 rfl;have h:=h.aj 3 rfl;have h:=Wt 3 h
    exact h)
 intro _ u;refine ae<|ac O<|I (Yf p1 O)<|I (Yd 2 O O O ab) ?_;refine WL.tH (ι:=SP) (κ:=Unit) Y O aF O (λr=>.slice r.1 (hK b x.args).length r.2) (λt r=>ir b x.args=0/\Sl (ie<|ke+1) 5 t r.1 r.2 (hK b x.args)) (λ_=>iS<|ir b x.args) (λ_=>ir b x.args≠0) (λw f=>hN p x.args a c w f.V f.V y aa) ?_ ?_
 ·intro _ g;refine Ep ?_;refine bE λj f=>?_
  have i:ju b x=ir b x.args:=by rw [rl,u,nt,si g]
  rw [i];exact .inr ⟨(),O,f.fr,g⟩
 intro aM ar au ⟨G,av⟩;refine I (Yf lD O)<|aT 0 Y O O O NK O O O<|ad<|Cs ?_;refine WC.n0 0 [(0,true),(1,true),(2,true),(4,true),(5,true),(6,true),(3,false),(8,true),(7,false),(9,false),(10,false),(11,false)] mixed ab (λ_ _ _ d _ h=>by cases d<;>exact h) ?_;refine D0 O (Wp 0) (Ym O)<|D0 O (Wp 0) (Yf xD O)<|D0 O (Wp 0) (Yd 1 O O O ab)<|D0 O (Wp 0) (Ym O)<|D0 O (Wp 0) (Yf ud O)<|D0 O (Wp 0) (Yd 1 O O O ab) ?_;refine De O (Wp 0) ?_;refine WL.tH (ι:=SP) (κ:=Unit) Y O aF O (λr=>.slice r.1 (ft b x.body).length r.2) (λt r=>a7 b x.body=0/\Sl (gG (ke+1)<|k+1) 7 t r.1 r.2 (ft b x.body)) (λ_=>iS<|a7 b x.body) (λ_=>a7 b x.body≠0) (λw f=>H p x.body a2 c2 w f.V f.V S aa) ?_ ?_
 ·intro _ g;refine Ep<|Ep ?_;refine bE λj f=>?_
  have i:ju b x=a7 b x.body:=by rw [rl,u,nt,G,nt,si g]
  rw [i];exact .inr ⟨(),O,f.fr,g⟩
 intro aN aw ax ⟨P,ay⟩;refine Ln<|Ed<|D0 O (λ_ h=>(Wv 1 (Wo 0 h):)) (Yf v7 O) ?_;refine De O (λ_ h=>(Wv 1 (Wo 0 h):)) ?_;refine WL.tH (ι:=SP) (κ:=Unit) Y O aF O (λr=>.slice r.1 (ft b x.other).length r.2) (λt r=>a7 b x.other=0/\Sl (gG (ke+1)<|k+1) 7 t r.1 r.2 (ft b x.other)) (λ_=>iS<|a7 b x.other) (λ_=>a7 b x.other≠0) (λw f=>H p x.other a3 c3 w f.V f.V T aa) ?_ ?_
 ·intro _ g;refine Ep<|Ep ?_;refine bE λj f=>?_
  have i:ju b x=a7 b x.other:=by rw [rl,u,nt,G,nt,P,nt]
  rw [i];exact .inr ⟨(),O,f.fr,g⟩
 intro aO az aA ⟨aB,aC⟩;refine Ln<|Ed ?_;refine De O (λ_ h=>(Wv 2 (Wo 0 h):)) ?_;refine aT 0 Y O O O Hg O O O<|Ln<|Ed ?_;refine De O (λ_ h=>(Wv 2 (Wo 0 h):)) ?_;refine I (Yf uk O)<|Ln<|Ed ?_;refine De O (λ_ h=>(Wv 2 (Wo 0 h):)) ?_;refine aT 0 Y O O O Hg O O O<|Ln<|Ed ?_;refine WD.nil (λ_ h=>(Wv 2 (Wo 0 h):)) ?_;refine Et<|ae<|I (db 0 O O ul O)<|aT 1 Y O O O z5 O O O<|ad<|am ?_;refine WE.aau (iF O<|eM 1 O O ul O) λj f=>?_;rw [Fb];exact .inl ⟨⟨ar,aw,az⟩,O,f.fr,by rw [rl,u,G,P,aB]; rfl,BN av<|aG f ai au,tC ay<|aG f ai ax,tC aC<|aG f ai aA⟩
def NN (j d:View) (o:Nat) (b:hH) (ke:Nat) (v:fq j o b) (k:Nat) (l:List b9) (a:Option Addr) (c:Nat) (w:World) (E:Le j w) (F:Le d w) (p:Sl (h_ ke k) 6 d a c l) (aC:e2 l<=109951162777) :
   Calls prog 61 #[.pointer (some ⟨o,0,none⟩),.slice a l.length c] w λe m=>(∃r:SP,e = .returned (.slice r.1 (ft b l).length r.2)/\Ext w m/\a7 b l=0/\Sl (gG (ke+1)<|k+1) 7 (nv w m) r.1 r.2 (ft b l))\/(∃_:Unit,e = .panicked (iS<|a7 b l)/\Ext w m/\a7 b l≠0):=by
 induction k using Nat.strongRecOn generalizing d l a c w
 rename_i k G;have aD:=p.cap;have aE:=p.max;have aH:=Ju l;refine enter func61 O 22 O O ?_;refine CE (Vs:=[d,j]) (Ws.init (by simp [F,E]))<|ae<|ag O<|ad<|ae<|ag O<|LW (λ_ h=>h.g4 51 7) ?_;refine WL.v0 ?_;refine ad<|Cs<|ae<|ac O<|I (Yn qQ O)<|ac O<|ad<|Cb ?_;refine ey (ι:=GX XA) (λg=>[(10,.int .i64 (g.i:Int)),(5,.slice g.a g.es.length g.c)]) [(0,_),(4,_),(8,_),(9,_)] (λg=>Ws w [] [cC 51 7 XA.cells g.a g.c g.es] [g.J,d,j]) (λg=>g.i<=l.length/\g.es.map (·.1)=(l.take g.i).map (oh b)/\iY (ju b) (l.take g.i)=0/\(gw w g.J/\Xs (pL (ke+1) k) g.J g.es)) (λg=>l.length-g.i) ⟨0,[],none,0,v0⟩ ⟨di _,O,O,⟨rj w,Xs.nil _⟩⟩ (λ_ h=>by have h:=Ws.aB h (b7:=[v0,d,j]) ai; exact h) ?_;intro g ⟨hi,q,s,⟨x,z⟩⟩;refine ae<|I (cI O O)<|ad<|Cs ?_;refine Cc O (λt=>?_)<|λt=>?_
 ·have H:g.i<l.length:=by simpa using t
  obtain ⟨y,n⟩:=cR H;obtain ⟨aI,aJ,K,A⟩:=p.b5 g.i y n
  obtain ⟨k2,rfl⟩:∃k2,k=k2+1:=by
    cases k with
    | zero=>exact A.elim
    | succ k2=>exact ⟨k2,rfl⟩
  obtain ⟨L,M,N,P,Q,S,T,U,W,X⟩:=A;have aK:=z3 q hi;refine bW<|Cs<|Cb<|ae<|I (Yo qQ O O K aa)<|I (dz 1 bI O O O<|T) ?_;refine Al Y O sO λaL=>?_;refine aT 0 Y O O O qR O O O<|ad<|Cr<|ac O<|ac O<|I (db 0 O O bI O) ?_;refine WL.tH (ι:=sg) (κ:=Unit) Y O aF O (λr=>.agg (de (oh b y) r).toArray) (λZ r=>ju b y=0/\pL (ke+1) (k2+1) Z (oh b y,r)) (λ_=>iS<|ju b y) (λ_=>ju b y≠0) (λw f=>QQ j d o b ke k2 y L M N P Q S w f.V f.V v (QP j o b v ke) (λd l a c w ab af ah aj=>G k2 aa d l a c w ab af ah aj) U W X (by have:=Js n; omega)) ?_ ?_
  ·intro _ B;refine WE.bS<|Ep<|Ep<|WE.bS<|Ep ?_;refine bE λm f=>?_
   have ak:a7 b l=ju b y:=by rw [Fg,yO (ju b) n s B]
   rw [ak];exact .inr ⟨(),O,f.fr,B⟩
  intro aM u al ⟨an,ao⟩;refine WL.j' λap aq ar au=>?_;refine Lb Y O NM O O O O λaN=>?_;refine dk 0 (.cells (XA.cells (oh b y,u)).toArray 51 (0,0)) O (O) ?_;refine LA (((oh b y,u):XA)) 2 0 Y O NM O O O O O O aa aa λav aw=>?_;refine ag O<|Ln<|Eb<|Et<|Cr<|I (Yi O O O aa)<|ac O<|Ln ?_;exact c8 (⟨g.i+1,g.es++[(oh b y,u)],av,aw,ap⟩:GX XA) (by show _-(g.i+1)<_; omega) ⟨(by show g.i+1<=_; omega),z2 q n O,by show iY (ju b) (l.take<|g.i+1)=0; rw [Fe (ju b) n,s,nt,an],⟨au _ al x,Xs.snoc (R:=pL _ _) (λhv h=>pL.mv hv h) z ar aq ao⟩⟩<|λ_ h=>Wd 2 h
 have C:g.i=l.length:=by simp at t; omega
 refine Ce<|Ex<|Ex<|dQ<|Et<|Cs ?_;refine WC.o1 (rd:=JQ) 0 O (λ_ ax=>by cases ax) XA.cD dN λaO ay az=>?_;refine Cr<|ac O<|ag O<|ad<|am ?_;refine R1 O O λm f=>?_
 have aA:a7 b l=0:=by rw [Fg,<-s,C,gE]
 have D:=z4 q C;rw [<-rm] at D;rw [<-D];exact .inl ⟨(g.a,g.c),by rw [fu],f.fr,aA,QM az (aG f ai ay) (aG f ai x) z⟩
def vB (a:View) (b o:Nat) (e:SP×List Tx):Prop:=vc a b o=some (.slice e.1.1 e.2.length e.1.2)/\Sl rdStr 1 a e.1.1 e.1.2 e.2
def bm (a:List ((Option Addr×Nat)×List Tx)):Nat:=(a.map (·.2.length)).sum
def zp {a:List ((Option Addr×Nat)×List Tx)}  {x:(Option Addr×Nat)×List Tx} (h:a[Z]? = some x):bm (a.take<|Z+1)=bm (a.take Z)+x.2.length:=by
 simp [bm,gV,h]
def zq (a:List ((Option Addr×Nat)×List Tx)) (i:Nat):bm (a.take i)<=bm a:=by
 have e:bm a=bm (a.take i)+bm (a.drop i):=by
   unfold bm;rw [<-n8,<-qi,qg]
 omega
def zr (a:List ((Option Addr×Nat)×List Tx)):(a.flatMap (·.2)).length=bm a:=by simp [bm,Ib]
def C7:aat prog 244=some 1:=ab
def NO:aJ prog 116=some 1:=ab
def C8:gX prog 37=some [(0,1),(1,1),(2,1),(3,1),(4,1)]:=ab
def nT:zeroOf prog 37=some (.agg #[st [],.slice none 0 0,.int .i64 0,.slice none 0 0,.slice none 0 0]):=ab
def Wq:au prog 116 0=some 0:=ab
def nU:aJ prog 37=some 5:=ab
def NP (f:View) (a:Option Addr) (c:Nat) (l:List Tx) (w:World) (k:Le f w) (g:Sl rdStr 1 f a c l) (q:l.length<=1048576) :
   Calls prog 59 #[.slice a l.length c] w λe i=>∃r:SP,e = .returned (.slice r.1 l.length r.2)/\Ext w i/\Sl rdStr 1 (nv w i) r.1 r.2 l:=by
 have s:=g.cap;have t:=g.max;refine enter func59 O 8 O O ?_;refine CE (Vs:=[f]) (Ws.init (by simp [k]))<|ae<|ag O<|ad<|Cs<|ae<|ac O<|I (pq fQ O)<|ad ?_;refine Cc O (λj=>?_)<|λj=>?_
 ·have m:l=[]:=by
    cases l with
    | nil=>rfl
    | cons x r=>obtain ⟨b,o,h,_⟩:=g.b5 0 x rfl; rw [h] at j; cases j
  refine ae<|ag O<|ad<|am<|Er ?_;refine R1 O O λi d=>?_;subst m;exact ⟨(none,0),O,d.fr,Sl.nil⟩
 refine bW<|ae ?_;refine WL.A4 Y O fw O O O λu=>?_;refine WL.yv (size:=1) 0 O (cQ 0) (di _) O ?_;refine WL.yz 0 ([]:List Tx).length (([]:List Tx).flatMap gk) O O O ?_;refine ac O ?_;refine WL.tu (ys:=l) (xs:=[]) 0 (λ_=>f) Y O fw O O O (λw d=>⟨d.vs f ai,g⟩) dN oY No (by simp; omega) (by simp; omega) λn p=>?_;refine ag O<|ad<|am ?_;refine R1 O O λi d=>?_;exact ⟨(n,p),O,d.fr,d.hW 0 O oY dN⟩
def Wr (m:Nat) (w:World) (k:m<=1048576) :
   Calls prog 130 #[.slice none 0 0,.int .i64 (m:Int)] w λe a=>∃r:SP,e = .returned (.slice r.1 ([]:List Tx).length r.2)/\Ws w [] [cC 9 1 gk r.1 r.2 ([]:List Tx)] [] a:=by
 refine enter func130 O 27 O O ?_;refine CE (Vs:=[]) (Ws.init ai)<|ae<|ag O<|ad<|Cs<|ae<|ac O<|I (cI O O)<|ad ?_;refine Cc O (λc=>?_)<|λc=>?_
 ·exfalso
  simp at c;omega
 refine bW<|Cs<|ae<|ac O<|ac O<|I (Bo fQ O)<|ac O<|I (Yn fQ O)<|I (py 0 O O ai aa)<|I (py (m:Int) O O ai aa) ?_;refine ag O<|ad<|ae<|ac O<|I (eh O O)<|ad ?_;refine Cc O (λd=>?_)<|λd=>?_
 ·have g:0<m:=by simp at d; omega
  refine Cr<|ac O<|ac O<|I (Bo fQ O)<|I (ZW 0 fQ O ai O O<|di _)<|ac O ?_;refine WL.I6 m Y O fw lw O O g (by unfold maxLen; omega) aa λh f l n i j=>?_;refine WL.yv (m:=0) (cap:=f) (size:=1) 0 O (di _) i (by rw [j,tf]) ?_;refine WL.yz 0 ([]:List Tx).length (([]:List Tx).flatMap gk) O O ai ?_;refine ac O<|I (Yn fQ O)<|I (ZW ([]:List Tx).length fQ O ai O O<|di _)<|ag O<|ad<|ae<|ac O<|ag O<|ad<|am ?_;refine R1 O O λa b=>?_;exact ⟨(some ⟨h,0,none⟩,f),O,b⟩
 refine bW<|ae<|ac O<|ag O<|ad<|am ?_;refine R1 O O λa b=>?_;exact ⟨(none,0),O,b.g4 9 1⟩
def QR (f:View) (a:Option Addr) (c:Nat) (d:List (SP×List Tx)) (w:World) (z:Le f w) (k:Sl vB 1 f a c d) (A:bm d<=1048576) (H:d.length<=1048576) :
   Calls prog 60 #[.slice a d.length c] w λe l=>∃r:SP,e = .returned (.slice r.1 (d.flatMap (·.2)).length r.2)/\Ext w l/\Sl rdStr 1 (nv w l) r.1 r.2 (d.flatMap (·.2)):=by
 have J:=k.cap;have K:=k.max;refine enter func60 O 36 O O ?_;refine CE (Vs:=[f]) (Ws.init (by simp [z]))<|ae<|ag O<|ad<|ae<|ag O<|ad<|Cs<|ae<|ac O<|I (Yn C7 O) ?_;refine ac O<|ad<|Cb ?_;refine ql (ι:=Nat) (λi=>[(11,.int .i64 (i:Int)),(3,.int .i64 (bm (d.take i):Int))]) [(0,_),(2,_),(9,_),(10,_)] (λi=>i<=d.length) (λi=>d.length-i) 0 (di _) ?_;intro i hi;refine ae<|I (cI O O)<|ad<|Cs ?_;refine Cc O (λn=>?_)<|λn=>?_
 ·have o:i<d.length:=by simpa using n
  obtain ⟨x,h⟩:=cR o;obtain ⟨pb,B,p,q,t⟩:=k.b5 i x h;have u:=zp h;have C:=zq d (i+1);refine bW<|Cs<|Cb<|ae<|I (Yo C7 O O p aa)<|I (eQ 0 ab O O<|q)<|ag O<|ad<|ae<|ac O<|ac O<|I (Yn fQ O) ?_;refine I (q_ (a:=bm (d.take i)) (b:=x.2.length) O O O O aa)<|ag O<|ad<|ae<|ac O<|I (cI O O)<|ad ?_;refine Cc O (λv=>?_)<|λv=>?_
  ·exfalso
   simp at v;omega
  refine Ck<|Eb<|Et<|Cr<|I (Yi O O O aa)<|ac O<|Ln ?_;rw [<-u];exact c8 (i+1) aa aa ay
 have m:i=d.length:=by simp at n; omega
 subst m;rw [gE];refine Ce<|Ex<|Ex<|dQ<|Et<|ae<|ac O ?_;refine Lw (ι:=SP) [] _ Y O aF O O (λr=>.slice r.1 ([]:List Tx).length r.2) (λr=>[cC 9 1 gk r.1 r.2 ([]:List Tx)]) (λ_=>True) [] ai (λw j=>(Wr (bm d) w A).mono λe l ⟨r,D,E⟩=>⟨r,D,trivial,E⟩) ?_;intro y _;refine ag O<|ad<|Cs<|ae<|ac O<|I (Yn C7 O)<|ac O<|ad<|Cb ?_;refine ey (ι:=Nat×Option Addr×Nat) (λg=>[(27,.int .i64 (g.1:Int)),(6,.slice g.2.1 ((d.take g.1).flatMap (·.2)).length g.2.2)]) [(2,_),(25,_),(26,_)] (λg=>Ws w [] [cC 9 1 gk g.2.1 g.2.2 ((d.take g.1).flatMap (·.2))] [f]) (λg=>g.1<=d.length) (λg=>d.length-g.1) (0,y.1,y.2) (di _) ay ?_;intro g hi;refine ae<|I (cI O O)<|ad<|Cs ?_;refine Cc O (λs=>?_)<|λs=>?_
 ·have o:g.1<d.length:=by simpa using s
  obtain ⟨x,h⟩:=cR o;obtain ⟨pb,B,p,q,t⟩:=k.b5 g.1 x h;have u:=zp h;have C:=zq d (g.1+1);refine bW<|Cs<|Cb<|ae<|I (Yo C7 O O p aa)<|I (eQ 0 ab O O<|q)<|ag O<|ad<|Cr<|ac O<|ac O ?_;refine WL.tu (xs:=(d.take g.1).flatMap (·.2)) (ys:=x.2) 0 (λ_=>f) Y O fw O O O (λw j=>⟨j.vs f ai,t⟩) dN oY No (by rw [zr]; omega) (by rw [zr]; omega) λF G=>?_;rw [show ((d.take g.1).flatMap (·.2))++x.2=(d.take<|g.1+1).flatMap (·.2) by rw [gV,h]; simp];refine ag O<|Ln<|Eb<|Et<|Cr<|I (Yi O O O aa)<|ac O<|Ln ?_;exact c8 ((g.1+1,F,G):Nat×Option Addr×Nat) (by first | omega | (dsimp only; omega)) (by first | omega | (dsimp only; omega)) ay
 have m:g.1=d.length:=by simp at s; omega
 refine Ce<|Ex<|Ex<|dQ<|Et<|ae<|ac O<|ag O<|ad<|am ?_;refine R1 O O λl j=>?_;rw [m,gE] at j;rw [m,gE];exact ⟨(g.2.1,g.2.2),O,j.fr,j.hW 0 O oY dN⟩
def Ra (a b:Nat) (c:List Value) (i:c.length=5) (d j:Int) (w:World) (f:Ws w (List.flatMap aQ.ids [aq a (.cells c.toArray 37 (0,0)),aq b (.cells #[.int .i64 d] 30 (0,0))]) [aq a (.cells c.toArray 37 (0,0)),aq b (.cells #[.int .i64 d] 30 (0,0))] [] w) :
   CallsD prog 55 #[.pointer (some ⟨a,0,none⟩),.pointer (some ⟨b,0,none⟩)] (.returning) w λe h g=>h = .returning/\(e = .returned (.tuple #[])/\Ws w (List.flatMap aQ.ids [aq a (.cells c.toArray 37 (0,0)),aq b (.cells #[.int .i64 d] 30 (0,0))]) [aq a (.cells c.toArray 37 (0,0)),aq b (.cells #[.int .i64 d] 30 (0,0))] [] g):=by
 refine ix func55 O 18 O O O O O (λ_=>rfl) (.inl ⟨O,O,O⟩) ?_;refine LW (W':=Ws w (List.flatMap aQ.ids [aq a (.cells c.toArray 37 (0,0)),aq b (.cells #[.int .i64 d] 30 (0,0))]) [aq a (.cells c.toArray 37 (0,0)),aq b (.cells #[.int .i64 d] 30 (0,0))] []) (λ_ e=>by subst e; exact f)<|ag O<|ad<|ae<|ac O<|I (J0 underlying116 C5 O)<|ac O<|I (Yx O O)<|I (Yx O O) ?_;refine Al Y O C5 λk=>?_;refine aT 0 Y O O O NO O O O<|ag O<|ad<|ae<|ac O<|ad ?_;refine WC.uQ O ?_;refine ae<|ac O<|I (Ez C0 O)<|ad ?_;refine WC.uQ O ?_;refine Ck ?_;refine E0 O λg f=>?_;exact ⟨O,Wd 1 f⟩
def C9 (a b:Nat) (c:List Value) (j:c.length=5) (f g:Int) (w:World) (i:Ws w (List.flatMap aQ.ids [aq a (.cells c.toArray 37 (0,0)),aq b (.cells #[.int .i64 f] 30 (0,0))]) [aq a (.cells c.toArray 37 (0,0)),aq b (.cells #[.int .i64 f] 30 (0,0))] [] w) :
   CallsD prog 55 #[.pointer (some ⟨a,0,none⟩),.pointer (some ⟨b,0,none⟩)] (.panicking<|iS g) w λe l k=>l = .panicking [⟨.iface 116<|.agg #[.int .i64 g],true,false⟩]/\(e = .returned (.tuple #[])/\Ws w (List.flatMap aQ.ids [aq a (.cells c.toArray 37 (0,0)),aq b (.cells #[.int .i64 f] 30 (0,0))]) [aq a (.cells (ga li mq).toArray 37 (0,0)),aq b (.cells #[.int .i64 g] 30 (0,0))] [] k):=by
 refine ix func55 O 18 O O O O O (λ_=>rfl) (.inr ⟨_,O,O,O⟩) ?_;refine LW (W':=Ws w (List.flatMap aQ.ids [aq a (.cells c.toArray 37 (0,0)),aq b (.cells #[.int .i64 f] 30 (0,0))]) [aq a (.cells c.toArray 37 (0,0)),aq b (.cells #[.int .i64 f] 30 (0,0))] []) (λ_ e=>by subst e; exact i)<|ag O<|ad<|ae<|ac O<|I (JZ underlying116 O)<|ac O<|I (Yx O O)<|I (Yx O O) ?_;refine Al Y O C5 λm=>?_;refine aT 0 Y O O O NO O O O<|ag O<|ad<|ae<|ac O<|ad ?_;refine WC.AP O ?_;refine WC.Bh (λ_=>true) [1,1] [(0,true),(1,true),(2,true),(3,false),(4,false)] mixed ab ab (λ_ _ _ d _ _ h=>by cases d<;>exact h) ?_;refine D0 O (ct [1,1]) (Yb nT C8 O O)<|D0 O (ct [1,1]) (Yf Wq O)<|D0 O (ct [1,1]) (Yd 0 O O O ab) ?_;refine De O (ct [1,1]) ?_;refine WL.Ix 1 (.cells (ga li mq).toArray 37 (0,0)) Y O O O nU O O (by simp [r6,j]) (by simp [mc,aZ,ga,li,mq,j,uL]) ?_;refine Ln<|Ed ?_;refine De O (ct [1,1]) ?_;refine aT 2 Y O O O l6 O O O<|Ln<|Ed ?_;refine WD.nil (ct [1,1]) ?_;refine E0 O λk i=>?_;exact ⟨O,Wd 1 i⟩
def s7 (f:List UInt8×List cP) (r:SP):List Value:=[st f.1,.slice r.1 f.2.length r.2]
def xP (a:View) (b o:Nat) (f:List UInt8×List cP):Prop:=∃r:SP,ar a b o (s7 f r)/\Sl lP 4 a r.1 r.2 f.2
abbrev XM:=List cP×Nat
def XM.cells (e:XM):List Value:=[.map (some e.2)]
def XM.cD (e:XM):(XM.cells e).length=1:=rfl
def Wu (a:View) (b o:Nat) (e:XM):Prop:=ar a b o<|XM.cells e
def xQ (J:View) (e:XM):Prop:=J e.2=some (cY st (je e.1 0) e.1.length)
variable {an b4:View}
def xQ.mv {e:XM} (hv:bG an b4) (h:xQ an e):xQ b4 e:=hv _ _ h
def um (u:List UInt8) (f:List UInt8×List cP):Bool:=(pJ f.1 f.2==0)&&(f.1==u)
def Hh:∀{us:List (List UInt8)} {fs:List (List UInt8×List cP)},qv us fs=true↔∀(k:Nat) u f,us[k]? = some u->fs[k]? = some f->um u f=true
 | [],fs=>by simp [qv]
 | u::us,[]=>by simp [qv]
 | u::us,f::fs=>by
   have e:=Hh (us:=us) (fs:=fs);simp only [qv,dE]
   constructor
   · rintro ⟨g,i⟩ k c d a b
     cases k with
     | zero=>simp at a b; subst a; subst b; simp only [um,dE]; exact g
     | succ k=>exact e.1 i k c d (by simpa using a) (by simpa using b)
   · intro h
     refine ⟨by have:=h 0 u f O O; simp only [um,dE] at this; exact this,e.2 λk c d a b=>h (k+1) c d (by simpa using a) (by simpa using b)⟩
def RO (h:pJ aU bq=0):(bq.map (·.name)).Nodup/\bq.length<=16:=by
 unfold pJ at h
 split at h
 · cases h
 · split at h
   · rename_i b a
     simp only [dE,Ee,i9] at a;exact ⟨j_.2 a.2.1,aa⟩
   · cases h
variable {k7:List (List UInt8×List cP)}
def Ww (h:¬(gy bP).2=0):eF bP k7=(li,(gy bP).2):=by rw [eF,ZZ h]
def Wx (h:(gy bP).2=0) (a:¬k7.length=bP.aA.length):eF bP k7=(li,8):=by rw [eF,ZX (by simp [h]),ZZ a]
def Wy (h:(gy bP).2=0) (a:k7.length=bP.aA.length) (b:qv bP.aA k7=false):eF bP k7=(li,1):=by rw [eF,ZX (by simp [h]),ZX (by simp [a]),ZZ b]
def Hi (h:(gy bP).2=0) (a:k7.length=bP.aA.length) (b:qv bP.aA k7=true) (c:mV bP k7≠0):eF bP k7=(li,mV bP k7):=by rw [eF,ZX (by simp [h]),ZX (by simp [a]),ZX (by simp [b]),ZZ c]
def Wz (h:(gy bP).2=0) (a:k7.length=bP.aA.length) (b:qv bP.aA k7=true) (c:mV bP k7=0):eF bP k7=(eB bP k7,0):=by rw [eF,ZX (by simp [h]),ZX (by simp [a]),ZX (by simp [b]),ZX (by simp [c])]
def WA (h:(gy bP).2=0):ku bP=0/\f_ ((fy bP).map (·.name))=false/\f_ bP.aA=false:=by
 by_cases a:ku bP=0
 · by_cases b:(f_ ((fy bP).map (·.name))||f_ bP.aA)=true
   · rw [Nz a b] at h; cases h
   · rw [Bool.not_eq_true,i9] at b
     exact ⟨a,b⟩
 · rw [Ny a] at h; exact absurd h a
variable {cw:List (List UInt8)}
def NQ (a:cw[Z]? = some aU) (c:aU ∉ cw.take Z):cY st (aan aU (.int .i64 ((Z+1:Nat):Int)) (hY (cw.take Z) 0) Z) (j7 aU (hY (cw.take Z) 0) Z)=cY st (hY (cw.take<|Z+1) 0) (Z+1):=by
 have d:=(cq.1 a).1
 have b:(cw.take Z).length=Z:=by simp; omega
 have h:=J7 c;rw [b] at h;rw [h.1,h.2,ly a];simp [b]
def RP (h:cw.Nodup)   (b:cw[Z]? = some aU):aU ∉ cw.take Z:=by
 intro c;obtain ⟨j,a⟩:=iE c
 have d:j<Z:=by have:=(cq.1 a).1; simp at this; omega
 rw [jq,ZZ d] at a;have e:=(cq.1 a).1;have:=(e5 e h).1 (a.trans b.symm);omega
def S' (h:(m8 aU cw==0)=true):aU ∉ cw:=by
 have:¬0<m8 aU cw:=by simp at h; omega
 exact sj.1<|G_ this
def YS (b:cw[Z]? = some aU) (h:(m8 aU (cw.take Z)==0)=false):f_ cw=true:=by
 have a:¬m8 aU (cw.take Z)=0:=by simpa using h
 have e:0<m8 aU (cw.take Z):=by
   unfold m8 at a ⊢
   cases hi:idxOf aU (cw.take Z) 0 with
   | none=>rw [hi] at a; exact absurd rfl a
   | some j=>simp only; omega
 obtain ⟨j,f,_,g⟩:=G' e;have c:=(pP f).2
 have d:j<Z:=by simp at g; omega
 rw [nX,jq,ZZ d] at c;exact E3.2 ⟨Z,j,(cq.1 b).1,d,by rw [b,c]⟩
def Zb (d:cw[Z]? = some aU) (f:aU ∉ cw.take Z) (h:(cw.take Z).Nodup):(cw.take<|Z+1).Nodup:=by
 rw [ly d,lI];exact ⟨h,ai,λa g b c=>by rw [gU] at c; subst c; intro e; subst e; exact f g⟩
def NR (h:f_ (iR.params++iR.aC)=true):pO bP k7 iR=6:=by rw [pO,ZZ h]; rfl
def Hj (h:f_ (iR.params++iR.aC)=false):pO bP k7 iR=a7 (cp bP k7<|iR.params++iR.aC) iR.body:=by rw [pO,ZX (by simp [h])]; rfl
structure GP where
 i:Nat
 es:List XP
 a:Option Addr
 c:Nat
 J:View
 lb:Value
def xR (m:df) (c:SP) (n:Nat) (p:SP):List Value:=[st m.nm,.slice c.1 m.aA.length c.2,.int .i64 (mm m),.slice p.1 n p.2,.slice none 0 0]
def bs:hr prog 37=some 5:=ab
def Hk:aat prog 28=some 2:=ab
def WF:gX prog 127=some [(0,1),(1,1),(2,1),(3,1)]:=ab
def WG:zeroOf prog 127=some (.agg #[.map none,.map none,.slice none 0 0,.map none]):=ab
def NT:hf prog 125 122 (.map none) 1 8:=jb ab
def WH:aJ prog 125=some 1:=ab
def NU:aJ prog 124=some 1:=ab
def WI:hf prog 244 22 (.slice none 0 0) 1 24:=jb ab
def v8:au prog 37 3=some 3:=ab
def NV:gX prog 107=some [(0,1),(1,1),(2,1)]:=ab
def xS:zeroOf prog 107=some (.agg #[.int .i64 0,.int .i64 0,.slice none 0 0]):=ab
def NW:hf prog 34 107 (.agg #[.int .i64 0,.int .i64 0,.slice none 0 0]) 3 40:=jb ab
def WJ:aJ prog 34=some 1:=ab
def C':au prog 37 4=some 4:=ab
def z6 (l v:View) (ke ks:Nat) (r:cb) (m:df) (fa:Option Addr) (fc:Nat) (fs:List (List UInt8×List cP)) (w:World) (bv:Le l w) (bx:Le v w) (y:n7 ke ks l r m) (av:Sl xP 2 v fa fc fs) (bA:wM m<=109951162777) :
   Calls prog 13 #[.agg (iJ m r).toArray,.slice fa fs.length fc] w λe B=>∃r:kQ,e = .returned (.tuple #[.agg (ga (eF m fs).1 r).toArray,.int .i64 (eF m fs).2])/\Ext w B/\kR (ke+1) (ks+1) (nv w B) r (eF m fs).1:=by
 have cG:=av.cap;have cH:=av.max;refine Be func13 O 159 O O ?_;refine CE (Vs:=[v,l]) (Ws.init (by simp [bx,bv]))<|ae ?_;refine WL.box Y O O λaw=>?_;refine Al Y O nT λn=>?_;refine dk 0 (.cells (ga li mq).toArray 37 (0,0)) O O ?_;refine Al Y O zA λt=>?_;refine dk 0 (.cells #[.int .i64 0] 30 (0,0)) O O<|ad<|Cs<|ae<|I (db 2 O O nQ O) ?_;refine Ld Y O aF O (λr:SP=>.tuple #[.agg #[st (gy m).1.1,.slice r.1 (gy m).1.2.length r.2],.int .i64 (gy m).2]) (λl r=>Sl lP 4 l r.1 r.2 (gy m).1.2) (λw d=>V0 l ke ks r m w (d.vs _ (by simp)) y bA) ?_;intro cJ cK cL cM;refine ac O<|I (Yx O O)<|I (Yx O O) ?_;refine Al Y O s0 λcN=>?_;refine aT 0 Y O O O vZ O O O<|ag O<|ad<|ae<|ac O<|I (h9 O O)<|ad ?_;refine Cc O (λax=>?_)<|λax=>?_
 ·have C:¬(gy m).2=0:=by simpa using ax
  refine ae<|I (Yb nT C8 O O)<|ac O<|aT 2 Y O O O nU O O O<|aT 1 Y O O O l6 O O O<|ad<|am<|Er ?_;refine WE.r9 (hV O (eM 2 O O bs O)<|h6 1 O O O ab) λB d=>?_;rw [Ww C];exact ⟨mq,O,d.fr,wZ _⟩
 have C:(gy m).2=0:=by simpa using ax
 obtain ⟨bB,ay,Q⟩:=WA C;have S:=Nt bB;have ay:=j_.2 ay;have Q:=j_.2 Q;have e8:=S.e8;have cQ:=y.aA.max;have cR:=y.aA.cap;have cS:=y.procs.max;have cT:=y.procs.cap;have cU:wM m=1+m.nm.length+wN m.aA+wD m.decls+wP m.procs+e2 m.main:=rfl;refine bW<|Cs<|ae<|ac O<|I (Yn Hk O)<|I (Yf ue O)<|I (Yd 3 O O O ab)<|I (Yn fQ O)<|I (h9 O O)<|ad ?_;refine Cc O (λaD=>?_)<|λaD=>?_
 ·have bC:¬fs.length=m.aA.length:=by simp at aD; omega
  refine ae<|I (Yb nT C8 O O)<|aT 2 Y O O O nU O O O<|aT 1 Y O O O l6 O O O<|ad<|am<|Er ?_;refine WE.r9 (hV O (eM 2 O O bs O)<|h6 1 O O O ab) λB d=>?_;rw [Wx C bC];exact ⟨mq,O,d.fr,wZ _⟩
 have D:fs.length=m.aA.length:=by simp at aD; omega
 refine bW<|ae<|I (wF O) ?_;refine WL.defer Y O ?_;refine ad<|ae<|I (db 3 O O nQ O) ?_;refine Ld Y O aF O (λr:SP=>.tuple #[.slice r.1 (fy m).length r.2,.int .i64 (mm m)]) (λl r=>Sl lP 4 l r.1 r.2<|fy m) (λw d=>Nx l ke ks r m w (d.vs _ (by simp)) y S) ?_;intro bD ba cV bE;refine ac O<|I (Yx O O)<|I (Yx O O)<|ag O<|ag O<|ad<|ae<|ac O ?_;refine Ld Y O aF O (λb:Nat=>.map<|some b) (λl b=>l b=some (cY st (je (fy m) 0) (fy m).length)) (λw d=>NB bD ba.1 ba.2 (fy m) w (d.vs _ (by simp)) bE ay) ?_;intro M T cW bb;refine WL.pD st Y O λH=>?_;refine dk 0 (cY st (hY (m.aA.take 0) 0) 0) O O<|I (Yb WG WF O O) ?_;refine WL.box Y O O λE=>?_;refine LW (λ_ h=>h.g4 122 1) ?_;refine WL.v0 ?_;refine ag O<|ad<|Cs<|ae<|ac O<|I (Yn Hk O)<|ac O<|ad<|Cb ?_;refine ey (ι:=GX XM) (λg=>[(46,.int .i64 (g.i:Int))]) [(2,_),(4,_),(5,_),(9,_),(10,_),(44,_),(45,_)] (λg=>Ws w [] [aq E (.cells #[.map (some T),.map (some H),.slice g.a g.es.length g.c,.map none] 127 (0,0)),aq H (cY st (hY (m.aA.take g.i) 0) g.i),cC 122 1 XM.cells g.a g.c g.es,aq t (.cells #[.int .i64 0] 30 (0,0)),aq n (.cells (ga li mq).toArray 37 (0,0)),aq aw (.cells (iJ m r).toArray 27 (0,0))] [g.J,M,v,l]) (λg=>g.i<=fs.length/\g.es.map (·.1)=(fs.take g.i).map (·.2)/\(∀(k:Nat) u f,k<g.i->m.aA[k]? = some u->fs[k]? = some f->um u f=true)/\(gw w g.J/\Xs xQ g.J g.es)) (λg=>fs.length-g.i) ⟨0,[],none,0,v0⟩ ⟨di _,O,λk u f U=>absurd U<|AN k,⟨rj w,Xs.nil _⟩⟩ (λ_ h=>by have h:=h.aj 6 O; have h:=h.aj 6 O; have h:=h.aj 6 O; have h:=h.aj 3 O; have h:=h.aj 5 O; have h:=h.aj 5 O; have h:=Wt 6 h; have h:=Ws.aB h (b7:=[v0,M,v,l]) (by simp); exact h) ?_;intro g ⟨hi,aE,bc,⟨bF,aH⟩⟩;refine ae<|I (cI O O)<|ad<|Cs ?_;refine Cc O (λaI=>?_)<|λaI=>?_
 ·have V:g.i<fs.length:=by simpa using aI
  obtain ⟨f,af⟩:∃f,fs[g.i]? = some f:=⟨_,c6 V⟩;obtain ⟨cX,cZ,bH,ah,bI,bd⟩:=av.b5 g.i f af;obtain ⟨u,W⟩:∃u,m.aA[g.i]? = some u:=⟨_,c6 (by omega)⟩;obtain ⟨bJ,bK,bL,aJ⟩:=y.aA.b5 g.i u W;have aJ:ar l bJ (bK+g.i*1) (gk u):=aJ;have c0:=z3 aE hi;refine bW<|Cs<|Cb<|ae<|ac O<|I (Yo Hk O O bH (by omega))<|I (dz 2 v3 O O O<|bI) ?_;refine Al Y O s0 λc2=>?_;refine ag O<|aT 0 Y O O O vZ O O O<|ad<|Cs ?_;refine WC.Bh (mg [.cell 4 37,.cell 5 30]) [] [(0,true),(1,false),(2,true),(3,true),(4,true),(5,true),(6,true),(7,true),(8,true),(9,true),(10,true),(11,true),(12,true),(13,false)] mixed (by kernel_rfl) (by kernel_rfl) (λ_ _ _ _ _ F h=>oR (fn:=f13) [.cell 4 37,.cell 5 30] O F h) ?_;refine D0 O (λ_ h=>h) (db 0 O O v3 O) ?_;refine De O (λ_ h=>h) ?_;refine Lp Y O aF O (λw d=>VL v ah.1 ah.2 f.1 f.2 w (d.vs _ (by simp)) bd)<|Ln<|Ed<|D0 O (λ_ h=>h) (bz O O)<|D0 O (λ_ h=>h) (Ym O) ?_;apply WD.and 8 O O O O O Y O (λ_ h=>h) O O O O
  ·intro c3;refine Dq O (.g O O O) O (λ_ h=>h) (Yf G4 O)<|Dq O (.g O O O) O (λ_ h=>h) (Yd 0 O O O ab)<|Dq O (.g O O O) O (λ_ h=>h) (Yf ue O)<|Dq O (.g O O O) O (λ_ h=>h) (Yd 6 O O O ab)<|Dq O (.g O O O) O (λ_ h=>h) (Ym O)<|Dq O (.g O O O) O (λ_ h=>h) (Yo fQ O O bL (by omega))<|Dq O (.g O O O) O (λ_ h=>h) (eQ 3 ab O O<|aJ 0 _ O)<|Dq O (.g O O O) O (λ_ h=>h) (yn O O) ?_;exact Gi 8 (λ_ h=>h) O O O
  refine De O (λ_ h=>h) ?_;refine WL.mU (ι:=Unit) (κ:=Unit) Y O aF O (λ_=>.tuple #[]) (λ_=>um u f=true) (λ_=>iS 1) (λ_=>um u f=false) (λw d=>s6 _ _ w) ?_ ?_
  ·intro _ G;refine Ep<|Ep<|WE.bS<|Ep<|Ep<|WE.bS<|Ep ?_;refine WE.front 4 O ?_;refine WE.front 5 O ?_;refine WE.qo aF (cO [_,_] _ [aq n (.cells (ga li mq).toArray 37 (0,0)),aq t (.cells #[.int .i64 1] 30 (0,0))] O<|λw d=>C9 n t (ga li mq) O 0 1 w d) (hV O (eM 0 O O bs O)<|h6 1 O O O ab) λB d=>?_
   have bM:qv m.aA fs=false:=by
     rw [D2];intro h;have:=Hh.1 h g.i u f W af;rw [G] at this; cases this
   rw [Wy C D bM];exact ⟨mq,O,d.fr,wZ _⟩
  intro _ bN;refine Ln<|Ed ?_;refine WD.nil (λ_ h=>h) ?_;refine Et<|Cs ?_;have be:um u f=true:=bN;have bf:=be;simp only [um,dE,aac] at bf;obtain ⟨bO,aK⟩:=bf;obtain ⟨bP,c5⟩:=RO bO
  have ai:f.1 ∉ m.aA.take g.i:=by rw [aK]; exact RP Q W
  refine WC.Bh (mg [.cell 4 37,.cell 5 30]) [2] [(0,true),(1,true),(2,true),(3,true),(4,true),(5,true),(6,true),(7,true),(8,false)] mixed (by kernel_rfl) (by kernel_rfl) (λ_ _ _ _ _ F h=>oR (fn:=f13) [.cell 4 37,.cell 5 30] O F h) ?_;refine D0 O (Wp 2) (Ym O)<|D0 O (Wp 2) (bw O)<|D0 O (Wp 2) (Yf NJ O)<|D0 O (Wp 2) (Yd 1 O O O ab)<|D0 O (Wp 2) (Yf G4 O)<|D0 O (Wp 2) (Yd 0 O O O ab)<|D0 O (Wp 2) (Ym O)<|D0 O (Wp 2) (Yi O O O (by omega)) ?_;refine De O (Wp 2) ?_;refine WL.rh 2 iW Y iC ab O O O O ?_;refine dk 2 (cY st (hY (m.aA.take<|g.i+1) 0)<|g.i+1) O (by rw [aK]; exact NQ W<|aK▸ai)<|Ln<|Ed ?_;refine WD.nil (Wp 2) ?_;refine Et ?_;refine CU (mg [.cell 4 37,.cell 5 30]) [3] [10,11,12] (.q false 0<|.q false 1<|.q false 2<|.q false 3<|.q true 4<|.q false 5<|.q true 6<|.e 7 (.e 8 (.e 9 .nil .stop) .stop) .stop) mixed (by kernel_rfl) (λ_ _ _ _ _ F h=>oR (fn:=f13) [.cell 4 37,.cell 5 30] O F h) ?_;refine U0 O (Wp 3) (Ym O)<|U0 O (Wp 3) (Ym O)<|U0 O (Wp 3) (bw O)<|U0 O (Wp 3) (Yf v4 O)<|U0 O (Wp 3) (Yd 1 O O O ab)<|U0 O (Wp 3) (Yf zY O)<|U0 O (Wp 3) (Yd 0 O O O ab) ?_;refine Ue O (Wp 3) ?_ WU.stop;refine Ld Y O aF O (λb:Nat=>.map<|some b) (λl b=>l b=some (cY st (je f.2 0) f.2.length)) (λw d=>NB v ah.1 ah.2 f.2 w (d.vs _ (by simp)) bd bP) ?_;intro c7 aL bQ bR;refine Ln<|Eu ?_;refine Ue O (λ_ h=>(Wv 1 (Wo 3 h):)) ?_ WU.stop;refine Lb Y O NT O O O O λc9=>?_;refine dk 0 (.cells (XM.cells (f.2,aL)).toArray 122 (0,0)) O (O)<|Ln<|Eu ?_;refine Ue O (λ_ h=>(Wv 1 (Wo 3<|Wd 1 h):)) ?_ WU.stop;refine LA ((f.2,aL):XM) 4 0 Y O NT O O O O O O (by omega) (by omega) λbT bU=>?_;refine Ln<|Eu ?_;refine WU.nil (λ_ h=>(Wv 1 (Wo 3<|Wd 1 h):)) ?_;refine WS.e O ?_;refine I (bw O)<|Ln<|Es ?_;refine WS.e O ?_;refine I (Yf v4 O)<|Ln<|Es ?_;refine WS.e O ?_;refine aT 2 Y O O O WH O O O<|Ln<|Es ?_;refine WS.nil ?_;refine Eb<|Et ?_;refine WC.j' λbV bX bY bZ=>?_;refine Cr<|I (Yi O O O (by omega))<|ac O<|Ln ?_
  exact c8 (⟨g.i+1,g.es++[(f.2,aL)],bT,bU,bV⟩:GX XM) (by show _-(g.i+1)<_; omega) ⟨(by show g.i+1<=_; omega),z2 aE af O,λk b0 b1 U X Z=>by
      rcases ne.1 U with h | rfl
      · exact bc k b0 b1 h X Z
      · rw [W] at X; rw [af] at Z; injection X with X; injection Z with Z; subst X; subst Z; exact be,⟨bZ _ bQ bF,Xs.snoc (R:=xQ) (λhv h=>xQ.mv hv h) aH bY bX bR⟩⟩<|λ_ h=>Wd 2 h
 have aM:g.i=fs.length:=by simp at aI; omega
 have ak:qv m.aA fs=true:=Hh.2 λk u f b2 bg=>bc k u f (by have:=(cq.1 bg).1; omega) b2 bg;have al:=z4 aE aM
 have b3:m.aA.take g.i=m.aA:=by rw [aM,D,gE]
 have b4:g.i=m.aA.length:=by rw [aM,D]
 rw [b3,b4];refine Ce<|Ex<|Ex<|dQ<|Et<|Cs ?_;refine WC.pH (rd:=Wu) 2 O XM.cD (λ_ _ _ _ h=>h) λaa bh=>?_;refine WC.Bh (mg [.cell 4 37,.cell 5 30]) [3] [(0,true),(1,true),(2,true),(3,true),(5,true),(4,false),(6,true),(7,false)] mixed (by kernel_rfl) (by kernel_rfl) (λ_ _ _ _ _ F h=>oR (fn:=f13) [.cell 4 37,.cell 5 30] O F h) ?_;refine D0 O (Wp 3) (Yf tv O)<|D0 O (Wp 3) (Yd 3 O O O ab)<|D0 O (Wp 3) (Yf ue O)<|D0 O (Wp 3) (Yd 3 O O O ab)<|D0 O (Wp 3) (Ym O) ?_;refine De O (Wp 3) ?_;refine Ld Y O aF O (λr:SP=>.slice r.1 m.aA.length r.2) (λN r=>Sl rdStr 1 N r.1 r.2 m.aA) (λw d=>NP l r.a1 r.c1 m.aA w (d.vs _ (by simp)) y.aA (by omega)) ?_;intro aO A b6 b8;refine Ln<|Ed<|D0 O (λ_ h=>(Wv 1 (Wo 3 h):)) (Yb nT C8 O O) ?_;refine De O (λ_ h=>(Wv 1 (Wo 3 h):)) ?_;refine aT 3 Y O O O nU O O O<|Ln<|Ed ?_;refine WD.nil (λ_ h=>(Wv 1 (Wo 3 h):)) ?_;refine Et<|Cs<|Cs<|aao 3 (.cells (xR m A ([]:List XP).length (none,0)).toArray 37 (0,0)) O O ?_;refine nf (λ_ h=>h.g4 107 3) ?_;refine nf (λ_ h=>h.v0) ?_;refine Cr<|I (Yf vO O)<|I (Yd 5 O O O ab)<|I (Yn sP O)<|ac O<|ad<|Cb ?_;refine ey (ι:=GP) (λz=>[(96,.int .i64 (z.i:Int))]) [(2,_),(4,_),(5,_),(10,_),(94,_),(95,_)] (λz=>Ws w [] [aq E (.cells #[.map (some T),.map (some H),.slice g.a g.es.length g.c,z.lb] 127 (0,0)),aq H (cY st (hY m.aA 0) m.aA.length),cC 107 3 XP.cells z.a z.c z.es,aq t (.cells #[.int .i64 0] 30 (0,0)),aq n (.cells (xR m A z.es.length (z.a,z.c)).toArray 37 (0,0)),aq aw (.cells (iJ m r).toArray 27 (0,0))] [z.J,aO,aa,g.J,M,v,l]) (λz=>z.i<=m.procs.length/\z.es.map (·.1)=(m.procs.take z.i).map (qu m fs)/\iY (pO m fs) (m.procs.take z.i)=0/\(gw w z.J/\Xs (gd (ke+1)<|ks+1) z.J z.es)) (λz=>m.procs.length-z.i) ⟨0,[],none,0,v0,.map none⟩ ⟨di _,O,O,⟨rj w,Xs.nil _⟩⟩ (λ_ h=>by have h:=h.aj 5 O; have h:=h.aj 5 O; have h:=h.aj 5 O; have h:=h.aj 3 O; have h:=h.aj 5 O; have h:=h.aj 5 O; have h:=Ws.aB h (b7:=[v0,aO,aa,g.J,M,v,l]) (by simp); exact h) ?_;intro z ⟨b9,aP,an,⟨bi,bj⟩⟩;refine ae<|I (cI O O)<|ad<|Cs ?_;refine Cc O (λaQ=>?_)<|λaQ=>?_
 ·have V:z.i<m.procs.length:=by simpa using aQ
  obtain ⟨p,P⟩:∃q,m.procs[z.i]? = some q:=⟨_,c6 V⟩;obtain ⟨c',c_,b',b_⟩:=y.procs.b5 z.i p P;obtain ⟨aR,aS,aU,aV,bk,bl,ca,aW,aX,cc⟩:=b_;have op:=zf (S.procs p<|az P);have da:=op.e8;have dc:=MU P;have dd:=aW.max;have de:=aW.cap;have dg:=aX.max;have dh:=aX.cap;have dj:=z3 aP b9;refine bW<|Cs<|Cb<|ae<|I (Yo sP O O b' (by omega))<|I (dz 6 xG O O O<|ca) ?_;refine Al Y O uf λcd=>?_;refine aT 0 Y O O O xH O O O<|ad<|ae<|ac O ?_;refine WL.pD st Y O λao=>?_;refine dk 0 (cY st (hY ((p.params++p.aC).take 0) 0) 0) O O<|I (bw O)<|I (Yf z0 O)<|aT 2 Y O O O NU O O O<|ad<|Cs<|ae<|I (Yf rR O)<|I (Yd 1 O O O ab)<|I (Yf xI O) ?_;refine I (Yd 1 O O O ab) ?_;refine Lb Y O WI O O O O λaY=>?_
  refine Ld Y O aF O (λr:SP=>.slice r.1 (p.params++p.aC).length r.2) (λN r=>Sl rdStr 1 N r.1 r.2<|p.params++p.aC) (λw d=>by
      have ce:Sl vB 1 (hv w) (some ⟨aY,0,none⟩) 2 [((aR,aS),p.params),((aU,aV),p.aC)]:=⟨by simp,by decide,by simp,λj x K=>⟨aY,0,rfl,by
        match j,K with
        | 0,K=>simp only [cm,aN] at K; subst K; exact ⟨d.jd 0 rfl rfl,aW.imp λb o x aZ=>jA (mf<|d.vs l (by simp)) b o x aZ⟩
        | 1,K=>simp only [lL,cm,aN] at K; subst K; exact ⟨d.jd 0 rfl rfl,aX.imp λb o x aZ=>jA (mf<|d.vs l (by simp)) b o x aZ⟩⟩⟩
      have bn:=QR (hv w) (some ⟨aY,0,none⟩) 2 _ w (jc w) ce (by simp [bm]; omega) (by simp);rw [show [((aR,aS),p.params),((aU,aV),p.aC)].flatMap (·.2)=p.params++p.aC by simp] at bn
      exact bn) ?_
  intro bo dl cf a0;refine I (Yn fQ O)<|ac O<|ad<|Cb ?_;refine ey (ι:=Nat) (λj=>[(111,.int .i64 (j:Int))]) [(2,_),(4,_),(5,_),(10,_),(14,_),(94,_),(95,_),(96,_),(109,_),(110,_)] (λj=>Ws w [] [aq E (.cells #[.map (some T),.map (some H),.slice g.a g.es.length g.c,.map (some ao)] 127 (0,0)),aq ao (cY st (hY ((p.params++p.aC).take j) 0) j),aq cd (.cells (ES p aR aS aU aV bk bl).toArray 113 (0,0)),aq H (cY st (hY m.aA 0) m.aA.length),cC 107 3 XP.cells z.a z.c z.es,aq t (.cells #[.int .i64 0] 30 (0,0)),aq n (.cells (xR m A z.es.length (z.a,z.c)).toArray 37 (0,0)),aq aw (.cells (iJ m r).toArray 27 (0,0))] [bo,z.J,aO,aa,g.J,M,v,l]) (λj=>j<=(p.params++p.aC).length/\((p.params++p.aC).take j).Nodup) (λj=>(p.params++p.aC).length-j) 0 ⟨di _,List.nodup_nil⟩ (λ_ h=>by exact (Wt 8 ((((((((h.f 8 O).f 8 O).f 8 O).f 8 O).f 8 O).f 7 O).f 7 O).f 8 O):)) ?_;intro j ⟨K,a2⟩;refine ae<|I (cI O O)<|ad<|Cs ?_;refine Cc O (λa3=>?_)<|λa3=>?_
  ·have V:j<(p.params++p.aC).length:=by simp only [aab] at a3; omega
   obtain ⟨s,ap⟩:∃q,(p.params++p.aC)[j]? = some q:=⟨_,c6 V⟩;obtain ⟨cg,pos,ch,a5⟩:=a0.b5 j s ap;have a5:ar bo cg (pos+j*1) (gk s):=a5;have dm:=a0.cap;have dn:=a0.max;refine bW<|Cs<|Cb<|ae<|ac O<|I (Yo fQ O O ch (by omega))<|I (eQ 0 ab O O<|a5 0 _ O)<|ag O<|ag O<|ad<|ae<|ac O ?_;refine I (bw O)<|I (Yf z0 O)<|I (Yd 0 O O O ab)<|ac O<|I (rf 1 iW iC ab l8 O O O) ?_;rw [G9];refine I (bz O O) ?_;refine WL.mU (ι:=Unit) (κ:=Unit) Y O aF O (λ_=>.tuple #[]) (λ_=>(m8 s ((p.params++p.aC).take j)==0)=true) (λ_=>iS 6) (λ_=>(m8 s ((p.params++p.aC).take j)==0)=false) (λw d=>s6 _ _ w) ?_ ?_
   ·intro _ G;refine Ep<|WE.bS<|Ep<|Ep<|WE.bS<|Ep<|WE.bS<|Ep ?_;refine Ep<|WE.bS<|Ep ?_;refine WE.front 5 O ?_;refine WE.front 6 O ?_;refine WE.qo aF (cO [_,_] _ [aq n (.cells (ga li mq).toArray 37 (0,0)),aq t (.cells #[.int .i64 6] 30 (0,0))] O<|λw d=>C9 n t (xR m A z.es.length (z.a,z.c)) O 0 6 w d) (hV O (eM 0 O O bs O)<|h6 1 O O O ab) λB d=>?_;have bp:=YS ap G
    have L:mV m fs=6:=by rw [mV,yO (pO m fs) P an (by rw [NR bp]; decide),NR bp]; rfl
    rw [Hi C D ak (by rw [L]; decide),L];exact ⟨mq,O,d.fr,wZ _⟩
   intro _ ci;have ai:=S' ci;refine ad<|Cr<|ac O<|I (bw O)<|I (Yf z0 O)<|I (Yd 0 O O O ab)<|ac O<|ac O<|I (Yi O O O (by omega)) ?_;refine WL.rh 1 iW Y iC ab O O O O ?_;refine dk 1 (cY st (hY ((p.params++p.aC).take<|j+1) 0)<|j+1) O (NQ ap ai)<|Ln<|Eb<|Et<|Cr<|I (Yi O O O (by omega))<|ac O<|Ln ?_;exact c8 (j+1) (by omega) ⟨by omega,Zb ap ai a2⟩<|λ_ h=>h
  have bq:j=(p.params++p.aC).length:=by simp only [aad] at a3; omega
  have a6:f_ (p.params++p.aC)=false:=j_.1 (by rw [bq,gE] at a2; exact a2);rw [bq,gE];refine Ce<|Ex<|Ex<|dQ<|Et ?_;refine CU (mg [.cell 4 37,.cell 5 30]) [4] [15,16] (.q false 0<|.q true 1<|.q false 2<|.q true 3<|.q false 4<|.q false 5<|.q true 6<|.q false 7<|.q false 8<|.q false 9<|.q true 10<|.e 11 (.q false 12<|.e 13 (.e 14 .nil .stop) .stop) .stop) mixed (by kernel_rfl) (λ_ _ _ _ _ F h=>oR (fn:=f13) [.cell 4 37,.cell 5 30] O F h) ?_;refine U0 O (Wp 4) (Yf v8 O)<|U0 O (Wp 4) (Yd 5 O O O ab)<|U0 O (Wp 4) (Yf rR O)<|U0 O (Wp 4) (Yd 2 O O O ab)<|U0 O (Wp 4) (Yn fQ O)<|U0 O (Wp 4) (Yf xI O)<|U0 O (Wp 4) (Yd 2 O O O ab)<|U0 O (Wp 4) (Yn fQ O) ?_;refine U0 O (Wp 4) (Ym O)<|U0 O (Wp 4) (Yf GJ O)<|U0 O (Wp 4) (Yd 2 O O O ab) ?_;refine Ue O (Wp 4) ?_ WU.stop
  refine WL.tH (ι:=SP) (κ:=Unit) Y O aF O (λr=>.slice r.1 (ft (cp m fs<|p.params++p.aC) p.body).length r.2) (λN r=>a7 (cp m fs<|p.params++p.aC) p.body=0/\Sl (gG (ke+1)<|ks+1) 7 N r.1 r.2 (ft (cp m fs<|p.params++p.aC) p.body)) (λ_=>iS<|a7 (cp m fs<|p.params++p.aC) p.body) (λ_=>a7 (cp m fs<|p.params++p.aC) p.body≠0) (λw d=>by
      have a8:fq (hv w) E (cp m fs<|p.params++p.aC):=⟨⟨T,H,g.a,g.c,ao,⟨d.jd 0 rfl rfl,d.jd 0 rfl rfl,by show vc (hv w) E 2=some (.slice g.a (fs.map (·.2)).length g.c); rw [<-al,fu]; exact A7 (d.oe 0 rfl) rfl,d.jd 0 rfl rfl⟩,d.vs M (by simp) _ _ bb,d.oe 3 rfl,by show Sl G8 1 (hv w) g.a g.c (fs.map (·.2)); rw [<-al]; exact vd bh aH λb o e a9 a'=>⟨e.2,(mf<|d.vs aa (by simp)).cell<|a9 0 _ rfl,d.vs g.J (by simp) _ _ a'⟩,d.oe 1 rfl⟩,Q,by show m.aA.length=(fs.map (·.2)).length; rw [fu,D],⟨S.e8.1,by show (p.params++p.aC).length<=7; rw [jE]; omega⟩⟩
      exact NN (hv w) l E (cp m fs<|p.params++p.aC) ke a8 ks p.body bk bl w (jc w) (d.vs l (by simp)) cc (by omega)) ?_ ?_
  ·intro _ G;refine Ep<|WE.bS<|Ep<|Ep<|WE.bS<|Ep ?_;refine WE.front 5 O ?_;refine WE.front 6 O ?_;refine WE.qo aF (cO [_,_] _ [aq n (.cells (ga li mq).toArray 37 (0,0)),aq t (.cells #[.int .i64 (a7 (cp m fs<|p.params++p.aC) p.body)] 30 (0,0))] O<|λw d=>C9 n t (xR m A z.es.length (z.a,z.c)) O 0 (a7 (cp m fs<|p.params++p.aC) p.body) w d) (hV O (eM 0 O O bs O)<|h6 1 O O O ab) λB d=>?_
   have L:mV m fs=a7 (cp m fs<|p.params++p.aC) p.body:=by rw [mV,yO (pO m fs) P an (by rw [Hj a6]; exact G),Hj a6,si G]
   rw [Hi C D ak (by rw [L]; exact G),L];exact ⟨mq,O,d.fr,wZ _⟩
  intro dp a_ cj ⟨ck,cl⟩;refine Ln<|Eu<|U0 O (λ_ h=>(Wv 1 (Wo 4 h):)) (Yb xS NV O O) ?_;refine Ue O (λ_ h=>(Wv 1 (Wo 4 h):)) ?_ WU.stop;refine Lb Y O NW O O O O λdq=>?_;refine dk 0 (.cells (XP.cells (qu m fs p,a_)).toArray 107 (0,0)) O (O)<|Ln<|Eu ?_;refine Ue O (λ_ h=>(Wv 1 (Wo 4<|Wd 1 h):)) ?_ WU.stop;refine LA (((qu m fs p,a_):XP)) 5 0 Y O NW O O O O O O (by omega) (by omega) λcn co=>?_;refine Ln<|Eu ?_;refine WU.nil (λ_ h=>(Wv 1 (Wo 4<|Wd 1 h):)) ?_;refine WS.e O ?_;refine I (Yf v8 O)<|Ln<|Es ?_;refine WS.e O ?_;refine aT 7 Y O O O WJ O O O<|Ln<|Es ?_;refine WS.nil ?_;refine Eb<|Et ?_;refine WC.j' λdr cr ds cs=>?_;refine WC.j' λct cu cv cw=>?_;refine Cr<|I (Yi O O O (by omega))<|ac O<|Ln ?_;exact c8 (⟨z.i+1,z.es++[(qu m fs p,a_)],cn,co,ct,.map<|some ao⟩:GP) (by show _-(z.i+1)<_; omega) ⟨(by show z.i+1<=_; omega),z2 aP P O,(by show iY (pO m fs) (m.procs.take<|z.i+1)=0; rw [Fe _ P,an,nt,Hj a6,ck]),⟨cw _ (cs _ cj cf) bi,Xs.snoc (R:=gd _ _) (λhv h=>gd.mv hv h) bj cv (bG.trans cr cu) cl⟩⟩ (λ_ h=>by exact (Wt 6 ((((((h.f 8 O).f 8 O).f 8 O).f 8 O).f 8 O).f 6 O):))
 have br:z.i=m.procs.length:=by simp at aQ; omega
 have cx:=z4 aP br
 have bt:iY (pO m fs) m.procs=0:=by rw [<-an,br,gE]
 have bu:eB m fs=⟨m.nm,m.aA,mm m,z.es.map (·.1),ft (cp m fs []) m.main⟩:=by rw [cx]; rfl
 refine Ce<|Ex<|Ex<|dQ<|Et<|ae<|ac O ?_;refine WL.pD st Y O λcy=>?_;refine I (bw O)<|I (Yf z0 O)<|aT 1 Y O O O NU O O O<|ad<|ae<|ac O<|I (Yf GK O)<|I (Yd 6 O O O ab) ?_
 refine WL.tH (ι:=SP) (κ:=Unit) Y O aF O (λr=>.slice r.1 (ft (cp m fs []) m.main).length r.2) (λN r=>a7 (cp m fs []) m.main=0/\Sl (gG (ke+1)<|ks+1) 7 N r.1 r.2 (ft (cp m fs []) m.main)) (λ_=>iS<|a7 (cp m fs []) m.main) (λ_=>a7 (cp m fs []) m.main≠0) (λw d=>by
     have a8:fq (hv w) E (cp m fs []):=⟨⟨T,H,g.a,g.c,cy,⟨d.jd 1 rfl rfl,d.jd 1 rfl rfl,by show vc (hv w) E 2=some (.slice g.a (fs.map (·.2)).length g.c); rw [<-al,fu]; exact A7 (d.oe 1 rfl) rfl,d.jd 1 rfl rfl⟩,d.vs M (by simp) _ _ bb,d.oe 2 rfl,by show Sl G8 1 (hv w) g.a g.c (fs.map (·.2)); rw [<-al]; exact vd bh aH λb o e a9 a'=>⟨e.2,(mf<|d.vs aa (by simp)).cell<|a9 0 _ rfl,d.vs g.J (by simp) _ _ a'⟩,d.oe 0 rfl⟩,Q,by show m.aA.length=(fs.map (·.2)).length; rw [fu,D],⟨S.e8.1,by show (0:Nat)<=7; omega⟩⟩
     exact NN (hv w) l E (cp m fs []) ke a8 ks m.main r.a4 r.c4 w (jc w) (d.vs l (by simp)) y.main (by omega)) ?_ ?_
 ·intro _ G;refine Ep ?_;refine WE.front 4 O ?_;refine WE.front 5 O ?_;refine WE.qo aF (cO [_,_] _ [aq n (.cells (ga li mq).toArray 37 (0,0)),aq t (.cells #[.int .i64 (a7 (cp m fs []) m.main)] 30 (0,0))] O<|λw d=>C9 n t (xR m A z.es.length (z.a,z.c)) O 0 (a7 (cp m fs []) m.main) w d) (hV O (eM 0 O O bs O)<|h6 1 O O O ab) λB d=>?_
  have L:mV m fs=a7 (cp m fs []) m.main:=by rw [mV,bt,nt]
  rw [Hi C D ak (by rw [L]; exact G),L];exact ⟨mq,O,d.fr,wZ _⟩
 intro dt au cz ⟨cA,cB⟩;refine I (Yf C' O)<|aT 5 Y O O O Hg O O O<|ad<|Cs ?_;refine WC.o1 (rd:=JR) 3 O (λ_ U=>by cases U) XP.cD (λ_ _ _ _ h=>h) λdu cE cF=>?_;refine aao 4 (.cells (ga (eB m fs) ⟨A,(z.a,z.c),au⟩).toArray 37 (0,0)) O (by rw [bu]; show Obj.cells _ _ _=Obj.cells (ga _ _).toArray _ _; simp only [ga,fu]; rfl)<|Cr<|I (db 4 O O bs O)<|aT 4 Y O O O nU O O O<|aT 3 Y O O O l6 O O O<|ad<|am ?_;refine WE.front 3 O ?_;refine WE.front 4 O ?_;refine WE.Ey aF (cO [_,_] _ [aq n (.cells (ga (eB m fs) ⟨A,(z.a,z.c),au⟩).toArray 37 (0,0)),aq t (.cells #[.int .i64 0] 30 (0,0))] O<|λw d=>Ra n t (ga (eB m fs) ⟨A,(z.a,z.c),au⟩) O 0 0 w d) (hV O (eM 0 O O bs O)<|h6 1 O O O ab) λB d=>?_;rw [Wz C D ak (by rw [mV,bt,nt,cA])];exact ⟨⟨A,(z.a,z.c),au⟩,O,d.fr,⟨qX b8<|aG d (by simp) b6,by rw [bu]; exact QN cF (aG d (by simp) cE) (aG d (by simp) bi) bj,tC cB<|aG d (by simp) cz⟩⟩
structure WK where
 ma:cb
 fa:SP
 oa:SP
 na:SP
structure ZY (HS:View) (m:df) (fs:List (List UInt8×List cP)) (ns:List (List UInt8)) (q:WK):Prop where
 aA:Sl rdStr 1 HS q.ma.a1 q.ma.c1 m.aA
 gC:Sl xP 2 HS q.fa.1 q.fa.2 fs
 own:Sl lP 4 HS q.oa.1 q.oa.2 (fy m)
 names:Sl rdStr 1 HS q.na.1 q.na.2 ns
 len:m.aA.length=fs.length
structure GQ where
 i:Nat
 es:List XP
 a:Option Addr
 c:Nat
 J:View
 ns:List (List UInt8)
 na:SP
variable {dj:Option Addr}
def z7 (hv:bG an b4)    (h:Sl lP 4 an dj Z bq):Sl lP 4 b4 dj Z bq:=h.imp λb o x a=>QF hv b o x a
def hc:aat prog 49=some 5:=ab
def p8:aat prog 35=some 7:=ab
def z8:au prog 51 0=some 0:=ab
def xT:au prog 37 0=some 0:=ab
def v9:au prog 37 1=some 1:=ab
def rV:au prog 37 2=some 2:=ab
def uo:aat prog 34=some 3:=ab
def xU:au prog 107 0=some 0:=ab
def z9:au prog 107 1=some 1:=ab
def Hl:au prog 107 2=some 2:=ab
def jZ:df:=(⟨[99,110,116],[],[(⟨1,[107],true,3⟩:eb),(⟨2,[115,117,109],true,0⟩:eb),(⟨3,[116],true,4⟩:eb)],[(⟨[100,111,119,110],true,[[110]],[[105]],[(b9.mk 1 [] [105] [(bT.mk 3 0 [] [110] [])] [] []),(b9.mk 5 [] [] [(bT.mk 3 0 [] [105] [])] [(b9.mk 1 [] [115,117,109] [(bT.mk 9 0 [] [] [(bT.mk 3 0 [] [115,117,109] []),(bT.mk 3 0 [] [105] [])])] [] []),(b9.mk 1 [] [105] [(bT.mk 10 0 [] [] [(bT.mk 3 0 [] [105] []),(bT.mk 1 1 [] [] [])])] [] [])] []),(b9.mk 6 [] [] [(bT.mk 3 0 [] [115,117,109] [])] [] [])]⟩:f')],[]⟩:df)
def p9:Tx:=[109,111,100,117,108,101,32,116,111,112,123,117,115,101,32,99,110,116,59,109,97,105,110,123,99,110,116,46,116,91,49,93,61,99,110,116,46,100,111,119,110,40,99,110,116,46,107,41,59,111,117,116,32,99,110,116,46,116,91,105,110,93,59,105,102,40,99,110,116,46,115,117,109,61,54,41,123,111,117,116,32,55,59,125,101,108,115,101,123,111,117,116,32,56,59,125,125,125]
def cB:df:=(lv p9).1
def gM:List (List UInt8×List cP):=[(bO,fp)]
def Zd:wM jZ<=109951162777:=by decide +kernel
def Da (s:Tx):wM (lv s).1<=73728:=by
 unfold lv
 split
 · show wM rI<=_; decide
 · rename_i h
   have a:(gj s).2=0:=by simpa using h
   have c:=(GY a).len
   split
   · rename_i m b
     split
     · have:=Mr b
       simp at this
       show wM m<=_
       omega
     · show wM rI<=_; decide
   · show wM rI<=_; decide
def Hm:hf prog 28 42 (.agg #[st [],.slice none 0 0]) 2 40:=jb ab
def WM (w:World) :
   Calls prog 47 #[] w λe c=>∃r:cb,e = .returned (.agg (iJ jZ r).toArray)/\Ext w c/\n7 7 6 (nv w c) r jZ:=by
 refine enter func47 O 33 O O ?_;refine CE (Vs:=[]) (Ws.init ai)<|ae ?_;refine Al Y O sZ λX=>?_;refine ad<|ae<|I (Yb rQ nr O O)<|I (Yb rQ nr O O)<|I (Yb rQ nr O O) ?_;refine Lb Y O vF O O O O λd=>?_;refine LN (rd:=u7) (f:=eb.cells) (m:=3) 0 [(⟨1,[107],true,3⟩:eb),(⟨2,[115,117,109],true,0⟩:eb),(⟨3,[116],true,4⟩:eb)] O O (λ_ a=>by cases a) eb.cD dN (show 3<=3 by decide) a8 λZ g h=>?_;refine Lb Y O fw O O O O λi=>?_;refine LN (rd:=rdStr) (f:=gk) (m:=1) 0 [[110]] O O (λ_ a=>by cases a) oY dN (show 1<=1 by decide) a8 λaa j k=>?_;refine Lb Y O fw O O O O λl=>?_;refine LN (rd:=rdStr) (f:=gk) (m:=1) 0 [[105]] O O (λ_ a=>by cases a) oY dN (show 1<=1 by decide) a8 λab n o=>?_;refine I (Yb jX oE O O) ?_;refine Lb Y O lB O O O O λp=>?_;refine LN (rd:=lz) (f:=XE.cells) (m:=1) 0 [((bT.mk 3 0 [] [110] []),none,0)] O O (λ_ a=>by cases a) XE.cD dN (show 1<=1 by decide) a8 λac q s=>?_;refine I (Yb sO zT O O)<|I (Yb jX oE O O) ?_;refine Lb Y O lB O O O O λt=>?_;refine LN (rd:=lz) (f:=XE.cells) (m:=1) 0 [((bT.mk 3 0 [] [105] []),none,0)] O O (λ_ a=>by cases a) XE.cD dN (show 1<=1 by decide) a8 λaf u v=>?_;refine I (Yb jX oE O O)<|I (Yb jX oE O O) ?_;refine Lb Y O lB O O O O λx=>?_;refine LN (rd:=lz) (f:=XE.cells) (m:=2) 0 [((bT.mk 3 0 [] [115,117,109] []),none,0),((bT.mk 3 0 [] [105] []),none,0)] O O (λ_ a=>by cases a) XE.cD dN (show 2<=2 by decide) a8 λag y z=>?_;refine I (Yb jX oE O O) ?_;refine Lb Y O lB O O O O λA=>?_;refine LN (rd:=lz) (f:=XE.cells) (m:=1) 0 [((bT.mk 9 0 [] [] [(bT.mk 3 0 [] [115,117,109] []),(bT.mk 3 0 [] [105] [])]),(some ⟨x,0,none⟩),2)] O O (λ_ a=>by cases a) XE.cD dN (show 1<=1 by decide) a8 λah B C=>?_;refine I (Yb sO zT O O)<|I (Yb jX oE O O)<|I (Yb jX oE O O) ?_;refine Lb Y O lB O O O O λD=>?_;refine LN (rd:=lz) (f:=XE.cells) (m:=2) 0 [((bT.mk 3 0 [] [105] []),none,0),((bT.mk 1 1 [] [] []),none,0)] O O (λ_ a=>by cases a) XE.cD dN (show 2<=2 by decide) a8 λaj E F=>?_;refine I (Yb jX oE O O) ?_;refine Lb Y O lB O O O O λG=>?_;refine LN (rd:=lz) (f:=XE.cells) (m:=1) 0 [((bT.mk 10 0 [] [] [(bT.mk 3 0 [] [105] []),(bT.mk 1 1 [] [] [])]),(some ⟨D,0,none⟩),2)] O O (λ_ a=>by cases a) XE.cD dN (show 1<=1 by decide) a8 λak H J=>?_;refine I (Yb sO zT O O) ?_;refine Lb Y O nk O O O O λK=>?_;refine LN (rd:=CS) (f:=SX.cells) (m:=2) 0 [((b9.mk 1 [] [115,117,109] [(bT.mk 9 0 [] [] [(bT.mk 3 0 [] [115,117,109] []),(bT.mk 3 0 [] [105] [])])] [] []),(⟨((some ⟨A,0,none⟩),1),(none,0),(none,0)⟩:qV)),((b9.mk 1 [] [105] [(bT.mk 10 0 [] [] [(bT.mk 3 0 [] [105] []),(bT.mk 1 1 [] [] [])])] [] []),(⟨((some ⟨G,0,none⟩),1),(none,0),(none,0)⟩:qV))] O O (λ_ a=>by cases a) SX.cD dN (show 2<=2 by decide) a8 λal L M=>?_
 refine I (Yb sO zT O O)<|I (Yb jX oE O O) ?_;refine Lb Y O lB O O O O λN=>?_;refine LN (rd:=lz) (f:=XE.cells) (m:=1) 0 [((bT.mk 3 0 [] [115,117,109] []),none,0)] O O (λ_ a=>by cases a) XE.cD dN (show 1<=1 by decide) a8 λan P Q=>?_;refine I (Yb sO zT O O) ?_;refine Lb Y O nk O O O O λR=>?_;refine LN (rd:=CS) (f:=SX.cells) (m:=3) 0 [((b9.mk 1 [] [105] [(bT.mk 3 0 [] [110] [])] [] []),(⟨((some ⟨p,0,none⟩),1),(none,0),(none,0)⟩:qV)),((b9.mk 5 [] [] [(bT.mk 3 0 [] [105] [])] [(b9.mk 1 [] [115,117,109] [(bT.mk 9 0 [] [] [(bT.mk 3 0 [] [115,117,109] []),(bT.mk 3 0 [] [105] [])])] [] []),(b9.mk 1 [] [105] [(bT.mk 10 0 [] [] [(bT.mk 3 0 [] [105] []),(bT.mk 1 1 [] [] [])])] [] [])] []),(⟨((some ⟨t,0,none⟩),1),((some ⟨K,0,none⟩),2),(none,0)⟩:qV)),((b9.mk 6 [] [] [(bT.mk 3 0 [] [115,117,109] [])] [] []),(⟨((some ⟨N,0,none⟩),1),(none,0),(none,0)⟩:qV))] O O (λ_ a=>by cases a) SX.cD dN (show 3<=3 by decide) a8 λao S T=>?_;refine I (Yb uf Nk O O) ?_;refine Lb Y O GW O O O O λU=>?_;refine LN (rd:=vg) (f:=PX.cells) (m:=1) 0 [((⟨[100,111,119,110],true,[[110]],[[105]],[(b9.mk 1 [] [105] [(bT.mk 3 0 [] [110] [])] [] []),(b9.mk 5 [] [] [(bT.mk 3 0 [] [105] [])] [(b9.mk 1 [] [115,117,109] [(bT.mk 9 0 [] [] [(bT.mk 3 0 [] [115,117,109] []),(bT.mk 3 0 [] [105] [])])] [] []),(b9.mk 1 [] [105] [(bT.mk 10 0 [] [] [(bT.mk 3 0 [] [105] []),(bT.mk 1 1 [] [] [])])] [] [])] []),(b9.mk 6 [] [] [(bT.mk 3 0 [] [115,117,109] [])] [] [])]⟩:f'),(⟨((some ⟨i,0,none⟩),1),((some ⟨l,0,none⟩),1),((some ⟨R,0,none⟩),3)⟩:i0))] O O (λ_ a=>by cases a) PX.cD dN (show 1<=1 by decide) a8 λap V W=>?_;refine I (Yb sZ CY O O)<|aT 0 Y O O O uh O O O<|ad<|am ?_;refine WE.IB 0 O O O nQ O λc b=>?_;exact ⟨⟨none,0,(some ⟨d,0,none⟩),3,(some ⟨U,0,none⟩),1,none,0⟩,O,b.fr,⟨Sl.nil,(GV h<|aG b ai g),(Nh W (aG b ai V) (bG.refl _)<|(rT.nil _).snoc (bG.refl _) (bG.refl _) ⟨(qX k<|aG b ai j),(qX o<|aG b ai n),(uZ T (aG b ai S) (bG.refl _)<|(((qW.nil _ 5).snoc (bG.refl _) (bG.refl _) ⟨(lA s (aG b ai q) (bG.refl _)<|(iB.nil _ 6).snoc (bG.refl _) (bG.refl _) Sl.nil),Sl.nil,Sl.nil⟩).snoc (bG.refl _) (bG.refl _) ⟨(lA v (aG b ai u) (bG.refl _)<|(iB.nil _ 6).snoc (bG.refl _) (bG.refl _) Sl.nil),(uZ M (aG b ai L) (bG.refl _)<|((qW.nil _ 4).snoc (bG.refl _) (bG.refl _) ⟨(lA C (aG b ai B) (bG.refl _)<|(iB.nil _ 6).snoc (bG.refl _) (bG.refl _)<|lA z (aG b ai y) (bG.refl _)<|((iB.nil _ 5).snoc (bG.refl _) (bG.refl _) Sl.nil).snoc (bG.refl _) (bG.refl _) Sl.nil),Sl.nil,Sl.nil⟩).snoc (bG.refl _) (bG.refl _) ⟨(lA J (aG b ai H) (bG.refl _)<|(iB.nil _ 6).snoc (bG.refl _) (bG.refl _)<|lA F (aG b ai E) (bG.refl _)<|((iB.nil _ 5).snoc (bG.refl _) (bG.refl _) Sl.nil).snoc (bG.refl _) (bG.refl _) Sl.nil),Sl.nil,Sl.nil⟩),Sl.nil⟩).snoc (bG.refl _) (bG.refl _) ⟨(lA Q (aG b ai P) (bG.refl _)<|(iB.nil _ 6).snoc (bG.refl _) (bG.refl _) Sl.nil),Sl.nil,Sl.nil⟩)⟩),Sl.nil⟩⟩
def WN (w:World) :
   Calls prog 48 #[] w λe a=>e = .returned (st p9)/\Ext w a:=by
 refine enter func48 O 1 O O ?_;refine CE (Vs:=[]) (Ws.init ai)<|ae<|ag O<|ad<|ae<|ag O<|ad<|am ?_;refine R1 O O λa b=>?_;exact ⟨O,b.fr⟩
def Db:au prog 350 0=some 0:=ab
def Dc:aat prog 274=some 3:=ab
def Dd:hr prog 276=some 3:=ab
def z':zeroOf prog 276=some (.agg #[.bool false,.int .i64 0,.slice none 0 0]):=ab
def nw:aJ prog 276=some 3:=ab
def NY:au prog 276 0=some 0:=ab
def WO:au prog 276 1=some 1:=ab
def Df:au prog 276 2=some 2:=ab
def e3:aat prog 29=some 1:=ab
def Hn:au prog 350 1=some 1:=ab
def Dg (b d:View) (f:Nat) (p:Option Addr) (q:Nat) (kn:List ec) (aC:Int) (m pl n:Int) (w:World) (u:Le b w) (v:Le d w) (r:vc b f 0=some (.slice p kn.length q)) (A:vc b f 1=some (.int .i64 aC)) (g:Sl o3 3 d p q kn) (B:0<=n/\n<=32) :
   Calls prog 327 #[.pointer (some ⟨f,0,none⟩),.int .i64 m,.int .i64 pl,.int .i64 n] w λe c=>e = .returned (.bool<|jv kn m pl n)/\Ext w c:=by
 have C:=g.cap;have D:=g.max;refine enter func327 O 52 O O ?_;refine CE (Vs:=[b,d]) (Ws.init (by simp [u,v]))<|ae<|ag O<|ad<|Cs<|ae<|ac O<|I (cI O O)<|ac O ?_;apply Lo 7 O O O O Y O O O O O
 ·intro E;refine Vg (Ym O)<|Vg (Ym O)<|Vg (bw O)<|Vg (Yf Db O)<|Vg (eQ 0 ab O O<|r)<|Vg (Yn Dc O)<|Vg (hS O O) ?_;exact Gt 7 O O O
 refine ac O ?_;apply Lo 2 O O O O Y O O O O O
 ·intro F;refine Vg (Ym O)<|Vg (cI O O) ?_;exact Gt 2 O O O
 refine ac O ?_;apply Lo 2 O O O O Y O O O O O
 ·intro G;refine Vg (Ym O)<|Vg (eh O O) ?_;exact Gt 2 O O O
 refine ad ?_;refine Cc O (λi=>?_)<|λi=>?_
 ·refine ae<|ag O<|ad<|am<|Er ?_;refine R1 O O λc a=>?_;exact ⟨by rw [yP n i],a.fr⟩
 have j:mu kn m pl=false:=i;obtain ⟨⟨x,rfl,s⟩,H,J⟩:=yQ j;obtain ⟨k,l⟩:=cR s;obtain ⟨K,L,y,M,z,t⟩:=g.b5 x k l;have N:=t.cap;have P:=t.max;refine bW<|Cs<|ae<|ac O<|I (bw O)<|I (Yf Db O)<|I (eQ 0 ab O O<|r)<|ac O<|I (Yo Dc O O y s)<|I (dz 1 Dd O O O<|z) ?_;refine Al Y O z' λQ=>?_;refine aT 0 Y O O O nw O O O<|ad<|ae<|I (Yf NY O)<|I (Yd 0 O O O ab)<|ad ?_;refine Cc O (λo=>?_)<|λo=>?_
 ·refine ae<|ac O<|ac O<|I (ni O O aa)<|I (Yf WO O)<|I (Yd 0 O O O ab)<|I (jF O O)<|ag O ?_;refine ad<|am<|Er ?_;refine R1 O O λc a=>?_;exact ⟨by rw [tK j l,ZZ o],a.fr⟩
 refine bW<|ae<|ac O<|I (bz O O)<|ac O ?_;apply Lo 4 O O O O Y O O O O O
 ·intro R;refine Vg (Ym O)<|Vg (Ym O)<|Vg (ni O O aa)<|Vg (jF O O) ?_;exact Gt 4 O O O
 refine ag O<|ad<|am ?_;refine R1 O O λc a=>?_;exact ⟨by rw [tK j l,ZX (λe=>by have h:=o.symm.trans e; cases h)],a.fr⟩
def NZ (c d:View) (g:Nat) (s:Option Addr) (t:Nat) (kn:List ec) (aC:Int) (m pl n:Int) (w:World) (B:Le c w) (C:Le d w) (u:vc c g 0=some (.slice s kn.length t)) (M:vc c g 1=some (.int .i64 aC)) (i:Sl o3 3 d s t kn)  :
   Calls prog 329 #[.pointer (some ⟨g,0,none⟩),.int .i64 m,.int .i64 pl,.int .i64 n] w λe f=>e = .returned (.bool<|jf kn m pl n)/\Ext w f:=by
 have N:=i.cap;have P:=i.max;refine enter func329 O 54 O O ?_;refine CE (Vs:=[c,d]) (Ws.init (by simp [B,C]))<|ae<|ag O<|ad<|Cs<|ae<|ac O<|I (cI O O)<|ac O ?_;apply Lo 7 O O O O Y O O O O O
 ·intro Q;refine Vg (Ym O)<|Vg (Ym O)<|Vg (bw O)<|Vg (Yf Db O)<|Vg (eQ 0 ab O O<|u)<|Vg (Yn Dc O)<|Vg (hS O O) ?_;exact Gt 7 O O O
 refine ac O ?_;apply Lo 2 O O O O Y O O O O O
 ·intro R;refine Vg (Ym O)<|Vg (cI O O) ?_;exact Gt 2 O O O
 refine ad ?_;refine Cc O (λj=>?_)<|λj=>?_
 ·refine ae<|ag O<|ad<|am<|Er ?_;refine R1 O O λf b=>?_;exact ⟨by rw [BP n j],b.fr⟩
 have l:mW kn m pl=false:=j;obtain ⟨⟨D,rfl,v⟩,a,rfl⟩:=BQ l;obtain ⟨k,o⟩:=cR v;obtain ⟨S,T,E,U,F,p⟩:=i.b5 D k o;have V:=p.cap;have W:=p.max;refine bW<|Cs<|ae<|ac O<|I (bw O)<|I (Yf Db O)<|I (eQ 0 ab O O<|u)<|ac O<|I (Yo Dc O O E v)<|I (dz 1 Dd O O O<|F) ?_;refine Al Y O z' λX=>?_;refine aT 0 Y O O O nw O O O<|ad<|ae<|I (Yf NY O)<|I (Yd 0 O O O ab)<|ad ?_;refine Cc O (λq=>?_)<|λq=>?_
 ·refine ae<|ac O<|I (Yf Df O)<|I (Yd 0 O O O ab)<|I (Yn e3 O)<|I (cI O O)<|ac O ?_;apply La 7 (x:=(k.parts[((a:Int)).toNat]?).getD 0==n) O O O O Y O O O O O
  ·intro G
   have z:a<k.parts.length:=by simpa using G
   obtain ⟨y,A⟩:=cR z;obtain ⟨H,J,K,r⟩:=p.b5 a y A;have r:ar d H (J+a*1) (g5 y):=r
   have L:(k.parts[a]?).getD 0=y:=by rw [A]; rfl
   refine Vg (Yf Df O)<|Vg (Yd 0 O O O ab)<|Vg (Ym O)<|Vg (Yo e3 O O K z)<|Vg (eQ 1 ab O O<|r 0 _ O)<|Vg (Ym O)<|Vg (bz O O) ?_;rw [show (y==n)=((k.parts[((a:Int)).toNat]?).getD 0==n) from by rw [i',L]];exact Gt 7 O O O
  refine ag O<|ad<|am<|Er ?_;refine R1 O O λf b=>?_;exact ⟨by rw [sk l o,ZZ q],b.fr⟩
 refine bW<|ae<|ac O<|I (cI O O)<|ac O ?_;apply La 2 O O O O Y O O O O O
 ·intro Z;refine Vg (Ym O)<|Vg (jF O O) ?_;exact Gt 2 O O O
 refine ag O<|ad<|am ?_;refine R1 O O λf b=>?_;exact ⟨by rw [sk l o,ZX (λe=>by have h:=q.symm.trans e; cases h)],b.fr⟩
def N0 (a b:View) (c:Nat) (d:Option Addr) (f:Nat) (kn:List ec) (aC:Int) (pl:Int) (w:World) (i:Le a w) (j:Le b w) (m:vc a c 0=some (.slice d kn.length f)) (k:vc a c 1=some (.int .i64 aC)) (g:Sl o3 3 b d f kn)  :
   Calls prog 326 #[.pointer (some ⟨c,0,none⟩),.int .i64 pl] w λe h=>e = .returned (.bool<|qw aC pl)/\Ext w h:=by
 have n:=g.cap;have o:=g.max;refine enter func326 O 15 O O ?_;refine CE (Vs:=[a,b]) (Ws.init (by simp [i,j]))<|ae<|ag O<|ad<|ae<|ac O<|I (hS O O)<|ac O ?_;apply La 6 O O O O Y O O O O O
 ·intro p;refine Vg (Ym O)<|Vg (Ym O)<|Vg (bw O)<|Vg (Yf Hn O)<|Vg (eQ 0 ab O O<|k)<|Vg (cI O O) ?_;exact Gt 6 O O O
 refine ag O<|ad<|am ?_;refine R1 O O λh l=>?_;exact ⟨O,l.fr⟩
def N1 (n:Int) (w:World) :
   Calls prog 328 #[.int .i64 n] w λe a=>e = .returned (.bool<|qx n)/\Ext w a:=by
 refine enter func328 O 9 O O ?_;refine CE (Vs:=[]) (Ws.init ai)<|ae<|ag O<|ad<|ae<|ac O<|I (hS O O)<|ac O ?_;apply La 2 O O O O Y O O O O O
 ·intro c;refine Vg (Ym O)<|Vg (jF O O) ?_;exact Gt 2 O O O
 refine ag O<|ad<|am ?_;refine R1 O O λa b=>?_;exact ⟨O,b.fr⟩
def WP (j k:View) (o:Nat) (q:Option Addr) (r:Nat) (kn:List ec) (aC:Int) (x:dr) (a:Option Addr) (c:Nat) (w:World) (af:Le j w) (ah:Le k w) (y:vc j o 0=some (.slice q kn.length r)) (z:vc j o 1=some (.int .i64 aC)) (s:Sl o3 3 k q r kn)  :
   Calls prog 330 #[.pointer (some ⟨o,0,none⟩),.agg (mo x a c).toArray] w λe i=>e = .returned (.bool<|node1 kn aC x.op x.n x.m x.pl x.args.length)/\Ext w i:=by
 have ak:=s.cap;have al:=s.max;refine enter func330 O 170 O O ?_;refine CE (Vs:=[j,k]) (Ws.init (by simp [af,ah]))<|ae ?_;refine WL.box Y O O λU=>?_;refine ag O<|ad<|Cs<|ae<|I (Yf lC O)<|I (Yd 0 O O O ab)<|I (Yn hc O)<|ag O<|ad<|ae<|I (Yf pn O) ?_;refine I (Yd 0 O O O ab)<|ad<|Cb<|ae<|I (bz O O)<|ag O<|ad ?_;refine Cc O (λB=>?_)<|λB=>?_
 ·have f:x.op=1:=by simpa using B
  refine ae<|I (Yf mJ O)<|I (Yd 0 O O O ab)<|I (bz O O)<|ac O ?_;apply La 3 O O O O Y O O O O O
  ·intro an;refine Vg (Yf k8 O)<|Vg (Yd 0 O O O ab)<|Vg (bz O O) ?_;exact Gt 3 O O O
  refine ac O ?_;apply La 2 O O O O Y O O O O O
  ·intro ao;refine Vg (Ym O)<|Vg (bz O O) ?_;exact Gt 2 O O O
  refine ac O ?_;apply La 3 O O O O Y O O O O O
  ·intro ap;refine Vg (Yf m9 O)<|Vg (Yd 0 O O O ab)<|Vg (hS O O) ?_;exact Gt 3 O O O
  refine ac O ?_;apply La 3 O O O O Y O O O O O
  ·intro ar;refine Vg (Yf m9 O)<|Vg (Yd 0 O O O ab)<|Vg (jF O O) ?_;exact Gt 3 O O O
  refine ag O<|ad<|am<|cN<|Er ?_;refine R1 O O λi b=>?_;exact ⟨by rw [node1,ZZ f],b.fr⟩
 have l:¬x.op=1:=by simpa using B
 refine ae<|I (bz O O)<|ag O<|ad ?_;refine Cc O (λC=>?_)<|λC=>?_
 ·have f:x.op=3:=by simpa using C
  refine ae<|I (Yf m9 O)<|I (Yd 0 O O O ab)<|I (bz O O)<|ac O ?_;apply La 2 O O O O Y O O O O O
  ·intro au;refine Vg (Ym O)<|Vg (bz O O) ?_;exact Gt 2 O O O
  refine ac O ?_;apply La 6 O O O O Y O O O O O
  ·intro av;refine Vg (Ym O)<|Vg (Yf mJ O)<|Vg (Yd 0 O O O ab)<|Vg (Yf k8 O)<|Vg (Yd 0 O O O ab)<|Lp (.g O O O) O aF O (λw b=>Dg j k o q r kn aC x.m x.pl 1 w b.V b.V y z s aa) ?_;exact Gt 6 O O O
  refine ag O<|ad<|am<|cN<|Er ?_;refine R1 O O λi b=>?_;exact ⟨by rw [node1,ZX l,ZZ f],b.fr⟩
 have p:¬x.op=3:=by simpa using C
 refine ae<|I (bz O O)<|ag O<|ad ?_;refine Cc O (λD=>?_)<|λD=>?_
 ·have f:x.op=4:=by simpa using D
  refine ae<|I (Yf m9 O)<|I (Yd 0 O O O ab)<|Lp Y O aF O (λw b=>N1 _ w)<|ac O ?_;apply La 2 O O O O Y O O O O O
  ·intro aw;refine Vg (Ym O)<|Vg (bz O O) ?_;exact Gt 2 O O O
  refine ac O ?_;apply La 8 O O O O Y O O O O O
  ·intro W
   have ai:0<=x.n/\x.n<=32:=by
     unfold qx at W;simp at W;omega
   refine Vg (Ym O)<|Vg (Yf mJ O)<|Vg (Yd 0 O O O ab)<|Vg (Yf k8 O)<|Vg (Yd 0 O O O ab)<|Vg (Yf m9 O)<|Vg (Yd 0 O O O ab)<|Lp (.g O O O) O aF O (λw b=>Dg j k o q r kn aC x.m x.pl x.n w b.V b.V y z s ai) ?_;exact Gt 8 O O O
  refine ag O<|ad<|am<|cN<|Er ?_;refine R1 O O λi b=>?_;exact ⟨by rw [node1,ZX l,ZX p,ZZ f],b.fr⟩
 have t:¬x.op=4:=by simpa using D
 refine ae<|I (bz O O)<|ag O<|ad ?_;refine Cc O (λE=>?_)<|λE=>?_
 ·have f:x.op=5:=by simpa using E
  refine ae<|I (Yf m9 O)<|I (Yd 0 O O O ab)<|I (bz O O)<|ac O ?_;apply La 7 O O O O Y O O O O O
  ·intro ax;refine Vg (Ym O)<|Vg (Yf mJ O)<|Vg (Yd 0 O O O ab)<|Vg (Yf k8 O)<|Vg (Yd 0 O O O ab)<|Vg (Ym O)<|Lp (.g O O O) O aF O (λw b=>NZ j k o q r kn aC x.m x.pl x.args.length w b.V b.V y z s) ?_;exact Gt 7 O O O
  refine ag O<|ad<|am<|cN<|Er ?_;refine R1 O O λi b=>?_;exact ⟨by rw [node1,ZX l,ZX p,ZX t,ZZ f],b.fr⟩
 have u:¬x.op=5:=by simpa using E
 refine ae<|I (bz O O)<|ag O<|ad ?_;refine Cc O (λF=>?_)<|λF=>?_
 ·have f:x.op=16:=by simpa using F
  refine ae<|I (Yf mJ O)<|I (Yd 0 O O O ab)<|I (bz O O)<|ac O ?_;apply La 3 O O O O Y O O O O O
  ·intro ay;refine Vg (Yf m9 O)<|Vg (Yd 0 O O O ab)<|Vg (bz O O) ?_;exact Gt 3 O O O
  refine ac O ?_;apply La 2 O O O O Y O O O O O
  ·intro az;refine Vg (Ym O)<|Vg (bz O O) ?_;exact Gt 2 O O O
  refine ac O ?_;apply La 4 O O O O Y O O O O O
  ·intro aA;refine Vg (Ym O)<|Vg (Yf k8 O)<|Vg (Yd 0 O O O ab)<|Lp (.g O O O) O aF O (λw b=>N0 j k o q r kn aC x.pl w b.V b.V y z s) ?_;exact Gt 4 O O O
  refine ag O<|ad<|am<|cN<|Er ?_;refine R1 O O λi b=>?_;exact ⟨by rw [node1,ZX l,ZX p,ZX t,ZX u,ZZ f],b.fr⟩
 have A:¬x.op=16:=by simpa using F
 refine ae<|I (bz O O)<|ag O<|ad ?_;refine Cc O (λG=>?_)<|λG=>?_
 ·have f:x.op=2:=by simpa using G
  refine ae<|I (Yf mJ O)<|I (Yd 0 O O O ab)<|I (bz O O)<|ac O ?_;apply La 3 O O O O Y O O O O O
  ·intro aB;refine Vg (Yf k8 O)<|Vg (Yd 0 O O O ab)<|Vg (bz O O) ?_;exact Gt 3 O O O
  refine ac O ?_;apply La 3 O O O O Y O O O O O
  ·intro aD;refine Vg (Yf m9 O)<|Vg (Yd 0 O O O ab)<|Vg (bz O O) ?_;exact Gt 3 O O O
  refine ac O ?_;apply La 2 O O O O Y O O O O O
  ·intro aE;refine Vg (Ym O)<|Vg (bz O O) ?_;exact Gt 2 O O O
  refine ag O<|ad<|am<|cN<|Er ?_;refine R1 O O λi b=>?_;exact ⟨by rw [node1,ZX l,ZX p,ZX t,ZX u,ZX A,ZZ f],b.fr⟩
 have H:¬x.op=2:=by simpa using G
 refine ae<|I (bz O O)<|ag O<|ad ?_;refine Cc O (λJ=>?_)<|λJ=>?_
 ·have f:x.op=6:=by simpa using J
  refine ae<|I (Yf mJ O)<|I (Yd 0 O O O ab)<|I (bz O O)<|ac O ?_;apply La 3 O O O O Y O O O O O
  ·intro aG;refine Vg (Yf k8 O)<|Vg (Yd 0 O O O ab)<|Vg (bz O O) ?_;exact Gt 3 O O O
  refine ac O ?_;apply La 3 O O O O Y O O O O O
  ·intro aH;refine Vg (Yf m9 O)<|Vg (Yd 0 O O O ab)<|Vg (bz O O) ?_;exact Gt 3 O O O
  refine ac O ?_;apply La 2 O O O O Y O O O O O
  ·intro aI;refine Vg (Ym O)<|Vg (bz O O) ?_;exact Gt 2 O O O
  refine ag O<|ad<|am<|cN<|Er ?_;refine R1 O O λi b=>?_;exact ⟨by rw [node1,ZX l,ZX p,ZX t,ZX u,ZX A,ZX H,ZZ f],b.fr⟩
 have X:¬x.op=6:=by simpa using J
 refine WC.yG (ι:=Bool) (λv=>[(3,.pointer (some ⟨U,0,none⟩)),(5,.int .i64 (x.args.length:Int)),(143,.bool v)]) (λv=>Ws w [] [aq U (.cells (mo x a c).toArray 53 (0,0))] [j,k]) (λv=>v=decide (7<=x.op/\x.op<=15)) ?_ ?_
 ·refine ae<|I (bz O O)<|ag O<|ad ?_;refine Cc O (λK=>?_)<|λK=>?_
  ·refine Ck ?_
   exact h' (x.op==7) (by have d:x.op=7:=(by simpa using K); rw [d]; decide) (λ_ h=>by
     have h:=h.aj 0 rfl
     exact h)
  have aJ:¬x.op=7:=by simpa using K
  refine ae<|I (bz O O)<|ag O<|ad ?_;refine Cc O (λL=>?_)<|λL=>?_
  ·refine Ck ?_
   exact h' (x.op==8) (by have d:x.op=8:=(by simpa using L); rw [d]; decide) (λ_ h=>by
     have h:=h.aj 0 rfl
     exact h)
  have aK:¬x.op=8:=by simpa using L
  refine ae<|I (bz O O)<|ag O<|ad ?_;refine Cc O (λM=>?_)<|λM=>?_
  ·refine Ck ?_
   exact h' (x.op==9) (by have d:x.op=9:=(by simpa using M); rw [d]; decide) (λ_ h=>by
     have h:=h.aj 0 rfl
     exact h)
  have aL:¬x.op=9:=by simpa using M
  refine ae<|I (bz O O)<|ag O<|ad ?_;refine Cc O (λN=>?_)<|λN=>?_
  ·refine Ck ?_
   exact h' (x.op==10) (by have d:x.op=10:=(by simpa using N); rw [d]; decide) (λ_ h=>by
     have h:=h.aj 0 rfl
     exact h)
  have aM:¬x.op=10:=by simpa using N
  refine ae<|I (bz O O)<|ag O<|ad ?_;refine Cc O (λP=>?_)<|λP=>?_
  ·refine Ck ?_
   exact h' (x.op==11) (by have d:x.op=11:=(by simpa using P); rw [d]; decide) (λ_ h=>by
     have h:=h.aj 0 rfl
     exact h)
  have aN:¬x.op=11:=by simpa using P
  refine ae<|I (bz O O)<|ag O<|ad ?_;refine Cc O (λQ=>?_)<|λQ=>?_
  ·refine Ck ?_
   exact h' (x.op==12) (by have d:x.op=12:=(by simpa using Q); rw [d]; decide) (λ_ h=>by
     have h:=h.aj 0 rfl
     exact h)
  have aO:¬x.op=12:=by simpa using Q
  refine ae<|I (bz O O)<|ag O<|ad ?_;refine Cc O (λR=>?_)<|λR=>?_
  ·refine Ck ?_
   exact h' (x.op==13) (by have d:x.op=13:=(by simpa using R); rw [d]; decide) (λ_ h=>by
     have h:=h.aj 0 rfl
     exact h)
  have aP:¬x.op=13:=by simpa using R
  refine ae<|I (bz O O)<|ag O<|ad ?_;refine Cc O (λS=>?_)<|λS=>?_
  ·refine Ck ?_
   exact h' (x.op==14) (by have d:x.op=14:=(by simpa using S); rw [d]; decide) (λ_ h=>by
     have h:=h.aj 0 rfl
     exact h)
  have aQ:¬x.op=14:=by simpa using S
  refine Cr<|I (bz O O)<|ag O<|Ln ?_
  exact h' (x.op==15) (by rw [kr]; simp; omega) (λ_ h=>by
    have h:=h.aj 0 rfl
    exact h)
 intro v Z;refine Cc O (λT=>?_)<|λT=>?_
 ·refine ae<|I (Yf mJ O)<|I (Yd 0 O O O ab)<|I (bz O O)<|ac O ?_;apply La 3 O O O O Y O O O O O
  ·intro aR;refine Vg (Yf k8 O)<|Vg (Yd 0 O O O ab)<|Vg (bz O O) ?_;exact Gt 3 O O O
  refine ac O ?_;apply La 3 O O O O Y O O O O O
  ·intro aS;refine Vg (Yf m9 O)<|Vg (Yd 0 O O O ab)<|Vg (bz O O) ?_;exact Gt 3 O O O
  refine ac O ?_;apply La 2 O O O O Y O O O O O
  ·intro aT;refine Vg (Ym O)<|Vg (bz O O) ?_;exact Gt 2 O O O
  refine ag O<|ad<|am<|cN<|Er ?_;refine R1 O O λi b=>?_;exact ⟨by rw [node1,ZX l,ZX p,ZX t,ZX u,ZX A,ZX H,ZX X,ZZ (aag<|Z.symm.trans T)],b.fr⟩
 refine Ck<|Eb<|Et<|ae<|ag O<|ad<|am ?_;refine R1 O O λi b=>?_;exact ⟨by rw [node1,ZX l,ZX p,ZX t,ZX u,ZX A,ZX H,ZX X,ZX (aal<|Z.symm.trans T)],b.fr⟩
def WQ {a b:Nat} (c:a<=9223372036854775807) (d:b<=9223372036854775807):(IntKind.i64.wrap ((a:Int)+(b:Int))==0)=((a:Int)+(b:Int)==0):=by
 rw [kr];simp only [aac];rw [IntKind.wrap_i64];omega
def WR (f j:View) (m:Nat) (n:Option Addr) (o:Nat) (kn:List ec) (aC:Int) (p:View) (k:Nat) (l:List dr) (a:Option Addr) (c:Nat) (d:Nat) (w:World) (E:Le f w) (F:Le j w) (G:vc f m 0=some (.slice n kn.length o)) (H:vc f m 1=some (.int .i64 aC)) (q:Sl o3 3 j n o kn) (J:Le p w) (r:Sl (ie k) 5 p a c l) (R:d<=7) :
   Calls prog 275 #[.pointer (some ⟨m,0,none⟩),.slice a l.length c,.int .i64 (d:Int)] w λe s=>e = .returned (.bool<|gA kn aC l d)/\Ext w s:=by
 have S:=q.cap;have T:=q.max
 induction k using Nat.strongRecOn generalizing l a c d w
 rename_i k K;have U:=r.cap;have W:=r.max;refine enter func275 O 33 O O ?_;refine CE (Vs:=[f,j,p]) (Ws.init (by simp [E,F,J]))<|ae<|ag O<|ad<|Cs<|ae<|ac O<|I (Yn hc O)<|ac O<|ad<|Cb ?_;refine ql (ι:=Nat) (λi=>[(11,.int .i64 (i:Int))]) [(0,_),(2,_),(9,_),(10,_)] (λi=>i<=l.length/\(l.take i).all (jg kn aC · d)=true) (λi=>l.length-i) 0 ⟨di _,O⟩ ?_;intro i ⟨hi,t⟩;refine ae<|I (cI O O)<|ad<|Cs ?_;refine Cc O (λu=>?_)<|λu=>?_
 ·have C:i<l.length:=by simpa using u
  obtain ⟨x,v⟩:=cR C;obtain ⟨X,Z,L,D⟩:=r.b5 i x v
  obtain ⟨k2,rfl⟩:∃k2,k=k2+1:=by
    cases k with
    | zero=>exact D.elim
    | succ k2=>exact ⟨k2,rfl⟩
  obtain ⟨y,z,M,N⟩:=D;refine bW<|Cs<|Cb<|ae<|I (Yo hc O O L C)<|I (dz 2 gS O O O<|M) ?_;refine Al Y O xN λaf=>?_;refine aT 0 Y O O O z1 O O O<|ad<|Cs<|aao 0 (.cells (mo x y z).toArray 53 (0,0)) O O<|Cr<|ac O<|I (eh O O)<|ac O ?_;apply Lo 4 O O O O Y O O O O O
  ·intro ah;refine Vg (Ym O)<|Vg (db 0 O O gS O)<|Lp (.g O O O) O aF O (λw b=>WP f j m n o kn aC x y z w b.V b.V G H q)<|Vg (gW O) ?_;exact Gt 4 O O O
  refine ac O ?_;apply Lo 7 O O O O Y O O O O O
  ·intro P
   have ai:d<=6:=by
     have Q:=(i9.1 P).1;simp at Q; omega
   refine Vg (Ym O)<|Vg (Yf lC O)<|Vg (Yd 0 O O O ab)<|Vg (Ym O)<|Vg (Yi O O O aa)<|Lp (.g O O O) O aF O (λw b=>K k2 aa x.args y z (d+1) w b.V b.V b.V N aa)<|Vg (gW O) ?_;exact Gt 7 O O O
  refine ad ?_;rw [Q4];refine Cc O (λA=>?_)<|λA=>?_
  ·have B:jg kn aC x d=false:=by simpa using A
   refine ae<|ag O<|ad<|am<|cN<|Er<|Er<|cN<|Er ?_;refine R1 O O λs b=>?_;exact ⟨by rw [yR,w2 v B],b.fr⟩
  have B:jg kn aC x d=true:=by simpa using A
  refine Ck<|Eb<|Et<|Cr<|I (Yi O O O aa)<|ac O<|Ln ?_;exact c8 (i+1) aa ⟨aa,w3 v t B⟩<|λ_ h=>Wd 1 h
 have aj:¬i<l.length:=by simpa using u
 rw [lJ aa] at t;refine Ce<|Ex<|Ex<|dQ<|Et<|ae<|ag O<|ad<|am ?_;refine R1 O O λs b=>?_;exact ⟨by rw [yR,t],b.fr⟩
def Ze (b f:View) (j:Nat) (k:Option Addr) (l:Nat) (kn:List ec) (aC:Int) (x:c_) (r:sg) (w:World) (K:Le b w) (L:Le f w) (t:vc b j 0=some (.slice k kn.length l)) (u:vc b j 1=some (.int .i64 aC)) (o:Sl o3 3 f k l kn) (M:x.body.length<=9223372036854775807) (N:x.other.length<=9223372036854775807) :
   Calls prog 274 #[.pointer (some ⟨j,0,none⟩),.agg (de x r).toArray] w λe i=>e = .returned (.bool<|aW kn aC x.op x.n x.m x.pl x.args.length x.body.length x.other.length)/\Ext w i:=by
 have S:=o.cap;have T:=o.max;refine enter func274 O 135 O O ?_;refine CE (Vs:=[b,f]) (Ws.init (by simp [K,L]))<|ae ?_;refine WL.box Y O O λP=>?_;refine ag O<|ad<|Cs ?_;refine WC.qn [(0,true),(1,true),(2,true),(3,true),(4,true),(5,true),(6,true),(7,true),(8,true),(9,true),(10,true),(11,true),(12,true)] mixed ab (λ_ _ _ d _ h=>by cases d<;>exact h) ?_;refine D0 O ay (Yf lD O)<|D0 O ay (Yd 0 O O O ab)<|D0 O ay (Yn hc O)<|D0 O ay (Yf v7 O)<|D0 O ay (Yd 0 O O O ab)<|D0 O ay (Yn p8 O)<|D0 O ay (Yf uk O)<|D0 O ay (Yd 0 O O O ab) ?_;refine D0 O ay (Yn p8 O)<|D0 O ay (r3 O O)<|D0 O ay (bz O O) ?_;rw [WQ M N];refine D0 O ay (Ya O)<|D0 O ay (Ya O) ?_;refine WD.nil ay ?_;refine Et<|ae<|I (Yf mK O)<|I (Yd 0 O O O ab)<|I (bz O O)<|ac O ?_;apply La 3 O O O O Y O O O O O
 ·intro U;refine Vg (Yf cf O)<|Vg (Yd 0 O O O ab)<|Vg (bz O O) ?_;exact Gt 3 O O O
 refine ac O ?_;apply La 3 O O O O Y O O O O O
 ·intro W;refine Vg (Yf uj O)<|Vg (Yd 0 O O O ab)<|Vg (bz O O) ?_;exact Gt 3 O O O
 refine ag O<|ad<|Cs<|ae<|I (Yf z8 O)<|I (Yd 0 O O O ab)<|ad<|Cb<|ae<|I (bz O O)<|ag O<|ad ?_;refine Cc O (λz=>?_)<|λz=>?_
 ·have c:x.op=1:=by simpa using z
  refine ae<|ac O<|ac O ?_;apply La 2 O O O O Y O O O O O
  ·intro X;refine Vg (Ym O)<|Vg (bz O O) ?_;exact Gt 2 O O O
  refine ac O ?_;apply La 3 O O O O Y O O O O O
  ·intro Z;refine Vg (Yf uj O)<|Vg (Yd 0 O O O ab)<|Vg (bz O O) ?_;exact Gt 3 O O O
  refine ac O ?_;apply La 17 O O O O Y O O O O O
  ·intro af;refine Vg (Yf mK O)<|Vg (Yd 0 O O O ab)<|Vg (bz O O)<|Vg (Ym O) ?_;apply La 4 O O O O (.g O O O) O O O O O
   ·intro ah;refine Vg (Ym O)<|Vg (Yf cf O)<|Vg (Yd 0 O O O ab)<|Lp (.g O O O) O aF O (λw a=>N0 b f j k l kn aC x.pl w a.V a.V t u o) ?_;exact Gt 4 O O O
   refine Vg (Ym O) ?_;apply Lo 6 O O O O (.g O O O) O O O O O
   ·intro ai;refine Vg (Ym O)<|Vg (Yf mK O)<|Vg (Yd 0 O O O ab)<|Vg (Yf cf O)<|Vg (Yd 0 O O O ab)<|Lp (.g O O O) O aF O (λw a=>Dg b f j k l kn aC x.m x.pl 1 w a.V a.V t u o aa) ?_;exact Gt 6 O O O
   exact Gt 7 O O O
  refine ag O<|ad<|am<|cN<|Er ?_;refine R1 O O λi a=>?_;exact ⟨by rw [aW,ZZ c],a.fr⟩
 have p:¬x.op=1:=by simpa using z
 refine ae<|I (bz O O)<|ag O<|ad ?_;refine Cc O (λA=>?_)<|λA=>?_
 ·have c:x.op=2:=by simpa using A
  refine ae<|ac O<|ac O ?_;apply La 2 O O O O Y O O O O O
  ·intro ak;refine Vg (Ym O)<|Vg (bz O O) ?_;exact Gt 2 O O O
  refine ac O ?_;apply La 3 O O O O Y O O O O O
  ·intro al;refine Vg (Yf uj O)<|Vg (Yd 0 O O O ab)<|Lp (.g O O O) O aF O (λw a=>N1 _ w) ?_;exact Gt 3 O O O
  refine ac O ?_;apply La 8 O O O O Y O O O O O
  ·intro Q
   have R:0<=x.n/\x.n<=32:=by
     have v:=(eH.1 Q).2;unfold qx at v;simp at v;omega
   refine Vg (Ym O)<|Vg (Yf mK O)<|Vg (Yd 0 O O O ab)<|Vg (Yf cf O)<|Vg (Yd 0 O O O ab)<|Vg (Yf uj O)<|Vg (Yd 0 O O O ab)<|Lp (.g O O O) O aF O (λw a=>Dg b f j k l kn aC x.m x.pl x.n w a.V a.V t u o R) ?_;exact Gt 8 O O O
  refine ag O<|ad<|am<|cN<|Er ?_;refine R1 O O λi a=>?_;exact ⟨by rw [aW,ZX p,ZZ c],a.fr⟩
 have q:¬x.op=2:=by simpa using A
 refine ae<|I (bz O O)<|ag O<|ad ?_;refine Cc O (λB=>?_)<|λB=>?_
 ·have c:x.op=3:=by simpa using B
  refine ae<|ac O<|ac O ?_;apply La 3 O O O O Y O O O O O
  ·intro an;refine Vg (Yf uj O)<|Vg (Yd 0 O O O ab)<|Vg (bz O O) ?_;exact Gt 3 O O O
  refine ac O ?_;apply La 7 O O O O Y O O O O O
  ·intro ao;refine Vg (Ym O)<|Vg (Yf mK O)<|Vg (Yd 0 O O O ab)<|Vg (Yf cf O)<|Vg (Yd 0 O O O ab)<|Vg (Ym O)<|Lp (.g O O O) O aF O (λw a=>NZ b f j k l kn aC x.m x.pl x.args.length w a.V a.V t u o) ?_;exact Gt 7 O O O
  refine ag O<|ad<|am<|cN<|Er ?_;refine R1 O O λi a=>?_;exact ⟨by rw [aW,ZX p,ZX q,ZZ c],a.fr⟩
 have y:¬x.op=3:=by simpa using B
 refine ae<|I (bz O O)<|ag O<|ad ?_;refine Cc O (λC=>?_)<|λC=>?_
 ·have c:x.op=4:=by simpa using C
  refine ae<|ac O<|ac O ?_;apply La 2 O O O O Y O O O O O
  ·intro ap;refine Vg (Ym O)<|Vg (bz O O) ?_;exact Gt 2 O O O
  refine ag O<|ad<|am<|cN<|Er ?_;refine R1 O O λi a=>?_;exact ⟨by rw [aW,ZX p,ZX q,ZX y,ZZ c],a.fr⟩
 have D:¬x.op=4:=by simpa using C
 refine ae<|I (bz O O)<|ag O<|ad ?_;refine Cc O (λE=>?_)<|λE=>?_
 ·have c:x.op=5:=by simpa using E
  refine ae<|ac O<|ac O ?_;apply La 2 O O O O Y O O O O O
  ·intro ar;refine Vg (Ym O)<|Vg (bz O O) ?_;exact Gt 2 O O O
  refine ac O ?_;apply La 4 O O O O Y O O O O O
  ·intro au;refine Vg (Yf uk O)<|Vg (Yd 0 O O O ab)<|Vg (Yn p8 O)<|Vg (bz O O) ?_;exact Gt 4 O O O
  refine ag O<|ad<|am<|cN<|Er ?_;refine R1 O O λi a=>?_;exact ⟨by rw [aW,ZX p,ZX q,ZX y,ZX D,ZZ c],a.fr⟩
 have H:¬x.op=5:=by simpa using E
 refine WC.yG (ι:=Bool) (λs=>[(5,.int .i64 (x.args.length:Int)),(6,.bool ((x.body.length:Int)+(x.other.length:Int)==0)),(7,.bool (((x.m==0)&&(x.pl==0))&&(x.n==0))),(124,.bool s)]) (λs=>Ws w [] [aq P (.cells (de x r).toArray 51 (0,0))] [b,f]) (λs=>s=decide (x.op=6\/x.op=7)) ?_ ?_
 ·refine ae<|I (bz O O)<|ag O<|ad ?_;refine Cc O (λF=>?_)<|λF=>?_
  ·refine Ck ?_
   exact h' (x.op==6) (by have v:x.op=6:=(by simpa using F); rw [v]; decide) (λ_ h=>by
     have h:=h.aj 0 rfl
     exact h)
  have av:¬x.op=6:=by simpa using F
  refine Cr<|I (bz O O)<|ag O<|Ln ?_
  exact h' (x.op==7) (by rw [kr]; simp; omega) (λ_ h=>by
    have h:=h.aj 0 rfl
    exact h)
 intro s J;refine Cc O (λG=>?_)<|λG=>?_
 ·refine ae<|ac O<|ac O ?_;apply La 1 O O O O Y O O O O O
  ·intro aw;refine Vg (Ym O) ?_;exact Gt 1 O O O
  refine ac O ?_;apply La 2 O O O O Y O O O O O
  ·intro ax;refine Vg (Ym O)<|Vg (bz O O) ?_;exact Gt 2 O O O
  refine ag O<|ad<|am<|cN<|Er ?_;refine R1 O O λi a=>?_;exact ⟨by rw [aW,ZX p,ZX q,ZX y,ZX D,ZX H,ZZ (aag<|J.symm.trans G)],a.fr⟩
 refine Ck<|Eb<|Et<|ae<|ag O<|ad<|am ?_;refine R1 O O λi a=>?_;exact ⟨by rw [aW,ZX p,ZX q,ZX y,ZX D,ZX H,ZX (aal<|J.symm.trans G)],a.fr⟩
def N2 (f j:View) (m:Nat) (n:Option Addr) (o:Nat) (kn:List ec) (aC:Int) (p:View) (ke k:Nat) (l:List c_) (a:Option Addr) (c:Nat) (d:Nat) (w:World) (L:Le f w) (M:Le j w) (E:vc f m 0=some (.slice n kn.length o)) (F:vc f m 1=some (.int .i64 aC)) (q:Sl o3 3 j n o kn) (N:Le p w) (t:Sl (gG ke k) 7 p a c l) (S:d<=7) :
   Calls prog 235 #[.pointer (some ⟨m,0,none⟩),.slice a l.length c,.int .i64 (d:Int)] w λe s=>e = .returned (.bool<|gO kn aC l d)/\Ext w s:=by
 have T:=q.cap;have U:=q.max
 induction k using Nat.strongRecOn generalizing l a c d w
 rename_i k G;have W:=t.cap;have X:=t.max;refine enter func235 O 68 O O ?_;refine CE (Vs:=[f,j,p]) (Ws.init (by simp [L,M,N]))<|ae<|ag O<|ad<|Cs<|ae<|ac O<|I (eh O O)<|ac O ?_;apply Lo 3 O O O O Y O O O O O
 ·intro Z;refine Vg (Ym O)<|Vg (Yn p8 O)<|Vg (eh O O) ?_;exact Gt 3 O O O
 refine ad ?_;refine Cc O (λu=>?_)<|λu=>?_
 ·refine ae<|ag O<|ad<|am<|Er ?_;refine R1 O O λs b=>?_;exact ⟨by rw [Q6 kn aC l d u],b.fr⟩
 have H:=Q7 u;refine bW<|Cs<|ae<|ac O<|I (Yn p8 O)<|ac O<|ad<|Cb ?_;refine ql (ι:=Nat) (λi=>[(18,.int .i64 (i:Int))]) [(0,_),(2,_),(16,_),(17,_)] (λi=>i<=l.length/\(l.take i).all (jN kn aC · d)=true) (λi=>l.length-i) 0 ⟨di _,O⟩ ?_;intro i ⟨hi,v⟩;refine ae<|I (cI O O)<|ad<|Cs ?_;refine Cc O (λy=>?_)<|λy=>?_
 ·have J:i<l.length:=by simpa using y
  obtain ⟨x,z⟩:=cR J;obtain ⟨af,ah,P,K⟩:=t.b5 i x z
  obtain ⟨k2,rfl⟩:∃k2,k=k2+1:=by
    cases k with
    | zero=>exact K.elim
    | succ k2=>exact ⟨k2,rfl⟩
  obtain ⟨r,Q,R,A,B⟩:=K;have ai:=A.cap;have aj:=A.max;have ak:=B.cap;have al:=B.max;refine bW<|Cs<|Cb<|ae<|I (Yo p8 O O P J)<|I (dz 2 ul O O O<|Q) ?_;refine Al Y O xO λan=>?_;refine aT 0 Y O O O z5 O O O<|ad<|Cs<|aao 0 (.cells (de x r).toArray 51 (0,0)) O O<|Cr<|ac O<|I (db 0 O O ul O)<|Lp Y O aF O (λw b=>Ze f j m n o kn aC x r w b.V b.V E F q aa aa)<|I (gW O) ?_;refine ac O ?_;apply Lo 5 O O O O Y O O O O O
  ·intro ao;refine Vg (Ym O)<|Vg (Yf lD O)<|Vg (Yd 0 O O O ab)<|Lp (.g O O O) O aF O (λw b=>WR f j m n o kn aC p ke x.args r.s1.1 r.s1.2 1 w b.V b.V E F q b.V R aa)<|Vg (gW O) ?_;exact Gt 5 O O O
  refine ac O ?_;apply Lo 17 O O O O Y O O O O O
  ·intro ap;refine Vg (Yf z8 O)<|Vg (Yd 0 O O O ab)<|Vg (bz O O)<|Vg (Ym O) ?_;apply Lo 3 O O O O (.g O O O) O O O O O
   ·intro aq;refine Vg (Yf z8 O)<|Vg (Yd 0 O O O ab)<|Vg (bz O O) ?_;exact Gt 3 O O O
   refine Vg (Ym O) ?_;apply La 7 O O O O (.g O O O) O O O O O
   ·intro ar;refine Vg (Ym O)<|Vg (Yf v7 O)<|Vg (Yd 0 O O O ab)<|Vg (Ym O)<|Vg (Yi O O O aa)<|Lp (.g O O O) O aF O (λw b=>G k2 aa x.body r.s2.1 r.s2.2 (d+1) w b.V b.V b.V A aa)<|Vg (gW O) ?_;exact Gt 7 O O O
   exact Gt 7 O O O
  refine ac O ?_;apply Lo 13 O O O O Y O O O O O
  ·intro au;refine Vg (Yf uk O)<|Vg (Yd 0 O O O ab)<|Vg (Yn p8 O)<|Vg (eh O O)<|Vg (Ym O) ?_;apply La 7 O O O O (.g O O O) O O O O O
   ·intro av;refine Vg (Ym O)<|Vg (Yf uk O)<|Vg (Yd 0 O O O ab)<|Vg (Ym O)<|Vg (Yi O O O aa)<|Lp (.g O O O) O aF O (λw b=>G k2 aa x.other r.s3.1 r.s3.2 (d+1) w b.V b.V b.V B aa)<|Vg (gW O) ?_;exact Gt 7 O O O
   exact Gt 6 O O O
  refine ad ?_;rw [Q5];refine Cc O (λC=>?_)<|λC=>?_
  ·have D:jN kn aC x d=false:=by simpa using C
   refine ae<|ag O<|ad<|am<|cN<|Er<|Er<|cN<|Er ?_;refine R1 O O λs b=>?_;exact ⟨by rw [J9 kn aC H,w2 z D],b.fr⟩
  have D:jN kn aC x d=true:=by simpa using C
  refine Ck<|Eb<|Et<|Cr<|I (Yi O O O aa)<|ac O<|Ln ?_;exact c8 (i+1) aa ⟨aa,w3 z v D⟩<|λ_ h=>Wd 1 h
 have aw:¬i<l.length:=by simpa using y
 rw [lJ aa] at v;refine Ce<|Ex<|Ex<|dQ<|Et<|ae<|ag O<|ad<|am ?_;refine R1 O O λs b=>?_;exact ⟨by rw [J9 kn aC H,v],b.fr⟩
abbrev XK:=ec×(Option Addr×Nat)
def XK.cells (e:XK):List Value:=e.1.cells e.2
def XK.cD (e:XK):(XK.cells e).length=3:=rfl
def XK.one (e:XK):(XK.cells e).all (·.oneCell')=true:=rfl
def z_ (a:View) (b o:Nat) (e:XK):Prop:=ar a b o<|XK.cells e
def p' (J:View) (e:XK):Prop:=Sl hy 1 J e.2.1 e.2.2 e.1.parts
def p'.mv {e:XK} (hv:bG an b4) (h:p' an e):p' b4 e:=h.imp λ_ _ _ r=>ar.mono hv r
def N3 (a:View) (b o:Nat) (e:XK):Prop:=ar a b o (XK.cells e)/\p' a e
variable {cr:List ec}
def Zf (h:Sl o3 3 an dj Z cr):∃ys:List XK,ys.map (·.1)=cr/\Sl N3 3 an dj Z ys:=by
 obtain ⟨ys,e,f⟩:=L0 (β:=Option Addr×Nat) (p:=λi x r=>∃b o,dj=some ⟨b,o,none⟩/\ar an b (o+i*3) (ec.cells x r)/\Sl hy 1 an r.1 r.2 x.parts) cr 0 λi x g=>by
   obtain ⟨b,o,c,r,a,d⟩:=h.b5 i x g;exact ⟨r,b,o,c,by rw [lK]; exact a,d⟩
 have j:ys.length=cr.length:=by rw [<-e,fu]
 refine ⟨ys,e,by rw [j]; exact h.cap,h.max,h.spot,λi y k=>?_⟩;obtain ⟨b,o,c,a,d⟩:=f i y k;rw [lK] at a;exact ⟨b,o,c,a,d⟩
def Ho {es:List XK} (h:Sl z_ 3 an dj Z es) (hv:bG an b4) (d:∀e ∈ es,p' b4 e):Sl o3 3 b4 dj Z (es.map (·.1)):=by
 refine ⟨by rw [fu]; exact h.cap,h.max,h.spot,λi x a=>?_⟩;rw [e4] at a;obtain ⟨y,c,rfl⟩:=dS.1 a;obtain ⟨b,o,f,g⟩:=h.b5 i y c;exact ⟨b,o,f,y.2,ar.mono hv g,d y<|az c⟩
variable {cx:b8}
def N4 (h:cJ cx=false):cx.parts.length<=6/\cx.aA.length<=3/\0<=cx.data/\cx.data<=512:=by
 unfold cJ at h;simp only [i9,aad] at h;omega
variable {po:hx}
def Zg (h:(((decide (po.params<0)||decide (3<po.params))||decide (po.locals<0))||decide (4<po.locals))=true):lm cr po=false:=by unfold lm; rw [h]; rfl
def Zi {kn:List ec}  (h:(((decide (po.params<0)||decide (3<po.params))||decide (po.locals<0))||decide (4<po.locals))=false):lm kn po=gO kn (po.params+po.locals) po.body 1:=by unfold lm; rw [h]; rfl
def WW (b:Bool):decide (1<(if b=true then (1:Int) else 0)+1)=b:=by cases b<;>decide
def WX:gX prog 276=some [(0,1),(1,1),(2,1)]:=ab
def Aa:hr prog 107=some 3:=ab
def Dh:aJ prog 107=some 3:=ab
def gm:hf prog 29 3 (.int .i64 0) 1 8:=jb ab
def jW:aJ prog 29=some 1:=ab
def Ab:hf prog 274 276 (.agg #[.bool false,.int .i64 0,.slice none 0 0]) 3 40:=jb ab
def WY:gX prog 350=some [(0,1),(1,1)]:=ab
def WZ:zeroOf prog 350=some (.agg #[.slice none 0 0,.int .i64 0]):=ab
def N5 (a:View) (ke k:Nat) (u:b8) (r:kQ) (w:World) (l:Le a w) (b:kR ke k a r u) (C:u.parts.length<=1048576) :
   Calls prog 160 #[.agg (ga u r).toArray] w λe c=>∃q:Option Addr×Nat,e = .returned (.agg ((aE u).cells q).toArray)/\Ext w c/\Sl hy 1 (nv w c) q.1 q.2 (aE u).parts:=by
 have D:=b.parts.cap;have E:=b.parts.max;refine enter func160 O 25 O O ?_;refine CE (Vs:=[a]) (Ws.init (by simp [l]))<|ae ?_;refine WL.box Y O O λm=>?_;refine Al Y O z' λn=>?_;refine ad<|ae<|I (Yf rV O)<|I (Yd 1 O O O ab)<|I (Yb z' WX O O) ?_;refine Al Y O z' λo=>?_;refine aT 0 Y O O O nw O O O<|ad<|Cs<|Cs<|aao 0 (.cells #[.bool true,.int .i64 u.data,.slice none 0 0] 276 (0,0)) O O<|Cr<|I (Yf v8 O)<|I (Yd 2 O O O ab)<|I (Yn uo O)<|ac O ?_;refine LW (λ_ h=>h.g4 3 1)<|ad<|Cb ?_;refine ey (ι:=Nat×(Option Addr×Nat)) (λg=>[(12,.int .i64 (g.1:Int))]) [(2,_),(3,_),(10,_),(11,_)] (λg=>Ws w [] [cC 3 1 g5 g.2.1 g.2.2 ((u.parts.take g.1).map (·.params)),aq o (.cells #[.bool true,.int .i64 u.data,.slice g.2.1 ((u.parts.take g.1).map (·.params)).length g.2.2] 276 (0,0)),aq n (.cells #[.bool false,.int .i64 0,.slice none 0 0] 276 (0,0)),aq m (.cells (ga u r).toArray 37 (0,0))] [a]) (λg=>g.1<=u.parts.length) (λg=>u.parts.length-g.1) (0,(none,0)) (di _) ay ?_;intro g F;refine ae<|I (cI O O)<|ad<|Cs ?_;refine Cc O (λd=>?_)<|λd=>?_
 ·have f:g.1<u.parts.length:=by simpa using d
  obtain ⟨x,i⟩:=cR f;obtain ⟨G,H,p,s⟩:=b.parts.b5 g.1 x i;obtain ⟨t,v,J⟩:=s
  have y:(u.parts.take<|g.1+1).map (·.params)=(u.parts.take g.1).map (·.params)++[x.params]:=by rw [gV,i]; simp
  have hL:((u.parts.take g.1).map (·.params)).length=g.1:=by simp; omega
  refine bW<|Cs<|Cb<|ae<|I (Yo uo O O p f)<|I (dz 0 Aa O O O<|v) ?_;refine Al Y O xS λK=>?_;refine aT 0 Y O O O Dh O O O<|ad<|aao 0 (.cells (fW x t).toArray 107 (0,0)) O O<|Cr<|I (Yf Df O)<|I (Yd 2 O O O ab)<|I (Yf xU O)<|I (Yd 0 O O O ab) ?_;refine Lb Y O gm O O O O λL=>?_;refine dk 0 (.cells (g5 x.params).toArray 3 (0,0)) O (O) ?_;refine LA (x.params) 2 0 Y O gm O O O O O O aa aa λz A=>?_;refine I (Yf Df O)<|aT 3 Y O O O jW O O O<|Ln<|Eb<|Et<|Cr<|I (Yi O O O aa)<|ac O<|LW (λ_ h=>h.g4 3 1)<|Ln ?_;rw [<-y];exact c8 ((g.1+1,(z,A)):Nat×(Option Addr×Nat)) (by show _-(g.1+1)<_; omega) (by show g.1+1<=_; omega)<|λ_ h=>Wd 3 h
 have B:g.1=u.parts.length:=by simp at d; omega
 rw [B,gE];refine Ce<|Ex<|Ex<|dQ<|Et<|ae<|I (db 1 O O Dd O)<|aT 2 Y O O O nw O O O<|ad<|am ?_;refine WE.IB 2 O O O Dd O λc j=>?_;exact ⟨g.2,O,j.fr,j.hW 0 O kb dN⟩
def N6 (l m:View) (ke k:Nat) (u:b8) (r:kQ) (us:List ec) (ua:Option Addr) (G:Nat) (w:World) (ap:Le l w) (au:Le m w) (o:kR ke k l r u) (av:Sl o3 3 m ua G us) (aV:us.length<=1048576) :
   Calls prog 161 #[.agg (ga u r).toArray,.slice ua us.length G] w λe v=>e = .returned (.bool<|ig u us)/\Ext w v:=by
 have aW:=o.aA.cap;have aX:=o.aA.max;have aY:=o.parts.cap;have aZ:=o.parts.max;refine enter func161 O 115 O O ?_;refine CE (Vs:=[l,m]) (Ws.init (by simp [ap,au]))<|ae ?_;refine WL.box Y O O λU=>?_;refine ag O<|ad<|ae ?_;refine WL.pD st Y O λaw=>?_;refine I (Yf xT O)<|I (Yd 1 O O O ab) ?_;refine WL.cz 0 iW Y iC ab O O O O ?_;refine ac O<|ag O<|ad<|Cs<|ae<|I (Yf v9 O)<|I (Yd 1 O O O ab)<|I (Yn fQ O)<|ac O<|ad<|Cb ?_;refine ey (ι:=Nat) (λi=>[(18,.int .i64 (i:Int))]) [(1,_),(2,_),(5,_),(16,_),(17,_)] (λi=>Ws w [] [aq aw (cY st (cK (u.nm::u.aA.take i) 0) (u.nm::u.aA.take i).length),aq U (.cells (ga u r).toArray 37 (0,0))] [l,m]) (λi=>i<=u.aA.length/\(u.nm::u.aA.take i).Nodup/\(u.aA.take i).all gi=true) (λi=>u.aA.length-i) 0 ⟨di _,ai,O⟩ ay ?_;intro i ⟨hi,H,J⟩;refine ae<|I (cI O O)<|ad<|Cs ?_;refine Cc O (λK=>?_)<|λK=>?_
 ·have A:i<u.aA.length:=by simpa using K
  obtain ⟨s,C⟩:=cR A;obtain ⟨ax,pos,az,L⟩:=o.aA.b5 i s C;have L:ar l ax (pos+i*1) (gk s):=L;refine bW<|Cs<|Cb<|ae<|I (Yo fQ O O az A)<|I (eQ 0 ab O O<|L 0 _ O)<|ag O<|ad<|ae<|ac O<|ac O<|I (rf 0 iW iC ab l8 O O O) ?_;rw [Rc];refine I (ni O O (by split<;>omega)) ?_;refine WL.rh 0 iW Y iC ab O O O O ?_;refine ad<|ae<|ac O<|ac O<|I (rf 0 iW iC ab l8 O O O) ?_;rw [iO];refine I (eh O O) ?_;rw [WW];refine ac O ?_;apply Lo 3 (x:=!(gi s)) O O O O Y O O O O O
  ·intro a0;refine Vg (Ym O)<|Lp (.g O O O) O aF O (λw d=>qP _ w)<|Vg (gW O) ?_;exact Gt 3 O O O
  refine ad ?_;refine Cc O (λM=>?_)<|λM=>?_
  ·have aB:(u.nm::u.aA.take i).contains s=true\/gi s=false:=by
     have j:=M
     cases y:(u.nm::u.aA.take i).contains s with
     | true=>exact .inl rfl
     | false=>rw [y] at j; exact .inr (by simpa using j)
   refine ae<|ag O<|ad<|am<|cN<|Er<|Er<|cN<|Er ?_;refine R1 O O λv d=>?_;exact ⟨by rw [ig,Re C aB]; rfl,d.fr⟩
  obtain ⟨y,aC⟩:(u.nm::u.aA.take i).contains s=false/\gi s=true:=by
    have j:=i9.1 M;exact ⟨j.1,by simpa using j.2⟩
  have W:(u.nm::u.aA.take i)++[s]=u.nm::u.aA.take (i+1):=by rw [gV,C]; simp
  rw [y,show ((if false=true then (1:Int) else 0)+1)=1 from rfl,(Kf y).1,(Kf y).2,W]
  have aD:(u.nm::u.aA.take (i+1)).Nodup:=by
    rw [<-W,lI];refine ⟨H,ai,λa aG b X e=>?_⟩;rw [gU] at X; subst X; subst e
    have j:(u.nm::u.aA.take i).contains a=true:=by simpa using aG
    rw [y] at j; cases j
  refine Ck<|Eb<|Et<|Cr<|I (Yi O O O aa)<|ac O<|Ln ?_;exact c8 (i+1) aa ⟨aa,aD,w3 C J aC⟩ ay
 have aH:i=u.aA.length:=by simp at K; omega
 rw [aH,gE] at H J;refine Ce<|Ex<|Ex<|dQ<|Et<|Cs<|ae<|I (Yf xT O)<|I (Yd 1 O O O ab)<|Lp Y O aF O (λw d=>qP _ w)<|I (gW O)<|ac O ?_;apply Lo 4 O O O O Y O O O O O
 ·intro a1;refine Vg (Yf v9 O)<|Vg (Yd 1 O O O ab)<|Vg (Yn fQ O)<|Vg (eh O O) ?_;exact Gt 4 O O O
 refine ac O ?_;apply Lo 3 O O O O Y O O O O O
 ·intro a2;refine Vg (Yf rV O)<|Vg (Yd 1 O O O ab)<|Vg (cI O O) ?_;exact Gt 3 O O O
 refine ac O ?_;apply Lo 3 O O O O Y O O O O O
 ·intro a3;refine Vg (Yf rV O)<|Vg (Yd 1 O O O ab)<|Vg (eh O O) ?_;exact Gt 3 O O O
 refine ac O ?_;apply Lo 4 O O O O Y O O O O O
 ·intro a4;refine Vg (Yf v8 O)<|Vg (Yd 1 O O O ab)<|Vg (Yn uo O)<|Vg (eh O O) ?_;exact Gt 4 O O O
 refine ad ?_;refine Cc O (λN=>?_)<|λN=>?_
 ·refine ae<|ag O<|ad<|am<|Er ?_;refine R1 O O λv d=>?_;exact ⟨by rw [ig,show cJ u=true from N]; simp,d.fr⟩
 have Z:cJ u=false:=N;obtain ⟨a5,a6,a7,a9⟩:=N4 Z;refine bW<|Cs ?_;obtain ⟨ys,af,ah⟩:=Zf av
 have aj:ys.length=us.length:=by rw [<-af,fu]
 have aI:∀q,([((aE u,q):XK)]++ys).length=(aE u::us).length:=λq=>by simp [aj]
 refine Cr<|I (db 1 O O bs O) ?_;refine Ld Y O aF O (λq:Option Addr×Nat=>.agg ((aE u).cells q).toArray) (λaJ q=>Sl hy 1 aJ q.1 q.2 (aE u).parts) (λw d=>N5 l ke k u r w d.V o aa) ?_;intro ak D a' aK;refine Lb Y O Ab O O O O λa_=>?_;refine dk 0 (.cells (([(aE u,D)]:List XK).flatMap XK.cells).toArray 276 (0,0)) O O<|LW (λ_ h=>h.mQ (f:=XK.cells) (xs:=[(aE u,D)]) (c:=1) 0 O XK.cD O a8)<|ac O ?_;refine WL.tu (f:=XK.cells) (rd:=N3) (xs:=[((aE u,D):XK)]) (ys:=ys) 0 (λ_=>m) Y O Ab O (by show some (Value.slice ua us.length G)=_; rw [<-aj]) O (λw d=>⟨d.vs m ai,ah⟩) (λ_ _ _ _ h=>h.1) XK.cD XK.one (by simp; omega) (by simp; omega) λp t=>?_;refine I (Yb WZ WY O O) ?_;refine WL.box Y O O λP=>?_;refine dk 0 (.cells #[.slice p (aE u::us).length t,.int .i64 0] 350 (0,0)) O (congrArg (λn=>Obj.cells #[.slice p n t,.int .i64 0] 350 (0,0))<|aI D)<|ag O<|ad<|Cs<|Cs ?_;refine WC.pH (rd:=z_) 1 O XK.cD dN λal aL=>?_
 have an:∀w,Le al w->Le ak w->Le m w->Sl o3 3 (hv w) p t (aE u::us):=λw aM aN aO=>by
   have j:=Ho aL (mf aM) λe z=>by
     rcases ge.1 z with z | z
     · rw [gU] at z; subst z; exact p'.mv (mf aN) aK
     · obtain ⟨q,aP⟩:=iE z
       obtain ⟨_,_,_,_,h⟩:=ah.b5 q e aP;exact p'.mv (mf aO) h
   rw [qi,af] at j;exact j
 refine Cr<|I (Yf v8 O)<|I (Yd 2 O O O ab)<|I (Yn uo O)<|ac O<|ad<|Cb ?_;refine ey (ι:=Nat×Int) (λg=>[(72,.int .i64 (g.1:Int))]) [(2,_),(8,_),(70,_),(71,_)] (λg=>Ws w [] [aq P (.cells #[.slice p (aE u::us).length t,.int .i64 g.2] 350 (0,0)),aq U (.cells (ga u r).toArray 37 (0,0))] [al,ak,l,m]) (λg=>g.1<=u.parts.length/\(u.parts.take g.1).all (lm<|aE u::us)=true) (λg=>u.parts.length-g.1) (0,0) ⟨di _,O⟩ (λ_ h=>(Wt 2 ((h.f 2 O).f 1 O):)) ?_;intro g ⟨ba,Q⟩;refine ae<|I (cI O O)<|ad<|Cs ?_;refine Cc O (λR=>?_)<|λR=>?_
 ·have A:g.1<u.parts.length:=by simpa using R
  obtain ⟨x,E⟩:=cR A;obtain ⟨bb,bc,aQ,aR⟩:=o.parts.b5 g.1 x E;obtain ⟨S,aS,aU⟩:=aR;refine bW<|Cs<|Cb<|ae<|I (Yo uo O O aQ A)<|I (dz 2 Aa O O O<|aS) ?_;refine Al Y O xS λbd=>?_;refine aT 0 Y O O O Dh O O O<|ad<|Cs<|Cs<|aao 0 (.cells (fW x S).toArray 107 (0,0)) O O<|Cr<|I (Yf xU O)<|I (Yd 0 O O O ab)<|I (cI O O)<|ac O ?_;apply Lo 3 O O O O Y O O O O O
  ·intro be;refine Vg (Yf xU O)<|Vg (Yd 0 O O O ab)<|Vg (eh O O) ?_;exact Gt 3 O O O
  refine ac O ?_;apply Lo 3 O O O O Y O O O O O
  ·intro bf;refine Vg (Yf z9 O)<|Vg (Yd 0 O O O ab)<|Vg (cI O O) ?_;exact Gt 3 O O O
  refine ac O ?_;apply Lo 3 O O O O Y O O O O O
  ·intro bg;refine Vg (Yf z9 O)<|Vg (Yd 0 O O O ab)<|Vg (eh O O) ?_;exact Gt 3 O O O
  refine ad ?_;refine Cc O (λF=>?_)<|λF=>?_
  ·have B:lm (aE u::us) x=false:=Zg F;refine ae<|ag O<|ad<|am<|Er<|cN<|Er<|Er<|cN<|Er ?_;refine R1 O O λv d=>?_;exact ⟨by rw [ig,w2 E B]; simp,d.fr⟩
  have ao:=Zi (kn:=(aE u::us)) F
  have bh:0<=x.params/\x.params<=3/\0<=x.locals/\x.locals<=4:=by
    simp only [i9,aad] at F; omega
  refine bW<|ae<|ac O<|I (Yf xU O)<|I (Yd 0 O O O ab)<|I (Yf z9 O)<|I (Yd 0 O O O ab)<|I (ni O O aa)<|I (bw O) ?_;refine I (Yf Hn O)<|aT 1 Y O O O dL O O O<|ad<|Cs<|aao 1 (.cells #[.slice p (aE u::us).length t,.int .i64 (x.params+x.locals)] 350 (0,0)) O O<|Cr<|ac O<|I (Yf Hl O)<|I (Yd 0 O O O ab) ?_;refine Lp Y O aF O (λw d=>N2 (hv w) (hv w) P p t (aE u::us) (x.params+x.locals) l ke k x.body S.1 S.2 1 w (jc w) (jc w) (tG (d.oe 1 O) O) (tG (d.oe 1 O) O) (an w d.V d.V d.V) d.V aU aa)<|I (gW O)<|ad ?_;refine Cc O (λT=>?_)<|λT=>?_
  ·have B:lm (aE u::us) x=false:=by rw [ao]; simpa using T
   refine ae<|ag O<|ad<|am<|cN<|Er<|Er<|cN<|Er ?_;refine R1 O O λv d=>?_;exact ⟨by rw [ig,w2 E B]; simp,d.fr⟩
  have B:lm (aE u::us) x=true:=by rw [ao]; simpa using T
  refine Ck<|Eb<|Et<|Cr<|I (Yi O O O aa)<|ac O<|Ln ?_;exact c8 ((g.1+1,x.params+x.locals):Nat×Int) (by show _-(g.1+1)<_; omega) ⟨(by show g.1+1<=_; omega),w3 E Q B⟩<|λ_ h=>Wd 1 h
 have bi:¬g.1<u.parts.length:=by simpa using R
 rw [lJ aa] at Q;refine Ce<|Ex<|Ex<|dQ<|Et<|ae<|ac O<|I (bw O)<|I (Yf Hn O)<|aT 0 Y O O O dL O O O<|ad<|Cs<|aao 0 (.cells #[.slice p (aE u::us).length t,.int .i64 0] 350 (0,0)) O O ?_;refine Cr<|ac O<|I (Yf C' O)<|I (Yd 1 O O O ab)<|Lp Y O aF O (λw d=>N2 (hv w) (hv w) P p t (aE u::us) 0 l ke k u.main r.s3.1 r.s3.2 1 w (jc w) (jc w) (tG (d.oe 0 O) O) (tG (d.oe 0 O) O) (an w d.V d.V d.V) d.V o.main aa)<|ag O<|ad<|am ?_;refine R1 O O λv d=>?_;exact ⟨by rw [ig,Kg H J,Z,Q]; rfl,d.fr⟩
def W0 {l:List bB}  {x:bB} {p:bB->Prop} (b:l[Z]? = some x) (h:∀y ∈ l.take Z,p y) (c:p x):∀y ∈ l.take (Z+1),p y:=by
 intro y a;rw [ly b] at a
 rcases ge.1 a with a | a
 · exact h y a
 · rw [gU] at a; subst a; exact c
def W1 (ke k:Nat) (a:View) (b o:Nat) (u:b8):Prop:=∃r:kQ,ar a b o (ga u r)/\kR ke k a r u
variable {bJ:List b8}
def N7 (h:bJ[Z]? = some cx):(eS bJ)[Z]? = some cx.nm:=by unfold eS; rw [e4,h]; rfl
def Ac (l:List b8):(eS l).length=l.length:=by simp [eS]
variable {ck:Tx}
def W2 (a:bJ[Z]? = some cx) (c:ck ∈ cx.aA) (h:ck ∉ (eS bJ).take Z):rn bJ=false:=by
 cases d:rn bJ with
 | false=>rfl
 | true=>
   have b:=gN.1 d Z (uJ.2 (cq.1 a).1);rw [a] at b;have e:=gN.1 b ck c;exact absurd (by simpa using e) h
def W3 (h:∀(n:Nat) u,bJ[n]? = some u->∀s ∈ u.aA,s ∈ (eS bJ).take n):rn bJ=true:=by
 refine gN.2 λn b=>?_;have a:=uJ.1 b;rw [c6 a];refine gN.2 λs c=>?_
 simpa using h n _ (c6 a) s c
def N8 (a:Int) (h:bJ[Z]? = some cx):lT (bJ.drop Z) a=(!(decide (cx.data<0)||decide (a<cx.data))&&lT (bJ.drop<|Z+1) (a-cx.data)):=by
 obtain ⟨b,c⟩:=cq.1 h;rw [pt b,c]; rfl
def Ad (l:List b8) (s:Tx):ec:=match idxOf s (eS l) 0 with
 | some i=>(l[i]?.map aE).getD lS
 | none=>lS
def N9 (l:List b8) (u:b8):fd l u=u.aA.map (Ad l):=rfl
def W4 (g:(eS bJ).Nodup)   (d:ck ∈ (eS bJ).take Z):∃p z,idxOf ck (eS bJ) 0=some p/\p<Z/\bJ[p]? = some z:=by
 cases f:idxOf ck (eS bJ) 0 with
 | none=>exact absurd (yh d)<|sj.1 f
 | some p=>
   obtain ⟨j,a⟩:=iE d;rw [jq] at a
   split at a
   · rename_i h
     have b:=(pP f).2;rw [nX] at b;have c:=(cq.1 b).1;have e:p=j:=(e5 c g).1 (b.trans a.symm);rw [Ac] at c;exact ⟨p,_,O,aa,c6 c⟩
   · cases a
def W5 (a:idxOf ck (eS bJ) 0=some Z) (b:bJ[Z]? = some cx):Ad bJ ck=aE cx:=by unfold Ad; rw [a]; show (Option.map aE bJ[Z]?).getD lS=aE cx; rw [b]; rfl
def N' (h:ig cx cr=true):cJ cx=false:=by
 unfold ig at h
 cases a:cJ cx with
 | false=>rfl
 | true=>rw [a] at h; simp at h
def N_ {M:List (aL Tx)}  (h:sm (eS bJ) bJ.length M Z):(M.length<bJ.length->f_ (eS bJ)=true)/\(¬M.length<bJ.length->(eS bJ).Nodup/\M=hY (eS bJ) 0):=by
 have d:=h.yH;rw [<-Ac bJ,gE] at d
 rcases d with ⟨b,a,_⟩ | ⟨b,a⟩
 · refine ⟨λc=>?_,λ_=>⟨b,a⟩⟩
   rw [a,Fh,Ac] at c; omega
 · rw [Ac] at a
   exact ⟨λ_=>by rw [j_] at b; simpa using b,λc=>absurd a c⟩
def lF:aat prog 71=some 5:=ab
def W6 (r:View) (ke k:Nat) (a:Option Addr) (c:Nat) (l:List b8) (w:World) (aX:Le r w) (D:Sl (W1 ke k) 5 r a c l) (aY:∀u ∈ l,u.aA.length<=1048576) :
   Calls prog 94 #[.slice a l.length c] w λe x=>e = .returned (.int .i64<|jO l)/\Ext w x:=by
 have bH:=D.cap;have bI:=D.max;refine enter func94 O 110 O O ?_;refine CE (Vs:=[r]) (Ws.init (by simp [aX]))<|ae<|ag O<|ad<|Cs<|ae<|ac O<|I (Yn lF O)<|I (cI O O)<|ac O ?_;apply Lo 3 O O O O Y O O O O O
 ·intro bJ;refine Vg (Ym O)<|Vg (Yn lF O)<|Vg (eh O O) ?_;exact Gt 3 O O O
 refine ad ?_;refine Cc O (λM=>?_)<|λM=>?_
 ·refine ae<|ag O<|ad<|am<|Er ?_;refine R1 O O λx d=>?_;exact ⟨by rw [jO,ZZ M],d.fr⟩
 have E:¬(decide ((l.length:Int)<1)||decide (4<(l.length:Int)))=true:=by rw [M]; decide
 have bK:l.length<=4:=by simp at M; omega
 refine bW<|ae ?_;refine WL.pD st Y O λX=>?_;refine ag O<|ad<|Cs<|ae<|ac O<|I (Yn lF O)<|ac O<|ad<|Cb ?_;refine ey (ι:=Nat×List (aL Tx)×Nat) (λb=>[(27,.int .i64 (b.1:Int))]) [(0,_),(3,_),(25,_),(26,_)] (λb=>Ws w [] [aq X (cY st b.2.1 b.2.2)] [r]) (λb=>b.1<=l.length/\sm (eS l) b.1 b.2.1 b.2.2/\∀(n:Nat) v,n<b.1->l[n]? = some v->∀s ∈ v.aA,s ∈ (eS l).take n) (λb=>l.length-b.1) (0,[],0) ⟨di _,Rd _,λn v h=>absurd h<|AN _⟩ ay ?_;intro b ⟨bL,A,N⟩;refine ae<|I (cI O O)<|ad<|Cs ?_;refine Cc O (λZ=>?_)<|λZ=>?_
 ·have m:b.1<l.length:=by simpa using Z
  obtain ⟨u,o⟩:=cR m;obtain ⟨aP,aQ,F,G⟩:=D.b5 b.1 u o;obtain ⟨B,H,t⟩:=G;have aZ:=t.aA.cap;have a0:=t.aA.max;have aR:=N7 o;refine bW<|Cs<|Cb<|ae<|ac O<|I (Yo lF O O F m)<|I (dz 0 bs O O O<|H) ?_;refine Al Y O nT λbM=>?_;refine ag O<|aT 0 Y O O O nU O O O<|ad<|Cs<|Cs<|aao 0 (.cells (ga u B).toArray 37 (0,0)) O O<|Cr<|I (Yf v9 O)<|I (Yd 0 O O O ab)<|I (Yn fQ O) ?_;refine ac O<|ad<|Cb ?_;refine ql (ι:=Nat) (λj=>[(35,.int .i64 (j:Int))]) [(0,_),(3,_),(4,_),(5,_),(25,_),(26,_),(27,_),(33,_),(34,_)] (λj=>j<=u.aA.length/\∀s ∈ u.aA.take j,s ∈ (eS l).take b.1) (λj=>u.aA.length-j) 0 ⟨di _,ai⟩ ?_;intro j ⟨bN,P⟩;refine ae<|I (cI O O)<|ad<|Cs ?_;refine Cc O (λaf=>?_)<|λaf=>?_
  ·have m:j<u.aA.length:=by simpa using af
   obtain ⟨s,ah⟩:=cR m;obtain ⟨a1,pos,a2,aj⟩:=t.aA.b5 j s ah;have aj:ar r a1 (pos+j*1) (gk s):=aj;obtain ⟨v,hv,K⟩:=A.mem s;refine bW<|Cs<|Cb<|ae<|I (Yo fQ O O a2 m)<|I (eQ 0 ab O O<|aj 0 _ O)<|ag O<|ad<|ae<|ac O<|ac O<|I (rf 1 iW iC ab l8 O O O) ?_;rw [hv];refine I (bz O O)<|ad ?_;refine Cc O (λak=>?_)<|λak=>?_
   ·have al:s ∉ (eS l).take b.1:=K.1 (by simpa using ak);refine ae<|ag O<|ad<|am<|cN<|Er<|Er<|cN<|Er<|cN<|Er<|Er<|cN<|Er ?_;refine R1 O O λx d=>?_;exact ⟨by rw [jO,ZX E,ZZ (W2 o (az ah) al)],d.fr⟩
   have an:s ∈ (eS l).take b.1:=by
     have ao:¬v=0:=by simpa using ak
     exact D9 λh=>ao<|K.2 h
   refine Ck<|Eb<|Et<|Cr<|I (Yi O O O aa)<|ac O<|Ln ?_;exact c8 (j+1) aa ⟨aa,W0 ah P an⟩ ay
  have a3:j=u.aA.length:=by simp at af; omega
  rw [a3,gE] at P;obtain ⟨v,hv,K⟩:=A.mem u.nm;refine Ce<|Ex<|Ex<|dQ<|Et<|ae<|ac O<|I (Yf xT O)<|I (Yd 0 O O O ab)<|I (rf 1 iW iC ab l8 O O O) ?_;rw [hv];refine I (bz O O)<|ad ?_;refine Cc O (λap=>?_)<|λap=>?_
  ·have al:u.nm ∉ (eS l).take b.1:=K.1 (by simpa using ap);have au:=A.new aR al;refine Cr<|ac O<|I (Yf xT O)<|I (Yd 0 O O O ab)<|ac O<|I (Yi O O O aa) ?_;refine WL.rh 1 iW Y iC ab O O O O ?_;refine Ln<|Eb<|Et<|Cr<|I (Yi O O O aa)<|ac O<|Ln ?_
   exact c8 ((b.1+1,aan u.nm (.int .i64 ((b.1+1:Nat):Int)) b.2.1 b.2.2,j7 u.nm b.2.1 b.2.2):Nat×List (aL Tx)×Nat) (by show _-(b.1+1)<_; omega) ⟨(by show b.1+1<=_; omega),au,λn v av hv s C=>by
       rcases ne.1 av with h | h
       · exact N n v h hv s C
       · subst h; rw [o] at hv; injection hv with hv; subst hv; exact P s C⟩<|λ_ h=>Wd 1 h
  have an:u.nm ∈ (eS l).take b.1:=by
    have ao:¬v=0:=by simpa using ap
    exact D9 λh=>ao<|K.2 h
  have au:=A.old aR an;refine Ck<|Eb<|Et<|Cr<|I (Yi O O O aa)<|ac O<|Ln ?_
  exact c8 ((b.1+1,b.2):Nat×List (aL Tx)×Nat) (by show _-(b.1+1)<_; omega) ⟨(by show b.1+1<=_; omega),au,λn v av hv s C=>by
      rcases ne.1 av with h | h
      · exact N n v h hv s C
      · subst h; rw [o] at hv; injection hv with hv; subst hv; exact P s C⟩<|λ_ h=>Wd 1 h
 have a4:b.1=l.length:=by simp at Z; omega
 rw [a4] at A;have Q:rn l=true:=W3 λn v hv s C=>N n v (by have:=(cq.1 hv).1; omega) hv s C;refine Ce<|Ex<|Ex<|dQ<|Et<|Cs<|ae<|ac O<|I (pR 0 iC O O)<|ac O<|I (Yn lF O)<|I (cI O O)<|ad ?_;refine Cc O (λaw=>?_)<|λaw=>?_
 ·have L:=(N_ A).1 (by simp at aw; omega);refine ae<|ag O<|ad<|am<|Er ?_;refine R1 O O λx d=>?_;exact ⟨by rw [jO,ZX E,ZX (by rw [Q]; decide),ZZ L],d.fr⟩
 obtain ⟨aS,a5⟩:=(N_ A).2 (by simp at aw; omega);have L:=j_.1 aS;refine bW<|ae<|ag O<|ad<|Cs<|ae<|ac O<|I (Yn lF O)<|ac O<|ad<|Cb ?_;refine ql (ι:=Nat×Int) (λg=>[(62,.int .i64 (g.1:Int)),(8,.int .i64 g.2)]) [(0,_),(3,_),(60,_),(61,_)] (λg=>g.1<=l.length/\(0<=g.2/\g.2<=512)/\lT (l.drop g.1) g.2=lT l 512) (λg=>l.length-g.1) (0,512) ⟨di _,aa,O⟩ ?_;intro g ⟨bO,bP,ax⟩;refine ae<|I (cI O O)<|ad<|Cs ?_;refine Cc O (λaC=>?_)<|λaC=>?_
 ·have m:g.1<l.length:=by simpa using aC
  obtain ⟨u,o⟩:=cR m;obtain ⟨aP,aQ,F,G⟩:=D.b5 g.1 u o;obtain ⟨B,H,t⟩:=G;refine bW<|Cs<|Cb<|ae<|I (Yo lF O O F m)<|I (dz 0 bs O O O<|H) ?_;refine Al Y O nT λbQ=>?_;refine aT 0 Y O O O nU O O O<|ad<|Cs<|Cs<|aao 0 (.cells (ga u B).toArray 37 (0,0)) O O<|Cr<|I (Yf rV O)<|I (Yd 0 O O O ab)<|I (cI O O)<|ac O ?_;apply Lo 4 O O O O Y O O O O O
  ·intro bR;refine Vg (Yf rV O)<|Vg (Yd 0 O O O ab)<|Vg (Ym O)<|Vg (eh O O) ?_;exact Gt 4 O O O
  refine ad ?_;refine Cc O (λS=>?_)<|λS=>?_
  ·have T:lT l 512=false:=by rw [<-ax,N8 _ o,show (decide (u.data<0)||decide (g.2<u.data))=true from S]; rfl
   refine ae<|ag O<|ad<|am<|Er<|cN<|Er<|Er<|cN<|Er ?_;refine R1 O O λx d=>?_;exact ⟨by rw [jO,ZX E,ZX (by rw [Q]; decide),ZX (by rw [L]; decide),ZZ T],d.fr⟩
  have a6:lT (l.drop<|g.1+1) (g.2-u.data)=lT l 512:=by rw [<-ax,N8 _ o,show (decide (u.data<0)||decide (g.2<u.data))=false from S]; rfl
  have bS:0<=u.data/\u.data<=g.2:=by
    simp only [i9,aad] at S; omega
  refine bW<|Cr<|ac O<|I (Yf rV O)<|I (Yd 0 O O O ab)<|I (El O O aa)<|ag O<|Ln<|Eb<|Et<|Cr<|I (Yi O O O aa) ?_;refine ac O<|Ln ?_;exact c8 ((g.1+1,g.2-u.data):Nat×Int) (by show _-(g.1+1)<_; omega) ⟨(by show g.1+1<=_; omega),(by show 0<=g.2-u.data/\g.2-u.data<=512; omega),a6⟩<|λ_ h=>Wd 1 h
 have a7:g.1=l.length:=by simp at aC; omega
 have T:lT l 512=true:=by rw [<-ax,a7,wv]; rfl
 refine Ce<|Ex<|Ex<|dQ<|Et<|Cs<|ae<|ac O<|I (Yn lF O)<|ac O<|ad<|Cb ?_;refine ey (ι:=Nat) (λi=>[(82,.int .i64 (i:Int))]) [(0,_),(3,_),(80,_),(81,_)] (λi=>Ws w [] [aq X (cY st b.2.1 b.2.2)] [r]) (λi=>i<=l.length/\(l.take i).all (λu=>ig u<|fd l u)=true) (λi=>l.length-i) 0 ⟨di _,O⟩ ay ?_;intro i ⟨bT,U⟩;refine ae<|I (cI O O)<|ad<|Cs ?_;refine Cc O (λaD=>?_)<|λaD=>?_
 ·have m:i<l.length:=by simpa using aD
  obtain ⟨u,o⟩:=cR m;obtain ⟨aP,aQ,F,G⟩:=D.b5 i u o;obtain ⟨B,H,t⟩:=G;have aZ:=t.aA.cap;have a0:=t.aA.max;have a8:=aY u (az o);have bU:i<l.length:=m;refine bW<|Cs<|Cb<|ae<|I (Yo lF O O F m)<|I (dz 0 bs O O O<|H) ?_;refine Al Y O nT λa9=>?_;refine aT 0 Y O O O nU O O O<|ad<|Cs<|aao 0 (.cells (ga u B).toArray 37 (0,0)) O O<|Cr<|ag O<|LW (λ_ h=>h.g4 276 3) ?_;refine WL.v0 ?_;refine ad<|Cs<|ae<|I (Yf v9 O)<|I (Yd 1 O O O ab)<|I (Yn fQ O)<|ac O<|ad<|Cb ?_;refine ey (ι:=GX XK) (λg=>[(89,.int .i64 (g.i:Int)),(13,.slice g.a g.es.length g.c)]) [(0,_),(3,_),(12,_),(80,_),(81,_),(82,_),(87,_),(88,_)] (λg=>Ws w [] [cC 276 3 XK.cells g.a g.c g.es,aq a9 (.cells (ga u B).toArray 37 (0,0)),aq X (cY st b.2.1 b.2.2)] [g.J,r]) (λg=>g.i<=u.aA.length/\g.es.map (·.1)=(u.aA.take g.i).map (Ad l)/\(gw w g.J/\Xs (p') g.J g.es)) (λg=>u.aA.length-g.i) ⟨0,[],none,0,v0⟩ ⟨di _,O,⟨rj w,Xs.nil _⟩⟩ (λ_ h=>by have h:=Ws.aB h (b7:=[v0,r]) ai; exact h) ?_;intro g ⟨hi,aG,⟨a',aU⟩⟩;refine ae<|I (cI O O)<|ad<|Cs ?_;refine Cc O (λaH=>?_)<|λaH=>?_
  ·have m:g.i<u.aA.length:=by simpa using aH
   obtain ⟨y,aI⟩:=cR m;obtain ⟨a_,ba,bb,aJ⟩:=t.aA.b5 g.i y aI;have aJ:ar r a_ (ba+g.i*1) (gk y):=aJ;have bV:=z3 aG hi;obtain ⟨p,z,aV,bc,W⟩:=W4 aS (N i u aa o y<|az aI);obtain ⟨bX,bY,bd,be,bf,bg⟩:=D.b5 p z W;have bh:=(cq.1 W).1;have bi:ig z (fd l z)=true:=gN.1 U z (az (by rw [jq,ZZ bc]; exact W));have bj:(Ad l y)=aE z:=W5 aV W;refine bW<|Cs<|Cb<|ae<|I (Yo fQ O O bb m)<|I (eQ 1 ab O O<|aJ 0 _ O)<|ag O<|ad<|Cr<|ac O<|ac O<|ac O ?_;refine ac O<|I (rf 2 iW iC ab l8 O O O) ?_;rw [a5,J5,aV]
   show WL _ _ _ _ _ ((_,.int .i64 ((p+1:Nat):Int))::_) _ _
   refine I (El O O aa) ?_;rw [show ((p+1:Nat):Int)-1=(p:Int) by omega];refine I (Yo lF O O bd bh)<|I (dz 1 bs O O O<|bf) ?_;refine Ld Y O aF O (λq:Option Addr×Nat=>.agg ((aE z).cells q).toArray) (λbk q=>p' bk (aE z,q)) (λw d=>N5 r ke k z be w d.V bg (by have:=(N4<|N' bi).1; omega)) ?_;intro bZ aK bl bm;refine WL.j' λbn bo bp bq=>?_;refine Lb Y O Ab O O O O λb0=>?_;refine dk 0 (.cells (XK.cells (aE z,aK)).toArray 276 (0,0)) O (O) ?_;refine LA (((aE z,aK):XK)) 1 0 Y O Ab O O O O O O aa aa λbr bt=>?_;refine ag O<|Ln<|Eb<|Et<|Cr<|I (Yi O O O aa)<|ac O<|Ln ?_;exact c8 (⟨g.i+1,g.es++[(aE z,aK)],br,bt,bn⟩:GX XK) (by show _-(g.i+1)<_; omega) ⟨(by show g.i+1<=_; omega),z2 aG aI bj.symm,⟨bq _ bl a',Xs.snoc (R:=p') (λhv h=>p'.mv hv h) aU bp bo bm⟩⟩<|λ_ h=>Wd 1 h
  have bu:g.i=u.aA.length:=by simp at aH; omega
  refine Ce<|Ex<|Ex<|dQ<|Et<|Cs ?_;refine WC.o1 (rd:=z_) 0 O (λ_ bv=>by cases bv) XK.cD dN λbw b1 bx=>?_;have aM:=z4 aG bu;rw [<-N9] at aM
  have bA:(fd l u).length=g.es.length:=by rw [<-aM,fu]
  have bB:(fd l u).length<=1048576:=by rw [N9,fu]; exact a8
  have bC:∀w,Le bw w->Le g.J w->Sl o3 3 (hv w) g.a g.c (fd l u):=λw bD bE=>by
    rw [<-aM];exact Ho bx (mf bD) λe bF=>p'.mv (mf bE)<|aU e bF
  refine Cr<|I (db 0 O O bs O)<|ac O ?_
  refine Lp Y O aF O (λw d=>by
    have aW:=N6 r (hv w) ke k u B (fd l u) g.a g.c w (d.vs r ai) (jc w) t (bC w d.V d.V) bB;rw [bA] at aW
    exact aW) ?_
  refine I (gW O)<|ad ?_;refine Cc O (λaN=>?_)<|λaN=>?_
  ·have aO:ig u (fd l u)=false:=by simpa using aN
   refine ae<|ag O<|ad<|am<|cN<|Er<|Er<|cN<|Er ?_;refine R1 O O λx d=>?_;exact ⟨by rw [jO,ZX E,ZX (by rw [Q]; decide),ZX (by rw [L]; decide),ZX (by rw [T]; decide),ZX (by rw [w2 (f:=λu=>ig u<|fd l u) o aO]; decide)],d.fr⟩
  have aO:ig u (fd l u)=true:=by simpa using aN
  refine Ck<|Eb<|Et<|Cr<|I (Yi O O O aa)<|ac O<|Ln ?_;exact c8 (i+1) aa ⟨aa,w3 (f:=λu=>ig u<|fd l u) o U aO⟩<|λ_ h=>Ws.aB (Wd 1 h)<|λ_ bG=>qh [_,_] bG
 have b2:¬i<l.length:=by simpa using aD
 rw [lJ aa] at U;refine Ce<|Ex<|Ex<|dQ<|Et<|ae<|ag O<|ad<|am ?_;refine R1 O O λx d=>?_;exact ⟨by rw [jO,ZX E,ZX (by rw [Q]; decide),ZX (by rw [L]; decide),ZX (by rw [T]; decide),ZZ U],d.fr⟩
def m_:au prog 190 0=some 0:=ab
def oH:au prog 77 3=some 3:=ab
def jo:hf prog 55 62 (.agg #[.int .i64 0,.int .i64 0,.int .i64 0]) 3 24:=jb ab
def Di:aJ prog 55=some 1:=ab
def kj:aat prog 55=some 3:=ab
def Ae:au prog 77 4=some 4:=ab
def W7:gX prog 198=some [(0,1),(1,1),(2,1)]:=ab
def Dj:zeroOf prog 198=some (.agg #[.int .i64 0,.int .i64 0,.int .i64 0]):=ab
def Oa:hf prog 75 198 (.agg #[.int .i64 0,.int .i64 0,.int .i64 0]) 3 24:=jb ab
def W8:aJ prog 75=some 1:=ab
def xm:hr prog 62=some 3:=ab
def iD:gX prog 62=some [(0,1),(1,1),(2,1)]:=ab
def h3:zeroOf prog 62=some (.agg #[.int .i64 0,.int .i64 0,.int .i64 0]):=ab
def m4:au prog 62 1=some 1:=ab
def lG (b:Nat) (h:iM) (t:cG) (d:View) (a:Option Addr) (c:Nat) (l:List ao) (w:World) (i:Sl bt 3 d a c l) (n:t.g.code.length+l.length<=1000000000010) (f:Ws w (List.flatMap aQ.ids<|cj 190 62 198 b h t) (cj 190 62 198 b h t) [d] w) :
   Calls prog 165 #[.pointer (some ⟨b,0,none⟩),.slice a l.length c] w λe j=>∃q:SP,e = .returned (.tuple #[])/\Ws w (List.flatMap aQ.ids<|cj 190 62 198 b h t) (cj 190 62 198 b h ⟨bi l t.g,q,t.fa⟩) [d] j:=by
 have o:=i.cap;have p:=i.max;refine enter func165 O 15 O O ?_;refine CE f<|Cr<|ac O<|ac O<|I (bw O)<|I (Yf m_ O)<|I (Yf oH O)<|I (Yd 0 O O O ab) ?_;refine ac O ?_;refine WL.tu (xs:=t.g.code) (ys:=l) 1 (λ_=>d) Y O jo O O O (λw f=>⟨f.vs d ai,i⟩) dN ao.cD ao.one aa aa λk m=>?_;refine I (bw O)<|I (Yf m_ O)<|I (Yf oH O)<|aT 0 Y O O O Di O O O<|Ln ?_;refine E0 O λj f=>?_;exact ⟨(k,m),O,f⟩
def xV (a:Nat) (b:iM) (t:cG)  (i:ao) (kind m:Int) (w:World)  (x:t.g.code.length+1<=1000000000000) (y:t.g.fix.length+1<=1000000000000) (j:Ws w (List.flatMap aQ.ids<|cj 190 62 198 a b t) (cj 190 62 198 a b t) [] w) :
   Calls prog 281 #[.pointer (some ⟨a,0,none⟩),.agg i.cells.toArray,.int .i64 kind,.int .i64 m] w λe l=>∃q:SP×SP,e = .returned (.int .i64 (t.g.code.length:Int))/\Ws w (List.flatMap aQ.ids<|cj 190 62 198 a b t) (cj 190 62 198 a b ⟨aS i kind m t.g,q.1,q.2⟩) [] l:=by
 refine enter func281 O 36 O O ?_;refine CE j<|ae ?_;refine WL.box Y O O λo=>?_;refine ag O<|ad<|ae<|ac O<|I (bw O)<|I (Yf m_ O)<|I (Yf oH O)<|I (Yd 1 O O O ab)<|I (Yn kj O) ?_;refine ag O<|ad<|ae<|ac O<|ac O<|I (bw O)<|I (Yf m_ O)<|I (Yf Ae O)<|I (Yd 1 O O O ab) ?_;refine ac O<|ac O<|ac O<|I (Yb Dj W7 O O) ?_;refine Lb Y O Oa O O O O λz=>?_;refine dk 0 (.cells (fI.cells ⟨(t.g.code.length:Int),kind,m⟩).toArray 198 (0,0)) O (O) ?_;refine LA ((⟨(t.g.code.length:Int),kind,m⟩:fI)) 4 0 Y O Oa O O O O O O aa aa λc d=>?_;refine I (bw O)<|I (Yf m_ O)<|I (Yf Ae O)<|aT 2 Y O O O W8 O O O<|ad<|Cs<|aao 2 (rt 190 b (⟨⟨t.g.code,t.g.fix++[(⟨(t.g.code.length:Int),kind,m⟩:fI)]⟩,t.ca,(c,d)⟩:cG)) O O ?_;refine nf (W':=Ws w (List.flatMap aQ.ids<|cj 190 62 198 a b t) ((cj 190 62 198 a b (⟨⟨t.g.code,t.g.fix++[(⟨(t.g.code.length:Int),kind,m⟩:fI)]⟩,t.ca,(c,d)⟩:cG))++[aq o (.cells i.cells.toArray 62 (0,0))]) []) (λ_ h=>by exact (Wt 4 ((((h.f 1 O).f 4 O).f 4 O).f 4 O):)) ?_;refine Cr<|ac O<|I (db 3 O O xm O) ?_;refine Lb Y O jo O O O O λp=>?_;refine WL.kO (rd:=bt) (f:=ao.cells) (k:=3) (m:=1) 0 [i] O O ao.cD dN ai a8 λn r=>?_;refine Lw (ι:=SP) [_,_,_] _ Y O aF O O (λ_=>.tuple #[]) (λq=>(cj 190 62 198 a b ⟨bi [i] (⟨⟨t.g.code,t.g.fix++[(⟨(t.g.code.length:Int),kind,m⟩:fI)]⟩,t.ca,(c,d)⟩:cG).g,q,(⟨⟨t.g.code,t.g.fix++[(⟨(t.g.code.length:Int),kind,m⟩:fI)]⟩,t.ca,(c,d)⟩:cG).fa⟩)) (λ_=>True) [n] ai (λw j=>(lG a b (⟨⟨t.g.code,t.g.fix++[(⟨(t.g.code.length:Int),kind,m⟩:fI)]⟩,t.ca,(c,d)⟩:cG) n (some ⟨p,0,none⟩) 1 [i] w r (by simp; omega) j).mono λe l ⟨q,s,u⟩=>⟨q,s,trivial,u⟩) ?_;intro v _;refine ad<|ae<|ac O<|ag O<|ad<|am ?_;refine R1 O O λl j=>?_;exact ⟨(v,(c,d)),O,Wv 1<|Wt 3 j⟩
def v' (a:Nat) (b:iM) (t:cG) (op:Int) (w:World) (f:t.g.code.length+1<=1000000000000) (i:t.g.fix.length+1<=1000000000000) (c:Ws w (List.flatMap aQ.ids<|cj 190 62 198 a b t) (cj 190 62 198 a b t) [] w) :
   Calls prog 284 #[.pointer (some ⟨a,0,none⟩),.int .i64 op] w λe d=>∃q:(SP×SP)×Nat×Nat,e = .returned (.func (.func 333) #[] #[.pointer (some ⟨q.2.1,0,none⟩),.pointer (some ⟨q.2.2,0,none⟩)])/\Ws w (List.flatMap aQ.ids<|cj 190 62 198 a b t) ((cj 190 62 198 a b ⟨aS ⟨op,0,0⟩ 1 0 t.g,q.1.1,q.1.2⟩)++[aq q.2.1 (.cells #[.pointer (some ⟨a,0,none⟩)] 188 (0,0)),aq q.2.2 (.cells #[.int .i64 (t.g.code.length:Int)] 3 (0,0))]) [] d:=by
 refine enter func284 O 11 O O ?_;refine CE c<|ae ?_;refine WL.box Y O O λj=>?_;refine ag O<|ad<|ae<|I (Yd 0 O O O ab)<|ac O<|I (Yb h3 iD O O)<|Lf 3 O<|Lf 3 O<|Lf 3 O ?_;refine Lw (ι:=SP×SP) [_,_,_] _ Y O aF O O (λ_=>.int .i64 (t.g.code.length:Int)) (λq=>(cj 190 62 198 a b ⟨aS ⟨op,0,0⟩ 1 0 t.g,q.1,q.2⟩)) (λ_=>True) [] ai (λw c=>(xV a b t  ⟨op,0,0⟩ 1 0 w  f i c).mono λe d ⟨q,k,l⟩=>⟨q,k,trivial,l⟩) ?_;intro m _;refine Al Y O l8 λn=>?_;refine aT 0 Y O O O dL O O O<|ad<|ae<|I (wF O)<|ag O<|ad<|am ?_;refine R1 O O λd c=>?_;exact ⟨(m,j,n),O,(by have h:=c; have h:=h.aj 4 O; have h:=h.aj 4 O; have h:=h.aj 4 O; have h:=h.aj 4 O; exact h)⟩
def uq (a:Nat) (c:iM) (t:cG) (p f n:Nat) (x:ao) (w:World) (i:t.g.code[n]? = some x) (j:Ws w (List.flatMap aQ.ids<|(cj 190 62 198 a c t)++[aq p (.cells #[.pointer (some ⟨a,0,none⟩)] 188 (0,0)),aq f (.cells #[.int .i64 (n:Int)] 3 (0,0))]) ((cj 190 62 198 a c t)++[aq p (.cells #[.pointer (some ⟨a,0,none⟩)] 188 (0,0)),aq f (.cells #[.int .i64 (n:Int)] 3 (0,0))]) [] w) :
   Calls prog 333 #[.pointer (some ⟨p,0,none⟩),.pointer (some ⟨f,0,none⟩)] w λe k=>e = .returned (.tuple #[])/\Ws w (List.flatMap aQ.ids<|(cj 190 62 198 a c t)++[aq p (.cells #[.pointer (some ⟨a,0,none⟩)] 188 (0,0)),aq f (.cells #[.int .i64 (n:Int)] 3 (0,0))]) ((cj 190 62 198 a c ⟨cF n t.g,t.ca,t.fa⟩)++[aq p (.cells #[.pointer (some ⟨a,0,none⟩)] 188 (0,0)),aq f (.cells #[.int .i64 (n:Int)] 3 (0,0))]) [] k:=by
 have m:=(cq.1 i).1;refine enter func333 O 16 O O ?_;refine CE j ?_;refine WC.re 1 O aa λo l q r=>?_;refine WC.n0 1 [(0,true),(1,true),(2,true),(3,true),(4,true),(5,true),(6,true),(7,true),(8,true),(9,true),(10,true),(11,true),(12,true),(13,true),(14,false)] mixed ab (λ_ _ _ d _ h=>by cases d<;>exact h) ?_;refine D0 O (Wp 1) (Yd 2 O O O ab)<|D0 O (Wp 1) (bw O)<|D0 O (Wp 1) (Yf m_ O)<|D0 O (Wp 1) (Yf oH O)<|D0 O (Wp 1) (Yd 0 O O O ab)<|D0 O (Wp 1) (Yd 3 O O O ab)<|D0 O (Wp 1) (Yd 2 O O O ab)<|D0 O (Wp 1) (bw O) ?_;refine D0 O (Wp 1) (Yf m_ O)<|D0 O (Wp 1) (Yf oH O)<|D0 O (Wp 1) (Yd 0 O O O ab)<|D0 O (Wp 1) (Yn kj O)<|D0 O (Wp 1) (Yo kj O O l m)<|D0 O (Wp 1) (Yf m4 O) ?_;refine De O (Wp 1) ?_;refine WL.storeT (y:=x) 1 n 1 (⟨x.op,(t.g.code.length:Int),x.b⟩:ao) Y O O O l O ao.cD i dL O O a8 O ?_;refine Ln<|Ed ?_;refine WD.nil (Wp 1) ?_;refine E0 O λk j=>?_;rw [Rm i];exact ⟨O,j.nn 0 O (show aq a (rt 190 c t)=aq a (rt 190 c ⟨{ t.g with code:=t.g.code.set n ⟨x.op,(t.g.code.length:Int),x.b⟩ },t.ca,t.fa⟩) by simp [rt])⟩
def Af (f:View) (b:Nat) (d:iM) (k:Nat):Prop:=∀(x:dr) (a:Option Addr) (c:Nat) (t:cG) (w:World),Sl (ie k) 5 f a c x.args->w6 x->t.g.code.length+8*e7 x<=1000000000000->t.g.fix.length+8*e7 x<=1000000000000->
 Ws w (List.flatMap aQ.ids<|cj 190 62 198 b d t) (cj 190 62 198 b d t) [f] w->Calls prog 280 #[.pointer (some ⟨b,0,none⟩),.agg (mo x a c).toArray] w λe h=>∃q:SP×SP,e = .returned (.tuple #[])/\Ws w (List.flatMap aQ.ids<|cj 190 62 198 b d t) (cj 190 62 198 b d ⟨aP x t.g,q.1,q.2⟩) [f] h
variable {fT:List dr}
def v_ {x:dr} (h:fT[Z]? = some x):e7 x<=hG fT:=by
 have:=w5 h; omega
def Hp {x y:dr} (h:fT[0]? = some x) (a:fT[1]? = some y):e7 x+e7 y<=hG fT:=by
 have b:hG (fT.take 1)=hG (fT.take 0)+e7 x:=(w5 h).1;have c:hG (fT.take 2)=hG (fT.take 1)+e7 y:=(w5 a).1;have d:hG (fT.take 2)<=hG fT:=(w5 a).2;omega
def Ob (b:Nat) (d:iM) (t:cG) (f:View) (k:Nat) (l:List dr) (a:Option Addr) (c:Nat) (w:World) (hN:∀k2,k2<k->Af f b d k2) (m:Sl (ie k) 5 f a c l) (y:w7 l) (G:t.g.code.length+8*hG l<=1000000000000) (H:t.g.fix.length+8*hG l<=1000000000000) (i:Ws w (List.flatMap aQ.ids<|cj 190 62 198 b d t) (cj 190 62 198 b d t) [f] w) :
   Calls prog 332 #[.pointer (some ⟨b,0,none⟩),.slice a l.length c] w λe n=>∃q:SP×SP,e = .returned (.tuple #[])/\Ws w (List.flatMap aQ.ids<|cj 190 62 198 b d t) (cj 190 62 198 b d ⟨gJ l t.g,q.1,q.2⟩) [f] n:=by
 have J:=m.cap;have K:=m.max;refine enter func332 O 16 O O ?_;refine CE i<|ae<|ac O<|I (Yn hc O)<|ac O<|ad<|Cb ?_;refine ey (ι:=Nat×SP×SP) (λg=>[(8,.int .i64 (g.1:Int))]) [(0,_),(6,_),(7,_)] (λg=>Ws w (List.flatMap aQ.ids<|cj 190 62 198 b d t) (cj 190 62 198 b d ⟨gJ (l.take g.1) t.g,g.2.1,g.2.2⟩) [f]) (λg=>g.1<=l.length) (λg=>l.length-g.1) (0,t.ca,t.fa) (di _) ay ?_;intro g L;refine ae<|I (cI O O)<|ad<|Cs ?_;refine Cc O (λo=>?_)<|λo=>?_
 ·have p:g.1<l.length:=by simpa using o
  obtain ⟨x,j⟩:=cR p;obtain ⟨M,N,z,r⟩:=m.b5 g.1 x j
  obtain ⟨k2,rfl⟩:∃k2,k=k2+1:=by
    cases k with
    | zero=>exact r.elim
    | succ k2=>exact ⟨k2,rfl⟩
  obtain ⟨s,u,A,B⟩:=r;have P:=w5 j;have v:=kU (l.take g.1) t.g;have Q:=v.hi;have R:=v.ij;refine bW<|Cs<|Cb<|ae<|I (Yo hc O O z p)<|I (dz 0 gS O O O<|A) ?_;refine Al Y O xN λS=>?_;refine aT 0 Y O O O z1 O O O<|ad<|aao 0 (.cells (mo x s u).toArray 53 (0,0)) O O<|Cr<|ac O<|I (db 0 O O gS O)<|Lf 3 O<|Lf 3 O ?_;refine Lf 3 O ?_;refine Lw (ι:=SP×SP) [_,_,_] _ Y O aF O O (λ_=>.tuple #[]) (λq=>(cj 190 62 198 b d ⟨aP x (⟨gJ (l.take g.1) t.g,g.2.1,g.2.2⟩:cG).g,q.1,q.2⟩)) (λ_=>True) [f] ai (λw i=>(hN k2 aa x s u (⟨gJ (l.take g.1) t.g,g.2.1,g.2.2⟩:cG) w B (y.at_ j) (by show (gJ (l.take g.1) t.g).code.length+(8*e7 x)<=_; omega) (by show (gJ (l.take g.1) t.g).fix.length+(8*e7 x)<=_; omega) i).mono λe n ⟨q,C,D⟩=>⟨q,C,trivial,D⟩) ?_;intro E _;refine Ln<|Eb<|Et<|Cr<|I (Yi O O O aa)<|ac O<|Ln ?_;rw [<-Rf j];exact c8 ((g.1+1,E):Nat×SP×SP) (by show _-(g.1+1)<_; omega) (by show g.1+1<=_; omega)<|λ_ h=>(Wt 3 h:)
 have F:g.1=l.length:=by simp at o; omega
 rw [F,gE];refine Ce<|Ex<|Ex<|dQ ?_;refine E0 O λn i=>?_;exact ⟨g.2,O,i⟩
def Oc (b:Nat) (d:iM) (t:cG) (h:View) (k:Nat) (m pl:Int) (l:List dr) (a:Option Addr) (c:Nat) (w:World) (hN:∀k2,k2<k->Af h b d k2) (r:Sl (ie k) 5 h a c l) (s:w7 l) (v:t.g.code.length+8*(1+hG l)<=1000000000000) (x:t.g.fix.length+8*(1+hG l)<=1000000000000) (f:Ws w (List.flatMap aQ.ids<|cj 190 62 198 b d t) (cj 190 62 198 b d t) [h] w) :
   Calls prog 283 #[.pointer (some ⟨b,0,none⟩),.int .i64 m,.int .i64 pl,.slice a l.length c] w λe i=>∃q:SP×SP,e = .returned (.tuple #[])/\Ws w (List.flatMap aQ.ids<|cj 190 62 198 b d t) (cj 190 62 198 b d ⟨aS ⟨13,pl,0⟩ 2 m<|gJ l t.g,q.1,q.2⟩) [h] i:=by
 have o:=kU l t.g;have y:=o.hi;have z:=o.ij;refine enter func283 O 16 O O ?_;refine CE f<|ae<|ac O<|ac O ?_;refine Lw (ι:=SP×SP) [_,_,_] _ Y O aF O O (λ_=>.tuple #[]) (λq=>(cj 190 62 198 b d ⟨gJ l t.g,q.1,q.2⟩)) (λ_=>True) [h] ai (λw f=>(Ob b d t h k l a c w hN r s aa aa f).mono λe i ⟨q,j,n⟩=>⟨q,j,trivial,n⟩) ?_;intro p _;refine ad<|Cr<|ac O<|ac O<|I (Yb h3 iD O O)<|ac O ?_;refine Lw (ι:=SP×SP) [_,_,_] _ Y O aF O O (λ_=>.int .i64 ((gJ l t.g).code.length:Int)) (λq=>(cj 190 62 198 b d ⟨aS ⟨13,pl,0⟩ 2 m<|gJ l t.g,q.1,q.2⟩)) (λ_=>True) [] ai (λw f=>(xV b d (⟨gJ l t.g,p.1,p.2⟩:cG)  ⟨13,pl,0⟩ 2 m w  (by show (gJ l t.g).code.length+1<=_; omega) (by show (gJ l t.g).fix.length+1<=_; omega) f).mono λe i ⟨q,j,n⟩=>⟨q,j,trivial,n⟩) ?_;intro u _;refine Ln ?_;refine E0 O λi f=>?_;exact ⟨u,O,f⟩
def Od (b:Nat) (d:iM) (t:cG) (h:View) (k:Nat) (m pl n:Int) (x:dr) (a:Option Addr) (c:Nat) (w:World) (hN:Af h b d k) (r:Sl (ie k) 5 h a c x.args) (s:w6 x) (v:t.g.code.length+(8*e7 x+1)<=1000000000000) (y:t.g.fix.length+(8*e7 x+1)<=1000000000000) (f:Ws w (List.flatMap aQ.ids<|cj 190 62 198 b d t) (cj 190 62 198 b d t) [h] w) :
   Calls prog 282 #[.pointer (some ⟨b,0,none⟩),.int .i64 m,.int .i64 pl,.int .i64 n,.agg (mo x a c).toArray] w λe i=>∃q:SP×SP,e = .returned (.tuple #[])/\Ws w (List.flatMap aQ.ids<|cj 190 62 198 b d t) (cj 190 62 198 b d ⟨aS ⟨6,pl,n⟩ 3 m<|aP x t.g,q.1,q.2⟩) [h] i:=by
 have o:=mY x t.g;have z:=o.hi;have A:=o.ij;refine enter func282 O 19 O O ?_;refine CE f<|ae ?_;refine WL.box Y O O λB=>?_;refine ad<|ae<|ac O<|I (db 0 O O gS O)<|Lf 3 O<|Lf 3 O<|Lf 3 O ?_;refine Lw (ι:=SP×SP) [_,_,_] _ Y O aF O O (λ_=>.tuple #[]) (λq=>(cj 190 62 198 b d ⟨aP x t.g,q.1,q.2⟩)) (λ_=>True) [h] ai (λw f=>(hN x a c t w r s (by show (t.g).code.length+(8*e7 x)<=_; omega) (by show (t.g).fix.length+(8*e7 x)<=_; omega) f).mono λe i ⟨q,j,l⟩=>⟨q,j,trivial,l⟩) ?_;intro p _;refine ad<|Cr<|ac O<|ac O<|ac O<|I (Yb h3 iD O O)<|ac O ?_;refine Lw (ι:=SP×SP) [_,_,_] _ Y O aF O O (λ_=>.int .i64 ((aP x t.g).code.length:Int)) (λq=>(cj 190 62 198 b d ⟨aS ⟨6,pl,n⟩ 3 m<|aP x t.g,q.1,q.2⟩)) (λ_=>True) [] ai (λw f=>(xV b d (⟨aP x t.g,p.1,p.2⟩:cG)  ⟨6,pl,n⟩ 3 m w  (by show (aP x t.g).code.length+1<=_; omega) (by show (aP x t.g).fix.length+1<=_; omega) f).mono λe i ⟨q,j,l⟩=>⟨q,j,trivial,l⟩) ?_;intro u _;refine Ln ?_;refine E0 O λi f=>?_;exact ⟨u,O,Wt 3 f⟩
def W9 (j:Nat) (l:iM) (t:cG) (B:View) (k:Nat) (x:dr) (a:Option Addr) (c:Nat) (w:World) (J:Sl (ie k) 5 B a c x.args) (G:w6 x) (bQ:t.g.code.length+8*e7 x<=1000000000000) (bR:t.g.fix.length+8*e7 x<=1000000000000) (b:Ws w (List.flatMap aQ.ids<|cj 190 62 198 j l t) (cj 190 62 198 j l t) [B] w) :
   Calls prog 280 #[.pointer (some ⟨j,0,none⟩),.agg (mo x a c).toArray] w λe r=>∃q:SP×SP,e = .returned (.tuple #[])/\Ws w (List.flatMap aQ.ids<|cj 190 62 198 j l t) (cj 190 62 198 j l ⟨aP x t.g,q.1,q.2⟩) [B] r:=by
 induction k using Nat.strongRecOn generalizing x a c t w
 rename_i k bb;have hN:∀k2,k2<k->Af B j l k2:=λk2 h x a c t w o p bc bd be=>bb k2 h t x a c w o p bc bd be;have bS:=J.cap;have bT:=J.max;have bU:=Rj x;refine enter func280 O 143 O O ?_;refine CE b<|ae ?_;refine WL.box Y O O λbV=>?_;refine ad<|ae<|I (Yf pn O)<|I (Yd 0 O O O ab)<|ad<|Cb<|ae<|I (bz O O)<|ag O<|ad ?_;refine Cc O (λaw=>?_)<|λaw=>?_
 ·have s:x.op=1:=by simpa using aw
  refine Cr<|ac O<|I (Yf m9 O)<|I (Yd 0 O O O ab)<|I (Yb h3 iD O O) ?_;refine Lb Y O jo O O O O λbf=>?_;refine WL.kO (rd:=bt) (f:=ao.cells) (k:=3) (m:=1) 0 [⟨1,x.n,0⟩] O O ao.cD (λ_ _ _ _ h=>h) (by simp) (by decide) λaX bg=>?_;refine Lf 3 O<|Lf 3 O<|Lf 3 O ?_;refine Lw (ι:=SP) [_,_,_] _ Y O aF O O (λ_=>.tuple #[]) (λq=>(cj 190 62 198 j l ⟨bi [⟨1,x.n,0⟩] t.g,q,t.fa⟩)) (λ_=>True) [aX] (by simp) (λw b=>(lG j l t aX (some ⟨bf,0,none⟩) 1 [⟨1,x.n,0⟩] w bg (by show (t.g).code.length+[⟨1,x.n,0⟩].length<=_; (try simp only [dA]); omega) b).mono λe r ⟨q,o,p⟩=>⟨q,o,trivial,p⟩) ?_;intro bh _;refine Ln<|Eb ?_;refine E0 O λr b=>?_
  have v:aP x t.g=bi [⟨1,x.n,0⟩] t.g:=by
    rw [rr,gP,ZZ s]
  rw [v];exact ⟨(bh,t.fa),O,Wv 1<|Wt 3 b⟩
 have K:¬x.op=1:=by simpa using aw
 refine ae<|I (bz O O)<|ag O<|ad ?_;refine Cc O (λax=>?_)<|λax=>?_
 ·have s:x.op=2:=by simpa using ax
  refine Cr<|ac O<|I (Yb h3 iD O O) ?_;refine Lb Y O jo O O O O λbj=>?_;refine WL.kO (rd:=bt) (f:=ao.cells) (k:=3) (m:=1) 0 [⟨18,0,0⟩] O O ao.cD (λ_ _ _ _ h=>h) (by simp) (by decide) λaY bk=>?_;refine Lf 3 O<|Lf 3 O<|Lf 3 O ?_;refine Lw (ι:=SP) [_,_,_] _ Y O aF O O (λ_=>.tuple #[]) (λq=>(cj 190 62 198 j l ⟨bi [⟨18,0,0⟩] t.g,q,t.fa⟩)) (λ_=>True) [aY] (by simp) (λw b=>(lG j l t aY (some ⟨bj,0,none⟩) 1 [⟨18,0,0⟩] w bk (by show (t.g).code.length+[⟨18,0,0⟩].length<=_; (try simp only [dA]); omega) b).mono λe r ⟨q,o,p⟩=>⟨q,o,trivial,p⟩) ?_;intro bl _;refine Ln<|Eb ?_;refine E0 O λr b=>?_
  have v:aP x t.g=bi [⟨18,0,0⟩] t.g:=by
    rw [rr,gP,ZX K,ZZ s]
  rw [v];exact ⟨(bl,t.fa),O,Wv 1<|Wt 3 b⟩
 have M:¬x.op=2:=by simpa using ax
 refine ae<|I (bz O O)<|ag O<|ad ?_;refine Cc O (λay=>?_)<|λay=>?_
 ·have s:x.op=16:=by simpa using ay
  refine Cr<|ac O<|I (Yf k8 O)<|I (Yd 0 O O O ab)<|I (Yb h3 iD O O) ?_;refine Lb Y O jo O O O O λbm=>?_;refine WL.kO (rd:=bt) (f:=ao.cells) (k:=3) (m:=1) 0 [⟨2,x.pl,0⟩] O O ao.cD (λ_ _ _ _ h=>h) (by simp) (by decide) λaZ bn=>?_;refine Lf 3 O<|Lf 3 O<|Lf 3 O ?_;refine Lw (ι:=SP) [_,_,_] _ Y O aF O O (λ_=>.tuple #[]) (λq=>(cj 190 62 198 j l ⟨bi [⟨2,x.pl,0⟩] t.g,q,t.fa⟩)) (λ_=>True) [aZ] (by simp) (λw b=>(lG j l t aZ (some ⟨bm,0,none⟩) 1 [⟨2,x.pl,0⟩] w bn (by show (t.g).code.length+[⟨2,x.pl,0⟩].length<=_; (try simp only [dA]); omega) b).mono λe r ⟨q,o,p⟩=>⟨q,o,trivial,p⟩) ?_;intro bo _;refine Ln<|Eb ?_;refine E0 O λr b=>?_
  have v:aP x t.g=bi [⟨2,x.pl,0⟩] t.g:=by
    rw [rr,gP,ZX K,ZX M,ZZ s]
  rw [v];exact ⟨(bo,t.fa),O,Wv 1<|Wt 3 b⟩
 have P:¬x.op=16:=by simpa using ay
 refine ae<|I (bz O O)<|ag O<|ad ?_;refine Cc O (λaz=>?_)<|λaz=>?_
 ·have s:x.op=3:=by simpa using az
  refine Cr<|ac O<|I (Yf k8 O)<|I (Yd 0 O O O ab)<|I (Yb h3 iD O O)<|I (Yf mJ O)<|I (Yd 0 O O O ab)<|Lf 3 O ?_;refine Lf 3 O<|Lf 3 O ?_;refine Lw (ι:=SP×SP) [_,_,_] _ Y O aF O O (λ_=>.int .i64 (t.g.code.length:Int)) (λq=>(cj 190 62 198 j l ⟨aS ⟨4,x.pl,0⟩ 3 x.m t.g,q.1,q.2⟩)) (λ_=>True) [] (by simp) (λw b=>(xV j l t  ⟨4,x.pl,0⟩ 3 x.m w  (by omega) (by omega) b).mono λe r ⟨q,o,p⟩=>⟨q,o,trivial,p⟩) ?_;intro a0 _;refine Ln<|Eb ?_;refine E0 O λr b=>?_
  have v:aP x t.g=aS ⟨4,x.pl,0⟩ 3 x.m t.g:=by
    rw [rr,gP,ZX K,ZX M,ZX P,ZZ s]
  rw [v];exact ⟨(a0.1,a0.2),O,Wt 3 b⟩
 have W:¬x.op=3:=by simpa using az
 refine ae<|I (bz O O)<|ag O<|ad ?_;refine Cc O (λaA=>?_)<|λaA=>?_
 ·have s:x.op=4:=by simpa using aA
  refine Cs ?_;have bX:=G.args.2.1 (by omega);obtain ⟨y,C⟩:∃y,x.args[0]? = some y:=⟨_,c6 (by omega)⟩;obtain ⟨a1,a2,X,N⟩:=J.b5 0 y C
  obtain ⟨k2,rfl⟩:∃k2,k=k2+1:=by
    cases k with
    | zero=>exact N.elim
    | succ k2=>exact ⟨k2,rfl⟩
  obtain ⟨Z,aa,af,ah⟩:=N;have Q:=hN k2 (by omega);have ai:=G.args.1.at_ C;have D:=mY y t.g;have aB:=D.hi;have aC:=D.ij;have a3:=D.lo;have bY:=v_ C;refine CU (λ_=>true) [1,1,1] [] (.q false 0<|.q false 1<|.q true 2<|.q false 3<|.q true 4<|.q false 5<|.q true 6<|.q false 7<|.q true 8<|.q false 9<|.q true 10<|.e 11 .nil .stop) mixed (by kernel_rfl) (λ_ _ _ d _ _ h=>by cases d<;>exact h) ?_;refine U0 O (ct [1,1,1]) (Ym O)<|U0 O (ct [1,1,1]) (Yf mJ O)<|U0 O (ct [1,1,1]) (Yd 0 O O O ab)<|U0 O (ct [1,1,1]) (Yf k8 O)<|U0 O (ct [1,1,1]) (Yd 0 O O O ab)<|U0 O (ct [1,1,1]) (Yf m9 O)<|U0 O (ct [1,1,1]) (Yd 0 O O O ab)<|U0 O (ct [1,1,1]) (Yf lC O) ?_;refine U0 O (ct [1,1,1]) (Yd 0 O O O ab)<|U0 O (ct [1,1,1]) (Yo (i:=0) hc O O X (by omega))<|U0 O (ct [1,1,1]) (dz 0 gS O O O<|af) ?_;refine Ue O (ct [1,1,1]) ?_ WU.stop;refine Lf 3 O<|Lf 3 O<|Lf 3 O ?_;refine Lw (ι:=SP×SP) [_,_,_] _ Y O aF O O (λ_=>.tuple #[]) (λq=>(cj 190 62 198 j l ⟨aS ⟨6,x.pl,x.n⟩ 3 x.m<|aP y t.g,q.1,q.2⟩)) (λ_=>True) [B] (by simp) (λw b=>(Od j l t B k2 x.m x.pl x.n y Z aa w Q ah ai (by omega) (by omega) b).mono λe r ⟨q,o,p⟩=>⟨q,o,trivial,p⟩) ?_;intro R _;refine Ln<|Eu ?_;refine WU.nil (λ_ h=>(Wo 1 (Wo 1<|Wo 1<|h.f 3 O):)) ?_;refine WS.nil ?_;refine Et<|Cr<|ac O<|I (Yb h3 iD O O) ?_;refine Lb Y O jo O O O O λbp=>?_;refine WL.kO (rd:=bt) (f:=ao.cells) (k:=3) (m:=1) 0 [⟨7,0,0⟩] O O ao.cD (λ_ _ _ _ h=>h) (by simp) (by decide) λa4 bq=>?_;refine Lw (ι:=SP) [_,_,_] _ Y O aF O O (λ_=>.tuple #[]) (λq=>(cj 190 62 198 j l ⟨bi [⟨7,0,0⟩] (⟨(aS ⟨6,x.pl,x.n⟩ 3 x.m<|aP y t.g),R.1,R.2⟩:cG).g,q,(⟨(aS ⟨6,x.pl,x.n⟩ 3 x.m<|aP y t.g),R.1,R.2⟩:cG).fa⟩)) (λ_=>True) [a4] (by simp) (λw b=>(lG j l (⟨(aS ⟨6,x.pl,x.n⟩ 3 x.m<|aP y t.g),R.1,R.2⟩:cG) a4 (some ⟨bp,0,none⟩) 1 [⟨7,0,0⟩] w bq (by show ((aS ⟨6,x.pl,x.n⟩ 3 x.m<|aP y t.g)).code.length+[⟨7,0,0⟩].length<=_; (try simp only [dA]); omega) b).mono λe r ⟨q,o,p⟩=>⟨q,o,trivial,p⟩) ?_;intro br _;refine Ln<|Eb ?_;refine E0 O λr b=>?_
  have v:aP x t.g=bi [⟨7,0,0⟩] (aS ⟨6,x.pl,x.n⟩ 3 x.m<|aP y t.g):=by
    rw [rr,gP,ZX K,ZX M,ZX P,ZX W,ZZ s];rw [mx C]
  rw [v];exact ⟨(br,R.2),O,Wv 1<|Wt 3 b⟩
 have aj:¬x.op=4:=by simpa using aA
 refine ae<|I (bz O O)<|ag O<|ad ?_;refine Cc O (λaD=>?_)<|λaD=>?_
 ·have s:x.op=5:=by simpa using aD
  refine Cr<|ac O<|I (Yf mJ O)<|I (Yd 0 O O O ab)<|I (Yf k8 O)<|I (Yd 0 O O O ab)<|I (Yf lC O)<|I (Yd 0 O O O ab) ?_;refine Lf 3 O<|Lf 3 O<|Lf 3 O ?_;refine Lw (ι:=SP×SP) [_,_,_] _ Y O aF O O (λ_=>.tuple #[]) (λq=>(cj 190 62 198 j l ⟨aS ⟨13,x.pl,0⟩ 2 x.m<|gJ x.args t.g,q.1,q.2⟩)) (λ_=>True) [B] (by simp) (λw b=>(Oc j l t B k x.m x.pl x.args a c w hN J G.args.1 (by omega) (by omega) b).mono λe r ⟨q,o,p⟩=>⟨q,o,trivial,p⟩) ?_;intro a5 _;refine Ln<|Eb ?_;refine E0 O λr b=>?_
  have v:aP x t.g=aS ⟨13,x.pl,0⟩ 2 x.m (gJ x.args t.g):=by
    rw [rr,gP,ZX K,ZX M,ZX P,ZX W,ZX aj,ZZ s];rw [yZ]
  rw [v];exact ⟨(a5.1,a5.2),O,Wt 3 b⟩
 have ap:¬x.op=5:=by simpa using aD
 refine Cs<|ae<|I (bz O O)<|ag O<|ad ?_;refine Cc O (λar=>?_)<|λar=>?_
 ·have s:x.op=7:=by simpa using ar
  refine bW ?_;refine Cc O (λS=>?_)<|λS=>?_
  ·refine Cs ?_;have bs:=G.args.2.2.1 (by omega);obtain ⟨y,C⟩:∃y,x.args[0]? = some y:=⟨_,c6 (by omega)⟩;obtain ⟨a1,a2,X,N⟩:=J.b5 0 y C;obtain ⟨z,L⟩:∃y,x.args[1]? = some y:=⟨_,c6 (by omega)⟩;obtain ⟨bu,bv,aE,aG⟩:=J.b5 1 z L
   obtain ⟨k2,rfl⟩:∃k2,k=k2+1:=by
     cases k with
     | zero=>exact N.elim
     | succ k2=>exact ⟨k2,rfl⟩
   obtain ⟨Z,aa,af,ah⟩:=N;have Q:=hN k2 (by omega);have ai:=G.args.1.at_ C;have D:=mY y t.g;have aB:=D.hi;have aC:=D.ij;have a3:=D.lo;obtain ⟨aH,aI,aJ,aK⟩:=aG;have aL:=G.args.1.at_ L;have bw:=Hp C L;have T:=mY z (aS ⟨12,0,0⟩ 1 0<|aP y t.g);have aM:=T.hi;have aN:=T.ij;have aO:=T.lo;have U:=mY z (cF ((aP y t.g).code.length)<|aS ⟨11,0,0⟩ 1 0<|bi [⟨1,1,0⟩]<|aS ⟨12,0,0⟩ 1 0<|aP y t.g);have aR:=U.hi;have aT:=U.ij;have aU:=U.lo;simp only [dA] at aM aN aO aR aT aU;refine Cr<|ac O<|I (Yf lC O)<|I (Yd 0 O O O ab)<|I (Yo (i:=0) hc O O X (by omega))<|I (dz 0 gS O O O<|af)<|Lf 3 O<|Lf 3 O ?_;refine Lf 3 O ?_;refine Lw (ι:=SP×SP) [_,_,_] _ Y O aF O O (λ_=>.tuple #[]) (λq=>(cj 190 62 198 j l ⟨aP y t.g,q.1,q.2⟩)) (λ_=>True) [B] (by simp) (λw b=>(Q y Z aa t w ah ai (by show (t.g).code.length+8*e7 y<=_; (try simp only [dA]); omega) (by show (t.g).fix.length+8*e7 y<=_; (try simp only [dA]); omega) b).mono λe r ⟨q,o,p⟩=>⟨q,o,trivial,p⟩) ?_;intro ak _;refine ad<|ae<|ac O ?_;refine Lw (ι:=(SP×SP)×Nat×Nat) [_,_,_] _ Y O aF O O (λq=>.func (.func 333) #[] #[.pointer (some ⟨q.2.1,0,none⟩),.pointer (some ⟨q.2.2,0,none⟩)]) (λq=>(cj 190 62 198 j l ⟨aS ⟨12,0,0⟩ 1 0<|aP y t.g,q.1.1,q.1.2⟩)++[aq q.2.1 (.cells #[.pointer (some ⟨j,0,none⟩)] 188 (0,0)),aq q.2.2 (.cells #[.int .i64 ((aP y t.g).code.length:Int)] 3 (0,0))]) (λ_=>True) [] (by simp) (λw b=>(v' j l (⟨(aP y t.g),ak.1,ak.2⟩:cG) 12 w (by show ((aP y t.g)).code.length+1<=_; (try simp only [dA]); omega) (by show ((aP y t.g)).fix.length+1<=_; (try simp only [dA]); omega) b).mono λe r ⟨q,o,p⟩=>⟨q,o,trivial,p⟩) ?_;intro A _;refine ag O<|ad<|Cs<|ae<|I (Yf pn O)<|I (Yd 5 O O O ab)<|I (bz O O)<|ad ?_;refine Cc O (λal=>?_)<|λal=>?_
   ·exact absurd al (by rw [s]; decide)
   refine bW<|Cs<|ae<|I (Yf pn O)<|I (Yd 5 O O O ab)<|I (bz O O)<|ad ?_;refine Cc O (λan=>?_)<|λan=>?_
   ·exact absurd an (by rw [s]; decide)
   refine bW<|ae<|ac O<|I (Yf lC O)<|I (Yd 5 O O O ab)<|I (Yo (i:=1) hc O O aE (by omega))<|I (dz 0 gS O O O<|aJ) ?_;refine Lw (ι:=SP×SP) [_,_,_] _ Y O aF O O (λ_=>.tuple #[]) (λq=>(cj 190 62 198 j l ⟨aP z<|aS ⟨12,0,0⟩ 1 0<|aP y t.g,q.1,q.2⟩)) (λ_=>True) [B] (by simp) (λw b=>(Q z aH aI (⟨(aS ⟨12,0,0⟩ 1 0<|aP y t.g),A.1.1,A.1.2⟩:cG) w aK aL (by show ((aS ⟨12,0,0⟩ 1 0<|aP y t.g)).code.length+8*e7 z<=_; (try simp only [dA]); omega) (by show ((aS ⟨12,0,0⟩ 1 0<|aP y t.g)).fix.length+8*e7 z<=_; (try simp only [dA]); omega) b).mono λe r ⟨q,o,p⟩=>⟨q,o,trivial,p⟩) ?_;intro V _;refine ad<|ae<|ac O<|I (Yb h3 iD O O) ?_;refine Lb Y O jo O O O O λbx=>?_;refine WL.kO (rd:=bt) (f:=ao.cells) (k:=3) (m:=1) 0 [⟨22,0,0⟩] O O ao.cD (λ_ _ _ _ h=>h) (by simp) (by decide) λa6 bA=>?_;refine Lw (ι:=SP) [_,_,_] _ Y O aF O O (λ_=>.tuple #[]) (λq=>(cj 190 62 198 j l ⟨bi [⟨22,0,0⟩] (⟨(aP z<|aS ⟨12,0,0⟩ 1 0<|aP y t.g),V.1,V.2⟩:cG).g,q,(⟨(aP z<|aS ⟨12,0,0⟩ 1 0<|aP y t.g),V.1,V.2⟩:cG).fa⟩)) (λ_=>True) [a6] (by simp) (λw b=>(lG j l (⟨(aP z<|aS ⟨12,0,0⟩ 1 0<|aP y t.g),V.1,V.2⟩:cG) a6 (some ⟨bx,0,none⟩) 1 [⟨22,0,0⟩] w bA (by show ((aP z<|aS ⟨12,0,0⟩ 1 0<|aP y t.g)).code.length+[⟨22,0,0⟩].length<=_; (try simp only [dA]); omega) b).mono λe r ⟨q,o,p⟩=>⟨q,o,trivial,p⟩) ?_;intro bB _;refine ad<|ae<|ac O ?_;refine Lw (ι:=(SP×SP)×Nat×Nat) [_,_,_] _ Y O aF O O (λq=>.func (.func 333) #[] #[.pointer (some ⟨q.2.1,0,none⟩),.pointer (some ⟨q.2.2,0,none⟩)]) (λq=>(cj 190 62 198 j l ⟨aS ⟨11,0,0⟩ 1 0<|bi [⟨22,0,0⟩]<|aP z<|aS ⟨12,0,0⟩ 1 0<|aP y t.g,q.1.1,q.1.2⟩)++[aq q.2.1 (.cells #[.pointer (some ⟨j,0,none⟩)] 188 (0,0)),aq q.2.2 (.cells #[.int .i64 ((bi [⟨22,0,0⟩]<|aP z<|aS ⟨12,0,0⟩ 1 0<|aP y t.g).code.length:Int)] 3 (0,0))]) (λ_=>True) [] (by simp) (λw b=>(v' j l (⟨(bi [⟨22,0,0⟩]<|aP z<|aS ⟨12,0,0⟩ 1 0<|aP y t.g),bB,V.2⟩:cG) 11 w (by show ((bi [⟨22,0,0⟩]<|aP z<|aS ⟨12,0,0⟩ 1 0<|aP y t.g)).code.length+1<=_; (try simp only [dA]); omega) (by show ((bi [⟨22,0,0⟩]<|aP z<|aS ⟨12,0,0⟩ 1 0<|aP y t.g)).fix.length+1<=_; (try simp only [dA]); omega) b).mono λe r ⟨q,o,p⟩=>⟨q,o,trivial,p⟩) ?_;intro u _;refine ag O<|ad<|ae<|ac O<|Lf 6 O<|Lf 6 O<|Lf 4 O<|Lf 4 O<|Lf 4 O ?_;refine WL.gY (ι:=Unit) [_,_,_,_,_] _ Y O aF O O O (λ_=>.tuple #[]) (λ_=>(cj 190 62 198 j l ⟨cF ((aP y t.g).code.length)<|aS ⟨11,0,0⟩ 1 0<|bi [⟨22,0,0⟩]<|aP z<|aS ⟨12,0,0⟩ 1 0<|aP y t.g,(⟨(aS ⟨11,0,0⟩ 1 0<|bi [⟨22,0,0⟩]<|aP z<|aS ⟨12,0,0⟩ 1 0<|aP y t.g),u.1.1,u.1.2⟩:cG).ca,(⟨(aS ⟨11,0,0⟩ 1 0<|bi [⟨22,0,0⟩]<|aP z<|aS ⟨12,0,0⟩ 1 0<|aP y t.g),u.1.1,u.1.2⟩:cG).fa⟩)++[aq A.2.1 (.cells #[.pointer (some ⟨j,0,none⟩)] 188 (0,0)),aq A.2.2 (.cells #[.int .i64 ((aP y t.g).code.length:Int)] 3 (0,0))]) (λ_=>True) [] (by simp) (λw b=>(uq j l (⟨(aS ⟨11,0,0⟩ 1 0<|bi [⟨22,0,0⟩]<|aP z<|aS ⟨12,0,0⟩ 1 0<|aP y t.g),u.1.1,u.1.2⟩:cG) A.2.1 A.2.2 ((aP y t.g).code.length) _ w (c6 (by show (aP y t.g).code.length<((aS ⟨11,0,0⟩ 1 0<|bi [⟨22,0,0⟩]<|aP z<|aS ⟨12,0,0⟩ 1 0<|aP y t.g)).code.length; (try simp only [dA]); omega)) b).mono λe r h=>⟨(),h.1,trivial,h.2⟩) ?_
   intro _ _;refine ad<|ae<|ac O<|I (Yb h3 iD O O) ?_;refine Lb Y O jo O O O O λbC=>?_;refine WL.kO (rd:=bt) (f:=ao.cells) (k:=3) (m:=1) 0 [⟨1,0,0⟩] O O ao.cD (λ_ _ _ _ h=>h) (by simp) (by decide) λa7 bD=>?_;refine Lw (ι:=SP) [_,_,_] _ Y O aF O O (λ_=>.tuple #[]) (λq=>(cj 190 62 198 j l ⟨bi [⟨1,0,0⟩] (⟨(cF ((aP y t.g).code.length)<|aS ⟨11,0,0⟩ 1 0<|bi [⟨22,0,0⟩]<|aP z<|aS ⟨12,0,0⟩ 1 0<|aP y t.g),u.1.1,u.1.2⟩:cG).g,q,(⟨(cF ((aP y t.g).code.length)<|aS ⟨11,0,0⟩ 1 0<|bi [⟨22,0,0⟩]<|aP z<|aS ⟨12,0,0⟩ 1 0<|aP y t.g),u.1.1,u.1.2⟩:cG).fa⟩)) (λ_=>True) [a7] (by simp) (λw b=>(lG j l (⟨(cF ((aP y t.g).code.length)<|aS ⟨11,0,0⟩ 1 0<|bi [⟨22,0,0⟩]<|aP z<|aS ⟨12,0,0⟩ 1 0<|aP y t.g),u.1.1,u.1.2⟩:cG) a7 (some ⟨bC,0,none⟩) 1 [⟨1,0,0⟩] w bD (by show ((cF ((aP y t.g).code.length)<|aS ⟨11,0,0⟩ 1 0<|bi [⟨22,0,0⟩]<|aP z<|aS ⟨12,0,0⟩ 1 0<|aP y t.g)).code.length+[⟨1,0,0⟩].length<=_; (try simp only [dA]); omega) b).mono λe r ⟨q,o,p⟩=>⟨q,o,trivial,p⟩) ?_;intro au _;refine ad<|Cr<|ac O<|Lf 6 O<|Lf 6 O<|Lf 4 O<|Lf 4 O<|Lf 4 O ?_;refine WL.gY (ι:=Unit) [_,_,_,_,_] _ Y O aF O O O (λ_=>.tuple #[]) (λ_=>(cj 190 62 198 j l ⟨cF ((bi [⟨22,0,0⟩]<|aP z<|aS ⟨12,0,0⟩ 1 0<|aP y t.g).code.length)<|bi [⟨1,0,0⟩]<|cF ((aP y t.g).code.length)<|aS ⟨11,0,0⟩ 1 0<|bi [⟨22,0,0⟩]<|aP z<|aS ⟨12,0,0⟩ 1 0<|aP y t.g,(⟨(bi [⟨1,0,0⟩]<|cF ((aP y t.g).code.length)<|aS ⟨11,0,0⟩ 1 0<|bi [⟨22,0,0⟩]<|aP z<|aS ⟨12,0,0⟩ 1 0<|aP y t.g),au,u.1.2⟩:cG).ca,(⟨(bi [⟨1,0,0⟩]<|cF ((aP y t.g).code.length)<|aS ⟨11,0,0⟩ 1 0<|bi [⟨22,0,0⟩]<|aP z<|aS ⟨12,0,0⟩ 1 0<|aP y t.g),au,u.1.2⟩:cG).fa⟩)++[aq u.2.1 (.cells #[.pointer (some ⟨j,0,none⟩)] 188 (0,0)),aq u.2.2 (.cells #[.int .i64 ((bi [⟨22,0,0⟩]<|aP z<|aS ⟨12,0,0⟩ 1 0<|aP y t.g).code.length:Int)] 3 (0,0))]) (λ_=>True) [] (by simp) (λw b=>(uq j l (⟨(bi [⟨1,0,0⟩]<|cF ((aP y t.g).code.length)<|aS ⟨11,0,0⟩ 1 0<|bi [⟨22,0,0⟩]<|aP z<|aS ⟨12,0,0⟩ 1 0<|aP y t.g),au,u.1.2⟩:cG) u.2.1 u.2.2 ((bi [⟨22,0,0⟩]<|aP z<|aS ⟨12,0,0⟩ 1 0<|aP y t.g).code.length) _ w (c6 (by show (bi [⟨22,0,0⟩]<|aP z<|aS ⟨12,0,0⟩ 1 0<|aP y t.g).code.length<((bi [⟨1,0,0⟩]<|cF ((aP y t.g).code.length)<|aS ⟨11,0,0⟩ 1 0<|bi [⟨22,0,0⟩]<|aP z<|aS ⟨12,0,0⟩ 1 0<|aP y t.g)).code.length; (try simp only [dA]); omega)) b).mono λe r h=>⟨(),h.1,trivial,h.2⟩) ?_;intro _ _;refine Ln<|Eb ?_;refine E0 O λr b=>?_
   have v:aP x t.g=(cF ((bi [⟨22,0,0⟩]<|aP z<|aS ⟨12,0,0⟩ 1 0<|aP y t.g).code.length)<|bi [⟨1,0,0⟩]<|cF ((aP y t.g).code.length)<|aS ⟨11,0,0⟩ 1 0<|bi [⟨22,0,0⟩]<|aP z<|aS ⟨12,0,0⟩ 1 0<|aP y t.g):=by
     rw [rr,gP,ZX K,ZX M,ZX P,ZX W,ZX aj,ZX ap,ZZ s];unfold tO;rw [mx C,mx L]
   rw [v];exact ⟨(au,u.1.2),O,Wv 2<|Wt 3 b⟩
  rw [ar] at S; cases S
 have aV:¬x.op=7:=by simpa using ar
 refine Cr<|I (bz O O)<|ag O<|ad ?_;refine Cc O (λS=>?_)<|λS=>?_
 ·have s:x.op=8:=by simpa using S
  refine Cs ?_;have bs:=G.args.2.2.1 (by omega);obtain ⟨y,C⟩:∃y,x.args[0]? = some y:=⟨_,c6 (by omega)⟩;obtain ⟨a1,a2,X,N⟩:=J.b5 0 y C;obtain ⟨z,L⟩:∃y,x.args[1]? = some y:=⟨_,c6 (by omega)⟩;obtain ⟨bu,bv,aE,aG⟩:=J.b5 1 z L
  obtain ⟨k2,rfl⟩:∃k2,k=k2+1:=by
    cases k with
    | zero=>exact N.elim
    | succ k2=>exact ⟨k2,rfl⟩
  obtain ⟨Z,aa,af,ah⟩:=N;have Q:=hN k2 (by omega);have ai:=G.args.1.at_ C;have D:=mY y t.g;have aB:=D.hi;have aC:=D.ij;have a3:=D.lo;obtain ⟨aH,aI,aJ,aK⟩:=aG;have aL:=G.args.1.at_ L;have bw:=Hp C L;have T:=mY z (aS ⟨12,0,0⟩ 1 0<|aP y t.g);have aM:=T.hi;have aN:=T.ij;have aO:=T.lo;have U:=mY z (cF ((aP y t.g).code.length)<|aS ⟨11,0,0⟩ 1 0<|bi [⟨1,1,0⟩]<|aS ⟨12,0,0⟩ 1 0<|aP y t.g);have aR:=U.hi;have aT:=U.ij;have aU:=U.lo;simp only [dA] at aM aN aO aR aT aU;refine Cr<|ac O<|I (Yf lC O)<|I (Yd 0 O O O ab)<|I (Yo (i:=0) hc O O X (by omega))<|I (dz 0 gS O O O<|af)<|Lf 3 O<|Lf 3 O ?_;refine Lf 3 O ?_;refine Lw (ι:=SP×SP) [_,_,_] _ Y O aF O O (λ_=>.tuple #[]) (λq=>(cj 190 62 198 j l ⟨aP y t.g,q.1,q.2⟩)) (λ_=>True) [B] (by simp) (λw b=>(Q y Z aa t w ah ai (by show (t.g).code.length+8*e7 y<=_; (try simp only [dA]); omega) (by show (t.g).fix.length+8*e7 y<=_; (try simp only [dA]); omega) b).mono λe r ⟨q,o,p⟩=>⟨q,o,trivial,p⟩) ?_;intro ak _;refine ad<|ae<|ac O ?_;refine Lw (ι:=(SP×SP)×Nat×Nat) [_,_,_] _ Y O aF O O (λq=>.func (.func 333) #[] #[.pointer (some ⟨q.2.1,0,none⟩),.pointer (some ⟨q.2.2,0,none⟩)]) (λq=>(cj 190 62 198 j l ⟨aS ⟨12,0,0⟩ 1 0<|aP y t.g,q.1.1,q.1.2⟩)++[aq q.2.1 (.cells #[.pointer (some ⟨j,0,none⟩)] 188 (0,0)),aq q.2.2 (.cells #[.int .i64 ((aP y t.g).code.length:Int)] 3 (0,0))]) (λ_=>True) [] (by simp) (λw b=>(v' j l (⟨(aP y t.g),ak.1,ak.2⟩:cG) 12 w (by show ((aP y t.g)).code.length+1<=_; (try simp only [dA]); omega) (by show ((aP y t.g)).fix.length+1<=_; (try simp only [dA]); omega) b).mono λe r ⟨q,o,p⟩=>⟨q,o,trivial,p⟩) ?_;intro A _;refine ag O<|ad<|Cs<|ae<|I (Yf pn O)<|I (Yd 5 O O O ab)<|I (bz O O)<|ad ?_;refine Cc O (λal=>?_)<|λal=>?_
  ·refine ae<|ac O<|I (Yb h3 iD O O) ?_;refine Lb Y O jo O O O O λbE=>?_;refine WL.kO (rd:=bt) (f:=ao.cells) (k:=3) (m:=1) 0 [⟨1,1,0⟩] O O ao.cD (λ_ _ _ _ h=>h) (by simp) (by decide) λa8 bF=>?_;refine Lw (ι:=SP) [_,_,_] _ Y O aF O O (λ_=>.tuple #[]) (λq=>(cj 190 62 198 j l ⟨bi [⟨1,1,0⟩] (⟨(aS ⟨12,0,0⟩ 1 0<|aP y t.g),A.1.1,A.1.2⟩:cG).g,q,(⟨(aS ⟨12,0,0⟩ 1 0<|aP y t.g),A.1.1,A.1.2⟩:cG).fa⟩)) (λ_=>True) [a8] (by simp) (λw b=>(lG j l (⟨(aS ⟨12,0,0⟩ 1 0<|aP y t.g),A.1.1,A.1.2⟩:cG) a8 (some ⟨bE,0,none⟩) 1 [⟨1,1,0⟩] w bF (by show ((aS ⟨12,0,0⟩ 1 0<|aP y t.g)).code.length+[⟨1,1,0⟩].length<=_; (try simp only [dA]); omega) b).mono λe r ⟨q,o,p⟩=>⟨q,o,trivial,p⟩) ?_;intro bG _;refine ad<|ae<|ac O ?_;refine Lw (ι:=(SP×SP)×Nat×Nat) [_,_,_] _ Y O aF O O (λq=>.func (.func 333) #[] #[.pointer (some ⟨q.2.1,0,none⟩),.pointer (some ⟨q.2.2,0,none⟩)]) (λq=>(cj 190 62 198 j l ⟨aS ⟨11,0,0⟩ 1 0<|bi [⟨1,1,0⟩]<|aS ⟨12,0,0⟩ 1 0<|aP y t.g,q.1.1,q.1.2⟩)++[aq q.2.1 (.cells #[.pointer (some ⟨j,0,none⟩)] 188 (0,0)),aq q.2.2 (.cells #[.int .i64 ((bi [⟨1,1,0⟩]<|aS ⟨12,0,0⟩ 1 0<|aP y t.g).code.length:Int)] 3 (0,0))]) (λ_=>True) [] (by simp) (λw b=>(v' j l (⟨(bi [⟨1,1,0⟩]<|aS ⟨12,0,0⟩ 1 0<|aP y t.g),bG,A.1.2⟩:cG) 11 w (by show ((bi [⟨1,1,0⟩]<|aS ⟨12,0,0⟩ 1 0<|aP y t.g)).code.length+1<=_; (try simp only [dA]); omega) (by show ((bi [⟨1,1,0⟩]<|aS ⟨12,0,0⟩ 1 0<|aP y t.g)).fix.length+1<=_; (try simp only [dA]); omega) b).mono λe r ⟨q,o,p⟩=>⟨q,o,trivial,p⟩) ?_;intro F _;refine ag O<|ad<|ae<|ac O<|Lf 6 O<|Lf 6 O<|Lf 4 O<|Lf 4 O<|Lf 4 O ?_;refine WL.gY (ι:=Unit) [_,_,_,_,_] _ Y O aF O O O (λ_=>.tuple #[]) (λ_=>(cj 190 62 198 j l ⟨cF ((aP y t.g).code.length)<|aS ⟨11,0,0⟩ 1 0<|bi [⟨1,1,0⟩]<|aS ⟨12,0,0⟩ 1 0<|aP y t.g,(⟨(aS ⟨11,0,0⟩ 1 0<|bi [⟨1,1,0⟩]<|aS ⟨12,0,0⟩ 1 0<|aP y t.g),F.1.1,F.1.2⟩:cG).ca,(⟨(aS ⟨11,0,0⟩ 1 0<|bi [⟨1,1,0⟩]<|aS ⟨12,0,0⟩ 1 0<|aP y t.g),F.1.1,F.1.2⟩:cG).fa⟩)++[aq A.2.1 (.cells #[.pointer (some ⟨j,0,none⟩)] 188 (0,0)),aq A.2.2 (.cells #[.int .i64 ((aP y t.g).code.length:Int)] 3 (0,0))]) (λ_=>True) [] (by simp) (λw b=>(uq j l (⟨(aS ⟨11,0,0⟩ 1 0<|bi [⟨1,1,0⟩]<|aS ⟨12,0,0⟩ 1 0<|aP y t.g),F.1.1,F.1.2⟩:cG) A.2.1 A.2.2 ((aP y t.g).code.length) _ w (c6 (by show (aP y t.g).code.length<((aS ⟨11,0,0⟩ 1 0<|bi [⟨1,1,0⟩]<|aS ⟨12,0,0⟩ 1 0<|aP y t.g)).code.length; (try simp only [dA]); omega)) b).mono λe r h=>⟨(),h.1,trivial,h.2⟩) ?_;intro _ _;refine ad<|Cr<|ac O<|ag O<|ad<|Cs<|ae<|I (Yf pn O)<|I (Yd 7 O O O ab)<|I (bz O O)<|ad ?_;refine Cc O (λan=>?_)<|λan=>?_
   ·refine ae<|ac O<|I (Yf lC O)<|I (Yd 7 O O O ab)<|I (Yo (i:=1) hc O O aE (by omega))<|I (dz 1 gS O O O<|aJ) ?_;refine Lw (ι:=SP×SP) [_,_,_] _ Y O aF O O (λ_=>.tuple #[]) (λq=>(cj 190 62 198 j l ⟨aP z<|cF ((aP y t.g).code.length)<|aS ⟨11,0,0⟩ 1 0<|bi [⟨1,1,0⟩]<|aS ⟨12,0,0⟩ 1 0<|aP y t.g,q.1,q.2⟩)) (λ_=>True) [B] (by simp) (λw b=>(Q z aH aI (⟨(cF ((aP y t.g).code.length)<|aS ⟨11,0,0⟩ 1 0<|bi [⟨1,1,0⟩]<|aS ⟨12,0,0⟩ 1 0<|aP y t.g),F.1.1,F.1.2⟩:cG) w aK aL (by show ((cF ((aP y t.g).code.length)<|aS ⟨11,0,0⟩ 1 0<|bi [⟨1,1,0⟩]<|aS ⟨12,0,0⟩ 1 0<|aP y t.g)).code.length+8*e7 z<=_; (try simp only [dA]); omega) (by show ((cF ((aP y t.g).code.length)<|aS ⟨11,0,0⟩ 1 0<|bi [⟨1,1,0⟩]<|aS ⟨12,0,0⟩ 1 0<|aP y t.g)).fix.length+8*e7 z<=_; (try simp only [dA]); omega) b).mono λe r ⟨q,o,p⟩=>⟨q,o,trivial,p⟩) ?_;intro H _;refine ad<|ae<|ac O<|I (Yb h3 iD O O) ?_;refine Lb Y O jo O O O O λbH=>?_;refine WL.kO (rd:=bt) (f:=ao.cells) (k:=3) (m:=1) 0 [⟨22,0,0⟩] O O ao.cD (λ_ _ _ _ h=>h) (by simp) (by decide) λa9 bI=>?_;refine Lw (ι:=SP) [_,_,_] _ Y O aF O O (λ_=>.tuple #[]) (λq=>(cj 190 62 198 j l ⟨bi [⟨22,0,0⟩] (⟨(aP z<|cF ((aP y t.g).code.length)<|aS ⟨11,0,0⟩ 1 0<|bi [⟨1,1,0⟩]<|aS ⟨12,0,0⟩ 1 0<|aP y t.g),H.1,H.2⟩:cG).g,q,(⟨(aP z<|cF ((aP y t.g).code.length)<|aS ⟨11,0,0⟩ 1 0<|bi [⟨1,1,0⟩]<|aS ⟨12,0,0⟩ 1 0<|aP y t.g),H.1,H.2⟩:cG).fa⟩)) (λ_=>True) [a9] (by simp) (λw b=>(lG j l (⟨(aP z<|cF ((aP y t.g).code.length)<|aS ⟨11,0,0⟩ 1 0<|bi [⟨1,1,0⟩]<|aS ⟨12,0,0⟩ 1 0<|aP y t.g),H.1,H.2⟩:cG) a9 (some ⟨bH,0,none⟩) 1 [⟨22,0,0⟩] w bI (by show ((aP z<|cF ((aP y t.g).code.length)<|aS ⟨11,0,0⟩ 1 0<|bi [⟨1,1,0⟩]<|aS ⟨12,0,0⟩ 1 0<|aP y t.g)).code.length+[⟨22,0,0⟩].length<=_; (try simp only [dA]); omega) b).mono λe r ⟨q,o,p⟩=>⟨q,o,trivial,p⟩) ?_;intro av _;refine ad<|ae<|ac O<|Lf 6 O<|Lf 6 O<|Lf 4 O<|Lf 4 O<|Lf 4 O ?_;refine WL.gY (ι:=Unit) [_,_,_,_,_] _ Y O aF O O O (λ_=>.tuple #[]) (λ_=>(cj 190 62 198 j l ⟨cF ((bi [⟨1,1,0⟩]<|aS ⟨12,0,0⟩ 1 0<|aP y t.g).code.length)<|bi [⟨22,0,0⟩]<|aP z<|cF ((aP y t.g).code.length)<|aS ⟨11,0,0⟩ 1 0<|bi [⟨1,1,0⟩]<|aS ⟨12,0,0⟩ 1 0<|aP y t.g,(⟨(bi [⟨22,0,0⟩]<|aP z<|cF ((aP y t.g).code.length)<|aS ⟨11,0,0⟩ 1 0<|bi [⟨1,1,0⟩]<|aS ⟨12,0,0⟩ 1 0<|aP y t.g),av,H.2⟩:cG).ca,(⟨(bi [⟨22,0,0⟩]<|aP z<|cF ((aP y t.g).code.length)<|aS ⟨11,0,0⟩ 1 0<|bi [⟨1,1,0⟩]<|aS ⟨12,0,0⟩ 1 0<|aP y t.g),av,H.2⟩:cG).fa⟩)++[aq F.2.1 (.cells #[.pointer (some ⟨j,0,none⟩)] 188 (0,0)),aq F.2.2 (.cells #[.int .i64 ((bi [⟨1,1,0⟩]<|aS ⟨12,0,0⟩ 1 0<|aP y t.g).code.length:Int)] 3 (0,0))]) (λ_=>True) [] (by simp) (λw b=>(uq j l (⟨(bi [⟨22,0,0⟩]<|aP z<|cF ((aP y t.g).code.length)<|aS ⟨11,0,0⟩ 1 0<|bi [⟨1,1,0⟩]<|aS ⟨12,0,0⟩ 1 0<|aP y t.g),av,H.2⟩:cG) F.2.1 F.2.2 ((bi [⟨1,1,0⟩]<|aS ⟨12,0,0⟩ 1 0<|aP y t.g).code.length) _ w (c6 (by show (bi [⟨1,1,0⟩]<|aS ⟨12,0,0⟩ 1 0<|aP y t.g).code.length<((bi [⟨22,0,0⟩]<|aP z<|cF ((aP y t.g).code.length)<|aS ⟨11,0,0⟩ 1 0<|bi [⟨1,1,0⟩]<|aS ⟨12,0,0⟩ 1 0<|aP y t.g)).code.length; (try simp only [dA]); omega)) b).mono λe r h=>⟨(),h.1,trivial,h.2⟩) ?_
    intro _ _;refine ad<|am<|Er<|cN ?_;refine WE.Ei O λr b=>?_
    have v:aP x t.g=(cF ((bi [⟨1,1,0⟩]<|aS ⟨12,0,0⟩ 1 0<|aP y t.g).code.length)<|bi [⟨22,0,0⟩]<|aP z<|cF ((aP y t.g).code.length)<|aS ⟨11,0,0⟩ 1 0<|bi [⟨1,1,0⟩]<|aS ⟨12,0,0⟩ 1 0<|aP y t.g):=by
      rw [rr,gP,ZX K,ZX M,ZX P,ZX W,ZX aj,ZX ap,ZX aV,ZZ s];unfold gT;rw [mx C,mx L]
    rw [v];exact ⟨(av,H.2),O,Wv 2<|Wt 3 b⟩
   exact absurd an (by rw [s]; decide)
  exact absurd al (by rw [s]; decide)
 have a':¬x.op=8:=by simpa using S
 refine Cs ?_;have D:=kU x.args t.g;have aB:=D.hi;have aC:=D.ij;refine Cr<|ac O<|I (Yf lC O)<|I (Yd 0 O O O ab)<|Lf 3 O<|Lf 3 O<|Lf 3 O ?_;refine Lw (ι:=SP×SP) [_,_,_] _ Y O aF O O (λ_=>.tuple #[]) (λq=>(cj 190 62 198 j l ⟨gJ x.args t.g,q.1,q.2⟩)) (λ_=>True) [B] (by simp) (λw b=>(Ob j l t B k x.args a c w hN J G.args.1 (by omega) (by omega) b).mono λe r ⟨q,o,p⟩=>⟨q,o,trivial,p⟩) ?_;intro E _;refine ad<|ae<|I (Yf pn O)<|I (Yd 3 O O O ab)<|I (bz O O)<|ad ?_;refine Cc O (λaW=>?_)<|λaW=>?_
 ·have s:x.op=6:=by simpa using aW
  refine Cr<|ac O<|I (Yb h3 iD O O) ?_;refine Lb Y O jo O O O O λbJ=>?_;refine WL.kO (rd:=bt) (f:=ao.cells) (k:=3) (m:=1) 0 [⟨9,0,0⟩] O O ao.cD (λ_ _ _ _ h=>h) (by simp) (by decide) λa_ bK=>?_;refine Lw (ι:=SP) [_,_,_] _ Y O aF O O (λ_=>.tuple #[]) (λq=>(cj 190 62 198 j l ⟨bi [⟨9,0,0⟩] (⟨(gJ x.args t.g),E.1,E.2⟩:cG).g,q,(⟨(gJ x.args t.g),E.1,E.2⟩:cG).fa⟩)) (λ_=>True) [a_] (by simp) (λw b=>(lG j l (⟨(gJ x.args t.g),E.1,E.2⟩:cG) a_ (some ⟨bJ,0,none⟩) 1 [⟨9,0,0⟩] w bK (by show ((gJ x.args t.g)).code.length+[⟨9,0,0⟩].length<=_; (try simp only [dA]); omega) b).mono λe r ⟨q,o,p⟩=>⟨q,o,trivial,p⟩) ?_;intro bL _;refine Ln<|Eb ?_;refine E0 O λr b=>?_
  have v:aP x t.g=bi [⟨9,0,0⟩] (gJ x.args t.g):=by
    rw [rr,gP,ZX K,ZX M,ZX P,ZX W,ZX aj,ZX ap,ZX aV,ZX a',ZZ s];rw [yZ]
  rw [v];exact ⟨(bL,E.2),O,Wv 1<|Wt 3 b⟩
 have bM:¬x.op=6:=by simpa using aW
 refine Cr<|ac O<|I (Yf pn O)<|I (Yd 3 O O O ab)<|I (Yb h3 iD O O) ?_;refine Lb Y O jo O O O O λbN=>?_;refine WL.kO (rd:=bt) (f:=ao.cells) (k:=3) (m:=1) 0 [⟨10,x.op,0⟩] O O ao.cD (λ_ _ _ _ h=>h) (by simp) (by decide) λba bO=>?_;refine Lw (ι:=SP) [_,_,_] _ Y O aF O O (λ_=>.tuple #[]) (λq=>(cj 190 62 198 j l ⟨bi [⟨10,x.op,0⟩] (⟨(gJ x.args t.g),E.1,E.2⟩:cG).g,q,(⟨(gJ x.args t.g),E.1,E.2⟩:cG).fa⟩)) (λ_=>True) [ba] (by simp) (λw b=>(lG j l (⟨(gJ x.args t.g),E.1,E.2⟩:cG) ba (some ⟨bN,0,none⟩) 1 [⟨10,x.op,0⟩] w bO (by show ((gJ x.args t.g)).code.length+[⟨10,x.op,0⟩].length<=_; (try simp only [dA]); omega) b).mono λe r ⟨q,o,p⟩=>⟨q,o,trivial,p⟩) ?_;intro bP _;refine Ln<|Eb ?_;refine E0 O λr b=>?_
 have v:aP x t.g=bi [⟨10,x.op,0⟩] (gJ x.args t.g):=by
   rw [rr,gP,ZX K,ZX M,ZX P,ZX W,ZX aj,ZX ap,ZX aV,ZX a',ZX bM,yZ]
 rw [v];exact ⟨(bP,E.2),O,Wv 1<|Wt 3 b⟩
end Go.Proofs.YtgeahfjicmlocaaGreatDoor
end
