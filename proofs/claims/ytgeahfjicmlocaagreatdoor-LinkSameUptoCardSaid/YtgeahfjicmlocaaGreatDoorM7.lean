/- LinkSame: the code of a program does what the program means (proved in the second form, bulk at most 1048576). -/
import Derived.Test.YtgeahfjicmlocaaGreatDoorM6
set_option linter.unusedVariables false
set_option linter.unusedSimpArgs false
set_option linter.defProp false
section
namespace Go.Proofs.YtgeahfjicmlocaaGreatDoor
open Go.Bw Go.Proofs.Tryz
def DB (l:List b8) (bg:List Int) (aM:Int):ny l bg aM=if jO l=0 then (if 64<bg.length then 2 else if (decide (aM<0)||decide (2000<aM))=true then 3 else 0) else jO l:=rfl
def X9:gX prog 180=some [(0,1),(1,1),(2,1),(3,1),(4,1),(5,1),(6,4)]:=ab
def X':zeroOf prog 180=some (.agg #[.slice none 0 0,.slice none 0 0,.slice none 0 0,.slice none 0 0,.int .i64 0,.int .i64 0,.int .i64 0,.slice none 0 0,.slice none 0 0,.int .i64 0]):=ab
def X_:zeroOf prog 177=some (.pointer none):=ab
def Zz:aJ prog 177=some 1:=ab
def sK:hf prog 178 29 (.slice none 0 0) 1 24:=jb ab
def HL:aJ prog 178=some 1:=ab
set_option maxHeartbeats 4000000 in
def ZC (A:View) (n:Nat) (a:Option Addr) (c:Nat) (l:List b8) (X:View) (ap:Option Addr) (au:Nat) (bg:List Int) (aM:Int) (w:World) (bd:Le A w) (H:Sl (ve n) 5 A a c l) (a2:∀u ∈ l,u.aA.length<=1048576) (be:Le X w) (av:Sl hy 1 X ap au bg) :
   Calls prog 25 #[.slice a l.length c,.slice ap bg.length au,.int .i64 aM] w λe B=>∃r:SP×SP,e = .returned (.tuple #[RM (g6 l bg aM) r,.int .i64 (ny l bg aM)])/\Ext w B/\Sl hy 1 (nv w B) r.1.1 r.1.2 (g6 l bg aM).out/\Sl hy 1 (nv w B) r.2.1 r.2.2 (g6 l bg aM).data:=by
 have b1:=H.cap;have b2:=H.max;have b4:=av.cap;have b6:=av.max;refine Be func25 O 119 O O ?_;refine CE (Vs:=[X,A]) (Ws.init (by simp [be,bd]))<|ae ?_;refine Al Y O ph λM=>?_;refine Al Y O zA λK=>?_;refine ad<|Cs<|ae<|ac O<|Lp Y O aF O (λw k=>W6 A n n a c l w k.V (H.imp λ_ _ _ h=>h) a2)<|ag O<|ad<|ae<|ac O<|I (h9 O O)<|ad ?_;refine Cc O (λaw=>?_)<|λaw=>?_
 ·have F:¬jO l=0:=by simpa using aw
  refine ae<|I (Yb ph t_ O O)<|ac O<|aT 1 Y O O O pg O O O<|aT 0 Y O O O l6 O O O<|ad<|am<|Er ?_;refine WE.r9 (hV O (eM 1 O O lx O)<|h6 0 O O O ab) λB k=>?_
  have p:(ny l bg aM)=jO l:=by rw [DB,ZX F]
  rw [FJ (by rw [p]; exact F),p];exact ⟨((none,0),(none,0)),O,k.fr,Sl.nil,Sl.nil⟩
 have F:jO l=0:=by simpa using aw
 have G:=yX.1 F;have b9:=G.e8;have b':=vp G;refine bW<|Cs<|ae<|ac O<|I (Yn e3 O)<|I (eh O O)<|ad ?_;refine Cc O (λax=>?_)<|λax=>?_
 ·have Z:64<bg.length:=by simp at ax; omega
  refine ae<|I (Yb ph t_ O O)<|aT 1 Y O O O pg O O O<|aT 0 Y O O O l6 O O O<|ad<|am<|Er ?_;refine WE.r9 (hV O (eM 1 O O lx O)<|h6 0 O O O ab) λB k=>?_
  have p:(ny l bg aM)=2:=by rw [DB,ZZ F,ZZ Z]
  rw [FJ (by rw [p]; decide),p];exact ⟨((none,0),(none,0)),O,k.fr,Sl.nil,Sl.nil⟩
 have Z:¬64<bg.length:=by simp at ax; omega
 refine bW<|Cs<|ae<|ac O<|I (cI O O)<|ac O ?_;apply Lo 2 O O O O Y O O O O O
 ·intro b_;refine Vg (Ym O)<|Vg (eh O O) ?_;exact Gt 2 O O O
 refine ad ?_;refine Cc O (λaf=>?_)<|λaf=>?_
 ·refine ae<|I (Yb ph t_ O O)<|aT 1 Y O O O pg O O O<|aT 0 Y O O O l6 O O O<|ad<|am<|Er ?_;refine WE.r9 (hV O (eM 1 O O lx O)<|h6 0 O O O ab) λB k=>?_
  have p:(ny l bg aM)=3:=by rw [DB,ZZ F,ZX Z,ZZ af]
  rw [FJ (by rw [p]; decide),p];exact ⟨((none,0),(none,0)),O,k.fr,Sl.nil,Sl.nil⟩
 have p:(ny l bg aM)=0:=by rw [DB,ZZ F,ZX Z,af]; rfl
 have bf:0<=aM/\aM<=2000:=by simp at af; omega
 refine bW<|ae<|ac O<|ac O ?_;refine Ld Y O aF O (λr:SP=>.slice r.1 bg.length r.2) (λbh r=>Sl hy 1 bh r.1 r.2 bg) (λw k=>X6 X ap au bg w k.V av aa) ?_;intro ah v ca bi;refine ac O<|I (Yb X' X9 O O) ?_;refine WL.box Y O O λbj=>?_;obtain ⟨C,bk⟩:∃q,q=bj:=⟨_,rfl⟩;subst bk;refine dk 0 (FL 180 (.slice a l.length c) (.slice none 0 0) (.slice none 0 0) (.slice v.1 bg.length v.2) aM<|.slice none 0 0) O O ?_;refine Al Y O X_ λP=>?_;refine aT 0 Y O O O Zz O O O<|ad<|ae ?_;refine WL.pD st Y O λa3=>?_;refine ag O<|ad<|ae<|ag O<|ad<|Cs<|Cs ?_;refine nf (λ_ h=>h.g4 3 1) ?_;refine nf (λ_ h=>h.g4 29 1) ?_;refine nf (λ_ h=>h.v0) ?_;refine Cr<|ac O<|I (Yn lF O)<|ac O<|ad<|Cb ?_;refine ey (ι:=Ca) (λg=>[(45,.int .i64 (g.i:Int)),(11,.int .i64 (c9 (l.take g.i):Int))]) [(0,_),(6,_),(7,_),(9,_),(10,_),(43,_),(44,_)] (λg=>Ws w [] [cC 29 1 XI.cells g.ua.1 g.ua.2 (g.es),cC 3 1 jy g.ba.1 g.ba.2 ((ih l 0).take g.i),aq a3 (cY st (kT ((eS l).take g.i) 0) g.i),aq C (FL 180 (.slice a l.length c) (.slice g.ua.1 g.es.length g.ua.2) (.slice g.ba.1 ((ih l 0).take g.i).length g.ba.2) (.slice v.1 bg.length v.2) aM<|.slice none 0 0),aq P (.cells #[.pointer (some ⟨C,0,none⟩)] 177 (0,0)),aq K (.cells (Value.cells<|.int .i64 0) 30 (0,0)),aq M (.cells (Value.cells<|.agg #[.int .i64 0,.slice none 0 0,.slice none 0 0,.int .i64 0]) 64 (0,0))] [g.J,ah,A]) (λg=>g.i<=l.length/\g.es.map (·.1)=(o5 l).take g.i/\Xs pS g.J g.es) (λg=>l.length-g.i) ⟨0,[],(none,0),(none,0),v0⟩ ⟨di _,O,Xs.nil _⟩ (λ_ h=>by have h:=h.aj 6 O; have h:=h.aj 6 O; have h:=h.aj 5 O; have h:=h.aj 6 O; have h:=h.aj 6 O; have h:=h.aj 6 O; have h:=h.aj 6 O; have h:=Ws.aB h (b7:=[v0,ah,A]) ai; exact h) ?_;intro g ⟨cb,D,ak⟩;refine ae<|I (cI O O)<|ad<|Cs ?_;refine Cc O (λaC=>?_)<|λaC=>?_
 ·have E:g.i<l.length:=by simpa using aC
  obtain ⟨u,m⟩:=cR E;obtain ⟨bl,bm,aG,aH⟩:=H.b5 g.i u m;obtain ⟨L,aI,Q⟩:=aH;have cc:=Q.aA.cap;have cd:=Q.aA.max;have a4:=N7 m;have a5:=KG G.nd a4
  have a6:((eS l).take g.i).length=g.i:=by rw [k',Ac]; omega
  have bn:(eS l).take (g.i+1)=(eS l).take g.i++[u.nm]:=by rw [gV,a4]; rfl
  have ce:=a2 u (az m)
  have cf:((ih l 0).take g.i).length=g.i:=by rw [k',qN]; omega
  have cg:g.es.length=g.i:=by rw [<-fu,D,k',KM]; omega
  have aJ:=RD m;have aK:=KI m;have ch:=KJ l (g.i+1)
  have ci:0<=u.data/\u.data<=512:=by
    have a7:=N' (G.mX u<|az m);unfold cJ at a7;simp only [i9,aad] at a7;omega
  refine bW<|Cs<|Cb<|ae<|ac O<|I (Yo lF O O aG E)<|I (dz 2 bs O O O<|aI) ?_;refine Al Y O nT λbo=>?_;refine ag O<|aT 0 Y O O O nU O O O<|ad<|Cs<|aao 0 (.cells (ga u L).toArray 37 (0,0)) O O<|Cr<|ac O<|I (Yf xT O)<|I (Yd 0 O O O ab) ?_;refine ac O ?_;refine WL.rh 3 iW Y iC ab O O O O ?_;refine ad<|Cs ?_;rw [(B_ a5 a6).1,(B_ a5 a6).2,<-bn];refine Cr<|ac O ?_;refine Lb Y O gm O O O O λbp=>?_;refine dk 0 (.cells ((([g.i]:List Nat)).flatMap jy).toArray 3 (0,0)) O O<|LW (λ_ h=>h.mQ (f:=jy) (xs:=([g.i]:List Nat)) (c:=1) 0 O w8 O a8)<|ag O<|ad<|Cs<|ae<|I (Yf v9 O)<|I (Yd 1 O O O ab)<|I (Yn fQ O)<|ac O ?_;refine ad<|Cb ?_;refine ey (ι:=Nat×SP) (λj=>[(59,.int .i64 (j.1:Int)),(14,.slice j.2.1 (g.i::(u.aA.take j.1).map (b3 l)).length j.2.2)]) [(0,_),(6,_),(7,_),(9,_),(10,_),(11,_),(13,_),(43,_),(44,_),(45,_),(57,_),(58,_)] (λj=>Ws w [] [cC 3 1 jy j.2.1 j.2.2 (g.i::(u.aA.take j.1).map (b3 l)),aq bo (.cells (ga u L).toArray 37 (0,0)),cC 29 1 XI.cells g.ua.1 g.ua.2 (g.es),cC 3 1 jy g.ba.1 g.ba.2 ((ih l 0).take g.i),aq a3 (cY st (kT ((eS l).take<|g.i+1) 0)<|g.i+1),aq C (FL 180 (.slice a l.length c) (.slice g.ua.1 g.es.length g.ua.2) (.slice g.ba.1 ((ih l 0).take g.i).length g.ba.2) (.slice v.1 bg.length v.2) aM<|.slice none 0 0),aq P (.cells #[.pointer (some ⟨C,0,none⟩)] 177 (0,0)),aq K (.cells (Value.cells<|.int .i64 0) 30 (0,0)),aq M (.cells (Value.cells<|.agg #[.int .i64 0,.slice none 0 0,.slice none 0 0,.int .i64 0]) 64 (0,0))] [g.J,ah,A]) (λj=>j.1<=u.aA.length) (λj=>u.aA.length-j.1) (0,(some ⟨bp,0,none⟩,1)) (di _) ay ?_;intro j cj;refine ae<|I (cI O O)<|ad<|Cs ?_;refine Cc O (λaL=>?_)<|λaL=>?_
  ·have E:j.1<u.aA.length:=by simpa using aL
   obtain ⟨s,aN⟩:=cR E;obtain ⟨bq,pos,br,aP⟩:=Q.aA.b5 j.1 s aN;have aP:ar A bq (pos+j.1*1) (gk s):=aP;obtain ⟨bt,ck,bu,cl,_⟩:=BX G m (az aN)
   have bv:s ∈ (eS l).take (g.i+1):=by
     have a9:=(pP bu).2;rw [nX] at a9;exact az (show ((eS l).take<|g.i+1)[bt]? = some s by rw [jq,ZZ aa]; exact a9)
   refine bW<|Cs<|Cb<|ae<|I (Yo fQ O O br E)<|I (eQ 2 ab O O<|aP 0 _ O)<|ag O<|ad<|Cr<|ac O<|ac O<|ac O ?_;refine I (rf 4 iW iC ab l8 O O O) ?_;rw [(Ft s _).1,RC bv];refine Lb Y O gm O O O O λcm=>?_;refine dk 0 (.cells (jy<|b3 l s).toArray 3 (0,0)) O (O) ?_;refine LA (b3 l s) 1 0 Y O gm O O O O O O (by simp; omega) (by simp; omega) λbx bz=>?_;rw [show (g.i::(u.aA.take j.1).map (b3 l))++[b3 l s]=g.i::(u.aA.take<|j.1+1).map (b3 l) by rw [gV,aN]; simp];refine ag O<|Ln<|Eb<|Et<|Cr<|I (Yi O O O aa)<|ac O<|Ln ?_;exact c8 ((j.1+1,(bx,bz)):Nat×SP) (by show _-(j.1+1)<_; omega) (by show j.1+1<=_; omega)<|λ_ h=>Wd 1 h
  have bA:j.1=u.aA.length:=by simp at aL; omega
  refine Ce<|Ex<|Ex<|dQ<|Et<|Cs ?_;have bB:j.1=u.aA.length:=bA;rw [bB,gE];refine WC.pH (rd:=pQ) 0 O w8 dN λcn aQ=>?_;refine WC.j' λaR aS aU co=>?_;refine WC.P3 (mg [.cell 6 64,.cell 7 30]) [1,1] [1,1,2] [18,19,20,21] (.q true 0<|.q false 1<|.q true 2<|.q false 3<|.q false 4<|.q true 5<|.q false 6<|.q true 9<|.q false 10<|.q false 11<|.q true 12<|.q false 13<|.e 7 (.e 8 (.e 14 (.e 15 (.q false 16<|.q false 17 .nil) .stop) .stop)<|.e 14 (.e 8 (.e 15 (.q false 16<|.q false 17 .nil) .stop) .stop) .stop)<|.e 14 (.e 7 (.e 8 (.e 15 (.q false 16<|.q false 17 .nil) .stop) .stop) .stop) .stop) mixed ab (λ_ _ _ _ _ aV h=>oR (fn:=f25) [.cell 6 64,.cell 7 30] O aV h) ?_;refine WV.q O Y O (ct [1,1]) (λ_ h=>by exact (Wt 5 (((((h.f 7 O).f 7 O).f 7 O).f 6 O).f 4 O):)) (Yd 3 O O O ab) ?_;refine WV.q O Y O (ct [1,1]) (λ_ h=>by exact (Wt 5 (((((h.f 7 O).f 7 O).f 7 O).f 6 O).f 4 O):)) (Yd 2 O O O ab) ?_;refine WV.q O Y O (ct [1,1]) (λ_ h=>by exact (Wt 5 (((((h.f 7 O).f 7 O).f 7 O).f 6 O).f 4 O):)) (Yd 3 O O O ab) ?_;refine WV.q O Y O (ct [1,1]) (λ_ h=>by exact (Wt 5 (((((h.f 7 O).f 7 O).f 7 O).f 6 O).f 4 O):)) (bw O) ?_;refine WV.q O Y O (ct [1,1]) (λ_ h=>by exact (Wt 5 (((((h.f 7 O).f 7 O).f 7 O).f 6 O).f 4 O):)) (Yf x0 O) ?_;refine WV.q O Y O (ct [1,1]) (λ_ h=>by exact (Wt 5 (((((h.f 7 O).f 7 O).f 7 O).f 6 O).f 4 O):)) (Yd 2 O O O ab) ?_;refine WV.q O Y O (ct [1,1]) (λ_ h=>by exact (Wt 5 (((((h.f 7 O).f 7 O).f 7 O).f 6 O).f 4 O):)) (Ym O) ?_;refine WV.q O Y O (ct [1,1]) (λ_ h=>by exact (Wt 5 (((((h.f 7 O).f 7 O).f 7 O).f 6 O).f 4 O):)) (Yd 3 O O O ab) ?_;refine WV.q O Y O (ct [1,1]) (λ_ h=>by exact (Wt 5 (((((h.f 7 O).f 7 O).f 7 O).f 6 O).f 4 O):)) (bw O) ?_;refine WV.q O Y O (ct [1,1]) (λ_ h=>by exact (Wt 5 (((((h.f 7 O).f 7 O).f 7 O).f 6 O).f 4 O):)) (Yf Am O) ?_;refine WV.q O Y O (ct [1,1]) (λ_ h=>by exact (Wt 5 (((((h.f 7 O).f 7 O).f 7 O).f 6 O).f 4 O):)) (Yd 2 O O O ab) ?_;refine WV.q O Y O (ct [1,1]) (λ_ h=>by exact (Wt 5 (((((h.f 7 O).f 7 O).f 7 O).f 6 O).f 4 O):)) (Ym O) ?_;refine WV.e O (ct [1,1]) (λ_ h=>by exact (Wt 5 (((((h.f 7 O).f 7 O).f 7 O).f 6 O).f 4 O):)) ?_ ?_
  ·refine Lb Y O sK O O O O λbC=>?_;refine dk 0 (.cells (XI.cells ((g.i::u.aA.map (b3 l)),j.2)).toArray 29 (0,0)) O (O)<|Ln<|Eu ?_;refine WV.e O (λ_ h=>(Wo 1 (Wo 1<|Wd 1 h):)) (λ_ h=>by exact (Wt 5 (((((h.f 8 O).f 8 O).f 8 O).f 7 O).f 5 O):)) ?_ ?_
   ·refine LA ((((g.i::u.aA.map (b3 l)),j.2):XI)) 2 0 Y O sK O O O O O O aa aa λS T=>?_;refine Ln<|Eu ?_;refine WV.e O (λ_ h=>(Wo 1 (Wo 1<|Wd 1 h):)) (λ_ h=>by exact (Wt 5 (((((h.f 8 O).f 8 O).f 8 O).f 7 O).f 5 O):)) ?_ WU.stop;refine Lb Y O gm O O O O λa'=>?_;refine dk 0 (.cells (jy<|c9<|l.take g.i).toArray 3 (0,0)) O (O)<|Ln<|Eu ?_;refine WV.e O (λ_ h=>(Wo 1 (Wo 1<|Wd 2 h):)) (λ_ h=>by exact (Wt 5 (((((h.f 9 O).f 9 O).f 9 O).f 8 O).f 6 O):)) ?_ WU.stop;refine LA (c9<|l.take g.i) 4 0 Y O gm O O O O O O aa aa λU W=>?_;refine Ln<|Eu ?_;refine WV.q O Y O (λ_ h=>(Wo 1 (Wo 1<|Wd 2 h):)) (λ_ h=>by exact (Wt 5 (((((h.f 9 O).f 9 O).f 9 O).f 8 O).f 6 O):)) (bw O) ?_;refine WV.q O Y O (λ_ h=>(Wo 1 (Wo 1<|Wd 2 h):)) (λ_ h=>by exact (Wt 5 (((((h.f 9 O).f 9 O).f 9 O).f 8 O).f 6 O):)) (Yf x0 O) ?_;refine WU.nil (λ_ h=>(Wo 1 (Wo 1<|Wd 2 h):)) ?_;refine lO.e O (λ_ h=>by exact (Wt 5 (((((h.f 9 O).f 9 O).f 9 O).f 8 O).f 6 O):)) ?_;refine aT 6 Y O O O HL O O O<|Ln<|Es ?_;refine lO.e O (λ_ h=>by exact (Wt 5 (((((h.f 9 O).f 9 O).f 9 O).f 8 O).f 6 O):)) ?_;refine I (bw O)<|Ln<|Es ?_;refine lO.e O (λ_ h=>by exact (Wt 5 (((((h.f 9 O).f 9 O).f 9 O).f 8 O).f 6 O):)) ?_;refine I (Yf Am O)<|Ln<|Es ?_;refine lO.e O (λ_ h=>by exact (Wt 5 (((((h.f 9 O).f 9 O).f 9 O).f 8 O).f 6 O):)) ?_;refine aT 6 Y O O O jW O O O<|Ln<|Es ?_;refine lO.nil (λ_ h=>by exact (Wt 5 (((((h.f 9 O).f 9 O).f 9 O).f 8 O).f 6 O):)) ?_;refine Et<|Cr<|ac O<|I (Yf rV O)<|I (Yd 2 O O O ab)<|I (q_ (a:=c9 (l.take g.i)) (b:=u.data.toNat) O O O aa aa)<|ag O<|Ln<|Eb<|Et<|Cr<|I (Yi O O O aa) ?_;refine ac O<|Ln ?_;rw [<-aJ,<-aK];exact c8 (⟨g.i+1,g.es++[((g.i::u.aA.map (b3 l)),j.2)],(S,T),(U,W),aR⟩:Ca) (by show _-(g.i+1)<_; omega) ⟨by show g.i+1<=_; omega,by show (g.es++[((g.i::u.aA.map (b3 l)),j.2)]).map (·.1)=_; rw [qi,D,FI m]; rfl,Xs.snoc (R:=pS) (λhv h=>pS.mv hv h) ak aU aS aQ⟩<|λ_ h=>Wd 3 h
   refine WV.e O (λ_ h=>(Wo 1 (Wo 1<|Wd 1 h):)) (λ_ h=>by exact (Wt 5 (((((h.f 8 O).f 8 O).f 8 O).f 7 O).f 5 O):)) ?_ WU.stop;refine Lb Y O gm O O O O λa'=>?_;refine dk 0 (.cells (jy<|c9<|l.take g.i).toArray 3 (0,0)) O (O)<|Ln<|Eu ?_;refine WV.e O (λ_ h=>(Wo 1 (Wo 1<|Wd 2 h):)) (λ_ h=>by exact (Wt 5 (((((h.f 9 O).f 9 O).f 9 O).f 8 O).f 6 O):)) ?_ WU.stop;refine LA ((((g.i::u.aA.map (b3 l)),j.2):XI)) 3 1 Y O sK O O O O O O aa aa λS T=>?_;refine Ln<|Eu ?_;refine WV.e O (λ_ h=>(Wo 1 (Wo 1<|Wd 2 h):)) (λ_ h=>by exact (Wt 5 (((((h.f 9 O).f 9 O).f 9 O).f 8 O).f 6 O):)) ?_ WU.stop;refine LA (c9<|l.take g.i) 4 0 Y O gm O O O O O O aa aa λU W=>?_;refine Ln<|Eu ?_;refine WV.q O Y O (λ_ h=>(Wo 1 (Wo 1<|Wd 2 h):)) (λ_ h=>by exact (Wt 5 (((((h.f 9 O).f 9 O).f 9 O).f 8 O).f 6 O):)) (bw O) ?_;refine WV.q O Y O (λ_ h=>(Wo 1 (Wo 1<|Wd 2 h):)) (λ_ h=>by exact (Wt 5 (((((h.f 9 O).f 9 O).f 9 O).f 8 O).f 6 O):)) (Yf x0 O) ?_;refine WU.nil (λ_ h=>(Wo 1 (Wo 1<|Wd 2 h):)) ?_;refine lO.e O (λ_ h=>by exact (Wt 5 (((((h.f 9 O).f 9 O).f 9 O).f 8 O).f 6 O):)) ?_;refine aT 6 Y O O O HL O O O<|Ln<|Es ?_;refine lO.e O (λ_ h=>by exact (Wt 5 (((((h.f 9 O).f 9 O).f 9 O).f 8 O).f 6 O):)) ?_;refine I (bw O)<|Ln<|Es ?_;refine lO.e O (λ_ h=>by exact (Wt 5 (((((h.f 9 O).f 9 O).f 9 O).f 8 O).f 6 O):)) ?_;refine I (Yf Am O)<|Ln<|Es ?_;refine lO.e O (λ_ h=>by exact (Wt 5 (((((h.f 9 O).f 9 O).f 9 O).f 8 O).f 6 O):)) ?_;refine aT 6 Y O O O jW O O O<|Ln<|Es ?_;refine lO.nil (λ_ h=>by exact (Wt 5 (((((h.f 9 O).f 9 O).f 9 O).f 8 O).f 6 O):)) ?_;refine Et<|Cr<|ac O<|I (Yf rV O)<|I (Yd 2 O O O ab)<|I (q_ (a:=c9 (l.take g.i)) (b:=u.data.toNat) O O O aa aa)<|ag O<|Ln<|Eb<|Et<|Cr<|I (Yi O O O aa) ?_;refine ac O<|Ln ?_;rw [<-aJ,<-aK];exact c8 (⟨g.i+1,g.es++[((g.i::u.aA.map (b3 l)),j.2)],(S,T),(U,W),aR⟩:Ca) (by show _-(g.i+1)<_; omega) ⟨by show g.i+1<=_; omega,by show (g.es++[((g.i::u.aA.map (b3 l)),j.2)]).map (·.1)=_; rw [qi,D,FI m]; rfl,Xs.snoc (R:=pS) (λhv h=>pS.mv hv h) ak aU aS aQ⟩<|λ_ h=>Wd 3 h
  refine WV.e O (ct [1,1]) (λ_ h=>by exact (Wt 5 (((((h.f 7 O).f 7 O).f 7 O).f 6 O).f 4 O):)) ?_ WU.stop;refine Lb Y O gm O O O O λa'=>?_;refine dk 0 (.cells (jy<|c9<|l.take g.i).toArray 3 (0,0)) O (O)<|Ln<|Eu ?_;refine WV.e O (λ_ h=>(Wo 1 (Wo 1<|Wd 1 h):)) (λ_ h=>by exact (Wt 5 (((((h.f 8 O).f 8 O).f 8 O).f 7 O).f 5 O):)) ?_ WU.stop;refine Lb Y O sK O O O O λbC=>?_;refine dk 0 (.cells (XI.cells ((g.i::u.aA.map (b3 l)),j.2)).toArray 29 (0,0)) O (O)<|Ln<|Eu ?_;refine WV.e O (λ_ h=>(Wo 1 (Wo 1<|Wd 2 h):)) (λ_ h=>by exact (Wt 5 (((((h.f 9 O).f 9 O).f 9 O).f 8 O).f 6 O):)) ?_ WU.stop;refine LA ((((g.i::u.aA.map (b3 l)),j.2):XI)) 3 0 Y O sK O O O O O O aa aa λS T=>?_;refine Ln<|Eu ?_;refine WV.e O (λ_ h=>(Wo 1 (Wo 1<|Wd 2 h):)) (λ_ h=>by exact (Wt 5 (((((h.f 9 O).f 9 O).f 9 O).f 8 O).f 6 O):)) ?_ WU.stop;refine LA (c9<|l.take g.i) 4 1 Y O gm O O O O O O aa aa λU W=>?_;refine Ln<|Eu ?_;refine WV.q O Y O (λ_ h=>(Wo 1 (Wo 1<|Wd 2 h):)) (λ_ h=>by exact (Wt 5 (((((h.f 9 O).f 9 O).f 9 O).f 8 O).f 6 O):)) (bw O) ?_;refine WV.q O Y O (λ_ h=>(Wo 1 (Wo 1<|Wd 2 h):)) (λ_ h=>by exact (Wt 5 (((((h.f 9 O).f 9 O).f 9 O).f 8 O).f 6 O):)) (Yf x0 O) ?_;refine WU.nil (λ_ h=>(Wo 1 (Wo 1<|Wd 2 h):)) ?_;refine lO.e O (λ_ h=>by exact (Wt 5 (((((h.f 9 O).f 9 O).f 9 O).f 8 O).f 6 O):)) ?_;refine aT 6 Y O O O HL O O O<|Ln<|Es ?_;refine lO.e O (λ_ h=>by exact (Wt 5 (((((h.f 9 O).f 9 O).f 9 O).f 8 O).f 6 O):)) ?_;refine I (bw O)<|Ln<|Es ?_;refine lO.e O (λ_ h=>by exact (Wt 5 (((((h.f 9 O).f 9 O).f 9 O).f 8 O).f 6 O):)) ?_;refine I (Yf Am O)<|Ln<|Es ?_;refine lO.e O (λ_ h=>by exact (Wt 5 (((((h.f 9 O).f 9 O).f 9 O).f 8 O).f 6 O):)) ?_;refine aT 6 Y O O O jW O O O<|Ln<|Es ?_;refine lO.nil (λ_ h=>by exact (Wt 5 (((((h.f 9 O).f 9 O).f 9 O).f 8 O).f 6 O):)) ?_;refine Et<|Cr<|ac O<|I (Yf rV O)<|I (Yd 2 O O O ab)<|I (q_ (a:=c9 (l.take g.i)) (b:=u.data.toNat) O O O aa aa)<|ag O<|Ln<|Eb<|Et<|Cr<|I (Yi O O O aa) ?_;refine ac O<|Ln ?_;rw [<-aJ,<-aK];exact c8 (⟨g.i+1,g.es++[((g.i::u.aA.map (b3 l)),j.2)],(S,T),(U,W),aR⟩:Ca) (by show _-(g.i+1)<_; omega) ⟨by show g.i+1<=_; omega,by show (g.es++[((g.i::u.aA.map (b3 l)),j.2)]).map (·.1)=_; rw [qi,D,FI m]; rfl,Xs.snoc (R:=pS) (λhv h=>pS.mv hv h) ak aU aS aQ⟩<|λ_ h=>Wd 3 h
 have a_:g.i=l.length:=by simp at aC; omega
 rw [a_,show (ih l 0).take l.length=ih l 0 from lJ (by rw [qN]; omega),gE];have D:=D.trans (by rw [a_,lJ (by rw [KM]; omega)]);refine Ce<|Ex<|Ex<|dQ<|Et<|Cs ?_;refine CU (mg [.cell 6 64,.cell 7 30]) [] [6] (.q true 0<|.q false 1<|.e 2 (.q false 3<|.q false 4<|.q false 5 .nil) .stop) mixed ab (λ_ _ _ _ _ aV h=>oR (fn:=f25) [.cell 6 64,.cell 7 30] O aV h) ?_;refine U0 O ay (Yd 4 O O O ab)<|U0 O ay (Ym O) ?_;refine Ue O ay ?_ WU.stop;refine WL.make Y O gm O O aa aa aa aa λal=>?_;refine dk 0 (.cells ((List.replicate (c9 l) (0:Int)).flatMap g5).toArray 3 (0,0)) O (by rw [i',Oy])<|LW (λ_ h=>h.mQ (f:=g5) (xs:=List.replicate (c9 l) 0) (c:=c9 l) 0 O kb ai (by unfold maxLen; omega))<|Ln<|Eu<|U0 O (λ_ h=>(Wd 1 h:)) (bw O)<|U0 O (λ_ h=>(Wd 1 h:)) (Yf dU O)<|U0 O (λ_ h=>(Wd 1 h:)) (Yf eq O) ?_;refine WU.nil (λ_ h=>(Wd 1 h:)) ?_;refine WS.e O ?_;refine aT 4 Y O O O jW O O O<|Ln<|Es ?_;refine WS.nil ?_;refine Et<|ae<|I (wF O) ?_;refine WL.defer Y O ?_;refine ad<|Cs<|Cs ?_;refine WC.pH (rd:=KN) 1 O XI.cD dN λbD bE=>?_;refine WC.pH (rd:=pQ) 1 O w8 dN λbF bH=>?_;refine WC.j' λcp bI bJ cq=>?_;refine WC.j' λcr bb bK cs=>?_;refine WC.j' λcu aW bL cv=>?_;refine WC.j' λN an aX cw=>?_
 have bM:g.es.length=(o5 l).length:=by rw [<-D,fu]
 have bN:bG bF N:=bG.trans bI (bG.trans bb<|bG.trans aW an);have bO:bG bD N:=bG.trans bJ (bG.trans bb<|bG.trans aW an);have bP:bG g.J N:=bG.trans bK (bG.trans aW an);have bQ:bG ah N:=bG.trans bL an;have bc:ry N n (⟨(a,c),g.ua,g.ba⟩:KW) l aM.toNat:=⟨G,aa,H.imp<|RL aX n,by rw [<-D]; exact RI bE bO bP ak,bH.imp<|KO bN⟩;have bR:iN N (aO l aM.toNat) (c9 l) 0 (⟨su l bg,v,(none,0),(some ⟨al,0,none⟩,c9 l)⟩:eU):=⟨bi.imp λb o x h=>ar.mono bQ h,by show 0<=200; decide,di _,by show (List.replicate (c9 l) 0).length=_; simp,rfl⟩;obtain ⟨z,ao⟩:∃z,z=(⟨(a,c),g.ua,g.ba⟩:KW):=⟨_,rfl⟩;rw [<-ao] at bc
 have bT:z.l=(a,c):=by rw [ao]
 have bU:z.u=g.ua:=by rw [ao]
 have bV:z.b=g.ba:=by rw [ao]
 refine nf (λ_ h=>h.g4 3 1) ?_;refine aao 3 (lX 180 z (aO l aM.toNat) (⟨su l bg,v,(none,0),(some ⟨al,0,none⟩,c9 l)⟩:eU)) rfl (by unfold lX; rw [bT,bU,bV,show (aO l aM.toNat).aA=o5 l from rfl,<-bM,show ((aO l aM.toNat).aD:Int)=aM from Int.toNat_of_nonneg bf.1,show (⟨su l bg,v,(none,0),(some ⟨al,0,none⟩,c9 l)⟩:eU).w.data.length=c9 l from Ef,show (aO l aM.toNat).qA=ih l 0 from rfl]; rfl) ?_;refine Cr<|ac O<|I (Yn lF O)<|ac O<|ad<|Cb ?_;refine ey (ι:=Nat×eU) (λt=>[(104,.int .i64 (t.1:Int))]) [(6,_),(7,_),(9,_),(102,_),(103,_)] (λt=>Ws w [] ((dK 180 3 C z (aO l aM.toNat) t.2)++[aq P (.cells #[.pointer (some ⟨C,0,none⟩)] 177 (0,0)),aq K (.cells (Value.cells<|.int .i64 0) 30 (0,0)),aq M (.cells (Value.cells<|.agg #[.int .i64 0,.slice none 0 0,.slice none 0 0,.int .i64 0]) 64 (0,0))]) [N]) (λt=>t.1<=l.length/\iN N (aO l aM.toNat) (c9 l) 0 t.2/\kz (aO l aM.toNat) l 0 (su l bg)=kz (aO l aM.toNat) (l.drop t.1) t.1 t.2.w) (λt=>l.length-t.1) (0,(⟨su l bg,v,(none,0),(some ⟨al,0,none⟩,c9 l)⟩:eU)) ⟨di _,bR,O⟩ (λ_ h=>by exact (Wt 6 ((((((h.f 6 O).f 6 O).f 6 O).f 4 O).f 4 O).f 6 O):)) ?_;intro t ⟨cx,bX,aY⟩;refine ae<|I (cI O O)<|ad<|Cs ?_;refine Cc O (λaZ=>?_)<|λaZ=>?_
 ·have E:t.1<l.length:=by simpa using aZ
  obtain ⟨u,m⟩:=cR E;obtain ⟨bl,bm,aG,aH⟩:=H.b5 t.1 u m;obtain ⟨L,aI,Q⟩:=aH;have bY:gO (aE u::fd l u) ((([]:List Int).length:Nat):Int) u.main 1=true:=(rq<|G.mX u<|az m).2.1;refine bW<|Cs<|Cb<|ae<|ac O<|I (Yo lF O O aG E)<|I (dz 0 bs O O O<|ar.mono aX aI) ?_;refine Al Y O nT λcy=>?_;refine ag O<|aT 0 Y O O O nU O O O<|ad<|aao 0 (.cells (ga u L).toArray 37 (0,0)) O O ?_;refine nf (λ_ h=>h.g4 3 1) ?_;refine Cr<|I (Yd 5 O O O ab)<|ac O<|I (Yf C' O)<|I (Yd 1 O O O ab)<|Lf 4 O<|Lf 4 O<|Lf 4 O ?_;refine c' [_,_,_,_] _ Y O aF O O _ _ _ _ _ _ ([N]) ai (λw k=>OG N n z l aM.toNat C bc 25 0 O aa t.1 u (none,0) [] u.main L.s3.1 L.s3.2 n n t.2 w bX m (tC Q.main aX) bY k) ?_ ?_
  ·intro y a0;refine WE.bS<|Ep<|Ep<|WE.bS<|Ep ?_;refine WE.front 0 O ?_;refine WE.front 5 O ?_;refine WE.front 6 O ?_;refine WE.front 6 O ?_;refine WE.qo aF (cO [_,_,_,_] _ _ O<|λw k=>X8 P M K C z (aO l aM.toNat) y.2 y.1 _ _ _ _ _ w k) (hV O (eM 1 O O lx O)<|h6 2 O O O ab) λB k=>?_;have a1:(g6 l bg aM)=vl y.2.w y.1:=RG p (aY.trans<|(yt _ m).trans<|iw a0);rw [a1,p];exact ⟨((y.2.o.1,y.2.o.2),(y.2.d.1,y.2.d.2)),O,k.fr,k.hW 4 O kb dN,k.hW 5 O kb dN⟩
  intro y ⟨a0,bZ⟩;refine Ln<|Eb<|Et<|Cr<|I (Yi O O O aa)<|ac O<|Ln ?_;exact c8 ((t.1+1,y.2):Nat×eU) (by show _-(t.1+1)<_; omega) ⟨by show t.1+1<=_; omega,bZ,aY.trans<|(yt _ m).trans<|fK a0⟩ (λ_ h=>by exact (Wt 6 ((((((h.f 6 O).f 6 O).f 6 O).f 5 O).f 5 O).f 5 O):))
 have b0:l.length<=t.1:=by simp at aZ; omega
 refine Ce<|Ex<|Ex<|dQ<|Et<|ae<|I (Yd 3 O O O ab)<|I (bw O)<|I (Yf dU O)<|I (db 0 O O lx O)<|aT 5 Y O O O pg O O O<|aT 4 Y O O O l6 O O O ?_;refine ad<|am ?_;refine WE.front 4 O ?_;refine WE.Ey aF (cO [_] _ [aq K (.cells #[.int .i64 0] 30 (0,0))] O<|λw k=>X7 P M K _ w k) (hV O (eM 5 O O lx O)<|h6 0 O O O ab) λB k=>?_;have a1:(g6 l bg aM)=vl t.2.w 0:=RF p (aY.trans<|RE _ b0);rw [a1,p];exact ⟨((t.2.o.1,t.2.o.2),(t.2.d.1,t.2.d.2)),O,k.fr,k.hW 2 O kb dN,k.hW 3 O kb dN⟩
end Go.Proofs.YtgeahfjicmlocaaGreatDoor
end
section
namespace Go.Proofs.YtgeahfjicmlocaaGreatDoor.Mch
open Go.Bw Go.Proofs.Tryz
structure St where
 at_:Nat
 ak:List Int
 fr:List (List Int×Int)
 w:Wm
def St.m (L s:Nat) (x:St):Pm:=⟨(x.at_:Int),(L:Int),(s:Int),x.ak,x.fr,x.w.bg,x.w.out,x.w.data,(x.w.aM:Int)⟩
structure Cd (C:List eP) (L N:Nat):Prop where
 hN:N<=134217728
 hC:C.length<=2048
 hL:L<=2000
def Gx (C:List eP) (L N n:Nat) (x y:St):Prop:=∀s,s+n<=N->∀k,runK C N (n+k) (x.m L s)=runK C N k (y.m L<|s+n)
def Xx (C:List eP) (L N n:Nat) (x:St) (e:Int) (w:Wm):Prop:=∀s,s+n<=N->∀k,∃m',runK C N (n+k) (x.m L s)=(e,m')/\m'.out=w.out/\m'.data=w.data/\m'.aM=(w.aM:Int)
section
variable {C:List eP} {L N:Nat}
def Gx.refl (x:St):Gx C L N 0 x x:=λs _ k=>by rw [lK,tc]
variable {Z aw:Nat}
def Gx.trans {x y z:St} (h:Gx C L N Z x y) (k:Gx C L N aw y z):Gx C L N (Z+aw) x z:=λs a q=>by
 rw [rZ,h s aa (aw+q),k (s+Z) aa q,rZ]
variable {iV hq:St} {bb:Wm}
def Gx.x {e:Int}  (h:Gx C L N Z iV hq) (k:Xx C L N aw hq e bb):Xx C L N (Z+aw) iV e bb:=λs a q=>by
 rw [rZ,h s aa (aw+q)];exact k (s+Z) aa q
variable {vD:eP}
def OI (c:Cd C L N)   (hi:C[iV.at_]? = some vD) {s:Nat} (a:s+1<=N):iterM C N (iV.m L s)=cX vD (St.m L (s+1) { iV with at_:=iV.at_+1 }):=by
 have b:=(cq.1 hi).1;have d:=c.hN;have f:=c.hC;unfold iterM
 have a1:((iV.m L s).steps==(N:Int))=false:=by show ((s:Int)==(N:Int))=false; simp; omega
 have a2:aI (iV.m L s).at_ C.length=false:=by show aI (iV.at_:Int) C.length=false; simp [aI]; omega
 rw [a1,a2,ZX a8,ZX a8];unfold aah
 have e:(iV.m L s).tk.aV=St.m L (s+1) { iV with at_:=iV.at_+1 }:=by
   unfold Pm.tk Pm.aV St.m;dsimp only;rw [qk aa,qk aa]
   rfl
 rw [e,show C[(iV.m L s).at_.toNat]?.getD ⟨0,0,0⟩=vD by simp [St.m,hi]]
def kL (c:Cd C L N)   (hi:C[iV.at_]? = some vD) (h:∀s,cX vD (St.m L s { iV with at_:=iV.at_+1 }) = .ok () (hq.m L s)):Gx C L N 1 iV hq:=λs a k=>by
 rw [DZ 1 k,runK,OI c hi aa,h]
variable {aH:Int}
def wj (c:Cd C L N)     (hi:C[iV.at_]? = some vD) (h:∀s,∃m',cX vD (St.m L s { iV with at_:=iV.at_+1 }) = .ov aH m'/\m'.out=bb.out/\m'.data=bb.data/\m'.aM=(bb.aM:Int)):Xx C L N 1 iV aH bb:=λs d k=>by
 obtain ⟨m',a,b⟩:=h (s+1);exact ⟨m',by rw [DZ 1 k,runK,OI c hi aa,a],b⟩
variable {p:Nat} {a b v v2:Int} {ak:List Int} {fr:List (List Int×Int)} {w:Wm}
def DD (c:Cd C L N) (hi:C[p]? = some ⟨1,a,b⟩) (e:ak.length<2048):Gx C L N 1 ⟨p,ak,fr,w⟩ ⟨p+1,a::ak,fr,w⟩:=
 kL c hi λs=>by
   have d:¬ak.length=2048:=aa
   simp [cX,eY,St.m,d]
variable {ff:List Int}
def Yc (c:Cd C L N)   (hi:C[p]? = some ⟨2,a,b⟩) (g:0<=a/\a<(ff.length:Int)) (h:ak.length<2048):Gx C L N 1 ⟨p,ak,(ff,aH)::fr,w⟩ ⟨p+1,o4 ff a.toNat::ak,(ff,aH)::fr,w⟩:=
 kL c hi λs=>by
   have d:¬(a<0):=aa
   have e:¬((ff.length:Int)<=a):=aa
   have f:¬ak.length=2048:=aa
   simp [cX,eY,St.m,aaE,aI,o4,d,e,f]
def ZH (c:Cd C L N)   (hi:C[p]? = some ⟨3,a,b⟩) (f:0<=a/\a<(ff.length:Int)):Gx C L N 1 ⟨p,v::ak,(ff,aH)::fr,w⟩ ⟨p+1,ak,(ff.set a.toNat v,aH)::fr,w⟩:=
 kL c hi λs=>by
   have d:¬(a<0):=aa
   have e:¬((ff.length:Int)<=a):=aa
   simp [cX,cB,Rz.bind,St.m,aaE,aI,mL,d,e]
def Ye (c:Cd C L N) (hi:C[p]? = some ⟨4,a,b⟩) (g:0<=a/\a<(w.data.length:Int)) (h:ak.length<2048):Gx C L N 1 ⟨p,ak,fr,w⟩ ⟨p+1,o4 w.data a.toNat::ak,fr,w⟩:=
 kL c hi λs=>by
   have d:¬(a<0):=aa
   have e:¬((w.data.length:Int)<=a):=aa
   have f:¬ak.length=2048:=aa
   simp [cX,eY,St.m,aI,o4,d,e,f]
def ZI (c:Cd C L N) (hi:C[p]? = some ⟨5,a,b⟩) (f:0<=a/\a<(w.data.length:Int)):Gx C L N 1 ⟨p,v::ak,fr,w⟩ ⟨p+1,ak,fr,{ w with data:=w.data.set a.toNat v }⟩:=
 kL c hi λs=>by
   have d:¬(a<0):=aa
   have e:¬((w.data.length:Int)<=a):=aa
   simp [cX,cB,Rz.bind,St.m,aI,d,e]
def Yg (c:Cd C L N) (hi:C[p]? = some ⟨6,a,b⟩) (hv:(decide (v<0)||decide (b<=v))=false) (g:0<=a/\a<=4096) (h:b<=4096) (i:ak.length<2048):Gx C L N 1 ⟨p,v::ak,fr,w⟩ ⟨p+1,(a+v)::ak,fr,w⟩:=
 kL c hi λs=>by
   have d:IntKind.i64.wrap (a+v)=a+v:=by
     simp at hv;exact qk aa
   have e:¬(v<0\/b<=v):=by simpa using hv
   have f:¬ak.length=2048:=aa
   simp [cX,cB,Rz.bind,St.m,eY,e,d,f]
def Yh (c:Cd C L N) (hi:C[p]? = some ⟨6,a,b⟩) (hv:(decide (v<0)||decide (b<=v))=true):Xx C L N 1 ⟨p,v::ak,fr,w⟩ 2 w:=
 wj c hi λs=>by
   have d:v<0\/b<=v:=by simpa using hv
   exact ⟨St.m L s ⟨p+1,ak,fr,w⟩,by simp [cX,cB,Rz.bind,St.m,d],O,O,O⟩
def ZK (c:Cd C L N) (hi:C[p]? = some ⟨7,a,b⟩) (g:0<=v/\v<(w.data.length:Int)) (h:ak.length<2048):Gx C L N 1 ⟨p,v::ak,fr,w⟩ ⟨p+1,o4 w.data v.toNat::ak,fr,w⟩:=
 kL c hi λs=>by
   have d:¬(v<0):=aa
   have e:¬((w.data.length:Int)<=v):=aa
   have f:¬ak.length=2048:=aa
   simp [cX,cB,Rz.bind,eY,St.m,aI,o4,d,e,f]
def Yj (c:Cd C L N) (hi:C[p]? = some ⟨8,a,b⟩) (f:0<=v/\v<(w.data.length:Int)):Gx C L N 1 ⟨p,v2::v::ak,fr,w⟩ ⟨p+1,ak,fr,{ w with data:=w.data.set v.toNat v2 }⟩:=
 kL c hi λs=>by
   have d:¬(v<0):=aa
   have e:¬((w.data.length:Int)<=v):=aa
   simp [cX,cB,Rz.bind,St.m,aI,d,e]
def Yk (c:Cd C L N) (hi:C[p]? = some ⟨9,a,b⟩) (e:ak.length<2048):Gx C L N 1 ⟨p,v::ak,fr,w⟩ ⟨p+1,bH (v==0)::ak,fr,w⟩:=
 kL c hi λs=>by
   have d:¬ak.length=2048:=aa
   simp [cX,cB,Rz.bind,eY,St.m,mE,bH,d]
def OJ (c:Cd C L N) (hi:C[p]? = some ⟨22,a,b⟩) (e:ak.length<2048):Gx C L N 1 ⟨p,v::ak,fr,w⟩ ⟨p+1,bH (!(v==0))::ak,fr,w⟩:=
 kL c hi λs=>by
   have d:¬ak.length=2048:=aa
   simp [cX,cB,Rz.bind,eY,St.m,mE,bH,d]
def DE (c:Cd C L N) {q:Nat} (hi:C[p]? = some ⟨11,(q:Int),b⟩):Gx C L N 1 ⟨p,ak,fr,w⟩ ⟨q,ak,fr,w⟩:=
 kL c hi λs=>by simp [cX,St.m]
def Aq (c:Cd C L N) {q:Nat} (hi:C[p]? = some ⟨12,(q:Int),b⟩):Gx C L N 1 ⟨p,0::ak,fr,w⟩ ⟨q,ak,fr,w⟩:=
 kL c hi λs=>by simp [cX,cB,Rz.bind,St.m]
def Ar (c:Cd C L N) (hi:C[p]? = some ⟨12,a,b⟩) (hv:v≠0):Gx C L N 1 ⟨p,v::ak,fr,w⟩ ⟨p+1,ak,fr,w⟩:=
 kL c hi λs=>by simp [cX,cB,Rz.bind,St.m,hv]
def ZN (c:Cd C L N) (hi:C[p]? = some ⟨16,a,b⟩) (f:w.aM<L):Gx C L N 1 ⟨p,ak,fr,w⟩ ⟨p+1,ak,fr,{ w with aM:=w.aM+1 }⟩:=
 kL c hi λs=>by
   have d:¬((w.aM:Int)=(L:Int)):=aa
   have e:IntKind.i64.wrap ((w.aM:Int)+1)=(w.aM:Int)+1:=qk (by have:=c.hL; omega);simp [cX,mF,St.m,d,e]
def ZQ (c:Cd C L N) (hi:C[p]? = some ⟨16,a,b⟩) (d:w.aM=L):Xx C L N 1 ⟨p,ak,fr,w⟩ 3 w:=
 wj c hi λs=>⟨St.m L s ⟨p+1,ak,fr,w⟩,by simp [cX,mF,St.m,d],rfl,rfl,rfl⟩
def ZR (c:Cd C L N) (hi:C[p]? = some ⟨17,a,b⟩):Gx C L N 1 ⟨p,v::ak,fr,w⟩ ⟨p+1,ak,fr,w⟩:=
 kL c hi λs=>by simp [cX,cB,Rz.bind,St.m]
def ZS (c:Cd C L N) (hi:C[p]? = some ⟨18,a,b⟩) (f:ak.length<2048):Gx C L N 1 ⟨p,ak,fr,w⟩ (match w.bg with | []=>⟨p+1,0::ak,fr,w⟩ | x::r=>⟨p+1,x::ak,fr,{ w with bg:=r }⟩):=
 kL c hi λs=>by
   obtain ⟨d,bg,o,t,cl⟩:=w
   have e:¬ak.length=2048:=aa
   cases bg<;>simp [cX,nM,eY,St.m,e]
def Yp (c:Cd C L N) (hi:C[p]? = some ⟨19,a,b⟩) (d:¬w.out.length=200):Gx C L N 1 ⟨p,v::ak,fr,w⟩ ⟨p+1,ak,fr,{ w with out:=w.out++[v] }⟩:=
 kL c hi λs=>by simp [cX,cB,Rz.bind,St.m,d]
def Yq (c:Cd C L N) (hi:C[p]? = some ⟨19,a,b⟩) (d:w.out.length=200):Xx C L N 1 ⟨p,v::ak,fr,w⟩ 5 w:=
 wj c hi λs=>⟨St.m L s ⟨p+1,ak,fr,w⟩,by simp [cX,cB,Rz.bind,St.m,d],rfl,rfl,rfl⟩
def Yr (c:Cd C L N) (hi:C[p]? = some ⟨20,a,b⟩):Xx C L N 1 ⟨p,ak,fr,w⟩ 0 w:=
 wj c hi λs=>⟨St.m L s ⟨p+1,ak,fr,w⟩,by simp [cX],rfl,rfl,rfl⟩
def OK (c:Cd C L N)  {back:Nat} {f:List Int×Int} (hi:C[p]? = some ⟨15,a,b⟩):Gx C L N 1 ⟨p,ak,(ff,(back:Int))::f::fr,w⟩ ⟨back,ak,f::fr,w⟩:=
 kL c hi λs=>by simp [cX,rK,St.m]
def Ys (c:Cd C L N) {e:Nat} (hi:C[p]? = some ⟨13,(e:Int),b⟩) (g:w.aM<L) (h:fr.length<=24):Gx C L N 1 ⟨p,ak,fr,w⟩ ⟨e,ak,([],((p+1:Nat):Int))::fr,{ w with aM:=w.aM+1 }⟩:=
 kL c hi λs=>by
   have a:¬((w.aM:Int)=(L:Int)):=aa
   have d:IntKind.i64.wrap ((w.aM:Int)+1)=(w.aM:Int)+1:=qk (by have:=c.hL; omega)
   have f:¬(24<fr.length):=aa
   simp [cX,dP,mF,Rz.bind,St.m,a,d,f]
def OL (c:Cd C L N) (hi:C[p]? = some ⟨13,a,b⟩) (d:w.aM=L):Xx C L N 1 ⟨p,ak,fr,w⟩ 3 w:=
 wj c hi λs=>⟨St.m L s ⟨p+1,ak,fr,w⟩,by simp [cX,dP,mF,Rz.bind,St.m,d],rfl,rfl,rfl⟩
def Yt (c:Cd C L N) (hi:C[p]? = some ⟨13,a,b⟩) (g:w.aM<L) (d:24<fr.length):Xx C L N 1 ⟨p,ak,fr,w⟩ 4 { w with aM:=w.aM+1 }:=
 wj c hi λs=>⟨St.m L s ⟨p+1,ak,fr,{ w with aM:=w.aM+1 }⟩,by
   have e:¬((w.aM:Int)=(L:Int)):=aa
   have f:IntKind.i64.wrap ((w.aM:Int)+1)=(w.aM:Int)+1:=qk (by have:=c.hL; omega)
   simp [cX,dP,mF,Rz.bind,St.m,e,f,d],rfl,rfl,rfl⟩
def Yu (c:Cd C L N) {np nl:Int} {vs loc:List Int} {back:Int} (hi:C[p]? = some ⟨14,np,nl⟩) (l:0<=np/\np<=3) (n:0<=nl/\nl<=4) (hv:(vs.length:Int)=np):Gx C L N 1 ⟨p,vs.reverse++ak,(loc,back)::fr,w⟩ ⟨p+1,ak,(vs++List.replicate nl.toNat 0,back)::fr,w⟩:=
 kL c hi λs=>by
   have e:IntKind.i64.wrap (2048-np)=2048-np:=qk aa
   have b:¬(np<0):=aa
   have d:¬(nl<0):=aa
   have f:¬(2048<np):=aa
   have g:¬(2048-np<nl):=aa
   have h:¬(((vs.reverse++ak).length:Int)<np):=by simp; omega
   have a:np.toNat=vs.reverse.length:=by simp; omega
   have i:(vs.reverse++ak).drop np.toNat=ak:=by rw [a]; simp
   have j:(vs.reverse++ak).take np.toNat=vs.reverse:=by rw [a]; simp
   have k:((((decide (np<0)||decide (nl<0))||decide (2048<np))||decide (IntKind.i64.wrap (2048-np)<nl))||decide (((vs.reverse++ak).length:Int)<np))=false:=by
     rw [e,aaf b,aaf d,aaf f,aaf g,aaf h]; rfl
   rw [show cX ⟨14,np,nl⟩ (St.m L s ⟨p+1,vs.reverse++ak,(loc,back)::fr,w⟩)=dD np nl (St.m L s ⟨p+1,vs.reverse++ak,(loc,back)::fr,w⟩) by simp [cX]];unfold dD;rw [show (((((decide (np<0)||decide (nl<0))||decide (2048<np))||decide (IntKind.i64.wrap (2048-np)<nl))||decide (((St.m L s ⟨p+1,vs.reverse++ak,(loc,back)::fr,w⟩).stack.length:Int)<np))=false) from k,ZX a8]
   show Rz.ok () _=Rz.ok () _
   unfold St.m;dsimp only;rw [i,j,List.reverse_reverse]
def Yv (c:Cd C L N)  (hi:C[p]? = some ⟨10,aH,b⟩) (j:9<=aH/\aH<=15) (k:ak.length<2048) :
   (∀x a,kV aH v v2 w = .ok x a->a=w/\Gx C L N 1 ⟨p,v2::v::ak,fr,w⟩ ⟨p+1,x::ak,fr,w⟩)/\(∀e a,kV aH v v2 w = .ov e a->a=w/\Xx C L N 1 ⟨p,v2::v::ak,fr,w⟩ e w):=by
 have g:aH=9\/aH=10\/aH=11\/aH=12\/aH=13\/aH=14\/aH=15:=aa
 have i:¬ak.length=2048:=aa
 constructor
 · intro x a h
   have f:a=w/\∀s,cX ⟨10,aH,b⟩ (St.m L s ⟨p+1,v2::v::ak,fr,w⟩) = .ok () (St.m L s ⟨p+1,x::ak,fr,w⟩):=by
     by_cases d:v2=0
     · rcases g with rfl | rfl | rfl | rfl | rfl | rfl | rfl<;>simp [kV,d] at h<;>obtain ⟨rfl,rfl⟩:=h<;>refine ⟨rfl,λs=>?_⟩<;>simp [cX,k5,cB,Rz.bind,jl,eY,St.m,i,d,bH,mE]
     · rcases g with rfl | rfl | rfl | rfl | rfl | rfl | rfl<;>simp [kV,d] at h<;>obtain ⟨rfl,rfl⟩:=h<;>refine ⟨rfl,λs=>?_⟩<;>simp [cX,k5,cB,Rz.bind,jl,eY,St.m,i,d,bH,mE]
   exact ⟨f.1,kL c hi f.2⟩
 · intro e a h
   have f:a=w/\∀s,∃m',cX ⟨10,aH,b⟩ (St.m L s ⟨p+1,v2::v::ak,fr,w⟩) = .ov e m'/\m'.out=w.out/\m'.data=w.data/\m'.aM=(w.aM:Int):=by
     by_cases d:v2=0
     · rcases g with rfl | rfl | rfl | rfl | rfl | rfl | rfl<;>simp [kV,d] at h<;>obtain ⟨rfl,rfl⟩:=h<;>refine ⟨rfl,λs=>⟨St.m L s ⟨p+1,ak,fr,w⟩,?_,rfl,rfl,rfl⟩⟩<;>simp [cX,k5,cB,Rz.bind,jl,St.m,d]
     · rcases g with rfl | rfl | rfl | rfl | rfl | rfl | rfl<;>simp [kV,d] at h
   exact ⟨f.1,wj c hi f.2⟩
end
def KK:Nat:=2050
def Sm {a α:Type} (C:List eP) (L N B:Nat) (d:a->Prop) (c:a->Wm) (w:Wm) (x:St) (r:Bw.Rz a α) (y:α->a->St):Prop:=match r with
 | .ok v f=>∃n,d f/\w.aM<=(c f).aM/\n<=B+KK*((c f).aM-w.aM)/\Gx C L N n x (y v f)
 | .ov e b=>∃n,w.aM<=b.aM/\n<=B+KK*(b.aM-w.aM+1)/\Xx C L N n x e b
section
variable {C:List eP} {L N:Nat}
def j9 {a b c:Nat} (h:a<=b) (k:b<=c):KK*(b-a)+KK*(c-b)=KK*(c-a):=by rw [<-hU]; congr 1; omega
variable {Z aw:Nat}
def HM (h:Z<=aw):KK*Z<=KK*aw:=H' _ h
variable {bB iZ:Type} {x1:bB->Prop} {xJ:bB->Wm} {bb:Wm} {iV:St} {x2:iZ->bB->St}
def Sm.ok {B n:Nat}     {v:iZ} {f:bB}  (a:x1 f) (b:bb.aM=(xJ f).aM) (c:n<=B) (h:Gx C L N n iV (x2 v f)):Sm C L N B x1 xJ bb iV (.ok v f) x2:=⟨n,a,aa,aa,h⟩
def Sm.ov {a α:Type} {B n:Nat} {c:a->Prop} {d:a->Wm} {w b:Wm}  {e:Int} {y:α->a->St} (f:w.aM<=b.aM) (g:n<=B+KK) (h:Xx C L N n iV e b):Sm C L N B c d w iV (.ov e b:Bw.Rz a α) y:=⟨n,f,by have:=HM (show 1<=b.aM-w.aM+1 by omega); omega,h⟩
variable {x3:Bw.Rz bB iZ}
def Sm.mono (h:Sm C L N Z x1 xJ bb iV x3 x2) (g:Z<=aw):Sm C L N aw x1 xJ bb iV x3 x2:=by
 cases x3 with
 | ok v f=>obtain ⟨n,a,b,c,d⟩:=h; exact ⟨n,a,b,aa,d⟩
 | ov e i=>obtain ⟨n,a,b,c⟩:=h; exact ⟨n,a,aa,c⟩
def Sm.pre {B n:Nat}    {x b:St}   (g:Gx C L N n x b) (h:Sm C L N B x1 xJ bb b x3 x2):Sm C L N (n+B) x1 xJ bb x x3 x2:=by
 cases x3 with
 | ok v f=>obtain ⟨m,a,c,d,i⟩:=h; exact ⟨n+m,a,c,aa,g.trans i⟩
 | ov e j=>obtain ⟨m,a,c,d⟩:=h; exact ⟨n+m,a,aa,g.x d⟩
def Sm.bind {a c α β:Type}  {l:a->Prop} {I':c->Prop} {b:a->Wm} {o:c->Wm} {w:Wm}  {r:Bw.Rz a α} {g:α->a->Bw.Rz c β} {y:α->a->St} {z:β->c->St} (h:Sm C L N Z l b w iV r y)
   (k:∀v f,r = .ok v f->l f->w.aM<=(b f).aM->Sm C L N aw I' o (b f) (y v f) (g v f) z):Sm C L N (Z+aw) I' o w iV (match r with | .ok v f=>g v f | .ov e w=>.ov e w) z:=by
 cases r with
 | ok v f=>
   obtain ⟨n,i,j,p,q⟩:=h;have d:=k v f rfl i j;dsimp only
   cases s:g v f with
   | ok v2 B=>
     rw [s] at d;obtain ⟨m,k1,k2,t,A⟩:=d;have:=j9 j k2;exact ⟨n+m,k1,aa,aa,q.trans A⟩
   | ov e u=>
     rw [s] at d;obtain ⟨m,k1,k2,t⟩:=d
     have D:KK*((b f).aM-w.aM)+KK*(u.aM-(b f).aM+1)=KK*(u.aM-w.aM+1):=by rw [<-hU]; congr 1; omega
     exact ⟨n+m,aa,aa,q.x t⟩
 | ov e E=>
   obtain ⟨n,i,j,p⟩:=h;exact ⟨n,i,aa,p⟩
def Sm.bd {a α β:Type} {B1 B2:Nat} {c I':a->Prop} {b d:a->Wm}   {r:Bw.Rz a α} {g:α->a->Bw.Rz a β} {y:α->a->St} {z:β->a->St} (h:Sm C L N B1 c b bb iV r y)
   (k:∀v f,r = .ok v f->c f->bb.aM<=(b f).aM->Sm C L N B2 I' d (b f) (y v f) (g v f) z):Sm C L N (B1+B2) I' d bb iV (r.bind g) z:=Sm.bind h k
def Sm.fr {a:Wm->Prop} {I':Fm->Prop} {w:Wm}  {r:Bw.Rz Wm bB} {y:bB->Wm->St} {z:bB->Fm->St} {f:Fm} (h:Sm C L N Z a id w iV r y) (b:∀w,a w->I' { f with w:=w }) (c:∀v w,y v w=z v { f with w:=w }):Sm C L N Z I' Fm.w w iV (Bw.Rz.fr f r) z:=by
 cases r with
 | ok v d=>obtain ⟨n,g,i,j,k⟩:=h; exact ⟨n,b _ g,i,j,by rw [<-c]; exact k⟩
 | ov e d=>exact h
end
abbrev Cr:=Nat->Nat->Prop
def dW (C:List eP) (p:Nat) (op a b:Int):Prop:=C[p]? = some ⟨op,a,b⟩
def bC (ks:List Cr) (i:Nat):Cr:=(ks[i]?).getD λ_ _=>False
def d':List Cr->Cr
 | [],p,q=>p=q
 | k::r,p,q=>∃t,k p t/\d' r t q
def OM (C:List eP) (a k1:Cr) (p q:Nat):Prop:=∃t r,a p t/\dW C t 12 ((r+2:Nat):Int) 0/\k1 (t+1) r/\dW C r 22 0 0/\dW C (r+1) 11 ((r+3:Nat):Int) 0/\dW C (r+2) 1 0 0/\q=r+3
def ON (C:List eP) (a k1:Cr) (p q:Nat):Prop:=∃t r,a p t/\dW C t 12 ((t+3:Nat):Int) 0/\dW C (t+1) 1 1 0/\dW C (t+2) 11 ((r+1:Nat):Int) 0/\k1 (t+3) r/\dW C r 22 0 0/\q=r+1
def HN (C:List eP) (a:Int->Int) (b:Int->Int->Nat) (op n m pl:Int) (ks:List Cr) (p q:Nat):Prop:=
 if op=1 then dW C p 1 n 0/\q=p+1
 else if op=2 then dW C p 18 0 0/\q=p+1
 else if op=16 then dW C p 2 pl 0/\q=p+1
 else if op=3 then dW C p 4 (pl+a m) 0/\q=p+1
 else if op=4 then ∃t,bC ks 0 p t/\dW C t 6 (pl+a m) n/\dW C (t+1) 7 0 0/\q=t+2
 else if op=5 then ∃t,d' ks p t/\dW C t 13 (b m pl:Nat) 0/\q=t+1
 else if op=6 then ∃t,d' ks p t/\dW C t 9 0 0/\q=t+1
 else if op=7 then OM C (bC ks 0) (bC ks 1) p q
 else if op=8 then ON C (bC ks 0) (bC ks 1) p q
 else ∃t,d' ks p t/\dW C t 10 op 0/\q=t+1
mutual
def nW (C:List eP) (a:Int->Int) (b:Int->Int->Nat):dr->Cr
 | .mk op n m pl args=>HN C a b op n m pl (i7 C a b args)
def i7 (C:List eP) (a:Int->Int) (b:Int->Int->Nat):List dr->List Cr
 | []=>[]
 | x::r=>nW C a b x::i7 C a b r
end
def OO (C:List eP) (a body other:Cr) (b:Nat) (p q:Nat):Prop:=∃t r,a p t/\body (t+1) r/\if 0<b then dW C t 12 ((r+1:Nat):Int) 0/\dW C r 11 (q:Nat) 0/\other (r+1) q else dW C t 12 (r:Nat) 0/\q=r
def OP (C:List eP) (a body:Cr) (p q:Nat):Prop:=∃t r,a p t/\dW C t 12 (q:Nat) 0/\dW C (t+1) 16 0 0/\body (t+2) r/\dW C r 11 (p:Nat) 0/\q=r+1
def HO (C:List eP) (a:Int->Int) (b:Int->Int->Nat) (op n m pl:Int) (ks:List Cr) (body other:Cr) (c:Nat) (p q:Nat):Prop:=
 if op=1 then ∃t,bC ks 0 p t/\(if m<0 then dW C t 3 pl 0 else dW C t 5 (pl+a m) 0)/\q=t+1
 else if op=2 then ∃t r,bC ks 0 p t/\dW C t 6 (pl+a m) n/\bC ks 1 (t+1) r/\dW C r 8 0 0/\q=r+1
 else if op=3 then ∃t,d' ks p t/\dW C t 13 (b m pl:Nat) 0/\dW C (t+1) 17 0 0/\q=t+2
 else if op=4 then OO C (bC ks 0) body other c p q
 else if op=5 then OP C (bC ks 0) body p q
 else if op=6 then ∃t,bC ks 0 p t/\dW C t 15 0 0/\q=t+1
 else if op=7 then ∃t,bC ks 0 p t/\dW C t 19 0 0/\q=t+1
 else q=p
mutual
def At (C:List eP) (a:Int->Int) (b:Int->Int->Nat):c_->Cr
 | .mk op n m pl args body other=>HO C a b op n m pl (i7 C a b args) (qb C a b body) (qb C a b other) other.length
def qb (C:List eP) (a:Int->Int) (b:Int->Int->Nat):List c_->Cr
 | []=>λp q=>p=q
 | x::r=>λp q=>∃t,At C a b x p t/\qb C a b r t q
end
def ux (C:List eP) (a:Int->Int) (b:Int->Int->Nat) (params locals:Int) (body:List c_) (p q:Nat):Prop:=∃t,dW C p 14 params locals/\qb C a b body (p+1) t/\dW C t 1 0 0/\dW C (t+1) 15 0 0/\q=t+2
def DF (C:List eP) (a:Int->Int) (b:Int->Int->Nat):∀l,i7 C a b l=l.map (nW C a b)
 | []=>by rw [i7]; rfl
 | x::r=>by rw [i7,DF C a b r]; rfl
variable {Z:Nat}
def DG {C:List eP} {a:Int->Int} {b:Int->Int->Nat} {l:List dr}  {y:dr} (h:l[Z]? = some y):bC (i7 C a b l) Z=nW C a b y:=by
 unfold bC; rw [DF,e4,h]; rfl
def OQ {loc:List Int}:∀(ks:List Ev) {w a:Wm} (vs:List Int),jx loc ks w = .ok vs a->vs.length=ks.length
 | [],w,a,vs,h=>by
   unfold jx at h
   injection h with h
   subst h; rfl
 | k::r,w,a,vs,h=>by
   unfold jx at h
   cases d:k loc w with
   | ov e b=>rw [d] at h; cases h
   | ok v b=>
     rw [d] at h;have h:(jx loc r b).bind (λvs w=>.ok (v::vs) w) = .ok vs a:=h
     cases c:jx loc r b with
     | ov e f=>rw [c] at h; cases h
     | ok g f=>
       rw [c] at h
       injection h with h
       subst h;simp [OQ r g c]
def hR (P:Env) (u:Nat) (m:Int):Int:=(((P.qA[P.mod u m]?).getD 0:Nat):Int)
def kq (P:Env) (gD:Nat->Nat->Nat) (u:Nat) (m pl:Int):Nat:=gD (P.mod u m) pl.toNat
structure Wi (L D cc:Nat) (w:Wm):Prop where
 calls:w.calls=cc
 aM:w.aM<=L
 data:w.data.length=D
def rY (C:List eP) (L N D cc nl h:Nat) (k:Cr) (e:Ev):Prop:=∀p q,k p q->p<=q/\∀(loc:List Int) (back:Int) (ak:List Int) (fr:List (List Int×Int)) (w:Wm),loc.length=nl->ak.length+h<=16*cc+20->fr.length=cc->Wi L D cc w->
 Sm C L N (q-p) (Wi L D cc) id w ⟨p,ak,(loc,back)::fr,w⟩ (e loc w) (λv a=>⟨q,v::ak,(loc,back)::fr,a⟩)
def HP (C:List eP) (L N D cc:Nat) (call:Cl) (j:Nat) (np nl:Int) (bd:List c_) (e:Nat):Prop:=∀(a:Nat) (vs ak:List Int) (fr:List (List Int×Int)) (w:Wm),dW C a 13 (e:Int) 0->(vs.length:Int)=np->fr.length=cc+1->ak.length<=16*cc+20->Wi L D cc w->
 Sm C L N 1 (Wi L D cc) id w ⟨a,vs.reverse++ak,fr,w⟩ (call j (vs++List.replicate nl.toNat 0) bd w) (λv b=>⟨a+1,v::ak,fr,b⟩)
structure Au (C:List eP) (L N D cc:Nat) (P:Env) (call:Cl) (gD:Nat->Nat->Nat) (u:Nat) (kn:List ec):Prop where
 data:∀{m pl n:Int},jv kn m pl n=true->0<=n->0<=pl/\(∀i:Nat,((P.at_ u m (pl+i):Nat):Int)=pl+hR P u m+i)/\pl+hR P u m+n<=(D:Int)
 e8:∀{m pl:Int} {k:Nat},jf kn m pl (k:Int)=true->k<=3
 part:∀{m pl n:Int},jf kn m pl n=true->∃(p:hx),((P.l[P.mod u m]?).bind λx=>x.parts[pl.toNat]?)=some p/\p.params=n/\HP C L N D cc call (P.mod u m) p.params p.locals p.body (kq P gD u m pl)
section
variable {C:List eP} {L N D cc nl:Nat} {P:Env} {call:Cl} {gD:Nat->Nat->Nat} {u:Nat} {kn:List ec}
def HQ {loc:List Int} {back:Int} {fr:List (List Int×Int)} (c:loc.length=nl) (d:fr.length=cc):∀(args:List dr),(∀x ∈ args,rY C L N D cc nl Z (nW C (hR P u) (kq P gD u) x) (eO P call u x))->∀p q,d' (i7 C (hR P u) (kq P gD u) args) p q->p<=q/\∀(ak:List Int) (w:Wm),ak.length+args.length+Z<=16*cc+21->Wi L D cc w->
   Sm C L N (q-p) (Wi L D cc) id w ⟨p,ak,(loc,back)::fr,w⟩ (jx loc (gb P call u args) w) (λvs f=>⟨q,vs.reverse++ak,(loc,back)::fr,f⟩)
 | [],_,p,q,a=>by
   rw [i7] at a;have a:p=q:=a;subst a;exact ⟨cQ _,λak w _ b=>by rw [gb]; exact Sm.ok (n:=0) b O (di _)<|Gx.refl _⟩
 | x::r,e,p,q,a=>by
   rw [i7] at a;obtain ⟨t,g,h⟩:=a;obtain ⟨a1,a2⟩:=e x ai p t g;obtain ⟨s,i⟩:=HQ c d r (λy j=>e y (by simp [j])) t q h;refine ⟨aa,λak w k b=>?_⟩;rw [gf] at k;rw [gb,jx];refine (Sm.bd (B1:=t-p) (B2:=q-t) (a2 loc back ak fr w c aa d b) λv l _ m _=>?_).mono aa;have:=i (v::ak) l (by simp; omega) m;refine (Sm.bd (B1:=q-t) (B2:=0) this λvs z _ o _=>?_).mono aa;refine Sm.ok (n:=0) o O (cQ _) ?_;rw [uO,bV];exact Gx.refl _
def OR (c:Cd C L N) (e:Au C L N D cc P call gD u kn)  {args:List dr} {m pl:Int} (a:∀x ∈ args,rY C L N D cc nl Z (nW C (hR P u) (kq P gD u) x) (eO P call u x)) (f:jf kn m pl (args.length:Int)=true) {p t:Nat} (b:d' (i7 C (hR P u) (kq P gD u) args) p t) (g:dW C t 13 (kq P gD u m pl:Nat) 0):p<=t/\∀(loc:List Int) (back:Int) (ak:List Int) (fr:List (List Int×Int)) (w:Wm),loc.length=nl->ak.length+args.length+Z<=16*cc+21->ak.length<=16*cc+20->fr.length=cc->Wi L D cc w->
   Sm C L N (t+1-p) (Wi L D cc) id w ⟨p,ak,(loc,back)::fr,w⟩ (ol P call u m pl (gb P call u args) loc w) (λv h=>⟨t+1,v::ak,(loc,back)::fr,h⟩):=by
 obtain ⟨A,i,j,k⟩:=e.part f;refine ⟨?_,λloc back ak fr w l n o d q=>?_⟩
 · exact (HQ (C:=C) (L:=L) (N:=N) (D:=D) (cc:=cc) (nl:=nl) (P:=P) (call:=call) (gD:=gD) (u:=u) (loc:=List.replicate nl 0) (back:=0) (fr:=List.replicate cc ([],0)) ai ai args a p t b).1
 · obtain ⟨B,r⟩:=HQ (back:=back) l d args a p t b
   unfold ol;rw [i];dsimp only;refine (Sm.bd (B1:=t-p) (B2:=1) (r ak w n q) λvs s y z _=>?_).mono aa;exact k t vs ak ((loc,back)::fr) s g (by rw [j,OQ _ _ y,Fx,fu]) (by simp [d]) o z
end
section
variable {C:List eP} {L N D cc nl:Nat} {P:Env} {call:Cl} {gD:Nat->Nat->Nat} {u:Nat} {kn:List ec}
variable {jP:Cr}
def OS {p q:Nat} (h:d' [jP] p q):jP p q:=by
 obtain ⟨t,b,a⟩:=h;have a:t=q:=a;subst a; exact b
variable {qc:Ev} {aH bQ:Int}
def OT (c:Cd C L N) (m:cc<=24) {h:Nat}   (a:rY C L N D cc nl h jP qc) {p t:Nat}  (b:jP p t) (hi:dW C t 6 aH bQ) (d:0<=aH/\aH<=4096) (e:bQ<=4096):p<=t/\∀(loc:List Int) (back:Int) (ak:List Int) (fr:List (List Int×Int)) (w:Wm),loc.length=nl->ak.length+h<=16*cc+20->fr.length=cc->Wi L D cc w->
   Sm C L N (t+1-p) (Wi L D cc) id w ⟨p,ak,(loc,back)::fr,w⟩ (cL bQ qc loc w) (λv f=>⟨t+1,(aH+v)::ak,(loc,back)::fr,f⟩):=by
 obtain ⟨a1,a2⟩:=a p t b;refine ⟨a1,λloc back ak fr w g i j k=>?_⟩;unfold cL;refine (Sm.bd (B1:=t-p) (B2:=1) (a2 loc back ak fr w g i j k) λv o _ l _=>?_).mono aa
 split
 · rename_i hv
   exact Sm.ov (n:=1) (cQ _) aa<|Yh c hi hv
 · rename_i hv
   exact Sm.ok (n:=1) l O (cQ _)<|Yg c hi (by simpa using hv) d e aa
def OU {loc:List Int} {w a:Wm} (h:cL aH qc loc w = .ok bQ a):0<=bQ/\bQ<aH:=by
 unfold cL at h
 cases b:qc loc w with
 | ov x y=>rw [b] at h; cases h
 | ok v1 c=>
   rw [b] at h;have h:(if (decide (v1<0)||decide (aH<=v1))=true then (Bw.Rz.ov 2 c:Bw.Rz Wm Int) else .ok v1 c) = .ok bQ a:=h
   split at h
   · cases h
   · rename_i hv
     injection h with d e
     subst d;simp at hv;omega
def HR (c:Cd C L N) (al:cc<=24) (au:D<=512) (W:Au C L N D cc P call gD u kn):∀(x:dr) (d:Nat),jg kn (nl:Int) x d=true->rY C L N D cc nl (1+2*(7-d)) (nW C (hR P u) (kq P gD u) x) (eO P call u x)
 | .mk op n m pl args,d,ac=>by
   intro p q b
   have aA:d<=6:=by rw [jg] at ac; simp only [dE,aab] at ac; exact ac.1
   have am:=B9 ac;have E:node1 kn (nl:Int) op n m pl args.length=true:=am.1;have av:gA kn (nl:Int) args (d+1)=true:=am.2;have f:=B6 E
   have X:∀x ∈ args,rY C L N D cc nl (1+2*(7-(d+1))) (nW C (hR P u) (kq P gD u) x) (eO P call u x):=λx an=>by
     obtain ⟨i,hi⟩:=iE an;exact HR c al au W x (d+1)<|kC av hi
   have Y:∀{i:Nat} {y:dr},args[i]? = some y->rY C L N D cc nl (1+2*(7-(d+1))) (bC (i7 C (hR P u) (kq P gD u) args) i) (iu (gb P call u args) i):=λh=>by
     rw [DG h,kc h]; exact X _<|az h
   rw [nW] at b
   have aw:eO P call u (.mk op n m pl args)=kW P call u op n m pl (gb P call u args):=by funext loc w; rw [eO]
   rw [aw];unfold HN at b;unfold kW
   by_cases g:op=1
   · rw [ZZ g] at b
     obtain ⟨j,rfl⟩:=b;refine ⟨by omega,λloc back ak fr w l J o a=>?_⟩;rw [ZZ g];exact Sm.ok (n:=1) a O (by omega)<|DD c j (by omega)
   by_cases j:op=2
   · rw [ZX g,ZZ j] at b
     obtain ⟨k,rfl⟩:=b;refine ⟨by omega,λloc back ak fr w l J o a=>?_⟩;rw [ZX g,ZZ j];have K:=ZS (fr:=(loc,back)::fr) (w:=w) c k (show ak.length<2048 by omega)
     cases hi:w.bg with
     | nil=>rw [hi] at K; exact Sm.ok (n:=1) a rfl (by omega) K
     | cons y r=>rw [hi] at K; exact Sm.ok (n:=1) (⟨a.calls,a.aM,a.data⟩:Wi L D cc { w with bg:=r }) rfl (by omega) K
   by_cases A:op=16
   · rw [ZX g,ZX j,ZZ A] at b
     obtain ⟨k,rfl⟩:=b
     have ao:qw (nl:Int) pl=true:=by
       rw [A] at E;simp [node1] at E;exact E.2
     unfold qw at ao;simp at ao;refine ⟨by omega,λloc back ak fr w l J o a=>?_⟩;rw [ZX g,ZX j,ZZ A];exact Sm.ok (n:=1) a O (by omega)<|Yc c k (by omega) (by omega)
   by_cases k:op=3
   · rw [ZX g,ZX j,ZX A,ZZ k] at b
     obtain ⟨F,rfl⟩:=b;obtain ⟨ax,R,S⟩:=W.data (f.1 k) (by decide);have ap:=R 0;rw [show pl+((0:Nat):Int)=pl by omega] at ap;refine ⟨by omega,λloc back ak fr w l J o a=>?_⟩;rw [ZX g,ZX j,ZX A,ZZ k];have:=Ye (fr:=(loc,back)::fr) (w:=w) c F (by rw [a.data]; omega) (show ak.length<2048 by omega);rw [show (pl+hR P u m).toNat=P.at_ u m pl by omega] at this;exact Sm.ok (n:=1) a O (by omega) this
   by_cases F:op=4
   · rw [ZX g,ZX j,ZX A,ZX k,ZZ F] at b
     obtain ⟨t,c1,c2,c3,rfl⟩:=b;obtain ⟨⟨aB,n1⟩,ay⟩:=f.2.1 F;obtain ⟨ax,R,S⟩:=W.data ay (by omega)
     have T:args.length=1:=by
       rw [F] at E;simp [node1] at E;omega
     obtain ⟨y,Z⟩:∃y,args[0]? = some y:=⟨_,c6 (by omega)⟩;have ap:=R 0;obtain ⟨a1,a2⟩:=OT c al (Y Z) c1 c2 (by omega) (by omega);refine ⟨by omega,λloc back ak fr w l J o a=>?_⟩;rw [ZX g,ZX j,ZX A,ZX k,ZZ F];refine (Sm.bd (B1:=t+1-p) (B2:=1) (a2 loc back ak fr w l (by omega) o a) λv M Q G _=>?_).mono (by omega);obtain ⟨v0,v1⟩:=OU Q;obtain ⟨V,rfl⟩:∃V:Nat,v=V:=⟨v.toNat,by omega⟩;have aC:=R V;have:=ZK (fr:=(loc,back)::fr) (w:=M) (v:=pl+hR P u m+V) c c3 (by rw [G.data]; omega) (show ak.length<2048 by omega);rw [show (pl+hR P u m+(V:Int)).toNat=P.at_ u m (pl+V) by omega] at this;exact Sm.ok (n:=1) G O (cQ _) this
   by_cases H:op=5
   · rw [ZX g,ZX j,ZX A,ZX k,ZX F,ZZ H] at b
     obtain ⟨t,c1,c2,rfl⟩:=b;have aq:=f.2.2.1 H;obtain ⟨a1,a2⟩:=OR c W X aq c1 c2;have T:args.length<=3:=W.e8 aq;refine ⟨by omega,λloc back ak fr w l J o a=>?_⟩;rw [ZX g,ZX j,ZX A,ZX k,ZX F,ZZ H];exact a2 loc back ak fr w l (by omega) (by omega) o a
   by_cases I:op=6
   · rw [ZX g,ZX j,ZX A,ZX k,ZX F,ZX H,ZZ I] at b
     obtain ⟨t,c1,c2,rfl⟩:=b
     have T:args.length=1:=by
       rw [I] at E;simp [node1] at E;omega
     obtain ⟨y,rfl⟩:∃y,args=[y]:=List.length_eq_one_iff.1 T
     have c1:nW C (hR P u) (kq P gD u) y p t:=by rw [i7,i7] at c1; exact OS c1
     obtain ⟨a1,a2⟩:=X y (by simp) p t c1;refine ⟨by omega,λloc back ak fr w l J o a=>?_⟩;rw [ZX g,ZX j,ZX A,ZX k,ZX F,ZX H,ZZ I,kc (y:=y) rfl];refine (Sm.bd (B1:=t-p) (B2:=1) (a2 loc back ak fr w l (by omega) o a) λv M Q G _=>?_).mono (by omega);exact Sm.ok (n:=1) G O (cQ _)<|Yk c c2 (by omega)
   by_cases U:op=7
   · rw [ZX g,ZX j,ZX A,ZX k,ZX F,ZX H,ZX I,ZZ U] at b
     obtain ⟨t,r,c1,c2,c3,c4,ae,af,rfl⟩:=b
     have T:args.length=2:=by
       rw [U] at E;simp [node1] at E;omega
     obtain ⟨y,Z⟩:∃y,args[0]? = some y:=⟨_,c6 (by omega)⟩;obtain ⟨z,ag⟩:∃y,args[1]? = some y:=⟨_,c6 (by omega)⟩;obtain ⟨a1,a2⟩:=Y Z p t c1;obtain ⟨R,S⟩:=Y ag (t+1) r c3;refine ⟨by omega,λloc back ak fr w l J o a=>?_⟩;rw [ZX g,ZX j,ZX A,ZX k,ZX F,ZX H,ZX I,ZZ U];refine (Sm.bd (B1:=t-p) (B2:=r+3-t) (a2 loc back ak fr w l (by omega) o a) λv M Q G _=>?_).mono (by omega)
     by_cases hv:v=0
     · rw [ZZ hv,hv]
       exact Sm.ok (n:=1+1) G O (by omega)<|(Aq c c2).trans<|DD c af (by omega)
     · rw [ZX hv]
       refine (Sm.pre (n:=1) (B:=r+2-t) (Ar c c2 hv) ?_).mono (by omega);refine (Sm.bd (B1:=r-(t+1)) (B2:=2) (S loc back ak fr M l (by omega) o G) λv2 ad Q aa _=>?_).mono (by omega);exact Sm.ok (n:=1+1) aa O (by omega)<|(OJ c c4 (by omega)).trans<|DE c ae
   by_cases ab:op=8
   · rw [ZX g,ZX j,ZX A,ZX k,ZX F,ZX H,ZX I,ZX U,ZZ ab] at b
     obtain ⟨t,r,c1,c2,c3,c4,ae,af,rfl⟩:=b
     have T:args.length=2:=by
       rw [ab] at E;simp [node1] at E;omega
     obtain ⟨y,Z⟩:∃y,args[0]? = some y:=⟨_,c6 (by omega)⟩;obtain ⟨z,ag⟩:∃y,args[1]? = some y:=⟨_,c6 (by omega)⟩;obtain ⟨a1,a2⟩:=Y Z p t c1;obtain ⟨R,S⟩:=Y ag (t+3) r ae;refine ⟨by omega,λloc back ak fr w l J o a=>?_⟩;rw [ZX g,ZX j,ZX A,ZX k,ZX F,ZX H,ZX I,ZX U,ZZ ab];refine (Sm.bd (B1:=t-p) (B2:=r+1-t) (a2 loc back ak fr w l (by omega) o a) λv M Q G _=>?_).mono (by omega)
     by_cases hv:v=0
     · rw [ZZ hv,hv]
       refine (Sm.pre (n:=1) (B:=r-t) (Aq c c2) ?_).mono (by omega);refine (Sm.bd (B1:=r-(t+3)) (B2:=1) (S loc back ak fr M l (by omega) o G) λv2 ad Q aa _=>?_).mono (by omega);exact Sm.ok (n:=1) aa O (by omega)<|OJ c af (by omega)
     · rw [ZX hv]
       exact Sm.ok (n:=1+1+1) G O (by omega)<|((Ar c c2 hv).trans<|DD c c3 (by omega)).trans<|DE c c4
   rw [ZX g,ZX j,ZX A,ZX k,ZX F,ZX H,ZX I,ZX U,ZX ab] at b;obtain ⟨t,c1,c2,rfl⟩:=b
   have ah:(9<=op/\op<=15)/\args.length=2:=by
     unfold node1 at E;rw [ZX g,ZX k,ZX F,ZX H,ZX A,ZX j,ZX I] at E
     split at E
     · simp at E; omega
     · cases E
   obtain ⟨ah,T⟩:=ah
   obtain ⟨y,z,rfl⟩:∃y z,args=[y,z]:=by
     match args,T with
     | [y,z],_=>exact ⟨y,z,rfl⟩
   rw [i7,i7,i7] at c1;obtain ⟨s,c1,c3⟩:=c1;have c3:=OS c3;obtain ⟨a1,a2⟩:=X y (by simp) p s c1;obtain ⟨R,S⟩:=X z (by simp) s t c3;refine ⟨by omega,λloc back ak fr w l J o a=>?_⟩;rw [ZX g,ZX j,ZX A,ZX k,ZX F,ZX H,ZX I,ZX U,ZX ab,kc (y:=y) rfl,kc (i:=1) (y:=z) rfl];refine (Sm.bd (B1:=s-p) (B2:=t+1-s) (a2 loc back ak fr w l (by omega) o a) λv M Q G _=>?_).mono (by omega);refine (Sm.bd (B1:=t-s) (B2:=1) (S loc back (v::ak) fr M l (by simp; omega) o G) λv2 ad Q aa _=>?_).mono (by omega);have ai:=Yv (fr:=(loc,back)::fr) (w:=ad) (v:=v) (v2:=v2) (ak:=ak) c c2 ah (by omega)
   cases ar:kV op v v2 ad with
   | ok x aj=>
     obtain ⟨rfl,K⟩:=ai.1 x aj ar;exact Sm.ok (n:=1) aa O (cQ _) K
   | ov e aj=>
     obtain ⟨rfl,K⟩:=ai.2 e aj ar;exact Sm.ov (n:=1) (cQ _) (by omega) K
termination_by x=>SizeOf.sizeOf x
decreasing_by
 have ai:=Ig an;simp only [dr.mk.sizeOf_spec];omega
end
structure Fi (L D cc nl:Nat) (f:Fm):Prop where
 w:Wi L D cc f.w
 loc:f.loc.length=nl
def DH (q back:Nat) (ak:List Int) (fr:List (List Int×Int)) (t:Bool) (f:Fm):St:=if t=true then ⟨back,f.val::ak,fr,f.w⟩ else ⟨q,ak,(f.loc,(back:Int))::fr,f.w⟩
def xd (C:List eP) (L N D cc nl:Nat) (k:Cr) (e:Fm->Bw.Rz Fm Bool):Prop:=∀p q,k p q->p<=q/\∀(f:Fm) (back:Nat) (ak:List Int) (fr:List (List Int×Int)),ak.length<=16*cc+4->fr.length=cc->fr≠[]->Fi L D cc nl f->
 Sm C L N (q-p) (Fi L D cc nl) Fm.w f.w ⟨p,ak,(f.loc,(back:Int))::fr,f.w⟩ (e f) (DH q back ak fr)
section
variable {C:List eP} {L N D cc nl:Nat} {P:Env} {call:Cl} {gD:Nat->Nat->Nat} {u:Nat} {kn:List ec}
variable {jP:Cr} {qc:Ev}
def i1 {h:Nat}   (c:rY C L N D cc nl h jP qc) {p t:Nat} (d:jP p t) (f:Fm) (back:Int) (ak:List Int) (fr:List (List Int×Int)) (e:ak.length+h<=16*cc+20) (g:fr.length=cc) (b:Fi L D cc nl f) :
   Sm C L N (t-p) (λa=>Fi L D cc nl a/\a.loc=f.loc/\a.val=f.val) Fm.w f.w ⟨p,ak,(f.loc,back)::fr,f.w⟩ (Bw.Rz.fr f<|qc f.loc f.w) (λv a=>⟨t,v::ak,(f.loc,back)::fr,a.w⟩):=
 Sm.fr ((c p t d).2 f.loc back ak fr f.w b.loc e g b.w) (λw i=>⟨⟨i,b.loc⟩,rfl,rfl⟩) λv w=>rfl
def OV (c:Cd C L N) (U:cc<=24) (s:P.aD=L)   {G:Cr} {g:Fm->Bw.Rz Fm Bool} (u:rY C L N D cc nl 13 jP qc) (H:xd C L N D cc nl G g) {p t r:Nat} (c1:jP p t) (c2:dW C t 12 ((r+1:Nat):Int) 0) (c3:dW C (t+1) 16 0 0) (c4:G (t+2) r) (y:dW C r 11 (p:Nat) 0):∀(n:Nat) (f:Fm) (back:Nat) (ak:List Int) (fr:List (List Int×Int)),L-f.w.aM<n->ak.length<=16*cc+4->fr.length=cc->fr≠[]->Fi L D cc nl f->
   Sm C L N (r+1-p) (Fi L D cc nl) Fm.w f.w ⟨p,ak,(f.loc,(back:Int))::fr,f.w⟩ (kX P (λf=>Bw.Rz.fr f<|qc f.loc f.w) g n f) (DH (r+1) back ak fr)
 | 0,f,back,ak,fr,V,_,_,_,_=>by omega
 | n+1,f,back,ak,fr,V,I,z,J,W=>by
   have a1:=(u p t c1).1;obtain ⟨ah,X⟩:=H (t+2) r c4;have ai:r<C.length:=(cq.1 y).1;have hC:=c.hC;rw [kX];refine (Sm.bd (B1:=t-p) (B2:=r+1-t) (i1 u c1 f back ak fr aa z W) λv a _ h _=>?_).mono aa;obtain ⟨h,Y,aj⟩:=h;rw [<-Y]
   by_cases hv:v=0
   · rw [ZZ hv,hv]
     refine Sm.ok (n:=1) h O aa ?_;exact Aq c c2
   · rw [ZX hv]
     refine (Sm.pre (n:=1) (B:=r-t) (Ar c c2 hv) ?_).mono aa;unfold ky
     by_cases j:a.w.aM=P.aD
     · rw [ZZ j]
       exact Sm.ov (n:=1) (cQ _) (by unfold KK; omega)<|ZQ c c3 (by rw [j,s])
     · rw [ZX j]
       have Z:a.w.aM<L:=by have:=h.w.aM; rw [s] at j; omega
       have ab:Fi L D cc nl { a with w:={ a.w with aM:=a.w.aM+1 } }:=⟨⟨h.w.calls,by show a.w.aM+1<=L; omega,h.w.data⟩,h.loc⟩;have A:=ZN (ak:=ak) (fr:=(a.loc,(back:Int))::fr) (w:=a.w) c c3 Z;have k:=X { a with w:={ a.w with aM:=a.w.aM+1 } } back ak fr I z J ab
       show Sm C L N (r-t) (Fi L D cc nl) Fm.w a.w _ ((g { a with w:={ a.w with aM:=a.w.aM+1 } }).bind λt f=>if t=true then .ok true f else kX P (λf=>Bw.Rz.fr f<|qc f.loc f.w) g n f) _
       cases K:g { a with w:={ a.w with aM:=a.w.aM+1 } } with
       | ov e i=>
         rw [K] at k;obtain ⟨m,k1,k2,l⟩:=k;have k1:a.w.aM+1<=i.aM:=k1;have k2:m<=r-(t+2)+KK*(i.aM-(a.w.aM+1)+1):=k2;refine ⟨1+m,aa,?_,A.x l⟩
         have ac:i.aM-(a.w.aM+1)+1=i.aM-a.w.aM:=aa
         rw [ac] at k2;have:=HM (show i.aM-a.w.aM<=i.aM-a.w.aM+1 by omega);omega
       | ok b d=>
         rw [K] at k;obtain ⟨m,k1,k2,l,M⟩:=k;have k2:a.w.aM+1<=d.w.aM:=k2;have l:m<=r-(t+2)+KK*(d.w.aM-(a.w.aM+1)):=l;have al:=j9 (show a.w.aM<=a.w.aM+1 by omega) k2
         have am:KK*(a.w.aM+1-a.w.aM)=KK:=by rw [show a.w.aM+1-a.w.aM=1 by omega,tf]
         cases b with
         | true=>exact ⟨1+m,k1,aa,aa,A.trans M⟩
         | false=>
           have o:=OV c U s u H c1 c2 c3 c4 y n d back ak fr aa I z J k1;have ad:Gx C L N 1 ⟨r,ak,(d.loc,(back:Int))::fr,d.w⟩ ⟨p,ak,(d.loc,(back:Int))::fr,d.w⟩:=DE c y;have Q:Gx C L N (1+m+1) _ _:=(A.trans M).trans ad;have an:KK=2050:=rfl
           show Sm C L N (r-t) (Fi L D cc nl) Fm.w a.w _ (kX P (λf=>Bw.Rz.fr f<|qc f.loc f.w) g n d) _
           cases R:kX P (λf=>Bw.Rz.fr f<|qc f.loc f.w) g n d with
           | ok ao ap=>
             rw [R] at o;obtain ⟨E,S,F,T,ae⟩:=o;have af:=j9 k2 F;have ag:=j9 (show a.w.aM<=a.w.aM+1 by omega) (ea k2 F);exact ⟨1+m+1+E,S,aa,aa,Q.trans ae⟩
           | ov e q=>
             rw [R] at o;obtain ⟨E,S,F,T⟩:=o
             have af:KK*(d.w.aM-(a.w.aM+1))+KK*(q.aM-d.w.aM+1)=KK*(q.aM-a.w.aM):=by rw [<-hU]; congr 1; omega
             have ag:KK*(q.aM-a.w.aM+1)=KK*(q.aM-a.w.aM)+KK:=by rw [hU,tf]
             exact ⟨1+m+1+E,aa,aa,Q.x T⟩
end
section
variable {C:List eP} {L N D cc nl:Nat} {P:Env} {call:Cl} {gD:Nat->Nat->Nat} {u:Nat} {kn:List ec}
def Sm.after {B n:Nat} {w:Wm} {x:St} {a:Fm->Prop} {r:Bw.Rz Fm Bool} {q q' back:Nat} {ak:List Int} {fr:List (List Int×Int)} (h:Sm C L N B a Fm.w w x r (DH q back ak fr)) (g:∀f:Fm,Gx C L N n ⟨q,ak,(f.loc,(back:Int))::fr,f.w⟩ ⟨q',ak,(f.loc,(back:Int))::fr,f.w⟩):Sm C L N (B+n) a Fm.w w x r (DH q' back ak fr):=by
 cases r with
 | ov e i=>exact Sm.mono h aa
 | ok t f=>
   obtain ⟨m,b,c,j,d⟩:=h
   cases t with
   | true=>exact ⟨m,b,c,aa,d⟩
   | false=>exact ⟨m+n,b,c,aa,d.trans<|g f⟩
mutual
def Yw (c:Cd C L N) (U:cc<=24) (ab:D<=512) (af:P.aD=L) (Q:Au C L N D cc P call gD u kn):∀(x:c_) (d:Nat),jN kn (nl:Int) x d=true->xd C L N D cc nl (At C (hR P u) (kq P gD u) x) (kY P call u x)
 | .mk op n m pl args body other,d,ay=>by
   intro p q o;have ag:=B' ay;have G:aW kn (nl:Int) op n m pl args.length body.length other.length=true:=ag.1;have aq:gA kn (nl:Int) args 1=true:=ag.2.1;have ar:op=4\/op=5->a9 kn (nl:Int) body (d+1)=true:=ag.2.2.1;have az:a9 kn (nl:Int) other (d+1)=true:=ag.2.2.2;have am:=B7 G
   have E:∀{i:Nat} {y:dr},args[i]? = some y->rY C L N D cc nl 13 (bC (i7 C (hR P u) (kq P gD u) args) i) (iu (gb P call u args) i):=λh=>by
     rw [DG h,kc h]; exact HR c U ab Q _ 1<|kC aq h
   have aA:∀x ∈ args,rY C L N D cc nl 13 (nW C (hR P u) (kq P gD u) x) (eO P call u x):=λx R=>by
     obtain ⟨i,hi⟩:=iE R;exact HR c U ab Q x 1<|kC aq hi
   rw [At] at o
   have aB:kY P call u (.mk op n m pl args body other)=λf=>oo P call u op n m pl (gb P call u args) (λf=>gq P call u body f) (λf=>gq P call u other f) f:=by funext f; rw [kY]
   rw [aB];unfold HO at o;unfold oo
   by_cases l:op=1
   · rw [ZZ l] at o
     obtain ⟨t,c1,c2,rfl⟩:=o
     have Y:args.length=1:=by rw [l] at G; simp [aW] at G; omega
     obtain ⟨y,s⟩:∃y,args[0]? = some y:=⟨_,c6 (by omega)⟩;have ah:=(E s p t c1).1;obtain ⟨aC,aE⟩:=am.1 l;refine ⟨by omega,λf back ak fr J k H j=>?_⟩;dsimp only;rw [ZZ l];refine (Sm.bd (B1:=t-p) (B2:=1) (i1 (E s) c1 f back ak fr (by omega) k j) λv b _ a _=>?_).mono (by omega);obtain ⟨a,K,ai⟩:=a;rw [<-K]
     by_cases aj:m<0
     · rw [ZZ aj] at c2 ⊢
       have Z:=aC aj;exact Sm.ok (n:=1) (⟨a.w,by rw [yk]; exact a.loc⟩:Fi L D cc nl { b with loc:=b.loc.set pl.toNat v }) O (cQ _)<|ZH c c2 (by rw [a.loc]; omega)
     · rw [ZX aj] at c2 ⊢
       obtain ⟨aF,ac,al⟩:=Q.data (aE aj) (by decide);have au:=ac 0;rw [show pl+((0:Nat):Int)=pl by omega] at au;have Z:=ZI (v:=v) (ak:=ak) (fr:=(b.loc,(back:Int))::fr) (w:=b.w) c c2 (by rw [a.w.data]; omega);rw [show (pl+hR P u m).toNat=P.at_ u m pl by omega] at Z;exact Sm.ok (n:=1) (⟨⟨a.w.calls,a.w.aM,by show (b.w.data.set _ _).length=D; rw [yk]; exact a.w.data⟩,a.loc⟩:Fi L D cc nl { b with w:={ b.w with data:=b.w.data.set (P.at_ u m pl) v } }) O (cQ _) Z
   by_cases A:op=2
   · rw [ZX l,ZZ A] at o
     obtain ⟨t,r,c1,c2,c3,c4,rfl⟩:=o
     have Y:args.length=2:=by rw [A] at G; simp [aW] at G; omega
     obtain ⟨y,s⟩:∃y,args[0]? = some y:=⟨_,c6 (by omega)⟩;obtain ⟨z,av⟩:∃y,args[1]? = some y:=⟨_,c6 (by omega)⟩;obtain ⟨⟨aO,n1⟩,aG⟩:=am.2.1 A;obtain ⟨aF,ac,al⟩:=Q.data aG (by omega);have au:=ac 0;obtain ⟨a1,a2⟩:=OT c U (E s) c1 c2 (by omega) (by omega);have a3:=(E av (t+1) r c3).1;refine ⟨by omega,λf back ak fr J k H j=>?_⟩;dsimp only;rw [ZX l,ZZ A];have R:=a2 f.loc back ak fr f.w j.loc (by omega) k j.w;have R:=Sm.fr (I':=λS=>Fi L D cc nl S/\S.loc=f.loc) (f:=f) (z:=λv S=>⟨t+1,(pl+hR P u m+v)::ak,(f.loc,(back:Int))::fr,S.w⟩) R (λw an=>⟨⟨an,j.loc⟩,rfl⟩) λv w=>rfl;refine (Sm.bd (B1:=t+1-p) (B2:=r+1-(t+1)) R λi b ad a _=>?_).mono (by omega);obtain ⟨a,K⟩:=a
     have hi:0<=i/\i<n:=by
       cases ao:cL n (iu (gb P call u args) 0) f.loc f.w with
       | ov e aH=>rw [ao] at ad; cases ad
       | ok v aH=>
         rw [ao] at ad
         injection ad with aI aP
         subst aI;exact OU ao
     rw [<-K];refine (Sm.bd (B1:=r-(t+1)) (B2:=1) (i1 (E av) c3 b back ((pl+hR P u m+i)::ak) fr (by simp; omega) k a) λv aa _ V _=>?_).mono (by omega);obtain ⟨V,aJ,_⟩:=V;rw [<-aJ];obtain ⟨W,rfl⟩:∃W:Nat,i=W:=⟨i.toNat,by omega⟩;have aQ:=ac W;have Z:=Yj (v2:=v) (v:=pl+hR P u m+W) (ak:=ak) (fr:=(aa.loc,(back:Int))::fr) (w:=aa.w) c c4 (by rw [V.w.data]; omega);rw [show (pl+hR P u m+(W:Int)).toNat=P.at_ u m (pl+W) by omega] at Z;exact Sm.ok (n:=1) (⟨⟨V.w.calls,V.w.aM,by show (aa.w.data.set _ _).length=D; rw [yk]; exact V.w.data⟩,V.loc⟩:Fi L D cc nl { aa with w:={ aa.w with data:=aa.w.data.set (P.at_ u m<|pl+W) v } }) O (cQ _) Z
   by_cases F:op=3
   · rw [ZX l,ZX A,ZZ F] at o
     obtain ⟨t,c1,c2,c3,rfl⟩:=o;have aw:=am.2.2 F;have Y:args.length<=3:=Q.e8 aw;obtain ⟨a1,a2⟩:=OR c Q aA aw c1 c2;refine ⟨by omega,λf back ak fr J k H j=>?_⟩;dsimp only;rw [ZX l,ZX A,ZZ F];have R:=a2 f.loc back ak fr f.w j.loc (by omega) (by omega) k j.w;have R:=Sm.fr (I':=λS=>Fi L D cc nl S/\S.loc=f.loc) (f:=f) (z:=λv S=>⟨t+1,v::ak,(f.loc,(back:Int))::fr,S.w⟩) R (λw an=>⟨⟨an,j.loc⟩,rfl⟩) λv w=>rfl;refine (Sm.bd (B1:=t+1-p) (B2:=1) R λi b ad a _=>?_).mono (by omega);obtain ⟨a,K⟩:=a;rw [<-K];exact Sm.ok (n:=1) a O (cQ _)<|ZR c c3
   by_cases I:op=4
   · rw [ZX l,ZX A,ZX F,ZZ I] at o
     obtain ⟨t,r,c1,c2,c3⟩:=o
     have Y:args.length=1:=by rw [I] at G; simp [aW] at G; omega
     obtain ⟨y,s⟩:∃y,args[0]? = some y:=⟨_,c6 (by omega)⟩;have ah:=(E s p t c1).1;obtain ⟨ac,al⟩:=Av c U ab af Q body (d+1) (ar<|.inl I) (t+1) r c2
     by_cases T:0<other.length
     · rw [ZZ T] at c3
       obtain ⟨c4,ap,aK⟩:=c3;obtain ⟨aR,aL⟩:=Av c U ab af Q other (d+1) az (r+1) q aK;refine ⟨by omega,λf back ak fr J k H j=>?_⟩;dsimp only;rw [ZX l,ZX A,ZX F,ZZ I];refine (Sm.bd (B1:=t-p) (B2:=q-t) (i1 (E s) c1 f back ak fr (by omega) k j) λv b _ a _=>?_).mono (by omega);obtain ⟨a,K,ai⟩:=a;rw [<-K]
       by_cases hv:v=0
       · rw [ZZ hv,hv]
         exact (Sm.pre (n:=1) (B:=q-(r+1)) (Aq c c4)<|aL b back ak fr J k H a).mono (by omega)
       · rw [ZX hv]
         have:=Sm.after (n:=1) (q':=q) (al b back ak fr J k H a) λf=>DE c ap;exact (Sm.pre (n:=1) (B:=r-(t+1)+1) (Ar c c4 hv) this).mono (by omega)
     · rw [ZX T] at c3
       obtain ⟨c4,rfl⟩:=c3
       have aN:other=[]:=by cases other with | nil=>rfl | cons z zs=>simp at T
       refine ⟨by omega,λf back ak fr J k H j=>?_⟩;dsimp only;rw [ZX l,ZX A,ZX F,ZZ I];refine (Sm.bd (B1:=t-p) (B2:=q-t) (i1 (E s) c1 f back ak fr (by omega) k j) λv b _ a _=>?_).mono (by omega);obtain ⟨a,K,ai⟩:=a;rw [<-K]
       by_cases hv:v=0
       · rw [ZZ hv,hv,aN,gq]
         exact Sm.ok (n:=1) a O (by omega)<|Aq c c4
       · rw [ZX hv]
         exact (Sm.pre (n:=1) (B:=q-(t+1)) (Ar c c4 hv)<|al b back ak fr J k H a).mono (by omega)
   by_cases M:op=5
   · rw [ZX l,ZX A,ZX F,ZX I,ZZ M] at o
     obtain ⟨t,r,c1,c2,c3,c4,ap,rfl⟩:=o
     have Y:args.length=1:=by rw [M] at G; simp [aW] at G; omega
     obtain ⟨y,s⟩:∃y,args[0]? = some y:=⟨_,c6 (by omega)⟩;have ah:=(E s p t c1).1;have ax:=Av c U ab af Q body (d+1) (ar<|.inr M);have aS:=(ax (t+2) r c4).1;refine ⟨by omega,λf back ak fr J k H j=>?_⟩;dsimp only;rw [ZX l,ZX A,ZX F,ZX I,ZZ M];exact OV c U af (E s) ax c1 c2 c3 c4 ap (P.aD+1) f back ak fr (by omega) J k H j
   by_cases X:op=6
   · rw [ZX l,ZX A,ZX F,ZX I,ZX M,ZZ X] at o
     obtain ⟨t,c1,c2,rfl⟩:=o
     have Y:args.length=1:=by rw [X] at G; simp [aW] at G; omega
     obtain ⟨y,s⟩:∃y,args[0]? = some y:=⟨_,c6 (by omega)⟩;have ah:=(E s p t c1).1;refine ⟨by omega,λf back ak fr J k H j=>?_⟩;dsimp only;rw [ZX l,ZX A,ZX F,ZX I,ZX M,ZZ X];refine (Sm.bd (B1:=t-p) (B2:=1) (i1 (E s) c1 f back ak fr (by omega) k j) λv b _ a _=>?_).mono (by omega);obtain ⟨a,K,ai⟩:=a
     cases fr with
     | nil=>exact absurd rfl H
     | cons g fr=>exact Sm.ok (n:=1) (⟨a.w,a.loc⟩:Fi L D cc nl { b with val:=v }) rfl (cQ _)<|OK c c2
   by_cases ae:op=7
   · rw [ZX l,ZX A,ZX F,ZX I,ZX M,ZX X,ZZ ae] at o
     obtain ⟨t,c1,c2,rfl⟩:=o
     have Y:args.length=1:=by rw [ae] at G; simp [aW] at G; omega
     obtain ⟨y,s⟩:∃y,args[0]? = some y:=⟨_,c6 (by omega)⟩;have ah:=(E s p t c1).1;refine ⟨by omega,λf back ak fr J k H j=>?_⟩;dsimp only;rw [ZX l,ZX A,ZX F,ZX I,ZX M,ZX X,ZZ ae];refine (Sm.bd (B1:=t-p) (B2:=1) (i1 (E s) c1 f back ak fr (by omega) k j) λv b _ a _=>?_).mono (by omega);obtain ⟨a,K,ai⟩:=a;rw [<-K];unfold yW
     by_cases T:b.w.out.length=200
     · rw [ZZ T]
       exact Sm.ov (n:=1) (cQ _) (by unfold KK; omega)<|Yq c c2 T
     · rw [ZX T]
       exact Sm.ok (n:=1) (⟨⟨a.w.calls,a.w.aM,a.w.data⟩,a.loc⟩:Fi L D cc nl { b with w:={ b.w with out:=b.w.out++[v] } }) O (cQ _)<|Yp c c2 T
   rw [ZX l,ZX A,ZX F,ZX I,ZX M,ZX X,ZX ae] at o;subst o;refine ⟨cQ _,λf back ak fr J k H j=>?_⟩;dsimp only;rw [ZX l,ZX A,ZX F,ZX I,ZX M,ZX X,ZX ae];exact Sm.ok (n:=0) j O (di _)<|Gx.refl _
def Av (c:Cd C L N) (j:cc<=24) (k:D<=512) (m:P.aD=L) (o:Au C L N D cc P call gD u kn):∀(l:List c_) (d:Nat),a9 kn (nl:Int) l d=true->xd C L N D cc nl (qb C (hR P u) (kq P gD u) l) (gq P call u l)
 | [],d,_=>by
   intro p q a;rw [qb] at a;have a:p=q:=a;subst a;refine ⟨cQ _,λf back ak fr e g h i=>?_⟩;rw [gq];exact Sm.ok (n:=0) i O (di _)<|Gx.refl _
 | x::r,d,s=>by
   intro p q a;rw [a9] at s;obtain ⟨w,y⟩:=eH.1 s;rw [qb] at a;obtain ⟨t,c1,c2⟩:=a;obtain ⟨a1,a2⟩:=Yw c j k m o x d w p t c1;obtain ⟨B,z⟩:=Av c j k m o r d y t q c2;refine ⟨aa,λf back ak fr e g h i=>?_⟩;rw [gq];refine (Sm.bd (B1:=t-p) (B2:=q-t) (a2 f back ak fr e g h i) λb A _ v _=>?_).mono aa
   cases b with
   | true=>exact Sm.ok (n:=0) v rfl (di _)<|Gx.refl _
   | false=>exact z A back ak fr e g h v
end
end
section
variable {P:Env} {call:Cl} {u:Nat}
def VK (v:Int) (r:Bw.Rz Fm Bool):Prop:=∀a,r = .ok false a->a.val=v
variable {aH:Int} {bB:Type}
def VK.bd {r:Bw.Rz Fm bB} {g:bB->Fm->Bw.Rz Fm Bool} (h:∀a s,r = .ok a s->VK aH (g a s)):VK aH (r.bind g):=λc e=>by
 cases b:r with
 | ok a s=>rw [b] at e; exact h a s b c e
 | ov x w=>rw [b] at e; cases e
def s8 {f c:Fm} {r:Bw.Rz Wm bB} {a:bB} (h:Bw.Rz.fr f r = .ok a c):c.val=f.val:=by
 cases r with
 | ok b w=>injection h with e d; subst d; rfl
 | ov x w=>cases h
variable {nB:Fm}
def VK.ok {b:Bool} (h:nB.val=aH):VK aH (.ok b nB):=λc e=>by injection e with d a; subst a; exact h
def VK.tr:VK aH (.ok true nB):=λb e=>by injection e with a c; cases a
def OW {c:Fm->Bw.Rz Fm Int} {b:Fm->Bw.Rz Fm Bool} (d:∀f a e,c f = .ok a e->e.val=f.val) (g:∀f,VK f.val (b f)):∀n f,VK f.val (kX P c b n f)
 | 0,f=>VK.ok rfl
 | n+1,f=>by
   rw [kX];refine VK.bd λv p i=>?_;have h:=d _ _ _ i
   split
   · exact VK.ok h
   · refine VK.bd λ_ q j=>?_
     have k:=s8 j;refine VK.bd λt l m=>?_
     cases t with
     | true=>exact VK.tr
     | false=>
       have o:=g _ _ m;have:=OW d g n l;rw [o,k,h] at this;exact this
mutual
def ZT:∀(x:c_) (f:Fm),VK f.val (kY P call u x f)
 | .mk op n m pl args body other,f=>by
   rw [kY];unfold oo
   split
   · refine VK.bd λv c b=>?_
     have e:=s8 b
     split
     · exact VK.ok e
     · exact VK.ok e
   split
   · refine VK.bd λv c b=>VK.bd λv2 g d=>?_
     exact VK.ok<|(s8 d).trans<|s8 b
   split
   · exact VK.bd λv c b=>VK.ok<|s8 b
   split
   · refine VK.bd λv c b=>?_
     rw [<-s8 b]
     split
     · exact Aw other c
     · exact Aw body c
   split
   · exact OW (λf a i h=>s8 h) (λf=>Aw body f) _ f
   split
   · exact VK.bd λv c b=>VK.tr
   split
   · exact VK.bd λv c b=>VK.bd λ_ g d=>VK.ok<|(s8 d).trans<|s8 b
   · exact VK.ok O
def Aw:∀(l:List c_) (f:Fm),VK f.val (gq P call u l f)
 | [],f=>by rw [gq]; exact VK.ok rfl
 | x::r,f=>by
   rw [gq];refine VK.bd λt a b=>?_
   cases t with
   | true=>exact VK.tr
   | false=>
     have e:=ZT x f a b;rw [<-e];exact Aw r a
end
end
structure DI (C:List eP) (l:List b8) (L:Nat) (gD:Nat->Nat->Nat) (x5:Nat->Nat):Prop where
 parts:∀{j:Nat} {z:b8} {q:Nat} {p:hx},l[j]? = some z->z.parts[q]? = some p->∃q',ux C (hR (aO l L) j) (kq (aO l L) gD j) p.params p.locals p.body (gD j q) q'
 Yy:∀{j:Nat} {z:b8},l[j]? = some z->∃q',ux C (hR (aO l L) j) (kq (aO l L) gD j) 0 0 z.main (x5 j) q'
 Yz:∀{j:Nat},j<l.length->dW C j 13 (x5 j:Nat) 0
 halt:dW C l.length 20 0 0
section
variable {C:List eP} {L N:Nat} {l:List b8} {gD:Nat->Nat->Nat} {x5:Nat->Nat}
def YA (f:bu l) {j:Nat} {z:b8} (o:l[j]? = some z) {cc:Nat} {call:Cl}
   (u:∀{i:Nat} {y:b8} {q:Nat} {p:hx},l[i]? = some y->y.parts[q]? = some p->HP C L N (c9 l) cc call i p.params p.locals p.body (gD i q)):Au C L N (c9 l) cc (aO l L) call gD j (aE z::fd l z):=by
 refine ⟨fun {m pl n} h v=>?_,fun {m pl k} h=>?_,fun {m pl n} h=>?_⟩
 · obtain ⟨r,s,b,p,rfl,rfl,t,a,c,g,d⟩:=w4 f L o h v
   have e:hR (aO l L) j r=(b:Int):=by
     unfold hR;rw [g,show (aO l L).qA=ih l 0 from rfl,a]
     rfl
   rw [e];refine ⟨aa,λi=>?_,aa⟩;have:=d i;rw [show ((p:Int)+(i:Int))=((p+i:Nat):Int) by omega,this];omega
 · obtain ⟨r,s,q,y,p,rfl,rfl,t,a,c,g,d⟩:=yY f L o h
   have:=vn ((rq<|f.mX y<|az a).1 p<|az c);omega
 · obtain ⟨r,s,q,y,p,rfl,rfl,t,a,c,g,d⟩:=yY f L o h
   refine ⟨p,?_,g,?_⟩
   · rw [d,show (aO l L).l=l from rfl,a]
     exact c
   · unfold kq
     rw [d,i'];exact u a c
def YB (c:Cd C L N) (F:bu l) (W:DI C l L gD x5):∀(d cc:Nat),cc+d=24->∀{j:Nat} {z:b8},l[j]? = some z->∀{np nl:Int} {bd:List c_} {e q':Nat},(0<=np/\np<=3)->(0<=nl/\nl<=4)->gO (aE z::fd l z) (np+nl) bd 1=true->ux C (hR (aO l L) j) (kq (aO l L) gD j) np nl bd e q'->HP C L N (c9 l) cc (cM (aO l L)<|d+1) j np nl bd e:=by
 intro d
 induction d with
 | zero=>
   intro cc X j z J np nl bd e q' K M O hC a vs ak fr w v hv B Y o;rw [cM];unfold ky;have G:(aO l L).aD=L:=rfl
   by_cases r:w.aM=(aO l L).aD
   · rw [ZZ r]
     exact Sm.ov (n:=1) (cQ _) (by unfold KK; omega)<|OL c v (by rw [r,G])
   · rw [ZX r]
     show Sm C L N 1 _ id w _ (if w.calls=24 then _ else _) _
     rw [ZZ (by rw [o.calls]; omega)];exact Sm.ov (n:=1) (Nat.le_succ _) (by unfold KK; omega)<|Yt c v (by have:=o.aM; omega) aa
 | succ d Z=>
   intro cc X j z J np nl bd e q' K M O hC a vs ak fr w v hv B Y o;rw [cM];unfold ky;have G:(aO l L).aD=L:=rfl
   by_cases r:w.aM=(aO l L).aD
   · rw [ZZ r]
     exact Sm.ov (n:=1) (cQ _) (by unfold KK; omega)<|OL c v (by rw [r,G])
   · rw [ZX r]
     show Sm C L N 1 _ id w _ (if w.calls=24 then _ else _) _
     rw [ZX (by rw [o.calls]; omega)]
     have ab:w.aM<L:=by have:=o.aM; omega
     obtain ⟨t,c1,c2,c3,c4,rfl⟩:=hC;have ap:t+1<C.length:=(cq.1 c4).1;have aq:=c.hC;have ac:=Ys (ak:=vs.reverse++ak) (fr:=fr) (w:=w) c v ab aa;have ad:=Yu (ak:=ak) (fr:=fr) (w:={ w with aM:=w.aM+1 }) (loc:=[]) (back:=((a+1:Nat):Int)) c c1 K M hv
     have ae:=YA (C:=C) (N:=N) (L:=L) (gD:=gD) F J (cc:=cc+1) (call:=cM (aO l L) (d+1)) fun {i y q p} H Q=>by
       have A:=vn ((rq<|F.mX y<|az H).1 p<|az Q);obtain ⟨ar,af⟩:=W.parts H Q;exact Z (cc+1) aa H ⟨A.1,A.2.1⟩ ⟨A.2.2.1,A.2.2.2.1⟩ A.2.2.2.2 af
     have ag:(((vs++List.replicate nl.toNat 0).length:Nat):Int)=np+nl:=by simp; omega
     have ah:=vp F;have R:=g1 O;rw [<-ag] at R;have ai:Fi L (c9 l) (cc+1) (vs++List.replicate nl.toNat 0).length ⟨vs++List.replicate nl.toNat 0,0,{ w with aM:=w.aM+1,calls:=w.calls+1 }⟩:=⟨⟨by show w.calls+1=cc+1; rw [o.calls],by show w.aM+1<=L; omega,o.data⟩,rfl⟩;obtain ⟨au,aj⟩:=Av (C:=C) (N:=N) (nl:=(vs++List.replicate nl.toNat 0).length) c (show cc+1<=24 by omega) ah (show (aO l L).aD=L from rfl) ae bd 1 R (e+1) t c2;have D:=aj _ (a+1) ak fr aa aa (by intro h; rw [h] at B; simp at B) ai;have S:=Aw (P:=aO l L) (call:=cM (aO l L) (d+1)) (u:=j) bd ⟨vs++List.replicate nl.toNat 0,0,{ w with aM:=w.aM+1,calls:=w.calls+1 }⟩;have av:KK=2050:=rfl;have I:Gx C L N (1+1) ⟨a,vs.reverse++ak,fr,w⟩ ⟨e+1,ak,(vs++List.replicate nl.toNat 0,((a+1:Nat):Int))::fr,{ w with aM:=w.aM+1,calls:=w.calls+1 }⟩:=ac.trans ad
     show Sm C L N 1 _ id w _ (match gq (aO l L) (cM (aO l L)<|d+1) j bd ⟨vs++List.replicate nl.toNat 0,0,{ w with aM:=w.aM+1,calls:=w.calls+1 }⟩ with | .ok _ f=>.ok f.val { f.w with calls:=f.w.calls-1 } | .ov e w=>.ov e w) _
     cases T:gq (aO l L) (cM (aO l L)<|d+1) j bd ⟨vs++List.replicate nl.toNat 0,0,{ w with aM:=w.aM+1,calls:=w.calls+1 }⟩ with
     | ov x s=>
       rw [T] at D;obtain ⟨m,k1,k2,E⟩:=D;have k1:w.aM+1<=s.aM:=k1;have k2:m<=t-(e+1)+KK*(s.aM-(w.aM+1)+1):=k2;rw [show s.aM-(w.aM+1)+1=s.aM-w.aM by omega] at k2
       have aw:KK*(s.aM-w.aM+1)=KK*(s.aM-w.aM)+KK:=by rw [hU,tf]
       exact ⟨1+1+m,aa,aa,I.x E⟩
     | ok b k=>
       rw [T] at D S;obtain ⟨m,k1,k2,E,U⟩:=D;have k2:w.aM+1<=k.w.aM:=k2;have E:m<=t-(e+1)+KK*(k.w.aM-(w.aM+1)):=E;have ax:=j9 (show w.aM<=w.aM+1 by omega) k2
       have ay:KK*(w.aM+1-w.aM)=KK:=by rw [show w.aM+1-w.aM=1 by omega,tf]
       have V:Wi L (c9 l) cc { k.w with calls:=k.w.calls-1 }:=⟨by show k.w.calls-1=cc; rw [k1.w.calls]; rfl,k1.w.aM,k1.w.data⟩
       cases b with
       | true=>exact ⟨1+1+m,V,by show w.aM<=k.w.aM; omega,by show 1+1+m<=1+KK*(k.w.aM-w.aM); omega,I.trans U⟩
       | false=>
         have al:k.val=0:=S k rfl
         cases fr with
         | nil=>simp at B
         | cons g fr=>
           have am:Gx C L N 1 ⟨t,ak,(k.loc,((a+1:Nat):Int))::g::fr,k.w⟩ ⟨t+1,0::ak,(k.loc,((a+1:Nat):Int))::g::fr,k.w⟩:=DD c c3 aa;have an:Gx C L N 1 ⟨t+1,0::ak,(k.loc,((a+1:Nat):Int))::g::fr,k.w⟩ ⟨a+1,0::ak,g::fr,k.w⟩:=OK c c4;have ao:=((I.trans U).trans am).trans an;refine ⟨1+1+m+1+1,V,by show w.aM<=k.w.aM; omega,by show 1+1+m+1+1<=1+KK*(k.w.aM-w.aM); omega,?_⟩;rw [al];exact ao
def pr (r:Bw.Rz Wm Unit):Int×Wm:=match r with | .ok _ w=>(0,w) | .ov e w=>(e,w)
def OX (c:Cd C L N) (g:bu l) (f:DI C l L gD x5):∀(r:List b8) (n:Nat) (ak:List Int) (w:Wm),l.drop n=r->n<=l.length->ak.length=n->Wi L (c9 l) 0 w->∃m,w.aM<=(pr<|kz (aO l L) r n w).2.aM/\(pr<|kz (aO l L) r n w).2.aM<=L+1/\m<=r.length+1+KK*((pr<|kz (aO l L) r n w).2.aM-w.aM+1)/\Xx C L N m ⟨n,ak,[([],0)],w⟩ (pr<|kz (aO l L) r n w).1 (pr<|kz (aO l L) r n w).2
 | [],n,ak,w,b,t,o,hw=>by
   have e:n=l.length:=by
     have:=congrArg List.length b;simp at this; omega
   subst e;exact ⟨1,cQ _,by have:=hw.aM; show w.aM<=L+1; omega,aa,Yr c f.halt⟩
 | x::r,n,ak,w,b,t,o,hw=>by
   have p:n<l.length:=by
     rcases mb n l.length with h | h
     · exact h
     · rw [uL h] at b; cases b
   have i:l[n]? = some x:=by
     have:=congrArg (·[0]?) b
     simpa using this
   have u:l.drop (n+1)=r:=by
     have:=congrArg List.tail b
     simpa using this
   obtain ⟨q',y⟩:=f.Yy i;have z:=(rq<|g.mX x<|az i).2.1;have G:=g.e8;have d:=YB c g f 24 0 rfl i (np:=0) (nl:=0) a8 a8 (by simpa using z) y n [] ak [([],0)] w (f.Yz p) rfl rfl aa hw;rw [kz];have d:Sm C L N 1 (Wi L (c9 l) 0) id w ⟨n,ak,[([],0)],w⟩ (cM (aO l L) 25 n [] x.main w) (λv A=>⟨n+1,v::ak,[([],0)],A⟩):=d
   cases j:cM (aO l L) 25 n [] x.main w with
   | ov e a=>
     rw [j] at d;obtain ⟨m,k1,k2,k⟩:=d;have q:=B5 (P:=aO l L) 25 n [] x.main w;rw [j] at q;have H:=q.aD hw.aM;exact ⟨m,k1,by show a.aM<=L+1; have:(aO l L).aD=L:=rfl; omega,by show m<=(x::r).length+1+KK*(a.aM-w.aM+1); rw [gf]; omega,k⟩
   | ok v a=>
     rw [j] at d;obtain ⟨m,B,k1,k2,k⟩:=d;have k1:w.aM<=a.aM:=k1;have k2:m<=1+KK*(a.aM-w.aM):=k2;obtain ⟨s,D,E,I,F⟩:=OX c g f r (n+1) (v::ak) a u p (by simp [o]) B;refine ⟨m+s,ea k1 D,E,?_,k.x F⟩
     show m+s<=(x::r).length+1+KK*((pr<|kz (aO l L) r (n+1) a).2.aM-w.aM+1)
     rw [gf]
     have J:KK*(a.aM-w.aM)+KK*((pr<|kz (aO l L) r (n+1) a).2.aM-a.aM+1)=KK*((pr<|kz (aO l L) r (n+1) a).2.aM-w.aM+1):=by rw [<-hU]; congr 1; omega
     omega
def YC (b:bu l) {L:Nat} (hL:L<=2000) (hC:C.length<=2048) (f:DI C l L gD x5) (bg:List Int) (g:l7 C (c9 l:Nat) bg L 134217728=0):(hQ C (c9 l:Nat) bg L 134217728).1=⟨(o6 l bg L).fin,(o6 l bg L).out,(o6 l bg L).data,(o6 l bg L).aM⟩:=by
 have c:Cd C L 134217728:=⟨cQ _,hC,hL⟩;have h:Wi L (c9 l) 0 ⟨List.replicate (c9 l) 0,bg,[],0,0⟩:=⟨rfl,di _,ai⟩;obtain ⟨m,i,j,a,d⟩:=OX c b f l 0 [] ⟨List.replicate (c9 l) 0,bg,[],0,0⟩ rfl (di _) rfl h;have v:=b.e8
 generalize k:kz (aO l L) l 0 ⟨List.replicate (c9 l) 0,bg,[],0,0⟩=r at i j a d
 have w:m<=134217728:=by
   have n:(pr r).2.aM-0+1<=2002:=aa
   have x:=HM n;have y:KK*2002=4104100:=rfl;have a:m<=l.length+1+KK*((pr r).2.aM-0+1):=a;omega
 obtain ⟨m',e,o,p,q⟩:=d 0 aa (134217728+1-m);rw [show m+(134217728+1-m)=134217728+1 by omega] at e;unfold hQ;rw [ZZ g]
 have s:zy (L:Int) bg ((c9 l:Nat):Int)=St.m L 0 ⟨0,[],[([],0)],⟨List.replicate (c9 l) 0,bg,[],0,0⟩⟩:=by
   unfold zy St.m;rw [i']
   rfl
 have t:runK C 134217728 ((134217728:Int).toNat+1) (zy (L:Int) bg ((c9 l:Nat):Int))=((pr r).1,m'):=by
   rw [s]; exact e
 have u:o6 l bg L=vl (pr r).2 (pr r).1:=by
   unfold o6;rw [k]
   cases r<;>rfl
 rw [u];dsimp only;rw [t];dsimp only;rw [o,p,q]
 rfl
end
def qd (x:ao):eP:=⟨x.op,x.a,x.b⟩
abbrev Vl:=fI->Int->Int
def jC (fs:List fI) (p:Nat):Option fI:=fs.find? λf=>f.at_==(p:Int)
def Vg (val:Vl) (g:Gs) (p:Nat):Option ao:=(g.code[p]?).map λi=>match jC g.fix p with | none=>i | some f=>⟨i.op,val f i.a,i.b⟩
def Wf (g:Gs):Prop:=∀f ∈ g.fix,∃p:Nat,f.at_=(p:Int)/\p<g.code.length
structure Ex (g g':Gs):Prop where
 lo:g.code.length<=g'.code.length
 code:∀p,p<g.code.length->g'.code[p]? = g.code[p]?
 fix:∀p,p<g.code.length->jC g'.fix p=jC g.fix p
 wf:Wf g->Wf g'
def Ex.refl (g:Gs):Ex g g:=⟨cQ _,λ_ _=>rfl,λ_ _=>rfl,id⟩
def Ex.trans {g b c:Gs} (h:Ex g b) (k:Ex b c):Ex g c:=⟨ea h.lo k.lo,λp a=>(k.code p<|AC a h.lo).trans<|h.code p a,λp a=>(k.fix p<|AC a h.lo).trans<|h.fix p a,λw=>k.wf<|h.wf w⟩
def DJ {fs:List fI} {p:Nat} (h:∀f ∈ fs,f.at_≠(p:Int)):jC fs p=none:=by
 unfold jC;rw [List.find?_eq_none];intro f a
 simpa using h f a
def OY {a b:List fI} {p:Nat} (h:∀f ∈ b,f.at_≠(p:Int)):jC (a++b) p=jC a p:=by
 have:=DJ h;unfold jC at this ⊢;rw [Ih,this]
 cases List.find? (λf=>f.at_==(p:Int)) a<;>rfl
variable {g7:Gs}
def YD (h:Wf g7):jC g7.fix g7.code.length=none:=DJ λf a e=>by
 obtain ⟨p,b,c⟩:=h f a;rw [b] at e;omega
def Ap.ex {Pk:Int->Int->Prop} {o:List Nat} {g d:Gs} (h:Ap Z Pk o g d):Ex g d:=by
 obtain ⟨c,fx,r,k,t,s,u⟩:=h.more
 have l:∀f ∈ fx,∃p:Nat,f.at_=(p:Int)/\g.code.length<=p/\p<d.code.length:=λf a=>by
   obtain ⟨p,i,a1,a2,a3,_⟩:=s f a;exact ⟨p,a1,a3,(cq.1 a2).1⟩
 refine ⟨h.lo,λp m=>by rw [r,oM m],λp m=>?_,λw f a=>?_⟩
 · rw [k]
   refine OY λf a e=>?_;obtain ⟨q,b,j,n⟩:=l f a;rw [b] at e; omega
 · rw [k] at a
   rcases ge.1 a with a | a
   · obtain ⟨p,b,j⟩:=w f a
     exact ⟨p,b,AC j h.lo⟩
   · obtain ⟨q,b,j,n⟩:=l f a
     exact ⟨q,b,n⟩
def x6 (l:List ao) (g:Gs):Ex g (bi l g):=by
 refine ⟨by simp [bi],λp a=>by simp only [bi]; rw [oM a],λ_ _=>rfl,λw f b=>?_⟩;obtain ⟨p,c,d⟩:=w f b;exact ⟨p,c,by simp only [bi,jE]; omega⟩
def s' (i:ao) (k m:Int) (g:Gs):Ex g (aS i k m g):=by
 refine ⟨by simp [aS],λp b=>by simp only [aS]; rw [oM b],λp b=>?_,λw f a=>?_⟩
 · simp only [aS]
   refine OY λf a e=>?_;rw [gU] at a;subst a;have e:(g.code.length:Int)=(p:Int):=e;omega
 · have a:f ∈ g.fix++[⟨(g.code.length:Int),k,m⟩]:=a
   rcases ge.1 a with a | a
   · obtain ⟨p,c,d⟩:=w f a
     exact ⟨p,c,by simp only [aS,jE]; omega⟩
   · rw [gU] at a
     subst a;exact ⟨g.code.length,O,by simp [aS]⟩
def DK (n:Nat) (h:Wf g7):Wf (cF n g7):=λf a=>by
 obtain ⟨p,b,c⟩:=h f a;exact ⟨p,b,by rw [qG]; exact c⟩
variable {aw:Nat}
def Ax (h:aw≠Z):(cF Z g7).code[aw]? = g7.code[aw]?:=by
 show (g7.code.modify Z _)[aw]? = _
 rw [eX];have e:¬Z=aw:=λe=>h e.symm;simp [e]
section
variable {val:Vl} {g g':Gs} {p n:Nat}
def j1 (h:Ex g g') (a:p<g.code.length):Vg val g' p=Vg val g p:=by
 unfold Vg; rw [h.code p a,h.fix p a]
def uy (h:p≠n):Vg val (cF n g) p=Vg val g p:=by
 unfold Vg; rw [Ax h]; rfl
variable {hz:List ao} {ru:ao}
def YE {i:Nat}  (w:Wf g) (h:hz[i]? = some ru):Vg val (bi hz g) (g.code.length+i)=some ru:=by
 unfold Vg
 rw [show (bi hz g).code=g.code++hz from rfl,nc aa,wq,h,show (bi hz g).fix=g.fix from rfl,DJ λf a e=>by
   obtain ⟨q,b,c⟩:=w f a
   rw [b] at e; omega]
 rfl
def x7 (w:Wf g):Vg val (bi (ru::hz) g) g.code.length=some ru:=YE (i:=0) w rfl
def uz (i:ao) (k m:Int) (w:Wf g):jC (aS i k m g).fix g.code.length=some ⟨(g.code.length:Int),k,m⟩:=by
 have:=YD w;unfold jC at this ⊢;rw [show (aS i k m g).fix=g.fix++[⟨(g.code.length:Int),k,m⟩] from rfl,Ih,this];simp
def hn (i:ao) (k m:Int):(aS i k m g).code[g.code.length]? = some i:=by simp [aS]
def OZ {i:ao} {k m:Int} (w:Wf g):Vg val (aS i k m g) g.code.length=some ⟨i.op,val ⟨(g.code.length:Int),k,m⟩ i.a,i.b⟩:=by
 unfold Vg; rw [hn,uz i k m w]; rfl
def hB {i:ao} {f:fI} (c:g.code[n]? = some i) (d:jC g.fix n=some f):Vg val (cF n g) n=some ⟨i.op,val f (g.code.length:Int),i.b⟩:=by
 unfold Vg;rw [show (cF n g).code=g.code.modify n λi=>{ i with a:=(g.code.length:Int) } from rfl,eX,c,show (cF n g).fix=g.fix from rfl,d];simp
end
structure x8 (val:Vl) (b:Nat) (dm:Int->Int) (pm:Int->Int->Nat) (kn:List ec):Prop where
 j:∀(at_ a:Int),val ⟨at_,1,0⟩ a=a+b
 p:∀{at_ m pl n:Int},jf kn m pl n=true->val ⟨at_,2,m⟩ pl=(pm m pl:Nat)
 d:∀{at_ m pl n:Int},jv kn m pl n=true->0<=n->val ⟨at_,3,m⟩ pl=pl+dm m
def Hc (C:List eP) (b:Nat) (val:Vl) (g:Gs) (lo hi:Nat):Prop:=∀p,lo<=p->p<hi->C[b+p]? = (Vg val g p).map qd
section
variable {C:List eP} {b:Nat} {val:Vl} {dm:Int->Int} {pm:Int->Int->Nat} {kn:List ec} {U:Nat} {Pk:Int->Int->Prop}
variable {gR:Gs}
def Hc.to {lo hi a c:Nat} (h:Hc C b val gR lo hi) (d:lo<=a) (f:c<=hi) (e:∀p,a<=p->p<c->Vg val gR p=Vg val g7 p):Hc C b val g7 a c:=λp a1 a2=>by rw [h p aa aa,e p a1 a2]
def Hc.ex {lo hi a:Nat} (h:Hc C b val gR lo hi) (x:Ex g7 gR) (c:lo<=a) (d:g7.code.length<=hi):Hc C b val g7 a g7.code.length:=h.to c d λp _ a2=>j1 x a2
def Hc.at {lo hi p:Nat} {i:ao} (h:Hc C b val g7 lo hi) (c:lo<=p) (d:p<hi) (e:Vg val g7 p=some i):dW C (b+p) i.op i.a i.b:=by
 unfold dW; rw [h p c d,e]; rfl
def Gc (C:List eP) (b:Nat) (val:Vl) (k:Gk) (r:Cr):Prop:=∀g,Wf g->Ex g (k g)/\(Hc C b val (k g) g.code.length (k g).code.length->r (b+g.code.length) (b+(k g).code.length))
def O0:∀{ks:List Gk} {rs:List Cr},ks.length=rs.length->(∀(i:Nat) k r,ks[i]? = some k->rs[i]? = some r->Gc C b val k r)->Gc C b val (mw ks) (d' rs)
 | [],[],_,_=>λg w=>⟨.refl g,λ_=>rfl⟩
 | [],_::_,h,_=>by cases h
 | _::_,[],h,_=>by cases h
 | k::ks,r::rs,h,d=>λg w=>by
   obtain ⟨a1,a2⟩:=d 0 k r rfl rfl g w;obtain ⟨c,e⟩:=O0 (ks:=ks) (rs:=rs) (by simpa using h) (λi k r f j=>d (i+1) k r (by simpa using f) (by simpa using j)) (k g) (a1.wf w);refine ⟨a1.trans c,λa=>?_⟩;have a:Hc C b val (mw ks<|k g) g.code.length (mw ks<|k g).code.length:=a;exact ⟨_,a2<|a.ex c (cQ _) c.lo,e<|a.to a1.lo (cQ _) λ_ _ _=>rfl⟩
variable {jP:Cr}
def oL {op a c:Int}  (d:∀p,dW C p op a c->jP p (p+1)):Gc C b val (bi [⟨op,a,c⟩]) jP:=λg w=>⟨x6 _ g,λf=>by
 have e:(bi [⟨op,a,c⟩] g).code.length=g.code.length+1:=by simp [bi]
 have:=f.at (p:=g.code.length) (cQ _) aa (x7 w);rw [e]
 exact d _ this⟩
def x9 {op a c d:Int} {k m:Int}  (hv:∀at_,val ⟨at_,k,m⟩ a=d) (f:∀p,dW C p op d c->jP p (p+1)):Gc C b val (aS ⟨op,a,c⟩ k m) jP:=λg w=>⟨s' _ k m g,λh=>by
 have e:(aS ⟨op,a,c⟩ k m g).code.length=g.code.length+1:=o8 _ k m g;have:=h.at (p:=g.code.length) (cQ _) aa (OZ w);rw [hv] at this;rw [e]
 exact f _ this⟩
def b' {k1 k2:Gk} {r1 r2 r:Cr} (d:Gc C b val k1 r1) (e:Gc C b val k2 r2) (f:∀p t q,r1 p t->r2 t q->r p q):Gc C b val (λg=>k2<|k1 g) r:=λg w=>by
 obtain ⟨a1,a2⟩:=d g w;obtain ⟨a,h⟩:=e (k1 g) (a1.wf w);exact ⟨a1.trans a,λc=>f _ _ _ (a2<|c.ex a (cQ _) a.lo)<|h<|c.to a1.lo (cQ _) λ_ _ _=>rfl⟩
variable {j0:Cr}
def Gc.imp {k:Gk}  (h:Gc C b val k jP) (a:∀p q,jP p q->j0 p q):Gc C b val k j0:=λg w=>⟨(h g w).1,λc=>a _ _<|(h g w).2 c⟩
def uC {n:Nat} (h:Ex g7 gR) (b:g7.code.length<=n):Ex g7 (cF n gR):=⟨by rw [qG]; exact h.lo,λp a=>by rw [Ax aa]; exact h.code p a,h.fix,λw=>DK n<|h.wf w⟩
def YF (hv:∀at_ a:Int,val ⟨at_,1,0⟩ a=a+b) {q k1:Gk}  (E:Gc C b val q jP) (F:Gc C b val k1 j0):Gc C b val (tO q k1) (OM C jP j0):=λg w=>by
 unfold tO;dsimp only;obtain ⟨n,G⟩:=E g w
 generalize V:q g=c at *
 have r:=n.wf w;have s:Ex c (aS ⟨12,0,0⟩ 1 0 c):=s' _ _ _ _;obtain ⟨t,H⟩:=F (aS ⟨12,0,0⟩ 1 0 c) (s.wf r);have c2:(aS ⟨12,0,0⟩ 1 0 c).code[c.code.length]? = some ⟨12,0,0⟩:=hn _ _ _;have I:=uz ⟨12,0,0⟩ 1 0 r;have J:=o8 ⟨12,0,0⟩ 1 0 c
 generalize W:aS ⟨12,0,0⟩ 1 0 c=A at *
 generalize X:k1 A=e at *
 have Y:=t.lo;have K:=s.wf r;have wk:=t.wf K;have u:Ex e (bi [⟨22,0,0⟩] e):=x6 _ _;have L:Vg val (bi [⟨22,0,0⟩] e) e.code.length=some ⟨22,0,0⟩:=x7 wk
 have Z:(bi [⟨22,0,0⟩] e).code.length=e.code.length+1:=by simp [bi]
 generalize ab:bi [⟨22,0,0⟩] e=d at *
 have B:=u.wf wk;have o:Ex d (aS ⟨11,0,0⟩ 1 0 d):=s' _ _ _ _;have c4:(aS ⟨11,0,0⟩ 1 0 d).code[d.code.length]? = some ⟨11,0,0⟩:=hn _ _ _;have M:=uz ⟨11,0,0⟩ 1 0 B;have ac:=o8 ⟨11,0,0⟩ 1 0 d
 generalize ad:aS ⟨11,0,0⟩ 1 0 d=f at *
 have N:=o.wf B;have v:Ex A f:=t.trans (u.trans o)
 have a1:Vg val (cF c.code.length f) c.code.length=some ⟨12,(f.code.length:Int)+b,0⟩:=by
   rw [hB (i:=⟨12,0,0⟩) (by rw [v.code _ aa]; exact c2) (by rw [v.fix _ aa]; exact I),hv]
 have ae:=qG c.code.length f;have O:=DK c.code.length N;have x:∀p,p≠c.code.length->Vg val (cF c.code.length f) p=Vg val f p:=λp y=>uy y
 have P:(cF c.code.length f).code[d.code.length]? = some ⟨11,0,0⟩:=by rw [Ax aa]; exact c4
 have Q:jC (cF c.code.length f).fix d.code.length=_:=M;have D:Ex c f:=s.trans v;have R:Ex g (cF c.code.length f):=uC (n.trans D) n.lo
 generalize af:cF c.code.length f=h at *
 have j:Ex h (bi [⟨1,0,0⟩] h):=x6 _ _;have v6:Vg val (bi [⟨1,0,0⟩] h) h.code.length=some ⟨1,0,0⟩:=x7 O
 have ag:(bi [⟨1,0,0⟩] h).code.length=h.code.length+1:=by simp [bi]
 generalize ah:bi [⟨1,0,0⟩] h=l at *
 have S:Vg val (cF d.code.length l) d.code.length=some ⟨11,(l.code.length:Int)+b,0⟩:=by
   rw [hB (i:=⟨11,0,0⟩) (by rw [j.code _ aa]; exact P) (by rw [j.fix _ aa]; exact Q),hv]
 have T:=n.lo;refine ⟨uC (R.trans j) aa,λk=>?_⟩;rw [qG] at k ⊢;have m:∀p,p≠d.code.length->Vg val (cF d.code.length l) p=Vg val l p:=λp y=>uy y;refine ⟨b+c.code.length,b+e.code.length,G<|k.to (cQ _) aa λp U z=>?_,?_,?_,?_,?_,?_,aa⟩
 · rw [m p aa,j1 j aa,x p aa,j1 D z]
 · have:=k.at (p:=c.code.length) T aa ((m _ aa).trans<|(j1 j aa).trans a1)
   rw [show (((b+e.code.length+2:Nat):Int))=(f.code.length:Int)+b by omega];exact this
 · have:=H (k.to aa aa λp U z=>by rw [m p aa,j1 j aa,x p aa,j1 (u.trans o) z])
   rw [J] at this;exact this
 · exact k.at (p:=e.code.length) aa aa<|(m _ aa).trans<|(j1 j aa).trans<|(x _ aa).trans<|(j1 o aa).trans L
 · have:=k.at (p:=d.code.length) aa aa S
   rw [show (((b+e.code.length+3:Nat):Int))=(l.code.length:Int)+b by omega,show b+e.code.length+1=b+d.code.length by omega];exact this
 · have:=k.at (p:=h.code.length) aa aa ((m _ aa).trans v6)
   rw [show b+e.code.length+2=b+h.code.length by omega];exact this
end
section
variable {C:List eP} {b:Nat} {val:Vl} {dm:Int->Int} {pm:Int->Int->Nat} {kn:List ec} {U:Nat} {Pk:Int->Int->Prop}
variable {mZ ou:Gk} {jP j0:Cr}
def YG (hv:∀at_ a:Int,val ⟨at_,1,0⟩ a=a+b)   (F:Gc C b val mZ jP) (G:Gc C b val ou j0):Gc C b val (gT mZ ou) (ON C jP j0):=λg w=>by
 unfold gT;dsimp only;obtain ⟨o,H⟩:=F g w
 generalize T:mZ g=c at *
 have I:=o.lo;have v:=o.wf w;have x:Ex c (aS ⟨12,0,0⟩ 1 0 c):=s' _ _ _ _;have c2:(aS ⟨12,0,0⟩ 1 0 c).code[c.code.length]? = some ⟨12,0,0⟩:=hn _ _ _;have J:=uz ⟨12,0,0⟩ 1 0 v;have U:=o8 ⟨12,0,0⟩ 1 0 c
 generalize V:aS ⟨12,0,0⟩ 1 0 c=h at *
 have y:=x.wf v;have q:Ex h (bi [⟨1,1,0⟩] h):=x6 _ _;have K:Vg val (bi [⟨1,1,0⟩] h) h.code.length=some ⟨1,1,0⟩:=x7 y
 have W:(bi [⟨1,1,0⟩] h).code.length=h.code.length+1:=by simp [bi]
 generalize X:bi [⟨1,1,0⟩] h=d at *
 have z:=q.wf y;have m:Ex d (aS ⟨11,0,0⟩ 1 0 d):=s' _ _ _ _;have c4:(aS ⟨11,0,0⟩ 1 0 d).code[d.code.length]? = some ⟨11,0,0⟩:=hn _ _ _;have L:=uz ⟨11,0,0⟩ 1 0 z;have Y:=o8 ⟨11,0,0⟩ 1 0 d
 generalize Z:aS ⟨11,0,0⟩ 1 0 d=e at *
 have M:=m.wf z
 have a1:Vg val (cF c.code.length e) c.code.length=some ⟨12,(e.code.length:Int)+b,0⟩:=by
   rw [hB (i:=⟨12,0,0⟩) (by rw [m.code _ aa,q.code _ aa]; exact c2) (by rw [m.fix _ aa,q.fix _ aa]; exact J),hv]
 have ab:=qG c.code.length e;have A:=DK c.code.length M;have B:∀p,p≠c.code.length->Vg val (cF c.code.length e) p=Vg val e p:=λp s=>uy s
 have N:(cF c.code.length e).code[d.code.length]? = some ⟨11,0,0⟩:=by rw [Ax aa]; exact c4
 have O:jC (cF c.code.length e).fix d.code.length=_:=L;have D:Ex c e:=x.trans (q.trans m);have P:Ex g (cF c.code.length e):=uC (o.trans D) o.lo
 generalize ac:cF c.code.length e=r at *
 obtain ⟨t,Q⟩:=G r A
 generalize ad:ou r=f at *
 have ae:=t.lo;have wk:=t.wf A;have E:Ex f (bi [⟨22,0,0⟩] f):=x6 _ _;have v6:Vg val (bi [⟨22,0,0⟩] f) f.code.length=some ⟨22,0,0⟩:=x7 wk
 have af:(bi [⟨22,0,0⟩] f).code.length=f.code.length+1:=by simp [bi]
 generalize ag:bi [⟨22,0,0⟩] f=k at *
 have l:Ex r k:=t.trans E
 have R:Vg val (cF d.code.length k) d.code.length=some ⟨11,(k.code.length:Int)+b,0⟩:=by
   rw [hB (i:=⟨11,0,0⟩) (by rw [l.code _ aa]; exact N) (by rw [l.fix _ aa]; exact O),hv]
 refine ⟨uC (P.trans l) aa,λj=>?_⟩;rw [qG] at j ⊢;have n:∀p,p≠d.code.length->Vg val (cF d.code.length k) p=Vg val k p:=λp s=>uy s;refine ⟨b+c.code.length,b+f.code.length,H<|j.to (cQ _) aa λp S u=>?_,?_,?_,?_,?_,?_,aa⟩
 · rw [n p aa,j1 l aa,B p aa,j1 D u]
 · have:=j.at (p:=c.code.length) I aa ((n _ aa).trans<|(j1 l aa).trans a1)
   rw [show (((b+c.code.length+3:Nat):Int))=(e.code.length:Int)+b by omega];exact this
 · have:=j.at (p:=h.code.length) aa aa ((n _ aa).trans<|(j1 l aa).trans<|(B _ aa).trans<|(j1 m aa).trans K)
   rw [show b+c.code.length+1=b+h.code.length by omega];exact this
 · have:=j.at (p:=d.code.length) aa aa R
   rw [show (((b+f.code.length+1:Nat):Int))=(k.code.length:Int)+b by omega,show b+c.code.length+2=b+d.code.length by omega];exact this
 · have:=Q (j.to aa aa λp S u=>by rw [n p aa,j1 E u])
   rw [show b+c.code.length+3=b+r.code.length by omega];exact this
 · exact j.at (p:=f.code.length) aa aa<|(n _ aa).trans v6
def YH (hv:∀at_ a:Int,val ⟨at_,1,0⟩ a=a+b) {v body other:Gk} {z A B:Cr}  (M:Gc C b val v z) (N:Gc C b val body A) (P:Gc C b val other B):Gc C b val (so v body other Z) (OO C z A B Z):=λg w=>by
 unfold so;dsimp only;obtain ⟨l,D⟩:=M g w
 generalize Y:v g=c at *
 have E:=l.lo;have F:=l.wf w;have x:Ex c (aS ⟨12,0,0⟩ 1 0 c):=s' _ _ _ _;have c2:(aS ⟨12,0,0⟩ 1 0 c).code[c.code.length]? = some ⟨12,0,0⟩:=hn _ _ _;have G:=uz ⟨12,0,0⟩ 1 0 F;have ab:=o8 ⟨12,0,0⟩ 1 0 c
 generalize ac:aS ⟨12,0,0⟩ 1 0 c=r at *
 have H:=x.wf F;obtain ⟨h,I⟩:=N r H
 generalize ad:body r=d at *
 have ae:=h.lo;have J:=h.wf H
 by_cases s:0<Z
 · rw [ZZ s]
   have n:Ex d (aS ⟨11,0,0⟩ 1 0 d):=s' _ _ _ _;have c4:(aS ⟨11,0,0⟩ 1 0 d).code[d.code.length]? = some ⟨11,0,0⟩:=hn _ _ _;have Q:=uz ⟨11,0,0⟩ 1 0 J;have af:=o8 ⟨11,0,0⟩ 1 0 d
   generalize ag:aS ⟨11,0,0⟩ 1 0 d=e at *
   have R:=n.wf J
   have a1:Vg val (cF c.code.length e) c.code.length=some ⟨12,(e.code.length:Int)+b,0⟩:=by
     rw [hB (i:=⟨12,0,0⟩) (by rw [n.code _ aa,h.code _ aa]; exact c2) (by rw [n.fix _ aa,h.fix _ aa]; exact G),hv]
   have ah:=qG c.code.length e;have S:=DK c.code.length R;have o:∀p,p≠c.code.length->Vg val (cF c.code.length e) p=Vg val e p:=λp q=>uy q
   have T:(cF c.code.length e).code[d.code.length]? = some ⟨11,0,0⟩:=by rw [Ax aa]; exact c4
   have U:jC (cF c.code.length e).fix d.code.length=_:=Q;have K:Ex c e:=x.trans (h.trans n);have V:Ex g (cF c.code.length e):=uC (l.trans K) l.lo
   generalize ai:cF c.code.length e=y at *
   obtain ⟨j,W⟩:=P y S
   generalize aj:other y=m at *
   have ak:=j.lo
   have X:Vg val (cF d.code.length m) d.code.length=some ⟨11,(m.code.length:Int)+b,0⟩:=by
     rw [hB (i:=⟨11,0,0⟩) (by rw [j.code _ aa]; exact T) (by rw [j.fix _ aa]; exact U),hv]
   refine ⟨uC (V.trans j) aa,λf=>?_⟩;rw [qG] at f ⊢;have t:∀p,p≠d.code.length->Vg val (cF d.code.length m) p=Vg val m p:=λp q=>uy q;refine ⟨b+c.code.length,b+d.code.length,D<|f.to (cQ _) aa λp u k=>?_,?_,?_⟩
   · rw [t p aa,j1 j aa,o p aa,j1 K k]
   · have:=I (f.to aa aa λp u k=>by rw [t p aa,j1 j aa,o p aa,j1 n k])
     rw [show b+c.code.length+1=b+r.code.length by omega];exact this
   · rw [ZZ s]
     refine ⟨?_,?_,?_⟩
     · have:=f.at (p:=c.code.length) E aa ((t _ aa).trans<|(j1 j aa).trans a1)
       rw [show (((b+d.code.length+1:Nat):Int))=(e.code.length:Int)+b by omega];exact this
     · have:=f.at (p:=d.code.length) aa aa X
       rw [show (((b+m.code.length:Nat):Int))=(m.code.length:Int)+b by omega];exact this
     · have:=W (f.to aa aa λp u k=>by rw [t p aa])
       rw [show b+d.code.length+1=b+y.code.length by omega];exact this
 · rw [ZX s]
   have a1:Vg val (cF c.code.length d) c.code.length=some ⟨12,(d.code.length:Int)+b,0⟩:=by
     rw [hB (i:=⟨12,0,0⟩) (by rw [h.code _ aa]; exact c2) (by rw [h.fix _ aa]; exact G),hv]
   have L:Ex c d:=x.trans h;refine ⟨uC (l.trans L) l.lo,λf=>?_⟩;rw [qG] at f ⊢;have o:∀p,p≠c.code.length->Vg val (cF c.code.length d) p=Vg val d p:=λp q=>uy q;refine ⟨b+c.code.length,b+d.code.length,D<|f.to (cQ _) aa λp u k=>?_,?_,?_⟩
   · rw [o p aa,j1 L k]
   · have:=I (f.to aa aa λp u k=>by rw [o p aa])
     rw [show b+c.code.length+1=b+r.code.length by omega];exact this
   · rw [ZX s]
     have:=f.at (p:=c.code.length) E aa a1;rw [show (((b+d.code.length:Nat):Int))=(d.code.length:Int)+b by omega];exact ⟨this,O⟩
def YI (hv:∀at_ a:Int,val ⟨at_,1,0⟩ a=a+b)   (B:Gc C b val mZ jP) (D:Gc C b val ou j0):Gc C b val (vo mZ ou) (OP C jP j0):=λg w=>by
 unfold vo;dsimp only;obtain ⟨j,E⟩:=B g w
 generalize M:mZ g=c at *
 have F:=j.lo;have t:=j.wf w;have u:Ex c (aS ⟨12,0,0⟩ 1 0 c):=s' _ _ _ _;have c2:(aS ⟨12,0,0⟩ 1 0 c).code[c.code.length]? = some ⟨12,0,0⟩:=hn _ _ _;have G:=uz ⟨12,0,0⟩ 1 0 t;have N:=o8 ⟨12,0,0⟩ 1 0 c
 generalize O:aS ⟨12,0,0⟩ 1 0 c=d at *
 have v:=u.wf t;have x:Ex d (bi [⟨16,0,0⟩] d):=x6 _ _;have H:Vg val (bi [⟨16,0,0⟩] d) d.code.length=some ⟨16,0,0⟩:=x7 v
 have P:(bi [⟨16,0,0⟩] d).code.length=d.code.length+1:=by simp [bi]
 generalize Q:bi [⟨16,0,0⟩] d=o at *
 have y:=x.wf v;obtain ⟨l,I⟩:=D o y
 generalize R:ou o=f at *
 have S:=l.lo;have J:=l.wf y;have q:Ex f (aS ⟨11,(g.code.length:Int),0⟩ 1 0 f):=s' _ _ _ _;have z:=OZ (val:=val) (i:=⟨11,(g.code.length:Int),0⟩) (k:=1) (m:=0) J;have T:=o8 ⟨11,(g.code.length:Int),0⟩ 1 0 f;rw [hv] at z
 generalize U:aS ⟨11,(g.code.length:Int),0⟩ 1 0 f=e at *
 have r:Ex d e:=x.trans (l.trans q)
 have a1:Vg val (cF c.code.length e) c.code.length=some ⟨12,(e.code.length:Int)+b,0⟩:=by
   rw [hB (i:=⟨12,0,0⟩) (by rw [r.code _ aa]; exact c2) (by rw [r.fix _ aa]; exact G),hv]
 have A:Ex c e:=u.trans r;refine ⟨uC (j.trans A) j.lo,λh=>?_⟩;rw [qG] at h ⊢;have n:∀p,p≠c.code.length->Vg val (cF c.code.length e) p=Vg val e p:=λp K=>uy K;refine ⟨b+c.code.length,b+f.code.length,E<|h.to (cQ _) aa λp L s=>?_,?_,?_,?_,?_,aa⟩
 · rw [n p aa,j1 A s]
 · have:=h.at (p:=c.code.length) F aa a1
   rw [show (((b+e.code.length:Nat):Int))=(e.code.length:Int)+b by omega];exact this
 · have:=h.at (p:=d.code.length) aa aa ((n _ aa).trans<|(j1 (l.trans q) aa).trans H)
   rw [show b+c.code.length+1=b+d.code.length by omega];exact this
 · have:=I (h.to aa aa λp L s=>by rw [n p aa,j1 q s])
   rw [show b+c.code.length+2=b+o.code.length by omega];exact this
 · have:=h.at (p:=f.code.length) aa aa ((n _ aa).trans z)
   rw [show (((b+g.code.length:Nat):Int))=(g.code.length:Int)+b by omega];exact this
variable {fT:List dr}
def mx {y:dr} (h:fT[Z]? = some y):gt (l2 fT) Z=aP y:=by
 unfold gt; rw [fh,e4,h]; rfl
def DL (h:∀x ∈ fT,Gc C b val (aP x) (nW C dm pm x)):Gc C b val (mw<|l2 fT) (d'<|i7 C dm pm fT):=by
 refine O0 (by rw [fh,DF]; simp) λi k r c a=>?_;rw [fh,e4] at c;rw [DF,e4] at a;obtain ⟨x,d,rfl⟩:=dS.1 c;rw [d] at a
 injection a with a
 subst a;exact h x<|az d
def O1 (E:x8 val b dm pm kn) (aC:Int):∀(x:dr) (d:Nat),jg kn aC x d=true->Gc C b val (aP x) (nW C dm pm x)
 | .mk op n m pl args,d,N=>by
   have L:=B9 N;have B:node1 kn aC op n m pl args.length=true:=L.1;have P:gA kn aC args (d+1)=true:=L.2;have f:=B6 B
   have I:∀x ∈ args,Gc C b val (aP x) (nW C dm pm x):=λx M=>by
     obtain ⟨i,hi⟩:=iE M;exact O1 E aC x (d+1)<|kC P hi
   have G:∀{i:Nat} {y:dr},args[i]? = some y->Gc C b val (gt (l2 args) i) (bC (i7 C dm pm args) i):=λh=>by
     rw [DG h,mx h]; exact I _<|az h
   have Q:aP (.mk op n m pl args)=gP op n m pl (l2 args):=by funext g; rw [aP]
   rw [Q,nW];have one:∀{k:Nat},args.length=k->∀i,i<k->∃y,args[i]? = some y:=λe i hi=>⟨_,c6 aa⟩;unfold HN;have T:∀g,gP op n m pl (l2 args) g=gP op n m pl (l2 args) g:=λ_=>rfl
   by_cases c:op=1
   · have:gP op n m pl (l2 args)=bi [⟨1,n,0⟩]:=by funext g; rw [gP,ZZ c]
     rw [this];refine oL λp o=>?_;rw [ZZ c]; exact ⟨o,rfl⟩
   by_cases l:op=2
   · have:gP op n m pl (l2 args)=bi [⟨18,0,0⟩]:=by funext g; rw [gP,ZX c,ZZ l]
     rw [this];refine oL λp o=>?_;rw [ZX c,ZZ l]; exact ⟨o,rfl⟩
   by_cases r:op=16
   · have:gP op n m pl (l2 args)=bi [⟨2,pl,0⟩]:=by funext g; rw [gP,ZX c,ZX l,ZZ r]
     rw [this];refine oL λp o=>?_;rw [ZX c,ZX l,ZZ r]; exact ⟨o,rfl⟩
   by_cases u:op=3
   · have:gP op n m pl (l2 args)=aS ⟨4,pl,0⟩ 3 m:=by funext g; rw [gP,ZX c,ZX l,ZX r,ZZ u]
     rw [this];refine x9 (λat_=>E.d (f.1 u) a8) λp o=>?_;rw [ZX c,ZX l,ZX r,ZZ u]; exact ⟨o,rfl⟩
   by_cases v:op=4
   · have:gP op n m pl (l2 args)=λg=>bi [⟨7,0,0⟩]<|aS ⟨6,pl,n⟩ 3 m<|gt (l2 args) 0 g:=by funext g; rw [gP,ZX c,ZX l,ZX r,ZX u,ZZ v]
     rw [this]
     have D:args.length=1:=by rw [v] at B; simp [node1] at B; omega
     obtain ⟨y,H⟩:=one D 0 aa;refine b' (r1:=λp q=>∃t,bC (i7 C dm pm args) 0 p t/\dW C t 6 (pl+dm m) n/\q=t+1) (r2:=λp q=>dW C p 7 0 0/\q=p+1) (k1:=λg=>aS ⟨6,pl,n⟩ 3 m<|gt (l2 args) 0 g) (k2:=bi [⟨7,0,0⟩]) (b' (r2:=λp q=>dW C p 6 (pl+dm m) n/\q=p+1) (G H) (x9 (λat_=>E.d (f.2.1 v).2 (by have:=(f.2.1 v).1; omega)) λp o=>⟨o,O⟩) λp t q a1 a2=>⟨t,a1,a2⟩) (oL λp o=>⟨o,O⟩) λp t q a1 a2=>?_;obtain ⟨s,R,S,rfl⟩:=a1;rw [ZX c,ZX l,ZX r,ZX u,ZZ v];exact ⟨s,R,S,a2⟩
   by_cases w:op=5
   · have:gP op n m pl (l2 args)=λg=>aS ⟨13,pl,0⟩ 2 m<|mw (l2 args) g:=by funext g; rw [gP,ZX c,ZX l,ZX r,ZX u,ZX v,ZZ w]
     rw [this];refine b' (r2:=λp q=>dW C p 13 (pm m pl:Nat) 0/\q=p+1) (DL I) (x9 (λat_=>E.p<|f.2.2.1 w) λp o=>⟨o,O⟩) λp t q a1 a2=>?_;rw [ZX c,ZX l,ZX r,ZX u,ZX v,ZZ w];exact ⟨t,a1,a2⟩
   by_cases A:op=7
   · have:gP op n m pl (l2 args)=tO (gt (l2 args) 0) (gt (l2 args) 1):=by funext g; rw [gP,ZX c,ZX l,ZX r,ZX u,ZX v,ZX w,ZZ A]
     rw [this]
     have D:args.length=2:=by rw [A] at B; simp [node1] at B; omega
     obtain ⟨y,H⟩:=one D 0 aa;obtain ⟨z,K⟩:=one D 1 aa;refine (YF E.j (G H)<|G K).imp λp q a=>?_;rw [ZX c,ZX l,ZX r,ZX u,ZX v,ZX w,ZX aa,ZZ A]; exact a
   by_cases F:op=8
   · have:gP op n m pl (l2 args)=gT (gt (l2 args) 0) (gt (l2 args) 1):=by funext g; rw [gP,ZX c,ZX l,ZX r,ZX u,ZX v,ZX w,ZX A,ZZ F]
     rw [this]
     have D:args.length=2:=by rw [F] at B; simp [node1] at B; omega
     obtain ⟨y,H⟩:=one D 0 aa;obtain ⟨z,K⟩:=one D 1 aa;refine (YG E.j (G H)<|G K).imp λp q a=>?_;rw [ZX c,ZX l,ZX r,ZX u,ZX v,ZX w,ZX aa,ZX A,ZZ F]; exact a
   by_cases J:op=6
   · have:gP op n m pl (l2 args)=λg=>bi [⟨9,0,0⟩]<|mw (l2 args) g:=by funext g; rw [gP,ZX c,ZX l,ZX r,ZX u,ZX v,ZX w,ZX A,ZX F,ZZ J]
     rw [this];refine b' (r2:=λp q=>dW C p 9 0 0/\q=p+1) (DL I) (oL λp o=>⟨o,O⟩) λp t q a1 a2=>?_;rw [ZX c,ZX l,ZX r,ZX u,ZX v,ZX w,ZZ J];exact ⟨t,a1,a2⟩
   have:gP op n m pl (l2 args)=λg=>bi [⟨10,op,0⟩]<|mw (l2 args) g:=by funext g; rw [gP,ZX c,ZX l,ZX r,ZX u,ZX v,ZX w,ZX A,ZX F,ZX J]
   rw [this];refine b' (r2:=λp q=>dW C p 10 op 0/\q=p+1) (DL I) (oL λp o=>⟨o,O⟩) λp t q a1 a2=>?_;rw [ZX c,ZX l,ZX r,ZX u,ZX v,ZX w,ZX J,ZX A,ZX F];exact ⟨t,a1,a2⟩
termination_by x=>SizeOf.sizeOf x
decreasing_by
 have U:=Ig M;simp only [dr.mk.sizeOf_spec];omega
end
section
variable {C:List eP} {b:Nat} {val:Vl} {dm:Int->Int} {pm:Int->Int->Nat} {kn:List ec} {U:Nat} {Pk:Int->Int->Prop}
mutual
def YJ (E:x8 val b dm pm kn) (aC:Int):∀(x:c_) (d:Nat),jN kn aC x d=true->Gc C b val (jQ x) (At C dm pm x)
 | .mk op n m pl args body other,d,Q=>by
   have L:=B' Q;have o:aW kn aC op n m pl args.length body.length other.length=true:=L.1;have R:gA kn aC args 1=true:=L.2.1;have N:op=4\/op=5->a9 kn aC body (d+1)=true:=L.2.2.1;have S:a9 kn aC other (d+1)=true:=L.2.2.2;have M:=B7 o
   have P:∀x ∈ args,Gc C b val (aP x) (nW C dm pm x):=λx T=>by
     obtain ⟨i,hi⟩:=iE T;exact O1 E aC x 1<|kC R hi
   have F:∀{i:Nat} {y:dr},args[i]? = some y->Gc C b val (gt (l2 args) i) (bC (i7 C dm pm args) i):=λh=>by
     rw [DG h,mx h]; exact P _<|az h
   have one:∀{k:Nat},args.length=k->∀i,i<k->∃y,args[i]? = some y:=λe i hi=>⟨_,c6 aa⟩
   have U:jQ (.mk op n m pl args body other)=bo op n m pl (l2 args) (λg=>cn body g) (λg=>cn other g) other.length:=by funext g; rw [jQ]
   rw [U,At];unfold HO
   by_cases c:op=1
   · have v:args.length=1:=by rw [c] at o; simp [aW] at o; omega
     obtain ⟨y,A⟩:=one v 0 aa;obtain ⟨Y,V⟩:=M.1 c
     by_cases H:m<0
     · have:bo op n m pl (l2 args) (λg=>cn body g) (λg=>cn other g) other.length=λg=>bi [⟨3,pl,0⟩]<|gt (l2 args) 0 g:=by funext g; rw [bo,ZZ c,ZZ H]
       rw [this];refine b' (r2:=λp q=>dW C p 3 pl 0/\q=p+1) (F A) (oL λp l=>⟨l,O⟩) λp t q a1 a2=>?_;rw [ZZ c];exact ⟨t,a1,by rw [ZZ H]; exact a2.1,a2.2⟩
     · have:bo op n m pl (l2 args) (λg=>cn body g) (λg=>cn other g) other.length=λg=>aS ⟨5,pl,0⟩ 3 m<|gt (l2 args) 0 g:=by funext g; rw [bo,ZZ c,ZX H]
       rw [this];refine b' (r2:=λp q=>dW C p 5 (pl+dm m) 0/\q=p+1) (F A) (x9 (λat_=>E.d (V H) a8) λp l=>⟨l,O⟩) λp t q a1 a2=>?_;rw [ZZ c];exact ⟨t,a1,by rw [ZX H]; exact a2.1,a2.2⟩
   by_cases f:op=2
   · have v:args.length=2:=by rw [f] at o; simp [aW] at o; omega
     obtain ⟨y,A⟩:=one v 0 aa;obtain ⟨z,W⟩:=one v 1 aa
     have:bo op n m pl (l2 args) (λg=>cn body g) (λg=>cn other g) other.length=λg=>bi [⟨8,0,0⟩]<|gt (l2 args) 1<|aS ⟨6,pl,n⟩ 3 m<|gt (l2 args) 0 g:=by funext g; rw [bo,ZX c,ZZ f]
     rw [this];refine b' (k1:=λg=>gt (l2 args) 1<|aS ⟨6,pl,n⟩ 3 m<|gt (l2 args) 0 g) (k2:=bi [⟨8,0,0⟩]) (r1:=λp r=>∃t,bC (i7 C dm pm args) 0 p t/\dW C t 6 (pl+dm m) n/\bC (i7 C dm pm args) 1 (t+1) r) (r2:=λp q=>dW C p 8 0 0/\q=p+1) (b' (k1:=λg=>aS ⟨6,pl,n⟩ 3 m<|gt (l2 args) 0 g) (r1:=λp q=>∃t,bC (i7 C dm pm args) 0 p t/\dW C t 6 (pl+dm m) n/\q=t+1) (b' (r2:=λp q=>dW C p 6 (pl+dm m) n/\q=p+1) (F A) (x9 (λat_=>E.d (M.2.1 f).2 (by have:=(M.2.1 f).1; omega)) λp l=>⟨l,O⟩) λp t q a1 a2=>⟨t,a1,a2⟩) (F W) λp t q a1 a2=>?_) (oL λp l=>⟨l,O⟩) λp r q a1 a2=>?_
     · obtain ⟨s,I,J,rfl⟩:=a1
       exact ⟨s,I,J,a2⟩
     · obtain ⟨s,I,J,X⟩:=a1
       rw [ZX c,ZZ f];exact ⟨s,r,I,J,X,a2⟩
   by_cases u:op=3
   · have:bo op n m pl (l2 args) (λg=>cn body g) (λg=>cn other g) other.length=λg=>bi [⟨17,0,0⟩]<|aS ⟨13,pl,0⟩ 2 m<|mw (l2 args) g:=by funext g; rw [bo,ZX c,ZX f,ZZ u]
     rw [this];refine b' (k1:=λg=>aS ⟨13,pl,0⟩ 2 m<|mw (l2 args) g) (k2:=bi [⟨17,0,0⟩]) (r1:=λp q=>∃t,d' (i7 C dm pm args) p t/\dW C t 13 (pm m pl:Nat) 0/\q=t+1) (r2:=λp q=>dW C p 17 0 0/\q=p+1) (b' (r2:=λp q=>dW C p 13 (pm m pl:Nat) 0/\q=p+1) (DL P) (x9 (λat_=>E.p<|M.2.2 u) λp l=>⟨l,O⟩) λp t q a1 a2=>⟨t,a1,a2⟩) (oL λp l=>⟨l,O⟩) λp t q a1 a2=>?_;obtain ⟨s,I,J,rfl⟩:=a1;rw [ZX c,ZX f,ZZ u];exact ⟨s,I,J,a2⟩
   by_cases B:op=4
   · have v:args.length=1:=by rw [B] at o; simp [aW] at o; omega
     obtain ⟨y,A⟩:=one v 0 aa
     have:bo op n m pl (l2 args) (λg=>cn body g) (λg=>cn other g) other.length=so (gt (l2 args) 0) (λg=>cn body g) (λg=>cn other g) other.length:=by funext g; rw [bo,ZX c,ZX f,ZX u,ZZ B]
     rw [this];refine (YH E.j (F A) (Ay E aC body (d+1)<|N<|.inl B)<|Ay E aC other (d+1) S).imp λp q a=>?_;rw [ZX c,ZX f,ZX u,ZZ B]; exact a
   by_cases D:op=5
   · have v:args.length=1:=by rw [D] at o; simp [aW] at o; omega
     obtain ⟨y,A⟩:=one v 0 aa
     have:bo op n m pl (l2 args) (λg=>cn body g) (λg=>cn other g) other.length=vo (gt (l2 args) 0) (λg=>cn body g):=by funext g; rw [bo,ZX c,ZX f,ZX u,ZX B,ZZ D]
     rw [this];refine (YI E.j (F A)<|Ay E aC body (d+1)<|N<|.inr D).imp λp q a=>?_;rw [ZX c,ZX f,ZX u,ZX B,ZZ D]; exact a
   by_cases G:op=6
   · have v:args.length=1:=by rw [G] at o; simp [aW] at o; omega
     obtain ⟨y,A⟩:=one v 0 aa
     have:bo op n m pl (l2 args) (λg=>cn body g) (λg=>cn other g) other.length=λg=>bi [⟨15,0,0⟩]<|gt (l2 args) 0 g:=by funext g; rw [bo,ZX c,ZX f,ZX u,ZX B,ZX D,ZZ G]
     rw [this];refine b' (r2:=λp q=>dW C p 15 0 0/\q=p+1) (F A) (oL λp l=>⟨l,O⟩) λp t q a1 a2=>?_;rw [ZX c,ZX f,ZX u,ZX B,ZX D,ZZ G];exact ⟨t,a1,a2⟩
   by_cases K:op=7
   · have v:args.length=1:=by rw [K] at o; simp [aW] at o; omega
     obtain ⟨y,A⟩:=one v 0 aa
     have:bo op n m pl (l2 args) (λg=>cn body g) (λg=>cn other g) other.length=λg=>bi [⟨19,0,0⟩]<|gt (l2 args) 0 g:=by funext g; rw [bo,ZX c,ZX f,ZX u,ZX B,ZX D,ZX G,ZZ K]
     rw [this];refine b' (r2:=λp q=>dW C p 19 0 0/\q=p+1) (F A) (oL λp l=>⟨l,O⟩) λp t q a1 a2=>?_;rw [ZX c,ZX f,ZX u,ZX B,ZX D,ZX G,ZZ K];exact ⟨t,a1,a2⟩
   have:bo op n m pl (l2 args) (λg=>cn body g) (λg=>cn other g) other.length=λg=>g:=by funext g; rw [bo,ZX c,ZX f,ZX u,ZX B,ZX D,ZX G,ZX K]
   rw [this];refine λg w=>⟨.refl g,λ_=>?_⟩;dsimp only;rw [ZX c,ZX f,ZX u,ZX B,ZX D,ZX G,ZX K]
def Ay (a:x8 val b dm pm kn) (aC:Int):∀(l:List c_) (d:Nat),a9 kn aC l d=true->Gc C b val (λg=>cn l g) (qb C dm pm l)
 | [],d,_=>λg w=>by
   have e:(λg=>cn [] g)=λg:Gs=>g:=by funext g; rw [cn]
   rw [e,qb];exact ⟨.refl g,λ_=>rfl⟩
 | x::r,d,c=>by
   rw [a9] at c;obtain ⟨f,h⟩:=eH.1 c
   have e:(λg=>cn (x::r) g)=λg=>(λg=>cn r g)<|jQ x g:=by funext g; rw [cn]
   rw [e,qb];exact b' (YJ a aC x d f) (Ay a aC r d h) λp t q a1 a2=>⟨t,a1,a2⟩
end
def O2 (c:x8 val b dm pm kn) {aC:Int} {body:List c_} {d:Nat} (h:a9 kn aC body d=true) (pa lo:Int):Gc C b val (ii pa lo body) (ux C dm pm pa lo body):=by
 have e:ii pa lo body=λg=>bi [⟨15,0,0⟩]<|bi [⟨1,0,0⟩]<|(λg=>cn body g)<|bi [⟨14,pa,lo⟩] g:=by
   funext g
   show bi [⟨1,0,0⟩,⟨15,0,0⟩] (cn body<|bi [⟨14,pa,lo⟩] g)=_
   simp [bi]
 rw [e];refine b' (k1:=λg=>bi [⟨1,0,0⟩]<|(λg=>cn body g)<|bi [⟨14,pa,lo⟩] g) (k2:=bi [⟨15,0,0⟩]) (r1:=λp q=>∃t,dW C p 14 pa lo/\qb C dm pm body (p+1) t/\dW C t 1 0 0/\q=t+1) (r2:=λp q=>dW C p 15 0 0/\q=p+1) (b' (k1:=λg=>(λg=>cn body g)<|bi [⟨14,pa,lo⟩] g) (k2:=bi [⟨1,0,0⟩]) (r1:=λp t=>dW C p 14 pa lo/\qb C dm pm body (p+1) t) (r2:=λp q=>dW C p 1 0 0/\q=p+1) (b' (k1:=bi [⟨14,pa,lo⟩]) (r1:=λp q=>dW C p 14 pa lo/\q=p+1) (oL λp a=>⟨a,O⟩) (Ay c aC body d h) λp t q a1 a2=>⟨a1.1,by rw [<-a1.2]; exact a2⟩) (oL λp a=>⟨a,O⟩) λp t q a1 a2=>⟨t,a1.1,a1.2,a2⟩) (oL λp a=>⟨a,O⟩) λp t q a1 a2=>?_;obtain ⟨s,f,i,j,rfl⟩:=a1;exact ⟨s,f,i,j,a2⟩
def O3 (f:x8 val b dm pm kn):∀(l:List hx),(∀p ∈ l,∃aC d,a9 kn aC p.body d=true)->∀g,Wf g->Ex g (dw l g).2/\(Hc C b val (dw l g).2 g.code.length (dw l g).2.code.length->∀{q:Nat} {p:hx},l[q]? = some p->∃s,(dw l g).1[q]? = some s/\∃q',ux C dm pm p.params p.locals p.body (b+s) q')
 | [],_,g,w=>⟨.refl g,λ_ q p h=>by simp at h⟩
 | x::r,i,g,w=>by
   obtain ⟨aC,d,h⟩:=i x ai;obtain ⟨a1,a2⟩:=O2 (C:=C) (b:=b) f h x.params x.locals g w;obtain ⟨c,j⟩:=O3 f r (λp k=>i p (by simp [k])) (ii x.params x.locals x.body g) (a1.wf w);rw [dw];refine ⟨a1.trans c,λa q p e=>?_⟩;have a:Hc C b val (dw r<|ii x.params x.locals x.body g).2 g.code.length (dw r<|ii x.params x.locals x.body g).2.code.length:=a
   cases q with
   | zero=>
     simp at e;subst e;exact ⟨g.code.length,O,_,a2<|a.ex c (cQ _) c.lo⟩
   | succ q=>exact j (a.to a1.lo (cQ _) λ_ _ _=>rfl) (by simpa using e)
end
section
variable {l:List b8}
def hD (a:bu l) {u:b8} (b:u ∈ l):oq u=true:=JG (yX.2 a) b
def HU (c:bu l) (d:∀u ∈ l,(fm u).2=0)  {o:av} (h:(ed l)[Z]? = some o):∃u,l[Z]? = some u/\o=(eT u).to/\(eT u).g.code.length<=2048:=by
 unfold ed at h;rw [e4] at h;obtain ⟨u,a,rfl⟩:=dS.1 h;have b:=az a;obtain ⟨e,f⟩:=zl (hD c b) (d u b);exact ⟨u,a,by rw [e],f⟩
def DM (b:bu l) (c:∀u ∈ l,(fm u).2=0)  {u:b8} (h:l[Z]? = some u):(ed l)[Z]? = some (eT u).to:=by
 have a:=az h;rw [S5 h,(zl (hD b a)<|c u a).1]
def O4 (b:bu l) (c:∀u ∈ l,(fm u).2=0):gc (ed l)=eS l:=by
 unfold gc ed eS;rw [DX];refine AF λu a=>?_
 show (fm u).1.to.nm=u.nm
 rw [(zl (hD b a)<|c u a).1]; rfl
def lu (a:bu l) (g:∀u ∈ l,(fm u).2=0)  {u:b8} (i:l[Z]? = some u) {b j:Nat} (h:(Z::u.aA.map λs=>(idxOf s (eS l) 0).getD 0)[b]? = some j):g8 (ed l) Z (eT u).to b=j:=by
 unfold g8 o_
 cases b with
 | zero=>simp at h; subst h; rfl
 | succ t=>
   rw [lL,e4] at h;obtain ⟨s,c,e⟩:=dS.1 h;obtain ⟨p,z,d,m,n⟩:=BX a i (az c);rw [d] at e;simp at e;subst e;rw [show ((t+1:Nat):Int).toNat=t+1 from rfl,lL,e4,show (eT u).to.aA=u.aA from rfl,c,dR,yc];unfold rC;rw [O4 a g];have f:=(pP d).2;rw [nX] at f;rw [Gn (k:=0) (j:=p) (a.nd.sublist<|List.take_sublist _ _) (by rw [jq,ZZ m,f])];simp
def YK (a:bu l) (c:∀u ∈ l,(fm u).2=0) {n:Nat} {u:b8} (b:l[n]? = some u):aay (ed l) n=u.parts.length:=by
 unfold aay;rw [DM a c b]
 show ((eT u).fe.map λn:Nat=>(n:Int)).length=_
 rw [fu];exact (qZ<|hD a<|az b).e8
def O5 (b:bu l) (h:∀u ∈ l,(fm u).2=0):BF (ed l):=by
 have w:=O4 b h;have t:=b.e8;refine ⟨by unfold ed; rw [fu]; omega,λo v=>?_,by rw [w]; exact b.nd,λn o m=>?_,λn o m f x=>?_⟩
 · obtain ⟨n,m⟩:=iE v
   obtain ⟨u,d,rfl,y⟩:=HU b h m;exact Sg (hD b<|az d) y
 · obtain ⟨u,d,rfl,_⟩:=HU b h m
   unfold sy;refine gN.2 λs A=>?_;obtain ⟨p,z,k1,k2,P⟩:=BX b d (show s ∈ u.aA from A)
   cases B:idxOf s ((gc<|ed l).take n) 0 with
   | some _=>rfl
   | none=>
     refine absurd ?_<|sj.1 B;rw [w];have t:=(pP k1).2;rw [nX] at t;exact az (i:=p) (by rw [jq,ZZ k2,t])
 · obtain ⟨u,d,rfl,_⟩:=HU b h m
   have v:=az d
   have C:=K6 (b.mX u v) (by simp [fd]) λk D hi=>by have:=(KX b u k D hi).2.1; omega
   obtain ⟨c,fx,a1,a2,_,a4,_⟩:=C.ap.more
   have a2:(eT u).g.fix=fx:=by simpa using a2
   obtain ⟨p,i,E,F,_,G⟩:=a4 f (by rw [<-a2]; exact x)
   have H:jj (eT u).to.code f.at_=i.a:=by
     show jj (eT u).g.code f.at_=_
     unfold jj; rw [E,i',F]; rfl
   unfold qK
   rcases G with ⟨e,_⟩ | ⟨e,_,c0,c1,c2,c3,I⟩
   · rw [e]; rfl
   · rcases e with e | e
     · obtain ⟨q,J⟩:=I e
       obtain ⟨Q,j,r,z,R,K,L,M,N,O,S,T⟩:=yY b 0 d J;rw [K,lu b h d M,YK b h N,H,L];have:=(cq.1 O).1;rw [aaf aa];simp
     · rw [e]; rfl
end
variable {bl:List av} {cg:av}
def O6 {p:Nat}:∀(fs:List fI) (c:List ao),fs.Pairwise (λa b=>a.at_<b.at_)->(∀f ∈ fs,0<=f.at_)->(k3 bl Z cg c fs)[p]? = match jC fs p with | none=>c[p]? | some f=>(c[p]?).map λx=>⟨x.op,dt bl Z cg f,x.b⟩
 | [],c,_,_=>rfl
 | f::r,c,hp,j=>by
   have l:=j f ai;obtain ⟨k1,k2⟩:=AL.1 hp
   show (k3 bl Z cg (nF c f.at_.toNat<|dt bl Z cg f) r)[p]? = _
   rw [O6 r _ k2 λg h=>j g (by simp [h])]
   by_cases e:f.at_=(p:Int)
   · have k:jC r p=none:=DJ λg h=>by have:=k1 g h; omega
     have i:jC (f::r) p=some f:=by unfold jC; rw [Ii,show (f.at_==(p:Int))=true by simpa using e]
     rw [k,i,e,i'];dsimp only
     cases d:c[p]? with
     | none=>unfold nF; rw [d]; exact d
     | some x=>
       rw [Lu d];have:=(cq.1 d).1;rw [List.getElem?_set_self this]
       rfl
   · have i:jC (f::r) p=jC r p:=by unfold jC; rw [Ii,show (f.at_==(p:Int))=false by simpa using e]
     rw [i,BI _ aa]
def ta (l:List av) (n:Nat) (o:av):Vl:=λf a=>if f.kind=1 then a+eG l n else if f.kind=2 then eG l (g8 l n o f.m)+xf l (g8 l n o f.m) a else a+aaq l (g8 l n o f.m)
def YL (d:xc cg) (p:Nat):(sA bl Z cg)[p]? = Vg (ta bl Z cg) ⟨cg.code,cg.fix⟩ p:=by
 unfold sA Vg;rw [O6 _ _ d.up λf c=>by obtain ⟨q,j,_⟩:=ek (d.fix f c).1; omega]
 show _=(cg.code[p]?).map λi=>match jC cg.fix p with | none=>i | some f=>⟨i.op,ta bl Z cg f i.a,i.b⟩
 cases c:jC cg.fix p with
 | none=>cases cg.code[p]?<;>rfl
 | some f=>
   have e:f.at_=(p:Int):=by
     have:=List.find?_some c
     simpa using this
   cases g:cg.code[p]? with
   | none=>rfl
   | some x=>
     have h:jj cg.code f.at_=x.a:=by unfold jj; rw [e,i',g]; rfl
     show some _=some _
     unfold dt ta;rw [h]
def k9 (l:List av) (n:Nat):Nat:=l.length+1+o' (l.take n)
def O7 {l:List av} {n:Nat} {o:av} (b:l[n]? = some o) {p:Nat} (f:p<o.code.length):∀k,n<k->k<=l.length->(g9 l k)[k9 l n+p]? = (sA l n o)[p]?
 | 0,h,_=>by omega
 | k+1,h,j=>by
   obtain ⟨c,a⟩:∃c,l[k]? = some c:=⟨_,c6 (by omega)⟩
   have g:(g9 l k).length=k9 l k:=by have:=F5 (l:=l) (i:=k) (by omega); unfold eG at this; unfold k9; omega
   rw [F6 a]
   by_cases e:n=k
   · subst e
     rw [b] at a
     injection a with a
     subst a;rw [nc (by omega),g,wq]
   · have m:k9 l n+o.code.length<=k9 l k:=by
       have q:=Cm b
       have r:o' (l.take<|n+1)<=o' (l.take k):=by
         unfold o'
         have:l.take k=l.take (n+1)++(l.take k).drop (n+1):=by
           have d:=(qg (n+1)<|l.take k).symm;rw [nV,wo (by omega)] at d;exact d
         rw [this,qi,n8];omega
       unfold k9; omega
     rw [oM (by omega)];exact O7 b f k (by omega) (by omega)
def YM (a:bl[Z]? = some cg)  (b:aw<cg.code.length):(jk bl)[k9 bl Z+aw]? = (sA bl Z cg)[aw]?:=by
 have:=(cq.1 a).1;exact O7 a b bl.length this<|cQ _
def YN (a:bl[Z]? = some cg):(jk bl)[Z]? = some ⟨13,eG bl Z+cg.main,0⟩:=by
 have b:=(cq.1 a).1;unfold jk g9;rw [bV,oM (by rw [vu]; exact b)];unfold ox;rw [hX,a]
 rfl
def YO (l:List av):(jk l)[l.length]? = some ⟨20,0,0⟩:=by
 unfold jk g9;rw [bV,nc (by rw [vu]; exact cQ _),vu,yf]
 rfl
def O8:∀{l:List b8} {s j b:Nat},(∀u ∈ l,0<=u.data)->(ih l s)[j]? = some b->(b:Int)=s+((l.take j).map (·.data)).sum
 | [],s,j,b,_,h=>by simp [ih] at h
 | u::r,s,0,b,_,h=>by simp [ih] at h; subst h; simp
 | u::r,s,j+1,b,a,h=>by
   have c:=a u ai;have:=O8 (l:=r) (s:=s+u.data.toNat) (j:=j) (λv hv=>a v (by simp [hv])) (by simpa [ih] using h);rw [nb,k_,AH];omega
section
variable {l:List b8}
def O9 (l:List b8):(ed l).length=l.length:=by simp [ed]
def O' (b:bu l) (c:∀u ∈ l,(fm u).2=0) (j:Nat):aaq (ed l) j=((l.take j).map (·.data)).sum:=by
 unfold aaq aax ed;rw [<-List.map_take,DX]
 congr 1
 refine AF λu d=>?_;have a:=yh d
 show (fm u).1.to.data=u.data
 rw [(zl (hD b a)<|c u a).1]; rfl
def O_ (b:bu l):∀u ∈ l,0<=u.data:=by
 rcases Fy b.data with h | h
 · exact h.1
 · intro u a; rw [h] at a; cases a
def Pa:∀{l:List b8},(∀u ∈ l,0<=u.data)->(c9 l:Int)=(l.map (·.data)).sum
 | [],_=>rfl
 | u::r,h=>by
   have a:=h u ai;have:=Pa (l:=r) λv hv=>h v (by simp [hv]);rw [k_,AH,c9];omega
def x' (l:List b8) (j q:Nat):Nat:=k9 (ed l) j+((l[j]?).bind λz=>(eT z).fe[q]?).getD 0
def HV (l:List b8) (j:Nat):Nat:=k9 (ed l) j+((l[j]?).map λz=>(eT z).main).getD 0
def YP (c:bu l) (e:∀u ∈ l,(fm u).2=0) (L:Nat) {n:Nat} {u:b8} (f:l[n]? = some u):x8 (ta (ed l) n (eT u).to) (k9 (ed l) n) (hR (aO l L) n) (kq (aO l L) (x' l) n) (aE u::fd l u):=by
 refine ⟨λat_ a=>?_,fun {at_ m pl k} h=>?_,fun {at_ m pl k} h o=>?_⟩
 · unfold ta
   rw [ZZ rfl];unfold eG k9;omega
 · obtain ⟨d,j,q,z,p,rfl,rfl,r,g,t,A,v⟩:=yY c L f h
   have B:=(qZ<|hD c<|az g).e8;have C:=(cq.1 t).1;obtain ⟨s,w⟩:∃s,(eT z).fe[q]? = some s:=⟨_,c6 (by omega)⟩;unfold ta;rw [ZX (show ¬(2:Int)=1 by decide),ZZ rfl]
   show eG (ed l) (g8 (ed l) n (eT u).to d)+xf (ed l) (g8 (ed l) n (eT u).to d) q=_
   rw [lu c e f r];unfold xf kq x';rw [DM c e g,v,g]
   show eG (ed l) j+(((eT z).fe.map λn:Nat=>(n:Int))[((q:Nat):Int).toNat]?).getD 0=((k9 (ed l) j+((eT z).fe[((q:Nat):Int).toNat]?).getD 0:Nat):Int)
   rw [i',e4,w]
   show eG (ed l) j+(s:Int)=((k9 (ed l) j+s:Nat):Int)
   unfold eG k9;omega
 · obtain ⟨d,j,b,p,rfl,rfl,x,i,D,y,E⟩:=w4 c L f h o
   unfold ta;rw [ZX (show ¬(3:Int)=1 by decide),ZX (show ¬(3:Int)=2 by decide)]
   show (p:Int)+aaq (ed l) (g8 (ed l) n (eT u).to d)=p+hR (aO l L) n d
   rw [lu c e f x,O' c e,<-D_ (List.sum _)];unfold hR;rw [y,show (aO l L).qA=ih l 0 from rfl,i];have:=O8 (O_ c) i
   show _=(p:Int)+(b:Int)
   rw [this]
   rfl
def YQ (b:bu l) (d:∀u ∈ l,(fm u).2=0) (L:Nat):DI ((jk<|ed l).map qd) l L (x' l) (HV l):=by
 have key:∀{j:Nat} {z:b8},l[j]? = some z->(∀{q:Nat} {p:hx},z.parts[q]? = some p->∃s,(eT z).fe[q]? = some s/\∃q',ux ((jk<|ed l).map qd) (hR (aO l L) j) (kq (aO l L) (x' l) j) p.params p.locals p.body (k9 (ed l) j+s) q')/\∃q',ux ((jk<|ed l).map qd) (hR (aO l L) j) (kq (aO l L) (x' l) j) 0 0 z.main (k9 (ed l) j+(eT z).main) q':=by
   intro j z a;have n:=az a;have e:=YP b d L a;obtain ⟨o,r,_⟩:=rq (b.mX z n);have h:=DM b d a;have t:=(aaw<|(O5 b d).nE _<|az h).2
   have i:Wf ⟨[],[]⟩:=λf v=>by cases v
   obtain ⟨a1,a2⟩:=O3 (C:=(jk<|ed l).map qd) e z.parts (λp c=>⟨_,1,g1 (vn<|o p c).2.2.2.2⟩) ⟨[],[]⟩ i;obtain ⟨k,w⟩:=O2 (C:=(jk<|ed l).map qd) e (g1 r) 0 0 (dw z.parts ⟨[],[]⟩).2 (a1.wf i)
   have m:Hc ((jk<|ed l).map qd) (k9 (ed l) j) (ta (ed l) j (eT z).to) (eT z).g 0 (eT z).g.code.length:=λp _ c=>by
     rw [e4,YM h c,YL t]
     rfl
   have x:Hc ((jk<|ed l).map qd) (k9 (ed l) j) (ta (ed l) j (eT z).to) (dw z.parts ⟨[],[]⟩).2 0 (dw z.parts ⟨[],[]⟩).2.code.length:=m.ex k (cQ _) k.lo;exact ⟨λy=>a2 x y,_,w<|m.to (di _) (cQ _) λ_ _ _=>rfl⟩
 refine ⟨fun {j z q p} a c=>?_,fun {j z} a=>?_,fun {j} A=>?_,?_⟩
 · obtain ⟨s,B,D⟩:=(key a).1 c
   unfold x';rw [a]
   show ∃q',ux _ _ _ _ _ _ (k9 (ed l) j+((eT z).fe[q]?).getD 0) q'
   rw [B];exact D
 · unfold HV
   rw [a];exact (key a).2
 · obtain ⟨z,a⟩:=cR A
   unfold dW HV;rw [e4,YN (DM b d a),a]
   show some _=some _
   unfold qd eG k9
   show some (⟨13,_,0⟩:eP)=some ⟨13,_,0⟩
   congr 2
 · unfold dW
   rw [e4,<-O9 l,YO]
   rfl
def YR (a:bu l) (b:∀u ∈ l,(fm u).2=0) (e:¬(2048<eG (ed l) (ed l).length\/512<aaq (ed l) (ed l).length)) {L:Nat} (hL:L<=2000) (bg:List Int) (c:l7 ((jk<|ed l).map qd) (aaq (ed l) (ed l).length) bg L 134217728=0) :
   (hQ ((jk<|ed l).map qd) (aaq (ed l) (ed l).length) bg L 134217728).1=⟨(o6 l bg L).fin,(o6 l bg L).out,(o6 l bg L).data,(o6 l bg L).aM⟩:=by
 have d:aaq (ed l) (ed l).length=(c9 l:Nat):=by
   rw [O' a b,O9,gE,Pa (O_ a)]
 rw [d] at c ⊢
 have hC:((jk<|ed l).map qd).length<=2048:=by
   rw [fu];have:=BO (ed l);omega
 exact YC a hL hC (YQ a b L) bg c
end
end Go.Proofs.YtgeahfjicmlocaaGreatDoor.Mch
end
section
namespace Go.Proofs.YtgeahfjicmlocaaGreatDoor
open Go.Bw Go.Proofs.Tryz
structure Z3 where
 i:Nat
 M:List (aL<|List UInt8)
 c:Nat
structure Z4 where
 i:Nat
 d:List Nat
structure Z5 where
 out:List Nat
 s:SP
abbrev MP:=df×cb
abbrev FP:=nJ×SP
def hE (J:View) (M:List (aL Tx)) (fl:List (Tx×nJ)):Prop:=∀s,∃r:SP,gn s M (.agg #[st [],.slice none 0 0]) = .agg #[st (aaB fl s).1,.slice r.1 (aaB fl s).2.length r.2]/\Sl lP 4 J r.1 r.2 (aaB fl s).2
variable {an:View}
def hE.nil:hE an [] []:=λ_=>⟨(none,0),rfl,Sl.nil⟩
variable {b4:View} {Az:List (aL Tx)} {DO:List (Tx×nJ)}
def hE.mv (h:hE an Az DO) (hv:bG an b4):hE b4 Az DO:=λs=>by
 obtain ⟨r,a,b⟩:=h s;exact ⟨r,a,z7 hv b⟩
variable {dj:Option Addr} {Z:Nat}
def hE.put (h:hE an Az DO) {k:Tx} {f:nJ}   (c:Nat) (b:Sl lP 4 an dj Z f.2):hE an (aan k (.agg #[st f.1,.slice dj f.2.length Z]) Az c) ((k,f)::DO):=λs=>by
 by_cases e:s=k
 · subst e
   refine ⟨(dj,Z),by rw [iO,aaB,ZZ rfl],?_⟩;rw [aaB,ZZ rfl]; exact b
 · obtain ⟨r,d,g⟩:=h s
   have a:¬k=s:=λq=>e q.symm;refine ⟨r,by rw [yV _ Az c _ e,d,aaB,ZX a],?_⟩;rw [aaB,ZX a]; exact g
structure TH where
 i:Nat
 es:List MP
 m:SP
 J:View
structure Z6 where
 i:Nat
 us:List XU
 o:SP
 fl:List (Tx×nJ)
 M:List (aL Tx)
 c:Nat
 J:View
structure Z7 where
 k:Nat
 es:List FP
 r:SP
structure Pc where
 i:Nat
 es:List XO
 o:SP
 J:View
structure Z8 where
 i:Nat
 es:List FP
 r:SP
 J:View
def i8 (u:b8):av:=(fm u).1.to
variable {bJ:List b8}
def YT {u:b8} (b:∀s ∈ bJ.take Z,(fm s).2=0) (c:bJ[Z]? = some u) (h:(fm u).2=0):∀s ∈ bJ.take (Z+1),(fm s).2=0:=λs a=>by
 rw [ly c] at a
 rcases ge.1 a with k | k
 · exact b s k
 · rw [gU] at k; subst k; exact h
def YU {es:List XO}  (h:Sl Aj 7 an dj Z es) (hv:bG an b4) (a:∀e ∈ es,pU b4 e.2 e.1) (b:es.map (·.1)=bJ.map i8):Sl rW 7 b4 dj Z (bJ.map i8):=by
 rw [<-b]; exact Hy h hv a
def n6:Tx:=[109,111,100,117,108,101,32,99,110,116,32,123,32,112,117,98,32,99,111,110,115,116,32,107,32,61,32,51,32,59,32,112,117,98,32,118,97,114,32,115,117,109,32,59,32,112,117,98,32,97,114,114,97,121,32,116,32,91,32,52,32,93,32,59,32,112,117,98,32,112,114,111,99,32,100,111,119,110,32,40,32,110,32,41,32,108,111,99,97,108,32,105,32,59,32,123,32,105,32,61,32,110,32,59,32,119,104,105,108,101,32,105,32,123,32,115,117,109,32,61,32,40,32,115,117,109,32,43,32,105,32,41,32,59,32,105,32,61,32,40,32,105,32,45,32,49,32,41,32,59,32,125,32,114,101,116,117,114,110,32,115,117,109,32,59,32,125,32,109,97,105,110,32,123,32,125,32,125]
def ZU {l:List av} (h:(eV l).2=0):eV l=((jk l,aaq l l.length),0):=by
 obtain ⟨a,b⟩:=wY h;exact HF a b
def YW (a:bu bJ) (b:∀u ∈ bJ,(fm u).2=0) (h:¬(eV<|ed bJ).2=0):(eV<|ed bJ).2=2:=by
 have c:=FX.2 (Mch.O5 a b);unfold eV at h ⊢;rw [ZX (by rw [c]; simp)] at h ⊢
 split at h
 · rename_i d; rw [ZZ d]
 · exact absurd O h
def DP (R:kZ):Mch.kZ:=⟨R.fin,R.out,R.data,R.aM⟩
def YX {bg:List Int} {t:Int} (b:ny bJ bg t=0) (c:∀u ∈ bJ,(fm u).2=0) (h:(eV<|ed bJ).2=0):Mch.l7 ((eV<|ed bJ).1.1.map toI) (eV<|ed bJ).1.2 bg t 134217728=0/\(Mch.hQ ((eV<|ed bJ).1.1.map toI) (eV<|ed bJ).1.2 bg t 134217728).1=DP (g6 bJ bg t):=by
 obtain ⟨d,i,j,k⟩:=KS.1 b;have e:=yX.1 d
 have a:Mch.l7 ((eV<|ed bJ).1.1.map toI) (eV<|ed bJ).1.2 bg t 134217728=0:=by
   unfold Mch.l7;rw [ZZ (XJ h),ZX aa,ZX];simp only [yd,aab];omega
 refine ⟨a,?_⟩;have f:=(wY h).2;rw [ZU h] at a ⊢;obtain ⟨L,rfl⟩:∃L:Nat,t=L:=⟨t.toNat,aa⟩;have g:=Mch.YR e c f (L:=L) aa bg a;unfold g6;rw [ZZ b,i'];exact g
def YY (d m:View) (n:Nat) (a:Option Addr) (c:Nat) (l:List b8) (p:View) (A:Option Addr) (B:Nat) (bg:List Int) (t:Int) (w:World) (ah:Le d w) (C:Laid d) (aj:Le m w) (D:Sl (ve n) 5 m a c l) (R:∀u ∈ l,dh u<=1048576) (ak:Le p w) (S:Sl hy 1 p A B bg) :
   Calls prog 4 #[.slice a l.length c,.slice A bg.length B,.int .i64 t] w λe v=>e = .returned (.bool true)/\Ext w v:=by
 have a6:=D.cap;have a7:=D.max;refine enter func4 O 83 O O ?_;refine CE (Vs:=[d,m,p]) (Ws.init (by simp [ah,aj,ak]))<|ae<|ag O<|ad<|ae<|ac O<|ac O<|ac O ?_;refine Ld Y O aF O (λr:SP×SP=>.tuple #[.agg #[.int .i64 (g6 l bg t).fin,.slice r.1.1 (g6 l bg t).out.length r.1.2,.slice r.2.1 (g6 l bg t).data.length r.2.2,.int .i64 (g6 l bg t).aM],.int .i64 (ny l bg t)]) (λf r=>Sl hy 1 f r.1.1 r.1.2 (g6 l bg t).out/\Sl hy 1 f r.2.1 r.2.2 (g6 l bg t).data) (λw b=>ZC m n a c l p A B bg t w b.V D (λu al=>by have:=R u al; have:=Kv u; have:=jB u.aA; omega) b.V S) ?_;intro G j a8 an;refine ac O<|I (Yx O O)<|I (Yx O O) ?_;refine Al Y O ph λao=>?_;refine aT 0 Y O O O pg O O O<|ag O<|ad<|Cs<|Cs<|aao 0 (.cells #[.int .i64 (g6 l bg t).fin,.slice j.1.1 (g6 l bg t).out.length j.1.2,.slice j.2.1 (g6 l bg t).data.length j.2.2,.int .i64 (g6 l bg t).aM] 64 (0,0)) O O<|Cr<|ac O<|I (h9 O O)<|ad ?_;refine Cc O (λT=>?_)<|λT=>?_
 ·refine ae<|Lp Y O aF O (λw b=>Dw d w b.V C)<|ag O<|ad<|am<|Er ?_;refine R1 O O λv b=>?_;exact ⟨O,b.fr⟩
 have U:ny l bg t=0:=by simpa using T
 have H:=yX.1 (KS.1 U).1;have a9:=H.e8.2;refine bW<|ae<|ag O<|LW (λ_ h=>h.g4 77 7) ?_;refine WL.v0 ?_;refine ad<|Cs<|ae<|ag O<|ad<|Cb ?_;refine ey (ι:=Pc) (λg=>[(10,.int .i64 (g.i:Int)),(9,.slice g.o.1 g.es.length g.o.2)]) [(0,_),(1,_),(2,_),(7,_)] (λg=>Ws w [] [cC 77 7 XO.cells g.o.1 g.o.2 g.es,aq ao (.cells #[.int .i64 (g6 l bg t).fin,.slice j.1.1 (g6 l bg t).out.length j.1.2,.slice j.2.1 (g6 l bg t).data.length j.2.2,.int .i64 (g6 l bg t).aM] 64 (0,0))] [g.J,G,d,m,p]) (λg=>g.i<=l.length/\g.es.map (·.1)=(l.take g.i).map i8/\(∀s ∈ l.take g.i,(fm s).2=0)/\gw w g.J/\(∀e ∈ g.es,pU g.J e.2 e.1)/\g.es.length=g.i) (λg=>l.length-g.i) ⟨0,[],(none,0),v0⟩ ⟨di _,O,ai,rj w,ai,O⟩ (λ_ h=>by have h:=Ws.aB h (b7:=[v0,G,d,m,p]) ai; exact h) ?_;intro g ⟨hi,E,F,ap,W,ar⟩;refine Cs<|ae<|ac O<|ac O<|I (Yn lF O)<|I (cI O O)<|ad ?_;refine Cc O (λK=>?_)<|λK=>?_
 ·have au:g.i<l.length:=by simpa using K
  obtain ⟨u,z⟩:=cR au;obtain ⟨a',a_,av,aw,ax,ay⟩:=D.b5 g.i u z;refine bW<|Cs<|Cb<|ae<|ac O<|ac O<|I (Yo lF O O av aa)<|I (dz 3 bs O O O<|ax) ?_;refine Ld Y O aF O (λr:nA=>.tuple #[.agg (kF (i8 u) r).toArray,.int .i64 (fm u).2]) (λf r=>pU f r<|i8 u) (λw b=>Hz m n n u aw w b.V ay<|R u<|az z) ?_;intro ba L aC aD;refine ac O<|I (Yx O O)<|I (Yx O O) ?_;refine Al Y O p_ λbb=>?_;refine aT 0 Y O O O q0 O O O<|ag O<|ad<|Cs<|ae<|ac O<|I (h9 O O)<|ad ?_;refine Cc O (λM=>?_)<|λM=>?_
  ·have N:¬(fm u).2=0:=by simpa using M
   have X:(fm u).2=2:=(S4<|Mch.hD H<|az z).resolve_left N;refine ae<|Lp Y O aF O (λw b=>Dw d w b.V C)<|ac O ?_;apply La 2 (x:=true) O O O O Y O O O O O
   ·intro bc;refine Vg (Ym O)<|Vg (qs O O X) ?_;exact Gt 2 O O O
   refine ag O<|ad<|am<|Er<|cN<|Er<|Er<|cN<|Er ?_;refine R1 O O λv b=>?_;exact ⟨O,b.fr⟩
  have aE:(fm u).2=0:=by simpa using M
  refine bW<|Cr<|ac O<|I (db 0 O O oI O) ?_;refine Lb Y O nC O O O O λbd=>?_;refine dk 0 (.cells (XO.cells (i8 u,L)).toArray 77 (0,0)) O (O) ?_;refine LA ((i8 u,L)) 2 0 Y O nC O O O O O O aa aa λaG aH=>?_;refine WL.j' λaI aJ aK aL=>?_;refine ag O<|Ln<|Eb<|Et<|Cr<|ac O<|I (Yi O O O aa)<|ag O<|Ln ?_
  exact c8 (⟨g.i+1,g.es++[(i8 u,L)],(aG,aH),aI⟩:Pc) (by show _-(g.i+1)<_; omega) ⟨by show g.i+1<=_; omega,by rw [qi,E,ly z]; simp,YT F z aE,aL w aC ap,λy P=>by
    rcases ge.1 P with k | k
    · exact xY (W y k) aK
    · rw [gU] at k; subst k; exact xY aD aJ,by simp [ar]⟩<|λ_ h=>Wd 2 h
 have aN:g.i=l.length:=by simp at K; omega
 rw [aN,gE] at E F
 have aO:g.es.length=(l.map i8).length:=by rw [<-E,fu]
 rw [aO];refine Ce<|Ex<|Ex<|dQ<|Et<|Cs ?_;refine WC.pH (rd:=Aj) 0 O XO.cD dN λbe aP=>?_;refine WC.j' λZ aQ aR bf=>?_;have aS:Sl rW 7 Z g.o.1 g.o.2 (l.map i8):=YU aP aQ (λy P=>xY (W y P) aR) E;refine Cr<|ac O ?_;refine Ld Y O aF O (λq:SP=>.tuple #[.agg #[.slice q.1 (eV<|l.map i8).1.1.length q.2,.int .i64 (eV<|l.map i8).1.2],.int .i64 (eV<|l.map i8).2]) (λf q=>Sl bt 3 f q.1 q.2 (eV<|l.map i8).1.1) (λw b=>HH Z g.o.1 g.o.2 (l.map i8) w b.V aS) ?_;intro aU ab bh aV;refine ac O<|I (Yx O O)<|I (Yx O O) ?_;refine Al Y O uw λbi=>?_;refine aT 0 Y O O O wc O O O<|ag O<|ad<|Cs<|ae<|ac O<|I (h9 O O)<|ad ?_;refine Cc O (λQ=>?_)<|λQ=>?_
 ·have N:¬(eV<|l.map i8).2=0:=by simpa using Q
  have aW:(eV<|l.map i8).2=2:=YW H F N;refine ae<|Lp Y O aF O (λw b=>Dw d w b.V C)<|ac O ?_;apply La 2 (x:=true) O O O O Y O O O O O
  ·intro bj;refine Vg (Ym O)<|Vg (qs O O aW) ?_;exact Gt 2 O O O
  refine ag O<|ad<|am<|Er ?_;refine R1 O O λv b=>?_;exact ⟨O,b.fr⟩
 have aX:(eV<|l.map i8).2=0:=by simpa using Q
 obtain ⟨aY,aZ⟩:Mch.l7 ((eV<|l.map i8).1.1.map toI) (eV<|l.map i8).1.2 bg t 134217728=0/\(Mch.hQ ((eV<|l.map i8).1.1.map toI) (eV<|l.map i8).1.2 bg t 134217728).1=DP (g6 l bg t):=YX U F aX;obtain ⟨fg,a0⟩:∃fg,Mch.hQ ((eV<|l.map i8).1.1.map toI) (eV<|l.map i8).1.2 bg t 134217728=(DP (g6 l bg t),fg):=⟨_,Prod.ext aZ rfl⟩;refine bW<|ae<|I (db 0 O O t' O)<|ac O<|ac O ?_
 refine Ld Y O aF O (λr:SP×SP=>.tuple #[.agg #[.int .i64 (g6 l bg t).fin,.slice r.1.1 (g6 l bg t).out.length r.1.2,.slice r.2.1 (g6 l bg t).data.length r.2.2,.int .i64 (g6 l bg t).aM],.int .i64 fg,.int .i64 0]) (λf r=>Sl hy 1 f r.1.1 r.1.2 (g6 l bg t).out/\Sl hy 1 f r.2.1 r.2.2 (g6 l bg t).data) (λw b=>by
     have af:=Mch.Md aU ab.1 ab.2 ((eV<|l.map i8).1.1.map toI) (eV<|l.map i8).1.2 p A B bg t 134217728 w b.V (Oq aV) b.V (Ot S);rw [aY,a0,fu] at af
     exact af.mono λe v ⟨r,k1,k2,a1,a2⟩=>⟨r,k1,k2,Dv a1,Dv a2⟩) ?_
 intro a3 a4 bk a5;refine ac O<|I (Yx O O)<|I (Yx O O)<|I (Yx O O) ?_;refine Al Y O ph λbl=>?_;refine aT 0 Y O O O pg O O O<|ag O<|ag O<|ad<|ae<|Lp Y O aF O (λw b=>Dw d w b.V C)<|ac O ?_;apply La 2 (x:=true) O O O O Y O O O O O
 ·intro X;refine Vg (Ym O)<|Vg (qs O O O) ?_;exact Gt 2 O O O
 refine ac O ?_;apply La 3 (x:=true) O O O O Y O O O O O
 ·intro bm;refine Vg (db 0 O O lx O)<|Vg (db 2 O O lx O)<|Lp (.g O O O) O aF O (λw b=>Ov a3 G (DP<|g6 l bg t) a4 j w b.V b.V a5 an) ?_;exact Gt 3 O O O
 refine ag O<|ad<|am ?_;refine R1 O O λv b=>?_;exact ⟨O,b.fr⟩
end Go.Proofs.YtgeahfjicmlocaaGreatDoor
end
