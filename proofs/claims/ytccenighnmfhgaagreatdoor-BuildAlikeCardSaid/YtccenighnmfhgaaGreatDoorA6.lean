/- BuildAlike: Build tells the same image, in whatever order the texts are. -/
import Derived.Test.YtccenighnmfhgaaGreatDoorA5
set_option linter.unusedVariables false
set_option linter.unusedSimpArgs false
section
namespace Go.Proofs.YtccenighnmfhgaaGreatDoor
open Go.Bw
def MT (p:Pl) (q:SP):List Value:=[.int .i64 p.code,.int .i64 p.data,.slice q.1 p.vr.length q.2]
abbrev jQ:=Pl×SP
def jQ.cells (e:jQ):List Value:=MT e.1 e.2
theorem jQ.bq (e:jQ):(jQ.cells e).length=3:=rfl
def adT (H:View) (b o:Nat) (e:jQ):Prop:=aR H b o (jQ.cells e)
def Bf (J:View) (e:jQ):Prop:=Sl tw 1 J e.2.1 e.2.2 e.1.vr
theorem TJ {A B:View} {e:jQ} (hv:aK A B) (h:Bf A e):Bf B e:=Sl.imp (λb o x h=>aR.mono hv h) h
def adU (H:View) (b o:Nat) (p:Pl):Prop:=∃q:SP,aR H b o (MT p q)/\Sl tw 1 H q.1 q.2 p.vr
theorem auE {H J N:View} {c:Nat} {a:Option Addr} {es:List jQ} (h:Sl adT 3 H a c es) (hv:aK H N) (hJ:aK J N) (fV:Xs Bf J es):Sl adU 3 N a c (es.map (·.1)):=
 BY h fV λb o e h1 h2=>⟨e.2,aR.mono hv h1,TJ hJ h2⟩
def yQ (l:List aP):List Pl:=if jk l=0 then ow l++[tH l] else []
theorem Ih {l:List aP} (h:¬jk l=0):yQ l=[]:=by rw [yQ,if_neg h]
structure LGh where
 i:Nat
 es:List jQ
 oa:SP
 J:View
theorem auF (l:List aP):(ow l).take l.length=ow l:=List.take_of_length_le (by rw [xW]; exact Nat.le_refl _)
theorem auG {U n:Nat} {k m a:Int} (h:kA U n k m a=true) (hk:k=2):0<=a/\a<=2048/\0<=m/\m<=(U:Int):=by
 subst hk;unfold kA at h;rw [if_neg (by decide),if_pos (.inl rfl)] at h;simp only [Bool.and_eq_true,decide_eq_true_eq] at h;omega
theorem mn:eo Tryz.prog 45=some 7:=by kernel_rfl
theorem adW:fo Tryz.prog 121=some [(0,1),(1,1),(2,1)]:=by kernel_rfl
theorem Ii:zeroOf Tryz.prog 121=some (.agg #[.int .i64 0,.int .i64 0,.slice none 0 0]):=by kernel_rfl
theorem TK:cC Tryz.prog 121=some 3:=by kernel_rfl
theorem yR:bw Tryz.prog 121 0=some 0:=by kernel_rfl
theorem DX:bw Tryz.prog 121 1=some 1:=by kernel_rfl
theorem MU:bw Tryz.prog 121 2=some 2:=by kernel_rfl
theorem TL:gj Tryz.prog 121=some 3:=by kernel_rfl
theorem MV:e9 Tryz.prog 117 121 (.agg #[.int .i64 0,.int .i64 0,.slice none 0 0]) 3 40:=ja (by kernel_rfl)
theorem yS:eo Tryz.prog 117=some 3:=by kernel_rfl
theorem auH (H:View) (a:Option Addr) (c:Nat) (l:List aP) (w:World) (hH:Le H w) (hm:Sl Ig 7 H a c l) :
   Calls Tryz.prog 63 #[.slice a l.length c] w λe w'=>∃q:SP,e = .returned (.tuple #[.slice q.1 (yQ l).length q.2,.int .i64 (jk l)])/\Ext w w'/\Sl adU 3 (nv w w') q.1 q.2 (yQ l):=by
 have dR:=hm.cap;have eQ:=hm.max;refine enter Tryz.func63 O 163 O O ?_;refine CE (Vs:=[H]) (Ws.init (by simp [hH])) (ad (ae O (ae O (ab (Cs (ad (aa O (V0 (Yn mn O) (V0 (bj O O) ?_)))))))));refine aa O ?_;apply Lo 3 O O O O Y O O O O O
 ·intro du;refine Vg (Ym O) (Vg (Yn mn O) (Vg (cI O O) ?_));exact Gt 3 O O O
 refine ab ?_;refine Cc O (λai=>?_) (λai=>?_)
 ·have h4:l.length<1\/4<l.length:=by simp at ai; omega
  have hE:=Xu h4;refine ad (ae O (ae O (ab (aA (Er ?_)))));refine WE.gi O O O λw' hw=>?_;rw [Ih (by rw [hE]; decide),hE];exact ⟨(none,0),O,hw.fr,Sl.nil⟩
 have h4:¬(l.length<1\/4<l.length):=by simp at ai; omega
 refine aE (ad ?_);refine WL.oY st Y O λGa=>?_;refine ae O (ab (Cs (ad (aa O (V0 (Yn mn O) (aa O (ab (Cb ?_))))))));refine cq (ι:=Nat×List (cD (List UInt8))×Nat) (λg0=>[(33,.int .i64 (g0.1:Int))]) [(0,_),(4,_),(31,_),(32,_)] (λg0=>Ws w [] [ah Ga (bh st g0.2.1 g0.2.2)] [H]) (λg0=>g0.1<=l.length/\(∀o ∈ l.take g0.1,gw o=0)/\vE (eu l) g0.1 g0.2.1) (λg0=>l.length-g0.1) (0,[],0) ⟨Nat.zero_le _,by simp,vE.zero _⟩ (sc O (sc O (sc O (sc O (sc O sn))))) (λ_ h=>h) ?_;intro g0 ⟨du,bT,MW⟩;refine ad (V0 (bj O O) (ab (Cs ?_)));refine Cc O (λaw=>?_) (λaw=>?_)
 ·have av:g0.1<l.length:=by simpa using aw
  obtain ⟨o,ei⟩:∃q,l[g0.1]? = some q:=⟨_,List.getElem?_eq_getElem av⟩;obtain ⟨MX,MY,wW,sZ⟩:=hm.aS g0.1 o ei;obtain ⟨qo,wX,ek⟩:=sZ;have wY:=List.mem_of_getElem? ei;have MZ:=ek.ag.cap;have M0:=ek.ag.max;have M1:=ek.fix.cap;have M3:=ek.fix.max;have M4:=ek.code.cap;have M5:=ek.code.max;refine aE (Cs (Cb (ad (V0 (Yo mn O O wW av) (V0 (cJ 0 pM O O O (wX)) ?_)))));refine Al Y O sL λb6=>?_;refine an 0 Y O O O uQ O O O (ab (Cs (Cs (fg 0 (.cells (jj o qo).toArray 56 (0,0)) O O (Cr (V0 (bk 0 O O pM O) (Lp Y O adI O (λw hw=>adx H o qo w (hw.vs _ (by simp)) ek) (ae O (ab (ad ?_))))))))));refine aa O (V0 (eL O O) (ab ?_));refine Cc O (λaO=>?_) (λaO=>?_)
  ·have kT:¬gw o=0:=by simpa using aO
   have hE:=aiT h4 ei bT kT;refine ad (aa O (ae O (ae O (ab (aA (Er (bE (Er (Er (bE (Er ?_)))))))))));refine WE.gi O O O λw' hw=>?_;rw [Ih (by rw [hE]; exact kT),hE];exact ⟨(none,0),O,hw.fr,Sl.nil⟩
  have kT:gw o=0:=by simpa using aO
  refine aE (Cr (aa O (V0 (Yf H0 O) (V0 (Yd 0 O O O bW) (V0 (vh 1 ix iH dy me O O O) ?_)))));rw [MW.1 o.nm];refine V0 (mY O O (by have h9:((eu l).take g0.1).count o.nm<=((eu l).take g0.1).length:=List.count_le_length; rw [List.length_take,Ct] at h9; omega)) ?_;refine WL.rr 1 ix Y iH dy O O O O ?_;refine Ln (Eb (Et (Cr (V0 (Yi O O O (by omega)) (aa O (Ln ?_))))));exact Ea ((g0.1+1,_,_):Nat×List (cD (List UInt8))×Nat) (by show _-(g0.1+1)<_; omega) ⟨(by show g0.1+1<=_; omega),Xp ei bT kT,MW.step (Xt ei) _⟩ (sc O (sc O (sc O (sc O (sc O sn))))) (λ_ h=>Wd 1 h)
 have adX:g0.1=l.length:=by simp at aw; omega
 rw [adX,List.take_length] at bT;rw [adX,<-Ct l] at MW;have se:=MW.eA;refine Ce (Ex (Ex (bA (Et (Cs (ad (aa O (V0 (NS 0 iH O O) (aa O (V0 (Yn mn O) (V0 (bj O O) (ab ?_))))))))))));refine Cc O (λbd=>?_) (λbd=>?_)
 ·have yT:et (eu l)=true:=se.1 (by rw [Ct]; simp at bd; omega)
  have hE:jk l=6:=by rw [JJ h4 bT,if_pos yT]
  refine ad (ae O (ae O (ab (aA (Er ?_)))));refine WE.gi O O O λw' hw=>?_;rw [Ih (by rw [hE]; decide),hE];exact ⟨(none,0),O,hw.fr,Sl.nil⟩
 have yT:et (eu l)=false:=by
   cases ht:et (eu l) with
   | false=>rfl
   | true=>have:=se.2 ht; rw [Ct] at this; simp at bd; omega
 have j9:=nr.2 yT;have pX:=JJ h4 bT;rw [yT,if_neg (by decide)] at pX;refine aE (ad ?_);refine WL.oY st Y O λG4=>?_;refine ae O (ab (ad (aa O (V0 (Yn mn O) (V0 (Yi O O O (by omega)) (V0 (Yb Ii adW O O) ?_))))));refine Al Y O Ii λb9=>?_;refine an 0 Y O O O TK O O O (ab (ad (ae O (ab (Cs (Cs (fg 0 (.cells #[.int .i64 ((l.length:Int)+1),.int .i64 0,.slice none 0 0] 121 (0,0)) O O ?_)))))))
 have hk0:((l.length:Int)+1)=dI l 0:=by simp [dI,vB]
 rw [hk0];refine fg 0 (.cells #[.int .i64 (dI l 0),.int .i64 (gd l 0),.slice none 0 0] 121 (0,0)) O O ?_;refine xg (λ_ h=>h.eM 121 3) ?_;refine xg (λ_ h=>h.v0) ?_;refine Cr (aa O (V0 (Yn mn O) (aa O (ab (Cb ?_)))));refine cq (ι:=LGh) (λg=>[(60,.int .i64 (g.i:Int)),(10,.slice g.oa.1 g.es.length g.oa.2)]) [(0,_),(8,_),(9,_),(58,_),(59,_)] (λg=>Ws w [] [bt 121 3 jQ.cells g.oa.1 g.oa.2 g.es,ah G4 (bh st (f_ ((eu l).take g.i) 0) g.i),ah b9 (.cells #[.int .i64 (dI l g.i),.int .i64 (gd l g.i),.slice none 0 0] 121 (0,0))] [g.J,H]) (λg=>g.i<=l.length/\g.es.map (·.1)=(ow l).take g.i/\(ew w g.J/\Xs Bf g.J g.es)/\∀n o,n<g.i->l[n]? = some o->xV ((eu l).take n) o=true) (λg=>l.length-g.i) ⟨0,[],(none,0),v0⟩ ⟨Nat.zero_le _,O,⟨pW _,Xs.nil _⟩,λn o h=>absurd h (Nat.not_lt_zero _)⟩ (sc O (sc O (sc O (sc O (sc O (sc O (sc O sn))))))) (λ_ h=>by have h:=h.aX 1 O; have h:=h.aX 2 O; have h:=h.aX 2 O; have h:=Wt 3 h; have h:=Ws.bF h (a_:=[v0,H]) (by simp); exact h) ?_;intro g ⟨oP,lL,⟨yU,hX⟩,adY⟩;refine ad (V0 (bj O O) (ab (Cs ?_)));refine Cc O (λbC=>?_) (λbC=>?_)
 ·have av:g.i<l.length:=by simpa using bC
  obtain ⟨o,ei⟩:∃q,l[g.i]? = some q:=⟨_,List.getElem?_eq_getElem av⟩;obtain ⟨MX,MY,wW,sZ⟩:=hm.aS g.i o ei;obtain ⟨qo,wX,ek⟩:=sZ;have wY:=List.mem_of_getElem? ei;have MZ:=ek.ag.cap;have M0:=ek.ag.max;have M1:=ek.fix.cap;have M3:=ek.fix.max;have M4:=ek.code.cap;have M5:=ek.code.max;have kT:=bT o wY;have oA:=Cn kT;have hou:=oA.ag;have adZ:=oA.code;have aA3:=Xz kT;have M6:=Xt ei;have hnt:=aim j9 M6
  have M7:((eu l).take g.i).length=g.i:=by rw [List.length_take,Ct]; omega
  have hNS:(eu l).take (g.i+1)=((eu l).take g.i)++[o.nm]:=by rw [List.take_add_one,M6]; rfl
  have hcK:=JK h4 bT (k:=g.i) (by omega);have hdK:=JL h4 bT (k:=g.i) (by omega)
  have nq:g.es.length=g.i:=by rw [<-List.length_map,lL,List.length_take,xW]; omega
  refine aE (Cs (Cb (ad (aa O (V0 (Yo mn O O wW av) (V0 (cJ 1 pM O O O (wX)) ?_))))));refine Al Y O sL λDi=>?_;refine ae O (an 0 Y O O O uQ O O O (ab (Cs (fg 0 (.cells (jj o qo).toArray 56 (0,0)) O O (Cr (V0 (Yf yR O) (V0 (Yd 3 O O O ar) (V0 (Yf DX O) ?_))))))));refine V0 (Yd 3 O O O ar) (aa O ?_);refine Lb Y O iZ O O O O λTm=>?_;refine bL 0 (.cells ((([g.i]:List Nat)).flatMap p8).toArray 3 (0,0)) O O (LW (λ_ h=>h.s9 (f:=p8) (xs:=([g.i]:List Nat)) (c:=1) 0 O Pd O (by decide)) (V0 (Yb Ii adW O O) ?_));refine Al Y O Ii λj4=>?_;refine an 0 Y O O O TK O O O (ab (Cs (ad (V0 (Yf Bc O) (V0 (Yd 2 O O O eE) (V0 (Yn cz O) (aa O (ab (Cb ?_)))))))));refine cq (ι:=Nat×SP) (λqq=>[(75,.int .i64 (qq.1:Int))]) [(0,_),(8,_),(9,_),(10,_),(11,_),(12,_),(13,_),(58,_),(59,_),(60,_),(73,_),(74,_)] (λqq=>Ws w [] [bt 3 1 p8 qq.2.1 qq.2.2 (g.i::(o.ag.take qq.1).map (vC ((eu l).take g.i))),ah j4 (.cells #[.int .i64 (dI l g.i),.int .i64 (gd l g.i),.slice qq.2.1 (g.i::(o.ag.take qq.1).map (vC ((eu l).take g.i))).length qq.2.2] 121 (0,0)),ah Di (.cells (jj o qo).toArray 56 (0,0)),bt 121 3 jQ.cells g.oa.1 g.oa.2 g.es,ah G4 (bh st (f_ ((eu l).take g.i) 0) g.i),ah b9 (.cells #[.int .i64 (dI l g.i),.int .i64 (gd l g.i),.slice none 0 0] 121 (0,0))] [g.J,H]) (λqq=>qq.1<=o.ag.length/\((o.ag.take qq.1).all λs=>(idxOf s ((eu l).take g.i) 0).isSome)=true) (λqq=>o.ag.length-qq.1) (0,(some ⟨Tm,0,none⟩,1)) ⟨Nat.zero_le _,O⟩ (sc O (sc O (sc O (sc O (sc O (sc O (sc O (sc O (sc O (sc O (sc O (sc O (sc O sn))))))))))))) (λ_ h=>by exact ((((((h.f 5 O).f 5 O).f 5 O).f 5 O).f 4 O).f 5 O:)) ?_;intro qq ⟨hq,eK⟩;refine ad (V0 (bj O O) (ab (Cs ?_)));refine Cc O (λcU=>?_) (λcU=>?_)
  ·have av:qq.1<o.ag.length:=by simpa using cU
   obtain ⟨s,fp⟩:∃q,o.ag[qq.1]? = some q:=⟨_,List.getElem?_eq_getElem av⟩;obtain ⟨pJ,pos,has,gY⟩:=ek.ag.aS qq.1 s fp;have gY:aR H pJ (pos+qq.1*1) (cM s):=gY;refine aE (Cs (Cb (ad (V0 (Yo cz O O has av) (V0 (bo 1 bW O O (gY 0 _ O)) (ae O (ab (ad (aa O (aa O (V0 (I8 4 ix iH dy me O O O) ?_)))))))))));rw [(E' _ _).1,(E' _ _).2];refine aa O (V0 (Yx O O) (V0 (Yx O O) (ae O (ae O (ab (Cs (ad (aa O (V0 (dK O) ?_)))))))));refine ab ?_;refine Cc O (λdb=>?_) (λdb=>?_)
   ·have e_:(idxOf s ((eu l).take g.i) 0).isSome=false:=by simpa using db
    have hE:jk l=9:=by
      rw [pX,if_pos (Pq ei ?_)];rw [Bool.not_eq_true',xV,List.all_eq_false];exact ⟨s,List.mem_of_getElem? fp,by rw [e_]; decide⟩
    refine ad (ae O (ae O (ab (aA (Er (bE (Er (Er (bE (Er (bE (Er (Er (bE (Er ?_)))))))))))))));refine WE.gi O O O λw' hw=>?_;rw [Ih (by rw [hE]; decide),hE];exact ⟨(none,0),O,hw.fr,Sl.nil⟩
   have z_:(idxOf s ((eu l).take g.i) 0).isSome=true:=by simpa using db
   refine aE (Cr (V0 (Yf MU O) (V0 (Yd 1 O O O nQ) (aa O ?_))));refine Lb Y O iZ O O O O λb90=>?_;refine bL 0 (.cells (p8 (vC ((eu l).take g.i) s)).toArray 3 (0,0)) O (O) ?_;refine LA (vC ((eu l).take g.i) s) 1 0 Y O iZ O O O O O O (by simp; omega) (by simp; omega) λa91 c91=>?_;rw [show (g.i::(o.ag.take qq.1).map (vC ((eu l).take g.i)))++[vC ((eu l).take g.i) s]=(g.i::(o.ag.take (qq.1+1)).map (vC ((eu l).take g.i))) by rw [List.take_add_one,fp]; simp];refine V0 (Yf MU O) (an 2 Y O O O Hx O O O (Ln (Eb (Et (Cr (V0 (Yi O O O (by omega)) (aa O (Ln ?_))))))));exact Ea ((qq.1+1,(a91,c91)):Nat×SP) (by show _-(qq.1+1)<_; omega) ⟨(by show qq.1+1<=_; omega),E7 fp eK z_⟩ (sc O (sc O (sc O (sc O (sc O (sc O (sc O (sc O (sc O (sc O (sc O (sc O (sc O sn))))))))))))) (λ_ h=>Wd 1 h)
  have ZI:qq.1=o.ag.length:=by simp at cU; omega
  refine Ce (Ex (Ex (bA (Et (Cs ?_)))));have vP:qq.1=o.ag.length:=ZI;rw [vP,List.take_length] at eK ⊢;refine WC.o3 (rd:=tw) 0 O (by simp) Pd (λ_ _ _ _ h=>h) λLD adv G1=>?_;refine WC.jd λJ1 Bg Bh Bi=>?_;refine Cr (aa O (V0 (Yf H0 O) (V0 (Yd 1 O O O bW) (aa O ?_))));refine WL.rr 3 ix Y iH dy O O O O ?_;refine ab (Cs ?_);rw [(W8 hnt M7).1,(W8 hnt M7).2,<-hNS];refine Cr (V0 (Yf yR O) (V0 (Yd 4 O O O ar) (V0 (Yf mV O) (V0 (Yd 1 O O O kb) (V0 (Yn kf O) (V0 (mY O O (by omega)) (V0 (Yf yR O) ?_)))))));refine an 4 Y O O O di O O O (ab (Cs ?_));rw [<-Ps ei];refine Cr (V0 (Yf DX O) (V0 (Yd 4 O O O ar) (V0 (Yf MH O) (V0 (Yd 1 O O O ar) (V0 (mY O O (by omega)) (V0 (Yf DX O) (an 4 Y O O O di O O O ?_)))))));refine ab ?_;rw [<-aiW ei];refine Cr (aa O (V0 (bk 0 O O TL O) ?_));refine Lb Y O MV O O O O λaA5=>?_;refine bL 0 (.cells (jQ.cells (rZ l g.i o,qq.2)).toArray 121 (0,0)) O (O) ?_;refine LA (((rZ l g.i o,qq.2):jQ)) 3 0 Y O MV O O O O O O (by omega) (by omega) λauK auL=>?_;refine ae O (Ln (Eb (Et (Cr (V0 (Yi O O O (by omega)) (aa O (Ln ?_)))))))
  exact Ea (⟨g.i+1,g.es++[(rZ l g.i o,qq.2)],(auK,auL),J1⟩:LGh) (by show _-(g.i+1)<_; omega) ⟨by show g.i+1<=_; omega,by show (g.es++[(rZ l g.i o,qq.2)]).map (·.1)=_; rw [List.map_append,lL,aiX ei]; rfl,⟨Bi _ adv yU,Xs.snoc (R:=Bf) (λhv h=>TJ hv h) hX Bh Bg G1⟩,λn o9 hn h9=>by
      rcases Nat.lt_succ_iff_lt_or_eq.1 hn with h | h
      · exact adY n o9 h h9
      · subst h; rw [ei] at h9; injection h9 with h9; subst h9; exact eK⟩ (sc rfl (sc rfl (sc rfl (sc rfl (sc rfl (sc rfl (sc rfl sn))))))) (λ_ h=>Wd 3 h)
 have bP:g.i=l.length:=by simp at bC; omega
 rw [bP,auF] at lL;rw [bP]
 have nq:g.es.length=l.length:=by rw [<-List.length_map,lL,xW]
 have ad3:∀n o,l[n]? = some o->xV ((eu l).take n) o=true:=λn o hn=>adY n o (by have:=(List.getElem?_eq_some_iff.1 hn).1; omega) hn;rw [JI (λn o hn=>by rw [ad3 n o hn]; rfl),if_neg (by decide)] at pX;refine Ce (Ex (Ex (bA (Et (Cs (Cs ?_))))));refine WC.BJ 0 O (by show 0<g.es.length; omega) λcb nR sJ xl=>?_;refine Cr (aa O (V0 (Yn mn O) (aa O (ab (Cb ?_)))));refine cq (ι:=Nat) (λj=>[(118,.int .i64 (j:Int))]) [(0,_),(9,_),(10,_),(116,_),(117,_)] (λj=>Ws w [] [bt 121 3 jQ.cells g.oa.1 g.oa.2 g.es,ah G4 (bh st (f_ ((eu l).take l.length) 0) l.length),ah b9 (.cells #[.int .i64 (dI l l.length),.int .i64 (gd l l.length),.slice none 0 0] 121 (0,0))] [g.J,H]) (λj=>j<=l.length/\∀n o,n<j->l[n]? = some o->∀f ∈ o.fix,tJ l n o f=false) (λj=>l.length-j) 0 ⟨Nat.zero_le _,λn o h=>absurd h (Nat.not_lt_zero _)⟩ (sc O (sc O (sc O (sc O (sc O (sc O sn)))))) (λ_ h=>h) ?_;intro j ⟨hj,Mx⟩;refine ad (V0 (bj O O) (ab (Cs ?_)));refine Cc O (λej=>?_) (λej=>?_)
 ·have Bj:j<l.length:=by simpa using ej
  obtain ⟨o,ei⟩:∃q,l[j]? = some q:=⟨_,List.getElem?_eq_getElem Bj⟩;obtain ⟨MX,MY,wW,sZ⟩:=hm.aS j o ei;obtain ⟨qo,wX,ek⟩:=sZ;have wY:=List.mem_of_getElem? ei;have MZ:=ek.ag.cap;have M0:=ek.ag.max;have M1:=ek.fix.cap;have M3:=ek.fix.max;have M4:=ek.code.cap;have M5:=ek.code.max;have kT:=bT o wY;have aJ:=(Cm kT).2;have oA:=Cn kT;have adZ:=oA.code;refine aE (Cs (Cb (ad (aa O (V0 (Yo mn O O wW Bj) (V0 (cJ 1 pM O O O (wX)) ?_))))));refine Al Y O sL λC2=>?_;refine ae O (an 0 Y O O O uQ O O O (ab (Cs (fg 0 (.cells (jj o qo).toArray 56 (0,0)) O O (Cr (V0 (Yf AX O) (V0 (Yd 0 O O O DK) (V0 (Yn wT O) ?_))))))));refine aa O (ab (Cb ?_));refine cq (ι:=Nat) (λk=>[(126,.int .i64 (k:Int))]) [(0,_),(9,_),(10,_),(18,_),(19,_),(116,_),(117,_),(118,_),(124,_),(125,_)] (λk=>Ws w [] [ah C2 (.cells (jj o qo).toArray 56 (0,0)),bt 121 3 jQ.cells g.oa.1 g.oa.2 g.es,ah G4 (bh st (f_ ((eu l).take l.length) 0) l.length),ah b9 (.cells #[.int .i64 (dI l l.length),.int .i64 (gd l l.length),.slice none 0 0] 121 (0,0))] [g.J,H]) (λk=>k<=o.fix.length/\∀f ∈ o.fix.take k,tJ l j o f=false) (λk=>o.fix.length-k) 0 ⟨Nat.zero_le _,by simp⟩ (sc O (sc O (sc O (sc O (sc O (sc O (sc O (sc O (sc O (sc O (sc O sn))))))))))) (λ_ h=>h) ?_;intro k ⟨hk,TM⟩;refine ad (V0 (bj O O) (ab (Cs ?_)));refine Cc O (λiY=>?_) (λiY=>?_)
  ·have av:k<o.fix.length:=by simpa using iY
   obtain ⟨x,bn⟩:∃q,o.fix[k]? = some q:=⟨_,List.getElem?_eq_getElem av⟩;obtain ⟨dW,dX,dZ,cg⟩:=ek.fix.aS k x bn;have cg:aR H dW (dX+k*3) x.cells:=cg;refine aE (Cs (Cb (ad (V0 (Yo wT O O dZ av) (V0 (cJ 1 MJ O O O (cg)) ?_)))));refine Al Y O Hz λb21=>?_;refine an 0 Y O O O MK O O O (ab (Cs (fg 0 (.cells (x.cells).toArray 112 (0,0)) O O ?_)));refine WC.nc [(0,true),(1,true),(2,true),(3,true),(4,true),(5,true),(6,true),(7,true),(8,true),(9,true),(10,true),(11,true),(12,true),(13,true),(14,true),(15,true),(16,true),(17,true),(18,true),(19,true),(20,true),(21,true),(22,true),(23,true),(24,true),(25,true),(26,true)] mixed (by kernel_rfl) (λ_ _ _ d _ h=>by cases d<;>exact h) ?_;refine D0 O (λ_ h=>h) (Yf ML O) (D0 O (λ_ h=>h) (Yd 0 O O O ar) (D0 O (λ_ h=>h) (aW O O) (D0 O (λ_ h=>h) (Ym O) ?_)));apply WD.and 22 (x:=decide ((Cq l (gI l j o x.m):Int)<=l5 o.code x.at_)) O O O O O Y O (λ_ h=>h) O O O O
   ·intro eh
    have e7:x.kind=2:=by simpa using eh
    have Ij:=aJ.fix x (List.mem_of_getElem? bn);obtain ⟨p,Tu,iT⟩:=vz Ij.1
    have sM:x.at_.toNat=p:=by omega
    obtain ⟨y,bK⟩:∃y,o.code[p]? = some y:=⟨_,List.getElem?_eq_getElem iT⟩;obtain ⟨jK,jL,eX,cV⟩:=ek.code.aS p y bK;have cV:aR H jK (jL+p*3) y.cells:=cV;rw [<-sM] at cV;have wU:=adH sM bK
    have hrA:vc H jK (jL+x.at_.toNat*3+1)=some (.int .i64 (l5 o.code x.at_)):=by
      rw [wU];exact cV 1 _ O
    obtain ⟨Ik,hA1,TN,TO⟩:=auG Ij.2 e7;obtain ⟨TP,Il⟩:=XB Bj (ad3 j o ei) TN TO;obtain ⟨e,TQ⟩:∃e,g.es[j]? = some e:=⟨_,List.getElem?_eq_getElem (by omega)⟩
    have Tt:e.1=rZ l j o:=by
      have h8:(g.es.map (·.1))[j]? = some e.1:=by rw [List.getElem?_map,TQ]; rfl
      rw [lL,Pt ei] at h8
      injection h8 with h8
      exact h8.symm
    have TR:Sl tw 1 g.J e.2.1 e.2.2 (qc l j o):=by
      have h8:=hX e (List.mem_of_getElem? TQ);unfold Bf at h8;rw [Tt] at h8;exact h8
    have aA6:=TR.cap;have aA7:=TR.max;have TS:=Pv l j o;have auN:(rZ l j o).vr.length=o.ag.length+1:=TS;obtain ⟨Im,Io,Bk,sN⟩:=TR.aS x.m.toNat _ TP;have sN:aR g.J Im (Io+x.m.toNat*1) (p8 (gI l j o x.m)):=sN;obtain ⟨o2,uL⟩:∃o2,l[gI l j o x.m]? = some o2:=⟨_,List.getElem?_eq_getElem Il⟩;obtain ⟨pb2,po2,gk,q2,FT,M8⟩:=hm.aS _ o2 uL
    have TT:Cq l (gI l j o x.m)=o2.bU.length:=by unfold Cq; rw [uL]; rfl
    refine Dq O (.g O O O) O (λ_ h=>h) (Yf mV O) (Dq O (.g O O O) O (λ_ h=>h) (Yd 1 O O O kb) (Dq O (.g O O O) O (λ_ h=>h) (Yf Bd O) (Dq O (.g O O O) O (λ_ h=>h) (Yd 0 O O O ar) (Dq O (.g O O O) O (λ_ h=>h) (Eo kf O O eX (by omega) (by omega)) (Dq O (.g O O O) O (λ_ h=>h) (Yf HC O) (Dq O (.g O O O) O (λ_ h=>h) (bo 1 ar O O (hrA)) (Dq O (.g O O O) O (λ_ h=>h) (Ym O) ?_)))))));refine Dq O (.g O O O) O (λ_ h=>h) (Ym O) (Dq O (.g O O O) O (λ_ h=>h) (Ym O) (Dq O (.g O O O) O (λ_ h=>h) (Yo yS O O nR (by omega)) (Dq O (.g O O O) O (λ_ h=>h) (Yf MU O) (Dq O (.g O O O) O (λ_ h=>h) (xz (y:=e) 2 j 2 O O nR O jQ.bq TQ (by rw [show jQ.cells e=MT e.1 e.2 from O,Tt]; rfl) nQ) (Dq O (.g O O O) O (λ_ h=>h) (Yf yO O) (Dq O (.g O O O) O (λ_ h=>h) (Yd 0 O O O ar) (Dq O (.g O O O) O (λ_ h=>h) (Eo iX O O Bk (by omega) (by omega)) ?_)))))));refine Dq O (.g O O O) O (λ_ h=>h) (bo 0 ar O O (sN 0 _ O)) (Dq O (.g O O O) O (λ_ h=>h) (Yo mn O O gk Il) (Dq O (.g O O O) O (λ_ h=>h) (Yf uR O) (Dq O (.g O O O) O (λ_ h=>h) (bo 1 nQ O O (FT 5 _ O)) (Dq O (.g O O O) O (λ_ h=>h) (Yn iX O) ?_))));rw [<-TT];refine Dq O (.g O O O) O (λ_ h=>h) (fm O O) ?_;exact Gi 22 (λ_ h=>h) O O O
   refine WD.nil (λ_ h=>h) ?_;refine Et ?_;refine Cc O (λj_=>?_) (λj_=>?_)
   ·have CX:tJ l j o x=true:=j_
    have hE:jk l=5:=by
      rw [pX,if_pos (Pq (p:=λn o=>o.fix.any (tJ l n o)) ei ?_)];rw [List.any_eq_true];exact ⟨x,List.mem_of_getElem? bn,CX⟩
    refine ad (ae O (ae O (ab (aA (bE (Er (Er (bE (bE (Er (Er (bE (Er ?_)))))))))))));refine WE.gi O O O λw' hw=>?_;rw [Ih (by rw [hE]; decide),hE];exact ⟨(none,0),O,hw.fr,Sl.nil⟩
   have CX:tJ l j o x=false:=j_;refine Ck (Eb (Et (Cr (V0 (Yi O O O (by omega)) (aa O (Ln ?_))))));exact Ea (k+1) (by omega) ⟨by omega,Xp bn TM CX⟩ (sc O (sc O (sc O (sc O (sc O (sc O (sc O (sc O (sc O (sc O (sc O sn))))))))))) (λ_ h=>Wd 1 h)
  have auQ:k=o.fix.length:=by simp at iY; omega
  rw [auQ,List.take_length] at TM;refine Ce (Ex (Ex (bA (Eb (Et (Cr (V0 (Yi O O O (by omega)) (aa O (Ln ?_)))))))))
  exact Ea (j+1) (by omega) ⟨by omega,λn o9 hn h9=>by
      rcases Nat.lt_succ_iff_lt_or_eq.1 hn with h | h
      · exact Mx n o9 h h9
      · subst h; rw [ei] at h9; injection h9 with h9; subst h9; exact TM⟩ (sc rfl (sc rfl (sc rfl (sc rfl (sc rfl (sc rfl sn)))))) (λ_ h=>Wd 1 h)
 have aA8:j=l.length:=by simp at ej; omega
 have hE:jk l=0:=by
   rw [pX,JI (λn o hn=>?_),if_neg (by decide)];rw [List.any_eq_false];intro f hf;rw [Mx n o (by have:=(List.getElem?_eq_some_iff.1 hn).1; omega) hn f hf]
   decide
 refine Ce (Ex (Ex (bA (Et (ad (aa O (V0 (bk 2 O O TL O) ?_)))))));refine Lb Y O MV O O O O λaA9=>?_;refine bL 0 (.cells (jQ.cells (tH l,((none,0):SP))).toArray 121 (0,0)) O (O) ?_;refine LA (((tH l,(none,0)):jQ)) 1 0 Y O MV O O O O O O (by omega) (by omega) λa162 c162=>?_;refine ae O (ae O (ab (aA ?_)));refine WE.gi O O O λw' hw=>?_
 have TU:yQ l=(g.es++[(tH l,((none,0):SP))]).map (·.1):=by rw [yQ,if_pos hE,List.map_append,lL]; rfl
 rw [hE,TU];have hT:=hw.kS (rd:=adT) 1 rfl jQ.bq (λ_ _ _ _ h=>h);exact ⟨(a162,c162),by rw [List.length_map],hw.fr,auE (J:=g.J) hT (λ_ _ h=>h) (bN hw (by simp) yU) (Xs.snoc (R:=Bf) (λhv h=>TJ hv h) hX (λ_ _ h=>h) (λ_ _ h=>h) Sl.nil)⟩
theorem aU.auR (x:aU):x.cells.all (·.oneCell')=true:=rfl
theorem auS {l:List aP} (h:¬jk l=0):qf l=(([],0),jk l):=by rw [qf,if_pos h]
theorem auT {l:List aP} (h:jk l=0) (h2:2048<dI l l.length\/512<gd l l.length):qf l=(([],0),2):=by rw [qf,if_neg (λe=>e h),if_pos h2]
theorem auU {l:List aP} (h:jk l=0) (h2:¬(2048<dI l l.length\/512<gd l l.length)):qf l=((XC l,gd l l.length),0):=by rw [qf,if_neg (λe=>e h),if_neg h2]
theorem auV {U n:Nat} {k m a:Int} (h:kA U n k m a=true):(k=1\/k=2\/k=3)/\0<=a/\a<=2048/\0<=m/\m<=(U:Int):=by
 unfold kA at h
 split at h
 · simp only [Bool.and_eq_true,decide_eq_true_eq,beq_iff_eq] at h
   omega
 · split at h
   · simp only [Bool.and_eq_true,decide_eq_true_eq] at h
     omega
   · cases h
theorem auW (l:List aP):(qd l).take l.length=qd l:=List.take_of_length_le (by rw [JP]; exact Nat.le_refl _)
theorem auX (l:List aP):qd l++[(⟨20,0,0⟩:aU)]=gf l 0:=by unfold gf; rw [XF,List.append_nil]
theorem ad5 {l:List aP} {i:Nat} {o:aP} (h:l[i]? = some o):dI l i+(o.code.length:Int)<=dI l l.length:=by
 rw [<-Ps h];have hi:=(List.getElem?_eq_some_iff.1 h).1
 have hm:∀k,i+1+k<=l.length->dI l (i+1)<=dI l (i+1+k):=λk=>by
   induction k with
   | zero=>intro _; exact Int.le_refl _
   | succ k ih=>
     intro hk;obtain ⟨q,hq⟩:∃q,l[i+1+k]? = some q:=⟨_,List.getElem?_eq_getElem (by omega)⟩;have:=ih (by omega);have h2:=Ps hq
     show dI l (i+1)<=dI l (i+1+k+1)
     omega
 have:=hm (l.length-(i+1)) (by omega)
 rwa [show i+1+(l.length-(i+1))=l.length by omega] at this
theorem sO:zeroOf Tryz.prog 33=some (.agg #[.slice none 0 0,.int .i64 0]):=by kernel_rfl
theorem auY:Enters Tryz.prog 63:=enters_of Tryz.func63 (by kernel_rfl) rfl
theorem Ip:fo Tryz.prog 33=some [(0,1),(1,1)]:=by kernel_rfl
theorem u4:cC Tryz.prog 33=some 2:=by kernel_rfl
theorem wZ:gj Tryz.prog 33=some 2:=by kernel_rfl
theorem w_:bw Tryz.prog 33 0=some 0:=by kernel_rfl
theorem auZ (H:View) (a:Option Addr) (c:Nat) (l:List aP) (w:World) (hH:Le H w) (hm:Sl Ig 7 H a c l) :
   Calls Tryz.prog 20 #[.slice a l.length c] w λe w'=>∃q:SP,e = .returned (.tuple #[.agg #[.slice q.1 (qf l).1.1.length q.2,.int .i64 (qf l).1.2],.int .i64 (qf l).2])/\Ext w w'/\Sl fK 3 (nv w w') q.1 q.2 (qf l).1.1:=by
 have dR:=hm.cap;have eQ:=hm.max;refine enter Tryz.func20 O 160 O O ?_;refine CE (Vs:=[H]) (Ws.init (by simp [hH])) (ad ?_);refine Al Y O sO λb2=>?_;refine ae O (ab (ad (aa O ?_)));refine Ld Y O auY O (λq:SP=>.tuple #[.slice q.1 (yQ l).length q.2,.int .i64 (jk l)]) (λF q=>Sl adU 3 F q.1 q.2 (yQ l)) (λw hw=>auH H a c l w (hw.vs _ (by simp)) hm) ?_;intro um qI Gy qQ;refine aa O (V0 (Yx O O) (V0 (Yx O O) (ae O (ae O (ab (Cs (ad (aa O (V0 (eL O O) ?_)))))))));refine ab ?_;refine Cc O (λai=>?_) (λai=>?_)
 ·have hE:¬jk l=0:=by simpa using ai
  refine ad (V0 (Yb sO Ip O O) (aa O (an 0 Y O O O u4 O O O (ae O (ab (aA (Er ?_)))))));refine WE.dA (eZ O (cZ 0 O O wZ O) (gC O)) λw' hw=>?_;rw [auS hE];exact ⟨(none,0),O,hw.fr,Sl.nil⟩
 have hE:jk l=0:=by simpa using ai
 have aJ:=aiV.1 hE
 have TU:yQ l=ow l++[tH l]:=by rw [yQ,if_pos hE]
 rw [TU] at qQ ⊢;have aA':=qQ.cap;have aa0:=qQ.max;have iT:=xW l;have se:=aJ.eA;obtain ⟨pbe,poe,hae,qe,au1,aBb⟩:=qQ.aS l.length _ (aiY l)
 have hll:(ow l++[tH l]).length=l.length+1:=by simp [xW]
 refine aE (ad (aa O (aa O (V0 (Yn mn O) (V0 (Yo (i:=l.length) yS O O hae (by omega)) (V0 (cJ 0 TL O O O (au1)) ?_))))));refine Al Y O Ii λb6=>?_;refine an 0 Y O O O TK O O O (ab (Cs (Cs (fg 0 (.cells (MT (tH l) qe).toArray 121 (0,0)) O O (Cr (V0 (Yf yR O) (V0 (Yd 0 O O O ar) (V0 (cI O O) (aa O ?_)))))))));apply Lo 3 O O O O Y O O O O O
 ·intro du;refine Vg (Yf DX O) (Vg (Yd 0 O O O ar) (Vg (cI O O) ?_));exact Gt 3 O O O
 refine ab ?_;refine Cc O (λaw=>?_) (λaw=>?_)
 ·have h2:2048<dI l l.length\/512<gd l l.length:=by
    have h9:=aw;simp only [Bool.or_eq_true,decide_eq_true_eq] at h9;exact h9
  refine ad (V0 (Yb sO Ip O O) (an 1 Y O O O u4 O O O (ae O (ab (aA (Er ?_))))));refine WE.dA (eZ O (cZ 1 O O wZ O) (gC O)) λw' hw=>?_;rw [auT hE h2];exact ⟨(none,0),O,hw.fr,Sl.nil⟩
 have h2:¬(2048<dI l l.length\/512<gd l l.length):=by
   have h9:=aw;simp only [Bool.or_eq_false_iff,decide_eq_false_iff_not] at h9;exact λh=>h.elim h9.1 h9.2
 refine aE (ad (V0 (Yf DX O) (V0 (Yd 0 O O O ar) (V0 (Yb sO Ip O O) ?_))));refine Al Y O sO λb7=>?_;refine an 0 Y O O O u4 O O O (ab (Cs (Cs (fg 0 (.cells #[.slice none 0 0,.int .i64 (gd l l.length)] 33 (0,0)) O O ?_))));refine xg (λ_ h=>h.eM 108 3) ?_;refine Cr (aa O (V0 (Yn mn O) (aa O (ab (Cb ?_)))));refine cq (ι:=Nat×SP) (λg=>[(44,.int .i64 (g.1:Int))]) [(0,_),(2,_),(3,_),(4,_),(7,_),(42,_),(43,_)] (λg=>Ws w [] [bt 108 3 aU.cells g.2.1 g.2.2 ((qd l).take g.1),ah b7 (.cells #[.slice g.2.1 ((qd l).take g.1).length g.2.2,.int .i64 (gd l l.length)] 33 (0,0)),ah b2 (.cells #[.slice none 0 0,.int .i64 0] 33 (0,0))] [um,H]) (λg=>g.1<=l.length) (λg=>l.length-g.1) (0,(none,0)) (Nat.zero_le _) (sc O (sc O (sc O (sc O (sc O (sc O (sc O (sc O sn)))))))) (λ_ h=>(Wt 3 (((h.f 3 O).f 2 O).f 2 O):)) ?_;intro g hg;refine ad (V0 (bj O O) (ab (Cs ?_)));refine Cc O (λaO=>?_) (λaO=>?_)
 ·have av:g.1<l.length:=by simpa using aO
  obtain ⟨o,ei⟩:∃q,l[g.1]? = some q:=⟨_,List.getElem?_eq_getElem av⟩;obtain ⟨MX,MY,wW,sZ⟩:=hm.aS g.1 o ei;obtain ⟨qo,wX,ek⟩:=sZ;have wY:=List.mem_of_getElem? ei;have MZ:=ek.ag.cap;have M0:=ek.ag.max;have M1:=ek.fix.cap;have M3:=ek.fix.max;have M4:=ek.code.cap;have M5:=ek.code.max;obtain ⟨zV,pop,m_,qp,M9,M'⟩:=qQ.aS g.1 _ (Pu ei);have M_:vc um zV (pop+g.1*3+0)=some (.int .i64 (dI l g.1)):=M9 0 _ rfl;have hcK:=JK aJ.eA aJ.r3 (k:=g.1) (by omega);have hdK:=JL aJ.eA aJ.r3 (k:=g.1) (by omega);have xl:=ad5 ei;have hmn:=(Cm (aJ.r3 o wY)).2.main;obtain ⟨pm,hpm,aBd⟩:=vz hmn
  have hhl:((qd l).take g.1).length=g.1:=by rw [List.length_take,JP]; omega
  refine aE (Cs (Cb (ad (aa O (V0 (Yo mn O O wW av) (V0 (cJ 1 pM O O O (wX)) ?_))))));refine Al Y O sL λb9=>?_;refine ae O (an 0 Y O O O uQ O O O (ab (fg 0 (.cells (jj o qo).toArray 56 (0,0)) O O ?_)));refine CU (λ_=>true) [1] [13,14] (.q false 0 (.q true 1 (.q false 2 (.q false 3 (.q false 4 (.q false 5 (.q true 6 (.q false 7 (.q true 8 (.q false 9 (.q false 10 (.e 11 (.e 12 .nil .stop) .stop)))))))))))) mixed (by kernel_rfl) (λ_ _ _ d _ _ h=>by cases d<;>exact h) ?_;refine U0 O (Wp 1) (Yf w_ O) (U0 O (Wp 1) (Yd 1 O O O kb) (U0 O (Wp 1) (Ym O) (U0 O (Wp 1) (Ym O) (U0 O (Wp 1) (Yo yS O O m_ (by omega)) (U0 O (Wp 1) (Yf yR O) (U0 O (Wp 1) (bo 0 ar O O (M_)) (U0 O (Wp 1) (Yf HR O) ?_)))))));refine U0 O (Wp 1) (Yd 0 O O O ar) (U0 O (Wp 1) (mY O O (by omega)) (U0 O (Wp 1) (Yb gA g_ O O) ?_));refine Ue O (Wp 1) ?_ WU.stop;refine Lb Y O iL O O O O λb60=>?_;refine bL 0 (.cells (aU.cells ⟨13,dI l g.1+o.main,0⟩).toArray 108 (0,0)) O (O) (Ln (Eu ?_));refine Ue O (λ_ h=>(Wo 1 (Wd 1 h):)) ?_ WU.stop;refine LA ((⟨13,dI l g.1+o.main,0⟩:aU)) 2 0 Y O iL O O O O O O (by omega) (by omega) λa61 c61=>?_;rw [<-ai4 ei];refine Ln (Eu ?_);refine WU.nil (λ_ h=>(Wo 1 (Wd 1 h):)) ?_;refine WS.e O ?_;refine V0 (Yf w_ O) (Ln (Es ?_));refine WS.e O ?_;refine an 3 Y O O O MC O O O (Ln (Es ?_));refine WS.nil ?_;refine Eb (Et (Cr (V0 (Yi O O O (by omega)) (aa O (Ln ?_)))));exact Ea ((g.1+1,(a61,c61)):Nat×SP) (by show _-(g.1+1)<_; omega) (by show g.1+1<=_; omega) (sc O (sc O (sc O (sc O (sc O (sc O (sc O (sc O sn)))))))) (λ_ h=>Wd 2 h)
 have vP:g.1=l.length:=by simp at aO; omega
 rw [vP,auW];have hhl:=JP l;refine Ce (Ex (Ex (bA (Et (ad (V0 (Yf w_ O) (V0 (Yd 1 O O O kb) (V0 (Yb gA g_ O O) ?_))))))));refine Lb Y O iL O O O O λb67=>?_;refine bL 0 (.cells (aU.cells ⟨20,0,0⟩).toArray 108 (0,0)) O (O) ?_;refine LA ((⟨20,0,0⟩:aU)) 1 0 Y O iL O O O O O O (by omega) (by omega) λa68 c68=>?_;rw [auX];refine V0 (Yf w_ O) (an 2 Y O O O MC O O O (ab (Cs (ad (aa O (V0 (Yn mn O) (aa O (ab (Cb ?_)))))))));refine cq (ι:=Nat×SP) (λe=>[(72,.int .i64 (e.1:Int))]) [(0,_),(2,_),(3,_),(4,_),(7,_),(70,_),(71,_)] (λe=>Ws w [] [bt 108 3 aU.cells e.2.1 e.2.2 (gf l e.1),ah b7 (.cells #[.slice e.2.1 (gf l e.1).length e.2.2,.int .i64 (gd l l.length)] 33 (0,0)),ah b2 (.cells #[.slice none 0 0,.int .i64 0] 33 (0,0))] [um,H]) (λe=>e.1<=l.length) (λe=>l.length-e.1) (0,(a68,c68)) (Nat.zero_le _) (sc O (sc O (sc O (sc O (sc O (sc O (sc O (sc O sn)))))))) (λ_ h=>(Wt 3 (((h.f 3 O).f 3 O).f 3 O):)) ?_;intro e he;refine ad (V0 (bj O O) (ab (Cs ?_)));refine Cc O (λbd=>?_) (λbd=>?_)
 ·have Bj:e.1<l.length:=by simpa using bd
  obtain ⟨o,ei⟩:∃q,l[e.1]? = some q:=⟨_,List.getElem?_eq_getElem Bj⟩;obtain ⟨MX,MY,wW,sZ⟩:=hm.aS e.1 o ei;obtain ⟨qo,wX,ek⟩:=sZ;have wY:=List.mem_of_getElem? ei;have MZ:=ek.ag.cap;have M0:=ek.ag.max;have M1:=ek.fix.cap;have M3:=ek.fix.max;have M4:=ek.code.cap;have M5:=ek.code.max;obtain ⟨zV,pop,m_,qp,M9,M'⟩:=qQ.aS e.1 _ (Pu ei);have M_:vc um zV (pop+e.1*3+0)=some (.int .i64 (dI l e.1)):=M9 0 _ rfl;have hcK:=JK aJ.eA aJ.r3 (k:=e.1) (by omega);have hdK:=JL aJ.eA aJ.r3 (k:=e.1) (by omega);have xl:=ad5 ei;have yC:=ai5 (l:=l) (i:=e.1) (by omega);have hko:=(Cm (aJ.r3 o wY)).2;have oA:=Cn (aJ.r3 o wY);have adZ:=oA.code;have aBf:=M'.cap;have aBg:=M'.max;have TS:=Pv l e.1 o;have auN:(rZ l e.1 o).vr.length=o.ag.length+1:=TS;refine aE (Cs (Cb (ad (aa O (V0 (Yo mn O O wW Bj) (V0 (cJ 1 pM O O O (wX)) ?_))))));refine Al Y O sL λqu=>?_;refine ae O (an 0 Y O O O uQ O O O (ab (Cs (fg 0 (.cells (jj o qo).toArray 56 (0,0)) O O (Cr (V0 (Yf w_ O) (V0 (Yd 2 O O O kb) (V0 (Yf mV O) ?_))))))));refine V0 (Yd 0 O O O kb) ?_;refine WL.BM (f:=aU.cells) (rd:=fK) (xs:=gf l e.1) (ys:=o.code) 1 (λ_=>H) Y O iL O O O (λw hw=>⟨hw.vs H (by simp),ek.code⟩) (λ_ _ _ _ h=>h) aU.bq aU.auR (by omega) (by omega) λTV TX=>?_;refine V0 (Yf w_ O) (an 2 Y O O O MC O O O (ab (ad (V0 (Yf AX O) (V0 (Yd 0 O O O DK) (V0 (Yn wT O) (aa O (ab (Cb ?_)))))))));refine cq (ι:=Nat) (λk=>[(86,.int .i64 (k:Int))]) [(0,_),(2,_),(3,_),(4,_),(7,_),(10,_),(70,_),(71,_),(72,_),(84,_),(85,_)] (λk=>Ws w [] [bt 108 3 aU.cells TV TX (gf l e.1++l6 l e.1 o o.code (o.fix.take k)),ah qu (.cells (jj o qo).toArray 56 (0,0)),ah b7 (.cells #[.slice TV (gf l e.1++o.code).length TX,.int .i64 (gd l l.length)] 33 (0,0)),ah b2 (.cells #[.slice none 0 0,.int .i64 0] 33 (0,0))] [um,H]) (λk=>k<=o.fix.length) (λk=>o.fix.length-k) 0 (Nat.zero_le _) (sc O (sc O (sc O (sc O (sc O (sc O (sc O (sc O (sc O (sc O (sc O (sc O sn)))))))))))) (λ_ h=>((((h.f 3 O).f 3 O).f 2 O).f 3 O:)) ?_;intro k hk;refine ad (V0 (bj O O) (ab (Cs ?_)));refine Cc O (λbC=>?_) (λbC=>?_)
  ·have av:k<o.fix.length:=by simpa using bC
   obtain ⟨x,bn⟩:∃q,o.fix[k]? = some q:=⟨_,List.getElem?_eq_getElem av⟩;obtain ⟨dW,dX,dZ,cg⟩:=ek.fix.aS k x bn;have cg:aR H dW (dX+k*3) x.cells:=cg;have Ij:=hko.fix x (List.mem_of_getElem? bn);obtain ⟨aBh,Ik,hA1,TN,TO⟩:=auV Ij.2;obtain ⟨p,Tu,au7⟩:=vz Ij.1
   have sM:x.at_.toNat=p:=by omega
   obtain ⟨y,bK⟩:∃y,o.code[p]? = some y:=⟨_,List.getElem?_eq_getElem au7⟩;have wU:=adH sM bK;rw [wU] at Ik hA1
   have Na:(l6 l e.1 o o.code (o.fix.take k))[p]? = some y:=by
     have h8:=ai3 (l:=l) (n:=e.1) hko bn;rw [sM] at h8;rw [h8,bK]
   have DY:(gf l e.1++l6 l e.1 o o.code (o.fix.take k))[(gf l e.1).length+p]? = some y:=by rw [List.getElem?_append_right (by omega),Nat.add_sub_cancel_left]; exact Na
   obtain ⟨TP,Il⟩:=XB Bj (aJ.known e.1 o ei) TN TO;obtain ⟨Im,Io,Bk,sN⟩:=M'.aS x.m.toNat _ TP;have sN:aR um Im (Io+x.m.toNat*1) (p8 (gI l e.1 o x.m)):=sN;obtain ⟨o2,uL⟩:∃o2,l[gI l e.1 o x.m]? = some o2:=⟨_,List.getElem?_eq_getElem Il⟩;obtain ⟨pb2,po2,gk,q2,FT,M8⟩:=hm.aS _ o2 uL;obtain ⟨Mv,Mw,DH,qk,ad7,aBi⟩:=qQ.aS _ _ (Pu uL);have au8:vc um Mv (Mw+gI l e.1 o x.m*3+0)=some (.int .i64 (dI l (gI l e.1 o x.m))):=ad7 0 _ rfl;have au9:vc um Mv (Mw+gI l e.1 o x.m*3+1)=some (.int .i64 (gd l (gI l e.1 o x.m))):=ad7 1 _ rfl;have aBj:=JK aJ.eA aJ.r3 (k:=gI l e.1 o x.m) (by omega);have aBk:=JL aJ.eA aJ.r3 (k:=gI l e.1 o x.m) (by omega);have hpn:(l6 l e.1 o o.code (o.fix.take k)).length=o.code.length:=JN _ _ _ _ _;refine aE (Cs (Cb (ad (V0 (Yo wT O O dZ av) (V0 (cJ 1 MJ O O O (cg)) ?_)))));refine Al Y O Hz λj4=>?_;refine an 0 Y O O O MK O O O (ab (Cs (fg 0 (.cells (x.cells).toArray 112 (0,0)) O O ?_)));refine WC.BJ 1 O (by simp only [List.length_append]; omega) λcb nR sJ aBm=>?_;refine WC.nc [(0,true),(1,true),(2,true),(3,true),(4,true),(5,true),(6,true),(7,true),(8,true),(9,true),(10,true),(11,true),(12,true)] mixed (by kernel_rfl) (λ_ _ _ d _ h=>by cases d<;>exact h) ?_;refine D0 O (λ_ h=>h) (Yf w_ O) (D0 O (λ_ h=>h) (Yd 3 O O O kb) (D0 O (λ_ h=>h) (Ym O) (D0 O (λ_ h=>h) (Ym O) (D0 O (λ_ h=>h) (Yo yS O O m_ (by omega)) (D0 O (λ_ h=>h) (Yf yR O) (D0 O (λ_ h=>h) (bo 0 ar O O (M_)) (D0 O (λ_ h=>h) (Yf Bd O) ?_)))))));refine D0 O (λ_ h=>h) (Yd 0 O O O ar) (D0 O (λ_ h=>h) (IT (a:=(gf l e.1).length) (b:=p) O O yC.symm Tu (by omega)) (D0 O (λ_ h=>h) (Yo (i:=(gf l e.1).length+p) kf O O nR (by simp only [List.length_append]; omega)) (D0 O (λ_ h=>h) (Yf HC O) (D0 O (λ_ h=>h) (Ya O) ?_))));refine WD.nil (λ_ h=>h) ?_;refine Et (Cs ?_);refine WC.nc [(0,true),(1,true),(2,true),(3,true),(4,true),(5,true),(6,true),(7,true),(8,true),(9,true)] mixed (by kernel_rfl) (λ_ _ _ d _ h=>by cases d<;>exact h) ?_;refine D0 O (λ_ h=>h) (Ym O) (D0 O (λ_ h=>h) (Ym O) (D0 O (λ_ h=>h) (Yo yS O O m_ (by omega)) (D0 O (λ_ h=>h) (Yf MU O) (D0 O (λ_ h=>h) (bo 0 nQ O O (M9 2 _ O)) (D0 O (λ_ h=>h) (Yf yO O) (D0 O (λ_ h=>h) (Yd 0 O O O ar) (D0 O (λ_ h=>h) (Eo iX O O Bk (by omega) (by omega)) ?_)))))));refine D0 O (λ_ h=>h) (bo 0 ar O O (sN 0 _ O)) (D0 O (λ_ h=>h) (Ya O) ?_);refine WD.nil (λ_ h=>h) ?_;refine Et (ad (V0 (Yf ML O) (V0 (Yd 0 O O O ar) (ab (Cb (ad (V0 (aW O O) (ae O (ab ?_)))))))));refine Cc O (λcU=>?_) (λcU=>?_)
   ·have jB:x.kind=1:=by simpa using cU
    refine CU (λ_=>true) [] [9,10] (.q false 0 (.q false 1 (.q true 2 (.q false 3 (.q false 4 (.q false 5 (.q false 6 (.q true 7 (.q false 8 .nil))))))))) mixed (by kernel_rfl) (λ_ _ _ d _ _ h=>by cases d<;>exact h) ?_;refine U0 O (λ_ h=>h) (Ym O) (U0 O (λ_ h=>h) (bD O) (U0 O (λ_ h=>h) (xz (y:=y) 1 ((gf l e.1).length+p) 1 O O nR (by omega) aU.bq DY O ar) (U0 O (λ_ h=>h) (Ym O) (U0 O (λ_ h=>h) (Ym O) (U0 O (λ_ h=>h) (Yo yS O O m_ (by omega)) (U0 O (λ_ h=>h) (Yf yR O) (U0 O (λ_ h=>h) (bo 0 ar O O (M_)) ?_)))))));refine U0 O (λ_ h=>h) (mY O O (by omega)) ?_;refine WU.nil (λ_ h=>h) ?_;refine WS.e O ?_;refine V0 (bD O) (Ln (Es ?_));refine WS.e O ?_;refine WL.storeT (y:=y) 1 ((gf l e.1).length+p) 1 (⟨y.op,y.a+dI l e.1,y.b⟩) Y O O O nR (by omega) aU.bq DY di O O (by decide) O ?_
    have Iq:tK l e.1 o x=y.a+dI l e.1:=by unfold tK; rw [wU]; rw [if_pos jB]
    rw [Pz (l:=l) (n:=e.1) (o:=o) (c:=l6 l e.1 o o.code (o.fix.take k)) (p:=p) (x:=y) (y.a+dI l e.1) Na,<-Iq,<-sM,<-Px bn];refine Ln (Es ?_);refine WS.nil ?_;refine Eb (Eb (Et (Cr (V0 (Yi O O O (by omega)) (aa O (Ln ?_))))));exact Ea (k+1) (by omega) (by omega) (sc O (sc O (sc O (sc O (sc O (sc O (sc O (sc O (sc O (sc O (sc O (sc O sn)))))))))))) (λ_ h=>Wd 1 h)
   have jB:¬x.kind=1:=by simpa using cU
   refine ad (V0 (aW O O) (ae O (ab ?_)));refine Cc O (λdb=>?_) (λdb=>?_)
   ·have e7:x.kind=2:=by simpa using db
    have yP:=aJ.Xv e.1 o ei x (List.mem_of_getElem? bn)
    have TT:Cq l (gI l e.1 o x.m)=o2.bU.length:=by unfold Cq; rw [uL]; rfl
    have hAl:y.a.toNat<o2.bU.length:=by
      unfold tJ at yP;rw [e7,TT,wU] at yP;simp at yP;omega
    obtain ⟨v2,Ir⟩:∃v,o2.bU[y.a.toNat]? = some v:=⟨_,List.getElem?_eq_getElem hAl⟩;obtain ⟨pb4,po4,ha4,TY⟩:=M8.bU.aS _ v2 Ir;have TY:aR H pb4 (po4+y.a.toNat*1) (eH v2):=TY;have aBn:=M8.bU.cap;have aBo:=M8.bU.max
    have FG:Pw l (gI l e.1 o x.m) y.a=v2:=by unfold Pw; rw [uL,Option.bind_some,Ir]; rfl
    have aBp:0<=v2/\v2<=2048:=by
      have h7:=aJ.r3 o2 (List.mem_of_getElem? uL);obtain ⟨z,hz,hzl⟩:=vz ((Cm h7).2.bU v2 (List.mem_of_getElem? Ir));have:=(Cn h7).code;omega
    refine CU (λ_=>true) [] [17,18] (.q false 0 (.q false 1 (.q false 2 (.q false 3 (.q false 4 (.q true 5 (.q false 6 (.q false 7 (.q false 8 (.q false 9 (.q true 10 (.q false 11 (.q false 12 (.q true 13 (.q false 14 (.q true 15 (.q false 16 .nil))))))))))))))))) mixed (by kernel_rfl) (λ_ _ _ d _ _ h=>by cases d<;>exact h) ?_;refine U0 O (λ_ h=>h) (Ym O) (U0 O (λ_ h=>h) (Ym O) (U0 O (λ_ h=>h) (Ym O) (U0 O (λ_ h=>h) (Yo yS O O DH (by omega)) (U0 O (λ_ h=>h) (Yf yR O) (U0 O (λ_ h=>h) (bo 0 ar O O (au8)) (U0 O (λ_ h=>h) (Ym O) (U0 O (λ_ h=>h) (Ym O) ?_)))))));refine U0 O (λ_ h=>h) (Yo mn O O gk Il) (U0 O (λ_ h=>h) (Yf uR O) (U0 O (λ_ h=>h) (bo 1 nQ O O (FT 5 _ O)) (U0 O (λ_ h=>h) (Ym O) (U0 O (λ_ h=>h) (bD O) (U0 O (λ_ h=>h) (xz (y:=y) 1 ((gf l e.1).length+p) 1 O O nR (by omega) aU.bq DY O ar) (U0 O (λ_ h=>h) (Eo iX O O ha4 (by omega) (by omega)) (U0 O (λ_ h=>h) (bo 1 ar O O (TY 0 _ O)) ?_)))))));refine U0 O (λ_ h=>h) (mY O O (by omega)) ?_;refine WU.nil (λ_ h=>h) ?_;refine WS.e O ?_;refine V0 (bD O) (Ln (Es ?_));refine WS.e O ?_;refine WL.storeT (y:=y) 1 ((gf l e.1).length+p) 1 (⟨y.op,dI l (gI l e.1 o x.m)+v2,y.b⟩) Y O O O nR (by omega) aU.bq DY di O O (by decide) O ?_
    have Iq:tK l e.1 o x=dI l (gI l e.1 o x.m)+v2:=by unfold tK; rw [wU]; rw [if_neg jB,if_pos e7,FG]
    rw [Pz (l:=l) (n:=e.1) (o:=o) (c:=l6 l e.1 o o.code (o.fix.take k)) (p:=p) (x:=y) (dI l (gI l e.1 o x.m)+v2) Na,<-Iq,<-sM,<-Px bn];refine Ln (Es ?_);refine WS.nil ?_;refine Eb (Eb (Et (Cr (V0 (Yi O O O (by omega)) (aa O (Ln ?_))))));exact Ea (k+1) (by omega) (by omega) (sc O (sc O (sc O (sc O (sc O (sc O (sc O (sc O (sc O (sc O (sc O (sc O sn)))))))))))) (λ_ h=>Wd 1 h)
   have e7:¬x.kind=2:=by simpa using db
   refine ad (V0 (aW O O) (ae O (ab ?_)));refine Cc O (λej=>?_) (λej=>?_)
   ·have sk:x.kind=3:=by simpa using ej
    refine CU (λ_=>true) [] [9,10] (.q false 0 (.q false 1 (.q true 2 (.q false 3 (.q false 4 (.q false 5 (.q false 6 (.q true 7 (.q false 8 .nil))))))))) mixed (by kernel_rfl) (λ_ _ _ d _ _ h=>by cases d<;>exact h) ?_;refine U0 O (λ_ h=>h) (Ym O) (U0 O (λ_ h=>h) (bD O) (U0 O (λ_ h=>h) (xz (y:=y) 1 ((gf l e.1).length+p) 1 O O nR (by omega) aU.bq DY O ar) (U0 O (λ_ h=>h) (Ym O) (U0 O (λ_ h=>h) (Ym O) (U0 O (λ_ h=>h) (Yo yS O O DH (by omega)) (U0 O (λ_ h=>h) (Yf DX O) (U0 O (λ_ h=>h) (bo 0 ar O O (au9)) ?_)))))));refine U0 O (λ_ h=>h) (mY O O (by omega)) ?_;refine WU.nil (λ_ h=>h) ?_;refine WS.e O ?_;refine V0 (bD O) (Ln (Es ?_));refine WS.e O ?_;refine WL.storeT (y:=y) 1 ((gf l e.1).length+p) 1 (⟨y.op,y.a+gd l (gI l e.1 o x.m),y.b⟩) Y O O O nR (by omega) aU.bq DY di O O (by decide) O ?_
    have Iq:tK l e.1 o x=y.a+gd l (gI l e.1 o x.m):=by unfold tK; rw [wU]; rw [if_neg jB,if_neg e7]
    rw [Pz (l:=l) (n:=e.1) (o:=o) (c:=l6 l e.1 o o.code (o.fix.take k)) (p:=p) (x:=y) (y.a+gd l (gI l e.1 o x.m)) Na,<-Iq,<-sM,<-Px bn];refine Ln (Es ?_);refine WS.nil ?_;refine Eb (Eb (Et (Cr (V0 (Yi O O O (by omega)) (aa O (Ln ?_))))));exact Ea (k+1) (by omega) (by omega) (sc O (sc O (sc O (sc O (sc O (sc O (sc O (sc O (sc O (sc O (sc O (sc O sn)))))))))))) (λ_ h=>Wd 1 h)
   have sk:¬x.kind=3:=by simpa using ej
   omega
  have TZ:k=o.fix.length:=by simp at bC; omega
  rw [TZ,List.take_length];have IQ:gf l e.1++l6 l e.1 o o.code o.fix=gf l (e.1+1):=(XJ ei).symm;rw [IQ]
  have CF:(gf l e.1++o.code).length=(gf l (e.1+1)).length:=by rw [XJ ei,List.length_append,List.length_append]; unfold Fo; rw [JN]
  rw [CF];refine Ce (Ex (Ex (bA (Eb (Et (Cr (V0 (Yi O O O (by omega)) (aa O (Ln ?_)))))))));exact Ea ((e.1+1,(TV,TX)):Nat×SP) (by show _-(e.1+1)<_; omega) (by show e.1+1<=_; omega) (sc O (sc O (sc O (sc O (sc O (sc O (sc O (sc O sn)))))))) (λ_ h=>(Wt 3 (((h.f 3 O).f 3 O).f 2 O):))
 have vT:e.1=l.length:=by simp at bd; omega
 rw [vT];have hM:=auU hE h2;refine Ce (Ex (Ex (bA (Et (ad (V0 (bk 1 O O wZ O) (an 2 Y O O O u4 O O O (ae O (ab (aA ?_))))))))));refine WE.dA (eZ O (cZ 2 O O wZ O) (gC O)) λw' hw=>?_;rw [hM];exact ⟨e.2,O,hw.fr,hw.kS 0 O aU.bq (λ_ _ _ _ h=>h)⟩
def kg (x:aN):List UInt8:=[cy x.kind]++aQ x.name++aF x.n++aF x.pl
def avc (name:List UInt8) (items:List aN):List UInt8:=aQ name++[cy items.length]++items.flatMap kg
theorem avd (x:aN):(kg x).length=x.name.length+18:=by simp only [kg,List.length_append,jH,mF,List.length_singleton]; omega
theorem ad9:∀(l:List aN),(∀x ∈ l,x.name.length<=8)->(l.flatMap kg).length<=l.length*26
 | [],_=>by simp
 | x::r,h=>by
   have h1:=h x (by simp);have h2:=ad9 r λy hy=>h y (by simp [hy]);simp only [List.flatMap_cons,List.length_append,avd,List.length_cons]; omega
theorem ad' {l:List aN} (h:∀x ∈ l,x.name.length<=8) (i:Nat):((l.take i).flatMap kg).length<=l.length*26:=by
 have h1:=ad9 (l.take i) λx hx=>h x (List.mem_of_mem_take hx)
 have h2:(l.take i).length<=l.length:=by simp; omega
 omega
def xe (name:List UInt8) (items:List aN):List UInt8×Int:=if lV name items=0 then (avc name items,0) else ([],lV name items)
theorem ave {name:List UInt8} {items:List aN} (h:lV name items=0):items.length<=16/\name.length<=8/\∀x ∈ items,x.name.length<=8:=by
 unfold lV at h
 split at h
 · cases h
 · rename_i wy
   split at h
   · rename_i hb
     simp only [Bool.and_eq_true,Bool.not_eq_true',Bool.or_eq_false_iff,Bool.not_eq_false'] at hb;obtain ⟨h1,_,h3⟩:=hb;refine ⟨by omega,?_,?_⟩
     · unfold dB at h3; simp at h3; omega
     · intro x hx
       have:=List.all_eq_true.1 h1 x hx;unfold o4 at this;simp only [Bool.not_eq_true',Bool.or_eq_false_iff,Bool.not_eq_false'] at this;have hn:=this.1.1.1.1.1.1.1;unfold dB at hn; simp at hn; omega
   · cases h
theorem avf (H:View) (a:Option Addr) (c:Nat) (name:List UInt8) (items:List aN) (w:World) (hH:Le H w) (hm:Sl lp 4 H a c items) :
   Calls Tryz.prog 28 #[.agg #[st name,.slice a items.length c]] w λe w'=>e = .returned (.tuple #[st (xe name items).1,.int .i64 (xe name items).2])/\Ext w w':=by
 have dR:=hm.cap;have eQ:=hm.max;refine enter Tryz.func28 O 51 O O ?_;refine CE (Vs:=[H]) (Ws.init (by simp [hH])) (ad ?_);refine WL.box Y O O λb1=>?_;refine ae O (ae O (ab (Cs (ad (V0 (bk 0 O O j8 O) (Lp Y O SG O (λw hw=>RX H a c name items w (hw.vs _ (by simp)) hm) (ae O (ab (ad (aa O ?_))))))))));refine V0 (eL O O) (ab ?_);refine Cc O (λai=>?_) (λai=>?_)
 ·have hz:¬lV name items=0:=by simpa using ai
  refine ad (aa O (ae O (ae O (ab (aA (Er ?_))))));refine WE.gi O O O λw' hw=>?_;exact ⟨by rw [xe,if_neg hz]; rfl,hw.fr⟩
 have hz:lV name items=0:=by simpa using ai
 obtain ⟨wy,QB,T0⟩:=ave hz;refine aE (ad (V0 (Yb adK adJ O O) ?_));refine WL.box Y O O λfO=>?_;refine LW (λ_ h=>h.eM 5 1) (ae O (ab (ad (aa O (V0 (Yf LX O) (V0 (Yd 2 O O O bW) (Lf 1 O ?_)))))));refine Lw (ι:=Value) [_,_] _ Y O MS O O (λ_=>.tuple #[]) (λv'=>[ah fO (.cells #[.pointer (some ⟨fO,0,none⟩),v'] 165 (0,0)),aY 5 1 v' (aQ name).length ((aQ name).map bV)]) (λ_=>True) [] (by simp) (λw hw=>MQ fO none (.slice none 0 0) [] name w Y (by simp only [List.length_append,jH,List.length_singleton,List.length_cons,List.length_nil]; omega) hw) ?_;intro v18 _;refine ab (ad (aa O (V0 (Yf wx O) (V0 (Yd 2 O O O AG) (V0 (Yn uC O) ?_)))));refine Lw (ι:=Value) [_,_] _ Y O DT O O (λ_=>.tuple #[]) (λv'=>[ah fO (.cells #[.pointer (some ⟨fO,0,none⟩),v'] 165 (0,0)),aY 5 1 v' (aQ name++[cy items.length]).length ((aQ name++[cy items.length]).map bV)]) (λ_=>True) [] (by simp) (λw hw=>DU fO (some ⟨fO,0,none⟩) v18 (aQ name) items.length w (.inr O) (by simp only [List.length_append,jH,List.length_singleton,List.length_cons,List.length_nil]; omega) hw) ?_;intro v23 _;refine ab (Cs (ad (V0 (Yf wx O) (V0 (Yd 2 O O O AG) (V0 (Yn uC O) (aa O (ab (Cb ?_))))))));refine cq (ι:=Nat×Option Addr×Value) (λg=>[(27,.int .i64 (g.1:Int))]) [(2,_),(3,_),(5,_),(25,_),(26,_)] (λg=>Ws w [] ([ah fO (.cells #[.pointer (g.2.1),g.2.2] 165 (0,0)),aY 5 1 g.2.2 (aQ name++[cy items.length]++(items.take g.1).flatMap kg).length ((aQ name++[cy items.length]++(items.take g.1).flatMap kg).map bV)]++[ah b1 (.cells (Value.agg #[st name,.slice a items.length c]).cells 65 (0,0))]) [H]) (λg=>g.1<=items.length/\(g.2.1=none\/g.2.1=some ⟨fO,0,none⟩)) (λg=>items.length-g.1) (0,some ⟨fO,0,none⟩,v23) ⟨Nat.zero_le _,.inr O⟩ (sc O (sc O (sc O (sc O (sc O (sc O sn)))))) (λ_ h=>by simp only [List.take_zero,List.flatMap_nil,List.append_nil]; exact h) ?_;intro g ⟨hi,hp⟩;refine ad (V0 (bj O O) (ab (Cs ?_)));refine Cc O (λaw=>?_) (λaw=>?_)
 ·have av:g.1<items.length:=by simpa using aw
  obtain ⟨x,hx⟩:∃x,items[g.1]? = some x:=⟨_,List.getElem?_eq_getElem av⟩;obtain ⟨pb,po,ha,cw⟩:=hm.aS g.1 x hx;have cw:aR H pb (po+g.1*4) x.cells:=cw
  have hT:(items.take (g.1+1)).map (·.name)=(items.take g.1).map (·.name)++[x.name]:=by rw [List.take_add_one,hx]; simp
  have hL:((items.take g.1).map (·.name)).length=g.1:=by simp; omega
  have hxn:=T0 x (List.mem_of_getElem? hx);have hts:=ad' T0 g.1;refine aE (Cs (Cb (ad (V0 (Yo uC O O ha (by omega)) (V0 (cJ 0 lI O O O (cw)) ?_)))));refine Al Y O iI λb7=>?_;refine an 0 Y O O O k_ O O O (ab (ad (aa O (V0 (Yf Dp O) (V0 (Yd 0 O O O ar) (Lf 2 O (Lf 2 O ?_)))))));refine Lw (ι:=Value) [_,_] _ Y O DT O O (λ_=>.tuple #[]) (λv'=>[ah fO (.cells #[.pointer (some ⟨fO,0,none⟩),v'] 165 (0,0)),aY 5 1 v' (aQ name++[cy items.length]++(items.take g.1).flatMap kg++[cy x.kind]).length ((aQ name++[cy items.length]++(items.take g.1).flatMap kg++[cy x.kind]).map bV)]) (λ_=>True) [] (by simp) (λw hw=>DU fO g.2.1 g.2.2 (aQ name++[cy items.length]++(items.take g.1).flatMap kg) x.kind w hp (by simp only [List.length_append,jH,List.length_singleton,List.length_cons,List.length_nil]; omega) hw) ?_;intro v34 _;refine ab (ad (aa O (V0 (Yf yv O) (V0 (Yd 2 O O O bW) ?_))));refine Lw (ι:=Value) [_,_] _ Y O MS O O (λ_=>.tuple #[]) (λv'=>[ah fO (.cells #[.pointer (some ⟨fO,0,none⟩),v'] 165 (0,0)),aY 5 1 v' (aQ name++[cy items.length]++(items.take g.1).flatMap kg++[cy x.kind]++aQ x.name).length ((aQ name++[cy items.length]++(items.take g.1).flatMap kg++[cy x.kind]++aQ x.name).map bV)]) (λ_=>True) [] (by simp) (λw hw=>MQ fO (some ⟨fO,0,none⟩) v34 (aQ name++[cy items.length]++(items.take g.1).flatMap kg++[cy x.kind]) x.name w (.inr O) (by simp only [List.length_append,jH,List.length_singleton,List.length_cons,List.length_nil]; omega) hw) ?_;intro TD _;refine ab (Cr (aa O (V0 (Yf oM O) (V0 (Yd 2 O O O ar) (V0 (Yf k9 O) (V0 (Yd 2 O O O ar) ?_))))));refine Lb Y O iZ O O O O λLz=>?_;refine bL 0 (.cells (([x.n,x.pl]:List Int).flatMap eH).toArray 3 (0,0)) O O ?_;refine WL.mu 0 O ?_;refine Lw (ι:=Option Addr×Value) [_,_] _ Y O u3 O O (λ_=>.tuple #[]) (λr=>[ah fO (.cells #[.pointer (r.1),r.2] 165 (0,0)),aY 5 1 r.2 (aQ name++[cy items.length]++(items.take g.1).flatMap kg++[cy x.kind]++aQ x.name++[x.n,x.pl].flatMap aF).length ((aQ name++[cy items.length]++(items.take g.1).flatMap kg++[cy x.kind]++aQ x.name++[x.n,x.pl].flatMap aF).map bV)]) (λr=>r.1=none\/r.1=some ⟨fO,0,none⟩) [bv Lz (.cells (([x.n,x.pl]:List Int).flatMap eH).toArray 3 (0,0))] (by simp) (λw hw=>uY (bv Lz (.cells (([x.n,x.pl]:List Int).flatMap eH).toArray 3 (0,0))) (some ⟨Lz,0,none⟩) 2 [x.n,x.pl] fO (some ⟨fO,0,none⟩) TD (aQ name++[cy items.length]++(items.take g.1).flatMap kg++[cy x.kind]++aQ x.name) w (wV _ (by simp)) (.inr O) (by simp only [List.length_append,jH,List.length_singleton,List.length_cons,List.length_nil]; omega) hw) ?_;intro wi avj;refine Ln (Eb (Et (Cr (V0 (Yi O O O (by omega)) (aa O (Ln ?_))))))
  exact Ea ((g.1+1,wi.1,wi.2):Nat×Option Addr×Value) (by first | omega | (dsimp only; omega)) ⟨by first | omega | (dsimp only; omega),avj⟩ (sc O (sc O (sc O (sc O (sc O (sc O sn)))))) (λ_ h=>by
    have h:=Ws.out 2 h;have h:=Ws.bF h (a_:=[H]) (by simp)
    have e:aQ name++[cy items.length]++(items.take g.1).flatMap kg++[cy x.kind]++aQ x.name++[x.n,x.pl].flatMap aF=aQ name++[cy items.length]++(items.take (g.1+1)).flatMap kg:=by rw [MR hx]; simp [kg]
    rw [e] at h
    exact h)
 have lB:g.1=items.length:=by simp at aw; omega
 refine Ce (Ex (Ex (bA (Et (ad (aa O (V0 (bD O) (V0 (Yf Ic O) ?_))))))))
 refine Lw (ι:=Unit) [_,_] _ Y O adL O O (λ_=>st (aQ name++[cy items.length]++(items.take g.1).flatMap kg)) (λ_=>[]) (λ_=>True) [] (by simp) (λw hw=>by
     have:=adD fO g.2.1 g.2.2 (aQ name++[cy items.length]++(items.take g.1).flatMap kg) (by simp) w hp (by simp only [List.length_append,jH,List.length_singleton]; have hts:=ad' T0 g.1; omega) hw
     exact this.mono λe w' h=>⟨(),h.1,trivial,h.2⟩) ?_
 intro _ _;refine ae O (ae O (ab (aA ?_)));refine WE.gi O O O λw' hw=>?_;exact ⟨by rw [xe,if_pos hz,lB,List.take_length]; rfl,hw.fr⟩
def yV (s:List UInt8):Option (aN×List UInt8):=do
 let (k,s) <-pc s
 let (nm,s) <-tC s
 let (n,s) <-ou s
 let (pl,s) <-ou s
 pure (⟨k,n,pl,nm⟩,s)
def Bl:Nat->List UInt8->Option (List aN×List UInt8)
 | 0,s=>some ([],s)
 | k+1,s=>(yV s).bind λp=>(Bl k p.2).map λq=>(p.1::q.1,q.2)
def xf (s:List UInt8):Option ((List UInt8×List aN)×List UInt8):=
 (tC s).bind λp=>(pc p.2).bind λq=>(Bl q.1.toNat q.2).map λr=>((p.1,r.1),r.2)
def yW (s:List UInt8):Option (List UInt8×List aN):=match xf s with | some (f,[])=>some f | _=>none
def i' (s:List UInt8):(List UInt8×List aN)×Int:=if 32768<s.length then (([],[]),2) else match yW s with | some f=>if lV f.1 f.2=0 then (f,0) else (([],[]),1) | none=>(([],[]),1)
theorem avk:Enters Tryz.prog 67:=enters_of Tryz.func67 (by kernel_rfl) rfl
theorem ad_:Enters Tryz.prog 136:=enters_of Tryz.func136 (by kernel_rfl) rfl
theorem avl:Enters Tryz.prog 66:=enters_of Tryz.func66 (by kernel_rfl) rfl
theorem avm (bg:Nat) (s:List UInt8)  (w:World) (hs:s.length<=9223372036854775807) (hw:Ws w [bg] [ah bg (.cells #[st (s)] 229 (0,0))] [] w) :
   Calls Tryz.prog 67 #[.pointer (some ⟨bg,0,none⟩)] w λe w'=>(∃r:(List UInt8×List aN×List UInt8)×Option Addr×Nat,e = .returned (.agg #[st r.1.1,.slice r.2.1 r.1.2.1.length r.2.2])/\xf s=some ((r.1.1,r.1.2.1),r.1.2.2)/\Ws w [bg] [ah bg (.cells #[st (r.1.2.2)] 229 (0,0)),bt 131 4 aN.cells r.2.1 r.2.2 (r.1.2.1)] [] w')\/(∃t:List UInt8,e = .panicked uZ/\xf s=none/\Ws w [bg] [ah bg (.cells #[st (t)] 229 (0,0))] [] w'):=by
 refine enter Tryz.func67 O 31 O O ?_;refine CE hw (ad ?_);refine Al Y O j7 λb2=>?_;refine ab (ad (aa O (Lf 1 O ?_)));refine cW [_] _ Y O adR O O _ _ _ _ _ _ ([]) (by simp) (λw hw=>adF bg (s)  w hs hw) ?_ ?_
 ·intro t ht;refine Ep ?_;refine bc λw' hw=>?_;exact .inr ⟨t,O,(by simp [xf,ht]),Wt 1 hw⟩
 intro r6 h6;refine V0 (Yb j7 AJ O O) ?_;refine Al Y O j7 λb3=>?_;refine LW (λ_ h=>h.eM 131 4) (an 1 Y O O O lJ O O O (ab (Cs (ad (aa O (Lf 2 O ?_))))));refine cW (ι:=Int×List UInt8) (κ:=List UInt8) [_] _ Y O TA O O (λr=>.int .i64 r.1) (λr=>[ah bg (.cells #[st (r.2)] 229 (0,0))]) (λr=>pc r6.2=some r) (λ_=>uZ) (λt=>[ah bg (.cells #[st (t)] 229 (0,0))]) (λ_=>pc r6.2=none) ([]) (by simp) (λw hw=>TC bg (r6.2)  w (by have:=Cp h6; omega) hw) ?_ ?_
 ·intro t ht;refine Ep (Ep ?_);refine bc λw' hw=>?_;exact .inr ⟨t,O,(by simp [xf,h6,ht]),Wt 1 hw⟩
 intro r9 h9;obtain ⟨q0,q1⟩:=auc h9
 have hl9:r9.2.length<=9223372036854775807:=by have:=Cp h6; have:=Co h9; omega
 obtain ⟨ny,tq⟩:∃ny:Nat,r9.1=(ny:Int):=⟨r9.1.toNat,by omega⟩;rw [tq];refine aa O (ab (Cb ?_));refine cq (ι:=List aN×List UInt8×Option Addr×Nat) (λg=>[(10,.int .i64 (g.1.length:Int))]) [(0,_),(2,_),(3,_),(9,_)] (λg=>Ws w [bg] [ah bg (.cells #[st (g.2.1)] 229 (0,0)),bt 131 4 aN.cells g.2.2.1 g.2.2.2 (g.1),ah b3 (.cells #[st r6.1,.slice g.2.2.1 (g.1).length g.2.2.2] 65 (0,0)),ah b2 (.cells #[st [],.slice none (([]:List aN)).length 0] 65 (0,0))] []) (λg=>g.1.length<=ny/\g.2.1.length<=9223372036854775807/\Bl ny r9.2=(Bl (ny-g.1.length) g.2.1).map λq=>(g.1++q.1,q.2)) (λg=>ny-g.1.length) ([],r9.2,none,0) ⟨Nat.zero_le _,hl9,by simp⟩ (sc O (sc O (sc O (sc O (sc O sn))))) (λ_ h=>h) ?_;intro g ⟨hi,hgs,hG⟩;refine ad (V0 (bj O O) (ab (Cs ?_)));refine Cc O (λai=>?_) (λai=>?_)
 ·have av:g.1.length<ny:=by simpa using ai
  have iu:yV g.2.1=none->xf s=none:=λhn=>by
    obtain ⟨m,hm⟩:∃m,ny-g.1.length=m+1:=⟨ny-g.1.length-1,by omega⟩;simp only [xf,h6,h9,Option.bind_some,tq,Int.toNat_natCast,hG,hm,Bl,hn,Option.bind_none,Option.map_none]
  refine aE (Cs (Cb (ad (aa O ?_))));refine cW [_] _ Y O TA O O _ _ _ _ _ _ ([]) (by simp) (λw hw=>TC bg (g.2.1)  w hgs hw) ?_ ?_
  ·intro t ht;refine Ep (WE.bx (Ep (Ep (WE.bx (Ep ?_)))));refine bc λw' hw=>?_;exact .inr ⟨t,O,iu (by simp [yV,ht]),Wt 1 hw⟩
  intro sP jq;refine aa O ?_;refine cW (ι:=List UInt8×List UInt8) (κ:=List UInt8) [_] _ Y O adR O O (λr=>st r.1) (λr=>[ah bg (.cells #[st (r.2)] 229 (0,0))]) (λr=>tC sP.2=some r) (λ_=>uZ) (λt=>[ah bg (.cells #[st (t)] 229 (0,0))]) (λ_=>tC sP.2=none) ([]) (by simp) (λw hw=>adF bg (sP.2)  w (by have:=Co jq; omega) hw) ?_ ?_
  ·intro t ht;refine Ep (WE.bx (Ep (Ep (WE.bx (Ep ?_)))));refine bc λw' hw=>?_;exact .inr ⟨t,O,iu (by simp [yV,jq,ht]),Wt 1 hw⟩
  intro eJ sj;refine V0 (Yb iI yw O O) ?_;refine Al Y O iI λb4=>?_;refine an 0 Y O O O k_ O O O (ab (ad (aa O (Lf 1 O ?_))));refine cW (ι:=Int×List UInt8) (κ:=List UInt8) [_] _ Y O adQ O O (λr=>.int .i64 r.1) (λr=>[ah bg (.cells #[st (r.2)] 229 (0,0))]) (λr=>ou eJ.2=some r) (λ_=>uZ) (λt=>[ah bg (.cells #[st (t)] 229 (0,0))]) (λ_=>ou eJ.2=none) ([]) (by simp) (λw hw=>adG bg (eJ.2)  w (by have:=Co jq; have:=Cp sj; omega) hw) ?_ ?_
  ·intro t ht;refine Ep (WE.bx (Ep (Ep (WE.bx (Ep ?_)))));refine bc λw' hw=>?_;exact .inr ⟨t,O,iu (by simp [yV,jq,sj,ht]),Wt 1 hw⟩
  intro qI qQ;refine V0 (Yf oM O) (an 1 Y O O O di O O O (ab (ad (aa O ?_))));refine cW (ι:=Int×List UInt8) (κ:=List UInt8) [_] _ Y O adQ O O (λr=>.int .i64 r.1) (λr=>[ah bg (.cells #[st (r.2)] 229 (0,0))]) (λr=>ou qI.2=some r) (λ_=>uZ) (λt=>[ah bg (.cells #[st (t)] 229 (0,0))]) (λ_=>ou qI.2=none) ([]) (by simp) (λw hw=>adG bg (qI.2)  w (by have:=Co jq; have:=Cp sj; have:=JH qQ; omega) hw) ?_ ?_
  ·intro t ht;refine Ep (WE.bx (Ep (Ep (WE.bx (Ep ?_)))));refine bc λw' hw=>?_;exact .inr ⟨t,O,iu (by simp [yV,jq,sj,qQ,ht]),Wt 1 hw⟩
  intro fC mm;refine V0 (Yf k9 O) (an 1 Y O O O di O O O (ab (Cr (V0 (Yf wx O) (V0 (Yd 3 O O O AG) (V0 (bk 1 O O lI O) ?_))))));refine Lb Y O pE O O O O λuz=>?_;refine bL 0 (.cells (aN.cells ⟨sP.1,qI.1,fC.1,eJ.1⟩).toArray 131 (0,0)) O O ?_;refine LA ⟨sP.1,qI.1,fC.1,eJ.1⟩ 3 0 Y O pE O O O O O O (by omega) (by omega) λyG yH=>?_;refine V0 (Yf wx O) (an 4 Y O O O abG O O O (Ln (Eb (Et (Cr (V0 (Yi O O O (by omega)) (aa O (Ln ?_))))))))
  have hI:yV g.2.1=some (⟨sP.1,qI.1,fC.1,eJ.1⟩,fC.2):=by simp [yV,jq,sj,qQ,mm]
  rw [show ((g.1.length+1:Nat):Int)=(((g.1++[(⟨sP.1,qI.1,fC.1,eJ.1⟩:aN)]).length:Nat):Int) by simp]
  exact Ea ((g.1++[⟨sP.1,qI.1,fC.1,eJ.1⟩],fC.2,yG,yH):List aN×List UInt8×Option Addr×Nat) (by simp; omega) ⟨by simp; omega,by have:=Co jq; have:=Cp sj; have:=JH qQ; have:=JH mm; dsimp only; omega,by
      rw [hG];obtain ⟨m,hm⟩:∃m,ny-g.1.length=m+1:=⟨ny-g.1.length-1,by omega⟩
      have iG:ny-(g.1++[(⟨sP.1,qI.1,fC.1,eJ.1⟩:aN)]).length=m:=by simp; omega
      dsimp only;rw [hm,iG];simp [Bl,hI]
      rfl⟩ (sc rfl (sc rfl (sc rfl (sc rfl (sc rfl sn))))) (λ_ h=>by
    have h:=Ws.out 0 h;have h:=Ws.out 1 h
    exact h)
 have lB:g.1.length=ny:=by simp at ai; omega
 refine Ce (Ex (Ex (bA (Et (ad (V0 (bk 2 O O j8 O) (an 3 Y O O O lJ O O O (ab (aA ?_)))))))));refine WE.NJ 3 O O O j8 O λw' hw=>?_
 have hF:xf s=some ((r6.1,g.1),g.2.1):=by
   simp only [xf,h6,h9,Option.bind_some,tq,Int.toNat_natCast,hG,lB,Nat.sub_self,Bl,Option.map_some,List.append_nil]
 exact .inl ⟨((r6.1,g.1,g.2.1),g.2.2),O,hF,Wt 2 hw⟩
theorem avp (bi:Nat) (x:Bool) (w:World) (hw:Ws w [bi] [ah bi (.cells #[.bool x] 4 (0,0))] [] w) :
   CallsD Tryz.prog 136 #[.pointer (some ⟨bi,0,none⟩)] (.returning) w λe u2 w'=>u2 = .returning/\(e = .returned (.tuple #[])/\Ws w [bi] [ah bi (.cells #[.bool x] 4 (0,0))] [] w'):=by
 refine BF Tryz.func136 O 3 O O O O O (λ_=>rfl) (.inl ⟨O,O,O⟩) ?_;refine LW (W':=Ws w [bi] [ah bi (.cells #[.bool x] 4 (0,0))] []) (λ_ e=>by subst e; exact hw) (V0 (N0 G7 O) (ab ?_));refine WC.lj O ?_;refine Ck ?_;refine E0 O λw' hw=>?_;exact ⟨O,hw⟩
theorem avq (bi:Nat) (x:Bool) (w:World) (hw:Ws w [bi] [ah bi (.cells #[.bool x] 4 (0,0))] [] w) :
   CallsD Tryz.prog 136 #[.pointer (some ⟨bi,0,none⟩)] (.panicking [⟨.iface 278 (.agg #[]),false,false⟩]) w λe u2 w'=>u2 = .panicking [⟨.iface 278 (.agg #[]),true,false⟩]/\(e = .returned (.tuple #[])/\Ws w [bi] [ah bi (.cells #[.bool false] 4 (0,0))] [] w'):=by
 refine BF Tryz.func136 O 3 O O O O O (λ_=>rfl) (.inr ⟨_,O,O,O⟩) ?_;refine LW (W':=Ws w [bi] [ah bi (.cells #[.bool x] 4 (0,0))] []) (λ_ e=>by subst e; exact hw) (V0 (U3 G7 O) (ab ?_));refine WC.Nt O ?_;refine Cr (an 0 Y O O O sz4 O O O (Ln ?_));refine E0 O λw' hw=>?_;exact ⟨O,hw⟩
theorem avr (s:List UInt8) (w:World) (hs:s.length<=9223372036854775807) :
   Calls Tryz.prog 66 #[st s,.func (.func 67) #[] #[]] w λe w'=>∃(f:List UInt8×List aN) (ok:Bool) (a:Option Addr) (c:Nat),e = .returned (.tuple #[.agg #[st f.1,.slice a f.2.length c],.bool ok])/\(ok=true->yW s=some f)/\(ok=false->yW s=none)/\Ws w [] [bt 131 4 aN.cells a c (f.2)] [] w':=by
 refine NU Tryz.func66 O 20 O O ?_;refine CE (Vs:=[]) (Ws.init (by simp)) (ad ?_);refine Al Y O j7 λb4=>?_;refine Al Y O zr4 λb5=>?_;refine ab (ad (V0 (zb O) ?_));refine WL.defer Y O ?_;refine ab (ad (aa O (V0 (Yb auC auB O O) ?_)));refine WL.box Y O O λR0=>?_;refine ae O (ab (ad (aa O (aa O ?_))));refine WL.UZ [_] _ Y O avk O O O _ _ _ _ _ _ ([]) (by simp) (λw hw=>avm R0 s w hs hw) ?_ ?_
 ·intro t ht;refine Ep ?_;refine WE.front 1 O ?_;refine WE.zg ad_ (s0 [_] _ _ O (λw hw=>avq b5 _ w hw)) (eZ O (cZ 2 O O j8 O) (oV 0 O O O vN)) λw' hw=>?_;refine ⟨([],[]),false,none,0,O,by simp,λ_=>by simp [yW,ht],?_⟩;have h:=Ws.drop (L:=[_,_,_]) (L':=[]) hw;exact h.eM 131 4
 intro r hr;refine an 3 Y O O O lJ O O O (ab (Cs ?_));refine WC.EI (ri [.cell 4 65,.cell 5 4]) [3,2] [(1,true),(2,true),(3,true),(4,true),(5,true),(0,false),(6,false),(7,false)] mixed (by kernel_rfl) (by kernel_rfl) (λ_ _ _ _ _ hd h=>zh (fn:=Tryz.f66) [.cell 4 65,.cell 5 4] O hd h) ?_;refine D0 O (bR [3,2]) (Ym O) (D0 O (bR [3,2]) (bD O) (D0 O (bR [3,2]) (Yf Ie O) (D0 O (bR [3,2]) (Yd 0 O O O bW) (D0 O (bR [3,2]) (y5 O O) ?_))));refine De O (bR [3,2]) ?_;refine V0 (bk 3 O O j8 O) (Ln (Ed ?_));refine De O (bR [3,2]) ?_;refine an 3 Y O O O lJ O O O (Ln (Ed ?_));refine De O (bR [3,2]) ?_;refine an 2 Y O O O sz4 O O O (Ln (Ed ?_));refine WD.nil (bR [3,2]) ?_;refine Et (aA ?_);refine WE.front 2 O ?_;refine WE.NV ad_ (s0 [_] _ _ O (λw hw=>avp b5 _ w hw)) (eZ O (cZ 3 O O j8 O) (oV 0 O O O vN)) λw' hw=>?_;refine ⟨(r.1.1,r.1.2.1),r.1.2.2==[],r.2.1,r.2.2,O,λh=>?_,λh=>?_,?_⟩
 · simp only [beq_iff_eq] at h
   simp [yW,hr,h]
 · simp only [beq_eq_false_iff_ne] at h
   unfold yW;rw [hr];obtain ⟨⟨nm,its,rest⟩,q⟩:=r
   cases rest with
   | nil=>exact absurd rfl h
   | cons _ _=>rfl
 · exact Ws.vd (L:=[_]) (Ws.out 0 (Ws.out 0 hw))
theorem avs (s:List UInt8) (w:World) :
   Calls Tryz.prog 23 #[st s] w λe w'=>∃r:SP,e = .returned (.tuple #[.agg #[st (i' s).1.1,.slice r.1 (i' s).1.2.length r.2],.int .i64 (i' s).2])/\Ext w w'/\Sl lp 4 (nv w w') r.1 r.2 (i' s).1.2:=by
 refine enter Tryz.func23 O 24 O O ?_;refine CE (Vs:=[]) (Ws.init (by simp)) (ad ?_);refine Al Y O j7 λb2=>?_;refine ae O (ab (Cs (ad (aa O (V0 (qU dy O) (V0 (cI O O) (ab ?_)))))));refine Cc O (λai=>?_) (λai=>?_)
 ·have hl:32768<s.length:=by simp at ai; omega
  have hR:i' s=(([],[]),2):=by rw [i',if_pos hl]
  refine ad (V0 (Yb j7 AJ O O) (an 0 Y O O O lJ O O O (ae O (ab (aA (Er ?_))))));refine WE.dA (eZ O (cZ 0 O O j8 O) (gC O)) λw' hw=>?_;rw [hR];exact ⟨(none,0),O,hw.fr,Sl.nil⟩
 have hl:¬32768<s.length:=by simp at ai; omega
 refine aE (ad (aa O ?_));refine Lw (ι:=(List UInt8×List aN)×Bool×Option Addr×Nat) [] _ Y O avl O O (λr=>.tuple #[.agg #[st r.1.1,.slice r.2.2.1 r.1.2.length r.2.2.2],.bool r.2.1]) (λr=>[bt 131 4 aN.cells r.2.2.1 r.2.2.2 (r.1.2)]) (λr=>(r.2.1=true->yW s=some r.1)/\(r.2.1=false->yW s=none)) [] (by simp) (λw hw=>(avr s w (by omega)).mono λe w' ⟨f,ok,a,c,h1,h2,h3,h4⟩=>⟨(f,ok,a,c),h1,⟨h2,h3⟩,h4⟩) ?_;intro r hr;refine aa O (V0 (Yx O O) (V0 (Yx O O) ?_));refine Al Y O j7 λb4=>?_;refine an 0 Y O O O lJ O O O (ae O (ab (Cs (ad (aa O (V0 (dK O) (aa O ?_)))))));apply Lo 3 O O O O Y O O O O O
 ·intro du;refine Vg (bk 0 O O j8 O) (Lp (.g O O O) O SG O (λw hw=>RX (hv w) _ _ _ _ w (kR w) (hw.agd 1 O aN.bq (λ_ _ _ _ h=>h))) (Vg (eL O O) ?_));exact Gt 3 O O O
 refine ab ?_;refine Cc O (λaw=>?_) (λaw=>?_)
 ·have hR:i' s=(([],[]),1):=by
    unfold i';rw [if_neg hl]
    cases aJ:r.2.1 with
    | false=>rw [hr.2 aJ]
    | true=>
      rw [hr.1 aJ]
      have:¬lV r.1.1 r.1.2=0:=by simpa [aJ] using aw
      simp [this]
  refine ad (V0 (Yb j7 AJ O O) (an 2 Y O O O lJ O O O (ae O (ab (aA (Er ?_))))));refine WE.dA (eZ O (cZ 2 O O j8 O) (gC O)) λw' hw=>?_;rw [hR];exact ⟨(none,0),O,hw.fr,Sl.nil⟩
 have hR:i' s=(r.1,0):=by
   unfold i';rw [if_neg hl];simp at aw;rw [hr.1 aw.1];simp [aw.2]
 refine aE (ad (V0 (bk 0 O O j8 O) (an 2 Y O O O lJ O O O (ae O (ab (aA ?_))))));refine WE.dA (eZ O (cZ 2 O O j8 O) (gC O)) λw' hw=>?_;rw [hR];exact ⟨r.2.2,O,hw.fr,hw.kS 1 O aN.bq (λ_ _ _ _ h=>h)⟩
def yX (ke ks:Nat) (H:View) (b o:Nat) (m:aD):Prop:=∃r:jV,aR H b o (fq m r)/\ko ke ks H r m
structure GOr where
 i:Nat
 M:List (cD (List UInt8))
 c:Nat
theorem avt {l:List aD} (h:4<l.length):jG l=2:=by rw [jG,if_pos h]
theorem avu {l:List aD} {i:Nat} {m:aD} (h4:¬4<l.length) (hi:l[i]? = some m) (h0:∀x ∈ l.take i,fG x=0) (h:¬fG m=0):jG l=fG m:=by
 rw [jG,if_neg h4,B0 fG hi (p6.2 h0) h,tg h]
theorem aeb {l:List aD} (h4:¬4<l.length) (h0:∀x ∈ l,fG x=0):jG l=if et (fZ l)=true then 6 else if E8 l=true then 0 else 5:=by
 rw [jG,if_neg h4,p6.2 h0,lX]
theorem Nb {α:Type} {l:List α} {i:Nat} {x:α} {p:α->Prop} (hx:l[i]? = some x) (h:∀y ∈ l.take i,p y) (hp:p x):∀y ∈ l.take (i+1),p y:=by
 intro y hy;rw [iU hx] at hy
 rcases List.mem_append.1 hy with hy | hy
 · exact h y hy
 · rw [List.mem_singleton] at hy; subst hy; exact hp
theorem avv {l:List aD} {m:aD} {s:List UInt8} (hm:m ∈ l) (hs:s ∈ m.ag) (h:(iA l s).isSome=false):E8 l=false:=by
 unfold E8;rw [List.all_eq_false];refine ⟨m,hm,?_⟩;rw [Bool.not_eq_true,List.all_eq_false];exact ⟨s,hs,by simp [h]⟩
theorem avw {l:List aD} (h:∀m ∈ l,∀s ∈ m.ag,(iA l s).isSome=true):E8 l=true:=List.all_eq_true.2 λm hm=>List.all_eq_true.2 λs hs=>h m hm s hs
theorem qR:eo Tryz.prog 80=some 5:=by kernel_rfl
theorem avx:fo Tryz.prog 198=some [(0,1),(1,1)]:=by kernel_rfl
theorem avy:zeroOf Tryz.prog 198=some (.agg #[.slice none 0 0,.map none]):=by kernel_rfl
theorem Nc:bw Tryz.prog 198 1=some 1:=by kernel_rfl
theorem avz (H:View) (ke ks:Nat) (a:Option Addr) (c:Nat) (l:List aD) (w:World) (hH:Le H w) (hm:Sl (yX ke ks) 5 H a c l) (hb:∀m ∈ l,wM m<=109951162777) :
   Calls Tryz.prog 105 #[.slice a l.length c] w λe w'=>∃r:Nat×Nat,e = .returned (.tuple #[.pointer (if jG l=0 then some ⟨r.1,0,none⟩ else none),.int .i64 (jG l)])/\Ext w w'/\(jG l=0->vc (nv w w') r.1 1=some (.map (some r.2))/\(nv w w') r.2=some (bh st (f_ (fZ l) 0) l.length)):=by
 have dR:=hm.cap;have eQ:=hm.max;refine enter Tryz.func105 O 76 O O ?_;refine CE (Vs:=[H]) (Ws.init (by simp [hH])) (ad (ae O (ae O (ab (Cs (ad (aa O (V0 (Yn qR O) (V0 (cI O O) ?_)))))))));refine ab ?_;refine Cc O (λai=>?_) (λai=>?_)
 ·have h4:4<l.length:=by simp at ai; omega
  refine ad (ae O (ae O (ab (aA (Er ?_)))));refine WE.gi O O O λw' hw=>?_;rw [avt h4];exact ⟨(0,0),O,hw.fr,λh=>by cases h⟩
 have h4:¬4<l.length:=by simp at ai; omega
 refine aE (ad (aa O ?_));refine WL.oY st Y O λck=>?_;refine V0 (Yb avy avx O O) ?_;refine WL.box Y O O λju=>?_;refine ae O (ab (Cs (ad (aa O (V0 (Yn qR O) (aa O (ab (Cb ?_))))))));refine cq (ι:=GOr) (λg=>[(23,.int .i64 (g.i:Int))]) [(0,_),(4,_),(21,_),(22,_)] (λg=>Ws w [] [ah ju (.cells #[.slice a l.length c,.map (some ck)] 198 (0,0)),ah ck (bh st g.M g.c)] [H]) (λg=>g.i<=l.length/\(∀m ∈ l.take g.i,fG m=0)/\O2 (fZ l) g.i g.M g.c) (λg=>l.length-g.i) ⟨0,[],0⟩ ⟨Nat.zero_le _,by simp,.inl ⟨by simp,O,O⟩⟩ (sc O (sc O (sc O (sc O (sc O sn))))) (λ_ h=>h) ?_;intro g ⟨hi,bT,hT⟩;refine ad (V0 (bj O O) (ab (Cs ?_)));refine Cc O (λaw=>?_) (λaw=>?_)
 ·have av:g.i<l.length:=by simpa using aw
  obtain ⟨m,lQ⟩:∃q,l[g.i]? = some q:=⟨_,List.getElem?_eq_getElem av⟩;obtain ⟨Im,Io,Bk,sN⟩:=hm.aS g.i m lQ;obtain ⟨rm,avA,avB⟩:=sN;have avC:=List.mem_of_getElem? lQ;have aBr:=hb m avC;have Cx:=B7 lQ;refine aE (Cs (Cb (ad (aa O (V0 (Yo qR O O Bk (by omega)) (V0 (cJ 0 iW O O O (avA)) ?_))))));refine Al Y O oK λb6=>?_;refine ae O (an 0 Y O O O pC O O O (ab (Cs (ad (V0 (bk 0 O O iW O) (Lp Y O RP O (λw hw=>Qu H ke ks rm m w (hw.vs _ (by simp)) avB (by omega)) (ae O (ab (ad (aa O ?_))))))))));refine V0 (eL O O) (ab ?_);refine Cc O (λaO=>?_) (λaO=>?_)
  ·have kT:¬fG m=0:=by simpa using aO
   refine ad (aa O (ae O (ae O (ab (aA (Er (bE (Er (Er (bE (Er ?_)))))))))));refine WE.gi O O O λw' hw=>?_;rw [avu h4 lQ bT kT];exact ⟨(0,0),by rw [if_neg kT],hw.fr,λh=>absurd h kT⟩
  have kT:fG m=0:=by simpa using aO
  refine aE ?_;refine WC.mr 2 [(0,true),(1,true),(2,true),(3,true),(4,true),(5,true),(6,true),(7,false)] mixed (by kernel_rfl) (λ_ _ _ d _ h=>by cases d<;>exact h) ?_;refine D0 O (Wp 2) (Ym O) (D0 O (Wp 2) (bD O) (D0 O (Wp 2) (Yf Nc O) (D0 O (Wp 2) (Yd 1 O O O wB) (D0 O (Wp 2) (Yf zR O) (D0 O (Wp 2) (Yd 0 O O O bW) (D0 O (Wp 2) (Ym O) ?_))))));refine De O (Wp 2) ?_;refine WL.rr 2 ix Y iH dy O O O O ?_;refine Ln (Ed ?_);refine WD.nil (Wp 2) ?_;refine Eb (Et (Cr (V0 (Yi O O O (by omega)) (aa O (Ln ?_)))));exact Ea (⟨g.i+1,dv m.nm (.int .i64 (g.i:Int)) g.M g.c,gS m.nm g.M g.c⟩:GOr) (by show _-(g.i+1)<_; omega) ⟨(by show g.i+1<=_; omega),Nb lQ bT kT,ahQ hT Cx⟩ (sc O (sc O (sc O (sc O (sc O sn))))) (λ_ h=>Wd 1 h)
 have bP:g.i=l.length:=by simp at aw; omega
 rw [bP,List.take_length] at bT;refine Ce (Ex (Ex (bA (Et (Cs (ad (aa O (V0 (bD O) (V0 (Yf Nc O) (V0 (Yd 0 O O O wB) (V0 (NS 1 iH O O) (aa O ?_))))))))))));refine V0 (Yn qR O) (V0 (bj O O) (ab ?_));refine Cc O (λbd=>?_) (λbd=>?_)
 ·have hlen:g.M.length<l.length:=by simp at bd; omega
  have yT:et (fZ l)=true:=by
    rcases hT with ⟨h1,h2,h3⟩ | ⟨h1,h2⟩
    · rw [h2,OZ] at hlen; simp [xO] at hlen; omega
    · rw [bP,<-xO l,List.take_length] at h1
      rw [nr] at h1; simpa using h1
  refine ad (ae O (ae O (ab (aA (Er ?_)))));refine WE.gi O O O λw' hw=>?_;rw [aeb h4 bT,yT];exact ⟨(0,0),O,hw.fr,λh=>by cases h⟩
 have hlen:¬g.M.length<l.length:=by simp at bd; omega
 obtain ⟨j9,hM,sJ⟩:(fZ l).Nodup/\g.M=f_ (fZ l) 0/\g.c=l.length:=by
   rcases hT with ⟨h1,h2,h3⟩ | ⟨h1,h2⟩
   · rw [bP,<-xO l,List.take_length] at h1
     rw [bP,<-xO l,List.take_length] at h2;exact ⟨h1,h2,by omega⟩
   · omega
 have yT:=nr.1 j9;rw [hM,sJ];have pX:=aeb h4 bT;rw [yT] at pX;refine aE (Cs (ad (aa O (V0 (Yn qR O) (aa O (ab (Cb ?_)))))));refine CW (ι:=Nat) (λi=>[(51,.int .i64 (i:Int))]) [(4,_),(49,_),(50,_)] (λi=>i<=l.length/\∀m ∈ l.take i,∀s ∈ m.ag,(iA l s).isSome=true) (λi=>l.length-i) 0 ⟨Nat.zero_le _,by simp⟩ (sc O (sc O (sc O (sc O sn)))) ?_;intro i ⟨LV,Mj⟩;refine ad (V0 (bj O O) (ab (Cs ?_)));refine Cc O (λbC=>?_) (λbC=>?_)
 ·have av:i<l.length:=by simpa using bC
  obtain ⟨n,T1⟩:∃q,l[i]? = some q:=⟨_,List.getElem?_eq_getElem av⟩;obtain ⟨pbn,pon,han,FI⟩:=hm.aS i n T1;obtain ⟨rn,avE,T2⟩:=FI;have aec:=List.mem_of_getElem? T1;have aBu:=hb n aec;have hku:=T2.ag.cap;have hkm:=T2.ag.max;refine aE (Cs (Cb (ad (V0 (Yo qR O O han (by omega)) (V0 (cJ 0 iW O O O (avE)) ?_)))));refine Al Y O oK λb9=>?_;refine an 0 Y O O O pC O O O (ab (ad (V0 (Yf sr O) (V0 (Yd 0 O O O eE) (V0 (Yn cz O) (aa O (ab (Cb ?_))))))));refine CW (ι:=Nat) (λk=>[(58,.int .i64 (k:Int))]) [(4,_),(49,_),(50,_),(51,_),(56,_),(57,_)] (λk=>k<=n.ag.length/\∀s ∈ n.ag.take k,(iA l s).isSome=true) (λk=>n.ag.length-k) 0 ⟨Nat.zero_le _,by simp⟩ (sc O (sc O (sc O (sc O (sc O (sc O (sc O sn))))))) ?_;intro k ⟨hk,T3⟩;refine ad (V0 (bj O O) (ab (Cs ?_)));refine Cc O (λcU=>?_) (λcU=>?_)
  ·have av:k<n.ag.length:=by simpa using cU
   obtain ⟨s,fp⟩:∃q,n.ag[k]? = some q:=⟨_,List.getElem?_eq_getElem av⟩;obtain ⟨pJ,pos,has,gY⟩:=T2.ag.aS k s fp;have gY:aR H pJ (pos+k*1) (cM s):=gY;refine aE (Cs (Cb (ad (V0 (Yo cz O O has (by omega)) (V0 (bo 0 bW O O (gY 0 _ O)) (ae O (ab (ad (aa O (V0 (bD O) (V0 (Yf Nc O) ?_)))))))))));refine V0 (Yd 1 O O O wB) (aa O (V0 (I8 2 ix iH dy me O O O) ?_));rw [(E' _ _).1,(E' _ _).2];refine aa O (V0 (Yx O O) (V0 (Yx O O) (ae O (ae O (ab (ad (aa O (V0 (dK O) ?_))))))));refine ab ?_;refine Cc O (λdb=>?_) (λdb=>?_)
   ·have e_:(iA l s).isSome=false:=by simpa [iA] using db
    refine ad (ae O (ae O (ab (aA (bE (Er (Er (bE (bE (Er (Er (bE (Er ?_)))))))))))));refine WE.gi O O O λw' hw=>?_;rw [pX,avv aec (List.mem_of_getElem? fp) e_];exact ⟨(0,0),O,hw.fr,λh=>by cases h⟩
   have z_:(iA l s).isSome=true:=by simpa [iA] using db
   refine Ck (Eb (Et (Cr (V0 (Yi O O O (by omega)) (aa O (Ln ?_))))));exact Ea (k+1) (by omega) ⟨by omega,Nb fp T3 z_⟩ (sc O (sc O (sc O (sc O (sc O (sc O (sc O sn))))))) (λ_ h=>h)
  have vT:k=n.ag.length:=by simp at cU; omega
  rw [vT,List.take_length] at T3;refine Ce (Ex (Ex (bA (Eb (Et (Cr (V0 (Yi O O O (by omega)) (aa O (Ln ?_)))))))));exact Ea (i+1) (by omega) ⟨by omega,Nb T1 Mj T3⟩ (sc O (sc O (sc O (sc O sn)))) (λ_ h=>Wd 1 h)
 have vP:¬i<l.length:=by simpa using bC
 have avF:∀m ∈ l,∀s ∈ m.ag,(iA l s).isSome=true:=λm hm=>Mj m (by rw [List.take_of_length_le (by omega)]; exact hm)
 have Bm:jG l=0:=by rw [pX,avw avF]; rfl
 refine Ce (Ex (Ex (bA (Et (ad (aa O (ae O (ae O (ab (aA ?_))))))))));refine WE.gi O O O λw' hw=>?_;rw [Bm];exact ⟨(ju,ck),O,hw.fr,λ_=>⟨hw.NK 0 O O,hw.VX 1 O⟩⟩
def iM (i:Nat):List Value:=[.int .i64 (i:Int)]
theorem yY (i:Nat):(iM i).length=1:=rfl
def aed (H:View) (b o:Nat) (i:Nat):Prop:=aR H b o (iM i)
def T4 (x:Nat):Int:=if x=0 then 0 else if x=1 then 1 else if x<=3 then 2 else 3
def gP (d:List Nat) (j:Nat):Nat:=d.getD j 0
theorem aee {d:List Nat} {j:Nat} (h:j<d.length):d[j]? = some (gP d j):=by simp [gP,List.getD,List.getElem?_eq_getElem h]
def Bn (l:List aD) (d:List Nat) (ss:List Tx):Int:=if ss.all (kz l d)=true then -1 else ((ss.findIdx λs=>!kz l d s:Nat):Int)
theorem avG {l:List aD} {d:List Nat} {ss:List Tx} (h:∀s ∈ ss,kz l d s=true):Bn l d ss = -1:=by rw [Bn,if_pos (List.all_eq_true.2 h)]
theorem avH {l:List aD} {d:List Nat} {ss:List Tx} {i:Nat} {s:Tx} (hi:ss[i]? = some s) (bT:∀s ∈ ss.take i,kz l d s=true) (h:kz l d s=false):Bn l d ss=(i:Int):=by
 have av:=(List.getElem?_eq_some_iff.1 hi).1;have hs:=(List.getElem?_eq_some_iff.1 hi).2;rw [Bn,if_neg (λh2=>by rw [List.all_eq_true] at h2; rw [h2 s (List.mem_of_getElem? hi)] at h; cases h)]
 congr 1
 rw [List.findIdx_eq av];refine ⟨by rw [hs,h]; rfl,λj hj=>?_⟩;rw [bT _ (by rw [List.mem_take_iff_getElem]; exact ⟨j,by omega,rfl⟩)]
 rfl
theorem avI (l:List aD) (d:List Nat) (ss:List Tx):decide (Bn l d ss≥0) = !ss.all (kz l d):=by
 unfold Bn
 by_cases h:ss.all (kz l d)=true
 · rw [if_pos h,h]; rfl
 · rw [if_neg h,Bool.eq_false_iff.2 h]; simp
structure Nd where
 i:Nat
 d:List Nat
theorem avJ {l:List aD} (hn:(fZ l).Nodup) {d:List Nat} (hd:∀x ∈ d,x<l.length) (j9:d.Nodup) {i j a b:Nat} (ha:d[i]? = some a) (hb:d[j]? = some b) (tc:i≠j) (h:¬rT (fu l a) (fu l b)<0):rR l b a:=by
 have de:fu l a≠fu l b:=λe=>by
   have:=OT hn (hd a (List.mem_of_getElem? ha)) (hd b (List.mem_of_getElem? hb)) e;subst this;exact tc ((List.getElem?_inj (List.getElem?_eq_some_iff.1 ha).1 j9).1 (ha.trans hb.symm))
 rcases Wy _ _ de with h1 | h1
 · exact absurd (WH.2 h1) h
 · exact h1
theorem avK {R:Nat->Nat->Prop} {d:List Nat} {i j:Nat} (h:om R d i) (hj:d.length<=i):om R d j:=λx y a b h1 h2 ha hb=>h x y a b h1 (by have:=(List.getElem?_eq_some_iff.1 hb).1; omega) ha hb
theorem avL {R:Nat->Nat->Prop} {d:List Nat}:om R d 1:=λx y a b h1 h2=>by omega
theorem aef:Enters Tryz.prog 160:=enters_of Tryz.func160 (by kernel_rfl) rfl
theorem avM:Tryz.prog.underlying 305=some (.int .u64):=by kernel_rfl
theorem avN:Enters Tryz.prog 207:=enters_of Tryz.func207 (by kernel_rfl) rfl
theorem DZ:dQ Tryz.prog 80=true:=by kernel_rfl
theorem avO:Enters Tryz.prog 108:=enters_of Tryz.func108 (by kernel_rfl) rfl
theorem avP:Enters Tryz.prog 107:=enters_of Tryz.func107 (by kernel_rfl) rfl
theorem aeg (s:Tx) (w:World) :
   Calls Tryz.prog 160 #[st s] w λe w'=>e = .returned (.bool false)/\Ext w w':=by
 refine enter Tryz.func160 O 6 O O ?_;refine CE (Vs:=[]) (Ws.init (by simp)) (ad (ae O (ab (ad (aa O (aa O (V0 (Oz O O O) (ae O ?_))))))));refine ab (aA ?_);refine R1 O O λw' hw=>?_;exact ⟨O,hw.fr⟩
theorem avQ (s t:Tx) (w:World) :
   Calls Tryz.prog 108 #[st s,st t] w λe w'=>e = .returned (.int .i64 (rT s t))/\Ext w w':=by
 refine enter Tryz.func108 O 20 O O ?_;refine CE (Vs:=[]) (Ws.init (by simp)) (ad (ae O (ab (ad (aa O (Lp Y O aef O (λw hw=>aeg _ w) (ae O (ab (ad ?_)))))))));refine aa O (Lp Y O aef O (λw hw=>aeg _ w) (ae O (ab (Cs (ad (aa O (ab ?_)))))));refine WC.lj O ?_;refine aE (Cs (ad (aa O (ab ?_))));refine WC.lj O ?_;refine aE (Cs (ad (aa O (aa O (V0 (ajV O O) (ab ?_))))));refine Cc O (λbd=>?_) (λbd=>?_)
 ·refine ad (ae O (ab (aA (Er ?_))));refine R1 O O λw' hw=>?_;have h:jg s t=true:=bd;exact ⟨by rw [rT,if_pos h],hw.fr⟩
 refine aE (Cs (ad (aa O (aa O (V0 (ajW O O) (ab ?_))))));refine Cc O (λbC=>?_) (λbC=>?_)
 ·refine ad (ae O (ab (aA (Er ?_))));refine R1 O O λw' hw=>?_
  have h:¬jg s t=true:=by rw [Bool.not_eq_true]; exact bd
  have h2:(!(jg s t||s==t))=true:=bC;exact ⟨by rw [rT,if_neg h,if_pos h2],hw.fr⟩
 refine aE (ad (ae O (ab (aA ?_))));refine R1 O O λw' hw=>?_
 have h:¬jg s t=true:=by rw [Bool.not_eq_true]; exact bd
 have h2:¬(!(jg s t||s==t))=true:=by rw [Bool.not_eq_true]; exact bC
 exact ⟨by rw [rT,if_neg h,if_neg h2],hw.fr⟩
theorem avR (x:Nat) (w:World) (hx:x<=4) :
   Calls Tryz.prog 207 #[.int .u64 (x:Int)] w λe w'=>e = .returned (.int .i64 (T4 x))/\Ext w w':=by
 have hwr:IntKind.u8.wrap (x:Int)=(x:Int):=by rcases (show x=0\/x=1\/x=2\/x=3\/x=4 by omega) with rfl | rfl | rfl | rfl | rfl<;>rfl
 refine enter Tryz.func207 O 25 O O ?_;refine CE (Vs:=[]) (Ws.init (by simp)) (ad (ae O (ab (Cs (ad (aa O (V0 (fm O O) (ab ?_))))))));refine Cc O (λai=>?_) (λai=>?_)
 ·exfalso
  simp at ai;omega
 refine aE (Cs (ad (aa O (V0 (fm O O) (ab ?_)))));refine Cc O (λaw=>?_) (λaw=>?_)
 ·exfalso
  simp at aw;omega
 refine aE (Cs (ad (aa O (V0 (fm O O) (ab ?_)))));refine Cc O (λaO=>?_) (λaO=>?_)
 ·exfalso
  simp at aO;omega
 refine aE (ad (aa O (aa O (V0 (Bz avM CA O) ?_))));rw [hwr];refine V0 (y6 dy rfl rfl (show _=some (UInt8.ofNat (T4 x).toNat) by rcases (show x=0\/x=1\/x=2\/x=3\/x=4 by omega) with rfl | rfl | rfl | rfl | rfl<;>rfl)) (V0 (Bz CA ie rfl) (V0 (Ei rfl rfl) (V0 (Ya rfl) (ab (aA ?_)))));refine R1 O O λw' hw=>?_;exact ⟨by rcases (show x=0\/x=1\/x=2\/x=3\/x=4 by omega) with rfl | rfl | rfl | rfl | rfl<;>rfl,hw.fr⟩
theorem avT (x:Nat) (w:World) (hx:x<=4) :
   Calls Tryz.prog 159 #[.int .u64 (x:Int)] w λe w'=>e = .returned (.int .i64 (T4 x))/\Ext w w':=by
 refine enter Tryz.func159 O 8 O O ?_;refine CE (Vs:=[]) (Ws.init (by simp)) (ad (ae O (ab (Cs ?_))));refine WC.lj O ?_;refine aE (ad (aa O (Lp Y O avN O (λw hw=>avR x w hx) (ae O (ab (aA ?_))))));refine R1 O O λw' hw=>?_;exact ⟨O,hw.fr⟩
theorem avU (H Hm:View) (ke ks b1:Nat) (am:Option Addr) (cm:Nat) (l:List aD) (h1:vc H b1 0=some (.slice am l.length cm)) (hm:Sl (yX ke ks) 5 Hm am cm l) (i j:Nat) (w:World) (hH:Le H w) (hHm:Le Hm w) (hi:i<l.length) (hj:j<l.length) :
   Calls Tryz.prog 107 #[.int .i64 (i:Int),.int .i64 (j:Int),.pointer (some ⟨b1,0,none⟩)] w λe w'=>e = .returned (.int .i64 (rT (fu l i) (fu l j)))/\Ext w w':=by
 obtain ⟨mi,aeh⟩:∃m,l[i]? = some m:=⟨_,List.getElem?_eq_getElem hi⟩;obtain ⟨dW,dX,dZ,rx,avW,aBx⟩:=hm.aS i mi aeh;have M6:=xN aeh;obtain ⟨mj,aei⟩:∃m,l[j]? = some m:=⟨_,List.getElem?_eq_getElem hj⟩;obtain ⟨jK,jL,eX,ry,lh,aBy⟩:=hm.aS j mj aei;have hny:=xN aei;refine enter Tryz.func107 O 17 O O ?_;refine CE (Vs:=[H,Hm]) (Ws.init (by simp [hH,hHm])) (ad (ae O (ab (Cs ?_))));refine WC.nc [(0,true),(1,true),(2,true),(3,true),(4,true),(5,true),(6,true),(7,true),(8,true),(9,true),(10,false),(11,true)] mixed (by kernel_rfl) (λ_ _ _ d _ h=>by cases d<;>exact h) ?_;refine D0 O (λ_ h=>h) (bo 0 DZ O O (h1)) (D0 O (λ_ h=>h) (Ym O) (D0 O (λ_ h=>h) (Yo qR O O dZ hi) (D0 O (λ_ h=>h) (Yf zR O) (D0 O (λ_ h=>h) (bo 1 bW O O (avW 0 _ O)) (D0 O (λ_ h=>h) (bo 0 DZ O O (h1)) (D0 O (λ_ h=>h) (Ym O) (D0 O (λ_ h=>h) (Yo qR O O eX hj) ?_)))))));refine D0 O (λ_ h=>h) (Yf zR O) (D0 O (λ_ h=>h) (bo 1 bW O O (lh 0 _ O)) ?_);refine De O (λ_ h=>h) ?_;refine Lp Y O avO O (λw hw=>avQ _ _ w) (Ln (Ed (D0 O (λ_ h=>h) (Ya O) ?_)));refine WD.nil (λ_ h=>h) ?_;refine Et (aA ?_);refine R1 O O λw' hw=>?_;exact ⟨by rw [M6,hny],hw.fr⟩
theorem avY (H Hm:View) (ke ks b1:Nat) (am:Option Addr) (cm:Nat) (l:List aD) (h1:vc H b1 0=some (.slice am l.length cm)) (hm:Sl (yX ke ks) 5 Hm am cm l) (a:Option Addr) (c:Nat) (d0:List Nat) (hn:(fZ l).Nodup) (hd:∀x ∈ d0,x<l.length) (j9:d0.Nodup) (h4:d0.length<=4) (w:World) (hw:Ws w (List.flatMap ao.ids [bt 3 1 iM a c d0]) [bt 3 1 iM a c d0] [H,Hm] w) :
   Calls Tryz.prog 198 #[.slice a d0.length c,.int .i64 0,.int .i64 (d0.length:Int),.func (.func 107) #[] #[.pointer (some ⟨b1,0,none⟩)]] w λe w'=>∃d:List Nat,e = .returned (.tuple #[])/\(d.Perm d0/\om (rR l) d d.length)/\Ws w (List.flatMap ao.ids [bt 3 1 iM a c d0]) [bt 3 1 iM a c d] [H,Hm] w':=by
 refine enter Tryz.func198 O 53 O O ?_;refine CE hw (ad (aa O (V0 (IT (a:=0) (b:=1) O O O O (by omega)) (ae O (ab (Cb ?_))))));refine cq (ι:=Nd) (λg=>[(8,.int .i64 (g.i:Int))]) [(0,_),(1,_),(2,_),(3,_)] (λg=>Ws w (List.flatMap ao.ids [bt 3 1 iM a c d0]) [bt 3 1 iM a c g.d] [H,Hm]) (λg=>g.d.Perm d0/\om (rR l) g.d g.i) (λg=>d0.length-g.i) ⟨1,d0⟩ ⟨List.Perm.refl _,avL⟩ (sc O (sc O (sc O (sc O (sc O sn))))) (λ_ h=>h) ?_;intro g ⟨hp,hs⟩;refine Cs (ad (aa O (aa O (V0 (bj O O) (ab ?_)))));refine Cc O (λai=>?_) (λai=>?_)
 ·have av:g.i<d0.length:=by simpa using ai
  have iT:=hp.length_eq;refine aE (Cs (Cb (ad (aa O (ae O (ab (Cb ?_)))))));refine cq (ι:=Nd) (λq=>[(9,.int .i64 (q.i:Int))]) [(0,_),(1,_),(2,_),(3,_),(8,_)] (λq=>Ws w (List.flatMap ao.ids [bt 3 1 iM a c d0]) [bt 3 1 iM a c q.d] [H,Hm]) (λq=>zB (rR l) d0 q.d g.i q.i) (λq=>q.i) ⟨g.i,g.d⟩ (ahR hp (by rw [iT]; exact av) hs) (sc O (sc O (sc O (sc O (sc O (sc O sn)))))) (λ_ h=>h) ?_;intro q hq;refine Cs (Cs ?_);have hql:q.d.length=d0.length:=hq.perm.length_eq;have SR:=hq.ji;have T5:∀x ∈ q.d,x<l.length:=λx hx=>hd x (hq.perm.subset hx);have hqn:q.d.Nodup:=hq.perm.nodup_iff.2 j9;have Bo:=aee (d:=q.d) (j:=q.i) (by omega);have Bp:=aee (d:=q.d) (j:=q.i-1) (by omega);refine WC.BJ 0 O (by omega) λxb qS hxc hxm=>?_;refine WC.nc [(0,true),(1,true),(2,true),(3,true),(4,true),(5,true),(6,true),(7,true),(8,true),(9,true),(10,true),(11,true),(12,true),(13,true),(14,false),(15,true),(16,true)] mixed (by kernel_rfl) (λ_ _ _ d _ h=>by cases d<;>exact h) ?_;refine D0 O (λ_ h=>h) (Ym O) (D0 O (λ_ h=>h) (Ym O) (D0 O (λ_ h=>h) (cI O O) (D0 O (λ_ h=>h) (Ym O) ?_)));apply WD.and 12 (x:=decide (rT (fu l (gP q.d q.i)) (fu l (gP q.d (q.i-1)))<0)) O O O O O Y O (λ_ h=>h) O O O O
  ·intro du
   have hg:0<q.i:=by simpa using du
   refine Dq O (.g O O O) O (λ_ h=>h) (Ym O) (Dq O (.g O O O) O (λ_ h=>h) (Ym O) (Dq O (.g O O O) O (λ_ h=>h) (Ym O) (Dq O (.g O O O) O (λ_ h=>h) (Yo iX O O qS (by omega)) (Dq O (.g O O O) O (λ_ h=>h) (xz (y:=(gP q.d q.i)) 0 q.i 0 O O qS O yY Bo O ar) (Dq O (.g O O O) O (λ_ h=>h) (Ym O) (Dq O (.g O O O) O (λ_ h=>h) (Ym O) (Dq O (.g O O O) O (λ_ h=>h) (sX ((q.i-1:Nat):Int) O O (by omega) (by omega)) ?_)))))));refine Dq O (.g O O O) O (λ_ h=>h) (Yo iX O O qS (by omega)) (Dq O (.g O O O) O (λ_ h=>h) (xz (y:=(gP q.d (q.i-1))) 0 (q.i-1) 0 O O qS O yY Bp O ar) ?_);refine De O (λ_ h=>h) ?_;refine WL.Bv (.g O O O) O avP O O (λw hw=>avU H Hm ke ks b1 am cm l h1 hm (gP q.d q.i) (gP q.d (q.i-1)) w (hw.vs _ (by simp)) (hw.vs _ (by simp)) (T5 _ (List.mem_of_getElem? Bo)) (T5 _ (List.mem_of_getElem? Bp))) ?_;refine Ln (Ed (Dq O (.g O O O) O (λ_ h=>h) (bj O O) ?_));exact Gi 12 (λ_ h=>h) O O O
  refine WD.nil (λ_ h=>h) ?_;refine Et ?_;refine Cc O (λaw=>?_) (λaw=>?_)
  ·obtain ⟨hg,av0⟩:0<q.i/\rT (fu l (gP q.d q.i)) (fu l (gP q.d (q.i-1)))<0:=by simpa using aw
   have av1:(q.d.set q.i (gP q.d (q.i-1)))[q.i-1]? = some (gP q.d (q.i-1)):=by rw [List.getElem?_set_ne (by omega)]; exact Bp
   have mo:q.i-1+1=q.i:=by omega
   have hqs:zB (rR l) d0 ((q.d.set q.i (gP q.d (q.i-1))).set (q.i-1) (gP q.d q.i)) g.i (q.i-1):=by
     have h:=ahT (j:=q.i-1) (a:=(gP q.d q.i)) (b:=(gP q.d (q.i-1))) (by rw [mo]; exact hq) (by rw [mo]; exact Bo) Bp (WH.1 av0);rw [mo] at h; exact h
   refine aE (Cs (Cb ?_));refine CU (λ_=>true) [] [15,16,17] (.q false 0 (.q false 1 (.q false 2 (.q false 3 (.q false 4 (.q false 5 (.q false 6 (.q false 7 (.q false 8 (.q true 9 (.q false 10 (.q false 11 (.q false 12 (.q true 13 (.q false 14 .nil))))))))))))))) mixed (by kernel_rfl) (λ_ _ _ d _ _ h=>by cases d<;>exact h) ?_;refine U0 O (λ_ h=>h) (Ym O) (U0 O (λ_ h=>h) (Ym O) (U0 O (λ_ h=>h) (Ym O) (U0 O (λ_ h=>h) (Ym O) (U0 O (λ_ h=>h) (sX ((q.i-1:Nat):Int) O O (by omega) (by omega)) (U0 O (λ_ h=>h) (Ym O) (U0 O (λ_ h=>h) (Ym O) (U0 O (λ_ h=>h) (sX ((q.i-1:Nat):Int) O O (by omega) (by omega)) ?_)))))));refine U0 O (λ_ h=>h) (Yo iX O O qS (by omega)) (U0 O (λ_ h=>h) (xz (y:=(gP q.d (q.i-1))) 0 (q.i-1) 0 O O qS O yY Bp O ar) (U0 O (λ_ h=>h) (Ym O) (U0 O (λ_ h=>h) (Ym O) (U0 O (λ_ h=>h) (Yo iX O O qS (by omega)) (U0 O (λ_ h=>h) (xz (y:=(gP q.d q.i)) 0 q.i 0 O O qS O yY Bo O ar) (U0 O (λ_ h=>h) (Yo iX O O qS (by omega)) ?_))))));refine WU.nil (λ_ h=>h) ?_;refine WS.e O ?_;refine WL.storeT (y:=(gP q.d q.i)) 0 q.i 0 (gP q.d (q.i-1)) Y O O O qS O yY Bo di O O (by decide) O ?_;refine Ln (Es ?_);refine WS.e O ?_;refine V0 (Yo iX O O qS (by omega)) (Ln (Es ?_));refine WS.e O ?_;refine WL.storeT (y:=(gP q.d (q.i-1))) 0 (q.i-1) 0 (gP q.d q.i) Y O O O qS O yY av1 di O O (by decide) O ?_;refine Ln (Es ?_);refine WS.nil ?_;refine Eb (Et (Cr (aa O (V0 (sX ((q.i-1:Nat):Int) O O (by omega) (by omega)) (ae O (Ln ?_))))));exact Ea (⟨q.i-1,(q.d.set q.i (gP q.d (q.i-1))).set (q.i-1) (gP q.d q.i)⟩:Nd) (by show q.i-1<q.i; omega) hqs (sc O (sc O (sc O (sc O (sc O (sc O sn)))))) (λ_ h=>h)
  have OA:om (rR l) q.d (g.i+1):=by
    by_cases hz:q.i=0
    · rw [hz] at hq; exact ahU hq
    · have M7:¬rT (fu l (gP q.d q.i)) (fu l (gP q.d (q.i-1)))<0:=λh=>by simp [h] at aw; omega
      have mo:q.i-1+1=q.i:=by omega
      exact ahV (R:=rR l) (d0:=d0) (i:=g.i) (λa b c h1 h2=>OR _ _ _ h1 h2) (j:=q.i-1) (a:=(gP q.d q.i)) (b:=(gP q.d (q.i-1))) (by rw [mo]; exact hq) (by rw [mo]; exact Bo) Bp (avJ hn T5 hqn Bo Bp (by omega) M7)
  refine Ce (Ex (Ex (bA (Eb (Et (Cr (aa O (V0 (Yi O O O (by omega)) (ae O (Ln ?_))))))))));exact Ea (⟨g.i+1,q.d⟩:Nd) (by show _-(g.i+1)<_; omega) ⟨hq.perm,OA⟩ (sc O (sc O (sc O (sc O (sc O sn))))) (λ_ h=>h)
 have bP:d0.length<=g.i:=by simp at ai; omega
 refine Ce (Ex (Ex (bA ?_)));refine E0 O λw' hw=>?_;exact ⟨g.d,O,⟨hp,avK hs (by rw [hp.length_eq]; exact bP)⟩,hw⟩
theorem av3 {x:Nat} (h:x<=4):IntKind.u64.wrap (x:Int)=(x:Int):=by rcases (show x=0\/x=1\/x=2\/x=3\/x=4 by omega) with rfl | rfl | rfl | rfl | rfl<;>rfl
theorem av4 {l:List aD} {d:List Nat} {s:Tx} (h:(iA l s).isSome=true):((if d.contains ((idxOf s (fZ l) 0).getD 0)=true then (1:Int) else 0)==0) = !kz l d s:=by
 obtain ⟨j,hj⟩:=Option.isSome_iff_exists.1 h;have O6:idxOf s (fZ l) 0=some j:=hj;rw [O6];unfold kz;rw [hj]
 show ((if d.contains j=true then (1:Int) else 0)==0) = !d.contains j
 cases d.contains j<;>rfl
theorem av5:Enters Tryz.prog 198:=enters_of Tryz.func198 (by kernel_rfl) rfl
theorem av6:Tryz.prog.underlying 230=some (.int .u64):=by kernel_rfl
theorem av7:Enters Tryz.prog 159:=enters_of Tryz.func159 (by kernel_rfl) rfl
theorem av8:Enters Tryz.prog 158:=enters_of Tryz.func158 (by kernel_rfl) rfl
theorem T6:dQ Tryz.prog 195=true:=by kernel_rfl
theorem av9:dQ Tryz.prog 190=true:=by kernel_rfl
theorem Nf:Tryz.prog.underlying 195=some (.map 3 3):=by kernel_rfl
theorem av':Enters Tryz.prog 110:=enters_of Tryz.func110 (by kernel_rfl) rfl
theorem av_:Enters Tryz.prog 161:=enters_of Tryz.func161 (by kernel_rfl) rfl
theorem awa (H Hm:View) (ke ks b1:Nat) (am:Option Addr) (cm:Nat) (l:List aD) (h1:vc H b1 0=some (.slice am l.length cm)) (hm:Sl (yX ke ks) 5 Hm am cm l) (a:Option Addr) (c:Nat) (d0:List Nat) (hn:(fZ l).Nodup) (hd:∀x ∈ d0,x<l.length) (j9:d0.Nodup) (h4:d0.length<=4) (lY:Int) (w:World) (hw:Ws w (List.flatMap ao.ids [bt 3 1 iM a c d0]) [bt 3 1 iM a c d0] [H,Hm] w) :
   Calls Tryz.prog 158 #[.slice a d0.length c,.int .i64 0,.int .i64 (d0.length:Int),.int .i64 lY,.func (.func 107) #[] #[.pointer (some ⟨b1,0,none⟩)]] w λe w'=>∃d:List Nat,e = .returned (.tuple #[])/\(d.Perm d0/\om (rR l) d d.length)/\Ws w (List.flatMap ao.ids [bt 3 1 iM a c d0]) [bt 3 1 iM a c d] [H,Hm] w':=by
 refine enter Tryz.func158 O 148 O O ?_;refine CE hw (ad (ae O (ab (ad (ae O (ab (Cb ?_)))))));refine CW (ι:=Unit) (λg=>[]) [(0,_),(1,_),(2,_),(4,_)] (λg=>True) (λg=>0) () trivial (sc O (sc O (sc O (sc O sn)))) ?_;intro g _;refine Cb (ad (aa O (aa O (V0 (sX (d0.length:Int) O O (by omega) (by omega)) (ae O (ab (Cs (ad (aa O (V0 (iN O O) ?_))))))))));refine ab ?_;refine Cc O (λai=>?_) (λai=>?_)
 ·refine ad (aa O (aa O (aa O (aa O ?_))));refine Lw [_] _ Y O av5 O O _ _ _ [H,Hm] (by simp) (λw hw=>avY H Hm ke ks b1 am cm l h1 hm a c d0 hn hd j9 h4 w hw) ?_;intro d mK;refine ab (aA (Er (bE (Er (bE ?_)))));refine WE.Iy O λw' hw=>?_;exact ⟨d,O,mK,hw⟩
 exfalso
 simp at ai;omega
theorem awb (H Hm:View) (ke ks b1:Nat) (am:Option Addr) (cm:Nat) (l:List aD) (h1:vc H b1 0=some (.slice am l.length cm)) (hm:Sl (yX ke ks) 5 Hm am cm l) (a:Option Addr) (c:Nat) (d0:List Nat) (hn:(fZ l).Nodup) (hd:∀x ∈ d0,x<l.length) (j9:d0.Nodup) (h4:d0.length<=4) (w:World) (hw:Ws w (List.flatMap ao.ids [bt 3 1 iM a c d0]) [bt 3 1 iM a c d0] [H,Hm] w) :
   Calls Tryz.prog 106 #[.slice a d0.length c,.func (.func 107) #[] #[.pointer (some ⟨b1,0,none⟩)]] w λe w'=>∃d:List Nat,e = .returned (.tuple #[])/\(d.Perm d0/\om (rR l) d d.length)/\Ws w (List.flatMap ao.ids [bt 3 1 iM a c d0]) [bt 3 1 iM a c d] [H,Hm] w':=by
 refine enter Tryz.func106 O 14 O O ?_;refine CE hw (ad (aa O (V0 (Yn iX O) (ae O (ab (Cr (aa O (aa O ?_))))))));refine aa O (V0 (Bz ie av6 O) ?_);rw [av3 h4];refine Lp Y O av7 O (λw hw=>avT _ w h4) (aa O ?_);refine Lw [_] _ Y O av8 O O _ _ _ [H,Hm] (by simp) (λw hw=>awa H Hm ke ks b1 am cm l h1 hm a c d0 hn hd j9 h4 _ w hw) ?_;intro d mK;refine Ln ?_;refine E0 O λw' hw=>?_;exact ⟨d,O,mK,hw⟩
theorem awc (H8 Hd H4 Hg:View) (b8 mg b4 gp gm:Nat) (l:List aD) (d:List Nat) (h8:vc H8 b8 0=some (.map (some mg))) (hd:Hd mg=some (bh (λn:Int=>Value.int .i64 n) (lr d 0) d.length)) (h4:vc H4 b4 0=some (.pointer (some ⟨gp,0,none⟩))) (eh:vc Hg gp 1=some (.map (some gm))) (fB:Hg gm=some (bh st (f_ (fZ l) 0) l.length)) (s:Tx) (w:World) (sH:Le H8 w) (Is:Le Hd w) (wQ:Le H4 w) (It:Le Hg w) (hs:(iA l s).isSome=true) :
   Calls Tryz.prog 110 #[st s,.pointer (some ⟨b8,0,none⟩),.pointer (some ⟨b4,0,none⟩)] w λe w'=>e = .returned (.bool (!kz l d s))/\Ext w w':=by
 refine enter Tryz.func110 O 14 O O ?_;refine CE (Vs:=[H8,Hd,H4,Hg]) (Ws.init (by simp [sH,Is,wQ,It])) (ad (ae O (ab (Cs ?_))));refine WC.nc [(0,true),(1,true),(2,true),(3,true),(4,true),(5,true),(6,true),(7,true),(8,true),(9,true)] mixed (by kernel_rfl) (λ_ _ _ d _ h=>by cases d<;>exact h) ?_;refine D0 O (λ_ h=>h) (bo 0 T6 O O (h8)) (D0 O (λ_ h=>h) (bo 2 av9 O O (h4)) (D0 O (λ_ h=>h) (bD O) (D0 O (λ_ h=>h) (Yf Nc O) (D0 O (λ_ h=>h) (bo 3 wB O O (eh)) (D0 O (λ_ h=>h) (Ym O) (D0 O (λ_ h=>h) (Ji 3 O ix iH dy me O O (fB)) ?_))))));rw [(E' _ _).1];refine D0 O (λ_ h=>h) (Ji 1 O km Nf ie me O O (hd)) ?_;rw [O4];refine D0 O (λ_ h=>h) (aW O O) (D0 O (λ_ h=>h) (Ya O) ?_);refine WD.nil (λ_ h=>h) ?_;refine Et (aA ?_);refine R1 O O λw' hw=>?_;exact ⟨by rw [<-av4 hs],hw.fr⟩
theorem awd (H:View) (ax:Option Addr) (cs:Nat) (ss:List Tx) (xn:Sl rdStr 1 H ax cs ss) (H8 Hd H4 Hg:View) (b8 mg b4 gp gm:Nat) (l:List aD) (d:List Nat) (h8:vc H8 b8 0=some (.map (some mg))) (hd:Hd mg=some (bh (λn:Int=>Value.int .i64 n) (lr d 0) d.length)) (h4:vc H4 b4 0=some (.pointer (some ⟨gp,0,none⟩))) (eh:vc Hg gp 1=some (.map (some gm))) (fB:Hg gm=some (bh st (f_ (fZ l) 0) l.length)) (w:World) (hH:Le H w) (sH:Le H8 w) (Is:Le Hd w) (wQ:Le H4 w) (It:Le Hg w) (iT:∀s ∈ ss,(iA l s).isSome=true) :
   Calls Tryz.prog 161 #[.slice ax ss.length cs,.func (.func 110) #[] #[.pointer (some ⟨b8,0,none⟩),.pointer (some ⟨b4,0,none⟩)]] w λe w'=>e = .returned (.int .i64 (Bn l d ss))/\Ext w w':=by
 have hsc:=xn.cap;have hsm:=xn.max;refine enter Tryz.func161 O 19 O O ?_;refine CE (Vs:=[H,H8,Hd,H4,Hg]) (Ws.init (by simp [hH,sH,Is,wQ,It])) (ad (ae O (ab (Cs (ad (aa O (V0 (Yn cz O) (aa O (ab (Cb ?_))))))))));refine CW (ι:=Nat) (λi=>[(8,.int .i64 (i:Int))]) [(0,_),(1,_),(7,_)] (λi=>i<=ss.length/\∀s ∈ ss.take i,kz l d s=true) (λi=>ss.length-i) 0 ⟨Nat.zero_le _,by simp⟩ (sc O (sc O (sc O (sc O sn)))) ?_;intro i ⟨hi,bT⟩;refine ad (V0 (bj O O) (ab (Cs ?_)));refine Cc O (λai=>?_) (λai=>?_)
 ·have av:i<ss.length:=by simpa using ai
  obtain ⟨s,fp⟩:∃q,ss[i]? = some q:=⟨_,List.getElem?_eq_getElem av⟩;obtain ⟨pJ,pos,has,gY⟩:=xn.aS i s fp;have gY:aR H pJ (pos+i*1) (cM s):=gY;refine aE (Cs (Cb (ad (aa O (ae O (ab (ad (aa O (aa O (aa O (V0 (Yo cz O O has (by omega)) ?_)))))))))));refine V0 (bo 0 bW O O (gY 0 _ O)) ?_;refine WL.Bv Y O av' O O (λw hw=>awc H8 Hd H4 Hg b8 mg b4 gp gm l d h8 hd h4 eh fB s w (hw.vs _ (by simp)) (hw.vs _ (by simp)) (hw.vs _ (by simp)) (hw.vs _ (by simp)) (iT s (List.mem_of_getElem? fp))) ?_;refine ab ?_;refine Cc O (λaw=>?_) (λaw=>?_)
  ·have hf:kz l d s=false:=by simpa using aw
   refine ad (aa O (ae O (ab (aA (bE (Er (Er (bE (Er ?_)))))))));refine R1 O O λw' hw=>?_;exact ⟨by rw [avH fp bT hf],hw.fr⟩
  have hf:kz l d s=true:=by simpa using aw
  refine Ck (Eb (Et (Cr (V0 (Yi O O O (by omega)) (aa O (Ln ?_))))));exact Ea (i+1) (by omega) ⟨by omega,Nb fp bT hf⟩ (sc O (sc O (sc O (sc O sn)))) (λ_ h=>h)
 have bP:¬i<ss.length:=by simpa using ai
 rw [List.take_of_length_le (by omega)] at bT;refine Ce (Ex (Ex (bA (Et (ad (ae O (ab (aA ?_))))))));refine R1 O O λw' hw=>?_;exact ⟨by rw [avG bT],hw.fr⟩
theorem awe (H:View) (ax:Option Addr) (cs:Nat) (ss:List Tx) (xn:Sl rdStr 1 H ax cs ss) (H8 Hd H4 Hg:View) (b8 mg b4 gp gm:Nat) (l:List aD) (d:List Nat) (h8:vc H8 b8 0=some (.map (some mg))) (hd:Hd mg=some (bh (λn:Int=>Value.int .i64 n) (lr d 0) d.length)) (h4:vc H4 b4 0=some (.pointer (some ⟨gp,0,none⟩))) (eh:vc Hg gp 1=some (.map (some gm))) (fB:Hg gm=some (bh st (f_ (fZ l) 0) l.length)) (w:World) (hH:Le H w) (sH:Le H8 w) (Is:Le Hd w) (wQ:Le H4 w) (It:Le Hg w) (iT:∀s ∈ ss,(iA l s).isSome=true) :
   Calls Tryz.prog 109 #[.slice ax ss.length cs,.func (.func 110) #[] #[.pointer (some ⟨b8,0,none⟩),.pointer (some ⟨b4,0,none⟩)]] w λe w'=>e = .returned (.bool (!ss.all (kz l d)))/\Ext w w':=by
 refine enter Tryz.func109 O 9 O O ?_;refine CE (Vs:=[H,H8,Hd,H4,Hg]) (Ws.init (by simp [hH,sH,Is,wQ,It])) (ad (ae O (ab (ad (aa O (aa O (Lp Y O av_ O (λw hw=>awd H ax cs ss xn H8 Hd H4 Hg b8 mg b4 gp gm l d h8 hd h4 eh fB w (hw.vs _ (by simp)) (hw.vs _ (by simp)) (hw.vs _ (by simp)) (hw.vs _ (by simp)) (hw.vs _ (by simp)) iT) (V0 (fm O O) ?_))))))));refine ae O (ab (aA ?_));refine R1 O O λw' hw=>?_;exact ⟨by rw [<-avI],hw.fr⟩
def yZ (l:List aD) (r:List Nat×Int):Prop:=(¬jG l=0/\r=([],jG l))\/(jG l=0/\∃d,Jt l d/\r=B9 l d)
theorem awf {l:List aD} {r r':List Nat×Int} (h:yZ l r) (h':yZ l r'):r=r':=by
 rcases h with ⟨h1,rfl⟩ | ⟨h1,d,hd,rfl⟩
 · rcases h' with ⟨_,rfl⟩ | ⟨h2,_⟩
   · rfl
   · exact absurd h2 h1
 · rcases h' with ⟨h2,_⟩ | ⟨_,d',Nr,rfl⟩
   · exact absurd h1 h2
   · rw [WG hd Nr]
structure GQr where
 out:List Nat
 s:SP
theorem aek {l:List aD} {d:List Nat} {x:Nat} {u:List Tx} (h:rQ l x=u):(decide ((if d.contains x=true then (1:Int) else 0) > 0)||!u.all (kz l d)) = !mC l d x:=by
 unfold mC;rw [h]
 cases d.contains x<;>simp
theorem awg:Enters Tryz.prog 105:=enters_of Tryz.func105 (by kernel_rfl) rfl
theorem awh:zeroOf Tryz.prog 190=some (.pointer none):=by kernel_rfl
theorem awi:cC Tryz.prog 190=some 1:=by kernel_rfl
theorem awj:Enters Tryz.prog 106:=enters_of Tryz.func106 (by kernel_rfl) rfl
theorem awk:zeroOf Tryz.prog 195=some (.map none):=by kernel_rfl
theorem awl:cC Tryz.prog 195=some 1:=by kernel_rfl
theorem awm:Enters Tryz.prog 109:=enters_of Tryz.func109 (by kernel_rfl) rfl
theorem awn (H:View) (ke ks:Nat) (a:Option Addr) (c:Nat) (l:List aD) (w:World) (hH:Le H w) (hm:Sl (yX ke ks) 5 H a c l) (hb:∀m ∈ l,wM m<=109951162777) :
   Calls Tryz.prog 39 #[.slice a l.length c] w λe w'=>∃r:SP×List Nat×Int,e = .returned (.tuple #[.slice r.1.1 r.2.1.length r.1.2,.int .i64 r.2.2])/\Ext w w'/\Sl aed 1 (nv w w') r.1.1 r.1.2 r.2.1/\yZ l r.2:=by
 have dR:=hm.cap;have eQ:=hm.max;refine enter Tryz.func39 O 68 O O ?_;refine CE (Vs:=[H]) (Ws.init (by simp [hH])) (ad ?_);refine WL.box Y O O λb1=>?_;refine ae O (ae O (ab ?_));refine WC.scope ?_;refine ad (V0 (Yd 0 O O O DZ) ?_);refine Ld Y O awg O (λr:Nat×Nat=>.tuple #[.pointer (if jG l=0 then some ⟨r.1,0,none⟩ else none),.int .i64 (jG l)]) (λHg r=>jG l=0->vc Hg r.1 1=some (.map (some r.2))/\Hg r.2=some (bh st (f_ (fZ l) 0) l.length)) (λw hw=>avz H ke ks a c l w (hw.vs _ (by simp)) hm hb) ?_;intro Hg j5 hfg awo;refine aa O (V0 (Yx O O) (V0 (Yx O O) ?_));refine Al Y O awh λb4=>?_;refine an 0 Y O O O awi O O O (ae O (ab (Cs (ad (aa O (V0 (eL O O) (ab ?_)))))));refine Cc O (λai=>?_) (λai=>?_)
 ·have de:¬jG l=0:=by simpa using ai
  refine ad (aa O (ae O (ae O (ab (aA (Er ?_))))));refine WE.P9 ?_;refine WE.gi O O O λw' hw=>?_;exact ⟨((none,0),[],jG l),O,hw.fr,Sl.nil,.inl ⟨de,O⟩⟩
 have Bm:jG l=0:=by simpa using ai
 have ho:=OS.1 Bm;obtain ⟨eh,fB⟩:=awo Bm;refine aE (Cs (fg 0 (.cells #[.pointer (some ⟨j5.1,0,none⟩)] 190 (0,0)) O (by rw [Bm]; rfl) ?_));refine WC.JZ 0 O λH4 wQ=>?_;have hv4:vc H4 b4 0=some (.pointer (some ⟨j5.1,0,none⟩)):=rH wQ rfl;refine WC.JZ 0 O λH1 pD=>?_;have D1:vc H1 b1 0=some (.slice a l.length c):=rH pD rfl;refine Cr (ae O (LW (λ_ h=>h.eM 3 1) (ab (Cs (ad (V0 (bo 0 DZ O O (D1)) (V0 (Yn qR O) (aa O (ab (Cb ?_))))))))));refine cq (ι:=Nat×SP) (λg=>[(22,.int .i64 (g.1:Int)),(6,.slice g.2.1 (List.range g.1).length g.2.2)]) [(1,_),(2,_),(3,_),(4,_),(21,_)] (λg=>Ws w [] [bt 3 1 iM g.2.1 g.2.2 (List.range g.1)] [H1,H4,Hg,H]) (λg=>g.1<=l.length) (λg=>l.length-g.1) (0,(none,0)) (Nat.zero_le _) (sc O (sc O (sc O (sc O (sc O (sc O (sc O sn))))))) (λ_ h=>h) ?_;intro g oP;refine ad (V0 (bj O O) (ab (Cs ?_)));refine Cc O (λaw=>?_) (λaw=>?_)
 ·have aBF:g.1<l.length:=by simpa using aw
  have hrl:=List.length_range (n:=g.1);have se:=ho.eA;refine aE (Cs (Cb (ad (aa O (ae O (ab (Cr (aa O (aa O ?_)))))))));refine Lb Y O iZ O O O O λux=>?_;refine bL 0 (.cells (iM g.1).toArray 3 (0,0)) O (O) ?_;refine LA (g.1) 1 0 Y O iZ O O O O O O (by omega) (by omega) λa28 c28=>?_;refine ae O (Ln (Eb (Et (Cr (V0 (Yi O O O (by omega)) (aa O (Ln ?_)))))));rw [<-List.range_succ];exact Ea ((g.1+1,(a28,c28)):Nat×SP) (by show _-(g.1+1)<_; omega) (by show g.1+1<=_; omega) (sc O (sc O (sc O (sc O (sc O (sc O (sc O sn))))))) (λ_ h=>Wd 1 h)
 have bP:g.1=l.length:=by simp at aw; omega
 rw [bP];refine Ce (Ex (Ex (bA (Et (ad (aa O (V0 (zb O) ?_)))))));refine Lw (ι:=List Nat) [_] _ Y O awj O O (λ_=>.tuple #[]) (λd=>[bt 3 1 iM g.2.1 g.2.2 d]) (λd=>d.Perm (List.range l.length)/\om (rR l) d d.length) [H1,H] (by simp) (λw hw=>awb H1 H ke ks b1 a c l D1 hm g.2.1 g.2.2 (List.range l.length) ho.nd (by simp) List.nodup_range (by simpa using ho.eA) w hw) ?_;intro d mK;have FA:(List.range l.length).length=d.length:=mK.1.length_eq.symm
 have aBG:d.length=l.length:=by rw [<-FA,List.length_range]
 rw [FA];refine WL.n5 (rd:=aed) 0 O yY (λ_ _ _ _ h=>h) λH6 SV=>?_;refine ab (ad ?_);refine WL.oY (λn:Int=>Value.int .i64 n) Y O λmg=>?_;refine Al Y O awk λb8=>?_;refine an 0 Y O O O awl O O O (ab (Cs ?_));refine WC.JZ 0 O λH8 sH=>?_;have T7:vc H8 b8 0=some (.map (some mg)):=rH sH rfl;refine Cr (ae O (LW (λ_ h=>h.eM 3 1) (ab (Cs ?_))));refine WC.label ?_;refine Et (Cs (Cb ?_));refine cq (ι:=GQr) (λq=>[(9,.slice q.s.1 q.out.length q.s.2)]) [(1,_),(4,_),(6,_),(8,_)] (λq=>Ws w [] [bt 3 1 iM q.s.1 q.s.2 q.out,ah mg (bh (λn:Int=>Value.int .i64 n) (lr q.out 0) q.out.length)] [H8,H6,H1,H4,Hg,H]) (λq=>jh l q.out) (λq=>l.length-q.out.length) ⟨[],(none,0)⟩ jh.nil (sc O (sc O (sc O (sc O (sc O sn))))) (λ_ h=>h) ?_;intro q kP;refine Cs (ad (aa O (V0 (Yn iX O) (V0 (bo 2 DZ O O (D1)) (V0 (Yn qR O) (V0 (bj O O) (ab ?_)))))));refine Cc O (λaO=>?_) (λaO=>?_)
 ·have aBH:q.out.length<l.length:=by simpa using aO
  have se:=ho.eA;refine aE (Cb (Cs (ad (aa O (V0 (Yn iX O) (aa O (ab (Cb ?_))))))));refine CW (ι:=Nat) (λk=>[(41,.int .i64 (k:Int))]) [(1,_),(4,_),(6,_),(8,_),(9,_),(39,_),(40,_)] (λk=>k<=d.length/\∀y e,y<k->d[y]? = some e->mC l q.out e=false) (λk=>d.length-k) 0 ⟨Nat.zero_le _,λy e h=>by omega⟩ (sc O (sc O (sc O (sc O (sc O (sc O (sc O (sc O sn)))))))) ?_;intro k ⟨hk,e_⟩;refine ad (V0 (bj O O) (ab (Cs ?_)));refine Cc O (λbd=>?_) (λbd=>?_)
  ·have av:k<d.length:=by simpa using bd
   obtain ⟨x,bn⟩:∃q,d[k]? = some q:=⟨_,List.getElem?_eq_getElem av⟩;obtain ⟨dW,dX,dZ,cg⟩:=SV.aS k x bn;have cg:aR H6 dW (dX+k*1) (iM x):=cg
   have ze:x<l.length:=by simpa using mK.1.subset (List.mem_of_getElem? bn)
   obtain ⟨mx,Ng⟩:∃m,l[x]? = some m:=⟨_,List.getElem?_eq_getElem ze⟩;obtain ⟨Kd,Ke,vR,rz,A2,awq⟩:=hm.aS x mx Ng;have hnz:=xN Ng;have hux:=WA Ng;refine aE (Cs (Cb (ad (V0 (Yo iX O O dZ (by omega)) (V0 (bo 1 ar O O (cg 0 _ O)) (ae O (ab (Cs (ad (V0 (bo 0 T6 O O (T7)) (aa O (V0 (vh 1 km Nf ie me O O O) ?_))))))))))));rw [O4];refine V0 (cI O O) (aa O ?_);apply Lo 7 (x:=!mx.ag.all (kz l q.out)) O O O O Y O O O O O
   ·intro du;refine Vg (bo 2 DZ O O (D1)) (Vg (Ym O) (Vg (Yo qR O O vR ze) (Vg (Yf sr O) (Vg (bo 5 eE O O (A2 1 _ O)) (Vg (zb O) ?_)))));refine Lp (.g rfl rfl rfl) rfl awm rfl (λw hw=>awe H rz.a1 rz.c1 mx.ag awq.ag H8 (bv mg (bh (λn:Int=>Value.int .i64 n) (lr q.out 0) q.out.length)) H4 Hg b8 mg b4 j5.1 j5.2 l q.out T7 (by simp [bv]) hv4 eh fB w (hw.vs _ (by simp)) (hw.vs _ (by simp)) ((hw.mu 1 rfl).vs _ (by simp)) (hw.vs _ (by simp)) (hw.vs _ (by simp)) (λs hs=>by obtain ⟨j,hj⟩:=ho.ag mx (List.mem_of_getElem? Ng) s hs; rw [hj]; rfl)) ?_;exact Gt 7 O O O
   refine ab ?_;refine Cc O (λbC=>?_) (λbC=>?_)
   ·have hnr:mC l q.out x=false:=by rw [aek hux] at bC; simpa using bC
    refine Ce (Ex (bA (Et (Cr (V0 (Yi O O O (by omega)) (aa O (Ln ?_)))))))
    exact Ea (k+1) (by omega) ⟨by omega,λy e hy he=>by
        rcases Nat.lt_succ_iff_lt_or_eq.1 hy with h | h
        · exact e_ y e h he
        · subst h; rw [bn] at he; injection he with he; subst he; exact hnr⟩ (sc rfl (sc rfl (sc rfl (sc rfl (sc rfl (sc rfl (sc rfl (sc rfl sn)))))))) (λ_ h=>h)
   have T8:mC l q.out x=true:=by rw [aek hux] at bC; simpa using bC
   have T9:q.out.contains x=false:=by unfold mC at T8; revert T8; cases q.out.contains x<;>simp
   have aws:B8 l q.out x:=ahW mK.1 mK.2 bn T8 (λy e hy he=>e_ y e hy he);refine aE (ad (V0 (bo 0 T6 O O (T7)) (aa O (V0 (vh 1 km Nf ie me O O O) ?_))));rw [O4,T9,if_neg (by decide)];refine V0 ((show Yl _ _ _ _ (.int .i64 1) from IT (a:=0) (b:=1) O O O O (by omega))) ?_;refine WL.rr 1 km Y Nf ie O O O O ?_;rw [(WJ T9).1,(WJ T9).2];refine ab (ad (aa O (aa O ?_)));refine Lb Y O iZ O O O O λHy=>?_;refine bL 0 (.cells (iM x).toArray 3 (0,0)) O (O) ?_;refine LA (x) 1 0 Y O iZ O O O O O O (by omega) (by omega) λa65 c65=>?_;refine ae O (ab (Ce (Ec O (Ex (Ex (Ec O (Ex (bA ?_))))))));exact Ea (⟨q.out++[x],(a65,c65)⟩:GQr) (by show _-(q.out++[x]).length<_; simp; omega) (.snoc kP aws) (sc O (sc O (sc O (sc O (sc O sn))))) (λ_ h=>Wd 1 h)
  have vT:k=d.length:=by simp at bd; omega
  have awv:=ahX mK.1 (λy e hy=>e_ y e (by have:=(List.getElem?_eq_some_iff.1 hy).1; omega) hy);refine Ce (Ex (Ex (bA (Et (ad (ae O (ae O (ab (aA (bE (Er (bE (Er ?_)))))))))))));refine WE.P9 ?_;refine WE.gi O O O λw' hw=>?_;exact ⟨((none,0),[],9),O,hw.fr,Sl.nil,.inr ⟨Bm,q.out,⟨kP,.inr awv⟩,by rw [B9,if_neg (by omega)]⟩⟩
 have hle:q.out.length=l.length:=by
   have h1:=E9 (tp kP).2 (tp kP).1;simp at aO;omega
 refine Ce (Ex (Ex (bA (Et (ad (aa O (ae O (ae O (ab (aA ?_))))))))));refine WE.P9 ?_;refine WE.gi O O O λw' hw=>?_;exact ⟨(q.s,q.out,0),O,hw.fr,hw.kS 0 O yY (λ_ _ _ _ h=>h),.inr ⟨Bm,q.out,⟨kP,.inl hle⟩,by rw [B9,if_pos hle]⟩⟩
theorem aem {l:List aD} {d:List Nat} {e:Int} (h:yZ l (d,e)) (h0:e=0) (hp:0<l.length):vq l/\jh l d/\d.length=l.length:=by
 rcases h with ⟨h1,h2⟩ | ⟨h1,d2,he,h2⟩
 · injection h2 with _ h2
   exact absurd (h2.symm.trans h0) h1
 · unfold B9 at h2
   split at h2
   · rename_i hl
     injection h2 with h2 _
     subst h2;exact ⟨OS.1 h1,he.1,hl⟩
   · injection h2 with _ h2
     rw [h0] at h2;cases h2
theorem aww {l l':List aD} {f:Nat->Nat} {q:List Nat×Int} (h:yZ l' q) (r:Ren l l' f) (ho:vq l) {d:List Nat} (hd:jh l d) (hl:d.length=l.length):q=(d.map f,0):=by
 rcases h with ⟨h1,_⟩ | ⟨_,d2,he,rfl⟩
 · exact absurd (OS.2 (r.ok ho)) h1
 · have:=WG he (ai6 r ho hd hl)
   subst this;unfold B9;rw [if_pos (by rw [List.length_map,hl,r.len])]
def qT (l:List Tx) (r:List b_×Int):Prop:=(¬nE l=0/\r=([],nE l))\/(nE l=0/\∃q,yZ (e8 l) q/\r=pj l q)
theorem aen {l:List Tx} {r:List b_×Int} (h:qT l r) (h0:r.2=0):nE l=0/\∃d,yZ (e8 l) (d,0)/\vq (e8 l)/\jh (e8 l) d/\d.length=(e8 l).length/\r=iD (oB (e8 l) d) []:=by
 rcases h with ⟨h1,rfl⟩ | ⟨h1,⟨d,e⟩,hq,rfl⟩
 · exact absurd h0 h1
 · have he:e=0:=by
     unfold pj at h0
     by_cases k:e=0
     · exact k
     · rw [if_pos k] at h0; exact absurd h0 k
   subst he
   have hp:0<(e8 l).length:=by
     have:=(FC h1).1.1;simp [e8]; omega
   obtain ⟨a,b,c⟩:=aem hq rfl hp;exact ⟨h1,d,hq,a,b,c,by rw [pj,if_neg (by simp)]⟩
theorem awx {l:List Tx} {i j:Nat} {x y:Tx} (hi:l[i]? = some x) (hj:l[j]? = some y) {r r':List b_×Int} (h:qT l r) (h':qT ((l.set i y).set j x) r') (h0:r.2=0):r'=r:=by
 obtain ⟨he,d,hs,ho,hg,hl,rfl⟩:=aen h h0;have aeo:=ais (l:=e8 l) (i:=i) (j:=j) (x:=(bm x).1) (y:=(bm y).1) (by simp [e8,hi]) (by simp [e8,hj])
 have hm:e8 ((l.set i y).set j x)=((e8 l).set i (bm y).1).set j (bm x).1:=by simp [e8,List.map_set]
 have vf:nE ((l.set i y).set j x)=0:=by
   refine JY (by simpa using (FC he).1) λs hs=>(FC he).2 s ?_
   rcases List.mem_or_eq_of_mem_set hs with k | k
   · rcases List.mem_or_eq_of_mem_set k with k | k
     · exact k
     · subst k; exact List.mem_of_getElem? hj
   · subst k; exact List.mem_of_getElem? hi
 rcases h' with ⟨h1,_⟩ | ⟨_,q',hq',rfl⟩
 · exact absurd vf h1
 · rw [hm] at hq'
   have:=aww hq' aeo ho hg hl;subst this;rw [pj,if_neg (by simp),hm,YU aeo d (tp hg).1]
abbrev MP:=aD×jV
def Nh (x:MP):List Value:=fq x.1 x.2
theorem awy (x:MP):(Nh x).length=5:=rfl
def aeq (H:View) (b o:Nat) (x:MP):Prop:=aR H b o (Nh x)
theorem awz {ke ks:Nat} {K H:View} {a:Option Addr} {c:Nat} {ys:List MP} (h:Sl aeq 5 K a c ys) (hv:aK K H) (hm:∀y ∈ ys,ko ke ks H y.2 y.1):Sl (yX ke ks) 5 H a c (ys.map (·.1)):=by
 refine ⟨by rw [List.length_map]; exact h.cap,h.max,h.spot,λi x hx=>?_⟩;rw [List.getElem?_map] at hx;obtain ⟨y,hy,rfl⟩:=Option.map_eq_some_iff.1 hx;obtain ⟨b,o,ha,hr⟩:=h.aS i y hy;exact ⟨b,o,ha,y.2,aR.mono hv hr,hm y (List.mem_of_getElem? hy)⟩
theorem T' {H H':View} (hH:aK H H') {ke ks:Nat} {r:jV} {m:aD} (h:ko ke ks H r m):ko ke ks H' r m:=
 ⟨h.ag.imp λ_ _ _ h=>aR.mono hH h,h.decls.imp λ_ _ _ h=>aR.mono hH h,h.procs.imp λb o x hx=>VI hH (Nat.le_refl _) (Nat.le_refl _) b o x hx,h.main.imp λb o x hx=>zv hH (Nat.le_refl _) (Nat.le_refl _) b o x hx⟩
abbrev FP:=kD×SP
def D2 (x:FP):List Value:=uH x.1 x.2
theorem aer (x:FP):(D2 x).length=2:=rfl
def T_ (H:View) (b o:Nat) (x:FP):Prop:=aR H b o (D2 x)
theorem aes {K H:View} {a:Option Addr} {c:Nat} {ys:List FP} (h:Sl T_ 2 K a c ys) (hv:aK K H) (hm:∀y ∈ ys,Sl lp 4 H y.2.1 y.2.2 y.1.2):Sl wK 2 H a c (ys.map (·.1)):=by
 refine ⟨by rw [List.length_map]; exact h.cap,h.max,h.spot,λi x hx=>?_⟩;rw [List.getElem?_map] at hx;obtain ⟨y,hy,rfl⟩:=Option.map_eq_some_iff.1 hx;obtain ⟨b,o,ha,hr⟩:=h.aS i y hy;exact ⟨b,o,ha,y.2,aR.mono hv hr,hm y (List.mem_of_getElem? hy)⟩
def u5 (J:View) (M:List (cD Tx)) (fl:List (Tx×kD)):Prop:=∀s,∃r:SP,dO s M (.agg #[st [],.slice none 0 0]) = .agg #[st (ic fl s).1,.slice r.1 (ic fl s).2.length r.2]/\Sl lp 4 J r.1 r.2 (ic fl s).2
theorem u5.nil {J:View}:u5 J [] []:=λ_=>⟨(none,0),rfl,Sl.nil⟩
theorem u5.mv {J J':View} {M:List (cD Tx)} {fl:List (Tx×kD)} (h:u5 J M fl) (hv:aK J J'):u5 J' M fl:=λs=>by
 obtain ⟨r,h1,h2⟩:=h s;exact ⟨r,h1,uK hv h2⟩
theorem u5.put {J:View} {M:List (cD Tx)} {fl:List (Tx×kD)} (h:u5 J M fl) {k:Tx} {f:kD} {a:Option Addr} {n:Nat} (c:Nat) (hf:Sl lp 4 J a n f.2):u5 J (dv k (.agg #[st f.1,.slice a f.2.length n]) M c) ((k,f)::fl):=λs=>by
 by_cases e:s=k
 · subst e
   refine ⟨(a,n),by rw [zD,ic,if_pos rfl],?_⟩;rw [ic,if_pos rfl]; exact hf
 · obtain ⟨r,h1,h2⟩:=h s
   have e2:¬k=s:=λq=>e q.symm;refine ⟨r,by rw [E_ _ M c _ e,h1,ic,if_neg e2],?_⟩;rw [ic,if_neg e2]; exact h2
structure Qb where
 i:Nat
 es:List MP
 m:SP
 J:View
structure GB2 where
 i:Nat
 us:List XU
 o:SP
 fl:List (Tx×kD)
 M:List (cD Tx)
 c:Nat
 J:View
structure GB3 where
 k:Nat
 es:List FP
 r:SP
theorem awA {l:List Tx} {i:Nat} {x:Tx} (hl:¬(l.length<1\/4<l.length)) (h0:∀s ∈ l.take i,(bm s).2=0) (hx:l[i]? = some x) (h:¬(bm x).2=0):nE l=(bm x).2:=by
 rw [nE,if_neg hl];exact JW h0 hx h
theorem awB {l:List Tx} {i:Nat} {x:Tx} (h0:∀s ∈ l.take i,(bm s).2=0) (hx:l[i]? = some x) (h:(bm x).2=0):∀s ∈ l.take (i+1),(bm s).2=0:=λs hs=>by
 rw [iU hx] at hs
 rcases List.mem_append.1 hs with k | k
 · exact h0 s k
 · rw [List.mem_singleton] at k; subst k; exact h
theorem awC {l:List Tx} {i:Nat} {x:Tx} {es:List MP} {r:jV} (he:es.map (·.1)=e8 (l.take i)) (hx:l[i]? = some x):(es++[((bm x).1,r)]).map (·.1)=e8 (l.take (i+1)):=by
 rw [List.map_append,he,iU hx]; simp [e8]
theorem awD {l:List aD} {d:List Nat} {k:Nat} (h:¬k<d.length):oB l (d.drop k)=[]:=by
 rw [List.drop_eq_nil_of_le (by omega)]; rfl
theorem aev:e9 Tryz.prog 80 50 (.agg #[st [],.slice none 0 0,.slice none 0 0,.slice none 0 0,.slice none 0 0]) 5 112:=ja (by kernel_rfl)
theorem awE:Enters Tryz.prog 39:=enters_of Tryz.func39 (by kernel_rfl) rfl
theorem aew:Tryz.prog.underlying 83=some (.map 9 65):=by kernel_rfl
theorem Ua (HL G:View) (a:Option Addr) (c:Nat) (l:List Tx) (w:World) (Ub:Le HL w) (hG:Le G w) (hz:Laid G) (hm:Sl rdStr 1 HL a c l) :
   Calls Tryz.prog 11 #[.slice a l.length c] w λe w'=>∃r:SP×List b_×Int,e = .returned (.tuple #[.slice r.1.1 r.2.1.length r.1.2,.int .i64 r.2.2])/\Ext w w'/\Sl (HX 8 7) 5 (nv w w') r.1.1 r.1.2 r.2.1/\qT l r.2:=by
 have dR:=hm.cap;have eQ:=hm.max;refine enter Tryz.func11 O 109 O O ?_;refine CE (Vs:=[HL,G]) (Ws.init (by simp [Ub,hG])) (ad (ae O (ae O (ab (Cs (ad (aa O (V0 (Yn cz O) (V0 (bj O O) ?_)))))))));refine aa O ?_;apply Lo 3 O O O O Y O O O O O
 ·intro du;refine Vg (Ym O) (Vg (Yn cz O) (Vg (cI O O) ?_));exact Gt 3 O O O
 refine ab ?_;refine Cc O (λai=>?_) (λai=>?_)
 ·have iu:l.length<1\/4<l.length:=by simp at ai; omega
  refine ad (ae O (ae O (ab (aA (Er ?_)))));refine WE.gi O O O λw' hw=>?_
  have hE:nE l=2:=by rw [nE,if_pos iu]
  exact ⟨((none,0),[],2),O,hw.fr,Sl.nil,.inl ⟨by rw [hE]; decide,by rw [hE]⟩⟩
 have yP:¬(l.length<1\/4<l.length):=by simp at ai; omega
 refine aE (ad (ae O (LW (λ_ h=>h.eM 50 5) ?_)));refine WL.v0 ?_;refine ab (Cs (ad (aa O (V0 (Yn cz O) (aa O (ab (Cb ?_)))))));refine cq (ι:=Qb) (λg=>[(32,.int .i64 (g.i:Int)),(4,.slice g.m.1 g.es.length g.m.2)]) [(30,_),(31,_)] (λg=>Ws w [] [bt 50 5 Nh g.m.1 g.m.2 g.es] [g.J,HL,G]) (λg=>g.i<=l.length/\g.es.map (·.1)=e8 (l.take g.i)/\(∀s ∈ l.take g.i,(bm s).2=0)/\ew w g.J/\(∀e ∈ g.es,ko 7 6 g.J e.2 e.1)/\g.es.length=g.i) (λg=>l.length-g.i) ⟨0,[],(none,0),v0⟩ ⟨Nat.zero_le _,O,by simp,pW w,by simp,O⟩ (sc O (sc O (sc O (sc O sn)))) (λ_ h=>by have h:=Ws.bF h (a_:=[v0,HL,G]) (by simp); exact h) ?_;intro g ⟨hi,fV,h0,yU,y0,nq⟩;refine ad (V0 (bj O O) (ab (Cs ?_)));refine Cc O (λaw=>?_) (λaw=>?_)
 ·have av:g.i<l.length:=by simpa using aw
  obtain ⟨x,bn⟩:∃q,l[g.i]? = some q:=⟨_,List.getElem?_eq_getElem av⟩;obtain ⟨dW,dX,dZ,cg⟩:=hm.aS g.i x bn;have cg:aR HL dW (dX+g.i*1) (cM x):=cg;refine aE (Cs (Cb (ad (V0 (Yo cz O O dZ (by omega)) (V0 (bo 1 bW O O (cg 0 _ O)) (ae O (ab (ad (aa O ?_)))))))))
  refine Ld Y O Tr O (λr:jV=>.tuple #[.agg (fq ((bm x).1) r).toArray,.int .i64 ((bm x).2)]) (λH r=>ko 7 6 H r ((bm x).1)) (λw hw=>by
      have:=RQ G (x) w (hw.vs _ (by simp)) hz
      exact this) ?_
  intro F38 Ah aex h38;refine aa O (V0 (Yx O O) (V0 (Yx O O) ?_));refine Al Y O oK λb7=>?_;refine an 0 Y O O O pC O O O (ae O (ab (Cs (ad (aa O (V0 (eL O O) (ab ?_)))))));refine Cc O (λaO=>?_) (λaO=>?_)
  ·have iu:¬(bm x).2=0:=by simpa using aO
   refine ad (aa O (ae O (ae O (ab (aA (Er (bE (Er (Er (bE (Er ?_)))))))))));refine WE.gi O O O λw' hw=>?_;have hE:=awA yP h0 bn iu;exact ⟨((none,0),[],(bm x).2),O,hw.fr,Sl.nil,.inl ⟨by rw [hE]; exact iu,by rw [hE]⟩⟩
  have aJ:(bm x).2=0:=by simpa using aO
  refine aE (Cr (aa O (V0 (bk 0 O O iW O) ?_)));refine Lb Y O aev O O O O λDN=>?_;refine bL 0 (.cells (Nh ((bm x).1,Ah)).toArray 50 (0,0)) O (O) ?_;refine LA (((bm x).1,Ah)) 2 0 Y O aev O O O O O O (by omega) (by omega) λa47 c47=>?_;refine WL.jd λJ1 Bg Bh Bi=>?_;refine ae O (Ln (Eb (Et (Cr (V0 (Yi O O O (by omega)) (aa O (Ln ?_)))))))
  exact Ea (⟨g.i+1,g.es++[((bm x).1,Ah)],(a47,c47),J1⟩:Qb) (by show _-(g.i+1)<_; omega) ⟨by show g.i+1<=_; omega,awC fV bn,awB h0 bn aJ,Bi w aex yU,λy hy=>by
    rcases List.mem_append.1 hy with k | k
    · exact T' Bh (y0 y k)
    · rw [List.mem_singleton] at k; subst k; exact T' Bg h38,by simp [nq]⟩ (sc rfl (sc rfl (sc rfl (sc rfl sn)))) (λ_ h=>Wd 2 h)
 have bP:g.i=l.length:=by simp at aw; omega
 rw [bP,List.take_length] at fV h0;have D3:nE l=0:=JY (by omega) h0
 have hlE:g.es.length=(e8 l).length:=by rw [<-fV,List.length_map]
 rw [hlE]
 have hbM:∀m ∈ e8 l,wM m<=109951162777:=λm iG=>by
   obtain ⟨s,_,rfl⟩:=List.mem_map.1 iG;have:=yB s;omega
 refine Ce (Ex (Ex (bA (Et (Cs ?_)))));refine WC.n5 (rd:=aeq) 0 O awy (λ_ _ _ _ h=>h) λHM hHM=>?_;refine WC.jd λJM JMa JMb JMf=>?_
 have hS:Sl (yX 7 6) 5 JM g.m.1 g.m.2 (e8 l):=by
   have h9:=awz (ke:=7) (ks:=6) hHM JMa λy hy=>T' JMb (y0 y hy);rw [fV] at h9;exact h9
 have aBK:=hS.cap;have aBL:=hS.max;refine Cr (aa O ?_);refine Ld Y O awE O (λr:SP×List Nat×Int=>.tuple #[.slice r.1.1 r.2.1.length r.1.2,.int .i64 r.2.2]) (λF r=>Sl aed 1 F r.1.1 r.1.2 r.2.1/\yZ (e8 l) r.2) (λw hw=>awn JM 7 6 g.m.1 g.m.2 (e8 l) w (hw.vs _ (by simp)) hS hbM) ?_;intro Gc QU aak h51;obtain ⟨s51,d,y1⟩:=QU;obtain ⟨Ni,yh⟩:=h51;dsimp only at Ni yh;have aBM:=Ni.cap;have aBN:=Ni.max;refine aa O (V0 (Yx O O) (V0 (Yx O O) (ae O (ae O (ab (Cs (ad (aa O (V0 (eL O O) ?_)))))))));refine ab ?_;refine Cc O (λbd=>?_) (λbd=>?_)
 ·have iu:¬y1=0:=by simpa using bd
  refine ad (aa O (ae O (ae O (ab (aA (Er ?_))))));refine WE.gi O O O λw' hw=>?_;exact ⟨((none,0),[],y1),O,hw.fr,Sl.nil,.inr ⟨D3,(d,y1),yh,by rw [pj,if_pos iu]⟩⟩
 have D4:y1=0:=by simpa using bd
 have s7:0<(e8 l).length:=by simp [e8]; omega
 obtain ⟨ho,kP,FA⟩:=aem yh D4 s7;have se:=ho.eA;refine aE (ad ?_);refine WL.oY st Y O λC_=>?_;refine bL 0 (bh st ([]:List (cD Tx)) 0) O O (ae O (ab (ad (ae O (LW (λ_ h=>h.eM 40 5) ?_)))));refine WL.v0 ?_;refine ab (Cs (ad (aa O (V0 (Yn iX O) (aa O (ab (Cb ?_)))))));refine cq (ι:=GB2) (λp=>[(60,.int .i64 (p.i:Int)),(12,.slice p.o.1 p.us.length p.o.2)]) [(4,_),(11,_),(58,_),(59,_)] (λp=>Ws w [] [bt 40 5 XU.cells p.o.1 p.o.2 p.us,ah C_ (bh st p.M p.c)] [p.J,Gc,JM,HL,G]) (λp=>p.i<=d.length/\iD (oB (e8 l) d) []=vJ (p.us.map (·.1)) (iD (oB (e8 l) (d.drop p.i)) p.fl)/\ew w p.J/\(∀e ∈ p.us,je 8 7 p.J e.2 e.1)/\u5 p.J p.M p.fl/\p.us.length=p.i) (λp=>d.length-p.i) ⟨0,[],(none,0),[],[],0,v0⟩ ⟨Nat.zero_le _,YQ _ _,pW w,by simp,u5.nil,O⟩ (sc O (sc O (sc O (sc O (sc O (sc O sn)))))) (λ_ h=>by have h:=Ws.bF h (a_:=[v0,Gc,JM,HL,G]) (by simp); exact h) ?_;intro p ⟨lD,hG,hpf,hpd,hFM,iT⟩;refine ad (V0 (bj O O) (ab (Cs ?_)));refine Cc O (λbC=>?_) (λbC=>?_)
 ·have awN:p.i<d.length:=by simpa using bC
  obtain ⟨x,bn⟩:∃x,d[p.i]? = some x:=⟨_,List.getElem?_eq_getElem awN⟩;obtain ⟨dW,dX,dZ,cg⟩:=Ni.aS p.i x bn;have cg:aR Gc dW (dX+p.i*1) (iM x):=cg;have ze:x<(e8 l).length:=(tp kP).1 x (List.mem_of_getElem? bn);obtain ⟨m,lQ⟩:∃m,(e8 l)[x]? = some m:=⟨_,List.getElem?_eq_getElem ze⟩;obtain ⟨Im,Io,Bk,rz,sN,wG⟩:=hS.aS x m lQ;have D5:=hbM m (List.mem_of_getElem? lQ);have mK:=ajU bn lQ;have hmk:=(RZ (ho.vr m (List.mem_of_getElem? lQ))).eA;have aBP:=wG.ag.cap;have aBQ:=wG.ag.max;refine aE (Cs (Cb (ad (V0 (Yo iX O O dZ (by omega)) (V0 (bo 1 ar O O (cg 0 _ O)) (ae O (ab (ad (aa O (aa O (V0 (Yo qR O O Bk (by omega)) ?_)))))))))));refine V0 (cJ 2 iW O O O (sN)) ?_;refine Al Y O oK λLq=>?_;refine an 0 Y O O O pC O O O (ab (ad (ae O (LW (λ_ h=>h.eM 65 2) (ab (Cs (ad (V0 (Yf sr O) (V0 (Yd 1 O O O eE) (V0 (Yn cz O) ?_))))))))));refine aa O (ab (Cb ?_));refine cq (ι:=GB3) (λz=>[(71,.int .i64 (z.k:Int)),(16,.slice z.r.1 z.es.length z.r.2)]) [(4,_),(11,_),(12,_),(15,_),(58,_),(59,_),(60,_),(69,_),(70,_)] (λz=>Ws w [] [bt 65 2 D2 z.r.1 z.r.2 z.es,ah Lq (.cells (fq m rz).toArray 50 (0,0)),bt 40 5 XU.cells p.o.1 p.o.2 p.us,ah C_ (bh st p.M p.c)] [p.J,Gc,JM,HL,G]) (λz=>z.k<=m.ag.length/\z.es.map (·.1)=(m.ag.take z.k).map (ic p.fl)/\(∀e ∈ z.es,Sl lp 4 p.J e.2.1 e.2.2 e.1.2)/\z.es.length=z.k) (λz=>m.ag.length-z.k) ⟨0,[],(none,0)⟩ ⟨Nat.zero_le _,O,by simp,O⟩ (sc O (sc O (sc O (sc O (sc O (sc O (sc O (sc O (sc O (sc O (sc O sn))))))))))) (λ_ h=>h) ?_;intro z ⟨hzk,Nj,hzd,hzl⟩;refine ad (V0 (bj O O) (ab (Cs ?_)));refine Cc O (λcU=>?_) (λcU=>?_)
  ·have av:z.k<m.ag.length:=by simpa using cU
   obtain ⟨s,fp⟩:∃q,m.ag[z.k]? = some q:=⟨_,List.getElem?_eq_getElem av⟩;obtain ⟨pJ,pos,has,gY⟩:=wG.ag.aS z.k s fp;have gY:aR JM pJ (pos+z.k*1) (cM s):=gY;obtain ⟨rs,Uc,awO⟩:=hFM s;refine aE (Cs (Cb (ad (V0 (Yo cz O O has (by omega)) (V0 (bo 2 bW O O (gY 0 _ O)) (ae O (ab (Cr (aa O (aa O (aa O ?_)))))))))));refine V0 (vh 3 ix aew dy j7 O O O) ?_;rw [Uc];refine Lb Y O Ba O O O O λb79=>?_;refine bL 0 (.cells (D2 (ic p.fl s,rs)).toArray 65 (0,0)) O (O) ?_;refine LA ((ic p.fl s,rs)) 1 0 Y O Ba O O O O O O (by omega) (by omega) λa80 c80=>?_;refine ae O (Ln (Eb (Et (Cr (V0 (Yi O O O (by omega)) (aa O (Ln ?_)))))))
   exact Ea (⟨z.k+1,z.es++[(ic p.fl s,rs)],(a80,c80)⟩:GB3) (by show _-(z.k+1)<_; omega) ⟨by show z.k+1<=_; omega,by rw [List.map_append,Nj,iU fp]; simp,λy hy=>by
     rcases List.mem_append.1 hy with k | k
     · exact hzd y k
     · rw [List.mem_singleton] at k; subst k; exact awO,by simp [hzl]⟩ (sc rfl (sc rfl (sc rfl (sc rfl (sc rfl (sc rfl (sc rfl (sc rfl (sc rfl (sc rfl (sc rfl sn))))))))))) (λ_ h=>Wd 1 h)
  have Uc:z.k=m.ag.length:=by simp at cU; omega
  rw [Uc,List.take_length] at Nj
  have hlz:z.es.length=(m.ag.map (ic p.fl)).length:=by rw [<-Nj,List.length_map]
  rw [hlz];refine Ce (Ex (Ex (bA (Et (ad (V0 (bk 1 O O iW O) ?_))))));refine Ld Y O SD O (λr:SP=>.tuple #[.agg #[st (cG m).1.1,.slice r.1 (cG m).1.2.length r.2],.int .i64 (cG m).2]) (λH r=>Sl lp 4 H r.1 r.2 (cG m).1.2) (λw hw=>R2 JM 7 6 rz m w (hw.vs _ (by simp)) wG D5) ?_;intro F84 AP Sn Sz;refine aa O (V0 (Yx O O) (V0 (Yx O O) ?_));refine Al Y O j7 λC2=>?_;refine an 0 Y O O O lJ O O O (ae O (ab (Cs (ad (aa O (V0 (eL O O) (ab ?_)))))));refine Cc O (λdb=>?_) (λdb=>?_)
  ·have iu:¬(cG m).2=0:=by simpa using db
   refine ad (aa O (ae O (ae O (ab (aA (Er (bE (Er (Er (bE (Er ?_)))))))))));refine WE.gi O O O λw' hw=>?_;exact ⟨((none,0),[],(cG m).2),O,hw.fr,Sl.nil,.inr ⟨D3,(d,y1),yh,by rw [pj,if_neg (by simpa using D4),hG,mK,YR (by rw [YS iu]; exact iu),YS iu]⟩⟩
  have hfz:(cG m).2=0:=by simpa using db
  have Nk:=YT (M:=p.fl) hfz;refine aE (Cs ?_);refine WC.o3 (rd:=T_) 1 O (by simp) aer (λ_ _ _ _ h=>h) λHF awQ Hq=>?_;refine WC.jd λjc0 awR awS awT=>?_;refine WC.jd λJF Nl Iu JFf=>?_
  have Ud:Sl wK 2 JF z.r.1 z.r.2 (m.ag.map (ic p.fl)):=by
    have h9:=aes Hq (λ_ _ h=>Nl _ _ (awR _ _ h)) λy hy=>uK (λ_ _ h=>Iu _ _ h) (hzd y hy);rw [Nj] at h9;exact h9
  refine Cr (V0 (bk 1 O O iW O) (aa O ?_))
  refine Ld Y O A_ O (λr:jW=>.tuple #[.agg (eG (bJ m (m.ag.map (ic p.fl))).1 r).toArray,.int .i64 (bJ m (m.ag.map (ic p.fl))).2]) (λF r=>je (7+1) (6+1) F r (bJ m (m.ag.map (ic p.fl))).1) (λw hw=>by
      skip
      exact AQ JM JF 7 6 rz m z.r.1 z.r.2 (m.ag.map (ic p.fl)) w (hw.vs _ (by simp)) (hw.vs _ (by simp)) wG Ud D5) ?_
  intro F93 DW awU h93;refine aa O (V0 (Yx O O) (V0 (Yx O O) ?_));refine Al Y O pH λb21=>?_;refine an 0 Y O O O pI O O O (ae O (ab (Cs (ad (aa O (V0 (eL O O) (ab ?_)))))));refine Cc O (λej=>?_) (λej=>?_)
  ·have iu:¬(bJ m (m.ag.map (ic p.fl))).2=0:=by simpa using ej
   refine ad (aa O (ae O (ae O (ab (aA (Er (bE (Er (Er (bE (Er ?_)))))))))));refine WE.gi O O O λw' hw=>?_;exact ⟨((none,0),[],(bJ m (m.ag.map (ic p.fl))).2),O,hw.fr,Sl.nil,.inr ⟨D3,(d,y1),yh,by rw [pj,if_neg (by simpa using D4),hG,mK,YR (by rw [Nk]; exact iu),Nk]⟩⟩
  have awW:(bJ m (m.ag.map (ic p.fl))).2=0:=by simpa using ej
  refine aE (ad (aa O (V0 (Yf zR O) (V0 (Yd 2 O O O bW) (V0 (bk 1 O O j8 O) ?_)))));refine WL.rr 4 ix Y aew dy O O O O ?_;refine ab (Cr (aa O (V0 (bk 0 O O iJ O) ?_)));refine Lb Y O DR O O O O λaBV=>?_;refine bL 0 (.cells (XU.cells ((bJ m (m.ag.map (ic p.fl))).1,DW)).toArray 40 (0,0)) O (O) ?_;refine LA (((bJ m (m.ag.map (ic p.fl))).1,DW)) 4 0 Y O DR O O O O O O (by omega) (by omega) λawX awY=>?_;refine WL.jd λJ2 J2a Uf J2f=>?_;refine ae O (Ln (Eb (Et (Cr (V0 (Yi O O O (by omega)) (aa O (Ln ?_)))))))
  exact Ea (⟨p.i+1,p.us++[((bJ m (m.ag.map (ic p.fl))).1,DW)],(awX,awY),(m.nm,(cG m).1)::p.fl,dv m.nm (.agg #[st (cG m).1.1,.slice AP.1 (cG m).1.2.length AP.2]) p.M p.c,gS m.nm p.M p.c,J2⟩:GB2) (by show _-(p.i+1)<_; omega) ⟨by show p.i+1<=_; omega,by
      have h9:=P8 (us:=p.us.map (·.1)) (r:=oB (e8 l) (d.drop (p.i+1))) (show (fy p.fl m).2=0 by rw [Nk]; exact awW);rw [hG,mK,h9,Nk]
      simp,J2f w awU (JFf w (awT w (by exact awQ) Sn) hpf),λy hy=>by
    rcases List.mem_append.1 hy with k | k
    · exact (hpd y k).mv (λ_ _ h=>Uf _ _ (Iu _ _ h))
    · rw [List.mem_singleton] at k; subst k; exact h93.mv J2a,(hFM.mv (λ_ _ h=>Uf _ _ (Iu _ _ h))).put _ (uK (λ_ _ h=>Uf _ _ (Nl _ _ (awS _ _ h))) Sz),by simp [iT]⟩ (sc rfl (sc rfl (sc rfl (sc rfl (sc rfl (sc rfl sn)))))) (λ_ h=>Wd 4 h)
 have TZ:¬p.i<d.length:=by simpa using bC
 refine Ce (Ex (Ex (bA (Et (ad (aa O (ae O (ae O (ab (aA ?_))))))))));refine WE.gi O O O λw' hw=>?_;have hd:=awD (l:=e8 l) TZ;rw [hd] at hG
 have hq:(p.us.map (·.1),(0:Int))=pj l (d,y1):=by rw [pj,if_neg (by simpa using D4),hG]; simp [vJ,iD]
 refine ⟨(p.o,p.us.map (·.1),0),by rw [List.length_map],hw.fr,?_,.inr ⟨D3,(d,y1),yh,hq⟩⟩;have hT:=hw.kS (rd:=DQ) 0 rfl XU.bq (λ_ _ _ _ h=>h);exact HY hT (λ_ _ h=>h) λe he=>(hpd e he).mv (bN hw (by simp) hpf)
theorem aw1 {l:List Tx} {r:List b_×Int} (h:qT l r):∀u ∈ r.1,vv u<=1048576:=by
 rcases h with ⟨_,rfl⟩ | ⟨_,q,_,rfl⟩
 · intro u hu; simp at hu
 · intro u hu
   unfold pj at hu
   split at hu
   · simp at hu
   · refine Nat.le_trans (YP (b:=73728) _ _ (λm hm=>?_) u hu) (by decide)
     unfold oB at hm;obtain ⟨i,_,hi⟩:=List.mem_filterMap.1 hm;obtain ⟨s,_,rfl⟩:=List.mem_map.1 (List.mem_of_getElem? hi);exact yB s
theorem aw2 {l:List Tx} {r:List b_×Int} (h:qT l r):r.1.length<=4:=by
 rcases h with ⟨_,rfl⟩ | ⟨h1,q,hq,rfl⟩
 · simp
 · unfold pj
   split
   · simp
   · have h4:(e8 l).length<=4:=by have:=(FC h1).1.2; simpa [e8] using this
     refine Nat.le_trans (YO _ _) (Nat.le_trans (m:=q.1.length) ?_ ?_)
     · unfold oB; exact List.length_filterMap_le _ _
     · rcases hq with ⟨_,rfl⟩ | ⟨_,d,hd,rfl⟩
       · simp
       · have:=E9 (tp hd.1).2 (tp hd.1).1
         unfold B9
         split
         · show d.length<=4; omega
         · simp
structure GB4 where
 i:Nat
 es:List XO
 o:SP
 J:View
structure GB5 where
 i:Nat
 es:List FP
 r:SP
 J:View
def lP (u:b_):aP:=(fJ u).1.to
theorem aw3 {us:List b_} {i:Nat} {u:b_} (h0:∀s ∈ us.take i,(fJ s).2=0) (hx:us[i]? = some u) (h:¬(fJ u).2=0):jr (us,0)=(([],0),(fJ u).2):=by
 have e:JX us=(fJ u).2:=JW h0 hx h;rw [jr,if_neg (by simp),e,if_pos h]
theorem aw4 {us:List b_} (h0:∀s ∈ us,(fJ s).2=0):jr (us,0)=qf (us.map lP):=by
 have e:JX us=0:=p6.2 h0;rw [jr,if_neg (by simp),e,if_neg (by simp)]; rfl
theorem aw5 {us:List b_} {e:Int} (h:¬e=0):jr (us,e)=(([],0),e):=by rw [jr,if_pos h]
theorem aw6 {us:List b_} {i:Nat} {u:b_} (h0:∀s ∈ us.take i,(fJ s).2=0) (hx:us[i]? = some u) (h:(fJ u).2=0):∀s ∈ us.take (i+1),(fJ s).2=0:=λs hs=>by
 rw [iU hx] at hs
 rcases List.mem_append.1 hs with k | k
 · exact h0 s k
 · rw [List.mem_singleton] at k; subst k; exact h
theorem aw7 {bs:List Tx} {i:Nat} {x:Tx} (h0:∀s ∈ bs.take i,(i' s).2=0) (hx:bs[i]? = some x) (h:(i' x).2=0):∀s ∈ bs.take (i+1),(i' s).2=0:=λs hs=>by
 rw [iU hx] at hs
 rcases List.mem_append.1 hs with k | k
 · exact h0 s k
 · rw [List.mem_singleton] at k; subst k; exact h
def Iv (bs:List Tx):Int:=fI (λb=>(i' b).2) bs
def gQ (bs:List Tx):List kD:=bs.map λb=>(i' b).1
def kN (s:Tx) (bs:List Tx):(Tx×Tx)×Int:=
 if (bm s).2≠0 then (([],[]),(bm s).2) else if Iv bs≠0 then (([],[]),Iv bs) else
 if (cG (bm s).1).2≠0 then (([],[]),(cG (bm s).1).2) else
 if (bJ (bm s).1 (gQ bs)).2≠0 then (([],[]),(bJ (bm s).1 (gQ bs)).2) else
 if (fJ (bJ (bm s).1 (gQ bs)).1).2≠0 then (([],[]),(fJ (bJ (bm s).1 (gQ bs)).1).2) else
 if (tG (lP (bJ (bm s).1 (gQ bs)).1)).2≠0 then (([],[]),(tG (lP (bJ (bm s).1 (gQ bs)).1)).2) else
 if (xe (cG (bm s).1).1.1 (cG (bm s).1).1.2).2≠0 then (([],[]),(xe (cG (bm s).1).1.1 (cG (bm s).1).1.2).2) else
 (((xe (cG (bm s).1).1.1 (cG (bm s).1).1.2).1,(tG (lP (bJ (bm s).1 (gQ bs)).1)).1),0)
theorem aw8 {bs:List Tx} {i:Nat} {x:Tx} (h0:∀s ∈ bs.take i,(i' s).2=0) (hx:bs[i]? = some x) (h:¬(i' x).2=0):Iv bs=(i' x).2:=JW h0 hx h
theorem aw9 {K N:View} {a:Option Addr} {c:Nat} {es:List XO} {us:List b_} (h:Sl TH 7 K a c es) (hv:aK K N) (he:∀e ∈ es,rW N e.2 e.1) (hm:es.map (·.1)=us.map lP):Sl Ig 7 N a c (us.map lP):=by
 rw [<-hm]; exact auD h hv he
theorem Ug:Enters Tryz.prog 11:=enters_of Tryz.func11 (by kernel_rfl) rfl
theorem aeI:Enters Tryz.prog 26:=enters_of Tryz.func26 (by kernel_rfl) rfl
theorem aeJ:e9 Tryz.prog 45 56 (.agg #[st [],.slice none 0 0,.int .i64 0,.slice none 0 0,.slice none 0 0,.slice none 0 0,.int .i64 0]) 7 128:=ja (by kernel_rfl)
theorem aw':Enters Tryz.prog 20:=enters_of Tryz.func20 (by kernel_rfl) rfl
theorem aw_:Enters Tryz.prog 23:=enters_of Tryz.func23 (by kernel_rfl) rfl
theorem axa:Enters Tryz.prog 27:=enters_of Tryz.func27 (by kernel_rfl) rfl
theorem axb:Enters Tryz.prog 28:=enters_of Tryz.func28 (by kernel_rfl) rfl
theorem Uh (HL G:View) (a:Option Addr) (c:Nat) (l:List Tx) (w:World) (Ub:Le HL w) (hG:Le G w) (hz:Laid G) (hm:Sl rdStr 1 HL a c l) :
   Calls Tryz.prog 12 #[.slice a l.length c] w λe w'=>∃r:SP×List b_×Int,e = .returned (.tuple #[.agg #[.slice r.1.1 (jr r.2).1.1.length r.1.2,.int .i64 (jr r.2).1.2],.int .i64 (jr r.2).2])/\Ext w w'/\Sl fK 3 (nv w w') r.1.1 r.1.2 (jr r.2).1.1/\qT l r.2:=by
 refine enter Tryz.func12 O 44 O O ?_;refine CE (Vs:=[HL,G]) (Ws.init (by simp [Ub,hG])) (ad ?_);refine Al Y O sO λb2=>?_;refine ae O (ab (ad (aa O ?_)));refine Ld Y O Ug O (λr:SP×List b_×Int=>.tuple #[.slice r.1.1 r.2.1.length r.1.2,.int .i64 r.2.2]) (λF r=>Sl (HX 8 7) 5 F r.1.1 r.1.2 r.2.1/\qT l r.2) (λw hw=>Ua HL G a c l w (hw.vs _ (by simp)) (hw.vs _ (by simp)) hz hm) ?_;intro Ui sP aBW jq;obtain ⟨s13,us,Uj⟩:=sP;obtain ⟨Nn,D6⟩:=jq;dsimp only at Nn D6;have aBY:=Nn.cap;have aBZ:=Nn.max;have hu4:us.length<=4:=aw2 D6;refine aa O (V0 (Yx O O) (V0 (Yx O O) (ae O (ae O (ab (Cs (ad (aa O (V0 (eL O O) ?_)))))))));refine ab ?_;refine Cc O (λai=>?_) (λai=>?_)
 ·have iu:¬Uj=0:=by simpa using ai
  refine ad (V0 (Yb sO Ip O O) (aa O (an 0 Y O O O u4 O O O (ae O (ab (aA (Er ?_)))))));refine WE.dA (eZ O (cZ 0 O O wZ O) (gC O)) λw' hw=>?_;have hB:=aw5 (us:=us) iu;refine ⟨((none,0),us,Uj),?_,hw.fr,?_,D6⟩
  · dsimp only
    rw [hB]; rfl
  · dsimp only
    rw [hB]; exact Sl.nil
 have D4:Uj=0:=by simpa using ai
 subst D4;refine aE (ad (ae O (LW (λ_ h=>h.eM 56 7) ?_)));refine WL.v0 ?_;refine ab (Cs (ad (aa O (V0 (Yn DJ O) (aa O (ab (Cb ?_)))))));refine cq (ι:=GB4) (λg=>[(22,.int .i64 (g.i:Int)),(6,.slice g.o.1 g.es.length g.o.2)]) [(2,_),(20,_),(21,_)] (λg=>Ws w [] [bt 56 7 XO.cells g.o.1 g.o.2 g.es,ah b2 (.cells #[.slice none 0 0,.int .i64 0] 33 (0,0))] [g.J,Ui,HL,G]) (λg=>g.i<=us.length/\g.es.map (·.1)=(us.take g.i).map lP/\(∀s ∈ us.take g.i,(fJ s).2=0)/\ew w g.J/\(∀e ∈ g.es,rW g.J e.2 e.1)/\g.es.length=g.i) (λg=>us.length-g.i) ⟨0,[],(none,0),v0⟩ ⟨Nat.zero_le _,O,by simp,pW w,by simp,O⟩ (sc O (sc O (sc O (sc O (sc O sn))))) (λ_ h=>by have h:=Ws.bF h (a_:=[v0,Ui,HL,G]) (by simp); exact h) ?_;intro g ⟨hi,fV,h0,yU,y0,nq⟩;refine ad (V0 (bj O O) (ab (Cs ?_)));refine Cc O (λaw=>?_) (λaw=>?_)
 ·have axc:g.i<us.length:=by simpa using aw
  obtain ⟨u,pk⟩:∃u,us[g.i]? = some u:=⟨_,List.getElem?_eq_getElem axc⟩;obtain ⟨pbu,pou,SI,ru,Hs,hud⟩:=Nn.aS g.i u pk;refine aE (Cs (Cb (ad (V0 (Yo DJ O O SI (by omega)) (V0 (cJ 1 iJ O O O (Hs)) ?_)))));refine Al Y O pH λb8=>?_;refine an 0 Y O O O pI O O O (ab (ad (V0 (bk 0 O O iJ O) ?_)));refine Ld Y O aeI O (λr:oq=>.tuple #[.agg (jj (lP u) r).toArray,.int .i64 (fJ u).2]) (λF r=>rW F r (lP u)) (λw hw=>adS Ui 8 7 u ru w (hw.vs _ (by simp)) hud (aw1 D6 u (List.mem_of_getElem? pk))) ?_;intro F28 DV axe h28;refine aa O (V0 (Yx O O) (V0 (Yx O O) ?_));refine Al Y O sL λb9=>?_;refine an 0 Y O O O uQ O O O (ae O (ab (Cs (ad (aa O (V0 (eL O O) (ab ?_)))))));refine Cc O (λaO=>?_) (λaO=>?_)
  ·have iu:¬(fJ u).2=0:=by simpa using aO
   refine ad (V0 (Yb sO Ip O O) (aa O (an 3 Y O O O u4 O O O (ae O (ab (aA (Er (bE (Er (Er (bE (Er ?_))))))))))));refine WE.dA (eZ O (cZ 3 O O wZ O) (gC O)) λw' hw=>?_;have hB:=aw3 h0 pk iu;refine ⟨((none,0),us,0),?_,hw.fr,?_,D6⟩
   · dsimp only
     rw [hB]; rfl
   · dsimp only
     rw [hB]; exact Sl.nil
  have aJ:(fJ u).2=0:=by simpa using aO
  refine aE (Cr (aa O (V0 (bk 0 O O pM O) ?_)));refine Lb Y O aeJ O O O O λHW=>?_;refine bL 0 (.cells (XO.cells (lP u,DV)).toArray 56 (0,0)) O (O) ?_;refine LA ((lP u,DV)) 3 0 Y O aeJ O O O O O O (by omega) (by omega) λuV uW=>?_;refine WL.jd λJ1 Bg Bh Bi=>?_;refine ae O (Ln (Eb (Et (Cr (V0 (Yi O O O (by omega)) (aa O (Ln ?_)))))))
  exact Ea (⟨g.i+1,g.es++[(lP u,DV)],(uV,uW),J1⟩:GB4) (by show _-(g.i+1)<_; omega) ⟨by show g.i+1<=_; omega,by rw [List.map_append,fV,iU pk]; simp,aw6 h0 pk aJ,Bi w axe yU,λy hy=>by
    rcases List.mem_append.1 hy with k | k
    · exact TI (y0 y k) Bh
    · rw [List.mem_singleton] at k; subst k; exact TI h28 Bg,by simp [nq]⟩ (sc rfl (sc rfl (sc rfl (sc rfl (sc rfl sn))))) (λ_ h=>Wd 3 h)
 have bP:g.i=us.length:=by simp at aw; omega
 rw [bP,List.take_length] at fV h0
 have hlO:g.es.length=(us.map lP).length:=by rw [<-fV,List.length_map]
 rw [hlO];refine Ce (Ex (Ex (bA (Et (Cs ?_)))));refine WC.n5 (rd:=TH) 0 O XO.bq (λ_ _ _ _ h=>h) λHO Iw=>?_;refine WC.jd λJO JOa JOb JOf=>?_;have hSO:Sl Ig 7 JO g.o.1 g.o.2 (us.map lP):=aw9 Iw JOa (λy hy=>TI (y0 y hy) JOb) fV;refine Cr (aa O ?_);refine Ld Y O aw' O (λq:SP=>.tuple #[.agg #[.slice q.1 (qf (us.map lP)).1.1.length q.2,.int .i64 (qf (us.map lP)).1.2],.int .i64 (qf (us.map lP)).2]) (λF q=>Sl fK 3 F q.1 q.2 (qf (us.map lP)).1.1) (λw hw=>auZ JO g.o.1 g.o.2 (us.map lP) w (hw.vs _ (by simp)) hSO) ?_;intro F41 GV axk P0;refine V0 (Yx O O) (V0 (Yx O O) (an 0 Y O O O u4 O O O (ae O (ab (aA ?_)))));refine WE.dA (eZ O (cZ 0 O O wZ O) (gC O)) λw' hw=>?_;have hB:=aw4 h0;refine ⟨(GV,us,0),?_,hw.fr,?_,D6⟩
 · dsimp only
   rw [hB]; rfl
 · dsimp only
   rw [hB]; exact P0.imp λ_ _ _ h=>aR.mono (bN hw (by simp) axk) h
theorem aeK (HB G:View) (s:Tx) (a:Option Addr) (c:Nat) (bs:List Tx) (w:World) (hHB:Le HB w) (hG:Le G w) (hz:Laid G) (hm:Sl rdStr 1 HB a c bs) (CF:bs.length<=1048576) :
   Calls Tryz.prog 8 #[st s,.slice a bs.length c] w λe w'=>e = .returned (.tuple #[st (kN s bs).1.1,st (kN s bs).1.2,.int .i64 (kN s bs).2])/\Ext w w':=by
 have dR:=hm.cap;have eQ:=hm.max;refine enter Tryz.func8 O 89 O O ?_;refine CE (Vs:=[HB,G]) (Ws.init (by simp [hHB,hG])) (ad (ae O (ae O (ae O (ab (ad (aa O ?_)))))))
 refine Ld Y O Tr O (λr:jV=>.tuple #[.agg (fq ((bm s).1) r).toArray,.int .i64 ((bm s).2)]) (λH r=>ko 7 6 H r ((bm s).1)) (λw hw=>by
     have:=RQ G (s) w (hw.vs _ (by simp)) hz
     exact this) ?_
 intro yM fC yN mm;refine aa O (V0 (Yx O O) (V0 (Yx O O) ?_));refine Al Y O oK λb7=>?_;refine an 0 Y O O O pC O O O (ae O (ab (Cs (ad (aa O (V0 (eL O O) (ab ?_)))))));refine Cc O (λai=>?_) (λai=>?_)
 ·have hb0:¬(bm s).2=0:=by simpa using ai
  refine ad (aa O (ae O (ae O (ae O (ab (aA (Er ?_)))))));refine WE.xh O O O O λw' hw=>?_;exact ⟨by rw [kN,if_pos hb0]<;>rfl,hw.fr⟩
 have h0:(bm s).2=0:=by simpa using ai
 refine aE (ad (ae O (LW (λ_ h=>h.eM 65 2) ?_)));refine WL.v0 ?_;refine ab (Cs (ad (aa O (V0 (Yn cz O) (aa O (ab (Cb ?_)))))));refine cq (ι:=GB5) (λg=>[(29,.int .i64 (g.i:Int)),(9,.slice g.r.1 g.es.length g.r.2)]) [(7,_),(8,_),(27,_),(28,_)] (λg=>Ws w [] [bt 65 2 D2 g.r.1 g.r.2 g.es,ah b7 (.cells (fq (bm s).1 fC).toArray 50 (0,0))] [g.J,yM,HB,G]) (λg=>g.i<=bs.length/\g.es.map (·.1)=gQ (bs.take g.i)/\(∀s ∈ bs.take g.i,(i' s).2=0)/\ew w g.J/\(∀e ∈ g.es,Sl lp 4 g.J e.2.1 e.2.2 e.1.2)/\g.es.length=g.i) (λg=>bs.length-g.i) ⟨0,[],(none,0),v0⟩ ⟨Nat.zero_le _,O,by simp,pW w,by simp,O⟩ (sc O (sc O (sc O (sc O (sc O (sc O sn)))))) (λ_ h=>by have h:=Ws.bF h (a_:=[v0,yM,HB,G]) (by simp); exact h) ?_;intro g ⟨hi,fV,No,yU,y0,nq⟩;refine ad (V0 (bj O O) (ab (Cs ?_)));refine Cc O (λaw=>?_) (λaw=>?_)
 ·have av:g.i<bs.length:=by simpa using aw
  obtain ⟨x,bn⟩:∃q,bs[g.i]? = some q:=⟨_,List.getElem?_eq_getElem av⟩;obtain ⟨dW,dX,dZ,cg⟩:=hm.aS g.i x bn;have cg:aR HB dW (dX+g.i*1) (cM x):=cg;refine aE (Cs (Cb (ad (V0 (Yo cz O O dZ (by omega)) (V0 (bo 2 bW O O (cg 0 _ O)) (ae O (ab (ad (aa O ?_)))))))));refine Ld Y O aw_ O (λr:SP=>.tuple #[.agg #[st (i' x).1.1,.slice r.1 (i' x).1.2.length r.2],.int .i64 (i' x).2]) (λF r=>Sl lp 4 F r.1 r.2 (i' x).1.2) (λw hw=>avs x w) ?_;intro F35 GY axn PY;refine aa O (V0 (Yx O O) (V0 (Yx O O) ?_));refine Al Y O j7 λDi=>?_;refine an 0 Y O O O lJ O O O (ae O (ab (Cs (ad (aa O (V0 (eL O O) (ab ?_)))))));refine Cc O (λaO=>?_) (λaO=>?_)
  ·have aeL:¬(i' x).2=0:=by simpa using aO
   have hRE:=aw8 No bn aeL
   have oz:¬Iv bs=0:=by rw [hRE]; exact aeL
   refine ad (aa O (ae O (ae O (ae O (ab (aA (Er (bE (Er (Er (bE (Er ?_))))))))))));refine WE.xh O O O O λw' hw=>?_;exact ⟨by rw [kN,if_neg (by simpa using h0),if_pos oz,hRE]<;>rfl,hw.fr⟩
  have aJ:(i' x).2=0:=by simpa using aO
  refine aE (Cr (aa O (V0 (bk 0 O O j8 O) ?_)));refine Lb Y O Ba O O O O λmb=>?_;refine bL 0 (.cells (D2 ((i' x).1,GY)).toArray 65 (0,0)) O (O) ?_;refine LA (((i' x).1,GY)) 2 0 Y O Ba O O O O O O (by omega) (by omega) λAH AI=>?_;refine WL.jd λJ1 Bg Bh Bi=>?_;refine ae O (Ln (Eb (Et (Cr (V0 (Yi O O O (by omega)) (aa O (Ln ?_)))))))
  exact Ea (⟨g.i+1,g.es++[((i' x).1,GY)],(AH,AI),J1⟩:GB5) (by show _-(g.i+1)<_; omega) ⟨by show g.i+1<=_; omega,by unfold gQ at fV ⊢; rw [List.map_append,fV,iU bn]; simp,aw7 No bn aJ,Bi w axn yU,λy hy=>by
    rcases List.mem_append.1 hy with k | k
    · exact uK Bh (y0 y k)
    · rw [List.mem_singleton] at k; subst k; exact uK Bg PY,by simp [nq]⟩ (sc rfl (sc rfl (sc rfl (sc rfl (sc rfl (sc rfl sn)))))) (λ_ h=>Wd 2 h)
 have bP:g.i=bs.length:=by simp at aw; omega
 rw [bP,List.take_length] at fV No;have h2:Iv bs=0:=p6.2 No
 have hlF:g.es.length=(gQ bs).length:=by unfold gQ; rw [List.length_map,nq,bP]
 rw [hlF];have D5:=yB s
 have D5:wM (bm s).1<=109951162777:=by omega
 refine Ce (Ex (Ex (bA (Et (Cs ?_)))));refine WC.n5 (rd:=T_) 0 O aer (λ_ _ _ _ h=>h) λHF Hq=>?_;refine WC.jd λJF Nl Iu JFf=>?_
 have Ud:Sl wK 2 JF g.r.1 g.r.2 (gQ bs):=by
   have h9:=aes Hq Nl λy hy=>uK Iu (y0 y hy);rw [fV] at h9;exact h9
 refine Cr (V0 (bk 0 O O iW O) ?_);refine Ld Y O SD O (λr:SP=>.tuple #[.agg #[st (cG (bm s).1).1.1,.slice r.1 (cG (bm s).1).1.2.length r.2],.int .i64 (cG (bm s).1).2]) (λH r=>Sl lp 4 H r.1 r.2 (cG (bm s).1).1.2) (λw hw=>R2 yM 7 6 fC (bm s).1 w (hw.vs _ (by simp)) mm D5) ?_;intro F48 yr aB5 N';refine aa O (V0 (Yx O O) (V0 (Yx O O) ?_));refine Al Y O j7 λfO=>?_;refine an 0 Y O O O lJ O O O (ae O (ab (Cs (ad (aa O (V0 (eL O O) (ab ?_)))))));refine Cc O (λbd=>?_) (λbd=>?_)
 ·have CV:¬(cG (bm s).1).2=0:=by simpa using bd
  refine ad (aa O (ae O (ae O (ae O (ab (aA (Er ?_)))))));refine WE.xh O O O O λw' hw=>?_;exact ⟨by rw [kN,if_neg (by simpa using h0),if_neg (by simpa using h2),if_pos CV]<;>rfl,hw.fr⟩
 have h3:(cG (bm s).1).2=0:=by simpa using bd
 refine aE (ad (V0 (bk 1 O O iW O) (aa O ?_)))
 refine Ld Y O A_ O (λr:jW=>.tuple #[.agg (eG (bJ (bm s).1 (gQ bs)).1 r).toArray,.int .i64 (bJ (bm s).1 (gQ bs)).2]) (λF r=>je (7+1) (6+1) F r (bJ (bm s).1 (gQ bs)).1) (λw hw=>by
     skip
     exact AQ yM JF 7 6 fC (bm s).1 g.r.1 g.r.2 (gQ bs) w (hw.vs _ (by simp)) (hw.vs _ (by simp)) mm Ud D5) ?_
 intro F57 Da aB6 h57;refine aa O (V0 (Yx O O) (V0 (Yx O O) ?_));refine Al Y O pH λLq=>?_;refine an 0 Y O O O pI O O O (ae O (ab (Cs (ad (aa O (V0 (eL O O) (ab ?_)))))));refine Cc O (λbC=>?_) (λbC=>?_)
 ·have Qo:¬(bJ (bm s).1 (gQ bs)).2=0:=by simpa using bC
  refine ad (aa O (ae O (ae O (ae O (ab (aA (Er ?_)))))));refine WE.xh O O O O λw' hw=>?_;exact ⟨by rw [kN,if_neg (by simpa using h0),if_neg (by simpa using h2),if_neg (by simpa using h3),if_pos Qo]<;>rfl,hw.fr⟩
 have h4:(bJ (bm s).1 (gQ bs)).2=0:=by simpa using bC
 refine aE (ad (V0 (bk 0 O O iJ O) ?_));refine Ld Y O aeI O (λr:oq=>.tuple #[.agg (jj (lP (bJ (bm s).1 (gQ bs)).1) r).toArray,.int .i64 (fJ (bJ (bm s).1 (gQ bs)).1).2]) (λF r=>rW F r (lP (bJ (bm s).1 (gQ bs)).1)) (λw hw=>adS F57 8 7 (bJ (bm s).1 (gQ bs)).1 Da w (hw.vs _ (by simp)) h57 (by have:=YN (m:=(bm s).1) (fs:=(gQ bs)); have:=yB s; omega)) ?_;intro F65 Dm LJ h65;refine aa O (V0 (Yx O O) (V0 (Yx O O) ?_));refine Al Y O sL λQD=>?_;refine an 0 Y O O O uQ O O O (ae O (ab (Cs (ad (aa O (V0 (eL O O) (ab ?_)))))));refine Cc O (λcU=>?_) (λcU=>?_)
 ·have Kb:¬(fJ (bJ (bm s).1 (gQ bs)).1).2=0:=by simpa using cU
  refine ad (aa O (ae O (ae O (ae O (ab (aA (Er ?_)))))));refine WE.xh O O O O λw' hw=>?_;exact ⟨by rw [kN,if_neg (by simpa using h0),if_neg (by simpa using h2),if_neg (by simpa using h3),if_neg (by simpa using h4),if_pos Kb]<;>rfl,hw.fr⟩
 have h5:(fJ (bJ (bm s).1 (gQ bs)).1).2=0:=by simpa using cU
 refine aE (ad (V0 (bk 0 O O pM O) (Lp Y O axa O (λw hw=>auj F65 (lP (bJ (bm s).1 (gQ bs)).1) Dm w (hw.vs _ (by simp)) h65) (aa O (V0 (Yx O O) (V0 (Yx O O) (ae O (ae O ?_))))))));refine ab (Cs (ad (aa O (V0 (eL O O) (ab ?_)))));refine Cc O (λdb=>?_) (λdb=>?_)
 ·have Kc:¬(tG (lP (bJ (bm s).1 (gQ bs)).1)).2=0:=by simpa using db
  refine ad (aa O (ae O (ae O (ae O (ab (aA (Er ?_)))))));refine WE.xh O O O O λw' hw=>?_;exact ⟨by rw [kN,if_neg (by simpa using h0),if_neg (by simpa using h2),if_neg (by simpa using h3),if_neg (by simpa using h4),if_neg (by simpa using h5),if_pos Kc]<;>rfl,hw.fr⟩
 have h6:(tG (lP (bJ (bm s).1 (gQ bs)).1)).2=0:=by simpa using db
 refine aE (ad (V0 (bk 2 O O j8 O) (Lp Y O axb O (λw hw=>avf F48 yr.1 yr.2 (cG (bm s).1).1.1 (cG (bm s).1).1.2 w (hw.vs _ (by simp)) N') (aa O (V0 (Yx O O) (V0 (Yx O O) (ae O (ae O ?_))))))));refine ab (Cs (ad (aa O (V0 (eL O O) (ab ?_)))));refine Cc O (λej=>?_) (λej=>?_)
 ·have Qp:¬(xe (cG (bm s).1).1.1 (cG (bm s).1).1.2).2=0:=by simpa using ej
  refine ad (aa O (ae O (ae O (ae O (ab (aA (Er ?_)))))));refine WE.xh O O O O λw' hw=>?_;exact ⟨by rw [kN,if_neg (by simpa using h0),if_neg (by simpa using h2),if_neg (by simpa using h3),if_neg (by simpa using h4),if_neg (by simpa using h5),if_neg (by simpa using h6),if_pos Qp]<;>rfl,hw.fr⟩
 have h7:(xe (cG (bm s).1).1.1 (cG (bm s).1).1.2).2=0:=by simpa using ej
 refine aE (ad (aa O (aa O (ae O (ae O (ae O (ab (aA ?_))))))));refine WE.xh O O O O λw' hw=>?_;exact ⟨by rw [kN,if_neg (by simpa using h0),if_neg (by simpa using h2),if_neg (by simpa using h3),if_neg (by simpa using h4),if_neg (by simpa using h5),if_neg (by simpa using h6),if_neg (by simpa using h7)]<;>rfl,hw.fr⟩
theorem axt {P:Program} {l:List (Nat×Value)} {W:World->Prop} {d:Option Tmp} {ty:TypeId} {pos:String} {af:Array Edge} {g:Option (Nat×Bool)} {t u:TypeId} {x y:Operand} {k:IntKind} {a b:Int} (hx:aB l x=some (.int k a)) (hy:aB l y=some (.int k b)) (h:b<a):Yl P l W ⟨d,.binOp .gtr t x y u,ty,pos,af,g⟩ (.bool true):=by
 have:=cI (P:=P) (W:=W) (d:=d) (ty:=ty) (pos:=pos) (af:=af) (g:=g) (t:=t) (u:=u) hx hy
 rwa [show decide (b<a)=true by simpa using h] at this
def ey:Tx:=[109,111,100,117,108,101,32,99,110,116,32,123,32,112,117,98,32,99,111,110,115,116,32,107,32,61,32,51,32,59,32,112,117,98,32,118,97,114,32,115,117,109,32,59,32,112,117,98,32,97,114,114,97,121,32,116,32,91,32,52,32,93,32,59,32,112,117,98,32,112,114,111,99,32,100,111,119,110,32,40,32,110,32,41,32,108,111,99,97,108,32,105,32,59,32,123,32,105,32,61,32,110,32,59,32,119,104,105,108,101,32,105,32,123,32,115,117,109,32,61,32,40,32,115,117,109,32,43,32,105,32,41,32,59,32,105,32,61,32,40,32,105,32,45,32,49,32,41,32,59,32,125,32,114,101,116,117,114,110,32,115,117,109,32,59,32,125,32,109,97,105,110,32,123,32,125,32,125]
theorem axu:fG eR=0:=by decide +kernel
theorem aeN:bm ey=(eR,0):=by
 have h:J (pg eR)=ey:=by decide +kernel
 rw [<-h];exact ajO axu (by rw [h]; decide +kernel)
theorem axv:(kN ey []).2=0:=by decide +kernel
theorem axw:(kN ey []).1.2.length=519:=by decide +kernel
theorem axx:(kN fi [(kN ey []).1.1]).2=0:=by decide +kernel
theorem axy:300<(kN fi [(kN ey []).1.1]).1.2.length:=by decide +kernel
def bQ:List Nat×Int:=([1,0],0)
def D7:List (Tx×kD):=[(eR.nm,(cG eR).1)]
theorem axz:jG [dY,eR]=0:=by decide +kernel
theorem axA:yZ [dY,eR] bQ:=by
 refine .inr ⟨axz,[1,0],⟨?_,.inl O⟩,O⟩;have h1:jh [dY,eR] ([]++[1]):=.snoc .nil ⟨by decide,by decide +kernel,by decide +kernel⟩;have h2:jh [dY,eR] ([1]++[0]):=.snoc h1 ⟨by decide,by decide +kernel,by decide +kernel⟩;exact h2
theorem aeO:e8 [fi,ey]=[dY,eR]:=by
 show [(bm fi).1,(bm ey).1]=_
 rw [aeN]; rfl
theorem axB:nE [fi,ey]=0:=JY (by decide) λs hs=>by
 rcases List.mem_cons.1 hs with e | hs
 · subst e; exact acE
 · rw [List.mem_singleton] at hs; subst hs; rw [aeN]
theorem axC:(fy [] eR).2=0:=by decide +kernel
theorem axD:(fy D7 dY).2=0:=by decide +kernel
theorem axE:(fy D7 dY).1.nm=[116,111,112]:=by decide +kernel
theorem axF {m m':aD} (h:(fy [] m).2=0) (h':(fy [(m.nm,(cG m).1)] m').2=0):iD [m,m'] []=([(fy [] m).1,(fy [(m.nm,(cG m).1)] m').1],0):=by
 rw [YQ,P8 h,P8 h']; rfl
theorem axG:∀r,qT [fi,ey] r->r=([(fy [] eR).1,(fy D7 dY).1],0):=λr h=>by
 rcases h with ⟨h1,_⟩ | ⟨_,q,hq,rfl⟩
 · exact absurd axB h1
 · rw [aeO] at hq
   have:=awf hq axA;subst this;rw [pj,if_neg (by simp [bQ]),aeO];exact axF axC axD
theorem axH:(fy [] eR).1=(bJ eR []).1:=by
 have h:(cG eR).2=0:=by rw [ar']
 rw [YT h]; rfl
theorem aeP:jG [dY]=5:=by decide +kernel
theorem axI:∀r,qT [fi] r->r=([],5):=λr h=>by
 rcases h with ⟨h1,_⟩ | ⟨_,q,hq,rfl⟩
 · exact absurd (JY (by decide) λs hs=>by rw [List.mem_singleton] at hs; subst hs; exact acE) h1
 · rcases hq with ⟨_,rfl⟩ | ⟨h2,_⟩
   · show pj _ ([],jG [dY])=_
     rw [aeP]; rfl
   · exact absurd (show jG [dY]=0 from h2) (by rw [aeP]; decide)
theorem axJ:(jr ([(fy [] eR).1,(fy D7 dY).1],0)).2=0:=by decide +kernel
theorem axK:(jr ([(fy [] eR).1,(fy D7 dY).1],0)).1.2=5:=by decide +kernel
theorem aeQ {α β γ:Type} {x:(α×β)×γ} {c:γ} (h:x.2=c):x=((x.1.1,x.1.2),c):=by obtain ⟨⟨_,_⟩,_⟩:=x; subst h; rfl
theorem axL {C:Tx->List Tx->(Tx×Tx)×Int} {s t:Tx} (h0:(C s []).2=0) (l0:(C s []).1.2.length=519) (h1:(C t [(C s []).1.1]).2=0) (l1:300<(C t [(C s []).1.1]).1.2.length):∃fb ob f1 p1:Tx,C s []=((fb,ob),0)/\ob.length=519/\C t [fb]=((f1,p1),0)/\300<p1.length:=
 ⟨_,_,_,_,aeQ h0,l0,aeQ h1,l1⟩
theorem axM {x:(List aU×Int)×Int} {d e:Int} (h1:x.1.2=d) (h2:x.2=e):x=((x.1.1,d),e):=by
 obtain ⟨⟨c,d'⟩,e'⟩:=x;subst h1 h2
 rfl
theorem axN {B:List b_×Int->(List aU×Int)×Int} {u0 u1:b_} (h1:(B ([u0,u1],0)).1.2=5) (h2:(B ([u0,u1],0)).2=0):∃cd,B ([u0,u1],0)=((cd,5),0):=⟨_,axM h1 h2⟩
theorem axO:∃(fb ob f1 p1:Tx) (u0 u1:b_) (cd:List aU),kN ey []=((fb,ob),0)/\ob.length=519/\kN fi [fb]=((f1,p1),0)/\300<p1.length/\(∀r,qT [fi,ey] r->r=([u0,u1],0))/\(bJ eR []).1=u0/\u1.nm=[116,111,112]/\jr ([u0,u1],0)=((cd,5),0)/\(∀r,qT [fi] r->r=([],5)):=by
 obtain ⟨fb,ob,f1,p1,a,b,c,d⟩:=axL (C:=kN) axv axw axx axy;obtain ⟨cd,hcd⟩:=axN (B:=jr) axK axJ;exact ⟨fb,ob,f1,p1,(fy [] eR).1,(fy D7 dY).1,cd,a,b,c,d,axG,axH.symm,axE,hcd,axI⟩
theorem aeR {q:List b_×Int} (h:(jr q).2=0):q.2=0:=by
 by_cases h1:q.2=0
 · exact h1
 · rw [jr,if_pos h1] at h; exact absurd h h1
theorem Uk:bw Tryz.prog 33 1=some 1:=by kernel_rfl
theorem axQ:Enters Tryz.prog 46:=enters_of Tryz.func46 (by kernel_rfl) rfl
theorem Ul:Enters Tryz.prog 36:=enters_of Tryz.func36 (by kernel_rfl) rfl
theorem en8:Enters Tryz.prog 8:=enters_of Tryz.func8 (by kernel_rfl) rfl
theorem Um:Enters Tryz.prog 12:=enters_of Tryz.func12 (by kernel_rfl) rfl
theorem axR:Enters Tryz.prog 38:=enters_of Tryz.func38 (by kernel_rfl) rfl
theorem axS:Enters Tryz.prog 15:=enters_of Tryz.func15 (by kernel_rfl) rfl
theorem aeT:Enters Tryz.prog 10:=enters_of Tryz.func10 (by kernel_rfl) rfl
theorem aeU:Enters Tryz.prog 17:=enters_of Tryz.func17 (by kernel_rfl) rfl
theorem axT:Enters Tryz.prog 16:=enters_of Tryz.func16 (by kernel_rfl) rfl
theorem Un (w:World) :
   Calls Tryz.prog 36 #[] w λe w'=>e = .returned (st ey)/\Ext w w':=by
 refine enter Tryz.func36 O 1 O O ?_;refine CE (Vs:=[]) (Ws.init (by simp)) (ad (ae O (ab (ad (ae O (ab (aA ?_)))))));refine R1 O O λw' hw=>?_;exact ⟨O,hw.fr⟩
theorem aeV (n m:Int) (hm:m≠0) (w:World) :
   Calls Tryz.prog 17 #[.int .i64 n,.int .i64 m] w λe w'=>e = .returned (.int .i64 (xU n m))/\Ext w w':=by
 refine enter Tryz.func17 O 13 O O ?_;refine CE (Vs:=[]) (Ws.init (by simp)) (ad (ae O (ab (Cs (ad (aa O (V0 (bj O O) (ab ?_))))))));refine Cc O (λai=>?_) (λai=>?_)
 ·refine Cr (aa O (V0 (Ei O O) (V0 (agz O) (ae O (ab (ad (aa O (aa O ?_))))))));refine V0 (UL O O hm) (ae O (ab (aA ?_)));refine R1 O O λw' hw=>?_;exact ⟨by rw [xU,if_pos (by simpa using ai)],hw.fr⟩
 refine aE (ad (aa O (aa O (V0 (UL O O hm) (ae O (ab (aA ?_)))))));refine R1 O O λw' hw=>?_;exact ⟨by rw [xU,if_neg (by simpa using ai)],hw.fr⟩
theorem axU (H1 H2:View) (q1 q2:SP) (cd:List aU) (d:Int) (w:World) (pD:Le H1 w) (sI:Le H2 w) (iB:Sl fK 3 H1 q1.1 q1.2 cd) (iG:Sl fK 3 H2 q2.1 q2.2 cd) :
   Calls Tryz.prog 16 #[.agg #[.slice q1.1 cd.length q1.2,.int .i64 d],.agg #[.slice q2.1 cd.length q2.2,.int .i64 d]] w λe w'=>e = .returned (.bool true)/\Ext w w':=by
 refine enter Tryz.func16 O 17 O O ?_;refine CE (Vs:=[H1,H2]) (Ws.init (by simp [pD,sI])) (ad ?_);refine WL.box Y O O λb2=>?_;refine WL.box Y O O λb3=>?_;refine ae O (ab (ad (V0 (Yf Uk O) (V0 (Yd 1 O O O ar) (V0 (Yf Uk O) (V0 (Yd 0 O O O ar) (V0 (ta O O O) (aa O ?_))))))));apply La 5 (x:=true) O O O O Y O O O O O
 ·intro du;refine Vg (Yf w_ O) (Vg (Yd 1 O O O kb) (Vg (Yf w_ O) (Vg (Yd 0 O O O kb) (Lp (.g O O O) O axQ O (λw hw=>atC H1 H2 q1.1 q2.1 q1.2 q2.2 cd w (hw.vs _ (by simp)) (hw.vs _ (by simp)) iB iG) ?_))));exact Gt 5 O O O
 refine ae O (ab (aA ?_));refine R1 O O λw' hw=>?_;exact ⟨O,hw.fr⟩
theorem aeW (G:View) (w:World) (hG:Le G w) (hz:Laid G) :
   Calls Tryz.prog 10 #[] w λe w'=>e = .returned (.bool true)/\Ext w w':=by
 refine enter Tryz.func10 O 101 O O ?_;refine CE (Vs:=[G]) (Ws.init (by simp [hG])) (ad (ae O (ab (Cs ?_))));obtain ⟨fb,ob,f1,p1,u0,u1,cd,hC0,E2,hC1,zU,hU,CB,dJ,hB,hU1⟩:=axO;refine Cr (Lp Y O Ul O (λw hw=>Un w) ?_)
 refine Lp Y O en8 O (λw hw=>by
     have Bq:=aeK G G ey none 0 [] w (hw.vs _ (by simp)) (hw.vs _ (by simp)) hz Sl.nil (by simp);rw [hC0] at Bq;dsimp only at Bq
     exact Bq) ?_
 refine aa O (V0 (Yx O O) (V0 (Yx O O) (V0 (Yx O O) (ae O (ae O (ae O (ab (ad ?_))))))));refine Lp Y O HZ O (λw hw=>Hu w) (aa O ?_);refine Lb Y O dc O O O O λDk=>?_;refine bL 0 (.cells ((([fb]:List Tx)).flatMap cM).toArray 9 (0,0)) O O (LW (λ_ h=>h.s9 (f:=cM) (xs:=([fb]:List Tx)) (c:=1) 0 O iy O (by decide)) ?_);refine WL.n5 (rd:=rdStr) 0 O iy (λ_ _ _ _ h=>h) λH22 SY=>?_
 refine Lp Y O en8 O (λw hw=>by
     have Bq:=aeK H22 G fi (some ⟨Dk,0,none⟩) 1 [fb] w (hw.vs _ (by simp)) (hw.vs _ (by simp)) hz SY (by simp);rw [hC1] at Bq;dsimp only at Bq
     exact Bq) ?_
 refine aa O (V0 (Yx O O) (V0 (Yx O O) (V0 (Yx O O) (ae O (ae O (ae O (ab (ad ?_))))))));refine Lp Y O HZ O (λw hw=>Hu w) (Lp Y O Ul O (λw hw=>Un w) ?_);refine Lb Y O dc O O O O λGa=>?_;refine bL 0 (.cells ((([fi,ey]:List Tx)).flatMap cM).toArray 9 (0,0)) O O (LW (λ_ h=>h.s9 (f:=cM) (xs:=([fi,ey]:List Tx)) (c:=2) 0 O iy O (by decide)) ?_);refine WL.n5 (rd:=rdStr) 0 O iy (λ_ _ _ _ h=>h) λH30 QM=>?_
 refine Ld Y O Ug O (λs:SP=>.tuple #[.slice s.1 2 s.2,.int .i64 0]) (λF s=>Sl (HX 8 7) 5 F s.1 s.2 [u0,u1]) (λw hw=>(Ua H30 G (some ⟨Ga,0,none⟩) 2 [fi,ey] w (hw.vs _ (by simp)) (hw.vs _ (by simp)) hz QM).mono λe w' ⟨⟨s,q⟩,k1,k2,k3,k4⟩=>by
     have hx:=hU q k4;subst hx
     exact ⟨s,k1,k2,k3⟩) ?_
 intro F31 Dc aB7 Np;obtain ⟨aB8,aB9,axZ,ru0,ax1,ax2⟩:=Np.aS 0 _ rfl;obtain ⟨aB',aB_,ax3,ru1,ax4,aCb⟩:=Np.aS 1 _ rfl;have aCc:=Np.cap;have aCd:=Np.max;refine aa O (V0 (Yx O O) (V0 (Yx O O) (ae O (ae O (ab (ad (Lp Y O HZ O (λw hw=>Hu w) (Lp Y O Ul O (λw hw=>Un w) ?_))))))));refine Lb Y O dc O O O O λHW=>?_;refine bL 0 (.cells ((([fi,ey]:List Tx)).flatMap cM).toArray 9 (0,0)) O O (LW (λ_ h=>h.s9 (f:=cM) (xs:=([fi,ey]:List Tx)) (c:=2) 0 O iy O (by decide)) ?_);refine WL.n5 (rd:=rdStr) 0 O iy (λ_ _ _ _ h=>h) λH37 ax6=>?_
 refine Ld Y O Um O (λs:SP=>.tuple #[.agg #[.slice s.1 cd.length s.2,.int .i64 5],.int .i64 0]) (λF s=>Sl fK 3 F s.1 s.2 cd) (λw hw=>(Uh H37 G (some ⟨HW,0,none⟩) 2 [fi,ey] w (hw.vs _ (by simp)) (hw.vs _ (by simp)) hz ax6).mono λe w' ⟨⟨s,q⟩,k1,k2,k3,k4⟩=>by
     have hx:=hU q k4;subst hx;dsimp only at k1 k3;rw [hB] at k1 k3
     exact ⟨s,k1,k2,k3⟩) ?_
 intro F38 Ah aex h38;refine aa O (V0 (Yx O O) (V0 (Yx O O) ?_));refine Al Y O sO λb9=>?_;refine an 0 Y O O O u4 O O O (ae O (ab (ad (Lp Y O HZ O (λw hw=>Hu w) ?_))));refine Lb Y O dc O O O O λmb=>?_;refine bL 0 (.cells ((([fi]:List Tx)).flatMap cM).toArray 9 (0,0)) O O (LW (λ_ h=>h.s9 (f:=cM) (xs:=([fi]:List Tx)) (c:=1) 0 O iy O (by decide)) ?_);refine WL.n5 (rd:=rdStr) 0 O iy (λ_ _ _ _ h=>h) λH43 QR=>?_
 refine Ld Y O Ug O (λs:SP=>.tuple #[.slice s.1 0 s.2,.int .i64 5]) (λF s=>Sl (HX 8 7) 5 F s.1 s.2 ([]:List b_)) (λw hw=>(Ua H43 G (some ⟨mb,0,none⟩) 1 [fi] w (hw.vs _ (by simp)) (hw.vs _ (by simp)) hz QR).mono λe w' ⟨⟨s,q⟩,k1,k2,k3,k4⟩=>by
     have hx:=hU1 q k4;subst hx
     exact ⟨s,k1,k2,k3⟩) ?_
 intro F44 r44 ab5 h44;refine aa O (V0 (Yx O O) (V0 (Yx O O) (ae O (ae O (ab (Cs ?_))))));refine WC.nc [(0,true),(1,true),(2,true),(3,true),(4,true),(5,true),(6,true),(7,true),(8,true),(9,true),(10,true),(11,true),(12,true),(13,true),(14,true),(15,true),(16,true),(17,true),(18,true),(19,true),(20,true),(21,true),(22,true),(23,true),(24,true),(25,true),(26,true),(27,true),(28,true),(29,true),(30,true),(31,true),(32,true),(33,true),(34,true),(35,true),(36,true),(37,true),(38,true),(39,true),(40,true),(41,true),(42,true),(43,true),(44,false),(45,true),(46,false),(47,false),(48,true),(49,true),(50,true),(51,true),(52,true),(53,true),(54,true)] mixed (by kernel_rfl) (λ_ _ _ d _ h=>by cases d<;>exact h) ?_;refine D0 O (λ_ h=>h) (Ym O) (D0 O (λ_ h=>h) (ta O O O) (D0 O (λ_ h=>h) (Ym O) ?_));apply WD.and 2 (x:=true) O O O O O Y O (λ_ h=>h) O O O O
 ·intro du;refine Dq O (.g O O O) O (λ_ h=>h) (Ym O) (Dq O (.g O O O) O (λ_ h=>h) (ta O O O) ?_);exact Gi 2 (λ_ h=>h) O O O
 refine D0 O (λ_ h=>h) (Ym O) ?_;apply WD.and 2 (x:=true) O O O O O Y O (λ_ h=>h) O O O O
 ·intro eh;refine Dq O (.g O O O) O (λ_ h=>h) (Ym O) (Dq O (.g O O O) O (λ_ h=>h) (ta O O O) ?_);exact Gi 2 (λ_ h=>h) O O O
 refine D0 O (λ_ h=>h) (Ym O) ?_;apply WD.and 2 (x:=true) O O O O O Y O (λ_ h=>h) O O O O
 ·intro fB;refine Dq O (.g O O O) O (λ_ h=>h) (Ym O) (Dq O (.g O O O) O (λ_ h=>h) (ta O O O) ?_);exact Gi 2 (λ_ h=>h) O O O
 refine D0 O (λ_ h=>h) (Ym O) ?_;apply WD.and 2 (x:=true) O O O O O Y O (λ_ h=>h) O O O O
 ·intro l_;refine Dq O (.g O O O) O (λ_ h=>h) (Ym O) (Dq O (.g O O O) O (λ_ h=>h) (ta O O O) ?_);exact Gi 2 (λ_ h=>h) O O O
 refine D0 O (λ_ h=>h) (Ym O) ?_;apply WD.and 3 (x:=true) O O O O O Y O (λ_ h=>h) O O O O
 ·intro vO;refine Dq O (.g O O O) O (λ_ h=>h) (Ym O) (Dq O (.g O O O) O (λ_ h=>h) (qU dy O) (Dq O (.g O O O) O (λ_ h=>h) (ta O O (by rw [E2]; rfl)) ?_));exact Gi 3 (λ_ h=>h) O O O
 refine D0 O (λ_ h=>h) (Ym O) ?_;apply WD.and 3 (x:=true) O O O O O Y O (λ_ h=>h) O O O O
 ·intro x3;refine Dq O (.g O O O) O (λ_ h=>h) (Ym O) (Dq O (.g O O O) O (λ_ h=>h) (qU dy O) (Dq O (.g O O O) O (λ_ h=>h) (axt O O (by omega)) ?_));exact Gi 3 (λ_ h=>h) O O O
 refine D0 O (λ_ h=>h) (Ym O) ?_;apply WD.and 3 (x:=true) O O O O O Y O (λ_ h=>h) O O O O
 ·intro Hw;refine Dq O (.g O O O) O (λ_ h=>h) (Ym O) (Dq O (.g O O O) O (λ_ h=>h) (Yn DJ O) (Dq O (.g O O O) O (λ_ h=>h) (ta O O O) ?_));exact Gi 3 (λ_ h=>h) O O O
 refine D0 O (λ_ h=>h) (Ym O) ?_;apply WD.and 5 (x:=true) O O O O O Y O (λ_ h=>h) O O O O
 ·intro DI;refine Dq O (.g O O O) O (λ_ h=>h) (Ym O) (Dq O (.g O O O) O (λ_ h=>h) (Yo (i:=1) DJ O O ax3 (by decide)) (Dq O (.g O O O) O (λ_ h=>h) (Yf Dz O) (Dq O (.g O O O) O (λ_ h=>h) (bo 4 bW O O (ax4 0 _ O)) (Dq O (.g O O O) O (λ_ h=>h) (aha O O dJ) ?_))));exact Gi 5 (λ_ h=>h) O O O
 refine D0 O (λ_ h=>h) (Ym O) ?_;apply WD.and 7 (x:=true) O O O O O Y O (λ_ h=>h) O O O O
 ·intro S5;refine Dq O (.g O O O) O (λ_ h=>h) (Ym O) (Dq O (.g O O O) O (λ_ h=>h) (Yo (i:=0) DJ O O axZ (by decide)) (Dq O (.g O O O) O (λ_ h=>h) (cJ 4 iJ O O O (ax1)) ?_));refine De O (λ_ h=>h) ?_;refine Ld (.g O O O) O axR O (λq:SP=>.slice q.1 2 q.2) (λF q=>Sl (HX 8 7) 5 F q.1 q.2 atz) (λw hw=>atD G w (hw.vs _ (by simp)) hz) ?_;intro F91 r91 aCi Uo;obtain ⟨aCj,aCk,ax8,ru9,aeX,aeY⟩:=Uo.aS 0 _ rfl;have aCl:=Uo.cap;have aCm:=Uo.max;rw [CB] at aeX aeY;refine Ln (Ed (Dq O (.g O O O) O (λ_ h=>(Wv 1 h:)) (Yo (i:=0) DJ O O ax8 (by decide)) ?_));refine De O (λ_ h=>(Wv 1 h:)) ?_;refine Vg (cJ 0 iJ O O O (aeX)) (Ln (Ed ?_));refine De O (λ_ h=>(Wv 1 h:)) ?_;refine Lp (.g O O O) O axS O (λw hw=>ar8 F31 F91 8 8 7 7 ru0 ru9 u0 w (hw.vs _ (by simp)) (hw.vs _ (by simp)) ax2 aeY) (Ln (Ed ?_));refine WD.wk (W':=Ws _ _ [_] [_,_,_,_,_,_,_,_]) (λ_ h=>Ws.bF (h) (λ_ hm=>List.mem_append_right [_] hm)) ?_;exact Gi 7 (λ_ h=>h) O O O
 refine D0 O (λ_ h=>h) (Ym O) ?_;apply WD.and 3 (x:=true) O O O O O Y O (λ_ h=>h) O O O O
 ·intro My;refine Dq O (.g O O O) O (λ_ h=>h) (Yf Uk O) (Dq O (.g O O O) O (λ_ h=>h) (Yd 0 O O O ar) (Dq O (.g O O O) O (λ_ h=>h) (ta O O O) ?_));exact Gi 3 (λ_ h=>h) O O O
 refine D0 O (λ_ h=>h) (Ya O) ?_;refine WD.nil (λ_ h=>h) ?_;refine Et (aA ?_);refine R1 O O λw' hw=>?_;exact ⟨O,hw.fr⟩
theorem ax' (G H:View) (a:Option Addr) (c:Nat) (l:List Tx) (z1:Int) (oX : -9223372036854775808<=z1/\z1<=9223372036854775807) (z2:Int) (rI : -9223372036854775808<=z2/\z2<=9223372036854775807) (w:World) (hG:Le G w) (hz:Laid G) (hH:Le H w) (hm:Sl rdStr 1 H a c l) :
   Calls Tryz.prog 5 #[.slice a l.length c,.int .i64 z1,.int .i64 z2] w λe w'=>e = .returned (.bool true)/\Ext w w':=by
 have dR:=hm.cap;have eQ:=hm.max;refine enter Tryz.func5 O 67 O O ?_;refine CE (Vs:=[G,H]) (Ws.init (by simp [hG,hH])) (ad (ae O (ab (ad (aa O ?_)))));refine Ld Y O Um O (λr:SP×List b_×Int=>.tuple #[.agg #[.slice r.1.1 (jr r.2).1.1.length r.1.2,.int .i64 (jr r.2).1.2],.int .i64 (jr r.2).2]) (λF r=>Sl fK 3 F r.1.1 r.1.2 (jr r.2).1.1/\qT l r.2) (λw hw=>Uh H G a c l w (hw.vs _ (by simp)) (hw.vs _ (by simp)) hz hm) ?_;intro F16 C1 aCn wy;obtain ⟨s16,uh⟩:=C1;obtain ⟨aeZ,Up⟩:=wy;dsimp only at aeZ Up;refine aa O (V0 (Yx O O) (V0 (Yx O O) ?_));refine Al Y O sO λb7=>?_;refine an 0 Y O O O u4 O O O (ae O (ab (Cs (ad (aa O (V0 (eL O O) (aa O ?_)))))));apply Lo 3 O O O O Y O O O O O
 ·intro du;refine Vg (Ym O) (Vg (Yn cz O) (Vg (aW O O) ?_));exact Gt 3 O O O
 refine ab ?_;refine Cc O (λai=>?_) (λai=>?_)
 ·refine ad (Lp Y O aeT O (λw hw=>aeW G w (hw.vs _ (by simp)) hz) (ae O (ab (aA (Er ?_)))));refine R1 O O λw' hw=>?_;exact ⟨O,hw.fr⟩
 have Mh:=Bool.or_eq_false_iff.1 ai
 have Ur:(jr uh).2=0:=by simpa using Mh.1
 have s7:0<l.length:=by
   have h8:¬l.length=0:=by simpa using Mh.2
   omega
 obtain ⟨ci,hci,ayb⟩:=Xc oX s7;obtain ⟨cj,Us,ayc⟩:=Xc rI s7;obtain ⟨x,bn⟩:∃x,l[ci]? = some x:=⟨_,List.getElem?_eq_getElem hci⟩;obtain ⟨y,hyj⟩:∃y,l[cj]? = some y:=⟨_,List.getElem?_eq_getElem Us⟩;obtain ⟨dW,dX,dZ,cg⟩:=hm.aS ci x bn;obtain ⟨jK,jL,eX,cV⟩:=hm.aS cj y hyj;have cg:aR H dW (dX+ci*1) (cM x):=cg;have cV:aR H jK (jL+cj*1) (cM y):=cV;obtain ⟨x2,xQ⟩:∃v,(([]++l).set ci y)[cj]? = some v:=⟨_,List.getElem?_eq_getElem (by rw [List.length_set]; exact Us)⟩;have D3:=(aen Up (aeR Ur)).1;have se:=(FC D3).1;refine aE (ad (aa O (aa O (V0 (Yn cz O) (Lp Y O aeU O (λw hw=>aeV z1 (l.length:Int) (by omega) w) ?_)))));rw [ayb];refine aa O (aa O (V0 (Yn cz O) (Lp Y O aeU O (λw hw=>aeV z2 (l.length:Int) (by omega) w) ?_)));rw [ayc];refine ae O (ae O (ab (ad ?_)));refine WL.NH Y O dc O O O λb35=>?_;refine WL.NL (size:=1) 0 O (Nat.le_refl 0) (Nat.zero_le _) O ?_;refine WL.EC 0 ([]:List Tx).length (([]:List Tx).flatMap cM) O O O ?_;refine aa O ?_;refine WL.BM (f:=cM) (rd:=rdStr) (ys:=l) (xs:=[]) 0 (λ_=>H) Y O dc O O O (λw hw=>⟨hw.vs H (by simp),hm⟩) (λ_ _ _ _ h=>h) iy (λ_=>rfl) (by simp; omega) (by simp; omega) λa37 c37=>?_;refine ae O (ab (Cs ?_));refine WC.BJ 0 O (by show 0<l.length; omega) λcb nR sJ xl=>?_;subst nR;refine Cr (aa O (aa O (aa O (aa O (V0 (Yo cz O O eX (by omega)) (V0 (bo 2 bW O O (cV 0 _ O)) (V0 (IC cz O O (by show ci<l.length; exact hci)) ?_)))))));refine WL.storeT (y:=x) 0 ci 0 y Y O O O O O iy bn yj O O (by decide) O ?_;refine ab (ad (aa O (aa O (aa O (aa O (V0 (Yo cz O O dZ (by omega)) (V0 (bo 2 bW O O (cg 0 _ O)) (V0 (IC cz O O (by show cj<_; simp; exact Us)) ?_))))))));refine WL.storeT (y:=x2) 0 cj 0 x Y O O O O O iy xQ yj O O (by decide) O ?_;refine ab (Cs ?_);refine WC.n5 (rd:=rdStr) 0 O iy (λ_ _ _ _ h=>h) λHO Iw=>?_
 have ayd:((l.set ci y).set cj x).length=([]++l).length:=by simp
 have Iw:Sl rdStr 1 HO (some ⟨cb,0,none⟩) c37 ((l.set ci y).set cj x):=Iw;refine Cr (aa O ?_)
 refine Ld Y O Um O (λr:SP×List b_×Int=>.tuple #[.agg #[.slice r.1.1 (jr r.2).1.1.length r.1.2,.int .i64 (jr r.2).1.2],.int .i64 (jr r.2).2]) (λF r=>Sl fK 3 F r.1.1 r.1.2 (jr r.2).1.1/\qT ((l.set ci y).set cj x) r.2) (λw hw=>by
     have sJ:=Uh HO G (some ⟨cb,0,none⟩) c37 ((l.set ci y).set cj x) w (hw.vs _ (by simp)) (hw.vs _ (by simp)) hz Iw;rw [ayd] at sJ
     exact sJ) ?_
 intro F54 Gd Q4 h54;obtain ⟨KO,yi⟩:=Gd;obtain ⟨ae2,ae3⟩:=h54;dsimp only at ae2 ae3;have hqq:=(awx bn hyj Up ae3 (aeR Ur)).symm;subst hqq;refine aa O (V0 (Yx O O) (V0 (Yx O O) ?_));refine Al Y O sO λDi=>?_;refine an 0 Y O O O u4 O O O (ae O (ab (ad (Lp Y O aeT O (λw hw=>aeW G w (hw.vs _ (by simp)) hz) (aa O ?_)))));apply La 2 (x:=true) O O O O Y O O O O O
 ·intro eh;refine Vg (Ym O) (Vg (ta O O Ur) ?_);exact Gt 2 O O O
 refine aa O ?_;apply La 3 (x:=true) O O O O Y O O O O O
 ·intro fB;refine Vg (bk 1 O O wZ O) (Vg (bk 0 O O wZ O) (Lp (.g O O O) O axT O (λw hw=>axU F16 F54 s16 KO (jr uh).1.1 (jr uh).1.2 w (hw.vs _ (by simp)) (hw.vs _ (by simp)) aeZ ae2) ?_));exact Gt 3 O O O
 refine ae O (ab (aA ?_));refine R1 O O λw' hw=>?_;exact ⟨O,hw.fr⟩
end Go.Proofs.YtccenighnmfhgaaGreatDoor
end
