/- BuildApart: compiled one by one, each with the faces of its uses alone, and linked, modules are what Build tells. -/
import Derived.Deep.DeepHandedRow
import Derived.Deep.DeepWitnessRowRef
import Derived.LaidMore
import Derived.Lib.LaidTab
import Derived.OpenShut
import Derived.ProofKit
import Derived.SevenTiedAt
import Derived.Stop.Joined
import Derived.Stop.LaidErr
import Derived.Test.YtccenighnmfhgaaGreatDoorCards
import Derived.Test.YtccenighnmfhgaaGreatDoorRows
import Derived.Test.YtccenighnmfhgaaGreatDoorTie
import Derived.Test.YtccenighnmfhgaaGreatDoorV6
set_option linter.unusedVariables false
set_option linter.unusedSimpArgs false
set_option linter.defProp false
section
namespace Go.Proofs.YtccenighnmfhgaaGreatDoor
open Go.Bw Go.Proofs.Tryz
open Go.ChangeShapes Go.WideShapes Go.ChangeAt Go.RowKit Go.Joins Go.Deep
def WM (a:Type):wB a:=⟨Rows.uptoBulk,Rows.uptoBulkAll,λl=>by simp [Rows.uptoBulk],λl=>by simp [Rows.uptoBulk],λl r=>by simp only [Rows.uptoBulk]; omega,by simp [Rows.uptoBulkAll],λd r=>by simp [Rows.uptoBulkAll]⟩
theorem own:ownKnob prog.godebug=none:=ab
theorem laidOut:laidOutB prog=true:=ab
theorem WN:(prog.globals[3]?).map (·.type)=some 363:=ab
theorem WO:(prog.globals[1]?).map (·.type)=some 246:=ab
theorem WQ:(prog.globals[0]?).map (·.type)=some 246:=ab
theorem Md : prog.globalNamed "strconv.ErrRange" = some 1 := by kernel_rfl
theorem Me : prog.globalNamed "strconv.ErrSyntax" = some 0 := by kernel_rfl
theorem WR:prog.cellsOf 363=20:=ab
theorem X7:prog.cellsOf 305=1:=ab
theorem Mf:prog.cellsOf 361=1:=ab
theorem Mg:prog.cellsOf 9=1:=ab
theorem Mh (u:TypeId) (h:prog.typeName? 3 u=prog.typeName? 3 359):u=359:=
 typeName_ptr_named (P := prog) (nm := "errors.errorString") ab ab aF u (h.trans ab)
theorem X8 {W:World} (h:laidMetH prog Rows.buildAlikeRow.laid W):Laid (hv W):=by
 rw [MakeChecks.laidMetH_plain _ _ _ ab] at h;have a:=h.tail.tail;have c:Lib.TabIs prog W JK .u64 Lib.pow10Tab:=Lib.tabIs_of_head (k:=.u64) (zs:=Lib.pow10Tab) DJ WN underlying363 underlying305 X7 WR a;obtain ⟨a1,s1,d,_⟩:=laid_sentinel a.tail Md WO underlying246 (λu b=>Mh u (b.trans ab)) underlying359 underlying361 rfl rfl underlying9 Mf Mg;obtain ⟨a2,s2,e,_⟩:=laid_sentinel a.tail.tail Me WQ underlying246 (λu b=>Mh u (b.trans ab)) underlying359 underlying361 rfl rfl underlying9 Mf Mg;exact ⟨NR c DJ,⟨_,Bz (by simpa using World.var?_cell Me e 0),.inr ⟨_,_,O⟩⟩,⟨_,Bz (by simpa using World.var?_cell Md d 0),.inr ⟨_,_,O⟩⟩⟩
theorem X9 (os:Os) (args:Array Value):laidMetH prog Rows.buildAlikeRow.laid ((World.doorLaid prog 62 os).forCall (λ_ _=>0) ⟨#[],args,[]⟩).memory:=
 laidMetH_of_parts3 (fuel:=8) (laidMet_of_run' 8 ab ab) ab ab
end Go.Proofs.YtccenighnmfhgaaGreatDoor
end
section
namespace Go.Bw
open Go
def sy (N:Nat) (i:bA):Prop:=0<=i.a/\(i.a<=1099511627775\/i.a<=(N:Int))/\0<=i.b/\i.b<=64
def Bd (g:Gs):Prop:=∀i ∈ g.code,sy g.code.length i
theorem sy.mono {N a:Nat} (h:N<=a) {i:bA} (hi:sy N i):sy a i:=⟨hi.1,hi.2.1.imp id λx=>by omega,hi.2.2⟩
structure KB (k:Gk):Prop where
 bd:∀g,Bd g->Bd (k g)
 lo:∀g,g.code.length<=(k g).code.length
theorem KB.id:KB id:=⟨λ_ h=>h,λ_=>dp _⟩
theorem KB.comp {k a:Gk} (h:KB k) (b:KB a):KB λg=>a (k g):=⟨λg c=>b.bd _ (h.bd g c),λg=>kZ (h.lo g) (b.lo _)⟩
theorem Yc {l:List bA} (a:∀i ∈ l,sy 0 i) {g:Gs} (h:Bd g):Bd (ah l g):=λi hi=>by
 have hi:i ∈ g.code++l:=hi
 rcases dA.1 hi with hi | hi
 · exact (h i hi).mono (by simp [ah])
 · exact (a i hi).mono (cq _)
theorem Mi {l:List bA} (a:∀i ∈ l,sy 0 i):KB (ah l):=⟨λ_ h=>Yc a h,λg=>by simp [ah]⟩
theorem b4 {a b op:Int} (h:0<=a/\a<=1099511627775) (c:0<=b/\b<=64):KB (ah [⟨op,a,b⟩]):=Mi λi hi=>by
 rw [az] at hi; subst hi;exact ⟨h.1,.inl h.2,c.1,c.2⟩
theorem Mj {i:bA} {k m:Int} {g:Gs} (hi:sy g.code.length i) (h:Bd g):Bd (aT i k m g):=λj a=>by
 have a:j ∈ g.code++[i]:=a;rw [cC]
 rcases dA.1 a with a | a
 · exact (h j a).mono ae
 · rw [az] at a; subst a; exact hi.mono ae
theorem nG {a b op k m:Int} (h:0<=a/\a<=1099511627775) (c:0<=b/\b<=64):KB (aT ⟨op,a,b⟩ k m):=⟨λg d=>Mj ⟨h.1,.inl h.2,c.1,c.2⟩ d,λg=>by rw [cC]; omega⟩
theorem sz {n:Nat} {g:Gs} (h:Bd g):Bd (c7 n g):=λi hi=>by
 rw [qL];obtain ⟨j,b⟩:=jA hi;have b:(g.code.modify n λi=>{ i with a:=(g.code.length:Int) })[j]? = some i:=b;rw [rq] at b
 cases c:g.code[j]? with
 | none=>rw [c] at b; simp at b
 | some x=>
   rw [c] at b;have d:=h x (ax c)
   by_cases e:n=j
   · simp [e] at b
     subst b;exact ⟨by show (0:Int)<=(g.code.length:Int); omega,.inr (x' _),d.2.2⟩
   · simp [e] at b
     subst b;exact d
theorem nH {ks:List Gk} (h:∀k ∈ ks,KB k) (i:Nat):KB (gI ks i):=by
 unfold gI
 cases hi:ks[i]? with
 | none=>exact KB.id
 | some k=>exact h k (ax hi)
theorem xS:∀{ks:List Gk},(∀k ∈ ks,KB k)->KB (mK ks)
 | [],_=>KB.id
 | k::r,h=>(h k aj).comp (xS (ks:=r) λx a=>h x (by simp [a]))
theorem hx:(0:Int)<=0/\(0:Int)<=64:=aF
theorem zA:(0:Int)<=0/\(0:Int)<=1099511627775:=aF
theorem oA:(0:Int)<=1/\(1:Int)<=1099511627775:=aF
theorem AM (l:List bA) (g:Gs):(ah l g).code.length=g.code.length+l.length:=by simp [ah]
theorem WX {a b:Gk} (c:KB a) (d:KB b):KB (pC a b):=by
 refine ⟨λg e=>?_,λg=>?_⟩
 · unfold pC
   dsimp only;exact sz ((b4 zA hx).bd _ (sz ((nG zA hx).bd _ ((b4 zA hx).bd _ (d.bd _ ((nG zA hx).bd _ (c.bd g e)))))))
 · have h:=c.lo g
   have f:=d.lo (aT ⟨12,0,0⟩ 1 0 (a g));rw [cC] at f;unfold pC;simp only [qL,AM,cC,gf];omega
theorem WY {a b:Gk} (c:KB a) (d:KB b):KB (pD a b):=by
 refine ⟨λg f=>?_,λg=>?_⟩
 · unfold pD
   dsimp only;exact sz ((b4 zA hx).bd _ (d.bd _ (sz ((nG zA hx).bd _ ((b4 oA hx).bd _ ((nG zA hx).bd _ (c.bd g f)))))))
 · unfold pD
   dsimp only
   generalize h:c7 (a g).code.length (aT ⟨11,0,0⟩ 1 0 (ah [⟨1,1,0⟩] (aT ⟨12,0,0⟩ 1 0 (a g))))=e
   have i:=c.lo g;have j:=d.lo e
   have k:e.code.length=(a g).code.length+3:=by rw [<-h]; simp only [qL,AM,cC,gf]
   simp only [qL,AM,gf];omega
theorem WZ {b body other:Gk} {f:Nat} (c:KB b) (d:KB body) (e:KB other):KB (qH b body other f):=by
 refine ⟨λg h=>?_,λg=>?_⟩
 · unfold qH
   dsimp only;have a:=d.bd _ ((nG (op:=12) (k:=1) (m:=0) zA hx).bd _ (c.bd g h))
   split
   · exact sz (e.bd _ (sz ((nG zA hx).bd _ a)))
   · exact sz a
 · have l:=c.lo g
   have i:=d.lo (aT ⟨12,0,0⟩ 1 0 (b g));rw [cC] at i;unfold qH;dsimp only
   split
   · have j:=e.lo (c7 (b g).code.length (aT ⟨11,0,0⟩ 1 0 (body (aT ⟨12,0,0⟩ 1 0 (b g)))))
     rw [qL,cC] at j;rw [qL];omega
   · rw [qL]; omega
theorem W0 {a body:Gk} (b:KB a) (c:KB body):KB (s_ a body):=by
 have lo (g:Gs):g.code.length+2<=(body (ah [⟨16,0,0⟩] (aT ⟨12,0,0⟩ 1 0 (a g)))).code.length:=by
   have h:=b.lo g;have d:=c.lo (ah [⟨16,0,0⟩] (aT ⟨12,0,0⟩ 1 0 (a g)));simp only [AM,cC,gf] at d;omega
 refine ⟨λg e=>?_,λg=>?_⟩
 · have f:=lo g
   unfold s_;dsimp only;exact sz (Mj ⟨by show (0:Int)<=(g.code.length:Int); omega,.inr (by show (g.code.length:Int)<=_; omega),hx⟩ (c.bd _ ((b4 zA hx).bd _ ((nG zA hx).bd _ (b.bd g e)))))
 · have f:=lo g
   unfold s_;simp only [qL,cC];omega
theorem W1 {kn:List cv} {aB n m pl:Int} {len:Nat} (h:node1 kn aB 1 n m pl len=true):0<=n/\n<=1099511627775:=by
 rw [node1,if_pos rfl] at h;simp only [cO,decide_eq_true_eq] at h;exact ⟨h.1.2,h.2⟩
theorem W2 {kn:List cv} {aB op n m pl:Int} {len:Nat} (h:node1 kn aB op n m pl len=true):0<=op/\op<=16:=by
 unfold node1 at h
 split at h
 · omega
 · split at h
   · omega
   · split at h
     · omega
     · split at h
       · omega
       · split at h
         · omega
         · split at h
           · omega
           · split at h
             · omega
             · split at h
               · omega
               · cases h
def xT (aB:Int) (ks:List cv):Prop:=aB<=7/\∀m pl n,(iB ks m pl n=true\/jq ks m pl n=true)->0<=pl/\pl<=2048
mutual
theorem W3 {ks:List cv} {aB:Int} (i:xT aB ks):∀(x:aA) (d:Nat),kl ks aB x d=true->KB (aK x)
 | .mk op n m pl args,d,h=>by
   obtain ⟨j,t⟩:=HC h;have j:node1 ks aB op n m pl args.length=true:=j;have c:=ES i args (d+1) t;have f:=Hz j;have y:=W2 j
   have e:aK (.mk op n m pl args)=la op n m pl (e3 args):=by funext g; rw [aK]
   rw [e];have l {a:Int} (h:0<=a/\a<=2048):0<=a/\a<=1099511627775:=⟨h.1,ae⟩
   by_cases c1:op=1
   · subst c1
     have:=W1 j;exact b4 this hx
   · by_cases c2:op=2
     · subst c2; exact b4 zA hx
     · by_cases o:op=16
       · subst o
         have:=f.2.2.2 rfl;have:=i.1;exact b4 (show 0<=pl/\pl<=1099511627775 by omega) hx
       · by_cases c3:op=3
         · subst c3
           exact nG (l (i.2 _ _ _ (.inl (f.1 O)))) hx
         · by_cases c4:op=4
           · subst c4
             obtain ⟨z,u⟩:=f.2.1 rfl;exact ((nH c 0).comp (nG (op:=6) (k:=3) (m:=m) (b:=n) (l (i.2 _ _ _ (.inl u))) ae)).comp (b4 zA hx)
           · by_cases p:op=5
             · subst p
               exact (xS c).comp (nG (op:=13) (k:=2) (m:=m) (l (i.2 _ _ _ (.inr (f.2.2.1 O)))) hx)
             · have v:la op n m pl (e3 args)=λg=>if op=7 then pC (gI (e3 args) 0) (gI (e3 args) 1) g else if op=8 then pD (gI (e3 args) 0) (gI (e3 args) 1) g else if op=6 then ah [⟨9,0,0⟩] (mK (e3 args) g) else ah [⟨10,op,0⟩] (mK (e3 args) g):=by
                 funext g
                 unfold la;rw [if_neg c1,if_neg c2,if_neg o,if_neg c3,if_neg c4,if_neg p]
               rw [v]
               by_cases q:op=7
               · subst q; exact WX (nH c 0) (nH c 1)
               · by_cases r:op=8
                 · subst r; exact WY (nH c 0) (nH c 1)
                 · by_cases s:op=6
                   · subst s; exact (xS c).comp (b4 zA hx)
                   · have w:(λg=>if op=7 then pC (gI (e3 args) 0) (gI (e3 args) 1) g else if op=8 then pD (gI (e3 args) 0) (gI (e3 args) 1) g else if op=6 then ah [⟨9,0,0⟩] (mK (e3 args) g) else ah [⟨10,op,0⟩] (mK (e3 args) g))=λg=>ah [⟨10,op,0⟩] (mK (e3 args) g):=by
                       funext g
                       rw [if_neg q,if_neg r,if_neg s]
                     rw [w];exact (xS c).comp (b4 (show 0<=op/\op<=1099511627775 by omega) hx)
theorem ES {ks:List cv} {aB:Int} (b:xT aB ks):∀(l:List aA) (d:Nat),fT ks aB l d=true->∀k ∈ e3 l,KB k
 | [],d,_,k,h=>by rw [e3] at h; simp at h
 | x::r,d,a,k,h=>by
   rw [fT] at a;rw [e3] at h
   rcases dU.1 h with e | h
   · subst e; exact W3 b x d (d'.1 a).1
   · exact ES b r d (d'.1 a).2 k h
end
mutual
theorem W4 {ks:List cv} {aB:Int} (i:xT aB ks):∀(x:di) (d:Nat),j3 ks aB x d=true->KB (iX x)
 | .mk op n m pl args body other,d,h=>by
   obtain ⟨o,u,q,v⟩:=HD h;have o:fI ks aB op n m pl args.length body.length other.length=true:=o;have c:=ES i args 1 u;have f:=HA o;have w:=xU i other (d+1) v
   have e:iX (.mk op n m pl args body other)=j6 op n m pl (e3 args) (λg=>au body g) (λg=>au other g) other.length:=by funext g; rw [iX]
   rw [e];have p {a:Int} (h:0<=a/\a<=2048):0<=a/\a<=1099511627775:=⟨h.1,ae⟩
   by_cases c1:op=1
   · subst c1
     by_cases l:m<0
     · have j:j6 1 n m pl (e3 args) (λg=>au body g) (λg=>au other g) other.length=λg=>ah [⟨3,pl,0⟩] (gI (e3 args) 0 g):=by funext g; unfold j6; rw [if_pos rfl,if_pos l]
       rw [j];have:=(f.1 rfl).1 l;have:=i.1;exact (nH c 0).comp (b4 (show 0<=pl/\pl<=1099511627775 by omega) hx)
     · have j:j6 1 n m pl (e3 args) (λg=>au body g) (λg=>au other g) other.length=λg=>aT ⟨5,pl,0⟩ 3 m (gI (e3 args) 0 g):=by funext g; unfold j6; rw [if_pos rfl,if_neg l]
       rw [j];exact (nH c 0).comp (nG (p (i.2 _ _ _ (.inl ((f.1 O).2 l)))) hx)
   · by_cases c2:op=2
     · subst c2
       obtain ⟨z,y⟩:=f.2.1 rfl;exact (((nH c 0).comp (nG (op:=6) (k:=3) (m:=m) (b:=n) (p (i.2 _ _ _ (.inl y))) ae)).comp (nH c 1)).comp (b4 zA hx)
     · by_cases c3:op=3
       · subst c3
         exact ((xS c).comp (nG (op:=13) (k:=2) (m:=m) (p (i.2 _ _ _ (.inr (f.2.2 O)))) hx)).comp (b4 zA hx)
       · by_cases c4:op=4
         · subst c4
           exact WZ (nH c 0) (xU i body (d+1) (q Y)) w
         · by_cases r:op=5
           · subst r
             exact W0 (nH c 0) (xU i body (d+1) (q (.inr O)))
           · by_cases s:op=6
             · subst s; exact (nH c 0).comp (b4 zA hx)
             · by_cases t:op=7
               · subst t; exact (nH c 0).comp (b4 zA hx)
               · have j:j6 op n m pl (e3 args) (λg=>au body g) (λg=>au other g) other.length=id:=by
                   funext g
                   unfold j6;rw [if_neg c1,if_neg c2,if_neg c3,if_neg c4,if_neg r,if_neg s,if_neg t]; rfl
                 rw [j];exact KB.id
theorem xU {ks:List cv} {aB:Int} (a:xT aB ks):∀(l:List di) (d:Nat),bb ks aB l d=true->KB (au l)
 | [],d,_=>by
   have e:au []=id:=by funext g; rw [au]; rfl
   rw [e]; exact KB.id
 | x::r,d,h=>by
   rw [bb] at h
   have e:au (x::r)=λg=>au r (iX x g):=by funext g; rw [au]
   rw [e];exact (W4 a x d (d'.1 h).1).comp (xU a r d (d'.1 h).2)
end
theorem Mk {ks:List cv} {aB:Int} (a:xT aB ks) {b:List di} {d:Nat} (h:bb ks aB b d=true) {pa lo:Int} (c:0<=pa/\pa<=3) (e:0<=lo/\lo<=4):KB (ia pa lo b):=
 ((b4 (op:=14) (show 0<=pa/\pa<=1099511627775 by omega) (show 0<=lo/\lo<=64 by omega)).comp (xU a b d h)).comp (Mi (l:=[⟨1,0,0⟩,⟨15,0,0⟩]) (by
   intro i hi;simp at hi
   rcases hi with rfl | rfl<;>exact ⟨aF,.inl aF,aF,aF⟩))
theorem Ml {ks:List cv} (b:∀m pl n,(iB ks m pl n=true\/jq ks m pl n=true)->0<=pl/\pl<=2048):∀{l:List hR} (a:∀p ∈ l,j4 ks p=true) (g:Gs),Bd g->Bd (dj l g).2
 | [],_,g,h=>h
 | p::r,a,g,h=>by
   obtain ⟨a1,a2,a3,a4,c⟩:=y' (a p aj);rw [dj];exact Ml b (l:=r) (λq d=>a q (by simp [d])) _ ((Mk (aB:=p.params+p.locals) ⟨ae,b⟩ (ix c) ⟨a1,a2⟩ ⟨a3,a4⟩).bd g h)
theorem W5 {u:cb} (h:oM u=true) (q:(fV u).g.code.length<=2048):CZ (fV u).to:=by
 have b:=HR h aj λk d hi=>by rw [(xv.1 d).2] at hi; cases hi
 obtain ⟨e,f,_,_⟩:=wQ h
 have c:∀m pl n,(iB (aG u::List.replicate u.aq.length k') m pl n=true\/jq (aG u::List.replicate u.aq.length k') m pl n=true)->0<=pl/\pl<=2048:=λm pl n a=>by
   rcases a with a | a
   · exact (wV b a).2
   · exact (pK b a).2
 have j:Bd ⟨[],[]⟩:=λi hi=>by cases hi
 have o:=Ml c (l:=u.parts) e ⟨[],[]⟩ j;have p:Bd (fV u).g:=(Mk (aB:=0) ⟨aF,c⟩ (ix f) ⟨aF,aF⟩ ⟨aF,aF⟩).bd _ o;refine ⟨λi hi=>?_⟩;have:=p i hi;unfold sy at this;unfold r2;omega
end Go.Bw
end
section
namespace Go.Bw
open Go
theorem ET:∀{l:List cQ},(∀d ∈ l,(bl d).bL=0)->0<=fo l/\fo l<=32*(l.length:Int)
 | [],_=>by simp [fo]
 | d::r,h=>by
   have c:=ET (l:=r) λx b=>h x (by simp [b]);have a:=tj (h d aj)
   have f:0<=iz d/\iz d<=32:=by
     unfold iz
     rcases a.kind with e | e | e
     · simp [e]
     · simp [e]
     · have:=a.n3 e; simp [e]; omega
   simp only [fo,du];omega
structure EU (m:aX) (x:bx):Prop where
 name:eP x.name=true
 kind:(x.kind=1/\0<=x.n/\x.n<=1099511627775/\x.pl=0)\/(x.kind=2/\x.n=0/\0<=x.pl/\x.pl+1<=k5 m)\/(x.kind=3/\1<=x.n/\x.n<=32/\0<=x.pl/\x.pl+x.n<=k5 m)\/(x.kind=4/\∃(i:Nat) (p:ed),x.pl=i/\m.procs[i]? = some p/\x.n=(p.params.length:Int))
theorem Mm:∀{l:List cQ} {a:Int},(∀d ∈ l,(bl d).bL=0)->0<=a->∀x ∈ iT l a,eP x.name=true/\((x.kind=1/\0<=x.n/\x.n<=1099511627775/\x.pl=0)\/(x.kind=2/\x.n=0/\0<=x.pl/\x.pl+1<=a+fo l)\/(x.kind=3/\1<=x.n/\x.n<=32/\0<=x.pl/\x.pl+x.n<=a+fo l))
 | [],_,_,_,x,b=>by simp [iT] at b
 | d::r,a,h,g,x,b=>by
   have c:=tj (h d aj);have i:=ET (l:=r) λx b=>h x (by simp [b])
   have j:0<=iz d:=by
     unfold iz
     rcases c.kind with e | e | e
     · simp [e]
     · simp [e]
     · have:=c.n3 e; simp [e]; omega
   simp only [iT] at b;simp only [fo]
   rcases dU.1 b with rfl | b
   · refine ⟨c.name,?_⟩
     unfold mG iz
     rcases c.kind with e | e | e
     · have:=c.n1 e; simp [e]; omega
     · have:=c.n2 e; simp [e]; omega
     · have:=c.n3 e; simp [e]; omega
   · have f:=Mm (l:=r) (a:=a+iz d) (λx b=>h x (by simp [b])) ae x b
     rw [show a+(iz d+fo r)=a+iz d+fo r by omega];exact f
theorem Mn {m:aX}:∀{l:List ed} {i:Nat},(∀p ∈ l,eP p.nm=true)->(∀(j:Nat) p,l[j]? = some p->m.procs[i+j]? = some p)->∀x ∈ bO l i,eP x.name=true/\x.kind=4/\∃(j:Nat) (p:ed),x.pl=j/\m.procs[j]? = some p/\x.n=(p.params.length:Int)
 | [],_,_,_,x,a=>by simp [bO] at a
 | p::r,i,h,b,x,a=>by
   simp only [bO] at a
   rcases dU.1 a with rfl | a
   · exact ⟨h p aj,O,i,p,O,b 0 p O,O⟩
   · exact Mn (l:=r) (i:=i+1) (λx a=>h x (by simp [a])) (λj q c=>by rw [show i+1+j=i+(j+1) by omega]; exact b (j+1) q c) x a
theorem xV {m:aX} (h:kt m):∀x ∈ eQ m,EU m x:=λx b=>by
 rcases dA.1 b with b | b
 · obtain ⟨c,a⟩:=Mm h.decls (x' 0) x b
   rw [Int.zero_add] at a;exact ⟨c,by rcases a with a | a | a; exact .inl a; exact .inr (.inl a); exact .inr (.inr (.inl a))⟩
 · obtain ⟨c,a⟩:=Mn (m:=m) (λp d=>(e7 (h.procs p d)).name) (λj p d=>by rw [cj]; exact d) x b
   exact ⟨c,.inr (.inr (.inr a))⟩
theorem vI {m:aX} (h:kt m):0<=k5 m/\k5 m<=320:=by
 have:=ET h.decls;have:=h.aH;unfold k5;omega
theorem W6 {m:aX} (h:kt m) {x:bx} (b:EU m x):jF x=true:=by
 have d:=bJ b.name;have f:=vI h;unfold jF dS;rw [d]
 rcases b.kind with ⟨e,a⟩ | ⟨e,a⟩ | ⟨e,a⟩ | ⟨e,i,p,a,c,g⟩
 · simp [e]; omega
 · simp [e]; omega
 · simp [e]; omega
 · have j:=(e7 (h.procs p (ax c))).aH
   have k:=(cf.1 c).1;have l:=h.aH;simp [e]; omega
theorem AN:∀(l:List bx) (ps:List Bool),(iU l ps).Sublist l
 | [],_=>by simp [iU]
 | x::l,[]=>by simp [iU]
 | x::l,p::ps=>by
   simp only [iU];cases p
   · simpa using (AN l ps).cons x
   · simpa using (AN l ps).cons_cons x
theorem gM {m:aX} (h:(cn m).2=0):bp (cn m).1.1 (cn m).1.2=0/\(cn m).1.1=m.nm/\kt m:=by
 unfold cn at h ⊢
 split at h
 · rename_i b; exact absurd h b
 · rename_i b
   have e:gz m=0:=by simpa using b
   have a:=zD (Dv.1 e)
   split at h
   · cases h
   · rename_i c
     rw [if_neg b,if_neg c];refine ⟨?_,O,a⟩
     show bp m.nm (iU (eQ m) (k6 m))=0
     have f:e6 ((eQ m).map (·.name))=false:=by
       cases g:e6 ((eQ m).map (·.name)) with
       | false=>rfl
       | true=>rw [g] at c; simp at c
     have d:=AN (eQ m) (k6 m);have i:((iU (eQ m) (k6 m)).map (·.name)).Nodup:=(d.map (·.name)).nodup (jl.2 f);have j:=B5 (eQ m) (k6 m);rw [jZ] at j;have n:=a.aH;unfold bp;have k:(iU (eQ m) (k6 m)).all jF=true:=fG.2 λx l=>W6 a (xV a x (d.subset l));rw [k,jl.1 i,bJ a.name];simp;omega
section
variable {m:aX} {aB:List Tx}
theorem Mo {nm:Tx} {l:List Tx} {i:Nat} (h:idxOf nm l 0=some i):i<l.length:=by
 have:=(s6 h).2;rw [qj] at this;exact (cf.1 this).1
theorem AO {nm:Tx}:∀{l:List bx} {x:bx},gA nm l=some x->x ∈ l
 | [],_,h=>by cases h
 | y::r,x,h=>by
   unfold gA at h
   split at h
   · injection h with h; subst h; simp
   · exact bE _ (AO h)
theorem xw (c:m.aq=[]) {mod nm:Tx} {k:Int} {it:bx} (h:aP (bZ m [] aB) mod nm=some (k,it)):(k = -1/\0<=it.pl/\it.pl<(aB.length:Int))\/(k=0/\it ∈ eQ m):=by
 unfold aP at h
 split at h
 · split at h
   · rename_i i hi
     injection h with h; injection h with a b
     subst a b;have f:i<aB.length:=Mo hi;exact .inl ⟨O,by show (0:Int)<=(i:Int); omega,by show (i:Int)<_; omega⟩
   · obtain ⟨x,d,e⟩:=dr.1 h
     injection e with a b
     subst a b;exact .inr ⟨O,AO d⟩
 · unfold bZ at h
   rw [c] at h;unfold j0 at h;cases h
def lU (m:aX):List cv:=[aG (dE m [])]
theorem AP (a:kt m) {pl n:Int} (d:0<=pl) (b:pl+n<=k5 m) (e:0<=n):iB (lU m) 0 pl n=true:=by
 have f:=vI a
 have c:lC (lU m) ((0:Nat):Int) pl=false:=by
   unfold lC lU;simp;omega
 have:=s7 (n:=n) (k:=aG (dE m [])) c rfl;rw [show (((0:Nat):Int))=0 from rfl] at this;rw [this,if_pos (show (aG (dE m [])).nW=true from rfl)];exact decide_eq_true b
theorem Mp {i:Nat} {p:ed} (a:m.procs[i]? = some p):jq (lU m) 0 i (p.params.length:Int)=true:=by
 have b:=(cf.1 a).1
 have c:b5 (lU m) ((0:Nat):Int) (i:Int)=false:=by
   unfold b5 lU;simp
 have:=rR (n:=(p.params.length:Int)) (k:=aG (dE m [])) c rfl;rw [show (((0:Nat):Int))=0 from rfl] at this;rw [this,if_pos (show (aG (dE m [])).nW=true from rfl)]
 have e:(aG (dE m [])).parts=m.procs.map λp=>(p.params.length:Int):=by
   unfold aG dE;simp [nk]
 rw [e,mu,eZ,a,eo];simp;exact b
theorem jw {a:Int} {n:Nat} (h:k4 a n=false) (b:0<=a):(n:Int)=a:=by
 unfold k4 at h;rw [decide_eq_true b] at h
 simpa using h
theorem W7 (r:kt m) (y:m.aq=[]) {op n:Int} {mod nm:Tx} {args:List a8} {d:Nat} (s:r7 op n mod nm args d) (a:(cV (bZ m [] aB) op n mod nm args.length).e=0) :
   node1 (lU m) aB.length (cV (bZ m [] aB) op n mod nm args.length).op (cV (bZ m [] aB) op n mod nm args.length).n (cV (bZ m [] aB) op n mod nm args.length).m (cV (bZ m [] aB) op n mod nm args.length).pl args.length=true:=by
 have C:=s.kind;have j:=s.num;have f:=s.oY
 by_cases l:dS op 3 5=true
 · have v:op=3\/op=4\/op=5:=by unfold dS at l; simp at l; omega
   have g:n=0:=by
     unfold hB at j
     have:¬op=1:=ae
     simpa [this] using j
   unfold cV at a ⊢;rw [if_pos l] at a ⊢
   cases t:aP (bZ m [] aB) mod nm with
   | none=>rw [t] at a; cases a
   | some q=>
     obtain ⟨k,it⟩:=q;rw [t] at a;dsimp only at a ⊢
     rcases xw y t with ⟨rfl,z,A⟩ | ⟨rfl,B⟩
     · rw [if_pos rfl] at a ⊢
       have u:op=3:=by
         dsimp only at a
         split at a
         · assumption
         · cases a
       subst u;have b:=jw f aF;rw [show iw 3=0 from rfl] at b;unfold node1 qD;simp [g,b,z,A]
     · rw [if_neg aF] at a ⊢
       have hi:=xV r it B
       rcases v with rfl | rfl | rfl
       · have b:=jw f aF
         rw [show iw 3=0 from rfl] at b
         rcases hi.kind with ⟨e,c⟩ | ⟨e,c⟩ | ⟨e,c⟩ | ⟨e,c⟩
         · rw [if_pos ⟨rfl,e⟩]
           unfold node1; simp [b]; omega
         · rw [if_neg ae,if_pos ⟨rfl,e⟩]
           have:=AP r (pl:=it.pl) (n:=1) c.2.1 c.2.2 aF;unfold node1; simp [b,g,this]
         · rw [if_neg ae,if_neg ae,if_neg ae,if_neg ae] at a; cases a
         · rw [if_neg ae,if_neg ae,if_neg ae,if_neg ae] at a; cases a
       · have b:=jw f aF
         rw [show iw 4=1 from rfl] at b;rw [if_neg ae,if_neg ae] at a ⊢
         rcases hi.kind with ⟨e,c⟩ | ⟨e,c⟩ | ⟨e,c⟩ | ⟨e,c⟩
         · rw [if_neg ae,if_neg ae] at a; cases a
         · rw [if_neg ae,if_neg ae] at a; cases a
         · rw [if_pos ⟨rfl,e⟩]
           have:=AP r (pl:=it.pl) (n:=it.n) c.2.2.1 c.2.2.2 ae;unfold node1 oF; simp [b,this]; omega
         · rw [if_neg ae,if_neg ae] at a; cases a
       · rw [if_neg ae,if_neg ae,if_neg ae] at a ⊢
         rcases hi.kind with ⟨e,c⟩ | ⟨e,c⟩ | ⟨e,c⟩ | ⟨e,i,p,c,o,u⟩
         · rw [if_neg ae] at a; cases a
         · rw [if_neg ae] at a; cases a
         · rw [if_neg ae] at a; cases a
         · rw [if_pos ⟨rfl,e⟩] at a ⊢
           dsimp only at a ⊢
           have b:it.n=(args.length:Int):=by
             split at a
             · assumption
             · cases a
           have:=Mp o;rw [<-c,<-u,b] at this;unfold node1; simp [g,this]
 · have v:¬(op=3\/op=4\/op=5):=λh=>l (by unfold dS; simp; omega)
   unfold cV;rw [if_neg l];dsimp only
   by_cases c:op=1
   · subst c
     have b:=jw f aF;rw [show iw 1=0 from rfl] at b;unfold hB at j;unfold node1; simp [b] at j ⊢; omega
   · have g:n=0:=by
       unfold hB at j
       simpa [c] using j
     by_cases o:op=2
     · subst o
       have b:=jw f aF;rw [show iw 2=0 from rfl] at b;unfold node1; simp [g,b]
     · by_cases w:op=6
       · subst w
         have b:=jw f aF;rw [show iw 6=1 from rfl] at b;unfold node1; simp [g,b]
       · have x:iw op=2:=by unfold iw; rw [if_neg ae,if_neg ae,if_neg ae]
         have b:=jw f (by rw [x]; decide);rw [x] at b;unfold node1;rw [if_neg c,if_neg ae,if_neg ae,if_neg ae,if_neg ae,if_neg o,if_neg w,if_pos ae];simp [g,b]
mutual
theorem W8 (b:kt m) (c:m.aq=[]):∀(x:a8) (d:Nat),(gR x d).bL=0->jo (bZ m [] aB) x=0->kl (lU m) aB.length (lA (bZ m [] aB) x) d=true
 | .mk op n mod nm args,d,e,he=>by
   have a:=w1 e;rw [eh] at he;obtain ⟨f,g⟩:=j1.1 he;rw [B',kl]
   have h:(fZ (bZ m [] aB) (a8.mk op n mod nm args).args).length=args.length:=by rw [h5,eo]; rfl
   rw [h];have i:=W7 b c a f;have j:=EV b c args (d+1) a.sub g;rw [decide_eq_true a.deep]
   show (node1 _ _ (cV (bZ m [] aB) op n mod nm args.length).op (cV (bZ m [] aB) op n mod nm args.length).n (cV (bZ m [] aB) op n mod nm args.length).m (cV (bZ m [] aB) op n mod nm args.length).pl args.length&&fT _ _ (fZ (bZ m [] aB) args) (d+1))=true
   rw [i,j]; rfl
theorem EV (a:kt m) (b:m.aq=[]):∀(l:List a8) (d:Nat),(ay l d).bL=0->hj (bZ m [] aB) l=0->fT (lU m) aB.length (fZ (bZ m [] aB) l) d=true
 | [],d,_,_=>by rw [fZ,fT]
 | x::r,d,c,he=>by
   unfold ay at c;unfold hj at he;obtain ⟨c1,c2⟩:=ga c;obtain ⟨e,f⟩:=j1.1 he;rw [fZ,fT,W8 a b x d c1 e,EV a b r d c2 f]; rfl
end
theorem W9 (t:kt m) (z:m.aq=[]) {op:Int} {mod nm:Tx} {args:List a8} {body other:List bq} {d:Nat} (u:pV op mod nm args body other d) (a:(de (bZ m [] aB) op mod nm args.length).e=0) :
   (de (bZ m [] aB) op mod nm args.length).op=op/\fI (lU m) aB.length (de (bZ m [] aB) op mod nm args.length).op (de (bZ m [] aB) op mod nm args.length).n (de (bZ m [] aB) op mod nm args.length).m (de (bZ m [] aB) op mod nm args.length).pl args.length body.length other.length=true:=by
 have F:=u.kind;have o:=u.oY;have r:=u.form
 have s:(op≠4/\op≠5->body.length=0)/\(op≠4->other.length=0):=by
   unfold bo inner at r;simp at r;refine ⟨λh=>?_,λh=>?_⟩
   · have:=r.1 h.1 h.2; simp [this]
   · have:=r.2 h; simp [this]
 by_cases j:dS op 1 3=true
 · have v:op=1\/op=2\/op=3:=by unfold dS at j; simp at j; omega
   have g:body.length=0:=s.1 ae;have f:other.length=0:=s.2 ae;unfold de at a ⊢;rw [if_pos j] at a ⊢
   cases w:aP (bZ m [] aB) mod nm with
   | none=>rw [w] at a; cases a
   | some q=>
     obtain ⟨k,it⟩:=q;rw [w] at a;dsimp only at a ⊢
     rcases xw z w with ⟨rfl,A,B⟩ | ⟨rfl,C⟩
     · rcases v with rfl | rfl | rfl
       · have c:=jw o aF
         rw [show ng 1=1 from rfl] at c;rw [if_pos ⟨rfl,.inl rfl⟩];refine ⟨O,?_⟩;unfold fI qD;simp [c,g,f,A,B]
       · rw [if_neg ae,if_pos rfl] at a; cases a
       · rw [if_neg ae,if_pos rfl] at a; cases a
     · have hi:=xV t it C
       rcases v with rfl | rfl | rfl
       · have c:=jw o aF
         rw [show ng 1=1 from rfl] at c
         rcases hi.kind with ⟨e,b⟩ | ⟨e,b⟩ | ⟨e,b⟩ | ⟨e,b⟩
         · rw [if_neg ae,if_neg ae,if_neg ae,if_neg ae] at a; cases a
         · rw [if_pos ⟨rfl,.inr e⟩]
           have:=AP t (pl:=it.pl) (n:=1) b.2.1 b.2.2 aF;refine ⟨O,?_⟩;unfold fI; simp [c,g,f,this]
         · rw [if_neg ae,if_neg ae,if_neg ae,if_neg ae] at a; cases a
         · rw [if_neg ae,if_neg ae,if_neg ae,if_neg ae] at a; cases a
       · have c:=jw o aF
         rw [show ng 2=2 from rfl] at c;rw [if_neg ae,if_neg ae] at a ⊢
         rcases hi.kind with ⟨e,b⟩ | ⟨e,b⟩ | ⟨e,b⟩ | ⟨e,b⟩
         · rw [if_neg ae,if_neg ae] at a; cases a
         · rw [if_neg ae,if_neg ae] at a; cases a
         · rw [if_pos ⟨rfl,e⟩]
           have:=AP t (pl:=it.pl) (n:=it.n) b.2.2.1 b.2.2.2 ae;refine ⟨O,?_⟩;unfold fI oF; simp [c,g,f,this]; omega
         · rw [if_neg ae,if_neg ae] at a; cases a
       · rw [if_neg ae,if_neg ae,if_neg ae] at a ⊢
         rcases hi.kind with ⟨e,b⟩ | ⟨e,b⟩ | ⟨e,b⟩ | ⟨e,i,p,b,D,E⟩
         · rw [if_neg ae] at a; cases a
         · rw [if_neg ae] at a; cases a
         · rw [if_neg ae] at a; cases a
         · rw [if_pos ⟨rfl,e⟩] at a ⊢
           dsimp only at a ⊢
           have c:it.n=(args.length:Int):=by
             split at a
             · assumption
             · cases a
           have:=Mp D;rw [<-b,<-E,c] at this;refine ⟨O,?_⟩;unfold fI; simp [g,f,this]
 · have v:¬(op=1\/op=2\/op=3):=λh=>j (by unfold dS; simp; omega)
   unfold de;rw [if_neg j];dsimp only;refine ⟨O,?_⟩
   have y:ng op=1:=by unfold ng; rw [if_neg ae,if_neg ae]
   have c:=jw o (by rw [y]; decide);rw [y] at c;unfold fI;rw [if_neg ae,if_neg ae,if_neg ae]
   by_cases l:op=4
   · rw [if_pos l]; simp [c]
   · have f:=s.2 l
     by_cases x:op=5
     · rw [if_neg l,if_pos x]; simp [c,f]
     · have g:=s.1 ⟨l,x⟩
       rw [if_neg l,if_neg x,if_pos ae]; simp [c,f,g]
theorem vJ {d len:Nat} {c:bs} (h:(l8 d len c).bL=0):d<=6/\len<=10/\c.bL=0:=by
 unfold l8 at h
 split at h
 · cases h
 · obtain ⟨a,b⟩:=ga h
   have:=iY a;simp at this;exact ⟨ae,ae,b⟩
mutual
theorem Ye (b:kt m) (c:m.aq=[]):∀(x:bq) (d:Nat),(aL x d).bL=0->iA (bZ m [] aB) x=0->j3 (lU m) aB.length (lB (bZ m [] aB) x) d=true
 | .mk op mod nm args body other,d,k,he=>by
   have e:=w2 k;rw [pz] at he;obtain ⟨l,f⟩:=j1.1 he;obtain ⟨f,g⟩:=j1.1 f;obtain ⟨g,o⟩:=j1.1 g;rw [B_,j3]
   have p:(fZ (bZ m [] aB) args).length=args.length:=by rw [h5,eo]
   have q:(eC (bZ m [] aB) body).length=body.length:=by rw [pA,eo]
   have r:(eC (bZ m [] aB) other).length=other.length:=by rw [pA,eo]
   obtain ⟨s,t⟩:=W9 b c e l;have u:=EV b c args 1 e.exprs f
   show (fI _ _ (de (bZ m [] aB) op mod nm args.length).op (de (bZ m [] aB) op mod nm args.length).n (de (bZ m [] aB) op mod nm args.length).m (de (bZ m [] aB) op mod nm args.length).pl (fZ (bZ m [] aB) args).length (eC (bZ m [] aB) body).length (eC (bZ m [] aB) other).length&&(fT _ _ (fZ (bZ m [] aB) args) 1&&((!(oG (de (bZ m [] aB) op mod nm args.length).op)||(decide (d+1<=6)&&(decide ((eC (bZ m [] aB) body).length<=10)&&bb _ _ (eC (bZ m [] aB) body) (d+1))))&&(!(decide (0<(eC (bZ m [] aB) other).length))||(decide (d+1<=6)&&(decide ((eC (bZ m [] aB) other).length<=10)&&bb _ _ (eC (bZ m [] aB) other) (d+1)))))))=true
   rw [p,q,r,t,u,s];simp only [dw];refine d'.2 ⟨?_,?_⟩
   · by_cases a:oG op=true
     · obtain ⟨h,i,j⟩:=vJ (e.body (by rw [show inner op=true from a]; rfl))
       rw [decide_eq_true h,decide_eq_true i,AQ b c body (d+1) j g]; simp
     · simp [a]
   · by_cases a:0<other.length
     · obtain ⟨h,i,j⟩:=vJ (e.other a)
       rw [decide_eq_true h,decide_eq_true i,AQ b c other (d+1) j o]; simp
     · rw [decide_eq_false a]; rfl
theorem AQ (a:kt m) (b:m.aq=[]):∀(l:List bq) (d:Nat),(cS l d).bL=0->e2 (bZ m [] aB) l=0->bb (lU m) aB.length (eC (bZ m [] aB) l) d=true
 | [],d,_,_=>by rw [eC,bb]
 | x::r,d,c,he=>by
   unfold cS at c;unfold e2 at he;obtain ⟨c1,c2⟩:=ga c;obtain ⟨e,f⟩:=j1.1 he;rw [eC,bb,Ye a b x d c1 e,AQ a b r d c2 f]; rfl
end
theorem Mq (a:kt m) (b:m.aq=[]) {l:List bq} (c:(d_ l 1).bL=0) (d:e2 (bZ m [] aB) l=0):bf (lU m) aB.length (eC (bZ m [] aB) l) 1=true:=by
 obtain ⟨e,f,g⟩:=vJ c;unfold bf;rw [pA,eo,<-pA,decide_eq_true e,decide_eq_true f,AQ a b l 1 g d]; rfl
end
theorem EW {α:Type} {f:α->Int}:∀{l:List α},gk f l=0->∀x ∈ l,f x=0
 | [],_,x,a=>by simp at a
 | y::r,h,x,a=>by
   unfold gk at h;obtain ⟨b,c⟩:=j1.1 h
   rcases dU.1 a with rfl | a
   · exact b
   · exact EW c x a
theorem W_ {m:aX} (a:kt m) (b:m.aq=[]) (e:k9 m []=0):wG [dE m []]=0:=by
 unfold k9 at e;obtain ⟨j,k⟩:=j1.1 e;have v:=vI a;have w:=a.aH
 have l:jI (dE m []) []=true:=by
   unfold jI
   have a1:oH (dE m []).nm (dE m []).aq=true:=by
     show oH m.nm m.aq=true
     rw [b]; unfold oH; rw [jl.1 aj]; rfl
   have a2:nY (dE m [])=false:=by
     unfold nY
     have n:(dE m []).parts.length=m.procs.length:=by unfold dE; simp
     have c:(dE m []).aq.length=0:=by show m.aq.length=0; rw [b]; rfl
     have o:(dE m []).nm=m.nm:=rfl;have d:(dE m []).data=k5 m:=rfl;rw [n,c,o,d,bJ a.name];simp;omega
   have a3:(dE m []).parts.all (j4 (lU m))=true:=by
     refine fG.2 λx q=>?_;obtain ⟨p,f,rfl⟩:=k0.1 (show x ∈ m.procs.map (nk m []) from q);have g:=e7 (a.procs p f);have h:=EW j p f;unfold nV at h;obtain ⟨_,r⟩:=j1.1 h;have i:=Mq a b g.body r;rw [dG] at i;unfold j4 nk;have y:=g.aH;rw [show ((p.params.length:Int)+(p.aB.length:Int))=((p.params.length+p.aB.length:Nat):Int) by omega,i];simp;omega
   have a4:bf (lU m) 0 (dE m []).main 1=true:=Mq (aB:=[]) a b a.main k;rw [a1,a2,show aG (dE m [])::[]=lU m from rfl,a3,a4]; rfl
 have s:h7 [dE m []]=true:=by
   unfold h7;have c:(dE m []).aq=[]:=b;simp [vT,c]
 have t:ej [dE m []] 512=true:=by
   unfold ej ej;have d:(dE m []).data=k5 m:=rfl;rw [d];simp;omega
 have u:lD [dE m []] (dE m [])=[]:=by
   unfold lD;rw [show (dE m []).aq=[] from b]; rfl
 unfold wG;rw [if_neg aj,if_neg (by rw [s]; decide),if_neg (by unfold cA; rw [jl.1 aj]; decide),if_neg (by rw [t]; decide),if_pos (by simp only [sD,List.all_nil,u,l]; rfl)]
theorem resolve_right {m:aX} {fs:List (Tx×List bx)} (h:(cL m fs).2=0):(cn m).2=0/\(m.aq=[]->wG [(cL m fs).1]=0):=by
 unfold cL at h ⊢
 split at h
 · rename_i a; exact absurd h a
 · rename_i a
   have d:(cn m).2=0:=by simpa using a
   refine ⟨d,λe=>?_⟩;rw [if_neg a]
   split at h
   · cases h
   · rename_i c
     rw [if_neg c]
     split at h
     · cases h
     · rename_i f
       rw [if_neg f]
       split at h
       · rename_i b; exact absurd h b
       · rename_i b
         rw [if_neg b];have g:fs=[]:=ou (by rw [e] at c; simpa using c);subst g;exact W_ (gM d).2.2 e (by simpa using b)
end Go.Bw
end
section
namespace Go.Bw
open Go
structure Mr (gn:List cv) (k:Int) (x:bx):Prop where
 pos:0<=k
 kind:(x.kind=1/\0<=x.n/\x.n<=1099511627775)\/(x.kind=2/\iB gn k x.pl 1=true)\/(x.kind=3/\1<=x.n/\x.n<=32/\iB gn k x.pl x.n=true)\/(x.kind=4/\jq gn k x.pl x.n=true)
def sA (gn:List cv) (m:aX) (fs:List fQ) (aB:List Tx):Prop:=∀mod nm k it,aP (bZ m fs aB) mod nm=some (k,it)->(k = -1/\0<=it.pl/\it.pl<(aB.length:Int))\/Mr gn k it
section
variable {m:aX} {aB:List Tx} {fs:List fQ} {gn:List cv}
theorem Xa (u:sA gn m fs aB) {op n:Int} {mod nm:Tx} {args:List a8} {d:Nat} (l:r7 op n mod nm args d) (a:(cV (bZ m fs aB) op n mod nm args.length).e=0) :
   node1 (gn) aB.length (cV (bZ m fs aB) op n mod nm args.length).op (cV (bZ m fs aB) op n mod nm args.length).n (cV (bZ m fs aB) op n mod nm args.length).m (cV (bZ m fs aB) op n mod nm args.length).pl args.length=true:=by
 have y:=l.kind;have i:=l.num;have f:=l.oY
 by_cases j:dS op 3 5=true
 · have p:op=3\/op=4\/op=5:=by unfold dS at j; simp at j; omega
   have g:n=0:=by
     unfold hB at i
     have:¬op=1:=ae
     simpa [this] using i
   unfold cV at a ⊢;rw [if_pos j] at a ⊢
   cases o:aP (bZ m fs aB) mod nm with
   | none=>rw [o] at a; cases a
   | some q=>
     obtain ⟨k,it⟩:=q;rw [o] at a;dsimp only at a ⊢
     rcases u mod nm k it o with ⟨rfl,v,w⟩ | hi
     · rw [if_pos rfl] at a ⊢
       have x:op=3:=by
         dsimp only at a
         split at a
         · assumption
         · cases a
       subst x;have b:=jw f aF;rw [show iw 3=0 from rfl] at b;unfold node1 qD;simp [g,b,v,w]
     · have z:=hi.pos
       rw [if_neg ae] at a ⊢
       rcases p with rfl | rfl | rfl
       · have b:=jw f aF
         rw [show iw 3=0 from rfl] at b
         rcases hi.kind with ⟨e,c⟩ | ⟨e,c⟩ | ⟨e,c⟩ | ⟨e,c⟩
         · rw [if_pos ⟨rfl,e⟩]
           unfold node1; simp [b]; omega
         · rw [if_neg ae,if_pos ⟨rfl,e⟩]
           have:=c;unfold node1; simp [b,g,this]
         · rw [if_neg ae,if_neg ae,if_neg ae,if_neg ae] at a; cases a
         · rw [if_neg ae,if_neg ae,if_neg ae,if_neg ae] at a; cases a
       · have b:=jw f aF
         rw [show iw 4=1 from rfl] at b;rw [if_neg ae,if_neg ae] at a ⊢
         rcases hi.kind with ⟨e,c⟩ | ⟨e,c⟩ | ⟨e,c⟩ | ⟨e,c⟩
         · rw [if_neg ae,if_neg ae] at a; cases a
         · rw [if_neg ae,if_neg ae] at a; cases a
         · rw [if_pos ⟨rfl,e⟩]
           have:=c.2.2;unfold node1 oF; simp [b,this]; omega
         · rw [if_neg ae,if_neg ae] at a; cases a
       · rw [if_neg ae,if_neg ae,if_neg ae] at a ⊢
         rcases hi.kind with ⟨e,c⟩ | ⟨e,c⟩ | ⟨e,c⟩ | ⟨e,c⟩
         · rw [if_neg ae] at a; cases a
         · rw [if_neg ae] at a; cases a
         · rw [if_neg ae] at a; cases a
         · rw [if_pos ⟨rfl,e⟩] at a ⊢
           dsimp only at a ⊢
           have b:it.n=(args.length:Int):=by
             split at a
             · assumption
             · cases a
           have:=c;rw [b] at this;unfold node1; simp [g,this]
 · have p:¬(op=3\/op=4\/op=5):=λh=>j (by unfold dS; simp; omega)
   unfold cV;rw [if_neg j];dsimp only
   by_cases c:op=1
   · subst c
     have b:=jw f aF;rw [show iw 1=0 from rfl] at b;unfold hB at i;unfold node1; simp [b] at i ⊢; omega
   · have g:n=0:=by
       unfold hB at i
       simpa [c] using i
     by_cases r:op=2
     · subst r
       have b:=jw f aF;rw [show iw 2=0 from rfl] at b;unfold node1; simp [g,b]
     · by_cases s:op=6
       · subst s
         have b:=jw f aF;rw [show iw 6=1 from rfl] at b;unfold node1; simp [g,b]
       · have t:iw op=2:=by unfold iw; rw [if_neg ae,if_neg ae,if_neg ae]
         have b:=jw f (by rw [t]; decide);rw [t] at b;unfold node1;rw [if_neg c,if_neg ae,if_neg ae,if_neg ae,if_neg ae,if_neg r,if_neg s,if_pos ae];simp [g,b]
mutual
theorem Xb (b:sA gn m fs aB):∀(x:a8) (d:Nat),(gR x d).bL=0->jo (bZ m fs aB) x=0->kl (gn) aB.length (lA (bZ m fs aB) x) d=true
 | .mk op n mod nm args,d,c,he=>by
   have a:=w1 c;rw [eh] at he;obtain ⟨e,f⟩:=j1.1 he;rw [B',kl]
   have g:(fZ (bZ m fs aB) (a8.mk op n mod nm args).args).length=args.length:=by rw [h5,eo]; rfl
   rw [g];have h:=Xa b a e;have i:=EX b args (d+1) a.sub f;rw [decide_eq_true a.deep]
   show (node1 _ _ (cV (bZ m fs aB) op n mod nm args.length).op (cV (bZ m fs aB) op n mod nm args.length).n (cV (bZ m fs aB) op n mod nm args.length).m (cV (bZ m fs aB) op n mod nm args.length).pl args.length&&fT _ _ (fZ (bZ m fs aB) args) (d+1))=true
   rw [h,i]; rfl
theorem EX (a:sA gn m fs aB):∀(l:List a8) (d:Nat),(ay l d).bL=0->hj (bZ m fs aB) l=0->fT (gn) aB.length (fZ (bZ m fs aB) l) d=true
 | [],d,_,_=>by rw [fZ,fT]
 | x::r,d,b,he=>by
   unfold ay at b;unfold hj at he;obtain ⟨c1,c2⟩:=ga b;obtain ⟨c,e⟩:=j1.1 he;rw [fZ,fT,Xb a x d c1 c,EX a r d c2 e]; rfl
end
theorem Xc (w:sA gn m fs aB) {op:Int} {mod nm:Tx} {args:List a8} {body other:List bq} {d:Nat} (r:pV op mod nm args body other d) (a:(de (bZ m fs aB) op mod nm args.length).e=0) :
   (de (bZ m fs aB) op mod nm args.length).op=op/\fI (gn) aB.length (de (bZ m fs aB) op mod nm args.length).op (de (bZ m fs aB) op mod nm args.length).n (de (bZ m fs aB) op mod nm args.length).m (de (bZ m fs aB) op mod nm args.length).pl args.length body.length other.length=true:=by
 have z:=r.kind;have l:=r.oY;have o:=r.form
 have p:(op≠4/\op≠5->body.length=0)/\(op≠4->other.length=0):=by
   unfold bo inner at o;simp at o;refine ⟨λh=>?_,λh=>?_⟩
   · have:=o.1 h.1 h.2; simp [this]
   · have:=o.2 h; simp [this]
 by_cases i:dS op 1 3=true
 · have s:op=1\/op=2\/op=3:=by unfold dS at i; simp at i; omega
   have g:body.length=0:=p.1 ae;have f:other.length=0:=p.2 ae;unfold de at a ⊢;rw [if_pos i] at a ⊢
   cases t:aP (bZ m fs aB) mod nm with
   | none=>rw [t] at a; cases a
   | some q=>
     obtain ⟨k,it⟩:=q;rw [t] at a;dsimp only at a ⊢
     rcases w mod nm k it t with ⟨rfl,x,y⟩ | hi
     · rcases s with rfl | rfl | rfl
       · have b:=jw l aF
         rw [show ng 1=1 from rfl] at b;rw [if_pos ⟨rfl,.inl rfl⟩];refine ⟨O,?_⟩;unfold fI qD;simp [b,g,f,x,y]
       · rw [if_neg ae,if_pos rfl] at a; cases a
       · rw [if_neg ae,if_pos rfl] at a; cases a
     · have A:=hi.pos
       rcases s with rfl | rfl | rfl
       · have b:=jw l aF
         rw [show ng 1=1 from rfl] at b
         rcases hi.kind with ⟨e,c⟩ | ⟨e,c⟩ | ⟨e,c⟩ | ⟨e,c⟩
         · rw [if_neg ae,if_neg ae,if_neg ae,if_neg ae] at a; cases a
         · rw [if_pos ⟨rfl,.inr e⟩]
           have:=c;refine ⟨O,?_⟩;unfold fI; simp [b,g,f,this]
         · rw [if_neg ae,if_neg ae,if_neg ae,if_neg ae] at a; cases a
         · rw [if_neg ae,if_neg ae,if_neg ae,if_neg ae] at a; cases a
       · have b:=jw l aF
         rw [show ng 2=2 from rfl] at b;rw [if_neg ae,if_neg ae] at a ⊢
         rcases hi.kind with ⟨e,c⟩ | ⟨e,c⟩ | ⟨e,c⟩ | ⟨e,c⟩
         · rw [if_neg ae,if_neg ae] at a; cases a
         · rw [if_neg ae,if_neg ae] at a; cases a
         · rw [if_pos ⟨rfl,e⟩]
           have:=c.2.2;refine ⟨O,?_⟩;unfold fI oF; simp [b,g,f,this]; omega
         · rw [if_neg ae,if_neg ae] at a; cases a
       · rw [if_neg ae,if_neg ae,if_neg ae] at a ⊢
         rcases hi.kind with ⟨e,c⟩ | ⟨e,c⟩ | ⟨e,c⟩ | ⟨e,c⟩
         · rw [if_neg ae] at a; cases a
         · rw [if_neg ae] at a; cases a
         · rw [if_neg ae] at a; cases a
         · rw [if_pos ⟨rfl,e⟩] at a ⊢
           dsimp only at a ⊢
           have b:it.n=(args.length:Int):=by
             split at a
             · assumption
             · cases a
           have:=c;rw [b] at this;refine ⟨O,?_⟩;unfold fI; simp [g,f,this]
 · have s:¬(op=1\/op=2\/op=3):=λh=>i (by unfold dS; simp; omega)
   unfold de;rw [if_neg i];dsimp only;refine ⟨O,?_⟩
   have v:ng op=1:=by unfold ng; rw [if_neg ae,if_neg ae]
   have b:=jw l (by rw [v]; decide);rw [v] at b;unfold fI;rw [if_neg ae,if_neg ae,if_neg ae]
   by_cases j:op=4
   · rw [if_pos j]; simp [b]
   · have f:=p.2 j
     by_cases u:op=5
     · rw [if_neg j,if_pos u]; simp [b,f]
     · have g:=p.1 ⟨j,u⟩
       rw [if_neg j,if_neg u,if_pos ae]; simp [b,f,g]
mutual
theorem Xd (b:sA gn m fs aB):∀(x:bq) (d:Nat),(aL x d).bL=0->iA (bZ m fs aB) x=0->j3 (gn) aB.length (lB (bZ m fs aB) x) d=true
 | .mk op mod nm args body other,d,j,he=>by
   have c:=w2 j;rw [pz] at he;obtain ⟨k,e⟩:=j1.1 he;obtain ⟨e,f⟩:=j1.1 e;obtain ⟨f,l⟩:=j1.1 f;rw [B_,j3]
   have o:(fZ (bZ m fs aB) args).length=args.length:=by rw [h5,eo]
   have p:(eC (bZ m fs aB) body).length=body.length:=by rw [pA,eo]
   have q:(eC (bZ m fs aB) other).length=other.length:=by rw [pA,eo]
   obtain ⟨r,s⟩:=Xc b c k;have t:=EX b args 1 c.exprs e
   show (fI _ _ (de (bZ m fs aB) op mod nm args.length).op (de (bZ m fs aB) op mod nm args.length).n (de (bZ m fs aB) op mod nm args.length).m (de (bZ m fs aB) op mod nm args.length).pl (fZ (bZ m fs aB) args).length (eC (bZ m fs aB) body).length (eC (bZ m fs aB) other).length&&(fT _ _ (fZ (bZ m fs aB) args) 1&&((!(oG (de (bZ m fs aB) op mod nm args.length).op)||(decide (d+1<=6)&&(decide ((eC (bZ m fs aB) body).length<=10)&&bb _ _ (eC (bZ m fs aB) body) (d+1))))&&(!(decide (0<(eC (bZ m fs aB) other).length))||(decide (d+1<=6)&&(decide ((eC (bZ m fs aB) other).length<=10)&&bb _ _ (eC (bZ m fs aB) other) (d+1)))))))=true
   rw [o,p,q,s,t,r];simp only [dw];refine d'.2 ⟨?_,?_⟩
   · by_cases a:oG op=true
     · obtain ⟨g,h,i⟩:=vJ (c.body (by rw [show inner op=true from a]; rfl))
       rw [decide_eq_true g,decide_eq_true h,AR b body (d+1) i f]; simp
     · simp [a]
   · by_cases a:0<other.length
     · obtain ⟨g,h,i⟩:=vJ (c.other a)
       rw [decide_eq_true g,decide_eq_true h,AR b other (d+1) i l]; simp
     · rw [decide_eq_false a]; rfl
theorem AR (a:sA gn m fs aB):∀(l:List bq) (d:Nat),(cS l d).bL=0->e2 (bZ m fs aB) l=0->bb (gn) aB.length (eC (bZ m fs aB) l) d=true
 | [],d,_,_=>by rw [eC,bb]
 | x::r,d,b,he=>by
   unfold cS at b;unfold e2 at he;obtain ⟨c1,c2⟩:=ga b;obtain ⟨c,e⟩:=j1.1 he;rw [eC,bb,Xd a x d c1 c,AR a r d c2 e]; rfl
end
theorem Ms (a:sA gn m fs aB) {l:List bq} (b:(d_ l 1).bL=0) (c:e2 (bZ m fs aB) l=0):bf (gn) aB.length (eC (bZ m fs aB) l) 1=true:=by
 obtain ⟨d,e,f⟩:=vJ b;unfold bf;rw [pA,eo,<-pA,decide_eq_true d,decide_eq_true e,AR a l 1 f c]; rfl
end
end Go.Bw
end
section
namespace Go.Bw
open Go
def lV (ms:List aX) (n:Nat) (M:List (ie×fQ)):List (ie×fQ):=((ms.take n).map λm=>(m.nm,(cn m).1)).reverse++M
theorem EY:∀{ms:List aX} {M:List (ie×fQ)} {us:List cb},gK ms M=(us,0)->us.length=ms.length/\∀(n:Nat) (m:aX),ms[n]? = some m->(aU (lV ms n M) m).2=0/\us[n]? = some (aU (lV ms n M) m).1
 | [],M,us,h=>by
   rw [gK] at h
   injection h with h _
   subst h;exact ⟨O,λn m f=>by simp at f⟩
 | m::r,M,us,h=>by
   rw [gK] at h
   split at h
   · rename_i b; injection h with _ c; exact absurd c b
   · rename_i b
     split at h
     · rename_i d; injection h with _ c; exact absurd c d
     · rename_i d
       injection h with h _
       subst h
       have g:(gK r ((m.nm,(cn m).1)::M)).2=0:=by simpa using d
       obtain ⟨i,j⟩:=EY (ms:=r) (M:=(m.nm,(cn m).1)::M) (us:=(gK r ((m.nm,(cn m).1)::M)).1) (Prod.ext rfl g);refine ⟨by simp [i],λn x a=>?_⟩
       cases n with
       | zero=>
         simp at a; subst a;exact ⟨by simpa [lV] using b,by simp [lV]⟩
       | succ n=>
         rw [lY] at a ⊢
         have e:lV (m::r) (n+1) M=lV r n ((m.nm,(cn m).1)::M):=by simp [lV]
         rw [e]; exact j n x a
theorem AS {M:List (ie×fQ)} {m:aX} (h:(aU M m).2=0):(cn m).2=0/\(aU M m).1=dE m (m.aq.map (fK M))/\mH m.aq (m.aq.map (fK M))=true/\k9 m (m.aq.map (fK M))=0:=by
 by_cases a:(cn m).2=0
 · rw [zF a] at h ⊢
   refine ⟨a,?_⟩;unfold cL at h ⊢;rw [if_neg (by rw [a]; simp)] at h ⊢;rw [if_neg aj] at h ⊢
   split at h
   · cases h
   · rename_i c
     rw [if_neg c]
     split at h
     · rename_i b; exact absurd h b
     · rename_i b
       rw [if_neg b];exact ⟨O,by simpa using c,by simpa using b⟩
 · rw [Dy a] at h
   exact absurd h a
theorem AT {f:ie->fQ}:∀{us:List ie},mH us (us.map f)=true->∀s ∈ us,bp (f s).1 (f s).2=0/\(f s).1=s
 | [],_,s,a=>by simp at a
 | u::us,h,s,a=>by
   rw [jT] at h;unfold mH at h;simp only [cO,beq_iff_eq] at h
   rcases dU.1 a with e | a
   · subst e; exact h.1
   · exact AT h.2 s a
theorem Mt:∀(M:List (ie×fQ)) (s:ie),(∃p ∈ M,p.1=s/\p.2=fK M s)\/fK M s=([],[])
 | [],s=>.inr rfl
 | (k,f)::r,s=>by
   unfold fK
   by_cases e:k=s
   · rw [if_pos e]; exact .inl ⟨(k,f),aj,e,rfl⟩
   · rw [if_neg e]
     rcases Mt r s with ⟨p,a,h⟩ | h
     · exact .inl ⟨p,by simp [a],h⟩
     · exact .inr h
theorem Xe {nm:ie} {l:List bx} (h:bp nm l=0):ep nm=true:=by
 unfold bp at h
 split at h
 · cases h
 · split at h
   · rename_i a
     simp only [cO,sG,hM,yb] at a;exact a.2.2
   · cases h
theorem Mu {ms:List aX} {n:Nat} {s:ie} (d:bp (fK (lV ms n []) s).1 (fK (lV ms n []) s).2=0):∃(j:Nat) (a:aX),j<n/\ms[j]? = some a/\a.nm=s/\fK (lV ms n []) s=(cn a).1:=by
 rcases Mt (lV ms n []) s with ⟨p,c,e,f⟩ | h
 · unfold lV at c
   rw [h3,List.mem_reverse] at c;obtain ⟨a,g,rfl⟩:=k0.1 c;obtain ⟨j,b⟩:=jA g;rw [jy] at b
   split at b
   · rename_i i; exact ⟨j,a,i,b,e,f.symm⟩
   · cases b
 · rw [h] at d
   exact absurd (Xe d) aF
structure iK (ms:List aX) (us:List cb):Prop where
 len:us.length=ms.length
 nd:(ms.map (·.nm)).Nodup
 at_:∀(n:Nat) (m:aX),ms[n]? = some m->(cn m).2=0/\∃fs:List fQ,us[n]? = some (dE m fs)/\fs.length=m.aq.length/\k9 m fs=0/\∀(i:Nat) (s:ie),m.aq[i]? = some s->∃(j:Nat) (m':aX),j<n/\ms[j]? = some m'/\m'.nm=s/\fs[i]? = some (cn m').1
theorem Xf {ms:List aX} {us:List cb} (h:gK ms []=(us,0)) (g:(ms.map (·.nm)).Nodup):iK ms us:=by
 obtain ⟨k,l⟩:=EY h;refine ⟨k,g,λn m o=>?_⟩;obtain ⟨p,f⟩:=l n m o;obtain ⟨a,b,c,d⟩:=AS p;rw [b] at f;refine ⟨a,_,f,aj,d,λi s hi=>?_⟩;obtain ⟨e,_⟩:=AT c s (ax hi);obtain ⟨j,q,r,t,u,v⟩:=Mu e;exact ⟨j,q,r,t,u,by rw [eZ,hi,da,v]⟩
theorem Mv {s:ie}:∀{l:List ie} {j k:Nat},l.Nodup->l[j]? = some s->idxOf s l k=some (k+j)
 | [],j,k,_,h=>by simp at h
 | x::r,j,k,a,h=>by
   rw [qo] at a;unfold idxOf
   cases j with
   | zero=>simp at h; subst h; simp
   | succ j=>
     rw [lY] at h
     have b:¬x=s:=λe=>by subst e; exact a.1 (ax h)
     rw [if_neg b,Mv a.2 h]
     congr 1; omega
theorem Mw {mod nm:ie}:∀{us:List ie} {fs:List (List bx)} {k:Nat} {q:Int} {it:bx},j0 mod nm us fs k=some (q,it)->∃(j:Nat) (f:List bx),us[j]? = some mod/\fs[j]? = some f/\q=((k+j+1:Nat):Int)/\it ∈ f
 | [],fs,k,q,it,h=>by unfold j0 at h; cases h
 | u::us,[],k,q,it,h=>by unfold j0 at h; cases h
 | u::us,f::fs,k,q,it,h=>by
   unfold j0 at h
   have go:j0 mod nm us fs (k+1)=some (q,it)->∃(j:Nat) (g:List bx),(u::us)[j]? = some mod/\(f::fs)[j]? = some g/\q=((k+j+1:Nat):Int)/\it ∈ g:=λh=>by
     obtain ⟨j,g,a,b,c,d⟩:=Mw h;exact ⟨j+1,g,by simpa using a,by simpa using b,by rw [c]; congr 1; omega,d⟩
   split at h
   · rename_i e
     split at h
     · rename_i x i
       injection h with h; injection h with l m
       subst l m;exact ⟨0,f,by simp [e],aj,O,AO i⟩
     · exact go h
   · exact go h
theorem Mx {ks:List cv} {i:Nat} {k:cv} {m:aX} (b:ks[i]? = some k) (hi:k.nW=true) (f:k.data=k5 m) (g:k.parts=m.procs.map λp=>(p.params.length:Int)) (h:kt m) {x:bx} (l:EU m x):Mr ks (i:Int) x:=by
 have r:=(cf.1 b).1;have s:=vI h
 have data (pl n:Int) (t:0<=pl) (a:pl+n<=k5 m) (c:0<=n):iB ks (i:Int) pl n=true:=by
   have d:lC ks (i:Int) pl=false:=by
     unfold lC;simp only [hM,decide_eq_false_iff_not];omega
   rw [s7 d b,if_pos hi,f];exact decide_eq_true a
 refine ⟨ae,?_⟩
 rcases l.kind with ⟨e,a⟩ | ⟨e,a⟩ | ⟨e,a⟩ | ⟨e,j,p,a,c,o⟩
 · exact .inl ⟨e,a.1,a.2.1⟩
 · exact .inr (.inl ⟨e,data _ _ a.2.1 a.2.2 aF⟩)
 · exact .inr (.inr (.inl ⟨e,a.1,a.2.1,data _ _ a.2.2.1 a.2.2.2 ae⟩))
 · refine .inr (.inr (.inr ⟨e,?_⟩))
   have d:b5 ks (i:Int) x.pl=false:=by
     unfold b5;simp only [hM,decide_eq_false_iff_not];omega
   have q:=(cf.1 c).1;rw [rR d b,if_pos hi,g,a,o,mu,eZ,c,eo];simp;exact q
theorem iK.names {ms:List aX} {us:List cb} (a:iK ms us):cA us=ms.map (·.nm):=by
 refine rp λn=>?_;unfold cA;rw [eZ,eZ]
 cases b:ms[n]? with
 | none=>
   have:us[n]? = none:=by rw [Fy,a.len]; exact Fy.1 b
   rw [this]; rfl
 | some m=>
   obtain ⟨_,fs,c,_⟩:=a.at_ n m b;rw [c]; rfl
theorem iK.kn {ms:List aX} {us:List cb} (b:iK ms us) {n i:Nat} {m:aX} {s:ie} (h:ms[n]? = some m) (e:m.aq[i]? = some s) (fs:List fQ):∃(j:Nat) (a:aX) (c:List fQ),j<n/\ms[j]? = some a/\a.nm=s/\us[j]? = some (dE a c)/\(lD us (dE m fs))[i]? = some (aG (dE a c)):=by
 obtain ⟨_,q,_,_,_,o⟩:=b.at_ n m h;obtain ⟨j,a,p,d,f,_⟩:=o i s e;obtain ⟨_,c,g,_⟩:=b.at_ j a d;refine ⟨j,a,c,p,d,f,g,?_⟩
 have hi:idxOf s (cA us) 0=some j:=by
   have:=Mv (k:=0) (s:=s) (l:=cA us) (j:=j) (by rw [b.names]; exact b.nd) (by rw [b.names,eZ,d,da,f]);rw [this,cj]
 unfold lD;rw [eZ,show (dE m fs).aq=m.aq from rfl,e,da];simp only [hi,g,da,mY]
theorem iK.it {ms:List aX} {us:List cb} (r:iK ms us) {n:Nat} {m:aX} {fs:List fQ} (w:ms[n]? = some m) (K:us[n]? = some (dE m fs)) (C:∀(i:Nat) (s:ie),m.aq[i]? = some s->∃(j:Nat) (g:aX),j<n/\ms[j]? = some g/\g.nm=s/\fs[i]? = some (cn g).1) (aB:List ie):sA (aG (dE m fs)::lD us (dE m fs)) m fs aB:=by
 intro mod nm k it h;have y:=(gM (r.at_ n m w).1).2.2
 have kp (m:aX) (fs:List fQ):(aG (dE m fs)).parts=m.procs.map λp=>(p.params.length:Int):=by
   unfold aG dE;simp [nk]
 unfold aP at h
 split at h
 · split at h
   · rename_i i hi
     injection h with h; injection h with t l
     subst t l;have L:i<aB.length:=Mo hi;exact .inl ⟨O,by show (0:Int)<=(i:Int); omega,by show (i:Int)<_; omega⟩
   · obtain ⟨x,u,e⟩:=dr.1 h
     injection e with t l
     subst t l;exact .inr (Mx (i:=0) (m:=m) O O O (kp m fs) y (xV y x (AO u)))
 · obtain ⟨j,f,a,b,c,d⟩:=Mw h
   have a:m.aq[j]? = some mod:=a;obtain ⟨v,g,t,l,D,E⟩:=C j mod a;obtain ⟨z,M,F,N,q,G,P,H⟩:=r.kn w a fs
   have I:v=z:=by
     have A:(ms.map (·.nm))[v]? = some mod:=by rw [eZ,l,da,D]
     have J:(ms.map (·.nm))[z]? = some mod:=by rw [eZ,q,da,G]
     exact (ru (cf.1 A).1 r.nd).1 (A.trans J.symm)
   subst I;rw [l] at q
   injection q with q
   subst q;have b:(fs.map (·.2))[j]? = some f:=b;rw [eZ,E,da] at b
   injection b with b
   subst b;have B:=(gM (r.at_ v g l).1).2.2
   have u:it ∈ eQ g:=by
     have o:=d;unfold cn at o
     split at o
     · simp at o
     · split at o
       · simp at o
       · exact (AN _ _).subset o
   have:=Mx (ks:=aG (dE m fs)::lD us (dE m fs)) (i:=j+1) (m:=g) (by rw [lY]; exact H) rfl rfl (kp g F) B (xV B it u);rw [c,cj];exact .inr this
theorem iK.Xg {ms:List aX} {us:List cb} (a:iK ms us) {n:Nat} {m:aX} (b:ms[n]? = some m):m.nm ∉ m.aq:=by
 intro d;obtain ⟨i,hi⟩:=jA d;obtain ⟨_,fs,_,_,_,e⟩:=a.at_ n m b;obtain ⟨j,k,l,f,g,_⟩:=e i m.nm hi
 have c:(ms.map (·.nm))[j]? = some m.nm:=by rw [eZ,f,da,g]
 have h:(ms.map (·.nm))[n]? = some m.nm:=by rw [eZ,b,da]
 have:=(ru (cf.1 c).1 a.nd).1 (c.trans h.symm);omega
theorem Xh {m:aX} (h:(cn m).2=0):m.aq.Nodup:=by
 unfold cn at h
 split at h
 · rename_i b; exact absurd h b
 · split at h
   · cases h
   · rename_i a
     exact jl.2 (by
       cases c:e6 m.aq with
       | false=>rfl
       | true=>rw [c] at a; simp at a)
theorem iK.kj {ms:List aX} {us:List cb} (b:iK ms us) {u:cb} (r:u ∈ us):jI u (lD us u)=true:=by
 obtain ⟨n,c⟩:=jA r;have t:=(cf.1 c).1;obtain ⟨m,d⟩:=cg (by rw [<-b.len]; exact t);obtain ⟨h,fs,e,B,i,j⟩:=b.at_ n m d;rw [c] at e
 injection e with e
 subst e;have a:=(gM h).2.2;have C:=vI a;have D:=a.aH;unfold k9 at i;obtain ⟨f,g⟩:=j1.1 i;unfold jI
 have a1:oH (dE m fs).nm (dE m fs).aq=true:=Hk (by
   show (m.nm::m.aq).Nodup
   rw [qo]; exact ⟨b.Xg d,Xh h⟩) (fG.2 λs v=>bJ (a.aq s v))
 have a2:nY (dE m fs)=false:=by
   unfold nY
   have f:(dE m fs).parts.length=m.procs.length:=by unfold dE; simp
   have g:(dE m fs).aq.length=m.aq.length:=rfl;have w:(dE m fs).nm=m.nm:=rfl;have y:(dE m fs).data=k5 m:=rfl;rw [f,g,w,y,bJ a.name];simp;omega
 have a3:(dE m fs).parts.all (j4 (aG (dE m fs)::lD us (dE m fs)))=true:=by
   refine fG.2 λx z=>?_;obtain ⟨p,k,rfl⟩:=k0.1 (show x ∈ m.procs.map (nk m fs) from z);have l:=e7 (a.procs p k);have o:=EW f p k;unfold nV at o;obtain ⟨_,A⟩:=j1.1 o;have q:=Ms (b.it d c j (p.params++p.aB)) l.body A;rw [dG] at q;unfold j4 nk;have E:=l.aH;rw [show ((p.params.length:Int)+(p.aB.length:Int))=((p.params.length+p.aB.length:Nat):Int) by omega,q];simp;omega
 have a4:bf (aG (dE m fs)::lD us (dE m fs)) 0 (dE m fs).main 1=true:=Ms (aB:=[]) (b.it d c j []) a.main g;rw [a1,a2,a3,a4]; rfl
theorem iK.ahead {ms:List aX} {us:List cb} (a:iK ms us):h7 us=true:=by
 unfold h7;refine fG.2 λn b=>?_;have c:=x4.1 b;obtain ⟨m,d⟩:=cg (by rw [<-a.len]; exact c);obtain ⟨_,fs,e,_,_,f⟩:=a.at_ n m d;rw [e,a.names];refine fG.2 λs g=>?_;obtain ⟨i,hi⟩:=jA (show s ∈ m.aq from g);obtain ⟨j,o,h,k,l,_⟩:=f i s hi;rw [x9];refine ax (i:=j) ?_;rw [jy,if_pos h,eZ,k,da,l]
theorem iK.data {ms:List aX} {us:List cb} (b:iK ms us):∀u ∈ us,0<=u.data/\u.data<=320:=λu d=>by
 obtain ⟨n,c⟩:=jA d;have e:=(cf.1 c).1;obtain ⟨m,f⟩:=cg (by rw [<-b.len]; exact e);obtain ⟨g,fs,a,_⟩:=b.at_ n m f;rw [c] at a
 injection a with a
 subst a;exact vI (gM g).2.2
def rl (l:List cb):Int:=(l.map (·.data)).sum
theorem My:∀{l:List cb} {r:Int},(∀u ∈ l,0<=u.data)->rl l<=r->ej l r=true
 | [],r,_,_=>rfl
 | u::l,r,h,d=>by
   have e:=h u aj
   have f:rl (u::l)=u.data+rl l:=by simp [rl]
   have g:0<=rl l:=by
     have:∀{l:List cb},(∀u ∈ l,0<=u.data)->0<=rl l:=fun {l}=>by
       induction l with
       | nil=>intro _; simp [rl]
       | cons x t b=>intro h; have:=b λu a=>h u (by simp [a]); have:=h x aj; simp [rl] at *; omega
     exact this λu a=>h u (by simp [a])
   rw [ej,My (λx c=>h x (by simp [c])) ae];simp;omega
theorem iK.right {ms:List aX} {us:List cb} (a:iK ms us) (e:1<=us.length/\us.length<=4) (c:rl us<=512):wG us=0:=by
 unfold wG
 have d:e6 (cA us)=false:=by rw [a.names]; exact jl.1 a.nd
 rw [if_neg (by simp; omega),if_neg (by rw [a.ahead]; decide),if_neg (by rw [d]; decide),if_neg (by rw [My (λu b=>(a.data u b).1) c]; decide),if_pos (fG.2 λu b=>a.kj b)]
theorem iK.alone {ms:List aX} {us:List cb} (a:iK ms us) {u:cb} (c:u ∈ us):oM u=true:=by
 have d:=a.kj c
 have e:(lD us u).length=u.aq.length:=by simp [lD]
 unfold oM;rw [<-e];refine PM (PN λk b=>?_) d;unfold lD at b;obtain ⟨s,_,rfl⟩:=k0.1 b
 split
 · rename_i i hi
   cases f:us[i]? with
   | none=>intro h; cases h
   | some g=>exact CV (a.kj (ax f))
 · intro h; cases h
end Go.Bw
end
section
namespace Go.Bw
open Go
theorem Xi {u:cb} (h:oM u=true) (a:(fJ u).2=0):(fJ u).1=fV u/\(fV u).g.code.length<=2048:=by
 unfold fJ at a ⊢;rw [if_neg (by rw [h]; decide)] at a ⊢
 split at a
 · cases a
 · rename_i b
   rw [if_neg b];exact ⟨O,ae⟩
section
theorem iK.gn {ms:List aX} {us:List cb} (b:iK ms us) (u:cb):∀k ∈ lD us u,pJ k:=by
 intro k a;unfold lD at a;obtain ⟨s,_,rfl⟩:=k0.1 a
 split
 · rename_i i hi
   cases c:us[i]? with
   | none=>intro h; cases h
   | some d=>exact CV (b.kj (ax c))
 · intro h; cases h
theorem iK.mod {ms:List aX} {us:List cb} (c:iK ms us) {n:Nat} {u:cb} (d:us[n]? = some u):∃(m:aX) (fs:List fQ),ms[n]? = some m/\u=dE m fs/\∀(i:Nat) (s:ie),m.aq[i]? = some s->∃(j:Nat) (b:aX),j<n/\ms[j]? = some b/\b.nm=s/\fs[i]? = some (cn b).1:=by
 have f:=(cf.1 d).1;obtain ⟨m,e⟩:=cg (by rw [<-c.len]; exact f);obtain ⟨_,fs,a,_,_,g⟩:=c.at_ n m e;rw [d] at a
 injection a with a
 exact ⟨m,fs,e,a,g⟩
end
end Go.Bw
end
section
namespace Go.Proofs.YtccenighnmfhgaaGreatDoor.Mch
open Go.Bw Go.Proofs.Tryz
structure Mz where
 op:Int
 a:Int
 b:Int
deriving DecidableEq
def Mz.cells (x:Mz):List Value:=[.int .i64 x.op,.int .i64 x.a,.int .i64 x.b]
theorem qf:cx prog 33 0=some 0:=ab
theorem ju:fk prog 31=some 3:=ab
theorem sk:gP prog 108=some 3:=ab
theorem gu:zeroOf prog 108=some (.agg #[.int .i64 0,.int .i64 0,.int .i64 0]):=ab
theorem xL:dI prog 108=some 3:=ab
theorem Aq:cx prog 108 0=some 0:=ab
theorem AL:cx prog 33 1=some 1:=ab
end Go.Proofs.YtccenighnmfhgaaGreatDoor.Mch
end
section
namespace Go.Proofs.YtccenighnmfhgaaGreatDoor
open Go.Bw Go.Proofs.Tryz
theorem xl {l:List aX}:∀{d:List Nat},(∀i ∈ d,i<l.length)->(ho l d).length=d.length
 | [],_=>rfl
 | i::d,h=>by
   have a:=xl (l:=l) (d:=d) λj b=>h j (by simp [b]);have hi:=dL (h i aj);unfold ho at a ⊢;rw [Ba,hi];simp [a]
theorem MA {l:List aX} (f:(gB l).Nodup):∀{d:List Nat},d.Nodup->(∀i ∈ d,i<l.length)->((ho l d).map (·.nm)).Nodup
 | [],_,_=>by simp [ho]
 | i::d,b,h=>by
   rw [qo] at b;have n:=MA f b.2 λj c=>h j (by simp [c]);have g:=h i aj;have hi:=dL g
   have e:ho l (i::d)=l[i]::ho l d:=by unfold ho; rw [Ba,hi]
   rw [e,jT,qo];refine ⟨λa=>?_,n⟩;obtain ⟨m,a,o⟩:=k0.1 a;unfold ho at a;obtain ⟨j,c,k⟩:=Fx.1 a;have p:=(cf.1 k).1;have:i=j:=wI f g p (by rw [nZ hi,nZ k]; exact o.symm);subst this;exact b.1 c
theorem Xj {x:bx} (h:jF x=true):x.name.length<=8/\(0<=x.kind/\x.kind<=255)/\r2 x.n/\r2 x.pl:=by
 unfold jF ep dS at h;unfold r2;simp at h;omega
theorem Xk {x:bx} (h:jF x=true) (r:List UInt8):qg (hL x++r)=some (x,r):=by
 obtain ⟨d,a,b,c⟩:=Xj h;simp [qg,hL,zk a,zl (s:=x.name) ae,pO b,pO c]
theorem MB:∀(l:List bx) (r:List UInt8),(∀x ∈ l,jF x=true)->qh l.length (l.flatMap hL++r)=some (l,r)
 | [],r,_=>by simp [qh]
 | x::l,r,h=>by
   have a:=Xk (h x aj) (l.flatMap hL++r);have b:=MB l r λy c=>h y (by simp [c]);simp only [du,qh,gd,et,a,bt,b,da]
theorem Xl {name:Tx} {a:List bx} (h:bp name a=0):dt (su name a)=some ((name,a),[]):=by
 obtain ⟨i,j,_⟩:=EJ h
 have e:∀x ∈ a,jF x=true:=by
   unfold bp at h;rw [if_neg ae] at h
   split at h
   · rename_i b; simp only [cO] at b; exact λx f=>fG.1 b.1 x f
   · cases h
 have c:=zl (s:=name) ae ([cZ a.length]++a.flatMap hL);simp only [A1] at c;have g:=zk (n:=(a.length:Int)) ae (a.flatMap hL);have d:=MB a [] e;simp only [h3] at d;simp only [dt,su,et,c,bt,A1,g,mu,d,da]
theorem Xm {name:Tx} {a:List bx} (h:bp name a=0):¬32768<(su name a).length:=by
 obtain ⟨c,d,b⟩:=EJ h;have:=EI a b;simp only [su,dG,i_,gf];omega
theorem AU {f:fQ} (h:bp f.1 f.2=0):dq f.1 f.2=(su f.1 f.2,0)/\gF (su f.1 f.2)=(f,0):=by
 refine ⟨by rw [dq,if_pos h],?_⟩;unfold gF;rw [if_neg (Xm h)];simp [rk,Xl h,h]
def fB (f:fQ):Tx:=su f.1 f.2
def iq (t:Tx) (l:List (Tx×Tx)):List Tx:=(l.filter λp=>p.1==t).map (·.2)
theorem MC (t:Tx) (l:List (Tx×Tx)) (p:Tx×Tx):iq t (l++[p])=iq t l++if p.1=t then [p.2] else []:=by
 unfold iq;rw [List.filter_append,nI]
 congr 1
 by_cases h:p.1=t
 · simp [h]
 · simp [h]
theorem Xn {t:Tx} {l:List (Tx×Tx)} (h:∀p ∈ l,p.1≠t):iq t l=[]:=by
 unfold iq;rw [List.filter_eq_nil_iff.2 λp a=>by simpa using h p a]; rfl
theorem MD:∀{l:List (Tx×Tx)} {j:Nat} {p:Tx×Tx},(l.map (·.1)).Nodup->l[j]? = some p->iq p.1 l=[p.2]
 | [],j,p,_,h=>by simp at h
 | x::r,j,p,a,h=>by
   rw [jT,qo] at a
   cases j with
   | zero=>
     simp at h; subst h;have:=Xn (t:=x.1) (l:=r) λq c e=>a.1 (k0.2 ⟨q,c,e⟩);unfold iq at this ⊢;simp at this ⊢;exact this
   | succ j=>
     rw [lY] at h;have b:=MD a.2 h;have d:¬x.1=p.1:=λe=>a.1 (by rw [e]; exact k0.2 ⟨p,ax h,rfl⟩);unfold iq at b ⊢;simp [d] at b ⊢;exact b
def e4 (ms:List aX) (n:Nat):List (Tx×Tx):=(ms.take n).map λm=>(m.nm,fB (cn m).1)
theorem ME {ms:List aX} {n:Nat} {m:aX} (h:ms[n]? = some m):e4 ms (n+1)=e4 ms n++[(m.nm,fB (cn m).1)]:=by
 unfold e4;rw [hg h]; simp
theorem Xo {ms:List aX} (a:(ms.map (·.nm)).Nodup) (n:Nat):((e4 ms n).map (·.1)).Nodup:=by
 have e:(e4 ms n).map (·.1)=(ms.map (·.nm)).take n:=by unfold e4; rw [x3,<-List.map_take]; rfl
 rw [e];exact a.sublist (List.take_sublist _ _)
theorem MF {α β:Type} {f:α->List β} {g:α->β}:∀{l:List α},(∀t ∈ l,f t=[g t])->l.flatMap f=l.map g
 | [],_=>rfl
 | x::r,h=>by rw [gd,h x aj,MF λt a=>h t (by simp [a])]; rfl
def oo (m:aX) (es:List (Tx×Tx)):List Tx:=m.aq.flatMap λt=>iq t es
structure tO (l:List Tx) (ms:List aX) (us:List cb) (d:List Nat):Prop where
 AV:iK ms us
 at_:∀(n:Nat) (m:aX),ms[n]? = some m->(aU (lV ms n []) m).2=0/\us[n]? = some (aU (lV ms n []) m).1
 E1:∀u ∈ us,(fJ u).2=0
 len:d.length=l.length/\ms.length=l.length
 Xp:∀(n i:Nat),d[n]? = some i->∃s m,l[i]? = some s/\bN s=(m,0)/\ms[n]? = some m
 inj:∀(i n:Nat) (s:Tx) (m:aX),l[i]? = some s->ms[n]? = some m->(bN s).1.nm=m.nm->d[n]? = some i
 par:∀s ∈ l,(bN s).2=0
theorem Xq {l:List Tx} {us:List cb} (h:mq l (us,0)) (o:(jP (us,0)).2=0):∃ms d,tO l ms us d:=by
 obtain ⟨z,d,_,p,A,H,q⟩:=Wb h rfl;have c:=pB A;have B:=Xf q.symm (MA p.nd c.2 c.1);have r:=(Dz z).2
 have C:∀u ∈ us,(fJ u).2=0:=by
   by_cases k:w_ us=0
   · exact mI.1 k
   · rw [jP,if_neg aj,if_pos k] at o
     exact absurd o k
 have I:(aJ l).length=l.length:=by simp [aJ]
 have J:=xl c.1
 have t:∀(n i:Nat),d[n]? = some i->∃s,l[i]? = some s/\(ho (aJ l) d)[n]? = some (bN s).1:=λn i a=>by
   have hi:=c.1 i (ax a)
   have v:i<l.length:=ae
   refine ⟨l[i],dL v,?_⟩
   have f:(aJ l)[i]? = some (bN l[i]).1:=by unfold aJ; rw [eZ,dL v]; rfl
   have D:=Ri a f;have w:=xl (l:=aJ l) (d:=d.take n) λj E=>c.1 j (x_ E)
   have F:ho (aJ l) d=ho (aJ l) (d.take (n+1))++ho (aJ l) (d.drop (n+1)):=by
     conv=>lhs; rw [<-ot (n+1) d]
     unfold ho;rw [Fs]
   have K:=(cf.1 a).1;rw [F,D,et,hD (by rw [w,jh]; omega),w];rw [jh,hc ae,sF]
   rfl
 refine ⟨ho (aJ l) d,d,B,(EY q.symm).2,C,⟨ae,ae⟩,λn i a=>?_,λi n s m G f e=>?_,r⟩
 · obtain ⟨s,g,b⟩:=t n i a
   exact ⟨s,(bN s).1,g,Prod.ext O (r s (ax g)),b⟩
 · have a:n<d.length:=by have:=(cf.1 f).1; omega
   obtain ⟨s2,g,b⟩:=t n d[n] (dL a);rw [f] at b
   injection b with b
   have x:(aJ l)[i]? = some (bN s).1:=by unfold aJ; rw [eZ,G]; rfl
   have y:(aJ l)[d[n]]? = some (bN s2).1:=by unfold aJ; rw [eZ,g]; rfl
   have:i=d[n]:=wI p.nd (cf.1 x).1 (cf.1 y).1 (by rw [nZ x,nZ y,e,b]);rw [this,dL a]
theorem tO.aq {l:List Tx} {ms:List aX} {us:List cb} {d:List Nat} (h:tO l ms us d) {n:Nat} {m:aX} (c:ms[n]? = some m):oo m (e4 ms n)=m.aq.map λt=>fB (fK (lV ms n []) t):=by
 obtain ⟨e,_⟩:=h.at_ n m c;obtain ⟨_,_,f,_⟩:=AS e;have g:=AT f;unfold oo;refine MF λt i=>?_;obtain ⟨j,a,k,o,b,p⟩:=Mu (g t i).1
 have q:(e4 ms n)[j]? = some (a.nm,fB (cn a).1):=by
   unfold e4; rw [eZ,jy,if_pos k,o]; rfl
 have:=MD (Xo h.AV.nd n) q;rw [<-b,this,b,p]
theorem tO.step {l:List Tx} {ms:List aX} {us:List cb} {d:List Nat} (h:tO l ms us d) {n:Nat} {m:aX} {u:cb} {s:Tx} (q:ms[n]? = some m) (r:us[n]? = some u) (C:bN s=(m,0)) :
   (iJ s (oo m (e4 ms n))).2=2\/∃b,iJ s (oo m (e4 ms n))=((fB (cn m).1,b),0)/\mX b=(ec u,0):=by
 obtain ⟨e,a⟩:=h.at_ n m q;rw [r] at a
 injection a with a
 obtain ⟨f,_,D,_⟩:=AS e;have v:=AT D;have w:=h.aq q
 have g:∀b ∈ oo m (e4 ms n),(gF b).2=0:=λb x=>by
   rw [w] at x;obtain ⟨t,i,rfl⟩:=k0.1 x;rw [fB,(AU (v t i).1).2]
 have E:gY (oo m (e4 ms n))=m.aq.map (fK (lV ms n [])):=by
   rw [w]; unfold gY;rw [x3];refine x1 λt i=>?_
   show (gF (fB _)).1=_
   rw [fB,(AU (v t i).1).2]
 have F:vG (oo m (e4 ms n))=0:=mI.2 g;rw [zF f] at e a;have j:u ∈ us:=ax r;have k:=h.AV.alone j;obtain ⟨G,y⟩:=Xi k (h.E1 u j);have z:=P6 k y
 have c:ec u=(fV u).to:=by unfold ec; rw [G]
 have A:=(gM f).1;unfold iJ;rw [C];simp only [E,<-a];rw [if_neg aj,if_neg (by rw [F]; simp),if_neg (by rw [f]; simp),if_neg (by rw [e]; simp),if_neg (by rw [h.E1 u j]; simp)]
 by_cases B:32768<(kq (ec u)).length
 · left
   have:(kN (ec u)).2=2:=by unfold kN; rw [c,if_pos z,if_pos (by rw [<-c]; exact B)]
   rw [if_pos (by rw [this]; simp)];exact this
 · right
   have p:kN (ec u)=(kq (ec u),0):=by unfold kN; rw [c,if_pos z,if_neg (by rw [<-c]; exact B)]
   rw [if_neg (by rw [p]; simp),if_neg (by rw [(AU A).1]; simp)];refine ⟨(kN (ec u)).1,by rw [(AU A).1]; rfl,?_⟩;have g:=Qg (o:=ec u) (by rw [p]) (by rw [c]; exact W5 k y);exact Vn (by rw [p]; show (kq _).length<=_; omega) g
structure xW where
 k:Nat
 i:Nat
 nm:SP
 fc:SP
 o:SP
 es:List XO
 J:View
def lW (ms:List aX) (k:Nat):List Tx:=(e4 ms k).map (·.1)
def mr (ms:List aX) (k:Nat):List Tx:=(e4 ms k).map (·.2)
theorem Xr {ms:List aX} {n:Nat} {m:aX} (h:ms[n]? = some m):lW ms (n+1)=lW ms n++[m.nm]:=by unfold lW; rw [ME h]; simp
theorem Yg {ms:List aX} {n:Nat} {m:aX} (h:ms[n]? = some m):mr ms (n+1)=mr ms n++[fB (cn m).1]:=by unfold mr; rw [ME h]; simp
theorem Xt {ms:List aX} {k j:Nat} {p:Tx×Tx} (h:(e4 ms k)[j]? = some p):(lW ms k)[j]? = some p.1:=by unfold lW; rw [eZ,h]; rfl
theorem Xu {ms:List aX} {k j:Nat} {p:Tx×Tx} (h:(e4 ms k)[j]? = some p):(mr ms k)[j]? = some p.2:=by unfold mr; rw [eZ,h]; rfl
theorem Xv (ms:List aX) (k:Nat):(lW ms k).length=(e4 ms k).length:=by simp [lW]
theorem Xw (ms:List aX) (k:Nat):(mr ms k).length=(e4 ms k).length:=by simp [mr]
theorem Xx (ms:List aX) (k:Nat):(e4 ms k).length<=ms.length:=by unfold e4; rw [eo,jh]; omega
def lp (m:aX) (es:List (Tx×Tx)) (k:Nat):List Tx:=(m.aq.take k).flatMap λt=>iq t es
theorem Xy {m:aX} {es:List (Tx×Tx)} {k:Nat} {t:Tx} (h:m.aq[k]? = some t):lp m es (k+1)=lp m es k++iq t es:=by unfold lp; rw [hg h]; simp
theorem MG (m:aX) (es:List (Tx×Tx)):lp m es m.aq.length=oo m es:=by unfold lp oo; rw [ew]
theorem Xz {t:Tx} {es:List (Tx×Tx)} {j:Nat} {p:Tx×Tx} (h:es[j]? = some p) (e:p.1=t):iq t (es.take (j+1))=iq t (es.take j)++[p.2]:=by rw [hg h,MC,if_pos e]
theorem Yh {t:Tx} {es:List (Tx×Tx)} {j:Nat} {p:Tx×Tx} (h:es[j]? = some p) (e:¬p.1=t):iq t (es.take (j+1))=iq t (es.take j):=by rw [hg h,MC,if_neg e,h3]
theorem XB (m:aX) (es:List (Tx×Tx)) (k:Nat) (y:Tx):lp m es k=lp m es k++iq y (es.take 0):=by unfold iq; simp
theorem MH (t:Tx) (es:List (Tx×Tx)):(iq t es).length<=es.length:=by unfold iq; rw [eo]; exact List.length_filter_le _ _
theorem XC (m:aX) (es:List (Tx×Tx)):∀k,(lp m es k).length<=m.aq.length*es.length:=λk=>by
 unfold lp
 have h:∀l:List Tx,(l.flatMap λt=>iq t es).length<=l.length*es.length:=λl=>by
   induction l with
   | nil=>simp
   | cons x r a=>
     rw [gd,dG,du,sC];have:=MH x es;omega
 refine kZ (h _) (vM _ ?_);rw [jh]; omega
theorem tO.nm {l:List Tx} {ms:List aX} {us:List cb} {d:List Nat} (h:tO l ms us d) {n:Nat} {m:aX} {u:cb} (b:ms[n]? = some m) (c:us[n]? = some u):u.nm=m.nm:=by
 have e:=h.AV.names
 have a:(cA us)[n]? = some u.nm:=by unfold cA; rw [eZ,c]; rfl
 rw [e,eZ,b] at a
 injection a with a
 exact a.symm
theorem XD {b:Tx} {o:bD} (h:mX b=(o,0)):b.length<=9223372036854775807:=by
 unfold mX at h
 split at h
 · cases h
 · omega
theorem Yk (n t:View) (a:Option Addr) (c:Nat) (l:List Tx) (w:World) (a3:Le n w) (E:Laid n) (a4:Le t w) (F:Sl rdStr 1 t a c l) :
   Calls prog 6 #[.slice a l.length c] w λe w'=>e = .returned (.bool true)/\Ext w w':=by
 have b4:=F.cap;have b5:=F.max;refine enter func6 O 155 O O ?_;refine CE (Vs:=[n,t]) (Ws.init (by simp [a3,a4])) (ag (ak O (aa (ag (ad O ?_)))));refine Ld Y O aC O (λr:SP×List cb×Int=>.tuple #[.agg #[.slice r.1.1 (jP r.2).1.1.length r.1.2,.int .i64 (jP r.2).1.2],.int .i64 (jP r.2).2]) (λG r=>Sl gm 3 G r.1.1 r.1.2 (jP r.2).1.1/\mq l r.2) (λw j=>L9 t n a c l w (j.vs _ (by simp)) (j.vs _ (by simp)) E F) ?_;intro C a5 b6 a8;obtain ⟨z,b7⟩:=a5;obtain ⟨ae,aF⟩:=a8;dsimp only at ae aF;refine ad O (I (Yx O O) (I (Yx O O) ?_));refine Al Y O o_ λQ=>?_;refine aQ 0 Y O O O qe O O O (ak O (aa (ag (ad O ?_))));refine Ld Y O aC O (λr:SP×List cb×Int=>.tuple #[.slice r.1.1 r.2.1.length r.1.2,.int .i64 r.2.2]) (λG r=>Sl (eK 8 7) 5 G r.1.1 r.1.2 r.2.1/\mq l r.2) (λw j=>AJ t n a c l w (j.vs _ (by simp)) (j.vs _ (by simp)) E F) ?_;intro H a9 b9 a';obtain ⟨b',us,a_⟩:=a9;obtain ⟨R,S⟩:=a';dsimp only at R S;have b_:=R.cap;have ca:=R.max;have cd:us.length<=4:=L4 S;have ba:=Wa S aF;subst ba;refine ad O (I (Yx O O) (I (Yx O O) (ak O (ak O (aa (Cs (ag (ad O (I (fz O O) ?_)))))))));refine ad O ?_;apply Lo 2 O O O O Y O O O O O
 ·intro ce;refine Vg (Ym O) (Vg (fz O O) ?_);exact Gt 2 O O O
 refine aa ?_;refine Cc O (λaG=>?_) (λaG=>?_)
 ·refine ag (Lp Y O aC O (λw j=>ER n w (j.vs _ (by simp)) E) (ak O (aa (a7 (Er ?_)))));refine R1 O O λw' j=>?_;exact ⟨O,j.fr⟩
 have aI:=hM.1 aG
 have bb:a_=0:=by simpa using aI.2
 subst bb
 have af:(jP (us,0)).2=0:=by simpa using aI.1
 obtain ⟨ms,d,A⟩:=Xq S af;have bc:=L7 A.E1;rw [bc] at ae af ⊢;have cg:=A.len;have ci:=A.AV.len;refine bk (ag (ak O (LW (λ_ h=>h.eM 9 1) (ak O (LW (λ_ h=>h.eM 9 1) (aa (ag (ak O (LW (λ_ h=>h.eM 56 7) ?_)))))))));refine WL.v0 ?_;refine aa (Cs (ag (ak O (aa (Cb ?_)))));refine dc (ι:=xW) (λg=>[(10,.int .i64 (g.k:Int)),(7,.slice g.nm.1 (lW ms g.k).length g.nm.2),(8,.slice g.fc.1 (mr ms g.k).length g.fc.2),(9,.slice g.o.1 g.es.length g.o.2)]) [(0,_),(3,_),(5,_)] (λg=>Ws w [] [bS 9 1 c' g.nm.1 g.nm.2 (lW ms g.k),bS 9 1 c' g.fc.1 g.fc.2 (mr ms g.k),bS 56 7 XO.cells g.o.1 g.o.2 g.es,ao Q (.cells #[.slice z.1 (gV (us.map ec)).1.1.length z.2,.int .i64 (gV (us.map ec)).1.2] 33 (0,0))] [g.J,H,C,n,t]) (λg=>g.k<=us.length/\g.es.map (·.1)=(us.take g.k).map ec/\fj w g.J/\(∀e ∈ g.es,ld g.J e.2 e.1)) (λg=>us.length-g.k) ⟨0,0,(none,0),(none,0),(none,0),[],v0⟩ ⟨cq _,O,nh w,by simp⟩ (λ_ h=>by have h:=h.bu 3 O; have h:=h.bu 1 O; have h:=h.bu 2 O; have h:=h.bu 3 O; have h:=Ws.av h (b3:=[v0,H,C,n,t]) (by simp); exact h) ?_;intro g ⟨cj,T,bd,aJ⟩;refine Cs (ag (ad O (ad O (I (Yn sh O) (I (ai O O) (aa ?_))))));refine Cc O (λah=>?_) (λah=>?_)
 ·have be:g.k<us.length:=by simpa using ah
  obtain ⟨u,U⟩:∃u,us[g.k]? = some u:=⟨_,dL be⟩;obtain ⟨m,K⟩:∃m,ms[g.k]? = some m:=⟨_,dL (by omega)⟩;obtain ⟨B,aK⟩:∃B,d[g.k]? = some B:=⟨_,dL (by omega)⟩;obtain ⟨cl,cm,M,aL,V⟩:=A.Xp g.k B aK;rw [K] at V
  injection V with V
  subst V;have co:=(cf.1 M).1;obtain ⟨cp,cr,bf,cs,bg,ct⟩:=R.bT g.k u U;have aM:u.nm=m.nm:=A.nm K U;refine bk (Cs (Cb (ag (ak O (aa (Cb ?_))))));refine dc (ι:=xW) (λp=>[(11,.int .i64 (p.i:Int)),(7,.slice p.nm.1 (lW ms p.k).length p.nm.2),(8,.slice p.fc.1 (mr ms p.k).length p.fc.2),(9,.slice p.o.1 p.es.length p.o.2)]) [(0,_),(3,_),(5,_),(10,_)] (λp=>Ws w [] [bS 9 1 c' p.nm.1 p.nm.2 (lW ms p.k),bS 9 1 c' p.fc.1 p.fc.2 (mr ms p.k),bS 56 7 XO.cells p.o.1 p.o.2 p.es,ao Q (.cells #[.slice z.1 (gV (us.map ec)).1.1.length z.2,.int .i64 (gV (us.map ec)).1.2] 33 (0,0))] [p.J,H,C,n,t]) (λp=>p.i<=l.length/\((p.k=g.k/\p.i<=B)\/(p.k=g.k+1/\B<p.i))/\p.es.map (·.1)=(us.take p.k).map ec/\fj w p.J/\(∀e ∈ p.es,ld p.J e.2 e.1)) (λp=>l.length-p.i) ⟨g.k,0,g.nm,g.fc,g.o,g.es,g.J⟩ ⟨cq _,.inl ⟨O,cq _⟩,T,bd,aJ⟩ (λ_ h=>by have h:=Ws.av h (b3:=[g.J,H,C,n,t]) (by simp); exact h) ?_;intro p ⟨cv,cw,N,aj,al⟩;refine Cs (ag (ad O (ad O (I (Yn dy O) (I (ai O O) (aa ?_))))));refine Cc O (λam=>?_) (λam=>?_)
  ·have an:p.i<l.length:=by simpa using am
   obtain ⟨x,D⟩:∃q,l[p.i]? = some q:=⟨_,dL an⟩;obtain ⟨bh,bi,bj,W⟩:=F.bT p.i x D;have W:bR t bh (bi+p.i*1) (c' x):=W;have aN:(bN x).2=0:=A.par x (ax D);refine bk (Cs (Cb (ag (ad O (ad O (I (Yo dy O O bj (by omega)) (I (cu 4 ab O O (W 0 _ O)) ?_)))))))
   refine Ld Y O aC O (λr:iQ=>.tuple #[.agg (a6 ((bN x).1) r).toArray,.int .i64 ((bN x).2)]) (λt r=>jk 7 6 t r ((bN x).1)) (λw j=>by
       have:=zV n (x) w (j.vs _ (by simp)) E
       exact this) ?_
   intro ap aO cx bl;refine ad O (I (Yx O O) (I (Yx O O) ?_));refine Al Y O ch λaP=>?_;refine aQ 0 Y O O O mU O O O (ak O (aa (Cs (Cs ?_))));refine WC.k3 [(0,true),(1,true),(2,true),(3,true),(4,true),(5,true),(6,true),(7,true),(8,true),(9,true),(10,true),(11,true)] mixed (by kernel_rfl) (λ_ _ _ d _ h=>by cases d<;>exact h) ?_;refine D0 O (λ_ h=>h) (Ym O) (D0 O (λ_ h=>h) (ki O O aN) (D0 O (λ_ h=>h) (Ym O) ?_));apply WD.or 8 O O O O O Y O (λ_ h=>h) O O O O
   ·intro cy;refine Dq O (.g O O O) O (λ_ h=>h) (Yf qZ O) (Dq O (.g O O O) O (λ_ h=>h) (Yd 0 O O O ab) (Dq O (.g O O O) O (λ_ h=>h) (Ym O) (Dq O (.g O O O) O (λ_ h=>h) (Ym O) (Dq O (.g O O O) O (λ_ h=>h) (Yo sh O O bf (by omega)) (Dq O (.g O O O) O (λ_ h=>h) (Yf fY O) (Dq O (.g O O O) O (λ_ h=>h) (cu 2 ab O O (bg 0 _ O)) (Dq O (.g O O O) O (λ_ h=>h) (v7 O O) ?_)))))));exact Gi 8 (λ_ h=>h) O O O
   refine WD.nil (λ_ h=>h) ?_;refine Et ?_;refine Cc O (λar=>?_) (λar=>?_)
   ·have aR:¬(bN x).1.nm=m.nm:=by
      rw [<-aM]; simpa using ar
    have cz:¬p.i=B:=λe=>by
      rw [e,M] at D
      injection D with D
      subst D;rw [aL] at aR;exact aR O
    refine Ce (Ex (cB (Et (Cr (ad O (I (Yi O O O (by omega)) (ak O (Ln ?_))))))));exact b8 (⟨p.k,p.i+1,p.nm,p.fc,p.o,p.es,p.J⟩:xW) (by show _-(p.i+1)<_; omega) ⟨by show p.i+1<=_; omega,by show (p.k=g.k/\p.i+1<=B)\/(p.k=g.k+1/\B<p.i+1); omega,N,aj,al⟩ (λ_ h=>Ws.av (Wd 1 h) (λ_ F=>qp [_] F))
   have bm:(bN x).1.nm=m.nm:=by
     rw [<-aM]; simpa using ar
   have X:=A.inj p.i g.k x m D K bm;rw [aK] at X
   injection X with X
   have au:p.k=g.k:=by omega
   rw [au] at N ⊢
   have cA:p.es.length=g.k:=by
     have bn:=congrArg List.length N;rw [eo,eo,jh] at bn;omega
   have L:(bN x).1=m:=by
     rw [X,D] at M
     injection M with M
     rw [M,aL]
   have cC:=(gM (AS (A.at_ g.k m K).1).1).2.2.aH
   have cD:(bN x).1.aq.length<=3:=by rw [L]; omega
   have cE:=Xx ms g.k;have cH:=Xv ms g.k;have cI:=Xw ms g.k;have aS:=XC (bN x).1 (e4 ms g.k);rw [L] at aS
   have aT:∀k,(lp (bN x).1 (e4 ms g.k) k).length<=12:=λk=>by
     rw [L];exact kZ (aS k) (kZ (Nat.mul_le_mul (show m.aq.length<=3 by omega) (show (e4 ms g.k).length<=4 by omega)) (by decide))
   refine bk (ag (ak O (LW (λ_ h=>h.eM 9 1) (aa (Cs (ag (ak O (aa (Cb ?_)))))))));refine dc (ι:=Nat×SP) (λf=>[(15,.int .i64 (f.1:Int)),(14,.slice f.2.1 (lp (bN x).1 (e4 ms g.k) f.1).length f.2.2)]) [(0,_),(3,_),(5,_),(7,_),(8,_),(9,_),(10,_),(11,_),(12,_)] (λf=>Ws w [] [bS 9 1 c' f.2.1 f.2.2 (lp (bN x).1 (e4 ms g.k) f.1),ao aP (.cells (a6 (bN x).1 aO).toArray 50 (0,0)),bS 9 1 c' p.nm.1 p.nm.2 (lW ms g.k),bS 9 1 c' p.fc.1 p.fc.2 (mr ms g.k),bS 56 7 XO.cells p.o.1 p.o.2 p.es,ao Q (.cells #[.slice z.1 (gV (us.map ec)).1.1.length z.2,.int .i64 (gV (us.map ec)).1.2] 33 (0,0))] [ap,p.J,H,C,n,t]) (λf=>f.1<=(bN x).1.aq.length) (λf=>(bN x).1.aq.length-f.1) (0,(none,0)) (cq _) (λ_ h=>h) ?_;intro f cJ;refine Cs (ag (ad O (I (Yf nz O) (I (Yd 1 O O O ab) (I (Yn dy O) (I (ai O O) (aa ?_)))))));refine Cc O (λaw=>?_) (λaw=>?_)
   ·have an:f.1<(bN x).1.aq.length:=by simpa using aw
    obtain ⟨y,aU⟩:∃q,(bN x).1.aq[f.1]? = some q:=⟨_,dL an⟩;obtain ⟨bo,bp,bq,ay⟩:=bl.aq.bT f.1 y aU;have ay:bR ap bo (bp+f.1*1) (c' y):=ay;refine bk (Cs (Cb (ag (ak O (aa (Cb ?_))))));rw [XB (bN x).1 (e4 ms g.k) f.1 y];refine dc (ι:=Nat×SP) (λv=>[(16,.int .i64 (v.1:Int)),(14,.slice v.2.1 (lp (bN x).1 (e4 ms g.k) f.1++iq y ((e4 ms g.k).take v.1)).length v.2.2)]) [(0,_),(3,_),(5,_),(7,_),(8,_),(9,_),(10,_),(11,_),(12,_),(15,_)] (λv=>Ws w [] [bS 9 1 c' v.2.1 v.2.2 (lp (bN x).1 (e4 ms g.k) f.1++iq y ((e4 ms g.k).take v.1)),ao aP (.cells (a6 (bN x).1 aO).toArray 50 (0,0)),bS 9 1 c' p.nm.1 p.nm.2 (lW ms g.k),bS 9 1 c' p.fc.1 p.fc.2 (mr ms g.k),bS 56 7 XO.cells p.o.1 p.o.2 p.es,ao Q (.cells #[.slice z.1 (gV (us.map ec)).1.1.length z.2,.int .i64 (gV (us.map ec)).1.2] 33 (0,0))] [ap,p.J,H,C,n,t]) (λv=>v.1<=(e4 ms g.k).length) (λv=>(e4 ms g.k).length-v.1) (0,f.2) (cq _) (λ_ h=>h) ?_;intro v hv;refine Cs (ag (ad O (ad O (I (Yn dy O) (I (ai O O) (aa ?_))))));refine Cc O (λaA=>?_) (λaA=>?_)
    ·have cK:v.1<(lW ms g.k).length:=by simpa using aA
     obtain ⟨e,Z⟩:∃e,(e4 ms g.k)[v.1]? = some e:=⟨_,dL (by omega)⟩;have br:=MH y ((e4 ms g.k).take v.1);rw [jh] at br;have cL:=aT f.1
     have cM:(lp (bN x).1 (e4 ms g.k) f.1++iq y ((e4 ms g.k).take v.1)).length<=20:=by rw [dG]; omega
     refine bk (Cs (Cb (Cs ?_)));refine WC.sM 2 O (by omega) λcN aV cO cP=>?_;refine WC.k3 [(0,true),(1,true),(2,true),(3,true),(4,true),(5,true),(6,true),(7,true),(8,true),(9,true)] mixed (by kernel_rfl) (λ_ _ _ d _ h=>by cases d<;>exact h) ?_;refine D0 O (λ_ h=>h) (Ym O) (D0 O (λ_ h=>h) (Ym O) (D0 O (λ_ h=>h) (Yo dy O O aV (by omega)) (D0 O (λ_ h=>h) (dz (y:=e.1) 2 v.1 0 O O aV O hO (Xt Z) O ab) (D0 O (λ_ h=>h) (Yf nz O) (D0 O (λ_ h=>h) (Yd 1 O O O ab) (D0 O (λ_ h=>h) (Ym O) (D0 O (λ_ h=>h) (Yo dy O O bq (by omega)) ?_)))))));refine D0 O (λ_ h=>h) (cu 0 ab O O (ay 0 _ O)) (D0 O (λ_ h=>h) (qq O O) ?_);refine WD.nil (λ_ h=>h) ?_;refine Et ?_;refine Cc O (λaB=>?_) (λaB=>?_)
     ·have aD:e.1=y:=by simpa using aB
      have bs:lp (bN x).1 (e4 ms g.k) f.1++iq y ((e4 ms g.k).take v.1)++[e.2]=lp (bN x).1 (e4 ms g.k) f.1++iq y ((e4 ms g.k).take (v.1+1)):=by rw [Xz Z aD,et]
      refine WC.sM 3 O (by omega) λcQ aW cR cS=>?_;refine Cr (ad O (ad O (ad O (I (Yo dy O O aW (by omega)) (I (dz (y:=e.2) 3 v.1 0 O O aW O hO (Xu Z) O ab) ?_)))));refine Lb Y O dT O O O O λcT=>?_;refine cF 0 (.cells (c' e.2).toArray 9 (0,0)) O (O) ?_;refine LA (e.2) 1 0 Y O dT O O O O O O (by omega) (by omega) λbt bv=>?_;refine ak O (Ln (Eb (Et (Cr (ad O (I (Yi O O O (by omega)) (ak O (Ln ?_))))))));rw [bs];exact b8 ((v.1+1,(bt,bv)):Nat×SP) (by show _-(v.1+1)<_; omega) (by show v.1+1<=_; omega) (λ_ h=>Wd 1 h)
     have aD:¬e.1=y:=by simpa using aB
     refine Ck (Eb (Et (Cr (ad O (I (Yi O O O (by omega)) (ak O (Ln ?_)))))));rw [<-Yh Z aD];exact b8 ((v.1+1,v.2):Nat×SP) (by show _-(v.1+1)<_; omega) (by show v.1+1<=_; omega) (λ_ h=>h)
    have P:v.1=(e4 ms g.k).length:=by simp at aA; omega
    rw [P,ew,<-Xy aU];refine Ce (Ex (Ex (cB (Eb (Et (Cr (ad O (I (Yi O O O (by omega)) (ak O (Ln ?_))))))))));exact b8 ((f.1+1,v.2):Nat×SP) (by show _-(f.1+1)<_; omega) (by show f.1+1<=_; omega) (λ_ h=>h)
   have P:f.1=(bN x).1.aq.length:=by simp at aw; omega
   rw [P,MG];refine Ce (Ex (Ex (cB (Et (Cs ?_)))));refine WC.l9 (rd:=rdStr) 0 O hO (λ_ _ _ _ h=>h) λbw bx=>?_
   have bz:(oo (bN x).1 (e4 ms g.k)).length<=1048576:=by rw [<-MG]; have:=aT (bN x).1.aq.length; omega
   refine Cr (ad O (ad O (I (Yo dy O O (by assumption) (by omega)) (I (cu 6 ab O O (W 0 _ O)) (ad O (Lp Y O aC O (λw j=>EO bw n x _ _ (oo (bN x).1 (e4 ms g.k)) w (j.vs _ (by simp)) (j.vs _ (by simp)) E bx bz) (ad O ?_)))))));refine I (Yx O O) (I (Yx O O) (I (Yx O O) (ak O (ak O (ak O (aa (Cs (ag (ad O ?_)))))))));refine I (bY O O) (aa ?_);refine Cc O (λaX=>?_) (λaX=>?_)
   ·refine ag (Lp Y O aC O (λw j=>ER n w (j.vs _ (by simp)) E) (ak O (aa (a7 (Er (cG (Er (Er (cG (cG (Er (Er (cG (Er ?_))))))))))))));refine R1 O O λw' j=>?_;exact ⟨O,j.fr⟩
   have bA:¬(iJ x (oo (bN x).1 (e4 ms g.k))).2=2:=by simpa using aX
   have aY:=A.step (s:=x) K U (Prod.ext L aN);rw [<-L] at aY;obtain ⟨b,bB,aZ⟩:=aY.resolve_left bA;have bC:b.length<=9223372036854775807:=XD aZ;rw [bB];refine bk (ag (ad O ?_))
   refine Ld Y O aC O (λq:iZ=>.tuple #[.agg (gS (ec u) q).toArray,.int .i64 0]) (λG q=>ld G q (ec u)) (λw j=>by
       have a0:=Vl b w bC;rw [aZ] at a0
       exact a0) ?_
   intro bD ac bE bF;refine LW (λ_ h=>Ws.av h (b3:=[bD,p.J,H,C,n,t]) (by simp)) (ad O (I (Yx O O) (I (Yx O O) ?_)));refine Al Y O kc λcU=>?_;refine aQ 0 Y O O O kD O O O (ak O (aa (Cs (ag (ad O (I (ki O O O) (ad O ?_)))))));apply Lo 2 (x:=false) O O O O Y O O O O O
   ·intro cV;refine Vg (Ym O) (Vg (ki O O O) ?_);exact Gt 2 O O O
   refine aa ?_;refine Cc O (λa1=>?_) (λa1=>?_)
   ·exfalso
    simp at a1
   refine bk (ag (ad O (I (Yf qZ O) (I (Yd 1 O O O ab) ?_))));refine Lb Y O dT O O O O λcW=>?_;refine cF 0 (.cells (c' (bN x).1.nm).toArray 9 (0,0)) O (O) ?_;refine LA ((bN x).1.nm) 3 0 Y O dT O O O O O O (by omega) (by omega) λbG bH=>?_;rw [show lW ms g.k++[(bN x).1.nm]=lW ms (g.k+1) by rw [L,Xr K]];refine ak O (aa (ag (ad O (ad O ?_))));refine Lb Y O dT O O O O λcX=>?_;refine cF 0 (.cells (c' (fB (cn (bN x).1).1)).toArray 9 (0,0)) O (O) ?_;refine LA (fB (cn (bN x).1).1) 5 0 Y O dT O O O O O O (by omega) (by omega) λbI bJ=>?_;rw [show mr ms g.k++[fB (cn (bN x).1).1]=mr ms (g.k+1) by rw [L,Yg K]];refine ak O (aa (Cr (ad O (I (cc 2 O O iI O) ?_))));refine Lb Y O AK O O O O λcY=>?_;refine cF 0 (.cells (XO.cells (ec u,ac)).toArray 56 (0,0)) O (O) ?_;refine LA ((ec u,ac)) 7 0 Y O AK O O O O O O (by omega) (by omega) λbK bL=>?_;refine WL.h6 λbM bO bP bQ=>?_;refine ak O (Ln (Eb (Et (Cr (ad O (I (Yi O O O (by omega)) (ak O (Ln ?_))))))))
   exact b8 (⟨g.k+1,p.i+1,(bG,bH),(bI,bJ),(bK,bL),p.es++[(ec u,ac)],bM⟩:xW) (by show _-(p.i+1)<_; omega) ⟨by show p.i+1<=_; omega,.inr ⟨O,by show B<p.i+1; omega⟩,by
       show (p.es++[(ec u,ac)]).map (·.1)=_
       rw [nI,N,hg U]; simp,bQ w bE aj,λy aE=>by
       rcases dA.1 aE with k | k
       · exact vB (al y k) bP
       · rw [az] at k; subst k; exact vB bF bO⟩ (λ_ h=>Wd 5 h)
  have P:p.i=l.length:=by simp at am; omega
  have au:p.k=g.k+1:=by omega
  rw [au] at N ⊢;refine Ce (Ex (Ex (cB (Eb (Et (Cr (ad O (I (Yi O O O (by omega)) (ak O (Ln ?_))))))))));exact b8 (⟨g.k+1,0,p.nm,p.fc,p.o,p.es,p.J⟩:xW) (by show _-(g.k+1)<_; omega) ⟨by show g.k+1<=_; omega,N,aj,al⟩ (λ_ h=>h)
 have P:g.k=us.length:=by simp at ah; omega
 rw [P,ew] at T
 have bU:g.es.length=(us.map ec).length:=by rw [<-T,eo]
 rw [bU];refine Ce (Ex (Ex (cB (Et (Cs ?_)))));refine WC.l9 (rd:=Az) 2 O XO.ck (λ_ _ _ _ h=>h) λcZ bV=>?_;refine WC.h6 λa2 bW bX c0=>?_;have bZ:Sl vA 7 a2 g.o.1 g.o.2 (us.map ec):=L8 bV bW (λy aE=>vB (aJ y aE) bX) T;refine Cr (ad O ?_);refine Ld Y O aC O (λq:SP=>.tuple #[.agg #[.slice q.1 (gV (us.map ec)).1.1.length q.2,.int .i64 (gV (us.map ec)).1.2],.int .i64 (gV (us.map ec)).2]) (λG q=>Sl gm 3 G q.1 q.2 (gV (us.map ec)).1.1) (λw j=>Ks a2 g.o.1 g.o.2 (us.map ec) w (j.vs _ (by simp)) bZ) ?_;intro b0 b1 c1 b2;refine ad O (I (Yx O O) (I (Yx O O) ?_));refine Al Y O o_ λc2=>?_;refine aQ 0 Y O O O qe O O O (ak O (aa (ag (Lp Y O aC O (λw j=>ER n w (j.vs _ (by simp)) E) (ad O ?_)))));apply La 2 (x:=true) O O O O Y O O O O O
 ·intro c3;refine Vg (Ym O) (Vg (pw O O af) ?_);exact Gt 2 O O O
 refine ad O ?_;apply La 3 (x:=true) O O O O Y O O O O O
 ·intro c4;refine Vg (cc 0 O O rj O) (Vg (cc 3 O O rj O) (Lp (.g O O O) O aC O (λw j=>X5 b0 C b1 z (gV (us.map ec)).1.1 (gV (us.map ec)).1.2 w (j.vs _ (by simp)) (j.vs _ (by simp)) b2 ae) ?_));exact Gt 3 O O O
 refine ak O (aa (a7 ?_));refine R1 O O λw' j=>?_;exact ⟨O,j.fr⟩
end Go.Proofs.YtccenighnmfhgaaGreatDoor
end
