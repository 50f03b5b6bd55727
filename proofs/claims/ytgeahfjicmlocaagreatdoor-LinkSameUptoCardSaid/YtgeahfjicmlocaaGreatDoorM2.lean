/- LinkSame: the code of a program does what the program means (proved in the second form, bulk at most 1048576). -/
import Derived.Maps.Own
import Derived.Maps.Range
import Derived.Sort.KeysCollected
import Derived.Test.YtgeahfjicmlocaaGreatDoorM1
set_option linter.unusedVariables false
set_option linter.unusedSimpArgs false
set_option linter.defProp false
section
namespace Go.Bw
open Go Go.RowKit
abbrev v0:View:=λ_=>none
def rj (w:World):gw w v0:=λ_ _=>rfl
def vj (a B:View):View:=λb=>match a b with | some o=>some o | none=>B b
def Jz (a B:View):bG a (vj a B):=λb o h=>by simp [vj,h]
variable {an b4:View} {bY:World}
def JA (d:Le an bY) (e:Le b4 bY):bG b4 (vj an b4):=λb o h=>by
 cases c:an b with
 | none=>simp [vj,c,h]
 | some f=>
   have g:=d b f c;have a:=e b o h;rw [g] at a
   injection a with a
   subst a;simp [vj,c]
def Qz (a:Le an bY) (c:Le b4 bY):Le (vj an b4) bY:=λb o h=>by
 unfold vj at h
 split at h
 · rename_i e d; injection h with h; subst h; exact a b _ d
 · exact c b o h
def JB (a:gw bY an) (c:gw bY b4):gw bY (vj an b4):=λb h=>by simp [vj,a b h,c b h]
section
variable {w0 w:World} {F:List Nat} {L:List aQ} {Vs:List View} {A:aQ}
def Ws.v0 (h:Ws w0 F L Vs w):Ws w0 F L (v0::Vs) w:=
 ⟨h.fr,h.kn,h.nd,h.own,λc a=>by
   rcases ep.1 a with rfl | a
   · intro b o d; cases d
   · exact h.vs c a,λc a=>by
   rcases ep.1 a with rfl | a
   · intro _ _ _ _; rfl
   · exact h.off c a⟩
def Ws.j' {b c:View} (h:Ws w0 F L (b::c::Vs) w):Ws w0 F L (vj b c::Vs) w:=
 ⟨h.fr,h.kn,h.nd,h.own,λd a=>by
   rcases ep.1 a with rfl | a
   · exact Qz (h.vs b ai)<|h.vs c ai
   · exact h.vs d (by simp [a]),λd a e f k g=>by
   rcases ep.1 a with rfl | a
   · simp [vj,h.off b ai e f k g,h.off c ai e f k g]
   · exact h.off d (by simp [a]) e f k g⟩
def Ws.QA (h:Ws w0 F (A::L) Vs w) (c:∀k ∈ F,k ∈ L.flatMap aQ.ids):∀k ∈ A.ids,w0.heap.size<=k:=by
 intro k b
 rcases h.own A ai k b with a | a
 · have nd:=h.nd
   rw [mM,lI] at nd;exact absurd O<|nd.2.2 k b k<|c k a
 · exact a
def EY (h:Ws w0 F (A::L) Vs w) (a:∀k ∈ F,k ∈ L.flatMap aQ.ids):gw w0 (rv A w):=λb d=>by
 unfold rv;rw [ZX];intro c;have:=h.QA a b c;omega
def aG {a:View} (h:Ws w0 F L Vs w) (b:a ∈ Vs) (c:gw w0 a):bG a (nv w0 w):=E8 (h.vs a b) c
end
section
variable {P:Program} {ops:Array Oper} {cd:Code} {Q:Exit->Act->World->Prop} {n:Nat} {ds:List Deferred} {l:List (Nat×Value)} {w0:World} {F:List Nat} {L:List aQ} {Vs:List View} {rest:List Oper}
def WL.v0 (h:WL P ops Q n ds l (Ws w0 F L<|v0::Vs) rest):WL P ops Q n ds l (Ws w0 F L Vs) rest:=LW (λ_ a=>a.v0) h
def WL.j' (h:∀b,bG an b->bG b4 b->(∀u,gw u an->gw u b4->gw u b)->WL P ops Q n ds l (Ws w0 F L<|b::Vs) rest):WL P ops Q n ds l (Ws w0 F L<|an::b4::Vs) rest:=
 λa w d c=>h (vj an b4) (Jz an b4) (JA (c.vs an ai)<|c.vs b4 ai) (λu e f=>JB e f) a w d c.j'
def WC.j' (h:∀b,bG an b->bG b4 b->(∀u,gw u an->gw u b4->gw u b)->WC P cd Q n ds l (Ws w0 F L<|b::Vs)):WC P cd Q n ds l (Ws w0 F L<|an::b4::Vs):=
 λa w d c=>h (vj an b4) (Jz an b4) (JA (c.vs an ai)<|c.vs b4 ai) (λu e f=>JB e f) a w d c.j'
variable {bB:Type} {lW:bB->List Value} {dj:Option Addr} {b_:List bB}
def WL.o1 {rd:View->Nat->Nat->bB->Prop}  {k e c:Nat}   (i:Nat) (hL:L[i]? = some (cC e k lW dj c b_)) (f:∀k ∈ F,k ∈ (fk i L).flatMap aQ.ids)
   (g:∀x,(lW x).length=k) (j:∀a b o x,ar a b o (lW x)->rd a b o x) (h:∀a,gw w0 a->Sl rd k a dj c b_->WL P ops Q n ds l (Ws w0 F (fk i L)<|a::Vs) rest):WL P ops Q n ds l (Ws w0 F L Vs) rest:=
 λm w p d=>h _ (EY (d.perm<|nh i L hL) f) (kB (d.kn _<|aY hL) g j) m w p<|d.yL i hL
def WC.o1 {rd:View->Nat->Nat->bB->Prop}  {k e c:Nat}   (i:Nat) (hL:L[i]? = some (cC e k lW dj c b_)) (f:∀k ∈ F,k ∈ (fk i L).flatMap aQ.ids)
   (g:∀x,(lW x).length=k) (j:∀a b o x,ar a b o (lW x)->rd a b o x) (h:∀a,gw w0 a->Sl rd k a dj c b_->WC P cd Q n ds l (Ws w0 F (fk i L)<|a::Vs)):WC P cd Q n ds l (Ws w0 F L Vs):=
 λm w p d=>h _ (EY (d.perm<|nh i L hL) f) (kB (d.kn _<|aY hL) g j) m w p<|d.yL i hL
def LN {rd:View->Nat->Nat->bB->Prop} {f:bB->List Value} {k T b m:Nat} {c:Nat×Nat} {e:Array Value} (i:Nat) (xs:List bB) (hL:L[i]? = some (aq b<|.cells e T c)) (g:e=(xs.flatMap f).toArray) (j:∀k ∈ F,k ∈ (fk i L).flatMap aQ.ids)
   (p:∀x,(f x).length=k) (q:∀a b o x,ar a b o (f x)->rd a b o x) (r:xs.length<=m) (s:m<=9223372036854775807)
   (h:∀a,gw w0 a->Sl rd k a (some ⟨b,0,none⟩) m xs->WL P ops Q n ds l (Ws w0 F (fk i L)<|a::Vs) rest):WL P ops Q n ds l (Ws w0 F L Vs) rest:=by
 subst g;intro t w u d;have v:w.heap[b]? = some (.cells (xs.flatMap f).toArray T c):=d.kn _ (aY hL)
 have y:rv (aq b<|.cells (xs.flatMap f).toArray T c) w b=some (.cells (xs.flatMap f).toArray T c):=by
   unfold rv;rw [ZZ (by simp [aq])];exact v
 exact h _ (EY (d.perm<|nh i L hL) j) (EX (f:=f) y p q r s) t w u<|d.yL i hL
end
section
variable {P:Program} {ops:Array Oper} {C:World->Prop} {Q:Exit->Act->World->Prop} {n:Nat} {ds:List Deferred} {l:List (Nat×Value)} {W:World->Prop}
variable {eL:List (Nat×Value)} {bF:List Oper}
def QB {a:Act}  {o:Oper}  (c:me ops l (o::bF)=some eL) (p:Ag n ds l a) :
   ∃d,o.dst=some d/\Region.wanted o (yielded ops a.tmps)=false/\me ops ((d,undef)::l) bF=some eL:=by
 simp only [me] at c
 cases e:o.guard with
 | none=>simp [e] at c
 | some r=>
   obtain ⟨j,b⟩:=r
   cases q:o.dst with
   | none=>simp [e,q] at c
   | some d=>
     simp only [e,q] at c
     cases f:(ops[j]?).bind (·.dst) with
     | none=>simp [f] at c
     | some h=>
       simp only [f] at c
       cases g:lk l h with
       | none=>simp [g] at c
       | some v=>
         simp only [g] at c;have hv:=p.h7 h v g
         cases v with
         | bool i=>
           cases k:(i != b) with
           | false=>simp [k] at c
           | true=>
             simp only [k,aae] at c;refine ⟨d,O,?_,c⟩;have s:=Iw p g (.inl (by simp [undef]))
             have m:yielded ops a.tmps j=some i:=by simp [yielded,f,s]
             simp only [Region.wanted,e,m]
             cases b<;>cases i<;>first | rfl | (simp at k)
         | tuple vs=>
           refine ⟨d,O,?_,c⟩
           have m:yielded ops a.tmps j=none:=by
             simp only [yielded,f,cS];rw [jD] at hv
             cases t:a.tmps[h]? with
             | none=>rfl
             | some u=>simp [t] at hv; simp [hv]
           simp [Region.wanted,e,m]
         | _=>simp at c
def opsOf (ops:Array Oper):List (Nat×Bool)->Option (List Oper)
 | []=>some []
 | (i,_)::r=>match ops[i]?,opsOf ops r with
   | some o,some t=>some (o::t)
   | _,_=>none
variable {ht BC:List (Nat×Bool)}
def WD.o0:∀{os:List Oper} {e l:List (Nat×Value)},opsOf ops ht=some os->me ops l os=some e->q8 n os=true->(∀w,W w->C w)->(∀a w,Ag n ds e a->W w->nZ P ops C Q BC a w)->
   ∀a w,Ag n ds l a->W w->nZ P ops C Q (ht++BC) a w:=by
 induction ht with
 | nil=>
   intro os e l b f _ _ h a w g c
   injection b with b
   subst b;simp [me] at f; subst f; exact h a w g c
 | cons p r v=>
   obtain ⟨i,q⟩:=p;intro os e l b f j hC h a w g c;unfold opsOf at b
   cases hi:ops[i]? with
   | none=>rw [hi] at b; cases b
   | some o=>
     cases k:opsOf ops r with
     | none=>rw [hi,k] at b; cases b
     | some t=>
       rw [hi,k] at b
       injection b with b
       subst b;obtain ⟨d,m,s,x⟩:=QB f g;simp only [q8,hM,dE] at j
       have y:Nat.blt d n=true:=by have:=j.1; rw [m] at this; exact this
       have u:=v k x j.2 hC h (a.put (some d) undef) w (g.put y undef) c
       cases q with
       | true=>exact ⟨hC w c,o,undef,hi,.inr ⟨s,rfl⟩,by rw [m]; exact u⟩
       | false=>
         refine ⟨hC w c,?_⟩;unfold wpOp;simp only [hi,s,dV,Z9];rw [m];exact u
variable {Z:Nat}
def QC {f g:Act->World->Prop} {i:Act->World->Prop} (b:∀a w,f a w->g a w) {a:Act} {w:World} (h:wpOp P ops (Exit.then i Q) Z f a w):wpOp P ops Q Z g a w:=by
 unfold wpOp at h ⊢
 cases hi:ops[Z]? with
 | none=>simp only [hi] at h ⊢; exact b _ _ h
 | some o=>
   simp only [hi] at h ⊢
   split
   · rename_i d
     rw [ZZ d] at h
     rcases h with h | ⟨j,a2,k,l⟩
     · left
       unfold Oper.wp at h ⊢;unfold Oper.upon at h ⊢
       split at h
       all_goals first
         | exact b _ _ h
         | exact h
         | (refine h.mono λe m c=>?_
            cases e with
            | returned v=>exact b _ _ c
            | panicked q=>exact c
            | outgrown=>obtain ⟨a3,n,p⟩:=c; exact ⟨a3,n,p⟩)
         | exact h.mono λv m c=>b _ _ c
     · exact .inr ⟨j,a2,k,l⟩
   · rename_i d
     rw [ZX d] at h;exact b _ _ h
def Gi {x:Value} (m:Nat) (hC:∀w,W w->C w) (c:lk eL Z=some x) (d:eL.drop m=l) (e:pv (eL.take m) l=true):WD P ops C (q9 Q n ds l W Z x) n ds eL W []:=
 λ_ w a b=>⟨hC w b,⟨a.A1 m d e,a.h7 _ _ c⟩,b⟩
def QD {dx:Nat} {x:Value} (c:∀a w,(Ag n ds l a/\a.tmps.getD dx undef=x)/\W w->nZ P ops C Q BC a w):∀(a:Act) (w:World),nZ P ops C (q9 Q n ds l W dx x) ht a w->nZ P ops C Q (ht++BC) a w:=by
 induction ht with
 | nil=>intro a w h; exact c a w h.2
 | cons p r b=>
   obtain ⟨i,q⟩:=p;intro a w h
   cases q with
   | true=>obtain ⟨d,o,v,e,f,g⟩:=h; exact ⟨d,o,v,e,f,b _ _ g⟩
   | false=>exact ⟨h.1,QC (λa w h=>b a w h) h.2⟩
variable {aw cy mO:Nat} {ax yy:Bool} {be bX:Operand} {a0:TypeId} {fY:String} {gF:Array Edge} {g3:Option (Nat×Bool)}
def WD.yu (m:Nat)    (a:Bool)       
   (u:ht[m]? = some (Z,true)) (v:ops[Z]? = some ⟨some cy,.pick (.tmp aw) be bX,a0,fY,gF,g3⟩) (y:opsOf ops (ht.take m)=some bF) (i:lk l aw=some (.bool ax)) (z:q8 n bF=true)
   (A:aK ops l g3) (B:Nat.blt cy n=true) (hC:∀w,W w->C w)
   (c:(be,bX)=(bif a then (Operand.tmp mO,Operand.const (.bool false)) else (Operand.const (.bool true),Operand.tmp mO)))
   (D:me ops ((aw,.bool (!a))::l) bF=some eL) (E:eL.drop m=(aw,.bool (!a))::l) (F:pv (eL.take m) ((aw,.bool (!a))::l)=true)
   (G:ax=a->WD P ops C (q9 Q n ds ((aw,.bool a)::l) W mO<|.bool yy) n ds ((aw,.bool a)::l) W (ht.take m))
   (h:WD P ops C Q n ds ((cy,.bool (bif a then ax&&yy else ax||yy))::l) W (ht.drop<|m+1)):WD P ops C Q n ds l W ht:=by
 intro k w p q
 have H:ht=ht.take m++(Z,true)::ht.drop (m+1):=by
   obtain ⟨I,J⟩:=cq.1 u;rw [<-J,HY I,qg]
 rw [H]
 have s:∀(b:Act) (d:World) (r:Bool),Ag n ds l b->W d->(if ax then b.eval be else b.eval bX) = .bool r->r=(bif a then ax&&yy else ax||yy)->
     nZ P ops C Q ((Z,true)::ht.drop (m+1)) b d:=by
   intro b d r e f hv K;refine ⟨hC d f,_,.bool r,v,.inl ⟨aK.wanted (o:=⟨some cy,.pick (.tmp aw) be bX,a0,fY,gF,g3⟩) A e,λO _=>?_⟩,h _ _ (by rw [<-K]; exact e.put B _) f⟩;have L:b.eval (.tmp aw) = .bool ax:=e.h7 aw _ i;simp only [execOp,L,asBool,Sem.run_bind,Sem.run_pure,Result.andThen_ok,hv]
 by_cases g:ax=a
 · refine QD (l:=(aw,.bool a)::l) (W:=W) (dx:=mO) (x:=.bool yy) (λb d M=>?_) _ _<|G g k w (p.known (by rw [<-g]; exact i)) q
   obtain ⟨⟨e,t⟩,f⟩:=M;refine s b d yy (e.A2 (by rw [<-g]; exact i)) f ?_ ?_
   · subst g
     cases ax
     · simp at c; obtain ⟨rfl,rfl⟩:=c; exact t
     · simp at c; obtain ⟨rfl,rfl⟩:=c; exact t
   · subst g; cases ax<;>rfl
 · have j:ax = !a:=by cases ax<;>cases a<;>first | rfl | exact absurd rfl g
   refine WD.o0 y D z hC (λb d e f=>?_) k w (p.known (by rw [<-j]; exact i)) q;have N:Ag n ds l b:=(e.A1 m E F).A2 (by rw [<-j]; exact i);refine s b d ax N f ?_ ?_
   · subst j
     cases a
     · simp at c; obtain ⟨rfl,rfl⟩:=c; rfl
     · simp at c; obtain ⟨rfl,rfl⟩:=c; rfl
   · subst j; cases a<;>rfl
def WD.and (m:Nat)    {c x:Bool}      
   (a:ht[m]? = some (Z,true)) (b:ops[Z]? = some ⟨some cy,.pick (.tmp aw) be bX,a0,fY,gF,g3⟩) (d:opsOf ops (ht.take m)=some bF) (e:lk l aw=some (.bool c)) (f:q8 n bF=true)
   (g:aK ops l g3) (i:Nat.blt cy n=true) (hC:∀w,W w->C w) (j:(be,bX)=(Operand.tmp mO,Operand.const (.bool false)))
   (k:me ops ((aw,.bool false)::l) bF=some eL) (o:eL.drop m=(aw,.bool false)::l) (p:pv (eL.take m) ((aw,.bool false)::l)=true)
   (q:c=true->WD P ops C (q9 Q n ds ((aw,.bool true)::l) W mO<|.bool x) n ds ((aw,.bool true)::l) W (ht.take m))
   (h:WD P ops C Q n ds ((cy,.bool (c&&x))::l) W (ht.drop<|m+1)):WD P ops C Q n ds l W ht:=
 WD.yu m true a b d e f g i hC j k o p q h
def WD.or (m:Nat)          
   (a:ht[m]? = some (Z,true)) (b:ops[Z]? = some ⟨some cy,.pick (.tmp aw) be bX,a0,fY,gF,g3⟩) (c:opsOf ops (ht.take m)=some bF) (d:lk l aw=some (.bool ax)) (e:q8 n bF=true)
   (f:aK ops l g3) (g:Nat.blt cy n=true) (hC:∀w,W w->C w) (i:(be,bX)=(Operand.const (.bool true),Operand.tmp mO))
   (j:me ops ((aw,.bool true)::l) bF=some eL) (k:eL.drop m=(aw,.bool true)::l) (o:pv (eL.take m) ((aw,.bool true)::l)=true)
   (p:ax=false->WD P ops C (q9 Q n ds ((aw,.bool false)::l) W mO<|.bool yy) n ds ((aw,.bool false)::l) W (ht.take m))
   (h:WD P ops C Q n ds ((cy,.bool (ax||yy))::l) W (ht.drop<|m+1)):WD P ops C Q n ds l W ht:=
 WD.yu m false a b c d e f g hC i j k o p h
end
section
variable {P:Program} {l:List (Nat×Value)} {W:World->Prop} {d:Option Tmp} {ty:TypeId} {pos:String} {af:Array Edge} {g:Option (Nat×Bool)}
variable {a0 dX:TypeId} {be bX:Operand} {ew:IntKind} {aH bQ:Int}
def JD (a:bK l be=some (.int ew aH)) (b:bK l bX=some (.int ew bQ)) (h:aH=bQ):Yl P l W ⟨d,.binOp .neq a0 be bX dX,ty,pos,af,g⟩ (.bool false):=by
 subst h;have:=h9 (P:=P) (W:=W) (d:=d) (ty:=ty) (pos:=pos) (af:=af) (g:=g) (t:=a0) (u:=dX) a b
 rwa [show (aH != aH)=false by simp] at this
def qs (a:bK l be=some (.int ew aH)) (b:bK l bX=some (.int ew bQ)) (h:aH=bQ):Yl P l W ⟨d,.binOp .eql a0 be bX dX,ty,pos,af,g⟩ (.bool true):=by
 subst h;have:=bz (P:=P) (W:=W) (d:=d) (ty:=ty) (pos:=pos) (af:=af) (g:=g) (t:=a0) (u:=dX) a b
 rwa [show (aH==aH)=true by simp] at this
def WD.wk {ops:Array Oper} {C:World->Prop} {Q:Exit->Act->World->Prop} {n:Nat} {ds:List Deferred} {W':World->Prop} {rest:List (Nat×Bool)} (b:∀w,W w->W' w) (h:WD P ops C Q n ds l W' rest):WD P ops C Q n ds l W rest:=λa w c d=>h a w c<|b w d
end
open Go.ChangeShapes Go.WideShapes Go.ChangeAt Go.RowKit Go.Joins Go.Deep
structure wW (H:Type) where
 B:DataW H->Nat
 BA:List (DataW H)->Nat
 str:∀l:List UInt8,B (.lit<|.string l)=l.length+1
 agg:∀l,B (.agg l)=BA l+1
 sl:∀l r,BA l+1<=B (.slice l r)
 nil:BA []=0
 cons:∀d r,BA (d::r)=B d+BA r
def wW.at_ {a:Type} (b:wW a) {l:List (DataW a)}:∀{i:Nat} {d:DataW a},l[i]? = some d->b.B d<=b.BA l:=by
 induction l with
 | nil=>intro i d h; cases h
 | cons y r c=>
   intro i d h;rw [b.cons]
   cases i with
   | zero=>simp at h; subst h; omega
   | succ i=>have:=c (i:=i) (by simpa using h); omega
section
variable {P:Program} {H:Type} {enc:TypeId×Value->H} {w:World} {base:Nat} {spare:Nat->Bool} {held:Bool} (K:wW H)
variable {a0:TypeId} {lh:Array Field} {Z:Nat}
def BD {cs:List Value} {x:DataW H×List MemPlace} (d:P.underlying a0=some (.struct lh)) (a:(mh P 0 lh.toList&&Nat.beq (P.cellsOf a0) lh.size)=true) (h:DataW.trod enc P w base spare held Z a0 cs=some x) :
   cs.length=lh.size/\∃(ys:List (DataW H×List MemPlace)) (n:Nat),Z=n+1/\x.1 = .agg (ys.map (·.1))/\ys.length=lh.size/\∀(j:Nat) (f:Field),lh[j]? = some f->∃v y,cs[j]? = some v/\ys[j]? = some y/\DataW.trod enc P w base spare held n f.type [v]=some y:=by
 simp only [dE] at a;obtain ⟨ys,n,e,i,k,l,m⟩:=DataW.trod_struct d h;have o:cs.length=lh.size:=k.trans (j2 a.2);refine ⟨o,ys,n,e,by rw [i],l,λj f b=>?_⟩;have s:j<lh.size:=(H3.1 b).1;obtain ⟨p,q⟩:=IU 0 lh.toList j f a.1 (by simpa using b);have g:=m j f b;have r:cs[j]? = some cs[j]:=c6 aa;have c:ys[j]? = some ys[j]:=c6 aa;rw [p,q,lK,c,pt aa] at g;exact ⟨_,_,r,c,by simpa only [nb,List.take_zero] using g⟩
variable {a5:Value}
def JE {x:DataW H×List MemPlace} (a:P.underlying a0=some .string) (h:DataW.trod enc P w base spare held Z a0 [a5]=some x):∃l:List UInt8,a5=st l/\K.B x.1=l.length+1:=by
 obtain ⟨s,e,b,_⟩:=DataW.trod_string a h
 injection e with e _
 subst e;exact ⟨s.data.toList,by simp [st],by rw [b]; exact K.str _⟩
def pI {x:DataW H×List MemPlace} (a:P.underlying a0=some (.int .i64)) (h:DataW.trod enc P w base spare held Z a0 [a5]=some x):∃k:Int,a5 = .int .i64 k:=by
 obtain ⟨n,e,_⟩:=DataW.trod_int a h
 injection e with e _
 exact ⟨n,e⟩
def sf {α:Type} {rd:View->Nat->Nat->α->Prop} (E:α->Nat) (A:List α->Nat) (M:A []=0) (Y:∀x r,A (x::r)=E x+A r) {ts e:TypeId} {k fuel:Nat} {v:Value} {x:DataW H×List MemPlace} (Z:P.underlying ts=some (.slice e)) (G:P.cellsOf e=k) (N:0<k) (aa:∀b,spare b=true)
   (ab:∀(n:Nat) (d:List Value) (y:DataW H×List MemPlace),n<fuel->DataW.trod enc P w base spare held n e d=some y->d.length=k->∃z:α,(∀b o,ar (hv w) b o d->rd (hv w) b o z)/\E z<=K.B y.1)
   (h:DataW.trod enc P w base spare held fuel ts [v]=some x):∃(a:Option Addr) (c:Nat) (xs:List α),v = .slice a xs.length c/\Sl rd k (hv w) a c xs/\A xs<=K.B x.1:=by
 rcases DataW.trod_slice Z h with ⟨m,_⟩ | ⟨a,len,cap,C,rest,n,aw,m,ac,ax,ay,ad,az,Q,ae,_⟩
 · injection m with m _
   exact ⟨none,0,[],m,Sl.nil,by rw [M]; exact di _⟩
 · injection m with m _
   have R:0<cap->a.spot=none:=by
     intro aA
     rcases mb 0 len with S | S
     · have g:=Q 0 S
       obtain ⟨y,t⟩:∃y,C[0]? = some y:=⟨_,c6 (by omega)⟩;rw [t] at g;obtain ⟨d,f,_⟩:=cU.1 g;rw [G] at f;obtain ⟨_,I,D⟩:=World.cells?_some f;obtain ⟨u,J⟩:∃u,d[0]? = some u:=⟨_,c6 (by omega)⟩;have:=D 0 N;rw [J] at this
       simpa [Addr.add] using World.cell?_spot this
     · obtain ⟨aB,af⟩:=ae (aa _)
       have ag:len=0:=by omega
       have g:=af 0 (by omega);rw [ag] at g;obtain ⟨y,t⟩:∃y,rest[0]? = some y:=⟨_,c6 (by omega)⟩;rw [t] at g;obtain ⟨d,f,_⟩:=cU.1 g;rw [G] at f;obtain ⟨_,I,D⟩:=World.cells?_some f;obtain ⟨u,J⟩:∃u,d[0]? = some u:=⟨_,c6 (by omega)⟩;have:=D 0 N;rw [J] at this
       simpa [Addr.add] using World.cell?_spot this
   obtain ⟨xs,ah,T⟩:=IT (λi (z:α)=>(∀b o,a=⟨b,o,none⟩->rd (hv w) b (o+i*k) z)/\∃y:DataW H×List MemPlace,C[i]? = some y/\E z<=K.B y.1) len (λi hi=>by
     have g:=Q i hi;obtain ⟨y,t⟩:∃y,C[i]? = some y:=⟨_,c6 (by omega)⟩;rw [t] at g;obtain ⟨d,f,ai⟩:=cU.1 g;rw [G] at f;obtain ⟨_,I,D⟩:=World.cells?_some f;obtain ⟨z,aj,ak⟩:=ab n d y (by omega) ai I;refine ⟨z,λb o al=>aj _ _ λj v U=>?_,y,t,ak⟩;subst al
     have am:j<k:=by have:=(cq.1 U).1; omega
     have:=D j am;rw [U] at this;rw [qj,qj] at this
     exact ED this)
   have an:∀(l:List α) (es:List (DataW H×List MemPlace)),l.length=es.length->(∀(i:Nat) (z:α),l[i]? = some z->∃y:DataW H×List MemPlace,es[i]? = some y/\E z<=K.B y.1)->A l<=K.BA (es.map (·.1)):=by
     intro l
     induction l with
     | nil=>intro es _ _; rw [M]; exact di _
     | cons z l ao=>
       intro es V W
       cases es with
       | nil=>cases V
       | cons y es=>
         obtain ⟨X,F,q⟩:=W 0 z rfl;simp at F; subst F
         have:=ao es (by simpa using V) λi ap aq=>by
           obtain ⟨X,F,q⟩:=W (i+1) ap (by simpa using aq);exact ⟨X,by simpa using F,q⟩
         rw [Y,k_,K.cons];omega
   refine ⟨some a,cap,xs,by rw [m,ah],⟨by omega,by unfold maxLen at ad; omega,λp L au=>by injection L with L; subst L; exact R au,λi z q=>?_⟩,?_⟩
   · have hi:i<len:=by have:=(cq.1 q).1; omega
     have av:=R (by omega);obtain ⟨b,o,s⟩:=a;obtain rfl:s=none:=av;exact ⟨b,o,O,(T i z q).1 b o O⟩
   · have:=an xs C (by omega) λi z q=>(T i z q).2
     simp only [ac];have:=K.sl (C.map (·.1)) (rest.map (·.1));omega
structure Zc (P:Program) (tE tS tD tP tM BH wX qe n' ml:TypeId) (e s d p m:Array Field) (tI tB tT:TypeId):Prop where
 uI:P.underlying tI=some (.int .i64)
 uB:P.underlying tB=some .bool
 uT:P.underlying tT=some .string
 cT:P.cellsOf tT=1
 uE:P.underlying tE=some (.struct e)
 rE:(mh P 0 e.toList&&Nat.beq (P.cellsOf tE) e.size)=true
 fE:e.map (·.type) = #[tI,tI,tT,tT,BH]
 Zh:P.underlying BH=some (.slice tE)
 uS:P.underlying tS=some (.struct s)
 rS:(mh P 0 s.toList&&Nat.beq (P.cellsOf tS) s.size)=true
 fS:s.map (·.type) = #[tI,tT,tT,BH,wX,wX]
 Zk:P.underlying wX=some (.slice tS)
 uD:P.underlying tD=some (.struct d)
 rD:(mh P 0 d.toList&&Nat.beq (P.cellsOf tD) d.size)=true
 fD:d.map (·.type) = #[tI,tT,tB,tI]
 Zo:P.underlying qe=some (.slice tD)
 uP:P.underlying tP=some (.struct p)
 rP:(mh P 0 p.toList&&Nat.beq (P.cellsOf tP) p.size)=true
 fP:p.map (·.type) = #[tT,tB,ml,ml,wX]
 JH:P.underlying n'=some (.slice tP)
 JI:P.underlying ml=some (.slice tT)
 uM:P.underlying tM=some (.struct m)
 rM:(mh P 0 m.toList&&Nat.beq (P.cellsOf tM) m.size)=true
 fM:m.map (·.type) = #[tT,ml,qe,n',wX]
variable {gx:Array TypeId}
def kP (h:lh.map (·.type)=gx) {j:Nat}  (a:gx[j]? = some a0):∃f,lh[j]? = some f/\f.type=a0:=by
 rw [<-h,Array.getElem?_map] at a;obtain ⟨f,b,c⟩:=dS.1 a;exact ⟨f,b,c⟩
variable {tE tS tD tP tM BH wX qe n' ml tI tB tT:TypeId} {e s d p m:Array Field}
def va (a:(mh P 0 lh.toList&&Nat.beq (P.cellsOf a0) lh.size)=true):P.cellsOf a0=lh.size:=by
 simp only [dE] at a;exact j2 a.2
def fV (h:lh.map (·.type)=gx):lh.size=gx.size:=by rw [<-h]; simp
end
end Go.Bw
end
section
namespace Go.Bw
open Go
structure cP where
 kind:Int
 n:Int
 pl:Int
 name:List UInt8
deriving DecidableEq
def cP.cells (x:cP):List Value:=[.int .i64 x.kind,.int .i64 x.n,.int .i64 x.pl,st x.name]
def cP.cD (x:cP):x.cells.length=4:=rfl
def cP.one (x:cP):x.cells.all (·.oneCell')=true:=rfl
def lP (a:View) (b o:Nat) (x:cP):Prop:=ar a b o x.cells
variable {an b4:View}
def QF (h:bG an b4) (b o:Nat) (x:cP) (r:lP an b o x):lP b4 b o x:=ar.mono h r
def cH (x:cP):Bool:=!((((((((!(gi x.name)||!(aX x.kind 1 4))||!(aX x.n 0 1099511627775))||!(aX x.pl 0 320))||(x.kind==1&&x.pl != 0))||(x.kind==2&&x.n != 0))||(x.kind==3&&!(aX x.n 1 32)))||(x.kind==4&&decide (3<x.n))))
variable {et:cP}
def BK {lo hi a:Int} (h:(et.kind=1/\lo=0/\hi=1099511627775/\a=0)\/(et.kind=2/\lo=0/\hi=0/\a=320)\/(et.kind=3/\lo=1/\hi=32/\a=320)\/(et.kind=4/\lo=0/\hi=3/\a=320)) :
   ((((gi et.name&&decide (lo<=et.n))&&decide (et.n<=hi))&&decide (0<=et.pl))&&decide (et.pl<=a))=cH et:=by
 unfold cH
 generalize gi et.name=b
 rw [kr];cases b
 · simp
 · rcases h with ⟨h,rfl,rfl,rfl⟩ | ⟨h,rfl,rfl,rfl⟩ | ⟨h,rfl,rfl,rfl⟩ | ⟨h,rfl,rfl,rfl⟩<;>simp [aX,h]<;>omega
def QG (a:et.kind≠1) (b:et.kind≠2) (c:et.kind≠3) (d:et.kind≠4):cH et=false:=by
 unfold cH
 have:aX et.kind 1 4=false:=by simp [aX]; omega
 simp [this]
def f_ (l:List (List UInt8)):Bool:=(List.range l.length).any λi=>(List.range i).any λj=>l[i]?.getD []==l[j]?.getD []
variable {cw:List (List UInt8)} {Z aw:Nat}
def QH (hi:Z<cw.length) (a:aw<Z) (h:(cw[Z]?.getD []==cw[aw]?.getD [])=true):f_ cw=true:=by
 unfold f_;exact q5.2 ⟨Z,by simpa using hi,q5.2 ⟨aw,by simpa using a,h⟩⟩
def E3:f_ cw=true↔∃i j,i<cw.length/\j<i/\cw[i]? = cw[j]?:=by
 constructor
 · intro h
   unfold f_ at h;obtain ⟨i,hi,h⟩:=q5.1 h;obtain ⟨j,a,h⟩:=q5.1 h
   have hi:i<cw.length:=by simpa using hi
   have a:j<i:=by simpa using a
   refine ⟨i,j,hi,a,?_⟩;rw [c6 hi,c6 aa] at h ⊢
   simpa using h
 · rintro ⟨i,j,hi,a,h⟩
   exact QH hi a (by rw [h]; simp)
def j_:cw.Nodup↔f_ cw=false:=by
 constructor
 · intro h
   rw [D2];intro b;obtain ⟨i,j,hi,a,e⟩:=E3.1 b;have:=(e5 hi h).1 e;omega
 · intro h
   show List.Pairwise _ cw
   rw [AG];intro i j hi a c e;have:=E3.2 ⟨j,i,a,c,by rw [c6 hi,c6 a,e]⟩;rw [h] at this; cases this
def pJ (name:List UInt8) (a:List cP):Int:=
 if 16<a.length then 2 else if (a.all cH&&(!(f_ (a.map (·.name))||!(gi name))))=true then 0 else 1
variable {bq:List cP}
def JJ (h:∀(j:Nat) (x:cP),bq[j]? = some x->cH x=true):bq.all cH=true:=by
 rw [gN];intro x a;obtain ⟨j,b⟩:=iE a;exact h j x b
def QI (a:bq[Z]? = some et) (h:cH et=false):bq.all cH=false:=by
 rw [D3];exact ⟨et,az a,by simp [h]⟩
def n_ (at_:Int) (d:eb):cP:=⟨d.kind,d.n,if d.kind=1 then 0 else at_,d.nm⟩
def jt (d:eb):Int:=if d.kind=2 then 1 else if d.kind=3 then d.n else 0
def bh:List eb->Int
 | []=>0
 | d::r=>jt d+bh r
def jL:List eb->Int->List cP
 | [],_=>[]
 | d::r,a=>n_ a d::jL r (a+jt d)
def yM (i:Nat) (p:f'):cP:=⟨4,(p.params.length:Int),(i:Int),p.nm⟩
def lQ:List f'->Nat->List cP
 | [],_=>[]
 | p::r,i=>yM i p::lQ r (i+1)
def JK:∀(l:List eb) (d:eb),bh (l++[d])=bh l+jt d
 | [],d=>by simp [bh]
 | x::l,d=>by simp only [h5,bh,JK l d]; omega
def JL:∀(l:List eb) (d:eb) (a:Int),jL (l++[d]) a=jL l a++[n_ (a+bh l) d]
 | [],d,a=>by simp [jL,bh]
 | x::l,d,a=>by
   simp only [h5,jL,JL l d,bh];rw [show a+jt x+bh l=a+(jt x+bh l) by omega]
def JM:∀(l:List f') (p:f') (i:Nat),lQ (l++[p]) i=lQ l i++[yM (i+l.length) p]
 | [],p,i=>by simp [lQ]
 | x::l,p,i=>by
   simp only [h5,lQ,JM l p,gf];rw [show i+1+l.length=i+(l.length+1) by omega]
def BL:∀(l:List eb) (a:Int),(jL l a).length=l.length
 | [],_=>rfl
 | x::l,a=>by simp [jL,BL l]
def E4:∀(l:List f') (i:Nat),(lQ l i).length=l.length
 | [],_=>rfl
 | x::l,i=>by simp [lQ,E4 l]
def fy (m:df):List cP:=jL m.decls 0++lQ m.procs 0
def mm (m:df):Int:=bh m.decls
def mn (m:df):List Bool:=m.decls.map (·.cZ)++m.procs.map (·.cZ)
def yN (m:df):(fy m).length=m.decls.length+m.procs.length:=by simp [fy,BL,E4]
def BM (m:df):(mn m).length=m.decls.length+m.procs.length:=by simp [mn]
def jM:List cP->List Bool->List cP
 | x::l,p::ps=>(if p=true then [x] else [])++jM l ps
 | _,_=>[]
def JN:∀{l:List cP} {ps:List Bool} {x:cP} {p:Bool},l.length=ps.length->jM (l++[x]) (ps++[p])=jM l ps++(if p=true then [x] else [])
 | [],[],x,p,_=>by simp [jM]
 | y::l,q::ps,x,p,h=>by simp only [h5,jM,JN (l:=l) (ps:=ps) (by simpa using h),bV]
 | [],q::ps,x,p,h=>by simp at h
 | y::l,[],x,p,h=>by simp at h
def QJ {ps:List Bool}   {p:Bool} (c:bq.length=ps.length) (a:bq[Z]? = some et) (b:ps[Z]? = some p):jM (bq.take<|Z+1) (ps.take<|Z+1)=jM (bq.take Z) (ps.take Z)++(if p=true then [et] else []):=by
 rw [gV,gV,a,b];exact JN (by simp; omega)
def E5:∀(l:List cP) (ps:List Bool),(jM l ps).length<=l.length
 | [],_=>by simp [jM]
 | x::l,[]=>by simp [jM]
 | x::l,p::ps=>by
   have:=E5 l ps;simp only [jM,jE,gf]
   split<;>simp<;>omega
def gy (m:df):(List UInt8×List cP)×Int:=
 if ku m≠0 then (([],[]),ku m) else if (f_ ((fy m).map (·.name))||f_ m.aA)=true then (([],[]),6) else ((m.nm,jM (fy m) (mn m)),0)
inductive dr where
 | mk (op n m pl:Int) (args:List dr)
inductive c_ where
 | mk (op n m pl:Int) (args:List dr) (body other:List c_)
def dr.op:dr->Int | .mk o _ _ _ _=>o
def dr.n:dr->Int | .mk _ n _ _ _=>n
def dr.m:dr->Int | .mk _ _ m _ _=>m
def dr.pl:dr->Int | .mk _ _ _ p _=>p
def dr.args:dr->List dr | .mk _ _ _ _ a=>a
def c_.op:c_->Int | .mk o _ _ _ _ _ _=>o
def c_.n:c_->Int | .mk _ n _ _ _ _ _=>n
def c_.m:c_->Int | .mk _ _ m _ _ _ _=>m
def c_.pl:c_->Int | .mk _ _ _ p _ _ _=>p
def c_.args:c_->List dr | .mk _ _ _ _ a _ _=>a
def c_.body:c_->List c_ | .mk _ _ _ _ _ b _=>b
def c_.other:c_->List c_ | .mk _ _ _ _ _ _ o=>o
structure hx where
 params:Int
 locals:Int
 body:List c_
structure b8 where
 nm:List UInt8
 aA:List (List UInt8)
 data:Int
 parts:List hx
 main:List c_
def li:b8:=⟨[],[],0,[],[]⟩
def mo (e:dr) (a:Option Addr) (c:Nat):List Value:=[.int .i64 e.op,.int .i64 e.n,.int .i64 e.m,.int .i64 e.pl,.slice a e.args.length c]
def ie:Nat->View->Nat->Nat->dr->Prop
 | 0=>λ_ _ _ _=>False
 | k+1=>λd b o e=>∃a c,ar d b o (mo e a c)/\Sl (ie k) 5 d a c e.args
structure sg where
 s1:Option Addr×Nat
 s2:Option Addr×Nat
 s3:Option Addr×Nat
def de (s:c_) (r:sg):List Value:=[.int .i64 s.op,.int .i64 s.n,.int .i64 s.m,.int .i64 s.pl,.slice r.s1.1 s.args.length r.s1.2,.slice r.s2.1 s.body.length r.s2.2,.slice r.s3.1 s.other.length r.s3.2]
def gG (ke:Nat):Nat->View->Nat->Nat->c_->Prop
 | 0=>λ_ _ _ _=>False
 | k+1=>λa b o s=>∃r:sg,ar a b o (de s r)/\Sl (ie ke) 5 a r.s1.1 r.s1.2 s.args/\Sl (gG ke k) 7 a r.s2.1 r.s2.2 s.body/\Sl (gG ke k) 7 a r.s3.1 r.s3.2 s.other
def fW (p:hx) (r:Option Addr×Nat):List Value:=[.int .i64 p.params,.int .i64 p.locals,.slice r.1 p.body.length r.2]
def vb (ke ks:Nat) (a:View) (b o:Nat) (p:hx):Prop:=∃r:Option Addr×Nat,ar a b o (fW p r)/\Sl (gG ke ks) 7 a r.1 r.2 p.body
structure kQ where
 s1:Option Addr×Nat
 s2:Option Addr×Nat
 s3:Option Addr×Nat
def ga (u:b8) (r:kQ):List Value:=[st u.nm,.slice r.s1.1 u.aA.length r.s1.2,.int .i64 u.data,.slice r.s2.1 u.parts.length r.s2.2,.slice r.s3.1 u.main.length r.s3.2]
structure kR (ke ks:Nat) (H:View) (r:kQ) (u:b8):Prop where
 aA:Sl rdStr 1 H r.s1.1 r.s1.2 u.aA
 parts:Sl (vb ke ks) 3 H r.s2.1 r.s2.2 u.parts
 main:Sl (gG ke ks) 7 H r.s3.1 r.s3.2 u.main
def mq:kQ:=⟨(none,0),(none,0),(none,0)⟩
def wZ (a:View):kR Z aw a mq li:=⟨Sl.nil,Sl.nil,Sl.nil⟩
def iz (f:bG an b4):∀{k d:Nat},k<=d->∀(b o:Nat) (e:dr),ie k an b o e->ie d b4 b o e
 | 0,_,_,_,_,_,h=>h.elim
 | k+1,0,g,_,_,_,_=>absurd g aa
 | k+1,d+1,g,b,o,e,h=>by
   obtain ⟨a,c,i,j⟩:=h;exact ⟨a,c,ar.mono f i,j.imp λb o x l=>iz f aa b o x l⟩
def pK (c:bG an b4)  (d:Z<=aw):∀{k f:Nat},k<=f->∀(b o:Nat) (e:c_),gG Z k an b o e->gG aw f b4 b o e
 | 0,_,_,_,_,_,h=>h.elim
 | k+1,0,g,_,_,_,_=>absurd g aa
 | k+1,f+1,g,b,o,e,h=>by
   obtain ⟨r,i,j,l,m⟩:=h;exact ⟨r,ar.mono c i,j.imp λb o x a=>iz c d b o x a,l.imp λb o x a=>pK c d aa b o x a,m.imp λb o x a=>pK c d aa b o x a⟩
def JO (a:bG an b4) {ke c ks d:Nat} (e:ke<=c) (f:ks<=d) (b o:Nat) (p:hx) (h:vb ke ks an b o p):vb c d b4 b o p:=by
 obtain ⟨r,g,i⟩:=h;exact ⟨r,ar.mono a g,i.imp λb o x j=>pK a e f b o x j⟩
variable {dj:Option Addr}
def BN {l:List dr} (h:Sl (ie Z) 5 an dj aw l) (hv:bG an b4):Sl (ie Z) 5 b4 dj aw l:=h.imp λb o x a=>iz hv (cQ _) b o x a
variable {cy:Nat}
def tC {l:List c_} (h:Sl (gG Z aw) 7 an dj cy l) (hv:bG an b4):Sl (gG Z aw) 7 b4 dj cy l:=h.imp λb o x a=>pK hv (cQ _) (cQ _) b o x a
def QK {l:List hx} (h:Sl (vb Z aw) 3 an dj cy l) (hv:bG an b4):Sl (vb Z aw) 3 b4 dj cy l:=h.imp λb o x a=>JO hv (cQ _) (cQ _) b o x a
def kR.mv {r:kQ} {u:b8} (h:kR Z aw an r u) (hv:bG an b4):kR Z aw b4 r u:=⟨h.aA.imp λb o x a=>jA hv b o x a,QK h.parts hv,tC h.main hv⟩
def Xs {a:Type} (R:View->a->Prop) (J:View) (es:List a):Prop:=∀e ∈ es,R J e
variable {bB:Type}
def Xs.nil {R:View->bB->Prop} (J:View):Xs R J []:=by intro e h; simp at h
def Xs.mono {R:View->bB->Prop} (b:∀{a B:View} {x:bB},bG a B->R a x->R B x)  {es:List bB} (h:Xs R an es) (hv:bG an b4):Xs R b4 es:=λe c=>b hv<|h e c
variable {gz:View}
def Xs.snoc {R:View->bB->Prop} (b:∀{c B:View} {x:bB},bG c B->R c x->R B x)  {es:List bB} {e:bB} (h:Xs R an es) (d:bG an gz) (f:bG b4 gz) (g:R b4 e):Xs R gz (es++[e]):=by
 intro x a
 rcases ge.1 a with a | a
 · exact b d<|h x a
 · rw [gU] at a
   subst a;exact b f g
def vd {a T:Type} {t:a->T} {c:View->Nat->Nat->a->Prop} {rd:View->Nat->Nat->T->Prop} {R:View->a->Prop}     {es:List a} (h:Sl c Z an dj aw es) (g:Xs R b4 es)
   (j:∀b o e,c an b o e->R b4 e->rd gz b o (t e)):Sl rd Z gz dj aw (es.map t):=by
 refine ⟨by simpa using h.cap,h.max,h.spot,λi x d=>?_⟩;rw [e4] at d;obtain ⟨e,f,rfl⟩:=dS.1 d;obtain ⟨b,o,k,l⟩:=h.b5 i e f;exact ⟨b,o,k,j b _ e l<|g e<|az f⟩
abbrev XN:=dr×Option Addr×Nat
def XN.cells (e:XN):List Value:=mo e.1 e.2.1 e.2.2
def XN.cD (e:XN):(XN.cells e).length=5:=rfl
def XN.one (e:XN):(XN.cells e).all (·.oneCell')=true:=rfl
def JP (a:View) (b o:Nat) (e:XN):Prop:=ar a b o<|XN.cells e
def rk (k:Nat) (J:View) (e:XN):Prop:=Sl (ie k) 5 J e.2.1 e.2.2 e.1.args
def rk.mv {e:XN} (hv:bG an b4) (h:rk Z an e):rk Z b4 e:=BN h hv
def QL {es:List XN} (h:Sl JP 5 an dj aw es) (hv:bG an gz) (a:bG b4 gz) (c:Xs (rk Z) b4 es):Sl (ie<|Z+1) 5 gz dj aw (es.map (·.1)):=
 vd h c λb o e d f=>⟨e.2.1,e.2.2,ar.mono hv d,rk.mv a f⟩
abbrev XA:=c_×sg
def XA.cells (e:XA):List Value:=de e.1 e.2
def XA.cD (e:XA):(XA.cells e).length=7:=rfl
def XA.one (e:XA):(XA.cells e).all (·.oneCell')=true:=rfl
def JQ (a:View) (b o:Nat) (e:XA):Prop:=ar a b o<|XA.cells e
structure pL (ke k:Nat) (N:View) (e:XA):Prop where
 args:Sl (ie ke) 5 N e.2.s1.1 e.2.s1.2 e.1.args
 body:Sl (gG ke k) 7 N e.2.s2.1 e.2.s2.2 e.1.body
 other:Sl (gG ke k) 7 N e.2.s3.1 e.2.s3.2 e.1.other
def pL.mv {e:XA} (hv:bG an b4) (h:pL Z aw an e):pL Z aw b4 e:=⟨BN h.args hv,tC h.body hv,tC h.other hv⟩
def QM {es:List XA} (h:Sl JQ 7 an dj cy es) (hv:bG an gz) (a:bG b4 gz) (d:Xs (pL Z aw) b4 es):Sl (gG Z<|aw+1) 7 gz dj cy (es.map (·.1)):=
 vd h d λb o e f c=>⟨e.2,ar.mono hv f,(pL.mv a c).args,(pL.mv a c).body,(pL.mv a c).other⟩
abbrev XP:=hx×Option Addr×Nat
def XP.cells (e:XP):List Value:=fW e.1 e.2
def XP.cD (e:XP):(XP.cells e).length=3:=rfl
def XP.one (e:XP):(XP.cells e).all (·.oneCell')=true:=rfl
def JR (a:View) (b o:Nat) (e:XP):Prop:=ar a b o<|XP.cells e
def gd (ke k:Nat) (J:View) (e:XP):Prop:=Sl (gG ke k) 7 J e.2.1 e.2.2 e.1.body
def gd.mv {e:XP} (hv:bG an b4) (h:gd Z aw an e):gd Z aw b4 e:=tC h hv
def QN {es:List XP} (h:Sl JR 3 an dj cy es) (hv:bG an gz) (a:bG b4 gz) (c:Xs (gd Z aw) b4 es):Sl (vb Z aw) 3 gz dj cy (es.map (·.1)):=
 vd h c λb o e d f=>⟨e.2,ar.mono hv d,gd.mv a f⟩
open Go.ChangeShapes Go.WideShapes Go.ChangeAt Go.RowKit Go.Joins Go.Deep
structure Zs (P:Program) (tI tT tX JS tF QO:TypeId) (x f:Array Field):Prop where
 uI:P.underlying tI=some (.int .i64)
 uT:P.underlying tT=some .string
 uX:P.underlying tX=some (.struct x)
 rX:(mh P 0 x.toList&&Nat.beq (P.cellsOf tX) x.size)=true
 fX:x.map (·.type) = #[tI,tI,tI,tT]
 Zw:P.underlying JS=some (.slice tX)
 uF:P.underlying tF=some (.struct f)
 rF:(mh P 0 f.toList&&Nat.beq (P.cellsOf tF) f.size)=true
 fF:f.map (·.type) = #[tT,JS]
 ZA:P.underlying QO=some (.slice tF)
open Go.ChangeShapes Go.WideShapes Go.ChangeAt Go.RowKit Go.Joins Go.Deep
mutual
def e7:dr->Nat
 | .mk _ _ _ _ args=>1+hG args
def hG:List dr->Nat
 | []=>0
 | x::r=>e7 x+hG r
end
mutual
def mr:c_->Nat
 | .mk _ _ _ _ args body other=>1+hG args+a_ body+a_ other
def a_:List c_->Nat
 | []=>0
 | x::r=>mr x+a_ r
end
def gu (p:hx):Nat:=1+a_ p.body
def lR:List hx->Nat
 | []=>0
 | p::r=>gu p+lR r
def dh (u:b8):Nat:=1+u.nm.length+wN u.aA+lR u.parts+a_ u.main
def jG:List b8->Nat
 | []=>0
 | u::r=>dh u+jG r
def ve (n:Nat) (a:View) (b o:Nat) (u:b8):Prop:=∃r:kQ,ar a b o (ga u r)/\kR n n a r u
structure gB (P:Program) (tN tA tP tU qt dn n' ml:TypeId) (e s p m:Array Field) (tI tT:TypeId):Prop where
 uI:P.underlying tI=some (.int .i64)
 uT:P.underlying tT=some .string
 cT:P.cellsOf tT=1
 uN:P.underlying tN=some (.struct e)
 rN:(mh P 0 e.toList&&Nat.beq (P.cellsOf tN) e.size)=true
 fN:e.map (·.type) = #[tI,tI,tI,tI,qt]
 JT:P.underlying qt=some (.slice tN)
 uA:P.underlying tA=some (.struct s)
 rA:(mh P 0 s.toList&&Nat.beq (P.cellsOf tA) s.size)=true
 fA:s.map (·.type) = #[tI,tI,tI,tI,qt,dn,dn]
 E9:P.underlying dn=some (.slice tA)
 uP:P.underlying tP=some (.struct p)
 rP:(mh P 0 p.toList&&Nat.beq (P.cellsOf tP) p.size)=true
 fP:p.map (·.type) = #[tI,tI,dn]
 JH:P.underlying n'=some (.slice tP)
 JI:P.underlying ml=some (.slice tT)
 uU:P.underlying tU=some (.struct m)
 rU:(mh P 0 m.toList&&Nat.beq (P.cellsOf tU) m.size)=true
 fU:m.map (·.type) = #[tT,ml,tI,n',dn]
section
variable {P:Program} {H:Type} {enc:TypeId×Value->H} {w:World} {base:Nat} {spare:Nat->Bool} {held:Bool} (K:wW H)
variable {tN tA tP tU qt dn n' ml tI tT E':TypeId} {e s p m:Array Field}
def QS (T:gB P tN tA tP tU qt dn n' ml e s p m tI tT) (J:∀b,spare b=true):∀(fuel:Nat) (cs:List Value) (x:DataW H×List MemPlace),DataW.trod enc P w base spare held fuel tN cs=some x->∃(y:dr) (a:Option Addr) (c:Nat),cs=mo y a c/\Sl (ie fuel) 5 (hv w) a c y.args/\e7 y<=K.B x.1:=by
 intro fuel
 induction fuel using Nat.strongRecOn with
 | _ fuel L=>
 intro cs x h;obtain ⟨M,ys,n,au,N,O,d⟩:=BD T.uN T.rN h;have f:=fV T.fN;simp at f;obtain ⟨Q,R,S⟩:=kP T.fN (j:=0) rfl;obtain ⟨U,V,W⟩:=kP T.fN (j:=1) rfl;obtain ⟨X,Y,Z⟩:=kP T.fN (j:=2) rfl;obtain ⟨ab,ac,ad⟩:=kP T.fN (j:=3) rfl;obtain ⟨ae,af,ag⟩:=kP T.fN (j:=4) rfl;obtain ⟨v0,av,g,i,l⟩:=d 0 Q R;obtain ⟨v1,aw,q,r,t⟩:=d 1 U V;obtain ⟨v2,ax,u,v,A⟩:=d 2 X Y;obtain ⟨ay,az,C,D,E⟩:=d 3 ab ac;obtain ⟨aA,aB,F,G,I⟩:=d 4 ae af;rw [S] at l; rw [W] at t; rw [Z] at A; rw [ad] at E; rw [ag] at I;obtain ⟨op,rfl⟩:=pI T.uI l;obtain ⟨ah,rfl⟩:=pI T.uI t;obtain ⟨ai,rfl⟩:=pI T.uI A;obtain ⟨aj,rfl⟩:=pI T.uI E
 obtain ⟨a,c,args,rfl,ak,aC⟩:=sf (rd:=ie fuel) K e7 hG rfl (λ_ _=>rfl) T.JT ((va T.rN).trans f) aa J (λal am y aD an _=>by
   obtain ⟨z,a,c,rfl,ao,ap⟩:=L al aa am y an;refine ⟨z,λb o aq=>?_,ap⟩;obtain ⟨k,rfl⟩:∃k,fuel=k+1:=⟨fuel-1,aa⟩
   exact ⟨a,c,aq,ao.imp λb o y ar=>iz (bG.refl _) aa b o y ar⟩) I
 refine ⟨dr.mk op ah ai aj args,a,c,?_,ak,?_⟩
 · match cs,M.trans f with
   | [c0,c1,c2,c3,c4],_=>
     simp at g q u C F;subst g q u C F
     rfl
 · match ys,O.trans f with
   | [d0,d1,d2,d3,d4],_=>
     simp at i r v D G;subst i r v D G;rw [N];simp only [k_,uH,K.agg,K.cons,K.nil,e7];omega
def QT (T:gB P tN tA tP tU qt dn n' ml e s p m tI tT) (r:∀b,spare b=true):∀(fuel:Nat) (cs:List Value) (x:DataW H×List MemPlace),DataW.trod enc P w base spare held fuel tA cs=some x->∃(y:c_) (q:sg),cs=de y q/\Sl (ie fuel) 5 (hv w) q.s1.1 q.s1.2 y.args/\Sl (gG fuel fuel) 7 (hv w) q.s2.1 q.s2.2 y.body/\Sl (gG fuel fuel) 7 (hv w) q.s3.1 q.s3.2 y.other/\mr y<=K.B x.1:=by
 intro fuel
 induction fuel using Nat.strongRecOn with
 | _ fuel ad=>
 intro cs x h;obtain ⟨ae,ys,n,aQ,af,ag,d⟩:=BD T.uA T.rA h;have l:=fV T.fA;simp at l;obtain ⟨ah,ai,aj⟩:=kP T.fA (j:=0) rfl;obtain ⟨ak,al,am⟩:=kP T.fA (j:=1) rfl;obtain ⟨an,ao,ap⟩:=kP T.fA (j:=2) rfl;obtain ⟨aq,au,av⟩:=kP T.fA (j:=3) rfl;obtain ⟨aw,ax,ay⟩:=kP T.fA (j:=4) rfl;obtain ⟨az,aA,aB⟩:=kP T.fA (j:=5) rfl;obtain ⟨aC,aD,aE⟩:=kP T.fA (j:=6) rfl;obtain ⟨v0,aR,A,C,D⟩:=d 0 ah ai;obtain ⟨v1,aS,E,F,G⟩:=d 1 ak al;obtain ⟨v2,aT,I,J,L⟩:=d 2 an ao;obtain ⟨aU,aV,M,N,O⟩:=d 3 aq au;obtain ⟨aW,aX,Q,R,S⟩:=d 4 aw ax;obtain ⟨v5,aY,U,V,W⟩:=d 5 az aA;obtain ⟨v6,aZ,X,Y,Z⟩:=d 6 aC aD;rw [aj] at D; rw [am] at G; rw [ap] at L; rw [av] at O; rw [ay] at S; rw [aB] at W; rw [aE] at Z;have ab:=fV T.fN;simp at ab
 have ac:∀i (f:List Value) (y:DataW H×List MemPlace),i<n->DataW.trod enc P w base spare held i tA f=some y->f.length=7->∃z:c_,(∀b o,ar (hv w) b o f->gG fuel fuel (hv w) b o z)/\mr z<=K.B y.1:=λi f y aF t _=>by
   obtain ⟨z,q,rfl,aG,aH,aI,u⟩:=ad i aa f y t;refine ⟨z,λb o v=>?_,u⟩;obtain ⟨k,rfl⟩:∃k,fuel=k+1:=⟨fuel-1,aa⟩;exact ⟨q,v,aG.imp λb o y g=>iz (bG.refl _) aa b o y g,aH.imp λb o y g=>pK (bG.refl _) aa aa b o y g,aI.imp λb o y g=>pK (bG.refl _) aa aa b o y g⟩
 obtain ⟨op,rfl⟩:=pI T.uI D;obtain ⟨aJ,rfl⟩:=pI T.uI G;obtain ⟨aK,rfl⟩:=pI T.uI L;obtain ⟨aL,rfl⟩:=pI T.uI O
 obtain ⟨a1,c1,args,rfl,aM,a0⟩:=sf (rd:=ie fuel) K e7 hG rfl (λ_ _=>rfl) T.JT ((va T.rN).trans ab) aa r (λi f y aF t _=>by
   obtain ⟨z,a,c,rfl,aN,u⟩:=QS K T r i f y t;refine ⟨z,λb o v=>?_,u⟩;obtain ⟨k,rfl⟩:∃k,fuel=k+1:=⟨fuel-1,aa⟩
   exact ⟨a,c,v,aN.imp λb o y g=>iz (bG.refl _) aa b o y g⟩) S
 obtain ⟨a2,c2,body,rfl,aO,a4⟩:=sf (rd:=gG fuel fuel) K mr a_ rfl (λ_ _=>rfl) T.E9 ((va T.rA).trans l) aa r ac W;obtain ⟨a3,c3,other,rfl,aP,a5⟩:=sf (rd:=gG fuel fuel) K mr a_ rfl (λ_ _=>rfl) T.E9 ((va T.rA).trans l) aa r ac Z;refine ⟨c_.mk op aJ aK aL args body other,⟨(a1,c1),(a2,c2),(a3,c3)⟩,?_,aM,aO,aP,?_⟩
 · match cs,ae.trans l with
   | [c0,c1,c2,c3,c4,c5,a6],_=>
     simp at A E I M Q U X;subst A E I M Q U X
     rfl
 · match ys,ag.trans l with
   | [d0,d1,d2,d3,d4,d5,d6],_=>
     simp at C F J N R V Y;subst C F J N R V Y;rw [af];simp only [k_,uH,K.agg,K.cons,K.nil,mr];omega
variable {a5:Value}
def JV (T:gB P tN tA tP tU qt dn n' ml e s p m tI tT) (f:∀b,spare b=true)   {x:DataW H×List MemPlace} (h:DataW.trod enc P w base spare held Z dn [a5]=some x):∃(a:Option Addr) (c:Nat) (l:List c_),a5 = .slice a l.length c/\Sl (gG Z Z) 7 (hv w) a c l/\a_ l<=K.B x.1:=by
 have g:=fV T.fA;simp at g;refine sf (rd:=gG Z Z) K mr a_ O (λ_ _=>rfl) T.E9 ((va T.rA).trans g) aa f (λi j y C n _=>?_) h;obtain ⟨z,q,rfl,r,t,u,v⟩:=QT K T f i j y n;refine ⟨z,λb o A=>?_,v⟩;obtain ⟨k,rfl⟩:∃k,Z=k+1:=⟨Z-1,aa⟩;exact ⟨q,A,r.imp λb o y d=>iz (bG.refl _) aa b o y d,t.imp λb o y d=>pK (bG.refl _) aa aa b o y d,u.imp λb o y d=>pK (bG.refl _) aa aa b o y d⟩
def QU (T:gB P tN tA tP tU qt dn n' ml e s p m tI tT) (d:∀b,spare b=true)   {x:DataW H×List MemPlace} (h:DataW.trod enc P w base spare held Z ml [a5]=some x):∃(a:Option Addr) (c:Nat) (l:List (List UInt8)),a5 = .slice a l.length c/\Sl rdStr 1 (hv w) a c l/\wN l<=K.B x.1:=by
 refine sf (rd:=rdStr) K (λs=>1+s.length) wN O (λ_ _=>rfl) T.JI T.cT aa d (λk f y n g i=>?_) h
 match f,i with
 | [u],_=>
   obtain ⟨l,rfl,q⟩:=JE K T.uT g;exact ⟨l,λb o j=>j,aa⟩
variable {dv:List Value}
def QV (T:gB P tN tA tP tU qt dn n' ml e s p m tI tT) (A:∀b,spare b=true)   {x:DataW H×List MemPlace} (h:DataW.trod enc P w base spare held Z tP dv=some x):∃(y:hx) (q:Option Addr×Nat),dv=fW y q/\Sl (gG Z Z) 7 (hv w) q.1 q.2 y.body/\gu y<=K.B x.1:=by
 obtain ⟨C,ys,n,W,D,E,d⟩:=BD T.uP T.rP h;have f:=fV T.fP;simp at f;obtain ⟨F,G,I⟩:=kP T.fP (j:=0) rfl;obtain ⟨J,L,M⟩:=kP T.fP (j:=1) rfl;obtain ⟨N,O,Q⟩:=kP T.fP (j:=2) rfl;obtain ⟨v0,X,g,i,k⟩:=d 0 F G;obtain ⟨v1,Y,l,r,t⟩:=d 1 J L;obtain ⟨v2,ab,u,v,z⟩:=d 2 N O;rw [I] at k; rw [M] at t; rw [Q] at z;obtain ⟨R,rfl⟩:=pI T.uI k;obtain ⟨S,rfl⟩:=pI T.uI t;obtain ⟨a,c,bd,rfl,U,ac⟩:=JV K T A z;refine ⟨⟨R,S,bd⟩,(a,c),?_,U.imp λb o y V=>pK (bG.refl _) aa aa b o y V,?_⟩
 · match dv,C.trans f with
   | [c0,c1,c2],_=>
     simp at g l u;subst g l u
     rfl
 · match ys,E.trans f with
   | [d0,d1,d2],_=>
     simp at i r v;subst i r v;rw [D];simp only [k_,uH,K.agg,K.cons,K.nil,gu];omega
def QW (T:gB P tN tA tP tU qt dn n' ml e s p m tI tT) (c:∀b,spare b=true)   {x:DataW H×List MemPlace} (h:DataW.trod enc P w base spare held Z tU dv=some x):∃(y:b8) (r:kQ),dv=ga y r/\kR Z Z (hv w) r y/\dh y<=K.B x.1:=by
 obtain ⟨N,ys,n,aq,O,Q,a⟩:=BD T.uU T.rU h;have d:=fV T.fU;simp at d;obtain ⟨R,S,U⟩:=kP T.fU (j:=0) rfl;obtain ⟨V,W,X⟩:=kP T.fU (j:=1) rfl;obtain ⟨Y,ab,ac⟩:=kP T.fU (j:=2) rfl;obtain ⟨ad,ae,af⟩:=kP T.fU (j:=3) rfl;obtain ⟨ag,ah,ai⟩:=kP T.fU (j:=4) rfl;obtain ⟨v0,ar,i,k,l⟩:=a 0 R S;obtain ⟨v1,au,t,u,v⟩:=a 1 V W;obtain ⟨v2,av,A,C,D⟩:=a 2 Y ab;obtain ⟨aw,ax,E,F,G⟩:=a 3 ad ae;obtain ⟨ay,az,I,J,L⟩:=a 4 ag ah;rw [U] at l; rw [X] at v; rw [ac] at D; rw [af] at G; rw [ai] at L;have M:=fV T.fP;simp at M;obtain ⟨nm,rfl,aA⟩:=JE K T.uT l;obtain ⟨a1,c1,us,rfl,f,aB⟩:=QU K T c v;obtain ⟨aj,rfl⟩:=pI T.uI D
 obtain ⟨a2,c2,ps,rfl,ak,aC⟩:=sf (rd:=vb Z Z) K gu lR rfl (λ_ _=>rfl) T.JH ((va T.rP).trans M) aa c (λaD aE y aF al _=>by
   obtain ⟨z,q,rfl,f,am⟩:=QV K T c al
   exact ⟨z,λb o an=>⟨q,an,f.imp λb o y g=>pK (bG.refl _) aa aa b o y g⟩,am⟩) G
 obtain ⟨a3,c3,ao,rfl,ap,aG⟩:=JV K T c L;refine ⟨⟨nm,us,aj,ps,ao⟩,⟨(a1,c1),(a2,c2),(a3,c3)⟩,?_,⟨f,ak,ap.imp λb o y g=>pK (bG.refl _) aa aa b o y g⟩,?_⟩
 · match dv,N.trans d with
   | [c0,c1,c2,c3,c4],_=>
     simp at i t A E I;subst i t A E I
     rfl
 · match ys,Q.trans d with
   | [d0,d1,d2,d3,d4],_=>
     simp at k u C F J;subst k u C F J;rw [O];simp only [k_,uH,K.agg,K.cons,K.nil,dh];omega
def QX (T:gB P tN tA tP tU qt dn n' ml e s p m tI tT) (g:∀b,spare b=true) (i:P.underlying E'=some (.slice tU)) {r:_root_.Go.Reach}   {x:DataW H} {pl:List MemPlace} (t:Value.okWide P w r Z E' a5) (h:DataW.Trod enc P w base spare held E' a5 x pl) :
   ∃(a:Option Addr) (c n:Nat) (l:List b8),a5 = .slice a l.length c/\Sl (ve n) 5 (hv w) a c l/\jG l<=K.B x:=by
 obtain ⟨a,k,c,rfl⟩:=okWide_slice i t;obtain ⟨fuel,h⟩:=h;have j:=fV T.fU;simp at j
 obtain ⟨a,c,l,u,v,A⟩:=sf (rd:=ve fuel) K dh jG rfl (λ_ _=>rfl) i ((va T.rU).trans j) aa g (λF G y I C _=>by
   obtain ⟨z,q,rfl,d,D⟩:=QW K T g C
   exact ⟨z,λb o E=>⟨q,E,d.aA,d.parts.imp λb o x f=>JO (bG.refl _) aa aa b o x f,d.main.imp λb o x f=>pK (bG.refl _) aa aa b o x f⟩,D⟩) h
 exact ⟨a,c,fuel,l,u,v,A⟩
def JW:∀{l:List b8} {u:b8},u ∈ l->dh u<=jG l
 | x::r,u,h=>by
   rcases ep.1 h with e | h
   · subst e; exact ye _ _
   · have:=JW h; show dh u<=dh x+jG r; omega
end
section
variable {κ:Type} [BEq κ] [LawfulBEq κ] {kd:TypeDesc} {kv:κ->Value}
variable {P:Program} {l:List (Nat×Value)} {w0:World} {F:List Nat} {L:List aQ} {Vs:List View} {ty:TypeId} {pos:String} {af:Array Edge} {g:Option (Nat×Bool)}
variable {Bd:Option Tmp} {a0 dX hT:TypeId} {be bX:Operand} {a5:Value}
def JX {m:List (aL κ)} {k:κ}  (i:Nat)  (b:Vs[i]? = some an) (c:qq kd kv) (d:P.underlying a0=some (.map dX hT)) (e:P.underlying dX=some kd) (f:zeroOf P hT=some a5) (h:bK l be=some (.map<|some Z)) (j:bK l bX=some (kv k)) (n:an Z=some (cY kv m aw)) :
   Yl P l (Ws w0 F L Vs) ⟨Bd,.lookup a0 be bX false,ty,pos,af,g⟩ (gn k m a5):=by
 intro p w a o;simp [execOp,a be _ h,a bX _ j,Bq (P:=P) (k:=k) false c d e f (o.vs an (aY b) Z _ n:w.heap[Z]? = some (cY kv m aw))]
def JY {m:List (aL κ)} {k:κ}  (i:Nat)  (b:Vs[i]? = some an) (c:qq kd kv) (d:P.underlying a0=some (.map dX hT)) (e:P.underlying dX=some kd) (f:zeroOf P hT=some a5) (h:bK l be=some (.map<|some Z)) (j:bK l bX=some (kv k)) (n:an Z=some (cY kv m aw)) :
   Yl P l (Ws w0 F L Vs) ⟨Bd,.lookup a0 be bX true,ty,pos,af,g⟩ (.tuple #[gn k m a5,.bool (oT k m)]):=by
 intro p w a o;simp [execOp,a be _ h,a bX _ j,Bq (P:=P) (k:=k) true c d e f (o.vs an (aY b) Z _ n:w.heap[Z]? = some (cY kv m aw))]
end
variable {bY eD:World} {dd:List aQ} {e0:List View} {eJ:Obj}
def Ws.QY (h:Ws bY [] dd e0 eD) (i:Nat)   (hL:dd[i]? = some (aq Z eJ)):nv bY eD Z=some eJ:=by
 have b:eD.heap[Z]? = some eJ:=h.kn _ (aY hL)
 have c:bY.heap.size<=Z:=by
   rcases h.own _ (aY hL) Z (by simp [aq]) with a | a
   · cases a
   · exact a
 unfold nv;rw [ZZ c];exact b
section
variable {Q:Exit->Act->World->Prop} {n:Nat} {ds:List Deferred} {l:List (Nat×Value)} {w0:World} {F:List Nat} {L:List aQ} {Vs:List View}
def WE.od {e:Exit} {b:Nat} {a:Obj} (i:Nat) (d:Obj) (hL:L[i]? = some (aq b a)) (c:a=d) (h:WE Q e n ds l (Ws w0 F (L.set i<|aq b d) Vs)):WE Q e n ds l (Ws w0 F L Vs):=by
 subst c
 have:L.set i (aq b a)=L:=by
   obtain ⟨hi,c⟩:=cq.1 hL;rw [<-c];exact yb hi
 rwa [this] at h
end
def Ws.oe {a:List Nat}   (h:Ws bY a dd e0 eD) (i:Nat)   (hL:dd[i]? = some (aq Z eJ)):hv eD Z=some eJ:=h.kn _<|aY hL
def tG {v:Value} (h:an Z=some eJ) (a:i_ eJ aw=some v):vc an Z aw=some v:=by
 unfold vc;rw [h];exact a
section
variable {P:Program} {ops:Array Oper} {Q:Exit->Act->World->Prop} {n:Nat} {ds:List Deferred} {l:List (Nat×Value)} {w0:World} {F:List Nat} {L:List aQ} {Vs:List View} {rest:List Oper} {d:Nat} {ty:TypeId} {pos:String} {af:Array Edge} {g:Option (Nat×Bool)}
variable {dH:FuncId} {hg:Array Operand} {gx:Array TypeId} {dv:List Value}
def WL.mU {ι κ:Type}     (s:aK ops l g) (t:Nat.blt d n=true) (u:Enters P dH) (k:ip l hg.toList=some dv)
   (v:ι->Value) (R:ι->Prop) (p:κ->List PanicEntry) (q:κ->Prop)
   (hC:∀w,Ws w0 F L Vs w->Calls P dH dv.toArray w λe f=>(∃i,e = .returned (v i)/\Ext w f/\R i)\/(∃j,e = .panicked (p j)/\Ext w f/\q j))
   (x:∀j,q j->WE Q (.panic<|p j) n ds l (Ws w0 F L Vs))
   (y:∀i,R i->WL P ops Q n ds ((d,v i)::l) (Ws w0 F L Vs) rest) :
   WL P ops Q n ds l (Ws w0 F L Vs) (⟨some d,.call ⟨.value<|.func dH,hg,gx⟩,ty,pos,af,g⟩::rest):=
 WL.yr s t u k v (λi f=>R i/\Ws w0 F L Vs f) (λc f=>∃j,c=p j/\q j/\Ws w0 F L Vs f) (λw b=>(hC w b).mono λe f h=>by
   rcases h with ⟨i,m,o,r⟩ | ⟨j,m,o,r⟩
   · exact .inl ⟨i,m,r,b.ext o⟩
   · exact .inr ⟨_,m,j,O,r,b.ext o⟩) (λi a w k b=>y i b.1 a w k b.2) (λc a w k b=>by
   obtain ⟨j,rfl,m,o⟩:=b
   exact x j m a w k o)
def WL.tH {ι κ:Type}     (t:aK ops l g) (u:Nat.blt d n=true) (x:Enters P dH) (k:ip l hg.toList=some dv)
   (v:ι->Value) (R:View->ι->Prop) (p:κ->List PanicEntry) (q:κ->Prop)
   (hC:∀w,Ws w0 F L Vs w->Calls P dH dv.toArray w λe b=>(∃i,e = .returned (v i)/\Ext w b/\R (nv w b) i)\/(∃j,e = .panicked (p j)/\Ext w b/\q j))
   (y:∀j,q j->WE Q (.panic<|p j) n ds l (Ws w0 F L Vs))
   (z:∀r i,gw w0 r->R r i->WL P ops Q n ds ((d,v i)::l) (Ws w0 F L<|r::Vs) rest) :
   WL P ops Q n ds l (Ws w0 F L Vs) (⟨some d,.call ⟨.value<|.func dH,hg,gx⟩,ty,pos,af,g⟩::rest):=
 WL.yr (ι:=View×ι) t u x k (λi=>v i.2) (λi b=>(gw w0 i.1/\R i.1 i.2)/\Ws w0 F L (i.1::Vs) b) (λc b=>∃j,c=p j/\q j/\Ws w0 F L Vs b) (λw f=>(hC w f).mono λe b h=>by
   rcases h with ⟨i,m,o,s⟩ | ⟨j,m,o,s⟩
   · exact .inl ⟨(nv w b,i),m,⟨(wz w b).mono f.fr.size,s⟩,f.view o (Ej w b)<|wz w b⟩
   · exact .inr ⟨_,m,j,O,s,f.ext o⟩) (λi a w k f=>z i.1 i.2 f.1.1 f.1.2 a w k f.2) (λc a w k f=>by
   obtain ⟨j,rfl,m,o⟩:=f
   exact y j m a w k o)
end
section
variable {P:Program} {l:List (Nat×Value)} {W:World->Prop} {ty:TypeId} {pos:String} {af:Array Edge} {g:Option (Nat×Bool)}
variable {Bd:Option Tmp} {be:Operand} {a0 dX:TypeId} {a5:Value} {lh:Array Field}
def JZ (a:P.underlying a0=some (.struct lh)) (b:bK l be=some (.iface a0 a5)):Yl P l W ⟨Bd,.typeAssert be dX a0 true,ty,pos,af,g⟩ (.tuple #[a5,.bool true]):=by
 intro d w c _;simp [execOp,c be _ b,Instr.typeAssert,run_underlying a]
def J0 (a:P.underlying a0=some (.struct lh)) (b:zeroOf P a0=some a5) (c:bK l be=some .nilIface):Yl P l W ⟨Bd,.typeAssert be dX a0 true,ty,pos,af,g⟩ (.tuple #[a5,.bool false]):=by
 intro e w d _;simp [execOp,d be _ c,Instr.typeAssert,run_underlying a,iq b]
end
def vh (b:Bool):List Value:=[.bool b]
def rdBool (a:View) (b o:Nat) (x:Bool):Prop:=ar a b o<|vh x
def QZ (b:Bool):(vh b).length=1:=rfl
end Go.Bw
end
section
namespace Go.Bw
open Go
structure hH where
 aC:List (List UInt8)
 own:List cP
 aA:List (List UInt8)
 gC:List (List cP)
def idxOf (nm:List UInt8):List (List UInt8)->Nat->Option Nat
 | [],_=>none
 | s::r,i=>if s=nm then some i else idxOf nm r (i+1)
def hI (nm:List UInt8):List cP->Option cP
 | []=>none
 | x::r=>if x.name=nm then some x else hI nm r
def kS (mod nm:List UInt8):List (List UInt8)->List (List cP)->Nat->Option (Int×cP)
 | u::us,f::fs,k=>if u=mod then (match hI nm f with | some x=>some (((k+1:Nat):Int),x) | none=>kS mod nm us fs (k+1)) else kS mod nm us fs (k+1)
 | _,_,_=>none
def E_ (i:Nat):cP:=⟨0,0,(i:Int),[]⟩
def gI (a:hH) (mod nm:List UInt8):Option (Int×cP):=
 if mod=[] then (match idxOf nm a.aC 0 with
   | some i=>some (-1,E_ i)
   | none=>(hI nm a.own).map λx=>(0,x))
 else kS mod nm a.aA a.gC 0
def er (a b:Int):Int:=if a=0 then b else a
def nt (b:Int):er 0 b=b:=rfl
def Q0 (a:Int):er a 0=a:=by unfold er; split<;>simp_all
def Q1 (a b c:Int):er (er a b) c=er a (er b c):=by unfold er; split<;>simp_all
variable {aH bQ:Int}
def ll:er aH bQ=0↔aH=0/\bQ=0:=by unfold er; split<;>simp_all
def si (h:aH≠0):er aH bQ=aH:=by unfold er; rw [ZX h]
structure RN where
 op:Int
 n:Int
 m:Int
 pl:Int
 e:Int
def dy (a:hH) (op n:Int) (mod nm:List UInt8) (len:Nat):RN:=
 if aX op 3 5=true then (match gI a mod nm with
   | none=>⟨op,n,0,0,5⟩
   | some (m,it)=>
     if m = -1 then ⟨16,n,0,it.pl,if op=3 then 0 else 7⟩
     else if op=3/\it.kind=1 then ⟨1,it.n,0,0,0⟩
     else if op=3/\it.kind=2 then ⟨op,n,m,it.pl,0⟩
     else if op=4/\it.kind=3 then ⟨op,it.n,m,it.pl,0⟩
     else if op=5/\it.kind=4 then ⟨op,n,m,it.pl,if it.n=(len:Int) then 0 else 8⟩
     else ⟨op,n,0,0,7⟩)
 else ⟨op,n,0,0,0⟩
def dJ (a:hH) (op:Int) (mod nm:List UInt8) (len:Nat):RN:=
 if aX op 1 3=true then (match gI a mod nm with
   | none=>⟨op,0,0,0,5⟩
   | some (m,it)=>
     if op=1/\(m = -1\/it.kind=2) then ⟨op,0,m,it.pl,0⟩
     else if m = -1 then ⟨op,0,0,0,7⟩
     else if op=2/\it.kind=3 then ⟨op,it.n,m,it.pl,0⟩
     else if op=3/\it.kind=4 then ⟨op,0,m,it.pl,if it.n=(len:Int) then 0 else 8⟩
     else ⟨op,0,0,0,7⟩)
 else ⟨op,0,0,0,0⟩
mutual
def og (a:hH):bT->dr
 | .mk op n mod nm args=>.mk (dy a op n mod nm args.length).op (dy a op n mod nm args.length).n (dy a op n mod nm args.length).m (dy a op n mod nm args.length).pl (hK a args)
def hK (a:hH):List bT->List dr
 | []=>[]
 | x::r=>og a x::hK a r
end
mutual
def ka (a:hH):bT->Int
 | .mk op n mod nm args=>er (dy a op n mod nm args.length).e (ir a args)
def ir (a:hH):List bT->Int
 | []=>0
 | x::r=>er (ka a x) (ir a r)
end
mutual
def oh (a:hH):b9->c_
 | .mk op mod nm args body other=>.mk (dJ a op mod nm args.length).op (dJ a op mod nm args.length).n (dJ a op mod nm args.length).m (dJ a op mod nm args.length).pl (hK a args) (ft a body) (ft a other)
def ft (a:hH):List b9->List c_
 | []=>[]
 | x::r=>oh a x::ft a r
end
mutual
def ju (a:hH):b9->Int
 | .mk op mod nm args body other=>er (dJ a op mod nm args.length).e (er (ir a args)<|er (a7 a body)<|a7 a other)
def a7 (a:hH):List b9->Int
 | []=>0
 | x::r=>er (ju a x) (a7 a r)
end
def Fa (a:hH) (x:bT):og a x = .mk (dy a x.op x.n x.mod x.nm x.args.length).op (dy a x.op x.n x.mod x.nm x.args.length).n (dy a x.op x.n x.mod x.nm x.args.length).m (dy a x.op x.n x.mod x.nm x.args.length).pl (hK a x.args):=by
 cases x; rw [og]; rfl
def tJ (a:hH) (x:bT):ka a x=er (dy a x.op x.n x.mod x.nm x.args.length).e (ir a x.args):=by cases x; rw [ka]; rfl
def Fb (a:hH) (x:b9):oh a x = .mk (dJ a x.op x.mod x.nm x.args.length).op (dJ a x.op x.mod x.nm x.args.length).n (dJ a x.op x.mod x.nm x.args.length).m (dJ a x.op x.mod x.nm x.args.length).pl (hK a x.args) (ft a x.body) (ft a x.other):=by
 cases x; rw [oh]; rfl
def rl (a:hH) (x:b9):ju a x=er (dJ a x.op x.mod x.nm x.args.length).e (er (ir a x.args)<|er (a7 a x.body)<|a7 a x.other):=by cases x; rw [ju]; rfl
def jJ (a:hH):∀l,hK a l=l.map (og a)
 | []=>by rw [hK]; rfl
 | x::r=>by rw [hK,jJ a r]; rfl
def rm (a:hH):∀l,ft a l=l.map (oh a)
 | []=>by rw [ft]; rfl
 | x::r=>by rw [ft,rm a r]; rfl
def iY {α:Type} (f:α->Int):List α->Int
 | []=>0
 | x::r=>er (f x) (iY f r)
variable {bB:Type}
def Fc (f:bB->Int):∀a b:List bB,iY f (a++b)=er (iY f a) (iY f b)
 | [],b=>rfl
 | x::a,b=>by simp only [h5,iY,Fc f a b,Q1]
variable {b_:List bB} {Z:Nat} {gh:bB}
def Fe (f:bB->Int)    (h:b_[Z]? = some gh):iY f (b_.take<|Z+1)=er (iY f<|b_.take Z) (f gh):=by
 rw [gV,h,Fc]
 show er _ (er (f gh) 0)=_
 rw [Q0]
def yO (f:bB->Int)    (h:b_[Z]? = some gh) (a:iY f (b_.take Z)=0) (b:f gh≠0):iY f b_=f gh:=by
 have e:b_=b_.take Z++b_.drop Z:=(qg Z b_).symm;rw [e,Fc,a,nt]
 have c:b_.drop Z=gh::b_.drop (Z+1):=by
   obtain ⟨d,g⟩:=cq.1 h;rw [pt d,g]
 rw [c,iY,si b]
def Ff (a:hH):∀l,ir a l=iY (ka a) l
 | []=>by rw [ir]; rfl
 | x::r=>by rw [ir,Ff a r]; rfl
def Fg (a:hH):∀l,a7 a l=iY (ju a) l
 | []=>by rw [a7]; rfl
 | x::r=>by rw [a7,Fg a r]; rfl
def cp (m:df) (fs:List (List UInt8×List cP)) (aC:List (List UInt8)):hH:=⟨aC,fy m,m.aA,fs.map (·.2)⟩
def qu (m:df) (fs:List (List UInt8×List cP)) (p:f'):hx:=⟨(p.params.length:Int),(p.aC.length:Int),ft (cp m fs<|p.params++p.aC) p.body⟩
def pO (m:df) (fs:List (List UInt8×List cP)) (p:f'):Int:=er (if f_ (p.params++p.aC)=true then 6 else 0)<|a7 (cp m fs<|p.params++p.aC) p.body
def eB (m:df) (fs:List (List UInt8×List cP)):b8:=⟨m.nm,m.aA,mm m,m.procs.map<|qu m fs,ft (cp m fs []) m.main⟩
def mV (m:df) (fs:List (List UInt8×List cP)):Int:=er (iY (pO m fs) m.procs)<|a7 (cp m fs []) m.main
def qv:List (List UInt8)->List (List UInt8×List cP)->Bool
 | u::us,f::fs=>((pJ f.1 f.2==0)&&(f.1==u))&&qv us fs
 | _,_=>true
def eF (m:df) (fs:List (List UInt8×List cP)):b8×Int:=
 if (gy m).2≠0 then (li,(gy m).2) else if fs.length≠m.aA.length then (li,8) else if qv m.aA fs=false then (li,1)
 else if mV m fs≠0 then (li,mV m fs) else (eB m fs,0)
def je (l:List cP) (s:Nat):List (aL<|List UInt8):=match l with
 | []=>[]
 | x::r=>(x.name,.agg x.cells.toArray,s)::je r (s+1)
def hY (l:List (List UInt8)) (s:Nat):List (aL<|List UInt8):=match l with
 | []=>[]
 | x::r=>(x,.int .i64 ((s+1:Nat):Int),s)::hY r (s+1)
def Fh:∀(l:List (List UInt8)) (s:Nat),(hY l s).length=l.length
 | [],_=>rfl
 | x::r,s=>by rw [hY,gf,Fh r,gf]
def J2:∀(l:List cP) (x:cP) (s:Nat),je (l++[x]) s=je l s++[(x.name,.agg x.cells.toArray,s+l.length)]
 | [],x,s=>rfl
 | y::r,x,s=>by
   rw [h5,je,J2 r x,je,h5,gf,show s+1+r.length=s+(r.length+1) by omega]
def J3:∀(l:List (List UInt8)) (x:List UInt8) (s:Nat),hY (l++[x]) s=hY l s++[(x,.int .i64 ((s+l.length+1:Nat):Int),s+l.length)]
 | [],x,s=>rfl
 | y::r,x,s=>by
   rw [h5,hY,J3 r x,hY,h5,gf,show s+1+r.length=s+(r.length+1) by omega]
def qC (nm:List UInt8):∀(l:List cP) (s i:Nat),(dC nm (je l s) i).map (·.2)=(hI nm l).map λx=>.agg x.cells.toArray
 | [],_,_=>rfl
 | x::r,s,i=>by
   rw [je,dC,hI]
   by_cases h:x.name=nm
   · simp [h]
   · rw [ZX (by simpa using λe=>h e.symm),ZX h]
     exact qC nm r (s+1)<|i+1
def Fj (nm:List UInt8):∀(l:List (List UInt8)) (s i:Nat),(dC nm (hY l s) i).map (·.2)=(idxOf nm l s).map λk=>.int .i64 ((k+1:Nat):Int)
 | [],_,_=>rfl
 | x::r,s,i=>by
   rw [hY,dC,idxOf]
   by_cases h:x=nm
   · simp [h]
   · rw [ZX (by simpa using λe=>h e.symm),ZX h]
     exact Fj nm r (s+1)<|i+1
def J4 (nm:List UInt8) (l:List cP) (z:Value):gn nm (je l 0) z=(match hI nm l with | some x=>.agg x.cells.toArray | none=>z)/\oT nm (je l 0)=(hI nm l).isSome:=by
 have h:=qC nm l 0 0;unfold gn oT
 cases a:dC nm (je l 0) 0 with
 | none=>rw [a] at h; cases hi:hI nm l with | none=>exact ⟨rfl,rfl⟩ | some x=>rw [hi] at h; cases h
 | some r=>rw [a] at h; cases hi:hI nm l with
   | none=>rw [hi] at h; cases h
   | some x=>rw [hi] at h; simp at h; exact ⟨by simp [h],rfl⟩
def J5 (nm:List UInt8) (l:List (List UInt8)):gn nm (hY l 0) (.int .i64 0) = .int .i64 (match idxOf nm l 0 with | some k=>((k+1:Nat):Int) | none=>0):=by
 have h:=Fj nm l 0 0;unfold gn
 cases a:dC nm (hY l 0) 0 with
 | none=>rw [a] at h; cases hi:idxOf nm l 0 with | none=>rfl | some x=>rw [hi] at h; cases h
 | some r=>rw [a] at h; cases hi:idxOf nm l 0 with
   | none=>rw [hi] at h; cases h
   | some x=>rw [hi] at h; simp at h; simp [h]
variable {aU:List UInt8}
def J6:∀{l:List cP},hI aU l=none↔aU ∉ l.map (·.name)
 | []=>by simp [hI]
 | x::r=>by
   rw [hI]
   by_cases h:x.name=aU
   · simp [h]
   · rw [ZX h,J6 (l:=r)]
     simp [AE h,eq_comm,h]
def sj:∀{l:List (List UInt8)} {s:Nat},idxOf aU l s=none↔aU ∉ l
 | [],_=>by simp [idxOf]
 | x::r,s=>by
   rw [idxOf]
   by_cases h:x=aU
   · simp [h]
   · rw [ZX h,sj (l:=r)]
     simp only [ep,not_or];exact ⟨λa=>⟨λe=>h e.symm,a⟩,λa=>a.2⟩
def Q2 {l:List cP} {x:cP} (h:x.name ∉ l.map (·.name)):aan x.name (.agg x.cells.toArray) (je l 0) l.length=je (l++[x]) 0/\j7 x.name (je l 0) l.length=(l++[x]).length:=by
 have a:dC x.name (je l 0) 0=none:=by
   have:=qC x.name l 0 0;rw [J6.2 h] at this
   simpa using this
 unfold aan j7;rw [a,J2];simp
def J7 {l:List (List UInt8)} {x:List UInt8} (h:x ∉ l):aan x (.int .i64 ((l.length+1:Nat):Int)) (hY l 0) l.length=hY (l++[x]) 0/\j7 x (hY l 0) l.length=(l++[x]).length:=by
 have a:dC x (hY l 0) 0=none:=by
   have:=Fj x l 0 0;rw [sj.2 h] at this
   simpa using this
 unfold aan j7;rw [a,J3];simp
def pP:∀{l:List (List UInt8)} {s k:Nat},idxOf aU l s=some k->s<=k/\l[k-s]? = some aU
 | [],_,_,h=>by cases h
 | x::r,s,k,h=>by
   rw [idxOf] at h
   split at h
   · rename_i a; injection h with h; subst h; simp [a]
   · obtain ⟨c,b⟩:=pP h
     refine ⟨aa,?_⟩;rw [show k-s=(k-(s+1))+1 by omega]; simpa using b
variable {dG:List UInt8}
def Fk:∀{us:List (List UInt8)} {fs:List (List cP)} {s:Nat},aU ∉ us->kS aU dG us fs s=none
 | [],_,_,_=>by simp [kS]
 | u::us,[],_,_=>by simp [kS]
 | u::us,f::fs,s,h=>by
   rw [kS,ZX (λe=>h (by simp [e])),Fk (λa=>h<|dT _ a)]
def J8:∀{us:List (List UInt8)} {fs:List (List cP)} {s:Nat},us.Nodup->us.length=fs.length->
   kS aU dG us fs s=(idxOf aU us s).bind λk=>(fs[k-s]?).bind λf=>(hI dG f).map λx=>(((k+1:Nat):Int),x)
 | [],[],_,_,_=>by simp [kS,idxOf]
 | [],f::fs,_,_,h=>by simp at h
 | u::us,[],_,_,h=>by simp at h
 | u::us,f::fs,s,b,c=>by
   rw [kS,idxOf];have a:=aaG.1 b
   by_cases h:u=aU
   · rw [ZZ h,ZZ h]
     simp only [cS,yf,cm]
     cases hI dG f with
     | none=>simp only [eu]; exact Fk<|h▸a.1
     | some x=>rfl
   · rw [ZX h,ZX h,J8 a.2 (by simpa using c)]
     cases hi:idxOf aU us (s+1) with
     | none=>rfl
     | some k=>
       have:=(pP hi).1;simp only [cS];rw [show k-s=(k-(s+1))+1 by omega,lL]
end Go.Bw
end
section
namespace Go.Bw
open Go
structure ec where
 oi:Bool
 data:Int
 parts:List Int
def ec.cells (k:ec) (r:Option Addr×Nat):List Value:=[.bool k.oi,.int .i64 k.data,.slice r.1 k.parts.length r.2]
def g5 (x:Int):List Value:=[.int .i64 x]
def kb (x:Int):(g5 x).length=1:=rfl
def Q3 (x:Int):(g5 x).all (·.oneCell')=true:=rfl
def hy (a:View) (b o:Nat) (x:Int):Prop:=ar a b o<|g5 x
def o3 (a:View) (b o:Nat) (k:ec):Prop:=∃r:Option Addr×Nat,ar a b o (k.cells r)/\Sl hy 1 a r.1 r.2 k.parts
def aE (u:b8):ec:=⟨true,u.data,u.parts.map (·.params)⟩
def lS:ec:=⟨false,0,[]⟩
def mu (ks:List ec) (m pl:Int):Bool:=((decide (m<0)||decide ((ks.length:Int)<=m))||decide (pl<0))||decide (512<pl)
def jv (ks:List ec) (m pl n:Int):Bool:=if mu ks m pl=true then false else match ks[m.toNat]? with
 | some k=>if k.oi=true then decide (pl+n<=k.data) else n==1||decide (pl+n<=512)
 | none=>false
def mW (ks:List ec) (m pl:Int):Bool:=(decide (m<0)||decide ((ks.length:Int)<=m))||decide (pl<0)
def jf (ks:List ec) (m pl n:Int):Bool:=if mW ks m pl=true then false else match ks[m.toNat]? with
 | some k=>if k.oi=true then decide (pl<(k.parts.length:Int))&&(k.parts[pl.toNat]?).getD 0==n else decide (pl<6)&&decide (n<=3)
 | none=>false
def qw (aC pl:Int):Bool:=decide (0<=pl)&&decide (pl<aC)
def qx (n:Int):Bool:=decide (1<=n)&&decide (n<=32)
variable {cr:List ec} {aH bQ:Int}
def yP (n:Int) (h:mu cr aH bQ=true):jv cr aH bQ n=false:=by rw [jv,ZZ h]
def yQ (h:mu cr aH bQ=false):(∃a:Nat,aH=a/\a<cr.length)/\0<=bQ/\bQ<=512:=by
 unfold mu at h;simp only [i9,aad] at h;exact ⟨⟨aH.toNat,aa,aa⟩,aa,aa⟩
variable {Z:Nat}
def tK {pl n:Int} {k:ec} (h:mu cr Z pl=false) (a:cr[Z]? = some k):jv cr Z pl n=if k.oi=true then decide (pl+n<=k.data) else n==1||decide (pl+n<=512):=by
 rw [jv,ZX (by rw [h]; decide),i',a]
def BP (n:Int) (h:mW cr aH bQ=true):jf cr aH bQ n=false:=by rw [jf,ZZ h]
def BQ (h:mW cr aH bQ=false):(∃a:Nat,aH=a/\a<cr.length)/\∃p:Nat,bQ=p:=by
 unfold mW at h;simp only [i9,aad] at h;exact ⟨⟨aH.toNat,aa,aa⟩,bQ.toNat,aa⟩
def sk {pl n:Int} {k:ec} (h:mW cr Z pl=false) (a:cr[Z]? = some k):jf cr Z pl n=if k.oi=true then decide (pl<(k.parts.length:Int))&&(k.parts[pl.toNat]?).getD 0==n else decide (pl<6)&&decide (n<=3):=by
 rw [jf,ZX (by rw [h]; decide),i',a]
def node1 (ks:List ec) (aC op n m pl:Int) (len:Nat):Bool:=
 if op=1 then ((((m==0)&&(pl==0))&&((len:Int)==0))&&decide (0<=n))&&decide (n<=1099511627775)
 else if op=3 then ((n==0)&&((len:Int)==0))&&jv ks m pl 1
 else if op=4 then (qx n&&((len:Int)==1))&&jv ks m pl n
 else if op=5 then (n==0)&&jf ks m pl len
 else if op=16 then (((m==0)&&(n==0))&&((len:Int)==0))&&qw aC pl
 else if op=2 then (((m==0)&&(pl==0))&&(n==0))&&((len:Int)==0)
 else if op=6 then (((m==0)&&(pl==0))&&(n==0))&&((len:Int)==1)
 else if 7<=op/\op<=15 then (((m==0)&&(pl==0))&&(n==0))&&((len:Int)==2)
 else false
def aW (ks:List ec) (aC op n m pl:Int) (na b a:Nat):Bool:=
 if op=1 then (((((b:Int)+a==0)&&((na:Int)==1))&&(n==0))&&(((m==-1)&&qw aC pl)||jv ks m pl 1))
 else if op=2 then (((((b:Int)+a==0)&&((na:Int)==2))&&qx n)&&jv ks m pl n)
 else if op=3 then ((((b:Int)+a==0)&&(n==0))&&jf ks m pl na)
 else if op=4 then (((m==0)&&(pl==0))&&(n==0))&&((na:Int)==1)
 else if op=5 then ((((m==0)&&(pl==0))&&(n==0))&&((na:Int)==1))&&((a:Int)==0)
 else if op=6\/op=7 then ((((m==0)&&(pl==0))&&(n==0))&&((b:Int)+a==0))&&((na:Int)==1)
 else false
mutual
def jg (ks:List ec) (aC:Int):dr->Nat->Bool
 | .mk op n m pl args,d=>decide (d<=6)&&(node1 ks aC op n m pl args.length&&gA ks aC args (d+1))
def gA (ks:List ec) (aC:Int):List dr->Nat->Bool
 | [],_=>true
 | x::r,d=>jg ks aC x d&&gA ks aC r d
end
def Fl (ks:List ec) (aC:Int) (x:dr) (d:Nat):jg ks aC x d=(decide (d<=6)&&(node1 ks aC x.op x.n x.m x.pl x.args.length&&gA ks aC x.args (d+1))):=by cases x; rw [jg]; rfl
def yR (ks:List ec) (aC:Int) (d:Nat):∀l,gA ks aC l d=l.all (jg ks aC · d)
 | []=>by rw [gA]; rfl
 | x::r=>by rw [gA,yR ks aC d r]; rfl
def qy (op:Int):Bool:=(op==4)||(op==5)
mutual
def jN (ks:List ec) (aC:Int):c_->Nat->Bool
 | .mk op n m pl args body other,d=>aW ks aC op n m pl args.length body.length other.length&&(gA ks aC args 1&&((!(qy op)||(decide (d+1<=6)&&(decide (body.length<=10)&&a9 ks aC body (d+1))))&&(!(decide<|0<other.length)||(decide (d+1<=6)&&(decide (other.length<=10)&&a9 ks aC other (d+1))))))
def a9 (ks:List ec) (aC:Int):List c_->Nat->Bool
 | [],_=>true
 | x::r,d=>jN ks aC x d&&a9 ks aC r d
end
def gO (ks:List ec) (aC:Int) (l:List c_) (d:Nat):Bool:=decide (d<=6)&&(decide (l.length<=10)&&a9 ks aC l d)
def qF (ks:List ec) (aC:Int) (x:c_) (d:Nat):jN ks aC x d=(aW ks aC x.op x.n x.m x.pl x.args.length x.body.length x.other.length&&(gA ks aC x.args 1&&((!(qy x.op)||gO ks aC x.body (d+1))&&(!(decide<|0<x.other.length)||gO ks aC x.other (d+1))))):=by cases x; rw [jN]; rfl
def BR (ks:List ec) (aC:Int) (d:Nat):∀l,a9 ks aC l d=l.all (jN ks aC · d)
 | []=>by rw [a9]; rfl
 | x::r=>by rw [a9,BR ks aC d r]; rfl
def Q4 (ks:List ec) (aC:Int) (x:dr) (d:Nat):((decide (6<(d:Int))||!(node1 ks aC x.op x.n x.m x.pl x.args.length))||!(gA ks aC x.args<|d+1)) = !(jg ks aC x d):=by
 rw [Fl,show decide (6<(d:Int)) = !(decide<|d<=6) by rw [kr]; simp; omega]
 cases decide (d<=6)<;>cases node1 ks aC x.op x.n x.m x.pl x.args.length<;>cases gA ks aC x.args (d+1)<;>rfl
def Q5 (ks:List ec) (aC:Int) (x:c_) (d:Nat):(((!(aW ks aC x.op x.n x.m x.pl x.args.length x.body.length x.other.length)||!(gA ks aC x.args 1))||(((x.op==4)||(x.op==5))&&!(gO ks aC x.body<|d+1)))||(decide (0<(x.other.length:Int))&&!(gO ks aC x.other<|d+1))) = !(jN ks aC x d):=by
 rw [qF,show decide (0<(x.other.length:Int))=decide (0<x.other.length) by rw [kr]; simp];unfold qy
 cases aW ks aC x.op x.n x.m x.pl x.args.length x.body.length x.other.length<;>cases gA ks aC x.args 1<;>cases ((x.op==4)||(x.op==5))<;>cases gO ks aC x.body (d+1)<;>cases decide (0<x.other.length)<;>cases gO ks aC x.other (d+1)<;>rfl
def Q6 (ks:List ec) (aC:Int) (l:List c_) (d:Nat):(decide (6<(d:Int))||decide (10<(l.length:Int)))=true->gO ks aC l d=false:=by
 intro h;unfold gO
 have b:¬(d<=6/\l.length<=10):=by simp at h; omega
 by_cases a:d<=6
 · rw [aaf (by omega:¬l.length<=10)]; simp
 · rw [aaf a]; simp
variable {iK:List c_}
def Q7 {d:Nat} (h:(decide (6<(d:Int))||decide (10<(iK.length:Int)))=false):d<=6/\iK.length<=10:=by simp at h; omega
def J9 (ks:List ec) (aC:Int)   (h:Z<=6/\iK.length<=10):gO ks aC iK Z=iK.all (jN ks aC · Z):=by
 unfold gO; rw [aaa h.1,aaa h.2,BR]; rfl
variable {bB:Type} {b_:List bB} {gh:bB}
def w2 {f:bB->Bool}    (h:b_[Z]? = some gh) (a:f gh=false):b_.all f=false:=by
 cases b:b_.all f with
 | false=>rfl
 | true=>rw [gN.1 b gh (az h)] at a; cases a
def w3 {f:bB->Bool}    (h:b_[Z]? = some gh) (a:(b_.take Z).all f=true) (b:f gh=true):(b_.take<|Z+1).all f=true:=by
 rw [gV,h,List.all_append,a];simp [b]
def lm (ks:List ec) (p:hx):Bool:=!(((decide (p.params<0)||decide (3<p.params))||decide (p.locals<0))||decide (4<p.locals))&&gO ks (p.params+p.locals) p.body 1
def qz (nm:List UInt8) (us:List (List UInt8)):Bool:=!(f_<|nm::us)&&us.all gi
def cJ (u:b8):Bool:=(((!(gi u.nm)||decide (3<(u.aA.length:Int)))||decide (u.data<0))||decide (512<u.data))||decide (6<(u.parts.length:Int))
def ig (u:b8) (kn:List ec):Bool:=qz u.nm u.aA&&(!(cJ u)&&(u.parts.all (lm<|aE u::kn)&&gO (aE u::kn) 0 u.main 1))
def eS (l:List b8):List (List UInt8):=l.map (·.nm)
def rn (l:List b8):Bool:=(List.range l.length).all λn=>((l[n]?.map (·.aA)).getD []).all λs=>((eS l).take n).contains s
def lT:List b8->Int->Bool
 | [],_=>true
 | u::r,room=>!(decide (u.data<0)||decide (room<u.data))&&lT r (room-u.data)
def fd (l:List b8) (u:b8):List ec:=u.aA.map λs=>match idxOf s (eS l) 0 with
 | some i=>(l[i]?.map aE).getD lS
 | none=>lS
def jO (l:List b8):Int:=
 if (decide ((l.length:Int)<1)||decide (4<(l.length:Int)))=true then 2 else if rn l=false then 9 else if f_ (eS l)=true then 6
 else if lT l 512=false then 1 else if (l.all λu=>ig u<|fd l u)=true then 0 else 1
end Go.Bw
end
section
namespace Go.Bw
open Go
def J' (x y:List UInt8):Bool:=Op.bytesLess x y
def oj (l:List df):List (List UInt8):=l.map (·.nm)
def ro (l:List df) (s:List UInt8):Option Nat:=idxOf s (oj l) 0
def lU (l:List df) (i:Nat):List UInt8:=(l[i]?.map (·.nm)).getD []
def rp (l:List df) (i:Nat):List (List UInt8):=(l[i]?.map (·.aA)).getD []
structure Fo (l:List df):Prop where
 e8:l.length<=4
 vi:∀m ∈ l,ku m=0
 nd:(oj l).Nodup
 aA:∀m ∈ l,∀s ∈ m.aA,∃j,ro l s=some j
variable {bB:Type}
def BS {f:bB->Int}:∀{l:List bB},iY f l=0↔∀x ∈ l,f x=0
 | []=>by simp [iY]
 | x::l=>by rw [iY,ll,BS (l:=l)]; simp
variable {dg:List df} {aU:List UInt8} {Z:Nat}
def J_ (h:ro dg aU=some Z):Z<dg.length/\lU dg Z=aU:=by
 have a:=(pP h).2;rw [nX] at a;unfold oj at a;rw [e4] at a;obtain ⟨m,b,e⟩:=dS.1 a;exact ⟨(cq.1 b).1,by rw [lU,b]; exact e⟩
variable {bP:df}
def yS (h:dg[Z]? = some bP):lU dg Z=bP.nm:=by rw [lU,h]; rfl
def Q8 (h:dg[Z]? = some bP):rp dg Z=bP.aA:=by rw [rp,h]; rfl
def yT (h:dg[Z]? = some bP):(oj dg)[Z]? = some bP.nm:=by unfold oj; rw [e4,h]; rfl
def BU (l:List df):(oj l).length=l.length:=by simp [oj]
def Ka (b:(oj dg).Nodup) {i j:Nat} (hi:i<dg.length) (a:j<dg.length) (h:lU dg i=lU dg j):i=j:=by
 have e:(oj dg)[i]? = (oj dg)[j]?:=by
   rw [yT (c6 hi),yT (c6 a),<-yS (c6 hi),<-yS (c6 a),h]
 exact (e5 (by rw [BU]; exact hi) b).1 e
def Q9 (b:(oj dg).Nodup) {i:Nat} (hi:i<dg.length):ro dg (lU dg i)=some i:=by
 cases a:ro dg (lU dg i) with
 | none=>
   refine absurd ?_<|sj.1 a;rw [yS (c6 hi)];exact az<|yT<|c6 hi
 | some j=>
   obtain ⟨c,d⟩:=J_ a;rw [Ka b c hi d]
def BV (l:List df) (d:List Nat) (s:List UInt8):Bool:=match ro l s with | some j=>d.contains j | none=>false
def yU (l:List df) (d:List Nat) (i:Nat):Bool:=!d.contains i&&(rp l i).all (BV l d)
structure Q' (l:List df) (d:List Nat) (b:Nat):Prop where
 lt:b<l.length
 ready:yU l d b=true
 least:∀i,i<l.length->yU l d i=true->i=b\/J' (lU l b) (lU l i)=true
inductive Fp (l:List df):List Nat->Prop where
 | nil:Fp l []
 | snoc {d:List Nat} {b:Nat}:Fp l d->Q' l d b->Fp l (d++[b])
def tL (l:List df) (s:List UInt8):List (List UInt8):=match ro l s with | some i=>rp l i | none=>[]
inductive Reach (l:List df) (a:List UInt8):List UInt8->Prop where
 | base {s:List UInt8}:s ∈ tL l a->Reach l a s
 | step {b s:List UInt8}:Reach l a b->s ∈ tL l b->Reach l a s
structure Fq (l:List df) (a:List UInt8) (S:List UInt8->Prop):Prop where
 base:∀s ∈ tL l a,S s
 step:∀b,S b->∀s ∈ tL l b,S s
 sound:∀s,S s->Reach l a s
def Fq.iff {S:List UInt8->Prop} (h:Fq dg aU S) (s:List UInt8):S s↔Reach dg aU s:=
 ⟨h.sound s,λb=>by
   induction b with
   | base a=>exact h.base _ a
   | step _ a c=>exact h.step _ c _ a⟩
def kT (l:List (List UInt8)) (s:Nat):List (aL<|List UInt8):=match l with
 | []=>[]
 | x::r=>(x,.int .i64 (s:Int),s)::kT r (s+1)
def Kb:∀(l:List (List UInt8)) (x:List UInt8) (s:Nat),kT (l++[x]) s=kT l s++[(x,.int .i64 ((s+l.length:Nat):Int),s+l.length)]
 | [],x,s=>rfl
 | y::r,x,s=>by
   rw [h5,kT,Kb r x,kT,h5,gf,show s+1+r.length=s+(r.length+1) by omega]
def Fs (nm:List UInt8):∀(l:List (List UInt8)) (s i:Nat),(dC nm (kT l s) i).map (·.2)=(idxOf nm l s).map λk=>.int .i64 (k:Int)
 | [],_,_=>rfl
 | x::r,s,i=>by
   rw [kT,dC,idxOf]
   by_cases h:x=nm
   · simp [h]
   · rw [ZX (by simpa using λe=>h e.symm),ZX h]
     exact Fs nm r (s+1)<|i+1
def Ft (nm:List UInt8) (l:List (List UInt8)):gn nm (kT l 0) (.int .i64 0) = .int .i64 (((idxOf nm l 0).getD 0:Nat):Int)/\oT nm (kT l 0)=(idxOf nm l 0).isSome:=by
 have h:=Fs nm l 0 0;unfold gn oT
 cases a:dC nm (kT l 0) 0 with
 | none=>rw [a] at h; cases hi:idxOf nm l 0 with | none=>exact ⟨rfl,rfl⟩ | some x=>rw [hi] at h; cases h
 | some r=>rw [a] at h; cases hi:idxOf nm l 0 with
   | none=>rw [hi] at h; cases h
   | some x=>rw [hi] at h; simp at h; exact ⟨by simp [h],rfl⟩
def Kc [BEq bB] (k:bB) (v:Value) (m:List (aL bB)) (c:Nat):(aan k v m c).length<=m.length+1:=by
 unfold aan
 split<;>simp
end Go.Bw
end
section
namespace Go.Bw
open Go
def Q_ {α:Type} (R:α->α->Prop) (d:List α) (i:Nat):Prop:=∀(x y:Nat) (a b:α),x<y->y<i->d[x]? = some a->d[y]? = some b->R a b
structure ZB {α:Type} (R:α->α->Prop) (d0 d:List α) (i j:Nat):Prop where
 perm:d.Perm d0
 ji:j<=i
 il:i<d.length
 ord:∀(x y:Nat) (a b:α),x<y->y<=i->x≠j->y≠j->d[x]? = some a->d[y]? = some b->R a b
 up:∀(y:Nat) (a b:α),j<y->y<=i->d[j]? = some a->d[y]? = some b->R a b
end Go.Bw
end
section
namespace Go.Bw
open Go Go.RowKit Go.Maps Go.Sort
open Go.WideElems (Fit rd rg pl rd_val rd_mk rg_of)
structure ZD (M:List (aL<|List UInt8)) (c:Nat):Prop where
 nd:(M.map (·.1)).Nodup
 len:∀e ∈ M,e.1.length<=maxLen
 size:M.length<=maxLen
 born:M.map (·.2.2)=List.range M.length
 clock:c=M.length
end Go.Bw
end
section
namespace Go.Bw
open Go
section
variable {κ:Type} [BEq κ] [LawfulBEq κ]
def BW (k:κ):∀(m:List (aL κ)) (i j:Nat) (v:Value),dC k m i=some (j,v)->i<=j/\∃b,m[j-i]? = some (k,v,b)
 | [],i,j,v,h=>by simp [dC] at h
 | e::r,i,j,v,h=>by
   simp only [dC] at h
   split at h
   · rename_i d
     have f:e.1=k:=(eq_of_beq d).symm
     injection h with h
     injection h with c a
     subst c a;exact ⟨cQ _,e.2.2,by rw [yf,cm,<-f]⟩
   · obtain ⟨c,b,a⟩:=BW k r (i+1) j v h
     refine ⟨aa,b,?_⟩;rw [show j-i=(j-(i+1))+1 by omega,lL];exact a
def Kd (k:κ):∀(m:List (aL κ)) (i:Nat),dC k m i=none↔k ∉ m.map (·.1)
 | [],i=>by simp [dC]
 | e::r,i=>by
   simp only [dC,k_,ep,not_or]
   split
   · rename_i a
     have b:e.1=k:=(eq_of_beq a).symm;exact ⟨λh=>(by cases h),λh=>absurd b.symm h.1⟩
   · rename_i a
     have b:¬k=e.1:=λc=>a (by simp [c]);rw [Kd k r (i+1)];exact ⟨λh=>⟨b,h⟩,λh=>h.2⟩
def Rb (k:κ) (v:Value) (m:List (aL κ)) (c:Nat):((k ∈ m.map (·.1))/\(aan k v m c).map (·.1)=m.map (·.1)/\(aan k v m c).map (·.2.2)=m.map (·.2.2)/\j7 k m c=c)\/
   (k ∉ m.map (·.1)/\aan k v m c=m++[(k,v,c)]/\j7 k m c=c+1):=by
 unfold aan j7
 cases d:dC k m 0 with
 | none=>exact .inr ⟨(Kd k m 0).1 d,rfl,rfl⟩
 | some r=>
   obtain ⟨j,u⟩:=r;obtain ⟨_,b,a⟩:=BW k m 0 j u d;rw [nX] at a;refine .inl ⟨q6.2 ⟨_,az a,O⟩,?_,?_,O⟩
   all_goals
     apply r0;intro i;simp only [e4,eX]
     by_cases e:j=i
     · subst e; rw [a]; simp
     · simp [e]
def iO (k:κ) (v:Value) (m:List (aL κ)) (c:Nat) (z:Value):gn k (aan k v m c) z=v:=by
 have key:∃e,dC k (aan k v m c) 0=some (e,v):=by
   unfold aan
   cases f:dC k m 0 with
   | none=>
     have a:∀(m:List (aL κ)) (i:Nat),dC k m i=none->dC k (m++[(k,v,c)]) i=some (i+m.length,v):=by
       intro m
       induction m with
       | nil=>intro i _; simp [dC]
       | cons e r d=>
         intro i h;simp only [dC,h5] at h ⊢
         split at h
         · cases h
         · rename_i b
           rw [ZX b,d _ h,gf]
           congr 2
           omega
     exact ⟨_,a m 0 f⟩
   | some r=>
     obtain ⟨j,u⟩:=r
     have a:∀(m:List (aL κ)) (i:Nat),dC k m i=some (j,u)->dC k (m.modify (j-i) λe=>(k,v,e.2.2)) i=some (j,v):=by
       intro m
       induction m with
       | nil=>intro i h; simp [dC] at h
       | cons e r d=>
         intro i h;simp only [dC] at h
         split at h
         · injection h with h
           injection h with a g
           subst a;rw [yf];simp [dC]
         · rename_i b
           have l:=(BW k r (i+1) j u h).1;rw [show j-i=(j-(i+1))+1 by omega,H5,dC,ZX b];exact d _ h
     exact ⟨_,a m 0 f⟩
 obtain ⟨e,b⟩:=key;unfold gn;rw [b]
end
structure Fu (M:List (aL<|List UInt8)) (c p:Nat):Prop where
 nd:(M.map (·.1)).Nodup
 born:M.map (·.2.2)=List.range M.length
 clock:c=M.length
 fg:∀x v,gn x M (.int .i64 0)=v->∃n:Nat,n<=p/\v = .int .i64 (n:Int)/\(n=0↔x ∉ M.map (·.1))
def yV {κ:Type} [BEq κ] [LawfulBEq κ] {k a:κ} (v:Value) (m:List (aL κ)) (c:Nat) (z:Value) (h:a≠k):gn a (aan k v m c) z=gn a m z:=by
 have o:∀(m:List (aL κ)) (i:Nat),(dC a (m++[(k,v,c)]) i).map (·.2)=(dC a m i).map (·.2):=by
   intro m
   induction m with
   | nil=>intro i; simp [dC,h]
   | cons e r l=>intro i; simp only [dC,h5]; split<;>simp [l]
 have p:∀(m:List (aL κ)) (i j:Nat),(m[j]?.map (·.1)=some k)->(dC a (m.modify j λe=>(k,v,e.2.2)) i).map (·.2)=(dC a m i).map (·.2):=by
   intro m
   induction m with
   | nil=>intro i j g; simp at g
   | cons e r l=>
     intro i j g
     cases j with
     | zero=>
       have s:e.1=k:=by simpa using g
       have t:¬(a==e.1)=true:=by rw [s]; simpa using h
       have w:¬(a==k)=true:=by simpa using h
       rw [List.modify_zero_cons,dC,dC,ZX t,ZX (show ¬(a==(k,v,e.2.2).1)=true from w)]
     | succ j=>
       rw [H5,dC,dC]
       split
       · rfl
       · exact l _ _ (by simpa using g)
 have d:(dC a (aan k v m c) 0).map (·.2)=(dC a m 0).map (·.2):=by
   unfold aan
   cases x:dC k m 0 with
   | none=>exact o m 0
   | some r=>
     obtain ⟨j,u⟩:=r;obtain ⟨_,b,f⟩:=BW k m 0 j u x;rw [nX] at f;exact p m 0 j (by rw [f]; rfl)
 unfold gn
 cases n:dC a (aan k v m c) 0 with
 | none=>rw [n] at d; cases f:dC a m 0 with | none=>rfl | some r=>rw [f] at d; cases d
 | some q=>rw [n] at d; cases f:dC a m 0 with
   | none=>rw [f] at d; cases d
   | some r=>rw [f] at d; simp at d; simp [d]
variable {aU:List UInt8}
def Fu.put {M:List (aL<|List UInt8)} {c p n:Nat}  (h:Fu M c p) (w:n<=p) (j:n=0↔aU ∉ M.map (·.1)) :
   Fu (aan aU (.int .i64 ((n+1:Nat):Int)) M c) (j7 aU M c) (p+1)/\(aan aU (.int .i64 ((n+1:Nat):Int)) M c).map (·.1)=(if n=0 then M.map (·.1)++[aU] else M.map (·.1)):=by
 have i:∀y v,gn y (aan aU (.int .i64 ((n+1:Nat):Int)) M c) (.int .i64 0)=v->∃k:Nat,k<=p+1/\v = .int .i64 (k:Int)/\(k=0↔y ∉ (if n=0 then M.map (·.1)++[aU] else M.map (·.1))):=by
   intro y v hv
   by_cases l:y=aU
   · subst l
     rw [iO] at hv;refine ⟨n+1,aa,hv.symm,?_⟩
     split
     · simp
     · rename_i m
       exact ⟨λh=>by omega,λd=>absurd (j.2 d) m⟩
   · rw [yV _ _ _ _ l] at hv
     obtain ⟨k,f,d,g⟩:=h.fg y v hv;refine ⟨k,aa,d,g.trans ?_⟩
     split
     · simp [l]
     · rfl
 rcases Rb aU (.int .i64 ((n+1:Nat):Int)) M c with ⟨f,d,g,s⟩ | ⟨f,d,g⟩
 · have m:¬n=0:=λe=>j.1 e f
   rw [ZX m] at i ⊢
   have q:(aan aU (.int .i64 ((n+1:Nat):Int)) M c).length=M.length:=by have:=congrArg List.length d; simpa using this
   exact ⟨⟨by rw [d]; exact h.nd,by rw [g,q]; exact h.born,by rw [s,q]; exact h.clock,λy v hv=>by rw [d]; exact i y v hv⟩,d⟩
 · have t:n=0:=j.2 f
   rw [ZZ t] at i ⊢
   have o:(aan aU (.int .i64 ((n+1:Nat):Int)) M c).map (·.1)=M.map (·.1)++[aU]:=by rw [d]; simp
   refine ⟨⟨?_,?_,?_,λy v hv=>by rw [o]; exact i y v hv⟩,o⟩
   · rw [o,lI]
     exact ⟨h.nd,ai,λa u b r e=>by rw [gU] at r; subst r; subst e; exact f u⟩
   · rw [d,qi,h.born,jE,yg,H6,h.clock]; rfl
   · rw [g,d,h.clock]; simp
structure gH (l:List df) (nm:List UInt8) (ds nx:List (List UInt8)):Prop where
 base:∀s ∈ tL l nm,s ∈ ds\/s ∈ nx
 step:∀b ∈ ds,∀s ∈ tL l b,s ∈ ds\/s ∈ nx
 sound:∀s,s ∈ ds\/s ∈ nx->Reach l nm s
variable {dg:List df} {dG:List UInt8} {cw gL:List (List UInt8)}
def gH.old (h:gH dg aU cw (dG::gL)) (c:dG ∈ cw):gH dg aU cw gL:=by
 have key:∀s,s ∈ cw\/s ∈ dG::gL->s ∈ cw\/s ∈ gL:=λs a=>by
   rcases a with a | a
   · exact .inl a
   · rcases ep.1 a with e | a
     · subst e; exact .inl c
     · exact .inr a
 exact ⟨λs a=>key s<|h.base s a,λb d s a=>key s<|h.step b d s a,λs a=>h.sound s<|a.imp id<|dT _⟩
def gH.new (h:gH dg aU cw (dG::gL)):gH dg aU (cw++[dG]) (gL++tL dg dG):=by
 have key:∀s,s ∈ cw\/s ∈ dG::gL->s ∈ cw++[dG]\/s ∈ gL++tL dg dG:=λs a=>by
   rcases a with a | a
   · exact .inl<|wu _ a
   · rcases ep.1 a with e | a
     · subst e; exact .inl ai
     · exact .inr<|wu _ a
 refine ⟨λs a=>key s<|h.base s a,λb c s a=>?_,λs a=>?_⟩
 · rcases ge.1 c with c | c
   · exact key s<|h.step b c s a
   · rw [gU] at c; subst c
     exact .inr<|qh _ a
 · rcases a with a | a
   · rcases ge.1 a with a | a
     · exact h.sound s<|.inl a
     · rw [gU] at a; subst a
       exact h.sound _<|.inr ai
   · rcases ge.1 a with a | a
     · exact h.sound s<|.inr<|dT _ a
     · exact .step (h.sound dG<|.inr ai) a
def gH.fin (h:gH dg aU cw []) (s:List UInt8):s ∈ cw↔Reach dg aU s:=
 Fq.iff (S:=λs=>s ∈ cw) ⟨λs a=>(h.base s a).resolve_right ai,λb c s a=>(h.step b c s a).resolve_right ai,λs a=>h.sound s<|.inl a⟩ s
end Go.Bw
end
section
namespace Go.Bw
open Go
def cK (l:List (List UInt8)) (s:Nat):List (aL<|List UInt8):=match l with
 | []=>[]
 | x::r=>(x,.int .i64 1,s)::cK r (s+1)
def Ke:∀(l:List (List UInt8)) (x:List UInt8) (s:Nat),cK (l++[x]) s=cK l s++[(x,.int .i64 1,s+l.length)]
 | [],x,s=>rfl
 | y::r,x,s=>by
   rw [h5,cK,Ke r x,cK,h5,gf,show s+1+r.length=s+(r.length+1) by omega]
def Fw (nm:List UInt8):∀(l:List (List UInt8)) (s i:Nat),(dC nm (cK l s) i).map (·.2)=if l.contains nm=true then some (.int .i64 1) else none
 | [],_,_=>rfl
 | x::r,s,i=>by
   rw [cK,dC]
   by_cases h:x=nm
   · subst h; simp
   · rw [ZX (by simpa using λe=>h e.symm),Fw nm r (s+1) (i+1)]
     have a:¬nm=x:=λe=>h e.symm;simp [a]
def Rc (nm:List UInt8) (l:List (List UInt8)):gn nm (cK l 0) (.int .i64 0) = .int .i64 (if l.contains nm=true then 1 else 0):=by
 have h:=Fw nm l 0 0;unfold gn
 cases a:dC nm (cK l 0) 0 with
 | none=>rw [a] at h; split at h<;>simp_all
 | some r=>rw [a] at h; split at h<;>simp_all
variable {aU:List UInt8} {cw:List (List UInt8)}
def Kf (h:cw.contains aU=false):aan aU (.int .i64 1) (cK cw 0) cw.length=cK (cw++[aU]) 0/\j7 aU (cK cw 0) cw.length=(cw++[aU]).length:=by
 have a:=Fw aU cw 0 0;rw [ZX (by rw [h]; decide)] at a
 have b:dC aU (cK cw 0) 0=none:=by cases c:dC aU (cK cw 0) 0 with | none=>rfl | some r=>rw [c] at a; cases a
 unfold aan j7;rw [b,Ke];simp
structure sm (ns:List (List UInt8)) (i:Nat) (M:List (aL<|List UInt8)) (c:Nat):Prop where
 mem:∀s,∃v:Nat,gn s M (.int .i64 0) = .int .i64 (v:Int)/\(v=0↔s ∉ ns.take i)
 yH:((ns.take i).Nodup/\M=hY (ns.take i) 0/\c=i)\/(¬(ns.take i).Nodup/\M.length<i)
def Rd (ns:List (List UInt8)):sm ns 0 [] 0:=⟨λs=>⟨0,rfl,ai⟩,.inl ⟨ai,rfl,rfl⟩⟩
variable {Z aw:Nat} {iL:List (aL<|List UInt8)}
def sm.old (h:sm cw Z iL aw) (c:cw[Z]? = some aU) (d:aU ∈ cw.take Z):sm cw (Z+1) iL aw:=by
 have e:cw.take (Z+1)=cw.take Z++[aU]:=by rw [gV,c]; rfl
 refine ⟨λs=>?_,.inr ⟨λf=>?_,?_⟩⟩
 · obtain ⟨v,g,i⟩:=h.mem s
   refine ⟨v,g,i.trans ?_⟩;rw [e,ge,gU]
   constructor
   · rintro a (b | b)
     · exact a b
     · subst b; exact a d
   · exact λa b=>a<|.inl b
 · rw [e,lI] at f
   exact f.2.2 aU d aU ai O
 · have j:=(cq.1 c).1
   rcases h.yH with ⟨_,rfl,_⟩ | ⟨_,a⟩
   · rw [Fh]; simp; omega
   · omega
def sm.new (h:sm cw Z iL aw) (g:cw[Z]? = some aU) (i:aU ∉ cw.take Z):sm cw (Z+1) (aan aU (.int .i64 ((Z+1:Nat):Int)) iL aw) (j7 aU iL aw):=by
 have c:cw.take (Z+1)=cw.take Z++[aU]:=by rw [gV,g]; rfl
 have p:=(cq.1 g).1
 have m:(cw.take Z).length=Z:=by simp; omega
 refine ⟨λs=>?_,?_⟩
 · by_cases e:s=aU
   · subst e
     exact ⟨Z+1,iO s _ iL aw _,by rw [c]; simp⟩
   · obtain ⟨v,d,n⟩:=h.mem s
     refine ⟨v,by rw [yV _ iL aw _ e]; exact d,n.trans ?_⟩;rw [c]; simp [e]
 · rcases h.yH with ⟨d,rfl,rfl⟩ | ⟨d,q⟩
   · left
     have f:=J7 (l:=cw.take aw) (x:=aU) i;rw [m] at f;refine ⟨?_,by rw [f.1,c],by rw [f.2]; simp; omega⟩;rw [c,lI];refine ⟨d,ai,λa o b j e=>?_⟩;rw [gU] at j; subst j; subst e; exact i o
   · right
     refine ⟨λk=>d ?_,?_⟩
     · rw [c,lI] at k; exact k.1
     · have:=Kc aU (.int .i64 ((Z+1:Nat):Int)) iL aw
       omega
def Re {nm s:List UInt8}   (h:cw[Z]? = some s) (a:(nm::cw.take Z).contains s=true\/gi s=false):qz nm cw=false:=by
 unfold qz
 rcases a with a | a
 · have c:f_ (nm::cw)=true:=by
     have b:¬(nm::cw).Nodup:=λb=>by
       have e:nm::cw=(nm::cw.take Z)++cw.drop Z:=ai
       rw [e,lI] at b;refine b.2.2 s (by simpa using a) s ?_ O
       have:cw.drop Z=s::cw.drop (Z+1):=by
         rw [pt (cq.1 h).1,(cq.1 h).2]
       rw [this]; simp
     rw [j_] at b
     simpa using b
   rw [c]; rfl
 · rw [w2 h a]; simp
def Kg (a:(aU::cw).Nodup) (b:cw.all gi=true):qz aU cw=true:=by
 unfold qz; rw [j_.1 a,b]; rfl
end Go.Bw
end
section
namespace Go.Bw
open Go
structure Wm where
 data:List Int
 bg:List Int
 out:List Int
 aM:Nat
 calls:Nat
inductive Rz (σ α:Type) where
 | ok (a:α) (s:σ)
 | ov (e:Int) (w:Wm)
def Rz.bind {b α β:Type} (r:Rz b α) (f:α->b->Rz b β):Rz b β:=match r with
 | .ok a s=>f a s
 | .ov e w=>.ov e w
structure Fm where
 loc:List Int
 val:Int
 w:Wm
structure Env where
 l:List b8
 aA:List (List Nat)
 qA:List Nat
 aD:Nat
def Env.mod (P:Env) (u:Nat) (m:Int):Nat:=(((P.aA[u]?).getD [])[m.toNat]?).getD 0
def Env.at_ (P:Env) (u:Nat) (m pl:Int):Nat:=(P.qA[P.mod u m]?).getD 0+pl.toNat
def o4 (l:List Int) (i:Nat):Int:=(l[i]?).getD 0
def bH (b:Bool):Int:=if b=true then 1 else 0
def ky (P:Env) (w:Wm):Rz Wm Unit:=if w.aM=P.aD then .ov 3 w else .ok () { w with aM:=w.aM+1 }
abbrev Ev:=List Int->Wm->Rz Wm Int
abbrev Cl:=Nat->List Int->List c_->Wm->Rz Wm Int
def jx (loc:List Int):List Ev->Wm->Rz Wm (List Int)
 | [],w=>.ok [] w
 | k::r,w=>(k loc w).bind λv w=>(jx loc r w).bind λvs w=>.ok (v::vs) w
def iu (ks:List Ev) (i:Nat):Ev:=(ks[i]?).getD λ_ w=>.ok 0 w
def cL (n:Int) (k:Ev) (loc:List Int) (w:Wm):Rz Wm Int:=(k loc w).bind λi w=>if (decide (i<0)||decide (n<=i))=true then .ov 2 w else .ok i w
def ol (P:Env) (call:Cl) (u:Nat) (m pl:Int) (ks:List Ev) (loc:List Int) (w:Wm):Rz Wm Int:=
 match (P.l[P.mod u m]?).bind λx=>x.parts[pl.toNat]? with
 | some p=>(jx loc ks w).bind λvs w=>call (P.mod u m) (vs++List.replicate p.locals.toNat 0) p.body w
 | none=>.ok 0 w
def kV (op a b:Int) (w:Wm):Rz Wm Int:=
 if op=9 then .ok (IntKind.i64.wrap<|a+b) w
 else if op=10 then .ok (IntKind.i64.wrap<|a-b) w
 else if op=11 then .ok (IntKind.i64.wrap<|a*b) w
 else if op=14 then .ok (bH<|a==b) w
 else if op=15 then .ok (bH<|decide<|a<b) w
 else if b=0 then .ov 1 w
 else if op=12 then .ok (IntKind.i64.wrap<|a.tdiv b) w
 else .ok (a.tmod b) w
def kW (P:Env) (call:Cl) (u:Nat) (op n m pl:Int) (ks:List Ev) (loc:List Int) (w:Wm):Rz Wm Int:=
 if op=1 then .ok n w
 else if op=2 then (match w.bg with | []=>.ok 0 w | x::r=>.ok x { w with bg:=r })
 else if op=16 then .ok (o4 loc pl.toNat) w
 else if op=3 then .ok (o4 w.data<|P.at_ u m pl) w
 else if op=4 then (cL n (iu ks 0) loc w).bind λi w=>.ok (o4 w.data<|P.at_ u m<|pl+i) w
 else if op=5 then ol P call u m pl ks loc w
 else if op=6 then (iu ks 0 loc w).bind λv w=>.ok (bH<|v==0) w
 else if op=7 then (iu ks 0 loc w).bind λv w=>if v=0 then .ok 0 w else (iu ks 1 loc w).bind λv w=>.ok (bH<|!(v==0)) w
 else if op=8 then (iu ks 0 loc w).bind λv w=>if v=0 then (iu ks 1 loc w).bind λv w=>.ok (bH<|!(v==0)) w else .ok 1 w
 else (iu ks 0 loc w).bind λa w=>(iu ks 1 loc w).bind λb w=>kV op a b w
mutual
def eO (P:Env) (call:Cl) (u:Nat):dr->List Int->Wm->Rz Wm Int
 | .mk op n m pl args,loc,w=>kW P call u op n m pl (gb P call u args) loc w
def gb (P:Env) (call:Cl) (u:Nat):List dr->List Ev
 | []=>[]
 | x::r=>(λloc w=>eO P call u x loc w)::gb P call u r
end
def om (P:Env) (call:Cl) (u:Nat) (x:dr) (loc:List Int) (w:Wm):eO P call u x loc w=kW P call u x.op x.n x.m x.pl (gb P call u x.args) loc w:=by cases x; rw [eO]; rfl
def Fx (P:Env) (call:Cl) (u:Nat):∀l,gb P call u l=l.map λx=>eO P call u x
 | []=>by rw [gb]; rfl
 | x::r=>by rw [gb,Fx P call u r]; rfl
def Rz.fr {α:Type} (f:Fm) (r:Rz Wm α):Rz Fm α:=match r with
 | .ok a w=>.ok a { f with w:=w }
 | .ov e w=>.ov e w
def kX (P:Env) (c:Fm->Rz Fm Int) (b:Fm->Rz Fm Bool):Nat->Fm->Rz Fm Bool
 | 0,f=>.ok false f
 | n+1,f=>(c f).bind λv f=>if v=0 then .ok false f else (Rz.fr f<|ky P f.w).bind λ_ f=>(b f).bind λt f=>if t=true then .ok true f else kX P c b n f
def yW (v:Int) (w:Wm):Rz Wm Unit:=if w.out.length=200 then .ov 5 w else .ok () { w with out:=w.out++[v] }
def oo (P:Env) (call:Cl) (u:Nat) (op n m pl:Int) (ks:List Ev) (body other:Fm->Rz Fm Bool) (f:Fm):Rz Fm Bool:=
 if op=1 then (Rz.fr f<|iu ks 0 f.loc f.w).bind λv f=>if m<0 then .ok false { f with loc:=f.loc.set pl.toNat v } else .ok false { f with w:={ f.w with data:=f.w.data.set (P.at_ u m pl) v } }
 else if op=2 then (Rz.fr f<|cL n (iu ks 0) f.loc f.w).bind λi f=>(Rz.fr f<|iu ks 1 f.loc f.w).bind λv f=>.ok false { f with w:={ f.w with data:=f.w.data.set (P.at_ u m<|pl+i) v } }
 else if op=3 then (Rz.fr f<|ol P call u m pl ks f.loc f.w).bind λ_ f=>.ok false f
 else if op=4 then (Rz.fr f<|iu ks 0 f.loc f.w).bind λv f=>if v=0 then other f else body f
 else if op=5 then kX P (λf=>Rz.fr f<|iu ks 0 f.loc f.w) body (P.aD+1) f
 else if op=6 then (Rz.fr f<|iu ks 0 f.loc f.w).bind λv f=>.ok true { f with val:=v }
 else if op=7 then (Rz.fr f<|iu ks 0 f.loc f.w).bind λv f=>(Rz.fr f<|yW v f.w).bind λ_ f=>.ok false f
 else .ok false f
mutual
def kY (P:Env) (call:Cl) (u:Nat):c_->Fm->Rz Fm Bool
 | .mk op n m pl args body other,f=>oo P call u op n m pl (gb P call u args) (λf=>gq P call u body f) (λf=>gq P call u other f) f
def gq (P:Env) (call:Cl) (u:Nat):List c_->Fm->Rz Fm Bool
 | [],f=>.ok false f
 | x::r,f=>(kY P call u x f).bind λt f=>if t=true then .ok true f else gq P call u r f
end
def vk (P:Env) (call:Cl) (u:Nat) (x:c_) (f:Fm):kY P call u x f=oo P call u x.op x.n x.m x.pl (gb P call u x.args) (λf=>gq P call u x.body f) (λf=>gq P call u x.other f) f:=by cases x; rw [kY]; rfl
def cM (P:Env):Nat->Cl
 | 0,_,_,_,w=>.ok 0 w
 | d+1,u,loc,body,w=>(ky P w).bind λ_ w=>if w.calls=24 then .ov 4 w else
   match gq P (cM P d) u body ⟨loc,0,{ w with calls:=w.calls+1 }⟩ with
   | .ok _ f=>.ok f.val { f.w with calls:=f.w.calls-1 }
   | .ov e w=>.ov e w
def kz (P:Env):List b8->Nat->Wm->Rz Wm Unit
 | [],_,w=>.ok () w
 | x::r,n,w=>(cM P 25 n [] x.main w).bind λ_ w=>kz P r (n+1) w
def ih:List b8->Nat->List Nat
 | [],_=>[]
 | u::r,s=>s::ih r (s+u.data.toNat)
def c9:List b8->Nat
 | []=>0
 | u::r=>u.data.toNat+c9 r
def o5 (l:List b8):List (List Nat):=(List.range l.length).map λn=>n::((l[n]?.map (·.aA)).getD []).map λs=>(idxOf s (eS l) 0).getD 0
def aO (l:List b8) (aD:Nat):Env:=⟨l,o5 l,ih l 0,aD⟩
structure kZ where
 fin:Int
 out:List Int
 data:List Int
 aM:Int
def Kh:kZ:=⟨0,[],[],0⟩
def vl (w:Wm) (e:Int):kZ:=⟨e,w.out,w.data,(w.aM:Int)⟩
def ny (l:List b8) (bg:List Int) (aM:Int):Int:=er (jO l)<|if 64<bg.length then 2 else if (decide (aM<0)||decide (2000<aM))=true then 3 else 0
def o6 (l:List b8) (bg:List Int) (aD:Nat):kZ:=match kz (aO l aD) l 0 ⟨List.replicate (c9 l) 0,bg,[],0,0⟩ with
 | .ok _ w=>vl w 0
 | .ov e w=>vl w e
end Go.Bw
end
section
namespace Go.Bw
open Go
structure bu (l:List b8):Prop where
 e8:1<=l.length/\l.length<=4
 ahead:rn l=true
 nd:(eS l).Nodup
 data:lT l 512=true
 mX:∀u ∈ l,ig u (fd l u)=true
variable {bJ:List b8}
def yX:jO bJ=0↔bu bJ:=by
 unfold jO
 constructor
 · intro h
   split at h
   · cases h
   · rename_i b
     split at h
     · cases h
     · rename_i c
       split at h
       · cases h
       · rename_i d
         split at h
         · cases h
         · rename_i e
           split at h
           · rename_i f
             refine ⟨by simp at b; omega,by simpa using c,j_.2 (by simpa using d),by simpa using e,λu a=>gN.1 f u a⟩
           · cases h
 · intro h
   have:=h.e8;rw [ZX (by simp; omega),ZX (by rw [h.ahead]; decide),ZX (by rw [j_.1 h.nd]; decide),ZX (by rw [h.data]; decide),ZZ (gN.2 λu a=>h.mX u a)]
variable {Z:Nat} {cx:b8}
def BX (c:bu bJ)   (d:bJ[Z]? = some cx) {s:List UInt8} (i:s ∈ cx.aA):∃p z,idxOf s (eS bJ) 0=some p/\p<Z/\bJ[p]? = some z:=by
 have k:=(cq.1 d).1;have f:=gN.1 c.ahead Z (uJ.2 k);rw [d] at f
 have g:s ∈ (eS bJ).take Z:=by simpa using gN.1 f s i
 cases h:idxOf s (eS bJ) 0 with
 | none=>exact absurd (yh g)<|sj.1 h
 | some p=>
   obtain ⟨j,a⟩:=iE g;rw [jq] at a
   split at a
   · rename_i m
     have b:=(pP h).2;rw [nX] at b;have l:=(cq.1 b).1;have e:p=j:=(e5 l c.nd).1 (b.trans a.symm)
     have n:(eS bJ).length=bJ.length:=by simp [eS]
     exact ⟨p,_,O,aa,c6 aa⟩
   · cases a
def vm (a:bJ[Z]? = some cx):(o5 bJ)[Z]? = some (Z::cx.aA.map λs=>(idxOf s (eS bJ) 0).getD 0):=by
 have b:=(cq.1 a).1;unfold o5;rw [e4,List.getElem?_range b];simp [a]
def Ki (h:bu bJ)   (c:bJ[Z]? = some cx) {b:Nat} {k:ec} (a:(aE cx::fd bJ cx)[b]? = some k) :
   ∃j z,(Z::cx.aA.map λs=>(idxOf s (eS bJ) 0).getD 0)[b]? = some j/\bJ[j]? = some z/\k=aE z:=by
 cases b with
 | zero=>simp at a; exact ⟨Z,cx,rfl,c,a.symm⟩
 | succ q=>
   simp only [lL] at a ⊢;unfold fd at a;rw [e4] at a;obtain ⟨s,d,e⟩:=dS.1 a;obtain ⟨p,z,f,_,g⟩:=BX h c (az d);refine ⟨p,z,by rw [e4,d]; simp [f],g,?_⟩;rw [f] at e;dsimp only at e;rw [g] at e;exact e.symm
def Kj:∀{l:List b8} {s j:Nat} {z:b8},l[j]? = some z->∃b,(ih l s)[j]? = some b/\b+z.data.toNat<=s+c9 l
 | [],_,_,_,h=>by simp at h
 | x::r,s,0,z,h=>by
   simp at h; subst h;exact ⟨s,O,by simp only [c9]; omega⟩
 | x::r,s,j+1,z,h=>by
   obtain ⟨b,a,c⟩:=Kj (l:=r) (s:=s+x.data.toNat) (j:=j) (by simpa using h);exact ⟨b,by simp only [ih,lL]; exact a,by simp only [c9]; omega⟩
variable {aH bQ bj:Int}
def w4 (n:bu bJ) (aD:Nat)   (d:bJ[Z]? = some cx)  (h:jv (aE cx::fd bJ cx) aH bQ bj=true) (r:0<=bj) :
   ∃(a j b p:Nat),aH=a/\bQ=p/\(Z::cx.aA.map λs=>(idxOf s (eS bJ) 0).getD 0)[a]? = some j/\(ih bJ 0)[j]? = some b/\b+p+bj.toNat<=c9 bJ/\(aO bJ aD).mod Z aH=j/\(∀i:Nat,(aO bJ aD).at_ Z aH ((p+i:Nat):Int)=b+(p+i)):=by
 cases c:mu (aE cx::fd bJ cx) aH bQ with
 | true=>rw [yP bj c] at h; cases h
 | false=>
   obtain ⟨⟨a,rfl,o⟩,t,u⟩:=yQ c;obtain ⟨k,e⟩:=cR o;obtain ⟨j,z,f,q,rfl⟩:=Ki n d e;rw [tK c e,ZZ (show (aE z).oi=true from rfl)] at h;have v:bQ+bj<=z.data:=aag h;obtain ⟨b,g,w⟩:=Kj (l:=bJ) (s:=0) q
   have m:(aO bJ aD).mod Z (a:Int)=j:=by
     unfold Env.mod
     show (((o5 bJ)[Z]?.getD [])[((a:Nat):Int).toNat]?).getD 0=j
     rw [vm d,i']
     show ((Z::cx.aA.map λs=>(idxOf s (eS bJ) 0).getD 0)[a]?).getD 0=j
     rw [f]; rfl
   refine ⟨a,j,b,bQ.toNat,O,aa,f,g,aa,m,λi=>?_⟩;unfold Env.at_;rw [m]
   show ((ih bJ 0)[j]?).getD 0+_=_
   rw [g,i']
   rfl
def yY (i:bu bJ) (aD:Nat)   (c:bJ[Z]? = some cx)  (h:jf (aE cx::fd bJ cx) aH bQ bj=true) :
   ∃(a j q:Nat) (z:b8) (p:hx),aH=a/\bQ=q/\(Z::cx.aA.map λs=>(idxOf s (eS bJ) 0).getD 0)[a]? = some j/\bJ[j]? = some z/\z.parts[q]? = some p/\p.params=bj/\(aO bJ aD).mod Z aH=j:=by
 cases b:mW (aE cx::fd bJ cx) aH bQ with
 | true=>rw [BP bj b] at h; cases h
 | false=>
   obtain ⟨⟨a,rfl,l⟩,q,rfl⟩:=BQ b;obtain ⟨k,d⟩:=cR l;obtain ⟨j,z,e,m,rfl⟩:=Ki i c d;rw [sk b d,ZZ (show (aE z).oi=true from rfl)] at h;obtain ⟨n,o⟩:=eH.1 h
   have r:(aE z).parts.length=z.parts.length:=by simp [aE]
   have f:q<z.parts.length:=by have:=aag n; omega
   refine ⟨a,j,q,z,z.parts[q],O,O,e,m,c6 f,?_,?_⟩
   · have g:=eq_of_beq o
     rw [i',show (aE z).parts=z.parts.map (·.params) from rfl,e4,c6 f] at g;exact g
   · unfold Env.mod
     show (((o5 bJ)[Z]?.getD [])[((a:Nat):Int).toNat]?).getD 0=j
     rw [vm c,i']
     show ((Z::cx.aA.map λs=>(idxOf s (eS bJ) 0).getD 0)[a]?).getD 0=j
     rw [e]; rfl
variable {cr:List ec}
def rq (h:ig cx cr=true):(∀p ∈ cx.parts,lm (aE cx::cr) p=true)/\gO (aE cx::cr) 0 cx.main 1=true/\cJ cx=false/\qz cx.nm cx.aA=true:=by
 unfold ig at h;obtain ⟨c,a⟩:=eH.1 h;obtain ⟨a,b⟩:=eH.1 a;obtain ⟨b,d⟩:=eH.1 b;exact ⟨λp e=>gN.1 b p e,d,by simpa using a,c⟩
def vn {p:hx} (h:lm cr p=true):0<=p.params/\p.params<=3/\0<=p.locals/\p.locals<=4/\gO cr (p.params+p.locals) p.body 1=true:=by
 unfold lm at h;obtain ⟨a,b⟩:=eH.1 h
 have a:(((decide (p.params<0)||decide (3<p.params))||decide (p.locals<0))||decide (4<p.locals))=false:=by simpa using a
 simp only [i9,aad] at a;exact ⟨aa,aa,aa,aa,b⟩
def Fy:∀{l:List b8} {a:Int},lT l a=true->(∀u ∈ l,0<=u.data)/\(c9 l:Int)<=a\/l=[]
 | [],_,_=>.inr rfl
 | u::r,a,h=>by
   unfold lT at h;obtain ⟨b,c⟩:=eH.1 h
   have b:(decide (u.data<0)||decide (a<u.data))=false:=by simpa using b
   simp only [i9,aad] at b
   left
   rcases Fy c with ⟨d,e⟩ | rfl
   · refine ⟨λv hv=>?_,by simp only [c9]; omega⟩
     rcases ep.1 hv with rfl | hv
     · omega
     · exact d v hv
   · refine ⟨λv hv=>?_,by simp only [c9]; omega⟩
     rw [gU] at hv; subst hv; omega
end Go.Bw
end
section
namespace Go.Bw
open Go
structure ao where
 op:Int
 a:Int
 b:Int
structure fI where
 at_:Int
 kind:Int
 m:Int
structure Gs where
 code:List ao
 fix:List fI
abbrev Gk:=Gs->Gs
def bi (l:List ao) (g:Gs):Gs:={ g with code:=g.code++l }
def aS (i:ao) (kind m:Int) (g:Gs):Gs:=⟨g.code++[i],g.fix++[⟨(g.code.length:Int),kind,m⟩]⟩
def cF (n:Nat) (g:Gs):Gs:={ g with code:=g.code.modify n λi=>{ i with a:=(g.code.length:Int) } }
def gt (ks:List Gk) (i:Nat):Gk:=(ks[i]?).getD id
def mw (ks:List Gk) (g:Gs):Gs:=ks.foldl (λg k=>k g) g
def tO (c k1:Gk) (g:Gs):Gs:=
 let a:=c g
 let b:=bi [⟨22,0,0⟩] (k1<|aS ⟨12,0,0⟩ 1 0 a)
 cF b.code.length (bi [⟨1,0,0⟩]<|cF a.code.length<|aS ⟨11,0,0⟩ 1 0 b)
def gT (c k1:Gk) (g:Gs):Gs:=
 let a:=c g
 let b:=bi [⟨1,1,0⟩] (aS ⟨12,0,0⟩ 1 0 a)
 cF b.code.length (bi [⟨22,0,0⟩]<|k1<|cF a.code.length<|aS ⟨11,0,0⟩ 1 0 b)
def gP (op n m pl:Int) (ks:List Gk) (g:Gs):Gs:=
 if op=1 then bi [⟨1,n,0⟩] g
 else if op=2 then bi [⟨18,0,0⟩] g
 else if op=16 then bi [⟨2,pl,0⟩] g
 else if op=3 then aS ⟨4,pl,0⟩ 3 m g
 else if op=4 then bi [⟨7,0,0⟩] (aS ⟨6,pl,n⟩ 3 m<|gt ks 0 g)
 else if op=5 then aS ⟨13,pl,0⟩ 2 m (mw ks g)
 else if op=7 then tO (gt ks 0) (gt ks 1) g
 else if op=8 then gT (gt ks 0) (gt ks 1) g
 else if op=6 then bi [⟨9,0,0⟩] (mw ks g)
 else bi [⟨10,op,0⟩] (mw ks g)
mutual
def aP:dr->Gs->Gs
 | .mk op n m pl args,g=>gP op n m pl (l2 args) g
def l2:List dr->List Gk
 | []=>[]
 | x::r=>(λg=>aP x g)::l2 r
end
def rr (x:dr) (g:Gs):aP x g=gP x.op x.n x.m x.pl (l2 x.args) g:=by cases x; rw [aP]; rfl
def fh:∀l,l2 l=l.map aP
 | []=>by rw [l2]; rfl
 | x::r=>by rw [l2,fh r]; rfl
def gJ (l:List dr) (g:Gs):Gs:=l.foldl (λg x=>aP x g) g
def yZ (l:List dr) (g:Gs):mw (l2 l) g=gJ l g:=by rw [fh]; unfold mw gJ; rw [List.foldl_map]
variable {fT:List dr} {Z:Nat} {bn:dr}
def Rf (h:fT[Z]? = some bn) (g:Gs):gJ (fT.take<|Z+1) g=aP bn (gJ (fT.take Z) g):=by
 unfold gJ; rw [gV,h]; simp
def so (c body other:Gk) (d:Nat) (g:Gs):Gs:=
 let a:=c g
 let b:=body (aS ⟨12,0,0⟩ 1 0 a)
 if 0<d then cF b.code.length (other<|cF a.code.length<|aS ⟨11,0,0⟩ 1 0 b) else cF a.code.length b
def vo (b body:Gk) (g:Gs):Gs:=
 let a:=b g
 cF a.code.length (aS ⟨11,(g.code.length:Int),0⟩ 1 0<|body<|bi [⟨16,0,0⟩]<|aS ⟨12,0,0⟩ 1 0 a)
def bo (op n m pl:Int) (ks:List Gk) (body other:Gk) (a:Nat) (g:Gs):Gs:=
 if op=1 then (if m<0 then bi [⟨3,pl,0⟩] (gt ks 0 g) else aS ⟨5,pl,0⟩ 3 m (gt ks 0 g))
 else if op=2 then bi [⟨8,0,0⟩] (gt ks 1<|aS ⟨6,pl,n⟩ 3 m<|gt ks 0 g)
 else if op=3 then bi [⟨17,0,0⟩] (aS ⟨13,pl,0⟩ 2 m<|mw ks g)
 else if op=4 then so (gt ks 0) body other a g
 else if op=5 then vo (gt ks 0) body g
 else if op=6 then bi [⟨15,0,0⟩] (gt ks 0 g)
 else if op=7 then bi [⟨19,0,0⟩] (gt ks 0 g)
 else g
mutual
def jQ:c_->Gs->Gs
 | .mk op n m pl args body other,g=>bo op n m pl (l2 args) (λg=>cn body g) (λg=>cn other g) other.length g
def cn:List c_->Gs->Gs
 | [],g=>g
 | x::r,g=>cn r (jQ x g)
end
def sp (x:c_) (g:Gs):jQ x g=bo x.op x.n x.m x.pl (l2 x.args) (λg=>cn x.body g) (λg=>cn x.other g) x.other.length g:=by cases x; rw [jQ]; rfl
def Kk:∀(a b:List c_) (g:Gs),cn (a++b) g=cn b (cn a g)
 | [],b,g=>by rw [cn]; rfl
 | x::r,b,g=>by rw [h5,cn,Kk r b,cn]
variable {iK:List c_} {fJ:c_}
def Rg (h:iK[Z]? = some fJ) (g:Gs):cn (iK.take<|Z+1) g=jQ fJ (cn (iK.take Z) g):=by
 rw [gV,h]
 show cn (iK.take Z++[fJ]) g=_
 rw [Kk,cn,cn]
def ii (params locals:Int) (body:List c_) (g:Gs):Gs:=bi [⟨1,0,0⟩,⟨15,0,0⟩]<|cn body<|bi [⟨14,params,locals⟩] g
def dw:List hx->Gs->List Nat×Gs
 | [],g=>([],g)
 | p::r,g=>(g.code.length::(dw r<|ii p.params p.locals p.body g).1,(dw r<|ii p.params p.locals p.body g).2)
def Fz:∀(a:List hx) (p:hx) (g:Gs),dw (a++[p]) g=((dw a g).1++[(dw a g).2.code.length],ii p.params p.locals p.body (dw a g).2)
 | [],p,g=>rfl
 | x::r,p,g=>by rw [h5,dw,Fz r p]; rfl
structure qB where
 nm:List UInt8
 aA:List (List UInt8)
 data:Int
 g:Gs
 fe:List Nat
 main:Nat
def y0:qB:=⟨[],[],0,⟨[],[]⟩,[],0⟩
def oq (u:b8):Bool:=ig u<|List.replicate u.aA.length lS
def eT (u:b8):qB:=
 let r:=dw u.parts ⟨[],[]⟩
 ⟨u.nm,u.aA,u.data,ii 0 0 u.main r.2,r.1,r.2.code.length⟩
def fm (u:b8):qB×Int:=if oq u=false then (y0,1) else if 2048<(eT u).g.code.length then (y0,2) else (eT u,0)
structure GL (c:Nat) (g g':Gs):Prop where
 lo:g.code.length<=g'.code.length
 hi:g'.code.length<=g.code.length+c
 FA:g.fix.length<=g'.fix.length
 ij:g'.fix.length<=g.fix.length+c
def GL.refl (c:Nat) (g:Gs):GL c g g:=⟨cQ _,ye _ _,cQ _,ye _ _⟩
variable {aw:Nat}
def GL.trans {g a b:Gs} (h:GL Z g a) (k:GL aw a b):GL (Z+aw) g b:=⟨ea h.lo k.lo,by have:=h.hi; have:=k.hi; omega,ea h.FA k.FA,by have:=h.ij; have:=k.ij; omega⟩
def GL.mono {g a:Gs} (h:GL Z g a) (b:Z<=aw):GL aw g a:=⟨h.lo,by have:=h.hi; omega,h.FA,by have:=h.ij; omega⟩
def lV (l:List ao) (g:Gs):GL l.length g (bi l g):=⟨by simp [bi],by simp [bi],cQ _,ye _ _⟩
def nz (i:ao) (k m:Int) (g:Gs):GL 1 g (aS i k m g):=⟨by simp [aS],by simp [aS],by simp [aS],by simp [aS]⟩
def tQ (n:Nat) (g:Gs):GL 0 g (cF n g):=⟨by simp [cF],by simp [cF],cQ _,cQ _⟩
def FB {ks:List Gk} {cs:List Nat} (h:ks.length=cs.length) (d:∀(i:Nat) k c,ks[i]? = some k->cs[i]? = some c->∀g,GL c g (k g)):∀g,GL cs.sum g (mw ks g):=by
 induction ks generalizing cs with
 | nil=>intro g; cases cs with | nil=>exact .refl _ _ | cons c r=>cases h
 | cons k r e=>
   intro g
   cases cs with
   | nil=>cases h
   | cons c f=>
     have j:=d 0 k c rfl rfl g;have l:=e (cs:=f) (by simpa using h) (λi m n a b=>d (i+1) m n (by simpa using a) (by simpa using b)) (k g);exact j.trans l
def BY {ks:List Gk} {cs:List Nat} (h:ks.length=cs.length) (b:∀(i:Nat) k c,ks[i]? = some k->cs[i]? = some c->∀g,GL c g (k g)) (i:Nat):∀g,GL ((cs[i]?).getD 0) g (gt ks i g):=λg=>by
 unfold gt
 cases hi:ks[i]? with
 | none=>exact .refl _ _
 | some k=>
   have d:=(cq.1 hi).1;obtain ⟨c,a⟩:∃c,cs[i]? = some c:=⟨_,c6 (by omega)⟩;rw [a];exact b i k c hi a g
def Kl:∀(cs:List Nat),(cs[0]?).getD 0+(cs[1]?).getD 0<=cs.sum
 | []=>by simp
 | [a]=>by simp
 | a::b::r=>by simp only [cm,lL,yc,AH]; omega
mutual
def mY:∀(x:dr) (g:Gs),GL (8*e7 x) g (aP x g)
 | .mk op n m pl args,g=>by
   rw [aP];have b:=BZ args
   have c:(l2 args).length=(args.map λx=>8*e7 x).length:=by rw [fh]; simp
   have f:(args.map λx=>8*e7 x).sum=8*hG args:=B0 args;have a:=FB c b;have d:=BY c b 0;have e:=BY c b 1;have h:=Kl (args.map λx=>8*e7 x);rw [f] at a h
   have i:e7 (.mk op n m pl args)=1+hG args:=by rw [e7]
   rw [i];unfold gP
   split
   · exact (lV _ g).mono (by simp only [gf,iT]; omega)
   · split
     · exact (lV _ g).mono (by simp only [gf,iT]; omega)
     · split
       · exact (lV _ g).mono (by simp only [gf,iT]; omega)
       · split
         · exact (nz _ _ _ g).mono aa
         · split
           · exact (((d g).trans<|nz _ _ _ _).trans<|lV _ _).mono (by simp only [gf,iT]; omega)
           · split
             · exact ((a g).trans<|nz _ _ _ _).mono aa
             · split
               · unfold tO
                 exact (((((((d g).trans<|nz _ _ _ _).trans<|e _).trans<|lV _ _).trans<|nz _ _ _ _).trans<|tQ _ _).trans (lV _ _) |>.trans (tQ _ _)).mono (by simp only [gf,iT]; omega)
               · split
                 · unfold gT
                   exact (((((((d g).trans<|nz _ _ _ _).trans<|lV _ _).trans<|nz _ _ _ _).trans<|tQ _ _).trans<|e _).trans (lV _ _) |>.trans (tQ _ _)).mono (by simp only [gf,iT]; omega)
                 · split
                   · exact ((a g).trans<|lV _ _).mono (by simp only [gf,iT]; omega)
                   · exact ((a g).trans<|lV _ _).mono (by simp only [gf,iT]; omega)
def BZ:∀(l:List dr) (i:Nat) k c,(l2 l)[i]? = some k->(l.map λx=>8*e7 x)[i]? = some c->∀g,GL c g (k g)
 | [],i,k,c,h,_,g=>by rw [l2] at h; simp at h
 | x::r,0,k,c,h,a,g=>by
   rw [l2] at h;simp at h a;subst h a;exact mY x g
 | x::r,i+1,k,c,h,a,g=>by
   rw [l2] at h;exact BZ r i k c (by simpa using h) (by simpa using a) g
def B0:∀(l:List dr),(l.map λx=>8*e7 x).sum=8*hG l
 | []=>by simp [hG]
 | x::r=>by rw [k_,AH,B0 r,hG]; omega
end
mutual
def Rh:∀(x:c_) (g:Gs),GL (8*mr x) g (jQ x g)
 | .mk op n m pl args body other,g=>by
   rw [jQ];have b:=BZ args
   have c:(l2 args).length=(args.map λx=>8*e7 x).length:=by rw [fh]; simp
   have e:=FB c b;have a:=BY c b 0;have f:=BY c b 1;have h:=Kl (args.map λx=>8*e7 x);rw [B0] at e h;have d:=sq body;have i:=sq other
   have j:mr (.mk op n m pl args body other)=1+hG args+a_ body+a_ other:=by rw [mr]
   rw [j];unfold bo
   split
   · split
     · exact ((a g).trans<|lV _ _).mono (by simp only [gf,iT]; omega)
     · exact ((a g).trans<|nz _ _ _ _).mono aa
   · split
     · exact ((((a g).trans<|nz _ _ _ _).trans<|f _).trans<|lV _ _).mono (by simp only [gf,iT]; omega)
     · split
       · exact (((e g).trans<|nz _ _ _ _).trans<|lV _ _).mono (by simp only [gf,iT]; omega)
       · split
         · unfold so
           dsimp only
           split
           · exact ((((((a g).trans<|nz _ _ _ _).trans<|d _).trans<|nz _ _ _ _).trans<|tQ _ _).trans (i _) |>.trans (tQ _ _)).mono aa
           · exact ((((a g).trans<|nz _ _ _ _).trans<|d _).trans<|tQ _ _).mono aa
         · split
           · unfold vo
             exact ((((((a g).trans<|nz _ _ _ _).trans<|lV _ _).trans<|d _).trans<|nz _ _ _ _).trans<|tQ _ _).mono (by simp only [gf,iT]; omega)
           · split
             · exact ((a g).trans<|lV _ _).mono (by simp only [gf,iT]; omega)
             · split
               · exact ((a g).trans<|lV _ _).mono (by simp only [gf,iT]; omega)
               · exact .refl _ _
def sq:∀(l:List c_) (g:Gs),GL (8*a_ l) g (cn l g)
 | [],g=>by rw [cn]; exact .refl _ _
 | x::r,g=>by
   rw [cn,a_];exact ((Rh x g).trans<|sq r _).mono aa
end
def Ri (pa lo:Int) (b:List c_) (g:Gs):GL (8*(1+a_ b)) g (ii pa lo b g):=by
 unfold ii;exact (((lV _ g).trans<|sq b _).trans<|lV _ _).mono (by simp only [gf,iT]; omega)
def kM:∀(l:List hx) (g:Gs),GL (8*lR l) g (dw l g).2/\(dw l g).1.length=l.length
 | [],g=>⟨.refl _ _,rfl⟩
 | p::r,g=>by
   have a:=kM r (ii p.params p.locals p.body g);refine ⟨?_,by simp [dw,a.2]⟩;rw [dw,lR];exact ((Ri p.params p.locals p.body g).trans a.1).mono (by unfold gu; omega)
section
variable {P:Program} {ops:Array Oper} {Q:Exit->Act->World->Prop} {n:Nat} {ds:List Deferred} {l:List (Nat×Value)} {w0:World} {F:List Nat} {L:List aQ} {Vs:List View} {rest:List Oper}
 {ty:TypeId} {pos:String} {af:Array Edge} {g:Option (Nat×Bool)} {d:Nat}
def WL.gY {ι:Type} {f:FuncId} {c:Operand} {k:Array Value} {args:Array Operand} {ts:Array TypeId} {vs:List Value} (a L2:List aQ) (o:aK ops l g) (p:Nat.blt d n=true) (q:Enters P f) (r:bK l c=some (.func (.func f) #[] k)) (s:ip l args.toList=some vs) (hL:L=a++L2)
   (v:ι->Value) (b:ι->List aQ) (R:ι->Prop) (b7:List View) (t:∀u ∈ b7,u ∈ Vs)
   (hC:∀w,Ws w (a.flatMap aQ.ids) a b7 w->Calls P f (vs.toArray++k) w λe m=>∃i,e = .returned (v i)/\R i/\Ws w (a.flatMap aQ.ids) (b i) b7 m)
   (x:∀i,R i->WL P ops Q n ds ((d,v i)::l) (Ws w0 F (b i++L2) Vs) rest) :
   WL P ops Q n ds l (Ws w0 F L Vs) (⟨some d,.call ⟨.value c,args,ts⟩,ty,pos,af,g⟩::rest):=
 WL.PR (κ:=Empty) a L2 o p q r s hL v b R (λ_=>[]) (λ_=>[]) (λ_=>False) b7 t (λw y=>(hC w y).mono λe m h=>.inl h) (λj=>nomatch j) x
end
def ao.cells (x:ao):List Value:=[.int .i64 x.op,.int .i64 x.a,.int .i64 x.b]
def ao.cD (x:ao):x.cells.length=3:=rfl
def ao.one (x:ao):x.cells.all (·.oneCell')=true:=rfl
def bt (a:View) (b o:Nat) (x:ao):Prop:=ar a b o x.cells
def fI.cells (x:fI):List Value:=[.int .i64 x.at_,.int .i64 x.kind,.int .i64 x.m]
def fI.cD (x:fI):x.cells.length=3:=rfl
def fI.one (x:fI):x.cells.all (·.oneCell')=true:=rfl
def Km (a:View) (b o:Nat) (x:fI):Prop:=ar a b o x.cells
structure iM where
 nm:List UInt8
 v1:Value
 data:Int
 v5:Value
 v6:Value
structure cG where
 g:Gs
 ca:Option Addr×Nat
 fa:Option Addr×Nat
def rt (T:TypeId) (a:iM) (t:cG):Obj:=.cells #[st a.nm,a.v1,.int .i64 a.data,.slice t.ca.1 t.g.code.length t.ca.2,.slice t.fa.1 t.g.fix.length t.fa.2,a.v5,a.v6] T (0,0)
abbrev cj (T a b:TypeId) (c:Nat) (d:iM) (t:cG):List aQ:=[aq c (rt T d t),cC a 3 ao.cells t.ca.1 t.ca.2 t.g.code,cC b 3 fI.cells t.fa.1 t.fa.2 t.g.fix]
def mx (h:fT[Z]? = some bn):gt (l2 fT) Z=aP bn:=by
 unfold gt; rw [fh,e4,h]; rfl
def w5:∀{l:List dr} {i:Nat} {x:dr},l[i]? = some x->hG (l.take<|i+1)=hG (l.take i)+e7 x/\hG (l.take<|i+1)<=hG l
 | [],_,_,h=>by simp at h
 | y::r,0,x,h=>by
   simp at h; subst h;simp [hG]
 | y::r,i+1,x,h=>by
   obtain ⟨a,b⟩:=w5 (l:=r) (i:=i) (by simpa using h);simp only [nb,hG];omega
def Kn:∀{l:List c_} {i:Nat} {x:c_},l[i]? = some x->a_ (l.take<|i+1)=a_ (l.take i)+mr x/\a_ (l.take<|i+1)<=a_ l
 | [],_,_,h=>by simp at h
 | y::r,0,x,h=>by
   simp at h; subst h;simp [a_]
 | y::r,i+1,x,h=>by
   obtain ⟨a,b⟩:=Kn (l:=r) (i:=i) (by simpa using h);simp only [nb,a_];omega
def kU (l:List dr) (g:Gs):GL (8*hG l) g (gJ l g):=by
 have a:(l2 l).length=(l.map λx=>8*e7 x).length:=by rw [fh]; simp
 have h:=FB a (BZ l) g;rw [yZ,B0] at h;exact h
def Rj (x:dr):e7 x=1+hG x.args:=by cases x; rw [e7]; rfl
def Rk (x:c_):mr x=1+hG x.args+a_ x.body+a_ x.other:=by cases x; rw [mr]; rfl
variable {ru:ao}
def Rl {l:List ao}   (f:ao->ao) (h:l[Z]? = some ru):l.modify Z f=l.set Z (f ru):=by
 apply r0;intro i;rw [eX,H7]
 by_cases e:Z=i
 · subst e
   obtain ⟨a,b⟩:=cq.1 h;simp [a,b]
 · simp [e]
def Rm {g:Gs}  (h:g.code[Z]? = some ru):cF Z g = { g with code:=g.code.set Z ⟨ru.op,(g.code.length:Int),ru.b⟩ }:=by
 unfold cF; rw [Rl _ h]
variable {cr:List ec} {aH bQ bj ln k0:Int}
def Ko (h:node1 cr aH bQ bj ln k0 Z=true):(bQ=4\/bQ=6->Z=1)/\(7<=bQ/\bQ<=15->Z=2)/\1<=bQ/\bQ<=16:=by
 unfold node1 at h
 split at h
 · subst_vars; omega
 · split at h
   · subst_vars; omega
   · split at h
     · subst_vars; simp at h; omega
     · split at h
       · subst_vars; omega
       · split at h
         · subst_vars; omega
         · split at h
           · subst_vars; omega
           · split at h
             · subst_vars; simp at h; omega
             · split at h
               · simp at h; omega
               · cases h
def xu {na a b:Nat} (h:aW cr aH bQ bj ln k0 na a b=true):(bQ=1\/bQ=4\/bQ=5\/bQ=6\/bQ=7->na=1)/\(bQ=2->na=2)/\1<=bQ/\bQ<=7:=by
 unfold aW at h
 split at h
 · subst_vars; simp at h; omega
 · split at h
   · subst_vars; simp at h; omega
   · split at h
     · subst_vars; omega
     · split at h
       · subst_vars; simp at h; omega
       · split at h
         · subst_vars; simp at h; omega
         · split at h
           · simp at h; omega
           · cases h
def w6 (x:dr):Prop:=∃kn aC d,jg kn aC x d=true
def w7 (l:List dr):Prop:=∃kn aC d,gA kn aC l d=true
def B3 (x:c_):Prop:=∃kn aC d,jN kn aC x d=true
def ej (l:List c_):Prop:=∃kn aC d,a9 kn aC l d=true
def w7.at_ (h:w7 fT)   (a:fT[Z]? = some bn):w6 bn:=by
 obtain ⟨kn,aC,d,h⟩:=h;rw [yR] at h;exact ⟨kn,aC,d,gN.1 h bn<|az a⟩
def w6.args (h:w6 bn):w7 bn.args/\(bn.op=4\/bn.op=6->bn.args.length=1)/\(7<=bn.op/\bn.op<=15->bn.args.length=2)/\1<=bn.op/\bn.op<=16:=by
 obtain ⟨kn,aC,d,h⟩:=h;rw [Fl] at h;obtain ⟨_,h⟩:=eH.1 h;obtain ⟨a,b⟩:=eH.1 h;exact ⟨⟨kn,aC,_,b⟩,Ko a⟩
def ej.at_ (h:ej iK)   (a:iK[Z]? = some fJ):B3 fJ:=by
 obtain ⟨kn,aC,d,h⟩:=h;rw [BR] at h;exact ⟨kn,aC,d,gN.1 h fJ<|az a⟩
def B3.parts (h:B3 fJ):w7 fJ.args/\(fJ.op=4\/fJ.op=5->ej fJ.body)/\ej fJ.other/\(fJ.op=1\/fJ.op=4\/fJ.op=5\/fJ.op=6\/fJ.op=7->fJ.args.length=1)/\(fJ.op=2->fJ.args.length=2)/\1<=fJ.op/\fJ.op<=7:=by
 obtain ⟨kn,aC,d,h⟩:=h;rw [qF] at h;obtain ⟨e,h⟩:=eH.1 h;obtain ⟨f,h⟩:=eH.1 h;obtain ⟨b,c⟩:=eH.1 h;refine ⟨⟨kn,aC,_,f⟩,λg=>?_,?_,xu e⟩
 · have:qy fJ.op=true:=by unfold qy; simpa using g
   rw [this] at b
   have a:gO kn aC fJ.body (d+1)=true:=by simpa using b
   unfold gO at a;exact ⟨kn,aC,d+1,(eH.1 (eH.1 a).2).2⟩
 · by_cases i:0<fJ.other.length
   · rw [aaa i] at c
     have a:gO kn aC fJ.other (d+1)=true:=by simpa using c
     unfold gO at a;exact ⟨kn,aC,d+1,(eH.1 (eH.1 a).2).2⟩
   · have:fJ.other=[]:=uK aa
     rw [this];exact ⟨kn,aC,d,by rw [a9]⟩
def Kq {α:Type} {f:α->List Value} {x:α} {zs:Array Value} (h:zs.toList=f x) (j:0<(f x).length) (k:Nat):madeCells zs (k*(f x).length)=((List.replicate k x).flatMap f).toArray:=by
 apply td;simp only [madeCells]
 have l:zs.size=(f x).length:=by rw [<-h]; simp
 have c:((List.replicate k x).flatMap f).length=k*(f x).length:=by
   induction k with
   | zero=>simp
   | succ k b=>rw [AI,mM,jE,b,D1]; omega
 apply List.ext_getElem
 · simp [c]
 · intro i n d
   simp
   have key:∀(k i:Nat) (hi:i<k*(f x).length),((List.replicate k x).flatMap f)[i]? = (f x)[i % (f x).length]?:=by
     intro k
     induction k with
     | zero=>intro i hi; omega
     | succ k b=>
       intro i hi;rw [AI,mM,List.getElem?_append]
       split
       · rename_i m; rw [Nat.mod_eq_of_lt m]
       · rename_i o
         rw [D1] at hi;rw [b (i-(f x).length) aa,<-Nat.mod_eq_sub_mod aa]
   have hi:i<k*(f x).length:=by rw [<-c]; exact d
   have a:=key k i hi;have e:=DT i j;rw [c6 d,c6 e] at a
   injection a with a
   rw [a]
   have g:zs[i % zs.size]? = (f x)[i % (f x).length]?:=by rw [l,<-h]; simp
   rw [c6 e] at g;rw [getElem!_def,g]
def dA:(∀i k m g,(aS i k m g).code.length=g.code.length+1)/\(∀i k m g,(aS i k m g).fix.length=g.fix.length+1)/\(∀l g,(bi l g).code.length=g.code.length+l.length)/\(∀l g,(bi l g).fix.length=g.fix.length)/\(∀n g,(cF n g).code.length=g.code.length)/\(∀n g,(cF n g).fix.length=g.fix.length)/\(∀(x:ao) l,(x::l).length=l.length+1)/\([]:List ao).length=0:=by
 refine ⟨λ_ _ _ _=>?_,λ_ _ _ _=>?_,λ_ _=>?_,λ_ _=>rfl,λ_ _=>?_,λ_ _=>rfl,λ_ _=>rfl,O⟩<;>simp [aS,bi,cF]
def jy (x:Nat):List Value:=[.int .i64 (x:Int)]
def w8 (x:Nat):(jy x).length=1:=rfl
def pQ (a:View) (b o:Nat) (x:Nat):Prop:=ar a b o<|jy x
structure nA where
 s1:Option Addr×Nat
 s2:Option Addr×Nat
 s3:Option Addr×Nat
 s4:Option Addr×Nat
def FC (o:qB) (q:nA):List Value:=[st o.nm,.slice q.s1.1 o.aA.length q.s1.2,.int .i64 o.data,.slice q.s2.1 o.g.code.length q.s2.2,.slice q.s3.1 o.g.fix.length q.s3.2,.slice q.s4.1 o.fe.length q.s4.2,.int .i64 (o.main:Int)]
structure FD (H:View) (q:nA) (o:qB):Prop where
 aA:Sl rdStr 1 H q.s1.1 q.s1.2 o.aA
 code:Sl bt 3 H q.s2.1 q.s2.2 o.g.code
 fix:Sl Km 3 H q.s3.1 q.s3.2 o.g.fix
 fe:Sl pQ 1 H q.s4.1 q.s4.2 o.fe
def FE:nA:=⟨(none,0),(none,0),(none,0),(none,0)⟩
def Kr (a:View):FD a FE y0:=⟨Sl.nil,Sl.nil,Sl.nil,Sl.nil⟩
def Ks:∀{l:List hx} {i:Nat} {x:hx},l[i]? = some x->lR (l.take<|i+1)=lR (l.take i)+gu x/\lR (l.take<|i+1)<=lR l
 | [],_,_,h=>by simp at h
 | y::r,0,x,h=>by
   simp at h; subst h;simp [lR]
 | y::r,i+1,x,h=>by
   obtain ⟨a,b⟩:=Ks (l:=r) (i:=i) (by simpa using h);simp only [nb,lR];omega
def Rn {l:List hx}  {x:hx} (h:l[Z]? = some x) (g:Gs):dw (l.take<|Z+1) g=((dw (l.take Z) g).1++[(dw (l.take Z) g).2.code.length],ii x.params x.locals x.body (dw (l.take Z) g).2):=by
 rw [gV,h];exact Fz _ _ _
def Kt (h:gO cr aH iK 1=true):ej iK:=by
 unfold gO at h;exact ⟨cr,aH,1,(eH.1 (eH.1 h).2).2⟩
def Ku:∀l:List hx,l.length<=lR l
 | []=>di _
 | s::r=>by have:=Ku r; simp only [gf,lR,gu]; omega
def Kv (u:b8):dh u=1+u.nm.length+wN u.aA+lR u.parts+a_ u.main:=rfl
def Ro {u:b8} (h:oq u=true):(∀p ∈ u.parts,ej p.body)/\ej u.main:=by
 obtain ⟨a,b,_,_⟩:=rq h;exact ⟨λp c=>Kt (vn<|a p c).2.2.2.2,Kt b⟩
end Go.Bw
end
section
namespace Go.Bw
open Go
def Rz.all {b α:Type} (r:Rz b α) (p:α->b->Prop) (q:Wm->Prop):Prop:=match r with
 | .ok a s=>p a s
 | .ov _ w=>q w
variable {y1:Wm->Prop}
def Rz.all_bind {b α β:Type} {r:Rz b α} {f:α->b->Rz b β} {p:β->b->Prop}  (h:r.all (λa s=>(f a s).all p y1) y1):(r.bind f).all p y1:=by
 cases r with
 | ok a s=>exact h
 | ov e w=>exact h
def Rz.rx {b α:Type} {r:Rz b α} {p c:α->b->Prop} {q q':Wm->Prop} (h:r.all p q) (d:∀a s,p a s->c a s) (f:∀w,q w->q' w):r.all c q':=by
 cases r with
 | ok a s=>exact d _ _ h
 | ov e w=>exact f _ h
def Rz.xv {α:Type} {r:Rz Wm α} {f:Fm} {p:α->Fm->Prop}  (h:r.all (λa w=>p a { f with w:=w }) y1):(Rz.fr f r).all p y1:=by
 cases r with
 | ok a s=>exact h
 | ov e w=>exact h
structure Kw (P:Env) (w w':Wm):Prop where
 aM:w.aM<=w'.aM
 aD:w.aM<=P.aD->w'.aM<=P.aD
 len:w'.data.length=w.data.length
 out:w.out.length<=200->w'.out.length<=200
 pre:w.out <+: w'.out
structure Kp (P:Env) (w w':Wm):Prop extends Kw P w w' where
 calls:w'.calls=w.calls
section
variable {P:Env} {a b c:Wm}
def Kw.refl (P:Env) (a:Wm):Kw P a a:=⟨cQ _,id,rfl,id,yi⟩
def Kw.trans (h:Kw P a b) (k:Kw P b c):Kw P a c:=⟨ea h.aM k.aM,λx=>k.aD<|h.aD x,k.len.trans h.len,λx=>k.out<|h.out x,h.pre.trans k.pre⟩
def Kp.refl (P:Env) (a:Wm):Kp P a a:=⟨Kw.refl P a,rfl⟩
def Kp.trans (h:Kp P a b) (k:Kp P b c):Kp P a c:=⟨h.toKw.trans k.toKw,k.calls.trans h.calls⟩
abbrev RK {α:Type} (P:Env) (w:Wm) (r:Rz Wm α):Prop:=r.all (λ_ a=>Kp P w a)<|Kw P w
variable {bB:Type}
def RK.ok (v:bB) (w:Wm):RK P w (.ok v w):=Kp.refl P w
def RK.ov {α:Type} (e:Int) (w:Wm):RK (α:=α) P w (.ov e w):=Kw.refl P w
variable {iZ:Type} {hZ:Rz Wm bB}
def RK.bind {w:Wm}  {f:bB->Wm->Rz Wm iZ} (h:RK P w hZ) (k:∀v a,RK P a (f v a)):RK P w (hZ.bind f):=
 Rz.all_bind<|Rz.rx h (λv a c=>Rz.rx (k v a) (λ_ _ b=>c.trans b) λ_ b=>c.toKw.trans b) λ_ h=>h
abbrev EK (P:Env) (k:Ev):Prop:=∀loc w,RK P w (k loc w)
abbrev CK (P:Env) (call:Cl):Prop:=∀u loc body w,RK P w (call u loc body w)
def Kx (w:Wm):RK P w (ky P w):=by
 unfold ky
 split
 · exact .ov _ _
 · rename_i h
   exact ⟨⟨Nat.le_succ _,λa=>by show w.aM+1<=P.aD; omega,O,id,yi⟩,O⟩
variable {qD:List Ev}
def y2 (h:∀k ∈ qD,EK P k) (i:Nat):EK P (iu qD i):=λloc w=>by
 unfold iu
 cases a:qD[i]? with
 | none=>exact .ok _ _
 | some k=>exact h k (az a) loc w
def Ky:∀{ks:List Ev},(∀k ∈ ks,EK P k)->∀loc w,RK P w (jx loc ks w)
 | [],_,_,w=>.ok _ w
 | k::r,h,loc,w=>(h k ai loc w).bind λv a=>(Ky (λx b=>h x (by simp [b])) loc a).bind λ_ c=>.ok _ c
def Kz {k:Ev} (h:EK P k) (n:Int) (loc:List Int) (w:Wm):RK P w (cL n k loc w):=(h loc w).bind λi a=>by
 split
 · exact .ov _ _
 · exact .ok _ _
variable {gQ:Cl}
def KA (a:CK P gQ)  (h:∀k ∈ qD,EK P k) (u:Nat) (m pl:Int) (loc:List Int) (w:Wm):RK P w (ol P gQ u m pl qD loc w):=by
 unfold ol
 split
 · exact (Ky h loc w).bind λvs b=>a _ _ _ _
 · exact .ok _ _
def HT (op a b:Int) (w:Wm):RK P w (kV op a b w):=by
 unfold kV
 repeat' split
 all_goals first | exact .ok _ _ | exact .ov _ _
def Rq (f:CK P gQ)  (h:∀k ∈ qD,EK P k) (u:Nat) (op n m pl:Int) (loc:List Int) (w:Wm):RK P w (kW P gQ u op n m pl qD loc w):=by
 unfold kW;have c:=y2 h 0;have e:=y2 h 1
 split
 · exact .ok _ _
 · split
   · split
     · exact .ok _ _
     · exact ⟨⟨cQ _,id,O,id,yi⟩,O⟩
   · split
     · exact .ok _ _
     · split
       · exact .ok _ _
       · split
         · exact (Kz c n loc w).bind λ_ _=>.ok _ _
         · split
           · exact KA f h u m pl loc w
           · split
             · exact (c loc w).bind λ_ _=>.ok _ _
             · split
               · exact (c loc w).bind λv d=>by
                   split
                   · exact .ok _ _
                   · exact (e loc d).bind λ_ _=>.ok _ _
               · split
                 · exact (c loc w).bind λv d=>by
                     split
                     · exact (e loc d).bind λ_ _=>.ok _ _
                     · exact .ok _ _
                 · exact (c loc w).bind λa d=>(e loc d).bind λb g=>HT op a b g
mutual
def KB (a:CK P gQ) (u:Nat):∀x,EK P (eO P gQ u x)
 | .mk op n m pl args=>λloc w=>by rw [eO]; exact Rq a (FF a u args) u op n m pl loc w
def FF (b:CK P gQ) (u:Nat):∀l,∀k ∈ gb P gQ u l,EK P k
 | []=>by rw [gb]; simp
 | x::r=>λk a=>by
   rw [gb] at a
   rcases ep.1 a with rfl | a
   · exact KB b u x
   · exact FF b u r k a
end
abbrev FK {α:Type} (P:Env) (f:Fm) (r:Rz Fm α):Prop:=r.all (λ_ a=>Kp P f.w a.w/\a.loc.length=f.loc.length)<|Kw P f.w
def FK.ok (v:bB) (f:Fm):FK P f (.ok v f):=⟨Kp.refl P f.w,rfl⟩
def FK.B4 (v:bB) {f a:Fm} (h:Kp P f.w a.w) (b:a.loc.length=f.loc.length):FK P f (.ok v a):=⟨h,b⟩
def FK.bind {f:Fm} {r:Rz Fm bB} {g:bB->Fm->Rz Fm iZ} (h:FK P f r) (k:∀v a,FK P a (g v a)):FK P f (r.bind g):=
 Rz.all_bind<|Rz.rx h (λv a c=>Rz.rx (k v a) (λ_ _ b=>⟨c.1.trans b.1,b.2.trans c.2⟩) λ_ b=>c.1.toKw.trans b) λ_ h=>h
def FK.fr {f:Fm}  (h:RK P f.w hZ):FK P f (Rz.fr f hZ):=Rz.xv<|Rz.rx h (λ_ _ h=>⟨h,rfl⟩) λ_ h=>h
def KC {c:Fm->Rz Fm Int} {b:Fm->Rz Fm Bool} (a:∀f,FK P f (c f)) (d:∀f,FK P f (b f)):∀n f,FK P f (kX P c b n f)
 | 0,f=>.ok _ f
 | n+1,f=>(a f).bind λv e=>by
   split
   · exact .ok _ _
   · exact (FK.fr<|Kx e.w).bind λ_ g=>(d g).bind λt h=>by
       split
       · exact .ok _ _
       · exact KC a d n h
def Rr (v:Int) (w:Wm):RK P w (yW v w):=by
 unfold yW
 split
 · exact .ov _ _
 · rename_i h
   exact ⟨⟨cQ _,id,O,λa=>by show (w.out++[v]).length<=200; rw [jE,yg]; omega,List.prefix_append _ _⟩,O⟩
def Ik (d:CK P gQ)  (h:∀k ∈ qD,EK P k) {body other:Fm->Rz Fm Bool} (c:∀f,FK P f (body f)) (e:∀f,FK P f (other f)) (u:Nat) (op n m pl:Int) (f:Fm):FK P f (oo P gQ u op n m pl qD body other f):=by
 unfold oo;have b:∀f:Fm,FK P f (Rz.fr f<|iu qD 0 f.loc f.w):=λf=>FK.fr<|y2 h 0 f.loc f.w;have g:∀f:Fm,FK P f (Rz.fr f<|iu qD 1 f.loc f.w):=λf=>FK.fr<|y2 h 1 f.loc f.w
 split
 · refine (b f).bind λv a=>?_
   split
   · exact FK.B4 _ (Kp.refl P _) ai
   · exact FK.B4 _ ⟨⟨cQ _,id,ai,id,yi⟩,O⟩ O
 · split
   · exact (FK.fr<|Kz (y2 h 0) n f.loc f.w).bind λi a=>(g a).bind λv j=>FK.B4 _ ⟨⟨cQ _,id,ai,id,yi⟩,O⟩ O
   · split
     · exact (FK.fr<|KA d h u m pl f.loc f.w).bind λ_ a=>.ok _ _
     · split
       · refine (b f).bind λv a=>?_
         split
         · exact e a
         · exact c a
       · split
         · exact KC b c _ f
         · split
           · exact (b f).bind λv a=>FK.B4 _ (Kp.refl P _) O
           · split
             · exact (b f).bind λv a=>(FK.fr<|Rr v a.w).bind λ_ j=>.ok _ _
             · exact .ok _ _
mutual
def Rt (a:CK P gQ) (u:Nat):∀x f,FK P f (kY P gQ u x f)
 | .mk op n m pl args body other,f=>by rw [kY]; exact Ik a (FF a u args) (y3 a u body) (y3 a u other) u op n m pl f
def y3 (a:CK P gQ) (u:Nat):∀l f,FK P f (gq P gQ u l f)
 | [],f=>by rw [gq]; exact .ok _ _
 | x::r,f=>by
   rw [gq]
   exact (Rt a u x f).bind λt b=>by
     split
     · exact .ok _ _
     · exact y3 a u r b
end
def B5:∀d,CK P (cM P d)
 | 0=>λ_ _ _ w=>.ok _ w
 | d+1=>λu loc body w=>by
   unfold cM;refine (Kx w).bind λ_ b=>?_
   split
   · exact .ov _ _
   · have h:=y3 (B5 d) u body ⟨loc,0,{ b with calls:=b.calls+1 }⟩
     cases c:gq P (cM P d) u body ⟨loc,0,{ b with calls:=b.calls+1 }⟩ with
     | ok t f=>
       rw [c] at h;have a:Kp P { b with calls:=b.calls+1 } f.w:=h.1;exact ⟨⟨a.aM,a.aD,a.len,a.out,a.pre⟩,by show f.w.calls-1=b.calls; have:=a.calls; simp at this; omega⟩
     | ov e g=>
       rw [c] at h;have a:Kw P { b with calls:=b.calls+1 } g:=h;exact ⟨a.aM,a.aD,a.len,a.out,a.pre⟩
end
end Go.Bw
end
section
namespace Go.Bw
open Go
variable {cr:List ec} {aH bQ bj ln k0:Int} {Z:Nat}
def B6 (h:node1 cr aH bQ bj ln k0 Z=true):(bQ=3->jv cr ln k0 1=true)/\(bQ=4->(1<=bj/\bj<=32)/\jv cr ln k0 bj=true)/\(bQ=5->jf cr ln k0 Z=true)/\(bQ=16->0<=k0/\k0<aH):=by
 refine ⟨λe=>?_,λe=>?_,λe=>?_,λe=>?_⟩
 · subst e; rw [node1,ZX a8,ZZ rfl] at h; exact (eH.1 h).2
 · subst e; rw [node1,ZX a8,ZX a8,ZZ rfl] at h
   obtain ⟨a,b⟩:=eH.1 h;exact ⟨by simpa [qx] using (eH.1 a).1,b⟩
 · subst e; rw [node1,ZX a8,ZX a8,ZX a8,ZZ rfl] at h; exact (eH.1 h).2
 · subst e; rw [node1,ZX a8,ZX a8,ZX a8,ZX a8,ZZ rfl] at h
   simpa [qw] using (eH.1 h).2
def Ru (h:jv cr aH bQ bj=true):0<=aH:=by
 cases a:mu cr aH bQ with
 | true=>rw [yP bj a] at h; cases h
 | false=>obtain ⟨⟨b,e,_⟩,_⟩:=yQ a; omega
variable {aw cy:Nat}
def B7 (h:aW cr aH bQ bj ln k0 Z aw cy=true):(bQ=1->(ln<0->0<=k0/\k0<aH)/\(¬ln<0->jv cr ln k0 1=true))/\(bQ=2->(1<=bj/\bj<=32)/\jv cr ln k0 bj=true)/\(bQ=3->jf cr ln k0 Z=true):=by
 refine ⟨λe=>?_,λe=>?_,λe=>?_⟩
 · subst e; rw [aW,ZZ rfl] at h
   have b:=(eH.1 h).2
   rcases D4.1 b with a | a
   · obtain ⟨c,f⟩:=eH.1 a
     have c:ln = -1:=by simpa using c
     exact ⟨λ_=>by simpa [qw] using f,λd=>absurd aa d⟩
   · have:=Ru a
     exact ⟨λd=>absurd this aa,λ_=>a⟩
 · subst e; rw [aW,ZX a8,ZZ rfl] at h
   obtain ⟨g,b⟩:=eH.1 h;exact ⟨by simpa [qx] using (eH.1 g).2,b⟩
 · subst e; rw [aW,ZX a8,ZX a8,ZZ rfl] at h; exact (eH.1 h).2
variable {bB iZ ss:Type} {B8:Rz bB iZ} {FG:iZ->bB->Rz bB ss} {gh:bB}
def fK {a:iZ}  (h:B8 = .ok a gh):B8.bind FG=FG a gh:=by rw [h]; rfl
variable {bb:Wm}
def iw (h:B8 = .ov aH bb):B8.bind FG = .ov aH bb:=by rw [h]; rfl
variable {hZ:Rz Wm bB} {nB:Fm}
def bL (h:hZ = .ok gh bb):Rz.fr nB hZ = .ok gh { nB with w:=bb }:=by rw [h]; rfl
def qE (h:hZ = .ov aH bb):Rz.fr nB hZ = .ov aH bb:=by rw [h]; rfl
variable {gv:Env} {gQ:Cl} {fT:List dr}
def kc {i:Nat} {y:dr} (h:fT[i]? = some y):iu (gb gv gQ Z fT) i=eO gv gQ Z y:=by
 unfold iu; rw [Fx,e4,h]; rfl
variable {bn:dr}
def kC (h:gA cr aH fT Z=true) (a:fT[aw]? = some bn):jg cr aH bn Z=true:=by
 rw [yR] at h; exact gN.1 h bn<|az a
def B9 (h:jg cr aH bn Z=true):node1 cr aH bn.op bn.n bn.m bn.pl bn.args.length=true/\gA cr aH bn.args (Z+1)=true:=by
 rw [Fl] at h;exact eH.1 (eH.1 h).2
variable {iK:List c_} {fJ:c_}
def Rv (h:a9 cr aH iK Z=true) (a:iK[aw]? = some fJ):jN cr aH fJ Z=true:=by
 rw [BR] at h; exact gN.1 h fJ<|az a
def g1 (h:gO cr aH iK Z=true):a9 cr aH iK Z=true:=by
 unfold gO at h; exact (eH.1 (eH.1 h).2).2
def B' (h:jN cr aH fJ Z=true):aW cr aH fJ.op fJ.n fJ.m fJ.pl fJ.args.length fJ.body.length fJ.other.length=true/\gA cr aH fJ.args 1=true/\(fJ.op=4\/fJ.op=5->a9 cr aH fJ.body (Z+1)=true)/\a9 cr aH fJ.other (Z+1)=true:=by
 rw [qF] at h;obtain ⟨d,b⟩:=eH.1 h;obtain ⟨b,a⟩:=eH.1 b;obtain ⟨a,c⟩:=eH.1 a;refine ⟨d,b,λe=>?_,?_⟩
 · rw [show qy fJ.op=true from by unfold qy; rcases e with e | e<;>rw [e]<;>decide] at a
   exact g1 (by simpa using a)
 · cases f:fJ.other with
   | nil=>rw [a9]
   | cons y r=>rw [f] at c; exact g1 (by simpa using c)
def KD (loc:List Int) (w:Wm) (h:fT[aw]? = some bn):jx loc (gb gv gQ Z<|fT.drop aw) w=(eO gv gQ Z bn loc w).bind λv w=>(jx loc (gb gv gQ Z<|fT.drop<|aw+1) w).bind λvs w=>.ok (v::vs) w:=by
 obtain ⟨a,b⟩:=cq.1 h;rw [pt a,b,gb]; rfl
variable {ff FH:List Int} {w9:Rz Wm (List Int)}
def Rw {w a:Wm}  (h:w9=(jx ff (gb gv gQ Z<|fT.drop aw) w).bind λvs w=>.ok (FH++vs) w) (b:fT[aw]? = some bn) (c:eO gv gQ Z bn ff w = .ok aH a) :
   w9=(jx ff (gb gv gQ Z<|fT.drop<|aw+1) a).bind λvs w=>.ok ((FH++[aH])++vs) w:=by
 rw [h,KD ff w b,fK c]
 cases jx ff (gb gv gQ Z<|fT.drop<|aw+1) a with
 | ok vs d=>show Rz.ok _ _=Rz.ok _ _; simp
 | ov e d=>rfl
def Rx {w a:Wm}  (h:w9=(jx ff (gb gv gQ Z<|fT.drop aw) w).bind λvs w=>.ok (FH++vs) w) (b:fT[aw]? = some bn) (c:eO gv gQ Z bn ff w = .ov aH a):w9 = .ov aH a:=by
 rw [h,KD ff w b,iw c]; rfl
def Ry {loc pre:List Int}  {w:Wm} (h:w9=(jx loc (gb gv gQ Z<|fT.drop aw) w).bind λvs w=>.ok (pre++vs) w) (hi:fT.length<=aw):w9 = .ok pre w:=by
 rw [h,uL hi,gb]; show Rz.ok _ _=_; simp
def JC {w:Wm}:jx ff (gb gv gQ Z fT) w=(jx ff (gb gv gQ Z<|fT.drop 0) w).bind λvs w=>.ok ([]++vs) w:=by
 rw [List.drop_zero]
 cases jx ff (gb gv gQ Z fT) w with
 | ok vs a=>rfl
 | ov e a=>rfl
def xE {z:b8} {p:hx} (a:gv.mod Z aH=aw) (b:bQ=cy) (c:gv.l[aw]? = some z) (d:z.parts[cy]? = some p) (ks:List Ev) (loc:List Int) (w:Wm) :
   ol gv gQ Z aH bQ ks loc w=(jx loc ks w).bind λvs w=>gQ aw (vs++List.replicate p.locals.toNat 0) p.body w:=by
 unfold ol; rw [a,c,b,i']; show (match z.parts[cy]? with | some p=>_ | none=>_)=_; rw [d]
def RA (a:ff.length=aw) (b:aw<Z):(ff++List.replicate (Z-aw) 0)[aw]? = some 0:=by
 rw [nc aa,D5,ZZ aa]
def RB (v:Int) (a:ff.length=aw) (b:aw<Z):(ff++List.replicate (Z-aw) 0).set aw v=(ff++[v])++List.replicate (Z-(aw+1)) 0:=by
 rw [H8 _ _ aa,show Z-aw=(Z-(aw+1))+1 by omega,AI,show aw-ff.length=0 by omega];simp
def vp {l:List b8} (h:bu l):c9 l<=512:=by
 rcases Fy h.data with ⟨_,a⟩ | a
 · omega
 · subst a; decide
end Go.Bw
end
section
namespace Go.Bw
open Go
variable {aU:List UInt8}
def KF:∀{l r:List (List UInt8)} {s:Nat},aU ∈ l->idxOf aU (l++r) s=idxOf aU l s
 | [],_,_,h=>by simp at h
 | y::q,r,s,h=>by
   rw [h5,idxOf,idxOf]
   by_cases e:y=aU
   · rw [ZZ e,ZZ e]
   · rw [ZX e,ZX e,KF (l:=q)]
     rcases ep.1 h with h | h
     · exact absurd h.symm e
     · exact h
variable {cw:List (List UInt8)} {Z:Nat}
def RC (h:aU ∈ cw.take Z):idxOf aU (cw.take Z) 0=idxOf aU cw 0:=by
 conv=>rhs; rw [<-qg Z cw,KF h]
def B_ {n:Nat} (h:aU ∉ cw) (a:cw.length=n):aan aU (.int .i64 (n:Int)) (kT cw 0) n=kT (cw++[aU]) 0/\j7 aU (kT cw 0) n=n+1:=by
 subst a
 have b:dC aU (kT cw 0) 0=none:=by
   have:=Fs aU cw 0 0;rw [sj.2 h] at this
   simpa using this
 unfold aan j7;rw [b,Kb];simp
def KG (c:cw.Nodup) (b:cw[Z]? = some aU):aU ∉ cw.take Z:=λd=>by
 obtain ⟨j,a⟩:=iE d;rw [jq] at a
 split at a
 · rename_i e
   have hi:=(cq.1 b).1;have:=(e5 hi c).1 (b.trans a.symm);omega
 · cases a
def b3 (l:List b8) (s:List UInt8):Nat:=(idxOf s (eS l) 0).getD 0
variable {bJ:List b8} {cx:b8}
def FI (h:bJ[Z]? = some cx):(o5 bJ).take (Z+1)=(o5 bJ).take Z++[Z::cx.aA.map (b3 bJ)]:=by
 rw [gV,vm h]; rfl
def KH:∀{l:List b8} {s i:Nat} {u:b8},l[i]? = some u->(ih l s)[i]? = some (s+c9 (l.take i))
 | [],_,_,_,h=>by simp at h
 | x::r,s,0,u,h=>by simp [ih,c9]
 | x::r,s,i+1,u,h=>by
   rw [ih,lL,KH (l:=r) (by simpa using h),nb];simp only [c9]; congr 1; omega
def RD (h:bJ[Z]? = some cx):(ih bJ 0).take (Z+1)=(ih bJ 0).take Z++[c9 (bJ.take Z)]:=by
 rw [gV,KH h,lK]; rfl
def KI:∀{l:List b8} {i:Nat} {u:b8},l[i]? = some u->c9 (l.take<|i+1)=c9 (l.take i)+u.data.toNat
 | [],_,_,h=>by simp at h
 | x::r,0,u,h=>by simp at h; subst h; simp [c9]
 | x::r,i+1,u,h=>by
   rw [nb,nb,c9,c9,KI (l:=r) (by simpa using h)]; omega
def KJ:∀(l:List b8) (i:Nat),c9 (l.take i)<=c9 l
 | [],i=>by simp
 | x::r,0=>by simp [c9]
 | x::r,i+1=>by rw [nb,c9,c9]; have:=KJ r i; omega
variable {gv:Env}
def yt (w:Wm) (h:bJ[Z]? = some cx):kz gv (bJ.drop Z) Z w=(cM gv 25 Z [] cx.main w).bind λ_ w=>kz gv (bJ.drop<|Z+1) (Z+1) w:=by
 obtain ⟨a,b⟩:=cq.1 h;rw [pt a,b,kz]
def RE (w:Wm) (h:bJ.length<=Z):kz gv (bJ.drop Z) Z w = .ok () w:=by rw [uL h,kz]
def g6 (l:List b8) (bg:List Int) (aM:Int):kZ:=if ny l bg aM=0 then o6 l bg aM.toNat else Kh
variable {ff:List Int} {aH:Int}
def FJ (h:ny bJ ff aH≠0):g6 bJ ff aH=Kh:=ZX h
def su (l:List b8) (bg:List Int):Wm:=⟨List.replicate (c9 l) 0,bg,[],0,0⟩
variable {bb:Wm}
def RF {x:Unit} (h:ny bJ ff aH=0) (a:kz (aO bJ aH.toNat) bJ 0 (su bJ ff) = .ok x bb):g6 bJ ff aH=vl bb 0:=by
 unfold g6 o6; rw [ZZ h,show (⟨List.replicate (c9 bJ) 0,ff,[],0,0⟩:Wm)=su bJ ff from rfl,a]
def RG {e:Int} (h:ny bJ ff aH=0) (a:kz (aO bJ aH.toNat) bJ 0 (su bJ ff) = .ov e bb):g6 bJ ff aH=vl bb e:=by
 unfold g6 o6; rw [ZZ h,show (⟨List.replicate (c9 bJ) 0,ff,[],0,0⟩:Wm)=su bJ ff from rfl,a]
abbrev XI:=List Nat×(Option Addr×Nat)
def XI.cells (e:XI):List Value:=[.slice e.2.1 e.1.length e.2.2]
def XI.cD (e:XI):(XI.cells e).length=1:=rfl
structure KW where
 l:Option Addr×Nat
 u:Option Addr×Nat
 b:Option Addr×Nat
structure eU where
 w:Wm
 i:Option Addr×Nat
 o:Option Addr×Nat
 d:Option Addr×Nat
def lX (T:TypeId) (a:KW) (P:Env) (s:eU):Obj:=.cells #[.slice a.l.1 P.l.length a.l.2,.slice a.u.1 P.aA.length a.u.2,.slice a.b.1 P.qA.length a.b.2,.slice s.i.1 s.w.bg.length s.i.2,.int .i64 (P.aD:Int),.int .i64 (s.w.calls:Int),.int .i64 0,.slice s.o.1 s.w.out.length s.o.2,.slice s.d.1 s.w.data.length s.d.2,.int .i64 (s.w.aM:Int)] T (0,0)
abbrev dK (T a:TypeId) (b:Nat) (c:KW) (P:Env) (s:eU):List aQ:=[aq b (lX T c P s),cC a 1 g5 s.o.1 s.o.2 s.w.out,cC a 1 g5 s.d.1 s.d.2 s.w.data]
def tV (T:TypeId) (a u:Nat) (x:Option Addr×Nat) (n:Nat) (v:Int):Obj:=.cells #[.pointer (some ⟨a,0,none⟩),.int .i64 (u:Int),.slice x.1 n x.2,.int .i64 v] T (0,0)
abbrev fO (T a:TypeId) (b c u:Nat) (x:Option Addr×Nat) (loc:List Int) (v:Int):List aQ:=[aq b (tV T c u x loc.length v),cC a 1 g5 x.1 x.2 loc]
def my (T:TypeId) (e:Int):List PanicEntry:=[⟨.iface T<|.agg #[.int .i64 e],false,false⟩]
def KL (a:View) (b o:Nat) (x:List Nat):Prop:=∃r:Option Addr×Nat,ar a b o [.slice r.1 x.length r.2]/\Sl pQ 1 a r.1 r.2 x
structure iN (H:View) (P:Env) (D C:Nat) (s:eU):Prop where
 bg:Sl hy 1 H s.i.1 s.i.2 s.w.bg
 out:s.w.out.length<=200
 tk:s.w.aM<=P.aD
 aap:s.w.data.length=D
 cl:s.w.calls=C
structure ry (H:View) (n:Nat) (K:KW) (l:List b8) (aD:Nat):Prop where
 ok:bu l
 aD:aD<=2000
 RH:Sl (ve n) 5 H K.l.1 K.l.2 l
 aA:Sl KL 1 H K.u.1 K.u.2 (o5 l)
 qA:Sl pQ 1 H K.b.1 K.b.2 (ih l 0)
def qN:∀(l:List b8) (s:Nat),(ih l s).length=l.length
 | [],_=>rfl
 | u::r,s=>by rw [ih,gf,gf,qN r]
def KM (l:List b8):(o5 l).length=l.length:=by simp [o5]
def XI.one (e:XI):(XI.cells e).all (·.oneCell')=true:=rfl
def KN (a:View) (b o:Nat) (e:XI):Prop:=ar a b o<|XI.cells e
def pS (J:View) (e:XI):Prop:=Sl pQ 1 J e.2.1 e.2.2 e.1
variable {an b4:View}
def KO (hv:bG an b4) (b o:Nat) (x:Nat) (h:pQ an b o x):pQ b4 b o x:=ar.mono hv h
def pS.mv {e:XI} (hv:bG an b4) (h:pS an e):pS b4 e:=Sl.imp (λb o x h=>KO hv b o x h) h
def RI {c J N:View}  {a:Option Addr} {es:List XI} (h:Sl KN 1 c a Z es) (hv:bG c N) (d:bG J N) (f:Xs pS J es):Sl KL 1 N a Z (es.map (·.1)):=
 vd h f λb o e g i=>⟨e.2,ar.mono hv g,pS.mv d i⟩
def FL (T:TypeId) (a us b c:Value) (aD:Int) (aap:Value):Obj:=.cells #[a,us,b,c,.int .i64 aD,.int .i64 0,.int .i64 0,.slice none 0 0,aap,.int .i64 0] T (0,0)
def RJ (T:TypeId) (e:Int) (s:eU):Obj:=.cells #[.int .i64 e,.slice s.o.1 s.w.out.length s.o.2,.slice s.d.1 s.w.data.length s.d.2,.int .i64 (s.w.aM:Int)] T (0,0)
structure Ca where
 i:Nat
 es:List XI
 ua:Option Addr×Nat
 ba:Option Addr×Nat
 J:View
def RL (hv:bG an b4) (n:Nat) (b o:Nat) (u:b8) (h:ve n an b o u):ve n b4 b o u:=by
 obtain ⟨r,a,c⟩:=h;exact ⟨r,ar.mono hv a,c.mv hv⟩
def RM (R:kZ) (r:(Option Addr×Nat)×(Option Addr×Nat)):Value:=.agg #[.int .i64 R.fin,.slice r.1.1 R.out.length r.1.2,.slice r.2.1 R.data.length r.2.2,.int .i64 R.aM]
end Go.Bw
end
section
namespace Go.Bw
open Go
def Sm {b α:Type} (f:b->b->Prop) (g:Wm->Wm->Prop) (h:Prop) (o:b->List Int) (r1 r2:Rz b α):Prop:=match r1 with
 | .ok a s1=>∃s2,r2 = .ok a s2/\f s1 s2
 | .ov e c=>(∃d,r2 = .ov e d/\g c d)\/(h/\e=3/\r2.all (λ_ s=>c.out <+: o s) (λw=>c.out <+: w.out))
def KP (w:Wm):Rz Wm Int:=match w.bg with | []=>.ok 0 w | x::r=>.ok x { w with bg:=r }
structure JF (P1 P2:Env) (E G:Wm->Wm->Prop) (X:Prop):Prop where
 l:P1.l=P2.l
 aA:P1.aA=P2.aA
 qA:P1.qA=P2.qA
 eg:∀{a b},E a b->G a b
 data:∀{a b},E a b->a.data=b.data
 out:∀{a b},E a b->a.out=b.out
 calls:∀{a b},E a b->a.calls=b.calls
 tk:∀{a b},E a b->a.aM=b.aM/\a.aM<=P1.aD/\P1.aD<=P2.aD
 tick:∀{a b},E a b->Sm E G X (·.out) (ky P1 a) (ky P2 b)
 read:∀{a b},E a b->Sm E G X (·.out) (KP a) (KP b)
 ZE:∀{a b} d,E a b->E { a with data:=d } { b with data:=d }
 ZF:∀{a b} d,E a b->E { a with out:=d } { b with out:=d }
 ZG:∀{a b} d,E a b->E { a with calls:=d } { b with calls:=d }
section
variable {P1 P2:Env} {E G:Wm->Wm->Prop} {X:Prop}
abbrev SW {α:Type} (a b:Wm->Wm->Prop) (c:Prop) (r1 r2:Rz Wm α):Prop:=Sm a b c (·.out) r1 r2
structure EF (E:Wm->Wm->Prop) (f g:Fm):Prop where
 loc:f.loc=g.loc
 val:f.val=g.val
 w:E f.w g.w
abbrev SF {α:Type} (a b:Wm->Wm->Prop) (c:Prop) (r1 r2:Rz Fm α):Prop:=Sm (EF a) b c (·.w.out) r1 r2
variable {bB iZ:Type} {hZ Bn:Rz Wm bB}
def SW.bind (f:Env)   {c b:bB->Wm->Rz Wm iZ} (h:SW E G X hZ Bn) (k:∀a s1 s2,E s1 s2->SW E G X (c a s1) (b a s2)) (m:∀a s,RK f s (b a s)):SW E G X (hZ.bind c) (Bn.bind b):=by
 cases hZ with
 | ok a s1=>obtain ⟨s2,rfl,g⟩:=h; exact k a s1 s2 g
 | ov e p=>
   rcases h with ⟨i,rfl,j⟩ | ⟨l,n,o⟩
   · exact .inl ⟨i,O,j⟩
   · refine .inr ⟨l,n,Rz.all_bind<|Rz.rx o (λa s d=>?_) λ_ h=>h⟩
     exact Rz.rx (m a s) (λ_ _ h=>d.trans h.pre) λ_ h=>d.trans h.pre
def SF.bind (f:Env)  {r1 r2:Rz Fm bB} {c b:bB->Fm->Rz Fm iZ} (h:SF E G X r1 r2) (k:∀a s1 s2,r2 = .ok a s2->EF E s1 s2->SF E G X (c a s1) (b a s2)) (m:∀a s,FK f s (b a s)):SF E G X (r1.bind c) (r2.bind b):=by
 cases r1 with
 | ok a s1=>obtain ⟨s2,rfl,g⟩:=h; exact k a s1 s2 rfl g
 | ov e p=>
   rcases h with ⟨i,rfl,j⟩ | ⟨l,n,o⟩
   · exact .inl ⟨i,O,j⟩
   · refine .inr ⟨l,n,Rz.all_bind<|Rz.rx o (λa s d=>?_) λ_ h=>h⟩
     exact Rz.rx (m a s) (λ_ _ h=>d.trans h.1.pre) λ_ h=>d.trans h.pre
def SF.fr {f g:Fm} (h:SW E G X hZ Bn) (b:EF E f g):SF E G X (Rz.fr f hZ) (Rz.fr g Bn):=by
 cases hZ with
 | ok a s1=>obtain ⟨s2,rfl,c⟩:=h; exact ⟨_,rfl,b.loc,b.val,c⟩
 | ov e m=>
   rcases h with ⟨d,rfl,i⟩ | ⟨j,k,l⟩
   · exact .inl ⟨d,O,i⟩
   · exact .inr ⟨j,k,Rz.xv<|Rz.rx l lH λ_ h=>h⟩
variable {bb lE:Wm}
def SW.ok (a:bB)  (h:E bb lE):SW E G X (.ok a bb) (.ok a lE):=⟨lE,rfl,h⟩
def SF.ok (a:bB) {s1 s2:Fm} (h:EF E s1 s2):SF E G X (.ok a s1) (.ok a s2):=⟨s2,rfl,h⟩
def SW.ov {α:Type} (S:JF P1 P2 E G X) (e:Int)  (h:E bb lE):SW (α:=α) E G X (.ov e bb) (.ov e lE):=.inl ⟨lE,rfl,S.eg h⟩
structure EE (P2:Env) (E G:Wm->Wm->Prop) (X:Prop) (k1 k2:Ev):Prop where
 go:∀loc {a b},E a b->SW E G X (k1 loc a) (k2 loc b)
 kp:EK P2 k2
structure CC (P2:Env) (E G:Wm->Wm->Prop) (X:Prop) (c1 c2:Cl):Prop where
 go:∀u loc body {a b},E a b->SW E G X (c1 u loc body a) (c2 u loc body b)
 kp:CK P2 c2
inductive KE (P2:Env) (E G:Wm->Wm->Prop) (X:Prop):List Ev->List Ev->Prop where
 | nil:KE P2 E G X [] []
 | cons {x y:Ev} {r q:List Ev} (h:EE P2 E G X x y) (t:KE P2 E G X r q):KE P2 E G X (x::r) (y::q)
def KE.kp:∀{k1 k2:List Ev},KE P2 E G X k1 k2->∀k ∈ k2,EK P2 k
 | _,_,.nil,k,h=>by simp at h
 | _,_,.cons a b,k,h=>by
   rcases ep.1 h with rfl | h
   · exact a.kp
   · exact KE.kp b k h
def KE.iu:∀{k1 k2:List Ev},KE P2 E G X k1 k2->∀i,EE P2 E G X (iu k1 i) (iu k2 i)
 | _,_,.nil,i=>⟨λloc a b h=>SW.ok _ h,λloc w=>.ok _ _⟩
 | _,_,.cons c d,0=>c
 | _,_,.cons c d,i+1=>KE.iu d i
structure AA (P2:Env) (E G:Wm->Wm->Prop) (X:Prop) (b1 b2:Fm->Rz Fm Bool):Prop where
 go:∀{f g},EF E f g->SF E G X (b1 f) (b2 g)
 kp:∀f,FK P2 f (b2 f)
end
end Go.Bw
end
section
namespace Go.Bw
open Go
structure ZJ (aD:Nat) (a b:Wm):Prop where
 data:a.data=b.data
 out:a.out=b.out
 aM:a.aM=b.aM
 calls:a.calls=b.calls
 tl:a.aM<=aD
 bg:b.bg=a.bg++[0]\/(a.bg=[]/\b.bg=[])
def KS {l:List b8} {bg:List Int} {aM:Int}:ny l bg aM=0↔jO l=0/\bg.length<=64/\0<=aM/\aM<=2000:=by
 unfold ny er
 by_cases h:jO l=0
 · rw [ZZ h]
   by_cases a:64<bg.length
   · rw [ZZ a]; constructor<;>intro b
     · cases b
     · omega
   · rw [ZX a]
     by_cases b:(decide (aM<0)||decide (2000<aM))=true
     · rw [ZZ b]; simp at b; constructor<;>intro c
       · cases c
       · omega
     · rw [ZX b]; simp at b; exact ⟨λ_=>⟨h,aa,aa,aa⟩,λ_=>rfl⟩
 · rw [ZX h]; exact ⟨λa=>absurd a h,λa=>absurd a.1 h⟩
end Go.Bw
end
section
namespace Go.Bw
open Go
structure Ren (l l':List df) (f:Nat->Nat):Prop where
 len:l'.length=l.length
 inv:∀k,f (f k)=k
 lt:∀k,k<l.length->f k<l.length
 get:∀k,k<l.length->l'[f k]? = l[k]?
variable {jT:Nat->Nat} {Z:Nat}
def Ren.nm {l a:List df}  (h:Ren l a jT)  (b:Z<l.length):lU a (jT Z)=lU l Z:=by unfold lU; rw [h.get Z b]
variable {dg lY:List df}
def Ren.us (h:Ren dg lY jT)  (a:Z<dg.length):rp lY (jT Z)=rp dg Z:=by unfold rp; rw [h.get Z a]
def Ren.back (h:Ren dg lY jT):Ren lY dg jT:=⟨h.len.symm,h.inv,λk a=>by rw [h.len] at a ⊢; exact h.lt k a,λk a=>by
 rw [h.len] at a;have:=h.get (jT k) (h.lt k a);rw [h.inv] at this
 exact this.symm⟩
def Ren.mem (h:Ren dg lY jT) {m:df} (b:m ∈ dg):m ∈ lY:=by
 obtain ⟨k,a⟩:=iE b;have c:=(cq.1 a).1;rw [<-h.get k c] at a;exact az a
def Ren.nodup (h:Ren dg lY jT) (g:(oj dg).Nodup):(oj lY).Nodup:=by
 unfold List.Nodup;rw [AG];intro i j hi a m e;rw [BU] at hi a
 have f:lU lY i=lU lY j:=by
   have b:=yT (c6 hi);have c:=yT (c6 a);rw [c6 (by rw [BU]; exact hi)] at b;rw [c6 (by rw [BU]; exact a)] at c
   injection b with b
   injection c with c
   rw [yS (c6 hi),yS (c6 a),<-b,<-c,e]
 have d:=h.back;rw [<-d.nm hi,<-d.nm a] at f;have k:=Ka g (by have:=d.lt i hi; rw [h.len] at this; exact this) (by have:=d.lt j a; rw [h.len] at this; exact this) f;have l:=congrArg jT k;rw [h.inv,h.inv] at l;omega
def Ren.place (h:Ren dg lY jT) (c:(oj dg).Nodup) {s:List UInt8}  (d:ro dg s=some Z):ro lY s=some (jT Z):=by
 obtain ⟨a,e⟩:=J_ d;have b:=Q9 (h.nodup c) (i:=jT Z) (by rw [h.len]; exact h.lt Z a);rw [h.nm a,e] at b;exact b
def Ren.ok (h:Ren dg lY jT) (a:Fo dg):Fo lY:=
 ⟨by rw [h.len]; exact a.e8,λm b=>a.vi m<|h.back.mem b,h.nodup a.nd,λm b s c=>by
   obtain ⟨p,d⟩:=a.aA m (h.back.mem b) s c
   exact ⟨jT p,h.place a.nd d⟩⟩
def Ren.contains (h:Ren dg lY jT) (d:List Nat) (x:Nat):(d.map jT).contains (jT x)=d.contains x:=by
 rw [kr];simp only [AJ,q6]
 constructor
 · rintro ⟨y,a,e⟩
   have:=congrArg jT e;rw [h.inv,h.inv] at this;rw [<-this]; exact a
 · exact λb=>⟨x,b,O⟩
def Ren.ready (h:Ren dg lY jT) (c:Fo dg) (d:List Nat)  (b:Z<dg.length):yU lY (d.map jT) (jT Z)=yU dg d Z:=by
 unfold yU;rw [h.contains,h.us b]
 congr 1
 have key:∀u:List (List UInt8),(∀s ∈ u,∃p,ro dg s=some p)->u.all (BV lY<|d.map jT)=u.all (BV dg d):=by
   intro u
   induction u with
   | nil=>intro _; rfl
   | cons s r g=>
     intro e;obtain ⟨p,f⟩:=e s ai;rw [hM,hM,g λs a=>e s (by simp [a])]
     congr 1
     unfold BV;rw [f,h.place c.nd f];exact h.contains d p
 refine key _ λs a=>?_;rw [Q8 (c6 b)] at a;exact c.aA _ (D6 b) s a
end Go.Bw
end
section
namespace Go.Bw
open Go
def o7 (a b:List Bool):Prop:=∀j:Nat,a[j]? = some true->b[j]? = some true
def o7.refl (a:List Bool):o7 a a:=λ_ h=>h
def o7.count:∀{a b:List Bool},a.length=b.length->o7 a b->a.count true<=b.count true/\(b.count true<=a.count true->a=b)
 | [],[],_,_=>⟨cQ _,λ_=>rfl⟩
 | [],_::_,h,_=>by cases h
 | _::_,[],h,_=>by cases h
 | x::a,y::b,h,c=>by
   obtain ⟨d,f⟩:=o7.count (a:=a) (b:=b) (by simpa using h) λj g=>by simpa using c (j+1) (by simpa using g)
   have i:x=true->y=true:=λe=>by simpa using c 0 (by simp [e])
   cases x<;>cases y<;>simp at i ⊢
   · exact ⟨d,f⟩
   · exact ⟨aa,aa⟩
   · exact ⟨d,f⟩
def o7.set (a:List Bool) (p:Nat):o7 a (a.set p true):=λj h=>by
 have b:=(cq.1 h).1;rw [H7]
 by_cases e:p=j
 · subst e; simp [b]
 · rw [ZX e]; exact h
def o7.trans {a b c:List Bool} (h:o7 a b) (k:o7 b c):o7 a c:=λj d=>k j<|h j d
def FM (l:List df) (nm:List UInt8) (S:List Bool) (j:Nat):Prop:=S[j]? = some true\/lU l j=nm
def jK (l:List df) (S:List Bool) (s:List UInt8):Prop:=∃p,ro l s=some p/\S[p]? = some true
variable {dg:List df} {y5 y6:List Bool} {aU:List UInt8}
def jK.sub (h:jK dg y5 aU) (a:o7 y5 y6):jK dg y6 aU:=let ⟨p,b,c⟩:=h; ⟨p,b,a p c⟩
def RQ (l:List df) (nm:List UInt8) (S:List Bool):Prop:=∀j,j<l.length->FM l nm S j->∀s ∈ rp l j,jK l S s
structure RR (l:List df) (nm:List UInt8) (S:List Bool):Prop where
 len:S.length=l.length
 sound:∀j,S[j]? = some true->Go.Bw.Reach l nm (lU l j)
structure FN (l:List df) (nm:List UInt8) (S0 S:List Bool) (j:Nat):Prop where
 ok:RR l nm S
 sub:o7 S0 S
 same:RQ l nm S0->S=S0
 done:∀i,i<j->FM l nm S0 i->∀s ∈ rp l i,jK l S s
variable {Z:Nat}
def FN.next (h:FN dg aU y5 y6 Z) (c:FM dg aU y5 Z->∀s ∈ rp dg Z,jK dg y6 s):FN dg aU y5 y6 (Z+1):=
 ⟨h.ok,h.sub,h.same,λi hi b=>by
   rcases ne.1 hi with a | a
   · exact h.done i a b
   · subst a; exact c b⟩
def RS (a b:List UInt8):Prop:=J' a b=true
def RT (l:List df) (S:List Bool) (i:Nat):List (List UInt8):=((List.range i).filter λj=>(S[j]?).getD false).map<|lU l
structure ZL (l:List df) (S:List Bool) (i:Nat) (out:List (List UInt8)):Prop where
 perm:out.Perm (RT l S i)
 up:Q_ RS out out.length
open Go.ChangeShapes Go.WideShapes Go.ChangeAt Go.RowKit Go.Joins Go.Deep
def open_ints {P:Program} {d:Type} {enc:TypeId×Value->d} {w:World}  {g:Nat->Bool} {j:Bool} (m:wW d) {e f:TypeId} (uI:P.underlying e=some (.int .i64)) (n:P.cellsOf e=1) (p:∀b,g b=true) (uS:P.underlying f=some (.slice e))
   {r:_root_.Go.Reach} {s:Nat} {v:Value} {x:DataW d} {pl:List MemPlace} (t:Value.okWide P w r s f v) (h:DataW.Trod enc P w Z g j f v x pl):∃(a:Option Addr) (c:Nat) (l:List Int),v = .slice a l.length c/\Sl hy 1 (hv w) a c l:=by
 obtain ⟨a,k,c,rfl⟩:=okWide_slice uS t;obtain ⟨fuel,h⟩:=h
 obtain ⟨a,c,l,u,A,_⟩:=sf (rd:=hy) m (λ_=>0) (λ_=>0) rfl (λ_ _=>rfl) uS n aa p (λE i y F B C=>by
   obtain ⟨z,rfl⟩:∃z,i=[z]:=by
     match i,C with
     | [z],_=>exact ⟨z,rfl⟩
   obtain ⟨q,rfl⟩:=pI uI B
   exact ⟨q,λb o D=>D,di _⟩) h
 exact ⟨a,c,l,u,A⟩
end Go.Bw
end
section
namespace Go.Bw
open Go
structure w_ where
 w:Wm
 fin:Int
 i:Option Addr×Nat
 o:Option Addr×Nat
def kD {α:Type} (r:Rz Wm α) (v:α) (t:w_):Prop:=(t.fin=0/\r = .ok v t.w)\/(t.fin≠0/\∃c,r = .ov t.fin { t.w with calls:=c })
def RU {α:Type} (s:w_) (r:Rz Wm α) (v:α) (t:w_):Prop:=(s.fin≠0/\t=s)\/(s.fin=0/\kD r v t)
variable {bB:Type} {hZ:Rz Wm bB} {gh:bB} {kE:w_}
def kD.ok (a:kE.fin=0) (h:hZ = .ok gh kE.w):kD hZ gh kE:=.inl ⟨a,h⟩
def kD.ov {α:Type} {r:Rz Wm α} {v:α}  {c:Nat} (a:kE.fin≠0) (h:r = .ov kE.fin { kE.w with calls:=c }):kD r v kE:=.inr ⟨a,c,h⟩
def kD.get (h:kD hZ gh kE) (a:kE.fin=0):hZ = .ok gh kE.w:=by
 rcases h with ⟨_,h⟩ | ⟨h,_⟩
 · exact h
 · exact absurd a h
variable {iZ:Type}
def kD.out (h:kD hZ gh kE) (a:kE.fin≠0) (f:bB->Wm->Rz Wm iZ) (b:iZ):kD (hZ.bind f) b kE:=by
 rcases h with ⟨h,_⟩ | ⟨_,c,h⟩
 · exact absurd h a
 · exact .inr ⟨a,c,iw h⟩
def kD.same {v b:bB}  (h:kD hZ v kE) (a:kE.fin≠0):kD hZ b kE:=by
 rcases h with ⟨h,_⟩ | ⟨_,h⟩
 · exact absurd h a
 · exact .inr ⟨a,h⟩
def kD.then {t c:w_} {f:bB->Wm->Rz Wm iZ} {b:iZ} (h:kD hZ gh t) (k:RU t (f gh t.w) b c):kD (hZ.bind f) b c:=by
 rcases k with ⟨a,rfl⟩ | ⟨a,d⟩
 · exact h.out a f b
 · rw [fK (h.get a)]; exact d
def kD.map {v:bB}  (f:bB->iZ) (h:kD hZ v kE):kD (hZ.bind λv w=>.ok (f v) w) (f v) kE:=by
 rcases h with ⟨a,h⟩ | ⟨a,c,h⟩
 · exact .inl ⟨a,fK h⟩
 · exact .inr ⟨a,c,iw h⟩
def RV (r:Rz Fm Bool) (d:Bool) (loc:List Int) (v:Int) (t:w_):Prop:=(t.fin=0/\r = .ok d ⟨loc,v,t.w⟩)\/(t.fin≠0/\∃c,r = .ov t.fin { t.w with calls:=c })
def kD.fr {loc:List Int} {v:Int} {w:Wm} {f:bB->Fm->Rz Fm Bool} {d:Bool} {b:List Int} {v2:Int} (h:kD hZ gh kE) (a:kE.fin≠0):RV ((Rz.fr ⟨loc,v,w⟩ hZ).bind f) d b v2 kE:=by
 rcases h with ⟨h,_⟩ | ⟨_,c,h⟩
 · exact absurd h a
 · exact .inr ⟨a,c,iw<|qE h⟩
end Go.Bw
end
section
namespace Go.Bw
open Go
structure rz (ks KT:List ec):Prop where
 d:∀m pl n,jv ks m pl n=true->jv KT m pl n=true
 p:∀m pl n,jf ks m pl n=true->jf KT m pl n=true
variable {cr lZ:List ec} {aH bQ bj ln k0:Int} {Z:Nat}
def RW (h:rz cr lZ)   (c:node1 cr aH bQ bj ln k0 Z=true):node1 lZ aH bQ bj ln k0 Z=true:=by
 unfold node1 at c ⊢
 by_cases e:bQ=1
 · rw [ZZ e] at c ⊢; exact c
 rw [ZX e] at c ⊢
 by_cases f:bQ=3
 · rw [ZZ f] at c ⊢; obtain ⟨a,b⟩:=eH.1 c; exact eH.2 ⟨a,h.d _ _ _ b⟩
 rw [ZX f] at c ⊢
 by_cases g:bQ=4
 · rw [ZZ g] at c ⊢; obtain ⟨a,b⟩:=eH.1 c; exact eH.2 ⟨a,h.d _ _ _ b⟩
 rw [ZX g] at c ⊢
 by_cases i:bQ=5
 · rw [ZZ i] at c ⊢; obtain ⟨a,b⟩:=eH.1 c; exact eH.2 ⟨a,h.p _ _ _ b⟩
 rw [ZX i] at c ⊢;exact c
def RX (h:rz cr lZ)  {na e f:Nat} (c:aW cr aH bQ bj ln k0 na e f=true):aW lZ aH bQ bj ln k0 na e f=true:=by
 unfold aW at c ⊢
 by_cases g:bQ=1
 · rw [ZZ g] at c ⊢; obtain ⟨a,b⟩:=eH.1 c; exact eH.2 ⟨a,D4.2<|(D4.1 b).imp id<|h.d _ _ _⟩
 rw [ZX g] at c ⊢
 by_cases i:bQ=2
 · rw [ZZ i] at c ⊢; obtain ⟨a,b⟩:=eH.1 c; exact eH.2 ⟨a,h.d _ _ _ b⟩
 rw [ZX i] at c ⊢
 by_cases j:bQ=3
 · rw [ZZ j] at c ⊢; obtain ⟨a,b⟩:=eH.1 c; exact eH.2 ⟨a,h.p _ _ _ b⟩
 rw [ZX j] at c ⊢;exact c
mutual
def RY (h:rz cr lZ) (aC:Int):∀(x:dr) (d:Nat),jg cr aC x d=true->jg lZ aC x d=true
 | .mk op n m pl args,d,a=>by
   rw [jg] at a ⊢;simp only [dE] at a ⊢;exact ⟨a.1,RW h a.2.1,FO h aC args (d+1) a.2.2⟩
def FO (h:rz cr lZ) (aC:Int):∀(l:List dr) (d:Nat),gA cr aC l d=true->gA lZ aC l d=true
 | [],d,_=>by rw [gA]
 | x::r,d,a=>by
   rw [gA] at a ⊢;simp only [dE] at a ⊢;exact ⟨RY h aC x d a.1,FO h aC r d a.2⟩
end
mutual
def RZ (h:rz cr lZ) (aC:Int):∀(x:c_) (d:Nat),jN cr aC x d=true->jN lZ aC x d=true
 | .mk op n m pl args body other,d,b=>by
   rw [jN] at b ⊢;simp only [dE,yd] at b ⊢;exact ⟨RX h b.1,FO h aC args 1 b.2.1,b.2.2.1.imp id λa=>⟨a.1,a.2.1,lg h aC body (d+1) a.2.2⟩,b.2.2.2.imp id λa=>⟨a.1,a.2.1,lg h aC other (d+1) a.2.2⟩⟩
def lg (h:rz cr lZ) (aC:Int):∀(l:List c_) (d:Nat),a9 cr aC l d=true->a9 lZ aC l d=true
 | [],d,_=>by rw [a9]
 | x::r,d,a=>by
   rw [a9] at a ⊢;simp only [dE] at a ⊢;exact ⟨RZ h aC x d a.1,lg h aC r d a.2⟩
end
def KU (h:rz cr lZ)  {l:List c_}  (a:gO cr aH l Z=true):gO lZ aH l Z=true:=by
 unfold gO at a ⊢;simp only [dE] at a ⊢;exact ⟨a.1,a.2.1,lg h aH l Z a.2.2⟩
def R0 (h:rz cr lZ) {p:hx} (a:lm cr p=true):lm lZ p=true:=by
 unfold lm at a ⊢;simp only [dE] at a ⊢;exact ⟨a.1,KU h a.2⟩
variable {cx:b8}
def KV (h:rz (aE cx::cr) (aE cx::lZ)) (a:ig cx cr=true):ig cx lZ=true:=by
 unfold ig at a ⊢;simp only [dE,gN] at a ⊢;exact ⟨a.1,a.2.1,λp b=>R0 h<|a.2.2.1 p b,KU h a.2.2.2⟩
def lj (k:ec):Prop:=k.oi=true->k.data<=512/\k.parts.length<=6/\∀x ∈ k.parts,x<=3
def yx {b:ec}  (h:∀k ∈ cr,lj k):rz (b::cr) (b::List.replicate cr.length lS):=by
 have q:(b::List.replicate cr.length lS).length=(b::cr).length:=ai
 constructor
 · intro m pl n a
   have hC:mu (b::cr) m pl=false:=by
     cases f:mu (b::cr) m pl with
     | false=>rfl
     | true=>rw [yP n f] at a; cases a
   have d:mu (b::List.replicate cr.length lS) m pl=false:=by unfold mu at hC ⊢; rw [q]; exact hC
   obtain ⟨⟨g,rfl,i⟩,_,_⟩:=yQ hC;obtain ⟨k,c⟩:=cR i;rw [tK hC c] at a
   cases g with
   | zero=>
     have e:b=k:=by simpa using c
     subst e;rw [tK d (k:=b) rfl]; exact a
   | succ j=>
     rw [lL] at c;have l:j<cr.length:=(cq.1 c).1;rw [tK d (k:=lS) (by rw [lL,D5,ZZ l]),ZX a8];have o:=h k (az c)
     split at a
     · rename_i hi
       have:=(o hi).1;have a:=aag a;rw [aaa (show pl+n<=512 by omega)]; simp
     · exact a
 · intro m pl n a
   have hC:mW (b::cr) m pl=false:=by
     cases f:mW (b::cr) m pl with
     | false=>rfl
     | true=>rw [BP n f] at a; cases a
   have d:mW (b::List.replicate cr.length lS) m pl=false:=by unfold mW at hC ⊢; rw [q]; exact hC
   obtain ⟨⟨g,rfl,i⟩,p,rfl⟩:=BQ hC;obtain ⟨k,c⟩:=cR i;rw [sk hC c] at a
   cases g with
   | zero=>
     have e:b=k:=by simpa using c
     subst e;rw [sk d (k:=b) rfl]; exact a
   | succ j=>
     rw [lL] at c;have l:j<cr.length:=(cq.1 c).1;rw [sk d (k:=lS) (by rw [lL,D5,ZZ l]),ZX a8];have o:=h k (az c)
     split at a
     · rename_i hi
       obtain ⟨_,t,r⟩:=o hi;simp only [dE,aab,aac,i'] at a
       have s:p<k.parts.length:=aa
       have r:=r _ (D6 s);rw [c6 s] at a;have e:=a.2;simp at e;simp only [dE,aab];omega
     · exact a
def Cf (h:ig cx cr=true):lj (aE cx):=by
 intro _;obtain ⟨b,e,a,f⟩:=rq h;unfold cJ at a;simp only [i9,aad] at a;refine ⟨by show cx.data<=512; omega,by show (cx.parts.map (·.params)).length<=6; rw [fu]; omega,λx c=>?_⟩;obtain ⟨p,d,rfl⟩:=q6.1 c;exact (vn<|b p d).2.1
variable {bJ:List b8}
def KX (b:bu bJ) (u:b8):∀k ∈ fd bJ u,lj k:=by
 intro k a;unfold fd at a;obtain ⟨s,_,rfl⟩:=q6.1 a
 split
 · rename_i i hi
   cases c:bJ[i]? with
   | none=>intro h; cases h
   | some z=>exact Cf<|b.mX z<|az c
 · intro h; cases h
def JG (h:jO bJ=0)  (b:cx ∈ bJ):oq cx=true:=by
 have a:=yX.1 h;have c:=a.mX cx b
 have e:(fd bJ cx).length=cx.aA.length:=by simp [fd]
 unfold oq;rw [<-e];exact KV (yx<|KX a cx) c
end Go.Bw
end
section
namespace Go.Bw
open Go
def bU (i:ao):Prop:=1<=i.op/\i.op<=22
def KY (U:Nat) (Pk:Int->Int->Prop) (b:List Nat) (lo:Nat) (c:List ao) (f:fI):Prop:=
 ∃(p:Nat) (i:ao),f.at_=(p:Int)/\c[p]? = some i/\lo<=p/\
   ((f.kind=1/\f.m=0/\(p ∈ b\/((lo:Int)<=i.a/\i.a<=(c.length:Int))))\/((f.kind=2\/f.kind=3)/\p ∉ b/\0<=f.m/\f.m<=(U:Int)/\0<=i.a/\i.a<=2048/\(f.kind=2->Pk f.m i.a)))
structure Ap (U:Nat) (Pk:Int->Int->Prop) (pd:List Nat) (g g':Gs):Prop where
 Cg:∀p ∈ pd,g.code.length<=p/\p<g'.code.length
 more:∃c fx,g'.code=g.code++c/\g'.fix=g.fix++fx/\(∀i ∈ c,bU i)/\(∀f ∈ fx,KY U Pk pd g.code.length g'.code f)/\fx.Pairwise λa b=>a.at_<b.at_
def Ap.refl (U:Nat) (Pk:Int->Int->Prop) (g:Gs):Ap U Pk [] g g:=⟨ai,[],[],ai,ai,ai,ai,.nil⟩
variable {Z:Nat} {dl:Int->Int->Prop} {dF:List Nat} {g7 gR:Gs}
def Ap.lo (h:Ap Z dl dF g7 gR):g7.code.length<=gR.code.length:=by
 obtain ⟨c,fx,a,_⟩:=h.more;rw [a]; simp
def Ap.trans {pa pb:List Nat} {g r s:Gs} (h:Ap Z dl pa g r) (k:Ap Z dl pb r s):Ap Z dl (pa++pb) g s:=by
 have I:=h.lo;have J:=k.lo;have t:=h.Cg;have u:=k.Cg;obtain ⟨c,fx,y,z,A,v,B⟩:=h.more;obtain ⟨C,D,k1,k2,E,w,F⟩:=k.more;refine ⟨λp l=>?_,c++C,fx++D,by rw [k1,y,bV],by rw [k2,z,bV],?_,?_,?_⟩
 · rcases ge.1 l with l | l
   · have:=t p l; omega
   · have:=u p l; omega
 · intro i hi
   rcases ge.1 hi with hi | hi
   · exact A i hi
   · exact E i hi
 · intro f o
   rcases ge.1 o with o | o
   · obtain ⟨p,i,a1,a2,a3,a4⟩:=v f o
     have l:p<r.code.length:=(cq.1 a2).1;refine ⟨p,i,a1,by rw [k1,oM l]; exact a2,a3,?_⟩
     rcases a4 with ⟨e,m,n⟩ | ⟨e,m,n⟩
     · exact .inl ⟨e,m,n.imp (λx=>wu _ x) λx=>⟨x.1,aa⟩⟩
     · refine .inr ⟨e,λd=>?_,n⟩
       rcases ge.1 d with d | d
       · exact m d
       · have:=(u p d).1; omega
   · obtain ⟨p,i,a1,a2,a3,a4⟩:=w f o
     refine ⟨p,i,a1,a2,aa,?_⟩
     rcases a4 with ⟨e,m,n⟩ | ⟨e,m,n⟩
     · exact .inl ⟨e,m,n.imp (λx=>qh _ x) λx=>⟨aa,x.2⟩⟩
     · refine .inr ⟨e,λd=>?_,n⟩
       rcases ge.1 d with d | d
       · have:=(t p d).2; omega
       · exact m d
 · refine D7.2 ⟨B,F,λa G b H=>?_⟩
   obtain ⟨p,i,a1,a2,a3,_⟩:=v a G;obtain ⟨q,j,e,m,n,_⟩:=w b H;have l:p<r.code.length:=(cq.1 a2).1;rw [a1,e]; omega
def K0 (U:Nat) (Pk:Int->Int->Prop) (l:List ao) (g:Gs) (a:∀i ∈ l,bU i):Ap U Pk [] g (bi l g):=⟨ai,l,[],rfl,by simp [bi],a,ai,.nil⟩
def mz (U:Nat) (Pk:Int->Int->Prop) (i:ao) (g:Gs) (a:bU i):Ap U Pk [] g (bi [i] g):=K0 U Pk [i] g (by simpa using a)
def o8 (i:ao) (k m:Int) (g:Gs):(aS i k m g).code.length=g.code.length+1:=by simp [aS]
def vq (U:Nat) (Pk:Int->Int->Prop) (i:ao) (g:Gs) (hi:bU i):Ap U Pk [g.code.length] g (aS i 1 0 g):=by
 refine ⟨λp a=>?_,[i],[⟨(g.code.length:Int),1,0⟩],O,O,by simpa using hi,λf b=>?_,D8 _ _⟩
 · have:=gU.1 a; subst this; rw [o8]; omega
 · have:=gU.1 b; subst this
   exact ⟨g.code.length,i,O,by simp [aS],cQ _,.inl ⟨O,O,.inl ai⟩⟩
def R2 (U:Nat) (Pk:Int->Int->Prop) {i:ao}   (h:Ap U Pk dF g7 gR) (hi:bU i) (y:i.a=(g7.code.length:Int)):Ap U Pk dF g7 (aS i 1 0 gR):=by
 have o:=h.lo;have q:=h.Cg;obtain ⟨c,fx,r,s,t,n,u⟩:=h.more;refine ⟨λp g=>?_,c++[i],fx++[⟨(gR.code.length:Int),1,0⟩],by show gR.code++[i]=_; rw [r,bV],by show gR.fix++_=_; rw [s,bV],?_,λf d=>?_,?_⟩
 · rw [o8]; have:=q p g; omega
 · intro j e
   rcases ge.1 e with e | e
   · exact t j e
   · have:=gU.1 e; subst this; exact hi
 · rcases ge.1 d with d | d
   · obtain ⟨p,j,a1,a2,a3,a4⟩:=n f d
     have g:p<gR.code.length:=(cq.1 a2).1;refine ⟨p,j,a1,by show (gR.code++[i])[p]? = _; rw [oM g]; exact a2,a3,?_⟩
     rcases a4 with ⟨k,l,m⟩ | ⟨k,l,m⟩
     · exact .inl ⟨k,l,m.imp id λx=>⟨x.1,by rw [o8]; omega⟩⟩
     · exact .inr ⟨k,l,m⟩
   · have:=gU.1 d; subst this
     exact ⟨gR.code.length,i,O,by simp [aS],o,.inl ⟨O,O,.inr ⟨aa,by rw [o8]; omega⟩⟩⟩
 · refine D7.2 ⟨u,D8 _ _,λa v b w=>?_⟩
   obtain ⟨p,j,a1,a2,a3,_⟩:=n a v;have g:p<gR.code.length:=(cq.1 a2).1;have:=gU.1 w; subst this;rw [a1]; show (p:Int)<(gR.code.length:Int); omega
def xa {U:Nat}  {i:ao} {k m:Int} (g:Gs) (hi:bU i) (d:k=2\/k=3) (b:0<=m/\m<=(U:Int)) (c:0<=i.a/\i.a<=2048) (e:k=2->dl m i.a):Ap U dl [] g (aS i k m g):=by
 refine ⟨ai,[i],[⟨(g.code.length:Int),k,m⟩],O,O,by simpa using hi,λf h=>?_,D8 _ _⟩;have:=gU.1 h; subst this;exact ⟨g.code.length,i,O,by simp [aS],cQ _,.inr ⟨d,ai,b.1,b.2,c.1,c.2,e⟩⟩
def qG (n:Nat) (g:Gs):(cF n g).code.length=g.code.length:=by simp [cF]
def tY {pa pb:List Nat} {n:Nat}  (h:Ap Z dl (pa++n::pb) g7 gR):Ap Z dl (pa++pb) g7 (cF n gR):=by
 have B:=h.lo;have s:=h.Cg;obtain ⟨c,fx,o,u,v,w,y⟩:=h.more;obtain ⟨C,D⟩:=s n ai
 have m (p:Nat):(cF n gR).code[p]? = if n=p then (gR.code[p]?).map (λi=>{ i with a:=(gR.code.length:Int) }) else gR.code[p]?:=by
   show (gR.code.modify n _)[p]? = _
   rw [eX]
   by_cases e:n=p
   · subst e; simp
   · rw [ZX e]; simp [e]
 have q:(cF n gR).code.length=gR.code.length:=qG n gR
 have E:gR.code.length=g7.code.length+c.length:=by rw [o]; simp
 refine ⟨λp b=>?_,(cF n gR).code.drop g7.code.length,fx,?_,u,?_,λf z=>?_,y⟩
 · have:p ∈ pa++n::pb:=by
     rcases ge.1 b with b | b
     · exact wu _ b
     · exact qh _<|dT _ b
   rw [q]; exact s p this
 · have A:(cF n gR).code.take g7.code.length=g7.code:=by
     refine r0 λp=>?_;rw [jq]
     split
     · rename_i b
       rw [m p,ZX aa,o,oM b]
     · rename_i b
       rw [wl aa]
   rw [<-qg g7.code.length (cF n gR).code,A];rw [List.drop_append_of_le_length (cQ _),wv,DW]
 · intro i hi
   obtain ⟨j,d⟩:=iE hi;rw [H2,m] at d
   have t:∀x,gR.code[g7.code.length+j]? = some x->bU x:=λx k=>by
     rw [o,nc aa] at k;exact v x<|az k
   split at d
   · cases k:gR.code[g7.code.length+j]? with
     | none=>rw [k] at d; cases d
     | some x=>rw [k] at d; simp at d; subst d; exact t x k
   · exact t i d
 · obtain ⟨p,i,a1,a2,a3,a4⟩:=w f z
   by_cases e:n=p
   · subst e
     refine ⟨n,{ i with a:=(gR.code.length:Int) },a1,by rw [m,ZZ O,a2]; rfl,a3,?_⟩
     rcases a4 with ⟨l,g,_⟩ | ⟨_,g,_⟩
     · exact .inl ⟨l,g,.inr ⟨by show (g7.code.length:Int)<=(gR.code.length:Int); omega,by rw [q]; exact AK _⟩⟩
     · exact absurd ai g
   · refine ⟨p,i,a1,by rw [m,ZX e]; exact a2,a3,?_⟩
     rw [q]
     rcases a4 with ⟨l,g,r⟩ | ⟨l,g,r⟩
     · refine .inl ⟨l,g,r.imp (λx=>?_) id⟩
       rcases ge.1 x with x | x
       · exact wu _ x
       · rcases ep.1 x with x | x
         · exact absurd x.symm e
         · exact qh _ x
     · refine .inr ⟨l,λx=>g ?_,r⟩
       rcases ge.1 x with x | x
       · exact wu _ x
       · exact qh _<|dT _ x
end Go.Bw
end
section
namespace Go.Bw
open Go
variable {aH bQ bj:Int}
def bp (a:1<=aH) (b:aH<=22):bU ⟨aH,bQ,bj⟩:=⟨a,b⟩
structure sx (U:Nat) (Pk:Int->Int->Prop) (ks:List ec):Prop where
 len:ks.length=U+1
 small:∀k ∈ ks,k.oi=true->k.parts.length<=2048
 call:∀m a n,jf ks m a n=true->Pk m a
variable {dl:Int->Int->Prop} {cr:List ec}
def Ch {U:Nat}   (b:sx U dl cr)  (h:jv cr aH bQ bj=true):(0<=aH/\aH<=(U:Int))/\0<=bQ/\bQ<=2048:=by
 cases a:mu cr aH bQ with
 | true=>rw [yP bj a] at h; cases h
 | false=>
   obtain ⟨⟨d,rfl,e⟩,c,f⟩:=yQ a;have:=b.len;exact ⟨⟨aa,aa⟩,c,aa⟩
def K1 {U:Nat}   (b:sx U dl cr)  (h:jf cr aH bQ bj=true):(0<=aH/\aH<=(U:Int))/\0<=bQ/\bQ<=2048:=by
 cases a:mW cr aH bQ with
 | true=>rw [BP bj a] at h; cases h
 | false=>
   obtain ⟨⟨e,rfl,d⟩,p,rfl⟩:=BQ a;have f:=b.len;obtain ⟨k,c⟩:=cR d;rw [sk a c] at h;refine ⟨⟨aa,aa⟩,aa,?_⟩
   split at h
   · rename_i hi
     have:=b.small k (az c) hi;simp only [dE,aab] at h;omega
   · simp only [dE,aab] at h
     omega
variable {Z:Nat}
def y7:∀{ks:List Gk} (h:∀(i:Nat) k,ks[i]? = some k->∀g,Ap Z dl [] g (k g)) (g:Gs),Ap Z dl [] g (mw ks g)
 | [],h,g=>.refl Z dl g
 | k::r,h,g=>(h 0 k rfl g).trans (y7 (ks:=r) (λi a b=>h (i+1) a (by simpa using b))<|k g)
def o9 {ks:List Gk} (h:∀(i:Nat) k,ks[i]? = some k->∀g,Ap Z dl [] g (k g)) (i:Nat) (g:Gs):Ap Z dl [] g (gt ks i g):=by
 unfold gt
 cases hi:ks[i]? with
 | none=>exact .refl Z dl g
 | some k=>exact h i k hi g
variable {mZ ou:Gk}
def R3 (c:∀g,Ap Z dl [] g (mZ g)) (d:∀g,Ap Z dl [] g (ou g)) (g:Gs):Ap Z dl [] g (tO mZ ou g):=by
 unfold tO;dsimp only
 generalize e:mZ g=a
 generalize f:bi [⟨22,0,0⟩] (ou<|aS ⟨12,0,0⟩ 1 0 a)=b
 have a1:Ap Z dl [] g a:=e▸c g;have a2:Ap Z dl [a.code.length] a b:=f▸((vq Z dl ⟨12,0,0⟩ a<|bp a8 a8).trans<|d _).trans (mz Z dl ⟨22,0,0⟩ _<|bp a8 a8);have a3:Ap Z dl [a.code.length,b.code.length] g (aS ⟨11,0,0⟩ 1 0 b):=(a1.trans a2).trans (vq Z dl ⟨11,0,0⟩ b<|bp a8 a8);have a4:Ap Z dl [b.code.length] g _:=tY (pa:=[]) a3;have h:Ap Z dl [b.code.length] g _:=a4.trans (mz Z dl ⟨1,0,0⟩ _<|bp a8 a8);exact tY (pa:=[]) (pb:=[]) h
def R4 (c:∀g,Ap Z dl [] g (mZ g)) (d:∀g,Ap Z dl [] g (ou g)) (g:Gs):Ap Z dl [] g (gT mZ ou g):=by
 unfold gT;dsimp only
 generalize e:mZ g=a
 generalize f:bi [⟨1,1,0⟩] (aS ⟨12,0,0⟩ 1 0 a)=b
 have a1:Ap Z dl [] g a:=e▸c g;have a2:Ap Z dl [a.code.length] a b:=f▸(vq Z dl ⟨12,0,0⟩ a<|bp a8 a8).trans (mz Z dl ⟨1,1,0⟩ _<|bp a8 a8);have a3:Ap Z dl [a.code.length,b.code.length] g (aS ⟨11,0,0⟩ 1 0 b):=(a1.trans a2).trans (vq Z dl ⟨11,0,0⟩ b<|bp a8 a8);have a4:Ap Z dl [b.code.length] g _:=tY (pa:=[]) a3;have h:Ap Z dl [b.code.length] g _:=(a4.trans<|d _).trans (mz Z dl ⟨22,0,0⟩ _<|bp a8 a8);exact tY (pa:=[]) (pb:=[]) h
mutual
def R5 (b:sx Z dl cr) (aC:Int):∀(x:dr) (d:Nat),jg cr aC x d=true->∀g,Ap Z dl [] g (aP x g)
 | .mk op n m pl args,d,h,g=>by
   obtain ⟨j,k⟩:=B9 h;have a:=qS b aC args (d+1) k;have f:=B6 j;rw [aP];unfold gP
   split
   · exact mz Z dl _ g<|bp a8 a8
   · split
     · exact mz Z dl _ g<|bp a8 a8
     · split
       · exact mz Z dl _ g<|bp a8 a8
       · split
         · rename_i e
           obtain ⟨c,i⟩:=Ch b (f.1 e);exact xa g (bp a8 a8) (.inr O) c i<|λe=>absurd e a8
         · split
           · rename_i e
             obtain ⟨c,i⟩:=Ch b (f.2.1 e).2;exact ((o9 a 0 g).trans<|xa _ (bp a8 a8) (.inr O) c i<|λe=>absurd e a8).trans<|mz Z dl _ _<|bp a8 a8
           · split
             · rename_i e
               obtain ⟨c,i⟩:=K1 b (f.2.2.1 e);exact (y7 a g).trans<|xa _ (bp a8 a8) Y c i<|λ_=>b.call _ _ _<|f.2.2.1 e
             · split
               · exact R3 (o9 a 0) (o9 a 1) g
               · split
                 · exact R4 (o9 a 0) (o9 a 1) g
                 · split
                   · exact (y7 a g).trans<|mz Z dl _ _<|bp a8 a8
                   · exact (y7 a g).trans<|mz Z dl _ _<|bp a8 a8
def qS (b:sx Z dl cr) (aC:Int):∀(l:List dr) (d:Nat),gA cr aC l d=true->∀(i:Nat) k,(l2 l)[i]? = some k->∀g,Ap Z dl [] g (k g)
 | [],d,_,i,k,h,g=>by rw [l2] at h; simp at h
 | x::r,d,a,0,k,h,g=>by
   rw [gA] at a;rw [l2] at h;simp at h;subst h;exact R5 b aC x d (eH.1 a).1 g
 | x::r,d,a,i+1,k,h,g=>by
   rw [gA] at a;rw [l2] at h;exact qS b aC r d (eH.1 a).2 i k (by simpa using h) g
end
variable {aw:Nat}
def R6 {c body other:Gk}  (d:∀g,Ap Z dl [] g (c g)) (e:∀g,Ap Z dl [] g (body g)) (f:∀g,Ap Z dl [] g (other g)) (g:Gs):Ap Z dl [] g (so c body other aw g):=by
 unfold so;dsimp only
 generalize h:c g=a
 generalize i:body (aS ⟨12,0,0⟩ 1 0 a)=b
 have a1:Ap Z dl [] g a:=h▸d g;have a2:Ap Z dl [a.code.length] a b:=i▸(vq Z dl ⟨12,0,0⟩ a<|bp a8 a8).trans (e _)
 split
 · have a3:Ap Z dl [a.code.length,b.code.length] g (aS ⟨11,0,0⟩ 1 0 b):=(a1.trans a2).trans (vq Z dl ⟨11,0,0⟩ b<|bp a8 a8)
   have a4:Ap Z dl [b.code.length] g _:=tY (pa:=[]) a3;have j:Ap Z dl [b.code.length] g _:=a4.trans (f _);exact tY (pa:=[]) (pb:=[]) j
 · exact tY (pa:=[]) (pb:=[])<|a1.trans a2
def R7 (b:∀g,Ap Z dl [] g (mZ g)) (c:∀g,Ap Z dl [] g (ou g)) (g:Gs):Ap Z dl [] g (vo mZ ou g):=by
 unfold vo;dsimp only
 generalize d:mZ g=a
 have a1:Ap Z dl [] g a:=d▸b g;have a2:Ap Z dl [a.code.length] g _:=((a1.trans<|vq Z dl ⟨12,0,0⟩ a<|bp a8 a8).trans<|mz Z dl ⟨16,0,0⟩ _<|bp a8 a8).trans (c _);exact tY (pa:=[]) (pb:=[])<|R2 Z dl a2 (i:=⟨11,(g.code.length:Int),0⟩) (bp a8 a8) O
mutual
def R8 (b:sx Z dl cr) (aC:Int):∀(x:c_) (d:Nat),jN cr aC x d=true->∀g,Ap Z dl [] g (jQ x g)
 | .mk op n m pl args body other,d,h,g=>by
   obtain ⟨k,l,j,o⟩:=B' h;have a:=qS b aC args 1 l;have f:=B7 k;have p:=xb b aC other (d+1) o;rw [jQ];unfold bo
   split
   · rename_i e
     split
     · exact (o9 a 0 g).trans<|mz Z dl _ _<|bp a8 a8
     · rename_i c
       obtain ⟨c,i⟩:=Ch b ((f.1 e).2 c);exact (o9 a 0 g).trans<|xa _ (bp a8 a8) (.inr O) c i<|λe=>absurd e a8
   · split
     · rename_i e
       obtain ⟨c,i⟩:=Ch b (f.2.1 e).2;exact (((o9 a 0 g).trans<|xa _ (bp a8 a8) (.inr O) c i<|λe=>absurd e a8).trans<|o9 a 1 _).trans<|mz Z dl _ _<|bp a8 a8
     · split
       · rename_i e
         obtain ⟨c,i⟩:=K1 b (f.2.2 e);exact ((y7 a g).trans<|xa _ (bp a8 a8) Y c i<|λ_=>b.call _ _ _<|f.2.2 e).trans<|mz Z dl _ _<|bp a8 a8
       · split
         · rename_i e
           exact R6 (o9 a 0) (xb b aC body (d+1)<|j<|.inl e) p g
         · split
           · rename_i e
             exact R7 (o9 a 0) (xb b aC body (d+1)<|j<|.inr e) g
           · split
             · exact (o9 a 0 g).trans<|mz Z dl _ _<|bp a8 a8
             · split
               · exact (o9 a 0 g).trans<|mz Z dl _ _<|bp a8 a8
               · exact .refl Z dl g
def xb (a:sx Z dl cr) (aC:Int):∀(l:List c_) (d:Nat),a9 cr aC l d=true->∀g,Ap Z dl [] g (cn l g)
 | [],d,_,g=>by rw [cn]; exact .refl Z dl g
 | x::r,d,h,g=>by
   rw [a9] at h;rw [cn];exact (R8 a aC x d (eH.1 h).1 g).trans<|xb a aC r d (eH.1 h).2 _
end
def R9 (lo hi:Nat) (c:List ao) (f:fI):Prop:=∀(p:Nat) i,f.kind=1->f.at_=(p:Int)->c[p]? = some i->lo<=p/\p<hi/\(lo:Int)<=i.a/\i.a<(hi:Int)
def R' (k:sx Z dl cr)  {b:List c_}  (h:a9 cr aH b aw=true) (pa lo:Int) (g:Gs) :
   Ap Z dl [] g (ii pa lo b g)/\g.code.length+3<=(ii pa lo b g).code.length/\∃fx,(ii pa lo b g).fix=g.fix++fx/\∀f ∈ fx,R9 g.code.length (ii pa lo b g).code.length (ii pa lo b g).code f:=by
 have a1:Ap Z dl [] g (cn b<|bi [⟨14,pa,lo⟩] g):=(mz Z dl ⟨14,pa,lo⟩ g<|bp a8 a8).trans (xb k aH b aw h _);have l:=(xb k aH b aw h<|bi [⟨14,pa,lo⟩] g).lo;unfold ii
 generalize cn b (bi [⟨14,pa,lo⟩] g)=a at a1 l
 have u:(bi [⟨14,pa,lo⟩] g).code.length=g.code.length+1:=by simp [bi]
 have m:(bi [⟨1,0,0⟩,⟨15,0,0⟩] a).code.length=a.code.length+2:=by simp [bi]
 refine ⟨a1.trans<|K0 Z dl _ a (by intro i hi; simp at hi; rcases hi with rfl | rfl<;>exact bp a8 a8),aa,?_⟩;obtain ⟨c,fx,v,n,w,o,y⟩:=a1.more;refine ⟨fx,n,λf q p i k1 k2 r=>?_⟩;obtain ⟨d,j,c1,c2,c3,c4⟩:=o f q
 have s:d=p:=aa
 subst s;have t:d<a.code.length:=(cq.1 c2).1
 have e:a.code[d]? = some i:=by
   have:(a.code++[⟨1,0,0⟩,⟨15,0,0⟩])[d]? = some i:=r
   rwa [oM t] at this
 rw [c2] at e
 injection e with e
 subst e;rw [m]
 rcases c4 with ⟨_,_,x | x⟩ | ⟨x,_⟩
 · cases x
 · exact ⟨c3,aa,x.1,aa⟩
 · omega
structure K2 (g g':Gs) (S:List Nat):Prop where
 at_:∀s ∈ S,g.code.length<=s/\s<g'.code.length
 stay:∃fx,g'.fix=g.fix++fx/\∀f ∈ fx,∀(p:Nat) i,f.kind=1->f.at_=(p:Int)->g'.code[p]? = some i->g.code.length<=p/\(g.code.length:Int)<=i.a/\∀s ∈ S,(p<s->i.a<(s:Int))/\(s<=p->(s:Int)<=i.a)
def K3 (w:sx Z dl cr):∀{l:List hx} (k:∀p ∈ l,∃aC d,a9 cr aC p.body d=true) (g:Gs),Ap Z dl [] g (dw l g).2/\K2 g (dw l g).2 (dw l g).1
 | [],k,g=>⟨.refl Z dl g,⟨(by intro s a; cases a),[],(by show g.fix=_; simp),(by intro f b; cases b)⟩⟩
 | q::r,k,g=>by
   obtain ⟨aC,d,h⟩:=k q ai;obtain ⟨a1,a2,fx,a3,a4⟩:=R' w h q.params q.locals g;obtain ⟨o,x⟩:=K3 w (l:=r) (λp t=>k p (by simp [t])) (ii q.params q.locals q.body g);obtain ⟨B,C,D⟩:=x.stay;have y:=x.at_;rw [dw];dsimp only
   generalize ii q.params q.locals q.body g=u at *
   generalize dw r u=z at *
   have M:=o.lo;obtain ⟨c,_,E,_⟩:=o.more;refine ⟨a1.trans o,λs a=>?_,fx++B,by rw [C,a3,bV],λf b p i k1 k2 v=>?_⟩
   · rcases ep.1 a with rfl | a
     · omega
     · have:=y s a; omega
   · rcases ge.1 b with b | b
     · obtain ⟨_,F,N,G,O,H,P⟩:=a1.more
       have e:F=fx:=List.append_cancel_left (G.symm.trans a3);subst e;obtain ⟨m,j,Q,I,_⟩:=H f b
       have t:m=p:=aa
       subst t;have J:m<u.code.length:=(cq.1 I).1
       have K:u.code[m]? = some i:=by rw [E,oM J] at v; exact v
       obtain ⟨A,L,n,R⟩:=a4 f b m i k1 k2 K;refine ⟨A,n,λs a=>?_⟩
       rcases ep.1 a with rfl | a
       · exact ⟨λ_=>by omega,λ_=>n⟩
       · have:=y s a
         exact ⟨λ_=>by omega,λ_=>by omega⟩
     · obtain ⟨A,L,n⟩:=D f b p i k1 k2 v
       refine ⟨aa,aa,λs a=>?_⟩
       rcases ep.1 a with rfl | a
       · exact ⟨λ_=>by omega,λ_=>by omega⟩
       · exact n s a
structure K4 (Pk:Int->Int->Prop) (u:b8) (o:qB):Prop where
 ap:Ap u.aA.length Pk [] ⟨[],[]⟩ o.g
 K5:K2 ⟨[],[]⟩ o.g (o.fe++[o.main])
 e8:o.fe.length=u.parts.length
variable {cx:b8}
def R_ (h:ig cx cr=true) (c:cr.length=cx.aA.length) (d:∀k ∈ cr,k.oi=true->k.parts.length<=2048):sx cx.aA.length (λm a=>∃n,jf (aE cx::cr) m a n=true) (aE cx::cr):=by
 refine ⟨by simp [c],λk b hi=>?_,λm a n e=>⟨n,e⟩⟩
 rcases ep.1 b with rfl | b
 · have:=(Cf h hi).2.1
   omega
 · exact d k b hi
def K6 (h:ig cx cr=true) (e:cr.length=cx.aA.length) (f:∀k ∈ cr,k.oi=true->k.parts.length<=2048):K4 (λm a=>∃n,jf (aE cx::cr) m a n=true) cx (eT cx):=by
 have g:=R_ h e f;obtain ⟨i,j,l,o⟩:=rq h
 have e:∀p ∈ cx.parts++[(⟨0,0,cx.main⟩:hx)],∃aC d,a9 (aE cx::cr) aC p.body d=true:=by
   intro p c
   rcases ge.1 c with c | c
   · exact ⟨_,1,g1 (vn<|i p c).2.2.2.2⟩
   · have:=gU.1 c; subst this
     exact ⟨_,1,g1 j⟩
 obtain ⟨a,b⟩:=K3 g e ⟨[],[]⟩;rw [Fz] at a b;exact ⟨a,b,(kM cx.parts ⟨[],[]⟩).2⟩
def qZ (h:oq cx=true):K4 (λm a=>∃n,jf (aE cx::List.replicate cx.aA.length lS) m a n=true) cx (eT cx):=
 K6 h ai λk b hi=>by rw [(List.mem_replicate.1 b).2] at hi; cases hi
end Go.Bw
end
section
namespace Go.Bw
open Go
structure av where
 nm:List UInt8
 aA:List (List UInt8)
 data:Int
 code:List ao
 fix:List fI
 fe:List Int
 main:Int
def kF (o:av) (q:nA):List Value:=[st o.nm,.slice q.s1.1 o.aA.length q.s1.2,.int .i64 o.data,.slice q.s2.1 o.code.length q.s2.2,.slice q.s3.1 o.fix.length q.s3.2,.slice q.s4.1 o.fe.length q.s4.2,.int .i64 o.main]
structure pU (H:View) (q:nA) (o:av):Prop where
 aA:Sl rdStr 1 H q.s1.1 q.s1.2 o.aA
 code:Sl bt 3 H q.s2.1 q.s2.2 o.code
 fix:Sl Km 3 H q.s3.1 q.s3.2 o.fix
 fe:Sl hy 1 H q.s4.1 q.s4.2 o.fe
def qB.to (o:qB):av:=⟨o.nm,o.aA,o.data,o.g.code,o.g.fix,o.fe.map λn:Nat=>(n:Int),o.main⟩
def Sa (o:qB) (q:nA):kF o.to q=FC o q:=by simp [kF,FC,qB.to]
def Sb {c:View} {q:nA} {o:qB} (h:FD c q o):pU c q o.to:=by
 refine ⟨h.aA,h.code,h.fix,⟨?_,h.fe.max,h.fe.spot,λi x a=>?_⟩⟩
 · show (o.fe.map λn:Nat=>(n:Int)).length<=_
   rw [fu]; exact h.fe.cap
 · have a:(o.fe.map λn:Nat=>(n:Int))[i]? = some x:=a
   rw [e4] at a
   cases b:o.fe[i]? with
   | none=>rw [b] at a; cases a
   | some n=>
     rw [b] at a
     injection a with a
     subst a;exact h.fe.b5 i n b
def hO (n:Nat) (at_:Int):Bool:=decide (0<=at_)&&decide (at_<(n:Int))
def l0 (seen:List (List UInt8)):List (List UInt8)->Bool->Bool
 | [],f=>f
 | s::r,f=>l0 (seen++[s]) r ((f&&gi s)&&(((seen.count s:Nat):Int)+1==1))
def m0:List ao->Bool->Bool
 | [],f=>f
 | x::r,f=>m0 r ((f&&decide (1<=x.op))&&decide (x.op<=22))
def dq (n:Nat):List Int->Bool->Bool
 | [],f=>f
 | x::r,f=>dq n r (f&&hO n x)
def jj (c:List ao) (p:Int):Int:=((c[p.toNat]?).map (·.a)).getD 0
def kf (U n:Nat) (kind m a:Int):Bool:=
 if kind=1 then ((decide (0<=a)&&decide (a<=2048))&&(m==0))&&decide (a<=(n:Int))
 else if kind=2\/kind=3 then ((decide (0<=a)&&decide (a<=2048))&&decide (0<=m))&&decide (m<=(U:Int)) else false
def mA (U:Nat) (c:List ao):List fI->Int->Bool->Bool
 | [],_,f=>f
 | x::r,last,f=>if ((f&&decide (last<x.at_))&&hO c.length x.at_)=false then false else mA U c r x.at_ (kf U c.length x.kind x.m<|jj c x.at_)
def qH (o:av):Bool:=(gi o.nm&&decide (0<=o.data))&&decide (o.data<=512)
def tZ (o:av):Bool:=mA o.aA.length o.code o.fix (-1)<|dq o.code.length o.fe<|m0 o.code<|l0 [o.nm] o.aA<|qH o
def pV (o:av):Bool:=((decide (3<(o.aA.length:Int))||decide (6<(o.fe.length:Int)))||decide ((o.code.length:Int)<1))||decide (2048<(o.code.length:Int))
def ik (o:av):Int:=if pV o=true then 2 else if (!(tZ o)||!(hO o.code.length o.main))=true then 1 else 0
variable {Z:Nat} {aH:Int}
def ek (h:hO Z aH=true):∃p:Nat,aH=(p:Int)/\p<Z:=by
 unfold hO at h;simp only [dE,aab] at h;exact ⟨aH.toNat,aa,aa⟩
def FR {n p:Nat} (h:p<n):hO n (p:Int)=true:=by
 unfold hO;simp only [dE,aab];omega
def Sc {seen us:List (List UInt8)}  {s:List UInt8} (h:us[Z]? = some s) (f:Bool):l0 (seen++us.take Z) (us.drop Z) f=l0 (seen++us.take (Z+1)) (us.drop<|Z+1) ((f&&gi s)&&((((seen++us.take Z).count s:Nat):Int)+1==1)):=by
 obtain ⟨a,b⟩:=cq.1 h;rw [pt a,b,l0,gV,h,bV]
 rfl
variable {hz:List ao}
def Sd {x:ao} (h:hz[Z]? = some x) (f:Bool):m0 (hz.drop Z) f=m0 (hz.drop<|Z+1) ((f&&decide (1<=x.op))&&decide (x.op<=22)):=by
 obtain ⟨a,b⟩:=cq.1 h;rw [pt a,b,m0]
def Se {l:List Int} {i:Nat}  (h:l[i]? = some aH) (f:Bool):dq Z (l.drop i) f=dq Z (l.drop<|i+1) (f&&hO Z aH):=by
 obtain ⟨a,b⟩:=cq.1 h;rw [pt a,b,dq]
def Sf {U:Nat} {c:List ao} {l:List fI}  {x:fI} (h:l[Z]? = some x) (a:Int) (f:Bool):mA U c (l.drop Z) a f=if ((f&&decide (a<x.at_))&&hO c.length x.at_)=false then false else mA U c (l.drop<|Z+1) x.at_ (kf U c.length x.kind x.m<|jj c x.at_):=by
 obtain ⟨b,d⟩:=cq.1 h;rw [pt b,d,mA]
def K7:∀{us seen:List (List UInt8)} (a:(seen++us).Nodup) (b:us.all gi=true),l0 seen us true=true
 | [],_,_,_=>rfl
 | s::r,seen,a,b=>by
   rw [l0];rw [hM] at b;obtain ⟨c,d⟩:=eH.1 b
   have e:seen.count s=0:=by
     rw [H9];intro f;exact (lI.1 a).2.2 s f s ai O
   rw [c,e];exact K7 (us:=r) (by rw [bV]; exact a) d
def K8:∀{l:List ao} (h:∀i ∈ l,bU i),m0 l true=true
 | [],_=>rfl
 | x::r,h=>by
   have:=h x ai;rw [m0,aaa this.1,aaa this.2];exact K8 λi hi=>h i (by simp [hi])
def K9 {n:Nat}:∀{l:List Nat} (h:∀s ∈ l,s<n),dq n (l.map λn:Nat=>(n:Int)) true=true
 | [],_=>rfl
 | x::r,h=>by
   rw [k_,dq,FR (h x ai)];exact K9 λs a=>h s (by simp [a])
def K' {Pk:Int->Int->Prop}  (n:hz.length<=2048):∀{l:List fI} {e:Int} (h:∀f ∈ l,e<f.at_/\KY Z Pk [] 0 hz f) (c:l.Pairwise λa b=>a.at_<b.at_),mA Z hz l e true=true
 | [],_,_,_=>rfl
 | x::r,e,h,c=>by
   obtain ⟨s,p,i,a1,a2,a3,a4⟩:=h x ai;have o:p<hz.length:=(cq.1 a2).1;rw [mA,a1,FR o,aaa aa];rw [ZX a8]
   have q:jj hz (p:Int)=i.a:=by unfold jj; rw [i',a2]; rfl
   have d:kf Z hz.length x.kind x.m (jj hz (p:Int))=true:=by
     rw [q];unfold kf
     rcases a4 with ⟨g,k,j | j⟩ | ⟨g,_,k,j,t,u,_⟩
     · cases j
     · rw [ZZ g,k,aaa (show 0<=i.a by omega),aaa (show i.a<=2048 by omega),aaa (show i.a<=(hz.length:Int) by omega)]
       rfl
     · rw [ZX aa,ZZ g]
       simp only [dE,aab];omega
   rw [d];rw [AL] at c;exact K' n (λf d=>⟨by have:=c.1 f d; omega,(h f (by simp [d])).2⟩) c.2
def Sg {u:b8} (h:oq u=true) (k:(eT u).g.code.length<=2048):ik (eT u).to=0:=by
 have b:=qZ h;obtain ⟨F,G,d,j⟩:=rq h;unfold cJ at d;simp only [i9,aad] at d
 have l:gi u.nm=true:=by simpa using d.1.1.1.1
 unfold qz at j;obtain ⟨o,q⟩:=eH.1 j;have r:(u.nm::u.aA).Nodup:=j_.2 (by simpa using o);have t:(eT u).main<(eT u).g.code.length:=(b.K5.at_ _ ai).2;obtain ⟨c,fx,a1,a2,a3,a4,v⟩:=b.ap.more
 have a1:(eT u).g.code=c:=by simpa using a1
 have a2:(eT u).g.fix=fx:=by simpa using a2
 unfold ik
 have w:pV (eT u).to=false:=by
   unfold pV;simp only [i9,aad];refine ⟨⟨⟨?_,?_⟩,?_⟩,?_⟩
   · show ¬3<(u.aA.length:Int); omega
   · show ¬6<((((eT u).fe.map λn:Nat=>(n:Int)).length:Nat):Int)
     rw [fu,b.e8]; omega
   · show ¬(((eT u).g.code.length:Nat):Int)<1; omega
   · show ¬2048<(((eT u).g.code.length:Nat):Int); omega
 rw [w,ZX a8]
 have x:qH (eT u).to=true:=by
   unfold qH;simp only [dE,aab];exact ⟨⟨l,by show 0<=u.data; omega⟩,by show u.data<=512; omega⟩
 have y:tZ (eT u).to=true:=by
   unfold tZ;rw [x];have z:l0 [(eT u).to.nm] (eT u).to.aA true=true:=K7 r q;have A:m0 (eT u).to.code true=true:=K8 (by show ∀i ∈ (eT u).g.code,bU i; rw [a1]; exact a3);have B:dq (eT u).to.code.length (eT u).to.fe true=true:=K9 λs C=>(b.K5.at_ s (by simp [C])).2;rw [z,A,B]
   show mA u.aA.length (eT u).g.code (eT u).g.fix (-1) true=true
   refine K' (Pk:=λm a=>∃n,jf (aE u::List.replicate u.aA.length lS) m a n=true) k (λf e=>?_) (by rw [a2]; exact v);rw [a2] at e;have D:=a4 f e;obtain ⟨p,i,k1,_⟩:=D;exact ⟨aa,a4 f e⟩
 rw [y];have E:hO (eT u).to.code.length (eT u).to.main=true:=FR t;rw [E]
 rfl
end Go.Bw
end
section
namespace Go.Bw
open Go
structure xc (o:av):Prop where
 names:∀s ∈ o.nm::o.aA,gi s=true
 nd:(o.nm::o.aA).Nodup
 data:0<=o.data/\o.data<=512
 main:hO o.code.length o.main=true
 code:∀i ∈ o.code,bU i
 fe:∀e ∈ o.fe,hO o.code.length e=true
 fix:∀f ∈ o.fix,hO o.code.length f.at_=true/\kf o.aA.length o.code.length f.kind f.m (jj o.code f.at_)=true
 up:o.fix.Pairwise λa b=>a.at_<b.at_
def K_:∀(us seen:List (List UInt8)) (f:Bool),l0 seen us f=true↔f=true/\(∀s ∈ us,gi s=true)/\us.Nodup/\∀s ∈ us,s ∉ seen
 | [],seen,f=>by simp [l0]
 | s::r,seen,f=>by
   rw [l0,K_ r]
   have j:((((seen.count s:Nat):Int)+1==1)=true)↔s ∉ seen:=by
     rw [aac,<-H9];omega
   rw [dE,dE,j]
   have k:∀t,(t ∈ seen++[s])↔(t ∈ seen\/t=s):=λt=>by simp
   simp only [k,ep,aaG,aak]
   constructor
   · rintro ⟨⟨⟨d,e⟩,g⟩,h,i,b⟩
     exact ⟨d,⟨e,h⟩,⟨λl=>b s l<|.inr O,i⟩,g,λt c a=>b t c<|.inl a⟩
   · rintro ⟨d,⟨e,h⟩,⟨m,i⟩,g,b⟩
     refine ⟨⟨⟨d,e⟩,g⟩,h,i,λt c a=>?_⟩
     rcases a with a | a
     · exact b t c a
     · subst a; exact m c
def y4:∀(l:List ao) (f:Bool),m0 l f=true↔f=true/\∀i ∈ l,bU i
 | [],f=>by simp [m0]
 | x::r,f=>by
   rw [m0,y4 r];simp only [dE,aab,ep,aak,bU]
   constructor
   · rintro ⟨⟨⟨a,b⟩,c⟩,d⟩; exact ⟨a,⟨b,c⟩,d⟩
   · rintro ⟨a,⟨b,c⟩,d⟩; exact ⟨⟨⟨a,b⟩,c⟩,d⟩
def zo (n:Nat):∀(l:List Int) (f:Bool),dq n l f=true↔f=true/\∀e ∈ l,hO n e=true
 | [],f=>by simp [dq]
 | x::r,f=>by
   rw [dq,zo n r];simp only [dE,ep,aak]
   constructor
   · rintro ⟨⟨a,b⟩,c⟩; exact ⟨a,b,c⟩
   · rintro ⟨a,b,c⟩; exact ⟨⟨a,b⟩,c⟩
def Lc (U:Nat) (c:List ao):∀(l:List fI) (d:Int) (f:Bool),mA U c l d f=true↔f=true/\(∀x ∈ l,d<x.at_/\hO c.length x.at_=true/\kf U c.length x.kind x.m (jj c x.at_)=true)/\l.Pairwise λa b=>a.at_<b.at_
 | [],d,f=>by simp [mA]
 | x::r,d,f=>by
   rw [mA]
   have o:((f&&decide (d<x.at_))&&hO c.length x.at_)=true↔f=true/\d<x.at_/\hO c.length x.at_=true:=by
     simp only [dE,aab,and_assoc]
   cases i:((f&&decide (d<x.at_))&&hO c.length x.at_) with
   | false=>
     rw [ZZ rfl];refine ⟨λh=>(by cases h),λ⟨j,k,_⟩=>?_⟩;have g:=k x ai;rw [o.2 ⟨j,g.1,g.2.1⟩] at i;cases i
   | true=>
     rw [ZX a8,Lc U c r];obtain ⟨j,k,g⟩:=o.1 i;simp only [ep,aak,AL]
     constructor
     · rintro ⟨k1,k2,n⟩
       exact ⟨j,⟨⟨k,g,k1⟩,λy e=>⟨by have:=(k2 y e).1; omega,(k2 y e).2⟩⟩,λy e=>(k2 y e).1,n⟩
     · rintro ⟨_,⟨⟨_,_,k1⟩,k2⟩,n,p⟩
       exact ⟨k1,λy e=>⟨n y e,(k2 y e).2⟩,p⟩
def JU (o:av):(tZ o=true/\hO o.code.length o.main=true)↔xc o:=by
 unfold tZ;rw [Lc,zo,y4,K_];unfold qH;simp only [dE,aab]
 constructor
 · rintro ⟨⟨⟨⟨⟨⟨⟨e,g⟩,i⟩,j,k,l⟩,m⟩,n⟩,q,r⟩,t⟩
   refine ⟨λs a=>?_,?_,⟨g,i⟩,t,m,n,λf b=>(q f b).2,r⟩
   · rcases ep.1 a with rfl | a
     · exact e
     · exact j s a
   · rw [aaG]
     exact ⟨λc=>l _ c ai,k⟩
 · intro h
   have d:=h.nd;rw [aaG] at d;refine ⟨⟨⟨⟨⟨⟨⟨h.names _ ai,h.data.1⟩,h.data.2⟩,λs a=>h.names s (by simp [a]),d.2,λs a=>?_⟩,h.code⟩,h.fe⟩,λf b=>⟨?_,h.fix f b⟩,h.up⟩,h.main⟩
   · intro c
     rw [gU] at c;subst c;exact d.1 a
   · obtain ⟨p,u,_⟩:=ek (h.fix f b).1
     omega
variable {cg:av}
def Si (h:pV cg=true):ik cg=2:=by rw [ik,ZZ h]
def Sj (h:pV cg=false) (k:¬xc cg):ik cg=1:=by
 rw [ik,ZX (by rw [h]; decide),ZZ]
 cases a:tZ cg with
 | false=>rfl
 | true=>
   cases b:hO cg.code.length cg.main with
   | false=>rfl
   | true=>exact absurd ((JU cg).1 ⟨a,b⟩) k
end Go.Bw
end
section
namespace Go.Bw
open Go
def qI (n:Int):UInt8:=UInt8.ofNat (n % 256).toNat
def Ci (n:Int):List UInt8:=[qI (n.fdiv<|2 ^ 56),qI (n.fdiv<|2 ^ 48),qI (n.fdiv<|2 ^ 40),qI (n.fdiv<|2 ^ 32),qI (n.fdiv<|2 ^ 24),qI (n.fdiv<|2 ^ 16),qI (n.fdiv<|2 ^ 8),qI n]
def Cj (s:List UInt8):List UInt8:=qI s.length::s
def zP (n:Int):Prop:=-9223372036854775808<=n/\n<=9223372036854775807
def FT (i:ao):List UInt8:=qI i.op::(Ci i.a++Ci i.b)
def FU (f:fI):List UInt8:=Ci f.at_++qI f.kind::Ci f.m
structure ZM (o:av):Prop where
 code:∀i ∈ o.code,zP i.a/\zP i.b
end Go.Bw
end
section
namespace Go.Bw
open Go
structure Ns {α:Type} (gl:List UInt8->Option (α×List UInt8)) (no:List UInt8×Bool->α×(List UInt8×Bool)):Prop where
 some_:∀s r,gl s=some r->no (s,false)=(r.1,(r.2,false))
 none_:∀s,gl s=none->(no (s,false)).2.2=true
 bad:∀p,p.2=true->(no p).2.2=true
def Ns.pure {α:Type} (x:α):Ns (λs=>some (x,s)) (λp=>(x,p)):=⟨λs r h=>by injection h with h; subst h; rfl,λs h=>(by cases h),λp h=>h⟩
def Ns.bind {α β:Type} {c:List UInt8->Option (α×List UInt8)} {n1:List UInt8×Bool->α×(List UInt8×Bool)} {f:α->List UInt8->Option (β×List UInt8)} {n2:α->List UInt8×Bool->β×(List UInt8×Bool)}
   (d:Ns c n1) (e:∀a,Ns (f a) (n2 a)):Ns (λs=>(c s).bind λp=>f p.1 p.2) (λp=>n2 (n1 p).1 (n1 p).2):=by
 refine ⟨λs r h=>?_,λs h=>?_,λp h=>(e _).bad _<|d.bad p h⟩
 · obtain ⟨a,b,g⟩:=cU.1 h
   show n2 (n1 (s,false)).1 (n1 (s,false)).2=_
   rw [d.some_ s a b];exact (e _).some_ _ _ g
 · show (n2 (n1 (s,false)).1 (n1 (s,false)).2).2.2=true
   cases b:c s with
   | none=>exact (e _).bad _<|d.none_ s b
   | some a=>
     have h:(c s).bind (λp=>f p.1 p.2)=none:=h;rw [b] at h;rw [d.some_ s a b];exact (e _).none_ _ h
end Go.Bw
end
section
namespace Go.Bw
open Go
def Bi {n:Int}:∀(l:List fI) (lo:Int),lo<=n->(∀f ∈ l,lo<=f.at_/\f.at_<n)->(l.Pairwise λa b=>a.at_<b.at_)->(l.length:Int)<=n-lo
 | [],lo,h,_,_=>by simp; omega
 | x::r,lo,h,d,c=>by
   rw [AL] at c;have g:=d x ai;have i:=Bi r (x.at_+1) aa (λf e=>⟨by have:=c.1 f e; omega,(d f (by simp [e])).2⟩) c.2;simp only [gf];omega
variable {cg:av}
def Sk (h:xc cg):cg.fix.length<=cg.code.length:=by
 have:=Bi (n:=(cg.code.length:Int)) cg.fix 0 aa (λf a=>by
   obtain ⟨p,b,c⟩:=ek (h.fix f a).1
   omega) h.up
 omega
def aaw (h:ik cg=0):pV cg=false/\xc cg:=by
 have a:pV cg=false:=by
   cases a:pV cg with
   | false=>rfl
   | true=>rw [Si a] at h; cases h
 refine ⟨a,?_⟩;refine D9 λb=>?_;rw [Sj a b] at h;cases h
end Go.Bw
end
section
namespace Go.Bw
open Go
variable {bB:Type} {Z:Nat}
def Lg {f:bB->List UInt8} :∀(l:List bB) (h:∀x ∈ l,(f x).length<=Z),(l.flatMap f).length<=Z*l.length
 | [],_=>by simp
 | x::r,h=>by
   have b:=h x ai;have c:=Lg r λy a=>h y (by simp [a]);simp only [mM,jE,gf];rw [hU];omega
def FV {f:bB->List UInt8} {k:Nat} {l:List bB} (h:∀x ∈ l,(f x).length<=k) (i:Nat):((l.take i).flatMap f).length<=k*l.length:=by
 have a:=Lg (l.take i) λx b=>h x<|yh b
 have c:(l.take i).length<=l.length:=by simp; omega
 exact ea a<|H' _ c
def J1 (i:ao):(FT i).length=17:=rfl
def KQ (f:fI):(FU f).length=17:=rfl
def Lh (s:List UInt8):(Cj s).length=s.length+1:=rfl
structure vr (o:av):Prop where
 nm:o.nm.length<=8
 un:∀s ∈ o.aA,s.length<=8
 aA:o.aA.length<=3
 code:o.code.length<=2048
 fe:o.fe.length<=6
 fix:o.fix.length<=2048
def Li {s:List UInt8} (h:gi s=true):s.length<=8:=by
 unfold gi at h;simp only [dE,aab] at h;omega
variable {cg:av}
def y8 (h:ik cg=0):vr cg:=by
 obtain ⟨b,a⟩:=aaw h;have d:=Sk a;unfold pV at b;simp only [i9,aad] at b;exact ⟨Li<|a.names _ ai,λs c=>Li<|a.names s (by simp [c]),aa,aa,aa,aa⟩
def vr.us (h:vr cg) (i:Nat):((cg.aA.take i).flatMap Cj).length<=27:=by
 have b:=FV (f:=Cj) (k:=9) (l:=cg.aA) (λx a=>by have:=h.un x a; rw [Lh]; omega) i;have:=h.aA;omega
def vr.co (h:vr cg) (i:Nat):((cg.code.take i).flatMap FT).length<=34816:=by
 have a:=FV (f:=FT) (k:=17) (l:=cg.code) (λx b=>Nat.le_of_eq<|J1 x) i;have:=h.code;omega
def vr.fx (h:vr cg) (i:Nat):((cg.fix.take i).flatMap FU).length<=34816:=by
 have a:=FV (f:=FU) (k:=17) (l:=cg.fix) (λx b=>Nat.le_of_eq<|KQ x) i;have:=h.fix;omega
def Sn (n:Nat) (x:Int):aX x 0 ((n:Int)-1)=hO n x:=by
 unfold aX hO;rw [kr];simp;omega
def Lj {p:bB->Prop} {l:List bB}  {x:bB} (h:l[Z]? = some x) (b:∀y ∈ l.take Z,p y) (c:p x):∀y ∈ l.take (Z+1),p y:=λy a=>by
 rw [gV,h] at a
 rcases ge.1 a with a | a
 · exact b y a
 · have a:y ∈ [x]:=a
   rw [gU] at a;subst a;exact c
def Lk (o:av) (i:Nat) (x:fI):Bool:=
 ((((!(aX x.at_ 0<|(o.code.length:Int)-1)||(decide ((0:Int)<(i:Int))&&decide (x.at_<=((o.fix[i-1]?).map (·.at_)).getD 0)))||!(aX x.kind 1 3))||!(aX x.m 0 (o.aA.length:Int)))||!(aX (jj o.code x.at_) 0 2048))||(x.kind==1&&(!(x.m==0)||decide ((o.code.length:Int)<jj o.code x.at_)))
def Sp (U n:Nat) (k m a:Int):(!(!(aX k 1 3))&&(!(!(aX m 0 (U:Int)))&&(!(!(aX a 0 2048))&&!(k==1&&(!(m==0)||decide ((n:Int)<a))))))=kf U n k m a:=by
 unfold kf aX
 by_cases b:k=1
 · subst b
   rw [ZZ rfl,kr]
   by_cases c:m=0
   · subst c
     simp
   · simp [c]
 · rw [ZX b]
   by_cases d:k=2\/k=3
   · rw [ZZ d,kr]
     have e:(k==1)=false:=by simpa using b
     rw [e];simp;omega
   · rw [ZX d,kr]
     simp;omega
variable {nD:fI}
def Sq {l:List fI}   (f:l[Z]? = some nD) (g:(l.take Z).Pairwise λa b=>a.at_<b.at_) (c:0<Z->((l[Z-1]?).map (·.at_)).getD 0<nD.at_):(l.take<|Z+1).Pairwise λa b=>a.at_<b.at_:=by
 rw [gV,f]
 show (l.take Z++[nD]).Pairwise _
 rw [D7];refine ⟨g,by simp,λy i z h=>?_⟩;rw [gU] at h;subst h;obtain ⟨j,e⟩:=iE i
 have k:j<Z:=by
   have:=(cq.1 e).1;simp at this;omega
 have m:l[j]? = some y:=by rw [H_ k] at e; exact e
 have t:Z<l.length:=(cq.1 f).1;have c:=c (by omega);obtain ⟨u,d⟩:∃u,l[Z-1]? = some u:=⟨_,c6 (by omega)⟩;rw [d] at c;have c:u.at_<z.at_:=c
 by_cases n:j=Z-1
 · subst n
   rw [m] at d
   injection d with d
   subst d;exact c
 · have o:(l.take Z)[Z-1]? = some u:=by rw [jq,ZZ (by omega)]; exact d
   obtain ⟨p,q⟩:=cq.1 e;obtain ⟨r,s⟩:=cq.1 o;have:=AG.1 g j (Z-1) p r (by omega);rw [q,s] at this;omega
def y9 (o:av) (i:Nat):Prop:=(∀f ∈ o.fix.take i,hO o.code.length f.at_=true/\kf o.aA.length o.code.length f.kind f.m (jj o.code f.at_)=true)/\(o.fix.take i).Pairwise λa b=>a.at_<b.at_
def y9.zero (o:av):y9 o 0:=⟨ai,ai⟩
def y9.next {i:Nat}  (h:y9 cg i) (d:cg.fix[i]? = some nD) (c:Lk cg i nD=false):y9 cg (i+1):=by
 unfold Lk at c;simp only [i9] at c;obtain ⟨⟨⟨⟨⟨e,b⟩,g⟩,j⟩,k⟩,l⟩:=c;refine ⟨λf a=>?_,Sq d h.2 λm=>?_⟩
 · rw [gV,d] at a
   rcases ge.1 a with a | a
   · exact h.1 f a
   · have a:f ∈ [nD]:=a
     rw [gU] at a;subst a;refine ⟨(Sn _ _).symm.trans (by simpa using e),?_⟩;rw [<-Sp,g,j,k,l]
     rfl
 · rw [aaa (show (0:Int)<(i:Int) by omega)] at b
   have b:decide (nD.at_<=((cg.fix[i-1]?).map (·.at_)).getD 0)=false:=b;have:=aal b;omega
end Go.Bw
end
section
namespace Go.Bw
open Go
def gc (l:List av):List (List UInt8):=l.map (·.nm)
structure Pl where
 code:Int
 data:Int
 vi:List Nat
def o' (l:List av):Nat:=(l.map (·.code.length)).sum
def aax (l:List av):Int:=(l.map (·.data)).sum
def eG (l:List av) (k:Nat):Int:=((l.length+1+o' (l.take k):Nat):Int)
def aaq (l:List av) (k:Nat):Int:=aax<|l.take k
def sy (ns:List (List UInt8)) (o:av):Bool:=o.aA.all λs=>(idxOf s ns 0).isSome
def rC (ns:List (List UInt8)) (s:List UInt8):Nat:=(idxOf s ns 0).getD 0
def o_ (l:List av) (n:Nat) (o:av):List Nat:=n::o.aA.map (rC<|(gc l).take n)
def qJ (l:List av) (n:Nat) (o:av):Pl:=⟨eG l n,aaq l n,o_ l n o⟩
def ow (l:List av):List Pl:=l.mapIdx λn o=>qJ l n o
def aav (l:List av):Pl:=⟨eG l l.length,aaq l l.length,[]⟩
def aay (l:List av) (k:Nat):Nat:=((l[k]?).map (·.fe.length)).getD 0
def g8 (l:List av) (n:Nat) (o:av) (m:Int):Nat:=((o_ l n o)[m.toNat]?).getD 0
def qK (l:List av) (n:Nat) (o:av) (f:fI):Bool:=f.kind==2&&decide ((aay l (g8 l n o f.m):Int)<=jj o.code f.at_)
def sz (p:Nat->av->Bool) (l:List av):Bool:=(l.mapIdx p).any id
def h0 (l:List av):Int:=if l.length<1\/4<l.length then 2 else er (iY ik l) (if f_ (gc l)=true then 6 else if sz (λn o=>!(sy ((gc l).take n) o)) l=true then 9 else if sz (λn o=>o.fix.any<|qK l n o) l=true then 5 else 0)
variable {bl:List av} {Z:Nat} {cg:av}
def FW {p:Nat->av->Bool}    (h:bl[Z]? = some cg) (a:p Z cg=true):sz p bl=true:=by
 unfold sz;rw [q5];exact ⟨true,az (i:=Z) (by rw [hX,h,dR,a]),O⟩
def lp {p:Nat->av->Bool}  (h:∀n o,bl[n]? = some o->p n o=false):sz p bl=false:=by
 unfold sz;rw [tg];intro x b;obtain ⟨n,a⟩:=iE b;rw [hX] at a;obtain ⟨o,c,rfl⟩:=dS.1 a;simp [h n o c]
def Ll {p:Nat->av->Bool}  (h:sz p bl=false)   (a:bl[Z]? = some cg):p Z cg=false:=by
 cases b:p Z cg with
 | false=>rfl
 | true=>rw [FW a b] at h; cases h
def xe (l:List av):(gc l).length=l.length:=by simp [gc]
def Lm (h:bl[Z]? = some cg):(gc bl)[Z]? = some cg.nm:=by unfold gc; rw [e4,h]; rfl
def BE (h:bl.length<1\/4<bl.length):h0 bl=2:=by rw [h0,ZZ h]
def Sr (a:¬(bl.length<1\/4<bl.length)) (hi:bl[Z]? = some cg) (b:∀x ∈ bl.take Z,ik x=0) (h:¬ik cg=0):h0 bl=ik cg:=by
 rw [h0,ZX a,yO ik hi (BS.2 b) h,si h]
def lM (a:¬(bl.length<1\/4<bl.length)) (b:∀x ∈ bl,ik x=0):h0 bl=if f_ (gc bl)=true then 6 else if sz (λn o=>!(sy ((gc bl).take n) o)) bl=true then 9 else if sz (λn o=>o.fix.any<|qK bl n o) bl=true then 5 else 0:=by
 rw [h0,ZX a,BS.2 b,nt]
structure BF (l:List av):Prop where
 e8:¬(l.length<1\/4<l.length)
 nE:∀o ∈ l,ik o=0
 nd:(gc l).Nodup
 known:∀n o,l[n]? = some o->sy ((gc l).take n) o=true
 r':∀n o,l[n]? = some o->∀f ∈ o.fix,qK l n o f=false
def FX:h0 bl=0↔BF bl:=by
 constructor
 · intro h
   have b:¬(bl.length<1\/4<bl.length):=λb=>by rw [BE b] at h; cases h
   have d:∀x ∈ bl,ik x=0:=by
     rw [h0,ZX b,ll] at h;exact BS.1 h.1
   rw [lM b d] at h
   split at h
   · cases h
   · rename_i e
     split at h
     · cases h
     · rename_i g
       split at h
       · cases h
       · rename_i i
         refine ⟨b,d,j_.2 (by simpa using e),λn o a=>?_,λn o a f c=>?_⟩
         · have:=Ll (by simpa using g) a
           simpa using this
         · have:=Ll (p:=λn o=>o.fix.any<|qK bl n o) (by simpa using i) a
           rw [tg] at this
           simpa using this f c
 · intro h
   rw [lM h.e8 h.nE,j_.1 h.nd,ZX a8,lp (λn o a=>by rw [h.known n o a]; rfl),ZX a8,lp (λn o a=>by rw [tg]; intro f c; rw [h.r' n o a f c]; decide),ZX a8]
def Cm (h:bl[Z]? = some cg):o' (bl.take<|Z+1)=o' (bl.take Z)+cg.code.length:=by
 unfold o';rw [gV,h];simp
def BG (h:bl[Z]? = some cg):aax (bl.take<|Z+1)=aax (bl.take Z)+cg.data:=by
 unfold aax;rw [gV,h];simp
def Lq (h:∀o ∈ bl,o.code.length<=2048):∀i,i<=bl.length->o' (bl.take i)<=2048*i
 | 0,_=>by simp [o']
 | i+1,hi=>by
   obtain ⟨o,a⟩:∃o,bl[i]? = some o:=⟨_,c6 (by omega)⟩;have b:=Lq h i (by omega);have c:=h o (az a);rw [Cm a];omega
def Lr (h:∀o ∈ bl,0<=o.data/\o.data<=512):∀i,i<=bl.length->0<=aax (bl.take i)/\aax (bl.take i)<=512*i
 | 0,_=>by simp [aax]
 | i+1,hi=>by
   obtain ⟨o,a⟩:∃o,bl[i]? = some o:=⟨_,c6 (by omega)⟩;have b:=Lr h i (by omega);have c:=h o (az a);rw [BG a];omega
def Ls (h:ik cg=0):0<=cg.data/\cg.data<=512:=(aaw h).2.data
def y' (c:¬(bl.length<1\/4<bl.length)) (h:∀o ∈ bl,ik o=0) {k:Nat} (a:k<=bl.length):0<=eG bl k/\eG bl k<=9000:=by
 have d:=Lq (λo b=>(y8<|h o b).code) k a;unfold eG;omega
def y_ (c:¬(bl.length<1\/4<bl.length)) (h:∀o ∈ bl,ik o=0) {k:Nat} (a:k<=bl.length):0<=aaq bl k/\aaq bl k<=2048:=by
 have d:=Lr (λo b=>Ls<|h o b) k a;unfold aaq;omega
def FY (h:bl[Z]? = some cg):eG bl (Z+1)=eG bl Z+(cg.code.length:Int):=by
 unfold eG;rw [Cm h];omega
def Ss (h:bl[Z]? = some cg):aaq bl (Z+1)=aaq bl Z+cg.data:=by
 unfold aaq;rw [BG h]
def FZ (h:bl[Z]? = some cg):(ow bl)[Z]? = some (qJ bl Z cg):=by unfold ow; rw [hX,h]; rfl
def aaz (l:List av):(ow l).length=l.length:=by simp [ow]
def KR (h:bl[Z]? = some cg):(ow bl).take (Z+1)=(ow bl).take Z++[qJ bl Z cg]:=by rw [gV,FZ h]; rfl
def F0 (h:bl[Z]? = some cg):(ow bl++[aav bl])[Z]? = some (qJ bl Z cg):=by
 have hi:=(cq.1 h).1;rw [oM (by rw [aaz]; exact hi),FZ h]
def Su (l:List av):(ow l++[aav l])[l.length]? = some (aav l):=by
 rw [nc (by rw [aaz]; exact cQ _),aaz,yf]
 rfl
def F1 (l:List av) (n:Nat) (o:av):(o_ l n o).length=o.aA.length+1:=by simp [o_]
def Sv (c:Z<bl.length) (d:sy ((gc bl).take Z) cg=true):∀k ∈ o_ bl Z cg,k<bl.length:=by
 intro k a;unfold o_ at a
 rcases ep.1 a with rfl | a
 · exact c
 · obtain ⟨s,e,rfl⟩:=q6.1 a
   have b:=gN.1 d s e;unfold rC
   cases hi:idxOf s ((gc bl).take Z) 0 with
   | none=>rw [hi] at b; cases b
   | some k=>
     have:=(cq.1 (pP hi).2).1;rw [k',xe] at this
     show k<bl.length
     omega
variable {aH:Int}
def Lt (c:Z<bl.length) (d:sy ((gc bl).take Z) cg=true)  (f:0<=aH) (g:aH<=(cg.aA.length:Int)):(o_ bl Z cg)[aH.toNat]? = some (g8 bl Z cg aH)/\g8 bl Z cg aH<bl.length:=by
 have a:aH.toNat<(o_ bl Z cg).length:=by rw [F1]; omega
 have b:(o_ bl Z cg)[aH.toNat]? = some (o_ bl Z cg)[aH.toNat]:=c6 a
 have e:g8 bl Z cg aH=(o_ bl Z cg)[aH.toNat]:=by unfold g8; rw [b]; rfl
 rw [e];exact ⟨b,Sv c d _<|D6 a⟩
def nF (c:List ao) (p:Nat) (v:Int):List ao:=match c[p]? with | some x=>c.set p ⟨x.op,v,x.b⟩ | none=>c
def xf (l:List av) (k:Nat) (a:Int):Int:=((l[k]?).bind λo=>o.fe[a.toNat]?).getD 0
def dt (l:List av) (n:Nat) (o:av) (f:fI):Int:=
 if f.kind=1 then jj o.code f.at_+eG l n else if f.kind=2 then eG l (g8 l n o f.m)+xf l (g8 l n o f.m) (jj o.code f.at_) else jj o.code f.at_+aaq l (g8 l n o f.m)
def k3 (l:List av) (n:Nat) (o:av) (c:List ao) (fs:List fI):List ao:=fs.foldl (λc f=>nF c f.at_.toNat<|dt l n o f) c
def ox (l:List av):List ao:=l.mapIdx λn o=>(⟨13,eG l n+o.main,0⟩:ao)
def sA (l:List av) (n:Nat) (o:av):List ao:=k3 l n o o.code o.fix
def vt (l:List av) (n:Nat):List ao:=((l.mapIdx λn o=>sA l n o).take n).flatten
def g9 (l:List av) (n:Nat):List ao:=ox l++[⟨20,0,0⟩]++vt l n
def jk (l:List av):List ao:=g9 l l.length
def eV (l:List av):(List ao×Int)×Int:=if h0 l≠0 then (([],0),h0 l) else if 2048<eG l l.length\/512<aaq l l.length then (([],0),2) else ((jk l,aaq l l.length),0)
def Sw (c:List ao) (p:Nat) (v:Int):(nF c p v).length=c.length:=by unfold nF; split<;>simp
variable {hz:List ao}
def Lu {x:ao} (h:hz[Z]? = some x) (v:Int):nF hz Z v=hz.set Z ⟨x.op,v,x.b⟩:=by unfold nF; rw [h]
variable {aw:Nat}
def BI (v:Int) (h:Z≠aw):(nF hz Z v)[aw]? = hz[aw]?:=by
 unfold nF
 split
 · rw [List.getElem?_set_ne h]
 · rfl
def Cn (l:List av) (n:Nat) (o:av):∀(fs:List fI) (c:List ao),(k3 l n o c fs).length=c.length
 | [],c=>rfl
 | f::r,c=>by
   show (k3 l n o (nF c f.at_.toNat<|dt l n o f) r).length=_
   rw [Cn l n o r,Sw]
variable {nD:fI}
def F2 {fs:List fI}   (h:fs[aw]? = some nD):k3 bl Z cg hz (fs.take<|aw+1)=nF (k3 bl Z cg hz<|fs.take aw) nD.at_.toNat (dt bl Z cg nD):=by
 unfold k3;rw [gV,h];simp
def BJ:∀(fs:List fI) (c:List ao),(∀f ∈ fs,f.at_.toNat≠aw)->(k3 bl Z cg c fs)[aw]? = c[aw]?
 | [],c,_=>rfl
 | f::r,c,h=>by
   show (k3 bl Z cg (nF c f.at_.toNat<|dt bl Z cg f) r)[aw]? = _
   rw [BJ r _ λg a=>h g (by simp [a]),BI _ (h f ai)]
def Sx {l:List av} {n:Nat}  (a:xc cg)   (h:cg.fix[Z]? = some nD):(k3 l n cg cg.code<|cg.fix.take Z)[nD.at_.toNat]? = cg.code[nD.at_.toNat]?:=by
 refine BJ _ _ λg c e=>?_;obtain ⟨i,hi⟩:=iE c
 have b:i<Z:=by
   have:=(cq.1 hi).1;rw [k'] at this;omega
 rw [H_ b] at hi;obtain ⟨a1,a2⟩:=cq.1 hi;obtain ⟨d,f⟩:=cq.1 h;have:=AG.1 a.up i Z a1 d b;rw [a2,f] at this;obtain ⟨p,j,_⟩:=ek (a.fix g<|az hi).1;obtain ⟨k,m,_⟩:=ek (a.fix nD<|az h).1;omega
def vu (l:List av):(ox l).length=l.length:=by simp [ox]
def Sy (h:bl[Z]? = some cg):(ox bl).take (Z+1)=(ox bl).take Z++[⟨13,eG bl Z+cg.main,0⟩]:=by
 rw [gV];unfold ox;rw [hX,h]
 rfl
def F3 (l:List av):vt l 0=[]:=rfl
def F4 (h:bl[Z]? = some cg):vt bl (Z+1)=vt bl Z++sA bl Z cg:=by
 unfold vt;rw [gV,hX,h];simp
def Lx:∀{i:Nat},i<=bl.length->(vt bl i).length=o' (bl.take i)
 | 0,_=>by simp [F3,o']
 | i+1,hi=>by
   obtain ⟨o,a⟩:∃o,bl[i]? = some o:=⟨_,c6 (by omega)⟩;rw [F4 a,jE,Lx (i:=i) (by omega),Cm a];unfold sA;rw [Cn]
def F5 {l:List av} {i:Nat} (hi:i<=l.length):((g9 l i).length:Int)=eG l i:=by
 unfold g9 eG;rw [jE,jE,vu,Lx hi,yg]
def F6 (h:bl[Z]? = some cg):g9 bl (Z+1)=g9 bl Z++sA bl Z cg:=by
 unfold g9;rw [F4 h,bV,bV,bV]
def F7 {l:List av} {n:Nat} {o:av} {c:List ao} {p:Nat} {x:ao} (v:Int) (h:c[p]? = some x):(g9 l n++c).set ((g9 l n).length+p) ⟨x.op,v,x.b⟩=g9 l n++nF c p v:=by
 rw [H8 _ _ aa,wq,Lu h]
def Sz (h:∀i ∈ hz,bU i):∀i ∈ nF hz Z aH,bU i:=by
 unfold nF
 split
 · rename_i x a
   intro i hi
   rcases List.mem_or_eq_of_mem_set hi with hi | rfl
   · exact h i hi
   · exact h x<|az a
 · exact h
def Ly (l:List av) (n:Nat) (o:av):∀(fs:List fI) (c:List ao),(∀i ∈ c,bU i)->∀i ∈ k3 l n o c fs,bU i
 | [],c,h=>h
 | f::r,c,h=>Ly l n o r _ (Sz h)
def Lz (h:∀o ∈ bl,ik o=0):∀{i:Nat},i<=bl.length->∀x ∈ vt bl i,bU x
 | 0,_=>by simp [F3]
 | i+1,hi=>by
   obtain ⟨o,b⟩:∃o,bl[i]? = some o:=⟨_,c6 (by omega)⟩;rw [F4 b];intro x a
   rcases ge.1 a with a | a
   · exact Lz h (i:=i) (by omega) x a
   · exact Ly bl i o _ _ (aaw<|h o<|az b).2.code x a
def SA (h:∀o ∈ bl,ik o=0):∀x ∈ jk bl,bU x:=by
 intro x a;unfold jk g9 at a
 rcases ge.1 a with a | a
 · rcases ge.1 a with a | a
   · unfold ox at a
     obtain ⟨n,b⟩:=iE a;rw [hX] at b;obtain ⟨o,_,rfl⟩:=dS.1 b;exact ⟨show (1:Int)<=13 by decide,show (13:Int)<=22 by decide⟩
   · rw [gU] at a; subst a; exact ⟨a8,a8⟩
 · exact Lz h (cQ _) x a
def BO (l:List av):((jk l).length:Int)=eG l l.length:=F5<|cQ _
variable {aU:List UInt8}
def F8:∀(m:List (aL<|List UInt8)) (i:Nat),(dC aU m i).isSome=true↔aU ∈ m.map (·.1)
 | [],i=>by simp [dC]
 | e::r,i=>by
   rw [dC,k_,ep]
   by_cases h:aU=e.1
   · simp [h]
   · rw [ZX (by simpa using h),F8 r (i+1)]
     simp [h]
variable {iL:List (aL<|List UInt8)}
def LB {v:Value}  :(aU ∈ iL.map (·.1)->(aan aU v iL Z).length=iL.length)/\(aU ∉ iL.map (·.1)->(aan aU v iL Z).map (·.1)=iL.map (·.1)++[aU]):=by
 constructor
 · intro h
   have a:=(F8 iL 0).2 h;unfold aan
   cases b:dC aU iL 0 with
   | none=>rw [b] at a; cases a
   | some r=>simp
 · intro h
   have a:dC aU iL 0=none:=by
     cases b:dC aU iL 0 with
     | none=>rfl
     | some r=>exact absurd ((F8 iL 0).1 (by rw [b]; rfl)) h
   unfold aan;rw [a];simp
def sB (ns:List (List UInt8)) (i:Nat) (M:List (aL<|List UInt8)):Prop:=
 (∀s,gn s M (.int .i64 0) = .int .i64 (((ns.take i).count s:Nat):Int))/\(((ns.take i).Nodup/\M.map (·.1)=ns.take i)\/(¬(ns.take i).Nodup/\M.length<i))
def sB.zero (ns:List (List UInt8)):sB ns 0 []:=⟨λs=>by simp [gn,dC],.inl ⟨ai,ai⟩⟩
variable {cw:List (List UInt8)}
def sB.step (h:sB cw Z iL) (m:cw[Z]? = some aU) (c:Nat):sB cw (Z+1) (aan aU (.int .i64<|((cw.take Z).count aU:Nat)+1) iL c):=by
 have r:=(cq.1 m).1
 have o:(cw.take Z).length=Z:=by simp; omega
 have d:cw.take (Z+1)=cw.take Z++[aU]:=by rw [gV,m]; rfl
 refine ⟨λs=>?_,?_⟩
 · by_cases e:s=aU
   · subst e
     rw [iO,d,AM];simp
   · rw [yV _ iL c _ e,h.1 s,d,AM]
     have p:¬aU=s:=λk=>e k.symm;simp [D',p]
 · rcases h.2 with ⟨l,g⟩ | ⟨l,g⟩
   · by_cases j:aU ∈ cw.take Z
     · right
       refine ⟨λi=>?_,?_⟩
       · rw [d,lI] at i
         exact i.2.2 aU j aU ai O
       · rw [LB.1 (by rw [g]; exact j),<-fu (f:=(·.1)),g,o]
         omega
     · left
       refine ⟨?_,?_⟩
       · rw [d,lI]
         exact ⟨l,ai,λa q b n e=>by rw [gU] at n; subst n; subst e; exact j q⟩
       · rw [LB.2 (by rw [g]; exact j),g,d]
   · right
     refine ⟨λi=>l ?_,?_⟩
     · rw [d,lI] at i; exact i.1
     · have:=Kc aU (.int .i64<|((cw.take Z).count aU:Nat)+1) iL c
       omega
def sB.e8 (h:sB cw cw.length iL):iL.length<cw.length↔f_ cw=true:=by
 have a:=h.2;rw [gE] at a
 rcases a with ⟨b,a⟩ | ⟨b,a⟩
 · rw [j_] at b
   have:iL.length=cw.length:=by rw [<-fu (f:=(·.1)),a]
   rw [b]
   constructor
   · intro; omega
   · intro e; cases e
 · rw [j_] at b
   exact ⟨λ_=>by simpa using b,λ_=>a⟩
end Go.Bw
end
section
namespace Go.Bw
open Go
abbrev Tx:=List UInt8
def za:List UInt8:=[109,111,100,117,108,101]
def zb:List UInt8:=[117,115,101]
def Co:List UInt8:=[112,117,98]
def l1:List UInt8:=[99,111,110,115,116]
def tR:List UInt8:=[118,97,114]
def l3:List UInt8:=[97,114,114,97,121]
def Cp:List UInt8:=[112,114,111,99]
def vv:List UInt8:=[108,111,99,97,108]
def qL:List UInt8:=[109,97,105,110]
def hj:List UInt8:=[105,102]
def hk:List UInt8:=[101,108,115,101]
def hl:List UInt8:=[119,104,105,108,101]
def bk:List UInt8:=[114,101,116,117,114,110]
def g_:List UInt8:=[111,117,116]
def vw:List UInt8:=[105,110]
def J (l:List Tx):Tx:=Lib.join l [32]
def oy (mod nm:Tx):List Tx:=if (mod==[])=true then [nm] else [mod,[46],nm]
def opsL:List Tx:=[[38],[124],[43],[45],[42],[47],[37],[61],[60]]
def F9 (op:Int):Tx:=(opsL[(op-7).toNat]?).getD []
def sC:List (List Tx)->List Tx
 | []=>[]
 | [x]=>x
 | x::y::r=>x++[[44]]++sC (y::r)
def xg (l:List (List Tx)):List Tx:=[[40]]++sC l++[[41]]
def at_ (l:List (List Tx)) (i:Nat):List Tx:=(l[i]?).getD []
def en (op n:Int) (mod nm:Tx) (a:List (List Tx)):List Tx:=
 if op=1 then [Lib.itoa n] else if op=2 then [vw] else if op=3 then oy mod nm else if op=4 then oy mod nm++[[91]]++at_ a 0++[[93]] else if op=5 then oy mod nm++xg a
 else if op=6 then [[33]]++at_ a 0 else [[40]]++at_ a 0++[F9 op]++at_ a 1++[[41]]
mutual
def kG:bT->List Tx
 | .mk op n mod nm args=>en op n mod nm (lq args)
def lq:List bT->List (List Tx)
 | []=>[]
 | x::r=>kG x::lq r
end
def Cq (l:List Tx):List Tx:=[[123]]++l++[[125]]
def qM (op:Int) (mod nm:Tx) (a:List (List Tx)) (b:List Tx) (c:Nat) (o:List Tx):List Tx:=
 if op=4\/op=5 then [if op=5 then hl else hj]++at_ a 0++Cq b++(if 0<c then [hk]++Cq o else [])
 else (if op=6 then [bk]++at_ a 0 else if op=7 then [g_]++at_ a 0 else if op=3 then oy mod nm++xg a else if op=1 then oy mod nm++[[61]]++at_ a 0 else if op=2 then oy mod nm++[[91]]++at_ a 0++[[93],[61]]++at_ a 1 else [])++[[59]]
mutual
def sD:b9->List Tx
 | .mk op mod nm args body other=>qM op mod nm (lq args) (sE body) other.length (sE other)
def sE:List b9->List Tx
 | []=>[]
 | x::r=>sD x++sE r
end
def xh (l:List b9):List Tx:=Cq<|sE l
def F' (u:Tx):List Tx:=[vv,u,[59]]
def mj (d:eb):List Tx:=if d.kind=1 then [l1,d.nm,[61],Lib.itoa d.n] else if d.kind=2 then [tR,d.nm] else if d.kind=3 then [l3,d.nm,[91],Lib.itoa d.n,[93]] else []
def h1 {a b:bM} (h:(a+b).cA=0):a.cA=0/\b.cA=0:=by
 rw [bM.e1] at h; omega
variable {ax:Bool}
def eo (h:(ez ax).cA=0):ax=false:=by cases ax; rfl; cases h
def zc (h:(c7 ax).cA=0):ax=false:=by cases ax; rfl; cases h
def LC (h:(eE ax).cA=0):ax=false:=by cases ax; rfl; cases h
structure F_ (op n:Int) (mod nm:Tx) (args:List bT) (d:Nat):Prop where
 deep:d<=6
 kind:1<=op/\op<=15
 name:pF (aX op 3 5) mod nm=false
 xi:pG (lf op) args.length=false
 e8:args.length<=3
 num:jI op n=false
 sub:(dZ args<|d+1).cA=0
variable {ck fi:Tx} {e_:List bT} {Z:Nat}
def LD {op n:Int}    (h:(iX (.mk op n ck fi e_) Z).cA=0):F_ op n ck fi e_ Z:=by
 unfold iX at h
 split at h
 · cases h
 · rename_i m
   obtain ⟨h,c⟩:=h1 h;obtain ⟨h,d⟩:=h1 h;obtain ⟨e,a⟩:=h1 h;have b:=LC e;obtain ⟨f,g⟩:=Qn b;unfold eR at a;obtain ⟨a,i⟩:=h1 a;obtain ⟨j,k⟩:=h1 a;rw [Jn] at b;have l:=zc i;exact ⟨aa,by simp [aX] at b; omega,by rw [<-f]; exact eo j,by rw [<-g]; exact eo k,by simp at l; omega,eo d,c⟩
def SB (mod nm:Tx):oy mod nm≠[]:=by unfold oy; split<;>simp
def SC:∀x:bT,kG x≠[]
 | .mk op n mod nm args=>by
   unfold kG en xg;have:=SB mod nm
   repeat' split
   all_goals simp_all
structure zd (op:Int) (mod nm:Tx) (args:List bT) (body other:List b9) (d:Nat):Prop where
 kind:1<=op/\op<=7
 name:pF (aX op 1 3) mod nm=false
 xi:pG (oX op) args.length=false
 e8:args.length<=3
 exprs:(dZ args 1).cA=0
 form:iH op body.length other.length=false
 body:(inner op||decide (0<body.length))=true->(oW (d+1) body.length<|dI body<|d+1).cA=0
 other:0<other.length->(oW (d+1) other.length<|dI other<|d+1).cA=0
variable {aH:Int} {k4 Ga:List b9}
def LF (h:(n6 (.mk aH ck fi e_ k4 Ga) Z).cA=0):zd aH ck fi e_ k4 Ga Z:=by
 unfold n6 at h;obtain ⟨h,d⟩:=h1 h;obtain ⟨h,e⟩:=h1 h;obtain ⟨h,f⟩:=h1 h;obtain ⟨h,g⟩:=h1 h;obtain ⟨i,a⟩:=h1 h;have b:=LC i;obtain ⟨j,k⟩:=Qo b;unfold eR at a;obtain ⟨a,l⟩:=h1 a;obtain ⟨m,n⟩:=h1 a;rw [Jo] at b;have o:=zc l;refine ⟨by simp [aX] at b; omega,by rw [<-j]; exact eo m,by rw [<-k]; exact eo n,by simp at o; omega,g,eo f,λc=>?_,λc=>?_⟩
 · rw [ZZ c] at e; exact e
 · rw [ZZ c] at d; exact d
def zd.len (h:zd aH ck fi e_ k4 Ga Z) (b:aH≠3):e_.length=if aH=2 then 2 else 1:=by
 have:=h.xi;unfold pG oX at this
 by_cases a:aH=2
 · rw [ZZ a] at this ⊢; simp at this; omega
 · rw [ZX a,ZX b] at this; rw [ZX a]; simp at this; omega
def SD:∀x:b9,sD x≠[]
 | .mk op mod nm args body other=>by
   unfold sD qM
   split<;>simp
def SE {d:eb} (h:(iI d).cA=0):d.kind=1\/d.kind=2\/d.kind=3:=by
 unfold iI at h;obtain ⟨_,h⟩:=h1 h
 by_cases a:d.kind=1
 · exact .inl a
 · rw [ZX a] at h
   by_cases b:d.kind=2
   · exact .inr<|.inl b
   · rw [ZX b] at h
     by_cases c:d.kind=3
     · exact .inr<|.inr c
     · rw [ZX c] at h; cases h
def LG:∀{l:List eb},(e6 l).cA=0->∀d ∈ l,(iI d).cA=0
 | [],_,d,a=>by simp at a
 | x::r,h,d,a=>by
   unfold e6 at h;obtain ⟨b,c⟩:=h1 h
   rcases ep.1 a with rfl | a
   · exact b
   · exact LG c d a
def LH:∀{l:List f'},(fH l).cA=0->∀d ∈ l,(qr d).cA=0
 | [],_,d,a=>by simp at a
 | x::r,h,d,a=>by
   unfold fH at h;obtain ⟨b,c⟩:=h1 h
   rcases ep.1 a with rfl | a
   · exact b
   · exact LH c d a
def KZ {c:bM}:sd c=0↔c.cA=0:=by
 unfold sd bM.cA
 split
 · omega
 · split
   · omega
   · split<;>omega
end Go.Bw
end
section
namespace Go.Bw
open Go
def vx (s:Tx):Tok:=match Lib.atoiAll s with
 | .ok v=>⟨2,v,[]⟩
 | _=>if gi s=true then ⟨1,0,s⟩ else ⟨3,0,s⟩
def LI (t:Tok):Prop:=u3 t=true/\oV t=true
def SG:∀u ∈ EN,vx [u]=⟨3,0,[u]⟩:=a8
variable {ck:Tx}
def SH (h:gi ck=true):vx ck=⟨1,0,ck⟩:=by
 cases ck with
 | nil=>simp [gi] at h
 | cons c r=>
   have a:ri (c.toNat:Int)=true:=by
     simp only [gi,dE] at h
     simpa using h.1.2
   have e:97<=c.toNat:=by simp [ri] at a; omega
   have b:∀v,Lib.atoiAll (c::r)≠.ok v:=by
     intro v hv;rw [Lib.atoiAll_plain c r aa aa] at hv;unfold Lib.parseMag Lib.parseUint10 at hv;rw [ZX ai,ZX aa] at hv;cases hv
   unfold vx
   cases d:Lib.atoiAll (c::r) with
   | ok v=>exact absurd d<|b v
   | _=>simp [h]
def SI {n:Int} (a:0<=n) (b:n<=1099511627775):vx (Lib.itoa n)=⟨2,n,[]⟩:=by
 unfold vx;rw [Jh a,Jj aa];simp; omega
def mB {t:Tok} (h:LI t):vx (fb t)=t:=by
 obtain ⟨b,a⟩:=h;obtain ⟨k,n,s⟩:=t
 have d:k=1\/k=2\/k=3:=by simp [u3] at b; omega
 rcases d with rfl | rfl | rfl
 · simp only [oV,ZZ,dE,aac] at a
   obtain ⟨rfl,e⟩:=a;exact SH e
 · have:s=[]/\0<=n/\n<=1099511627775:=by simpa [oV] using a
   obtain ⟨rfl,f,g⟩:=this;exact SI f g
 · have:n=0/\s.length=1/\e9 (s[0]?.getD 0)=true:=by simpa [oV] using a
   obtain ⟨rfl,i,j⟩:=this
   match s,i with
   | [c],_=>exact SG c (by simpa [e9] using j)
def ze (h:hF ck=true):gi ck=true:=by
 simp only [hF,dE] at h; exact h.1
def vy:∀{l:List Tx},(bO l).cA=0->∀s ∈ l,hF s=true
 | [],_,s,a=>by simp at a
 | x::r,h,s,a=>by
   unfold bO at h;obtain ⟨b,c⟩:=h1 h
   rcases ep.1 a with rfl | a
   · simpa using eo b
   · exact vy c s a
structure LJ (d:eb):Prop where
 name:hF d.nm=true
 kind:d.kind=1\/d.kind=2\/d.kind=3
 n1:d.kind=1->0<=d.n/\d.n<=1099511627775
 n2:d.kind=2->d.n=0
 n3:d.kind=3->1<=d.n/\d.n<=32
def Ct {d:eb} (h:(iI d).cA=0):LJ d:=by
 have b:=SE h;unfold iI at h;obtain ⟨c,a⟩:=h1 h;refine ⟨vy c d.nm ai,b,λe=>?_,λe=>?_,λe=>?_⟩
 · rw [ZZ e] at a
   have:=eo a;simp at this; omega
 · rw [ZX aa,ZZ e] at a
   have:=eo a
   simpa using this
 · rw [ZX aa,ZX aa,ZZ e] at a
   have:=eo a;simp at this; omega
structure SJ (p:f'):Prop where
 name:hF p.nm=true
 params:∀s ∈ p.params,hF s=true
 aC:∀s ∈ p.aC,hF s=true
 e8:p.params.length<=3/\p.aC.length<=4
 body:(e' p.body 1).cA=0
def zf {p:f'} (h:(qr p).cA=0):SJ p:=by
 unfold qr at h;obtain ⟨h,a⟩:=h1 h;obtain ⟨h,b⟩:=h1 h;obtain ⟨h,c⟩:=h1 h;obtain ⟨d,e⟩:=h1 h;have:=zc b;simp at this;exact ⟨vy d p.nm ai,vy e,vy c,aa,a⟩
structure lr (m:df):Prop where
 name:hF m.nm=true
 aA:∀s ∈ m.aA,hF s=true
 e8:m.aA.length<=3/\m.decls.length<=10/\m.procs.length<=6
 decls:∀d ∈ m.decls,(iI d).cA=0
 procs:∀p ∈ m.procs,(qr p).cA=0
 main:(e' m.main 1).cA=0
def LK {m:df} (h:(tz m).cA=0):lr m:=by
 unfold tz at h;obtain ⟨h,a⟩:=h1 h;obtain ⟨h,b⟩:=h1 h;obtain ⟨h,c⟩:=h1 h;obtain ⟨h,d⟩:=h1 h;obtain ⟨e,f⟩:=h1 h;have:=zc d;simp at this;exact ⟨vy e m.nm ai,vy f,aa,LG c,LH b,a⟩
end Go.Bw
end
section
namespace Go.Bw
open Go
abbrev Tk:=List Tok
def bN (s:Tx):Tk->Option Tk
 | []=>none
 | t::r=>if (t.text==s)=true then some r else none
def nG (k:Int):Tk->Option (Tok×Tk)
 | []=>none
 | t::r=>if t.kind=k then some (t,r) else none
def gZ (l:Tk):Option (Tx×Tk):=(nG 1 l).bind λp=>if hF p.1.text=true then some (p.1.text,p.2) else none
def nH (l:Tk):Option (Int×Tk):=(nG 2 l).map λp=>(p.1.n,p.2)
def m1 (l:Tk):Option ((Tx×Tx)×Tk):=(gZ l).bind λa=>match bN [46] a.2 with
 | some r=>(gZ r).map λb=>((a.1,b.1),b.2)
 | none=>some (([],a.1),a.2)
def mC (a:Tk->Option (bT×Tk)):Nat->Tk->Option (List bT×Tk)
 | 0,_=>none
 | n+1,l=>(a l).bind λx=>match bN [41] x.2 with
   | some r=>some ([x.1],r)
   | none=>match bN [44] x.2 with
     | some r=>(mC a n r).map λq=>(x.1::q.1,q.2)
     | none=>none
def l4 (a:Tk->Option (bT×Tk)) (l:Tk):Option (List bT×Tk):=match bN [41] l with
 | some r=>some ([],r)
 | none=>mC a (l.length+1) l
def du:List Tx->Nat->Tk->Option (Nat×Tk)
 | [],_,_=>none
 | w::ws,i,l=>match bN w l with
   | some r=>some (i,r)
   | none=>du ws (i+1) l
def nI (c:Tk->Option (bT×Tk)) (l:Tk):Option (bT×Tk):=(c l).bind λa=>(du opsL 0 a.2).bind λo=>(c o.2).bind λb=>(bN [41] b.2).map λr=>(bT.mk (7+(o.1:Int)) 0 [] [] [a.1,b.1],r)
def pW (a:Tk->Option (bT×Tk)) (mod nm:Tx) (l:Tk):Option (bT×Tk):=match bN [91] l with
 | some r=>(a r).bind λx=>(bN [93] x.2).map λr=>(bT.mk 4 0 mod nm [x.1],r)
 | none=>match bN [40] l with
   | some r=>(l4 a r).map λq=>(bT.mk 5 0 mod nm q.1,q.2)
   | none=>some (bT.mk 3 0 mod nm [],l)
def oz (a:Tk->Option (bT×Tk)) (l:Tk):Option (bT×Tk):=match bN vw l with
 | some r=>some (bT.mk 2 0 [] [] [],r)
 | none=>match bN [33] l with
   | some r=>(a r).map λx=>(bT.mk 6 0 [] [] [x.1],x.2)
   | none=>match bN [40] l with
     | some r=>nI a r
     | none=>(m1 l).bind λp=>pW a p.1.1 p.1.2 p.2
def bf:Nat->Tk->Option (bT×Tk)
 | 0,_=>none
 | f+1,l=>match l with
   | []=>none
   | t::r=>if t.kind=2 then some (bT.mk 1 t.n [] [] [],r) else oz (bf f) (t::r)
def g0 (l:Tk):Option (b9×Tk):=match bN bk l with
 | some r=>(bf 6 r).map λx=>(b9.mk 6 [] [] [x.1] [] [],x.2)
 | none=>match bN g_ l with
   | some r=>(bf 6 r).map λx=>(b9.mk 7 [] [] [x.1] [] [],x.2)
   | none=>(m1 l).bind λp=>match bN [40] p.2 with
     | some r=>(l4 (bf 6) r).map λq=>(b9.mk 3 p.1.1 p.1.2 q.1 [] [],q.2)
     | none=>match bN [91] p.2 with
       | some r=>(bf 6 r).bind λi=>(bN [93] i.2).bind λr=>(bN [61] r).bind λr=>(bf 6 r).map λx=>(b9.mk 2 p.1.1 p.1.2 [i.1,x.1] [] [],x.2)
       | none=>(bN [61] p.2).bind λr=>(bf 6 r).map λx=>(b9.mk 1 p.1.1 p.1.2 [x.1] [] [],x.2)
def aar (pb:Tk->Option (List b9×Tk)) (l:Tk):Option (b9×Tk):=match bN hj l with
 | some r=>(bf 6 r).bind λx=>(pb x.2).bind λb=>match bN hk b.2 with
   | some r=>(pb r).bind λo=>if o.1.length=0 then none else some (b9.mk 4 [] [] [x.1] b.1 o.1,o.2)
   | none=>some (b9.mk 4 [] [] [x.1] b.1 [],b.2)
 | none=>match bN hl l with
   | some r=>(bf 6 r).bind λx=>(pb x.2).map λb=>(b9.mk 5 [] [] [x.1] b.1 [],b.2)
   | none=>(g0 l).bind λs=>(bN [59] s.2).map λr=>(s.1,r)
def oA (ps:Tk->Option (b9×Tk)):Nat->Tk->Option (List b9×Tk)
 | 0,_=>none
 | n+1,l=>match bN [125] l with
   | some r=>some ([],r)
   | none=>(ps l).bind λs=>(oA ps n s.2).map λq=>(s.1::q.1,q.2)
def hA:Nat->Tk->Option (List b9×Tk)
 | 0,_=>none
 | f+1,l=>(bN [123] l).bind λr=>oA (aar<|hA f) (r.length+1) r
def h2 (cZ:Bool) (l:Tk):Option (Option eb×Tk):=match bN l1 l with
 | some r=>(gZ r).bind λa=>(bN [61] a.2).bind λr=>(nH r).bind λn=>(bN [59] n.2).map λr=>(some ⟨1,a.1,cZ,n.1⟩,r)
 | none=>match bN tR l with
   | some r=>(gZ r).bind λa=>(bN [59] a.2).map λr=>(some ⟨2,a.1,cZ,0⟩,r)
   | none=>match bN l3 l with
     | some r=>(gZ r).bind λa=>(bN [91] a.2).bind λr=>(nH r).bind λn=>(bN [93] n.2).bind λr=>(bN [59] r).map λr=>(some ⟨3,a.1,cZ,n.1⟩,r)
     | none=>some (none,l)
def ls (l:Tk):Bool×Tk:=((bN Co l).isSome,(bN Co l).getD l)
def oB:Nat->Bool->Tk->Option ((List eb×Bool)×Tk)
 | 0,_,_=>none
 | n+1,cZ,l=>(h2 cZ l).bind λd=>match d.1 with
   | none=>some (([],cZ),d.2)
   | some x=>(oB n (ls d.2).1 (ls d.2).2).map λq=>((x::q.1.1,q.1.2),q.2)
def kg:Nat->Bool->Tk->Option (List Tx×Tk)
 | 0,_,_=>none
 | n+1,first,l=>match bN [41] l with
   | some r=>some ([],r)
   | none=>(if first=true then some l else bN [44] l).bind λl=>(gZ l).bind λa=>(kg n false a.2).map λq=>(a.1::q.1,q.2)
def mD:Nat->Tk->Option (List Tx×Tk)
 | 0,_=>none
 | n+1,l=>match bN vv l with
   | some r=>(gZ r).bind λa=>(bN [59] a.2).bind λr=>(mD n r).map λq=>(a.1::q.1,q.2)
   | none=>some ([],l)
def kh (cZ:Bool) (l:Tk):Option (f'×Tk):=(gZ l).bind λa=>(bN [40] a.2).bind λr=>(kg (r.length+1) true r).bind λps=>(mD (ps.2.length+1) ps.2).bind λc=>(hA 6 c.2).map λb=>(⟨a.1,cZ,ps.1,c.1,b.1⟩,b.2)
def oC:Nat->Bool->Tk->Option ((List f'×Bool)×Tk)
 | 0,_,_=>none
 | n+1,cZ,l=>match bN Cp l with
   | some r=>(kh cZ r).bind λp=>(oC n (ls p.2).1 (ls p.2).2).map λq=>((p.1::q.1.1,q.1.2),q.2)
   | none=>some (([],cZ),l)
def m2:Nat->Tk->Option (List Tx×Tk)
 | 0,_=>none
 | n+1,l=>match bN zb l with
   | some r=>(gZ r).bind λa=>(bN [59] a.2).bind λr=>(m2 n r).map λq=>(a.1::q.1,q.2)
   | none=>some ([],l)
def lu (l:Tk):Option (df×Tk):=(bN za l).bind λr=>(gZ r).bind λa=>(bN [123] a.2).bind λr=>(m2 (r.length+1) r).bind λu=>
 (oB ((ls u.2).2.length+1) (ls u.2).1 (ls u.2).2).bind λd=>(oC (d.2.length+1) d.1.2 d.2).bind λp=>if p.1.2=true then none else
 (bN qL p.2).bind λr=>(hA 6 r).bind λb=>(bN [125] b.2).map λr=>(⟨a.1,u.1,d.1.1,p.1.1,b.1⟩,r)
def iy (l:Tk):Prop:=∀t ∈ l,LI t
def ha (l:Tk) (a:List Tx) (r:Tk):Prop:=iy l/\l=a.map vx++r
variable {a' bR:Tk} {iP:List Tx}
def ha.ok (h:ha a' iP bR):iy bR:=λt a=>h.1 t (by rw [h.2]; exact qh _ a)
variable {hP:Tk} {Cu:List Tx}
def ha.trans (h:ha a' iP bR) (k:ha bR Cu hP):ha a' (iP++Cu) hP:=⟨h.1,by rw [h.2,k.2]; simp⟩
def ha.nil (h:iy a'):ha a' [] a':=⟨h,rfl⟩
def ha.cast (h:ha a' iP bR) (e:iP=Cu):ha a' Cu bR:=e▸h
variable {ck:Tx}
def gK (b:iy a') (d:ck≠[]) (h:bN ck a'=some bR):ha a' [ck] bR:=by
 cases a' with
 | nil=>cases h
 | cons t q=>
   simp only [bN] at h
   split at h
   · rename_i a
     injection h with h
     subst h;simp only [aac] at a;refine ⟨b,?_⟩;have c:=b t ai
     have e:fb t=ck:=by
       unfold fb;rw [ZX]
       · exact a
       · intro f
         have:=c.2;unfold oV at this;rw [ZX aa,ZZ f] at this;simp [a,d] at this
     simp [<-e,mB c]
   · cases h
def rH (a:iy a') (h:gZ a'=some (ck,bR)):ha a' [ck] bR/\hF ck=true:=by
 cases a' with
 | nil=>cases h
 | cons t q=>
   unfold gZ nG at h;dsimp only at h
   by_cases b:t.kind=1
   · rw [ZZ b] at h
     simp only [cS] at h
     split at h
     · rename_i c
       injection h with h
       injection h with d f
       subst d f;refine ⟨⟨a,?_⟩,c⟩;have g:=a t ai
       have e:fb t=t.text:=by rw [fb,ZX aa]
       rw [<-e];simp [mB g]
     · cases h
   · rw [ZX b] at h; cases h
def Gb {n:Int} (b:iy a') (h:nH a'=some (n,bR)):ha a' [Lib.itoa n] bR:=by
 cases a' with
 | nil=>cases h
 | cons t q=>
   unfold nH nG at h;dsimp only at h
   by_cases a:t.kind=2
   · rw [ZZ a] at h
     simp only [dR] at h
     injection h with h
     injection h with c d
     subst c d;refine ⟨b,?_⟩;have f:=b t ai
     have e:fb t=Lib.itoa t.n:=by rw [fb,ZZ a]
     rw [<-e];simp [mB f]
   · rw [ZX a] at h; cases h
def rB {mod nm:Tx} (j:iy a') (h:m1 a'=some ((mod,nm),bR)):ha a' (oy mod nm) bR:=by
 unfold m1 at h;obtain ⟨⟨a,q⟩,k,c⟩:=cU.1 h;obtain ⟨d,n1⟩:=rH j k;simp only at c
 cases e:bN [46] q with
 | none=>
   rw [e] at c;simp only [aN,dO] at c;obtain ⟨⟨rfl,rfl⟩,rfl⟩:=c;exact d
 | some n=>
   rw [e] at c;obtain ⟨⟨b,o⟩,l,f⟩:=dS.1 c;simp only [dO] at f;obtain ⟨⟨rfl,rfl⟩,rfl⟩:=f;have g:=gK d.ok ai e;obtain ⟨m,n3⟩:=rH g.ok l;refine ((d.trans g).trans m).cast ?_;unfold oy;rw [ZX]
   · rfl
   · intro i
     simp only [aac] at i;subst i;simp [hF,gi] at n1
def Sound (a:Tk->Option (bT×Tk)):Prop:=∀l x r,iy l->a l=some (x,r)->ha l (kG x) r
variable {aas:Tk->Option (bT×Tk)}
def Gd (g:Sound aas):∀(n:Nat) (l:Tk) (xs:List bT) (r:Tk),iy l->mC aas n l=some (xs,r)->ha l (sC (lq xs)++[[41]]) r
 | 0,_,_,_,_,h=>by cases h
 | n+1,l,xs,r,m,h=>by
   unfold mC at h;obtain ⟨⟨x,q⟩,o,a⟩:=cU.1 h;have c:=g l x q m o;simp only at a
   cases e:bN [41] q with
   | some i=>
     rw [e] at a;simp only [aN,dO] at a;obtain ⟨rfl,rfl⟩:=a;exact c.trans<|gK c.ok ai e
   | none=>
     rw [e] at a;simp only at a
     cases f:bN [44] q with
     | none=>rw [f] at a; cases a
     | some i=>
       rw [f] at a;obtain ⟨⟨ys,p⟩,d,j⟩:=dS.1 a;simp only [dO] at j;obtain ⟨rfl,rfl⟩:=j;have k:=gK c.ok ai f;have s:=Gd g n i ys p k.ok d;refine ((c.trans k).trans s).cast ?_
       cases ys with
       | nil=>exfalso; cases n with
         | zero=>cases d
         | succ n=>
           unfold mC at d;obtain ⟨⟨y,u⟩,_,b⟩:=cU.1 d;simp only at b
           split at b
           · simp at b
           · split at b
             · obtain ⟨z,_,t⟩:=dS.1 b
               simp at t
             · cases b
       | cons y ys=>simp [lq,sC]
def LL (c:Sound aas)  {xs:List bT} (d:iy a') (e:bN [40] a'=some hP) (h:l4 aas hP=some (xs,bR)):ha a' (xg<|lq xs) bR:=by
 have a:=gK d ai e;unfold l4 at h
 cases b:bN [41] hP with
 | some f=>
   rw [b] at h;simp only [aN,dO] at h;obtain ⟨rfl,rfl⟩:=h;exact a.trans<|gK a.ok ai b
 | none=>
   rw [b] at h;exact (a.trans<|Gd c _ hP xs bR a.ok h).cast (by simp [xg])
def C4:∀(a:List Tx) (i:Nat) (l r:Tk) (k:Nat),iy l->(∀w ∈ a,w≠[])->du a i l=some (k,r)->∃j,k=i+j/\∃w,a[j]? = some w/\ha l [w] r
 | [],_,_,_,_,_,_,h=>by cases h
 | w::a,i,l,r,k,c,hw,h=>by
   unfold du at h
   cases b:bN w l with
   | some q=>
     rw [b] at h;simp only [aN,dO] at h;obtain ⟨rfl,rfl⟩:=h;exact ⟨0,O,w,O,gK c (hw w ai) b⟩
   | none=>
     rw [b] at h;obtain ⟨j,f,v,d,e⟩:=C4 a (i+1) l r k c (λv hv=>hw v<|dT _ hv) h;exact ⟨j+1,aa,v,by simpa using d,e⟩
def SK (op n:Int) (mod nm:Tx) (args:List bT):kG (.mk op n mod nm args)=en op n mod nm (lq args):=by rw [kG]
variable {iQ:bT}
def SL (c:Sound aas)   (n:iy a') (p:bN [40] a'=some hP) (h:nI aas hP=some (iQ,bR)):ha a' (kG iQ) bR:=by
 have d:=gK n ai p;unfold nI at h;obtain ⟨⟨a,e⟩,q,r⟩:=cU.1 h;obtain ⟨⟨o,f⟩,s,t⟩:=cU.1 r;obtain ⟨⟨b,u⟩,v,x⟩:=cU.1 t;obtain ⟨B,y,g⟩:=dS.1 x;simp only [dO] at g;obtain ⟨rfl,rfl⟩:=g;have i:=c hP a e d.ok q;obtain ⟨j,C,w,k,l⟩:=C4 opsL 0 e f o i.ok a8 s;have m:=c f b u l.ok v;have z:=gK m.ok ai y;refine ((((d.trans i).trans l).trans m).trans z).cast ?_
 obtain rfl:o=j:=aa
 have D:o<9:=(cq.1 k).1
 have A:F9 (7+(o:Int))=w:=by
   unfold F9;rw [show ((7+(o:Int))-7).toNat=o by omega,k]; rfl
 rw [SK,en,ZX aa,ZX aa,ZX aa,ZX aa,ZX aa,ZX aa,A];simp [lq,at_]
def SM (f:Sound aas)  {mod nm:Tx}  (a:ha bR (oy mod nm) a') (h:pW aas mod nm a'=some (iQ,hP)):ha bR (kG iQ) hP:=by
 unfold pW at h
 cases c:bN [91] a' with
 | some q=>
   rw [c] at h;obtain ⟨⟨y,g⟩,d,b⟩:=cU.1 h;obtain ⟨n,l,i⟩:=dS.1 b;simp only [dO] at i;obtain ⟨rfl,rfl⟩:=i;have j:=gK a.ok ai c;have k:=f q y g j.ok d;have m:=gK k.ok ai l;exact (((a.trans j).trans k).trans m).cast (by simp [kG,en,lq,at_])
 | none=>
   rw [c] at h;simp only at h
   cases e:bN [40] a' with
   | some q=>
     rw [e] at h;obtain ⟨⟨xs,g⟩,d,b⟩:=dS.1 h;simp only [dO] at b;obtain ⟨rfl,rfl⟩:=b;exact (a.trans<|LL f a.ok e d).cast (by simp [kG,en])
   | none=>
     rw [e] at h;simp only [aN,dO] at h;obtain ⟨rfl,rfl⟩:=h;exact a.cast (by simp [kG,en])
def SN (c:Sound aas):Sound (oz aas):=by
 intro l x r a h;unfold oz at h
 cases d:bN vw l with
 | some q=>
   rw [d] at h;simp only [aN,dO] at h;obtain ⟨rfl,rfl⟩:=h;exact (gK a a8 d).cast (by simp [kG,en])
 | none=>
   rw [d] at h;simp only at h
   cases e:bN [33] l with
   | some q=>
     rw [e] at h;obtain ⟨⟨y,j⟩,f,b⟩:=dS.1 h;simp only [dO] at b;obtain ⟨rfl,rfl⟩:=b;have i:=gK a ai e;exact (i.trans<|c q y j i.ok f).cast (by simp [kG,en,lq,at_])
   | none=>
     rw [e] at h;simp only at h
     cases g:bN [40] l with
     | some q=>rw [g] at h; exact SL c a g h
     | none=>
       rw [g] at h;obtain ⟨⟨⟨mod,nm⟩,q⟩,f,b⟩:=cU.1 h;exact SM c (rB a f) b
def xj:∀f,Sound (bf f)
 | 0=>λ_ _ _ _ h=>by cases h
 | f+1=>by
   intro l x r a h
   cases l with
   | nil=>cases h
   | cons t q=>
     unfold bf at h
     by_cases b:t.kind=2
     · simp only [ZZ b,aN,dO] at h
       obtain ⟨rfl,rfl⟩:=h;refine ⟨a,?_⟩;have c:=a t ai
       have e:fb t=Lib.itoa t.n:=by rw [fb,ZZ b]
       have d:kG (bT.mk 1 t.n [] [] [])=[Lib.itoa t.n]:=by simp [kG,en]
       rw [d,<-e];simp [mB c]
     · simp only [ZX b] at h
       exact SN (xj f) _ x r a h
end Go.Bw
end
section
namespace Go.Bw
open Go
def aaA (op:Int) (mod nm:Tx) (args:List bT) (body other:List b9):sD (.mk op mod nm args body other)=qM op mod nm (lq args) (sE body) other.length (sE other):=by rw [sD]
variable {a' bR:Tk} {jU:b9}
def SO (n:iy a') (h:g0 a'=some (jU,bR)):∃t,sD jU=t++[[59]]/\ha a' t bR:=by
 have c:=xj 6;unfold g0 at h
 cases o:bN bk a' with
 | some q=>
   rw [o] at h;obtain ⟨⟨x,d⟩,j,e⟩:=dS.1 h;simp only [dO] at e;obtain ⟨rfl,rfl⟩:=e;have b:=gK n a8 o;exact ⟨[bk]++kG x,by simp [aaA,qM,lq,at_],b.trans<|c q x d b.ok j⟩
 | none=>
   rw [o] at h;simp only at h
   cases j:bN g_ a' with
   | some q=>
     rw [j] at h;obtain ⟨⟨x,d⟩,e,a⟩:=dS.1 h;simp only [dO] at a;obtain ⟨rfl,rfl⟩:=a;have b:=gK n a8 j;exact ⟨[g_]++kG x,by simp [aaA,qM,lq,at_],b.trans<|c q x d b.ok e⟩
   | none=>
     rw [j] at h;obtain ⟨⟨⟨mod,nm⟩,q⟩,e,a⟩:=cU.1 h;have f:=rB n e;simp only at a
     cases p:bN [40] q with
     | some d=>
       rw [p] at a;obtain ⟨⟨xs,u⟩,k,g⟩:=dS.1 a;simp only [dO] at g;obtain ⟨rfl,rfl⟩:=g;exact ⟨oy mod nm++xg (lq xs),by simp [aaA,qM],f.trans<|LL c f.ok p k⟩
     | none=>
       rw [p] at a;simp only at a
       cases k:bN [91] q with
       | some d=>
         rw [k] at a;obtain ⟨⟨i,u⟩,g,r⟩:=cU.1 a;obtain ⟨D,s,l⟩:=cU.1 r;obtain ⟨E,z,A⟩:=cU.1 l;obtain ⟨⟨x,F⟩,B,v⟩:=dS.1 A;simp only [dO] at v;obtain ⟨rfl,rfl⟩:=v;have b:=gK f.ok ai k;have m:=c _ _ _ b.ok g;have w:=gK m.ok ai s;have y:=gK w.ok ai z;have C:=c _ _ _ y.ok B;exact ⟨oy mod nm++[[91]]++kG i++[[93],[61]]++kG x,by simp [aaA,qM,lq,at_],(((((f.trans b).trans m).trans w).trans y).trans C).cast ai⟩
       | none=>
         rw [k] at a;obtain ⟨d,g,r⟩:=cU.1 a;obtain ⟨⟨x,u⟩,s,l⟩:=dS.1 r;simp only [dO] at l;obtain ⟨rfl,rfl⟩:=l;have b:=gK f.ok ai g;have m:=c _ _ _ b.ok s;exact ⟨oy mod nm++[[61]]++kG x,by simp [aaA,qM,lq,at_],(f.trans b).trans m⟩
def Ge (pb:Tk->Option (List b9×Tk)):Prop:=∀l x r,iy l->pb l=some (x,r)->ha l (xh x) r
def Gf {pb:Tk->Option (List b9×Tk)} (l:Ge pb)   (m:iy a') (h:aar pb a'=some (jU,bR)):ha a' (sD jU) bR:=by
 have p:=xj 6;unfold aar at h
 cases n:bN hj a' with
 | some q=>
   rw [n] at h;obtain ⟨⟨x,r⟩,f,g⟩:=cU.1 h;obtain ⟨⟨b,s⟩,i,a⟩:=cU.1 g;have e:=gK m a8 n;have c:=p _ _ _ e.ok f;have j:=l _ _ _ c.ok i;simp only at a
   cases d:bN hk s with
   | some w=>
     rw [d] at a;obtain ⟨⟨o,y⟩,u,k⟩:=cU.1 a;simp only at k
     split at k
     · cases k
     · rename_i z
       simp only [aN,dO] at k;obtain ⟨rfl,rfl⟩:=k;have t:=gK j.ok a8 d;have v:=l _ _ _ t.ok u;refine ((((e.trans c).trans j).trans t).trans v).cast ?_;rw [aaA];simp only [qM,Int.reduceEq,aai,true_or,Z',Z9];rw [ZZ aa];simp [lq,at_,xh]
   | none=>
     rw [d] at a;simp only [aN,dO] at a;obtain ⟨rfl,rfl⟩:=a;exact ((e.trans c).trans j).cast (by simp [aaA,qM,lq,at_,xh])
 | none=>
   rw [n] at h;simp only at h
   cases f:bN hl a' with
   | some q=>
     rw [f] at h;obtain ⟨⟨x,r⟩,g,i⟩:=cU.1 h;obtain ⟨⟨b,s⟩,a,d⟩:=dS.1 i;simp only [dO] at d;obtain ⟨rfl,rfl⟩:=d;have e:=gK m a8 f;have c:=p _ _ _ e.ok g;have j:=l _ _ _ c.ok a;exact ((e.trans c).trans j).cast (by simp [aaA,qM,lq,at_,xh])
   | none=>
     rw [f] at h;obtain ⟨⟨A,q⟩,g,i⟩:=cU.1 h;obtain ⟨r,a,d⟩:=dS.1 i;simp only [dO] at d;obtain ⟨rfl,rfl⟩:=d;obtain ⟨B,e,c⟩:=SO m g;exact (c.trans<|gK c.ok ai a).cast e.symm
def C_ {ps:Tk->Option (b9×Tk)} (b:∀l x r,iy l->ps l=some (x,r)->ha l (sD x) r):∀(n:Nat) (l:Tk) (xs:List b9) (r:Tk),iy l->oA ps n l=some (xs,r)->ha l (sE xs++[[125]]) r
 | 0,_,_,_,_,h=>by cases h
 | n+1,l,xs,r,c,h=>by
   unfold oA at h
   cases a:bN [125] l with
   | some q=>
     rw [a] at h;simp only [aN,dO] at h;obtain ⟨rfl,rfl⟩:=h;exact (gK c ai a).cast (by simp [sE])
   | none=>
     rw [a] at h;obtain ⟨⟨s,q⟩,f,g⟩:=cU.1 h;obtain ⟨⟨ys,i⟩,j,d⟩:=dS.1 g;simp only [dO] at d;obtain ⟨rfl,rfl⟩:=d;have e:=b l s q c f;exact (e.trans<|C_ b n q ys i e.ok j).cast (by simp [sE])
def zg:∀f,Ge (hA f)
 | 0=>λ_ _ _ _ h=>by cases h
 | f+1=>by
   intro l x r a h;unfold hA at h;obtain ⟨q,c,d⟩:=cU.1 h;have b:=gK a ai c;exact (b.trans<|C_ (λl x r a h=>Gf (zg f) a h) _ q x r b.ok d).cast (by simp [xh,Cq])
def zh (d:eb):List Tx:=mj d++[[59]]
variable {ax:Bool}
def LO {d:eb} (p:iy a') (h:h2 ax a'=some (some d,bR)):ha a' (zh d) bR/\d.cZ=ax:=by
 unfold h2 at h
 cases r:bN l1 a' with
 | some q=>
   rw [r] at h;obtain ⟨⟨a,u⟩,i,e⟩:=cU.1 h;obtain ⟨v,j,k⟩:=cU.1 e;obtain ⟨⟨n,x⟩,g,s⟩:=cU.1 k;obtain ⟨y,t,m⟩:=dS.1 s;simp only [dO,aN] at m;obtain ⟨rfl,rfl⟩:=m;have b:=gK p a8 r;have c:=(rH b.ok i).1;have f:=gK c.ok ai j;have l:=Gb f.ok g;have o:=gK l.ok ai t;exact ⟨((((b.trans c).trans f).trans l).trans o).cast (by simp [zh,mj]),O⟩
 | none=>
   rw [r] at h;simp only at h
   cases i:bN tR a' with
   | some q=>
     rw [i] at h;obtain ⟨⟨a,u⟩,e,j⟩:=cU.1 h;obtain ⟨v,k,g⟩:=dS.1 j;simp only [dO,aN] at g;obtain ⟨rfl,rfl⟩:=g;have b:=gK p a8 i;have c:=(rH b.ok e).1;have f:=gK c.ok ai k;exact ⟨((b.trans c).trans f).cast (by simp [zh,mj]),O⟩
   | none=>
     rw [i] at h;simp only at h
     cases e:bN l3 a' with
     | some q=>
       rw [e] at h;obtain ⟨⟨a,u⟩,j,k⟩:=cU.1 h;obtain ⟨v,g,s⟩:=cU.1 k;obtain ⟨⟨n,x⟩,t,m⟩:=cU.1 s;obtain ⟨y,z,A⟩:=cU.1 m;obtain ⟨D,B,w⟩:=dS.1 A;simp only [dO,aN] at w;obtain ⟨rfl,rfl⟩:=w;have b:=gK p a8 e;have c:=(rH b.ok j).1;have f:=gK c.ok ai g;have l:=Gb f.ok t;have o:=gK l.ok ai z;have C:=gK o.ok ai B;exact ⟨(((((b.trans c).trans f).trans l).trans o).trans C).cast (by simp [zh,mj]),O⟩
     | none=>
       rw [e] at h;simp at h
def Gg (h:h2 ax a'=some (none,bR)):bR=a':=by
 unfold h2 at h
 split at h
 · obtain ⟨_,_,h⟩:=cU.1 h
   obtain ⟨_,_,h⟩:=cU.1 h;obtain ⟨_,_,h⟩:=cU.1 h;obtain ⟨_,_,h⟩:=dS.1 h;simp at h
 · split at h
   · obtain ⟨_,_,h⟩:=cU.1 h
     obtain ⟨_,_,h⟩:=dS.1 h;simp at h
   · split at h
     · obtain ⟨_,_,h⟩:=cU.1 h
       obtain ⟨_,_,h⟩:=cU.1 h;obtain ⟨_,_,h⟩:=cU.1 h;obtain ⟨_,_,h⟩:=cU.1 h;obtain ⟨_,_,h⟩:=dS.1 h;simp at h
     · simp at h; exact h.symm
def LP:∀(n:Nat) (first:Bool) (l:Tk) (xs:List Tx) (r:Tk),iy l->kg n first l=some (xs,r)->ha l ((if first=true\/xs=[] then [] else [[44]])++sC (xs.map λs=>[s])++[[41]]) r
 | 0,_,_,_,_,_,h=>by cases h
 | n+1,first,l,xs,r,b,h=>by
   unfold kg at h
   cases c:bN [41] l with
   | some q=>
     rw [c] at h;simp only [aN,dO] at h;obtain ⟨rfl,rfl⟩:=h;exact (gK b ai c).cast (by simp [sC])
   | none=>
     rw [c] at h;obtain ⟨i,d,j⟩:=cU.1 h;obtain ⟨⟨a,q⟩,k,m⟩:=cU.1 j;obtain ⟨⟨ys,o⟩,p,e⟩:=dS.1 m;simp only [dO] at e;obtain ⟨rfl,rfl⟩:=e
     have f:ha l (if first=true then [] else [[44]]) i:=by
       cases first with
       | true=>
         simp only [Z',aN] at d;subst d; exact ha.nil b
       | false=>exact gK b ai d
     have g:=(rH f.ok k).1;have t:=LP n false q ys o g.ok p;refine ((f.trans g).trans t).cast ?_
     cases ys with
     | nil=>cases first<;>simp [sC]
     | cons y ys=>cases first<;>simp [sC]
def LQ:∀(n:Nat) (l:Tk) (xs:List Tx) (r:Tk),iy l->mD n l=some (xs,r)->ha l (xs.flatMap F') r
 | 0,_,_,_,_,h=>by cases h
 | n+1,l,xs,r,c,h=>by
   unfold mD at h
   cases b:bN vv l with
   | none=>
     rw [b] at h;simp only [aN,dO] at h;obtain ⟨rfl,rfl⟩:=h;exact ha.nil c
   | some q=>
     rw [b] at h;obtain ⟨⟨a,t⟩,i,j⟩:=cU.1 h;obtain ⟨k,m,o⟩:=cU.1 j;obtain ⟨⟨ys,p⟩,s,d⟩:=dS.1 o;simp only [dO] at d;obtain ⟨rfl,rfl⟩:=d;have e:=gK c a8 b;have f:=(rH e.ok i).1;have g:=gK f.ok ai m;exact (((e.trans f).trans g).trans<|LQ n k ys p g.ok s).cast (by simp [F'])
def Gh (p:f'):List Tx:=[p.nm,[40]]++sC (p.params.map λs=>[s])++[[41]]++p.aC.flatMap F'++xh p.body
def LR {p:f'} (i:iy a') (h:kh ax a'=some (p,bR)):ha a' (Gh p) bR/\p.cZ=ax:=by
 unfold kh at h;obtain ⟨⟨a,u⟩,j,k⟩:=cU.1 h;obtain ⟨v,l,m⟩:=cU.1 k;obtain ⟨⟨ps,w⟩,n,o⟩:=cU.1 m;obtain ⟨⟨x,y⟩,q,r⟩:=cU.1 o;obtain ⟨⟨b,z⟩,s,c⟩:=dS.1 r;simp only [dO] at c;obtain ⟨rfl,rfl⟩:=c;have d:=(rH i j).1;have e:=gK d.ok ai l;have f:=LP _ _ _ _ _ e.ok n;have g:=LQ _ _ _ _ f.ok q;have t:=zg 6 _ _ _ g.ok s;exact ⟨((((d.trans e).trans f).trans g).trans t).cast (by simp [Gh]),O⟩
end Go.Bw
end
section
namespace Go.Bw
open Go
structure Stop (q:Tk):Prop where
 dot:bN [46] q=none
 br:bN [91] q=none
 pa:bN [40] q=none
end Go.Bw
end
section
namespace Go.Bw
open Go
variable {ck:Tx} {a' bR:Tk}
def LS (a:iy a') (h:bN ck a'=some bR):iy bR:=by
 cases a' with
 | nil=>cases h
 | cons t q=>
   simp only [bN] at h
   split at h
   · injection h with h; subst h; exact λx b=>a x<|dT _ b
   · cases h
def M6 {pb:Tk->Option (List b9×Tk)} (a:Ge pb)  {x:b9} (b:iy a') (h:aar pb a'=some (x,bR)):bR.length<a'.length:=by
 have e:=(Gf a b h).2;have c:=SD x;rw [e]
 cases d:sD x with
 | nil=>exact absurd d c
 | cons w f=>simp; omega
def rI:df:=⟨[],[],[],[],[]⟩
def lv (s:Tx):df×Int:=if (gj s).2≠0 then (rI,(gj s).2) else match lu (gj s).1 with
 | some (m,[])=>if ku m=0 then (m,0) else (rI,1)
 | _=>(rI,1)
def SQ (h:(gj ck).2=0):iy (gj ck).1:=(Jl<|Jm h).1
def LU {m:df}:ku m=0↔(tz m).cA=0:=KZ
end Go.Bw
end
