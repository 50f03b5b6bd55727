/- BuildRight: what Units tells is a right program, or needs too many numbers; what Build tells is a right image. -/
import Derived.Maps.Own
import Derived.Maps.Range
import Derived.Sort.KeysCollected
import Derived.Test.YtccenighnmfhgaaGreatDoorR1
set_option linter.unusedVariables false
set_option linter.unusedSimpArgs false
section
namespace Go.Bw
open Go Go.RowKit
abbrev v0:View:=λ_=>none
theorem lW (w:World):eW w v0:=λ_ _=>rfl
def vj (a B:View):View:=λb=>match a b with | some o=>some o | none=>B b
theorem DJ (a B:View):bw a (vj a B):=λb o h=>by simp [vj,h]
theorem DK {c B:View} {w:World} (e:Le c w) (f:Le B w):bw B (vj c B):=λb o h=>by
 cases d:c b with
 | none=>simp [vj,d,h]
 | some g=>
   have i:=e b g d;have a:=f b o h;rw [i] at a
   injection a with a
   subst a;simp [vj,d]
theorem EC {a B:View} {w:World} (c:Le a w) (d:Le B w):Le (vj a B) w:=λb o h=>by
 unfold vj at h
 split at h
 · rename_i f e; injection h with h; subst h; exact c b _ e
 · exact d b o h
theorem DL {a B:View} {w:World} (c:eW w a) (d:eW w B):eW w (vj a B):=λb h=>by simp [vj,c b h,d b h]
section
variable {w0 w:World} {F:List Nat} {L:List aS} {Vs:List View} {A:aS}
theorem Ws.v0 (h:Ws w0 F L Vs w):Ws w0 F L (v0::Vs) w:=
 ⟨h.fr,h.kn,h.nd,h.own,λc a=>by
   rcases List.mem_cons.1 a with rfl | a
   · intro b o d; cases d
   · exact h.vs c a,λc a=>by
   rcases List.mem_cons.1 a with rfl | a
   · intro _ _ _ _; rfl
   · exact h.off c a⟩
theorem Ws.hE {b c:View} (h:Ws w0 F L (b::c::Vs) w):Ws w0 F L (vj b c::Vs) w:=
 ⟨h.fr,h.kn,h.nd,h.own,λd a=>by
   rcases List.mem_cons.1 a with rfl | a
   · exact EC (h.vs b (by simp)) (h.vs c (by simp))
   · exact h.vs d (by simp [a]),λd a e f k g=>by
   rcases List.mem_cons.1 a with rfl | a
   · simp [vj,h.off b (by simp) e f k g,h.off c (by simp) e f k g]
   · exact h.off d (by simp [a]) e f k g⟩
theorem Ws.Lx (h:Ws w0 F (A::L) Vs w) (c:∀k ∈ F,k ∈ L.flatMap aS.ids):∀k ∈ A.ids,w0.heap.size<=k:=by
 intro k b
 rcases h.own A (by simp) k b with a | a
 · have nd:=h.nd
   rw [List.flatMap_cons,List.nodup_append] at nd;exact absurd O (nd.2.2 k b k (c k a))
 · exact a
theorem zf (h:Ws w0 F (A::L) Vs w) (a:∀k ∈ F,k ∈ L.flatMap aS.ids):eW w0 (rv A w):=λb d=>by
 unfold rv;rw [if_neg];intro c;have:=h.Lx a b c;omega
theorem cF {a:View} (h:Ws w0 F L Vs w) (b:a ∈ Vs) (c:eW w0 a):bw a (nv w0 w):=Kc (h.vs a b) c
end
section
variable {P:Program} {ops:Array Oper} {cd:Code} {Q:Exit->Act->World->Prop} {n:Nat} {ds:List Deferred} {l:List (Nat×Value)} {w0:World} {F:List Nat} {L:List aS} {Vs:List View} {rest:List Oper}
theorem WL.v0 (h:WL P ops Q n ds l (Ws w0 F L (v0::Vs)) rest):WL P ops Q n ds l (Ws w0 F L Vs) rest:=LW (λ_ a=>a.v0) h
theorem WL.hE {b c:View} (h:∀d,bw b d->bw c d->(∀u,eW u b->eW u c->eW u d)->WL P ops Q n ds l (Ws w0 F L (d::Vs)) rest):WL P ops Q n ds l (Ws w0 F L (b::c::Vs)) rest:=
 λa w f e=>h (vj b c) (DJ b c) (DK (e.vs b (by simp)) (e.vs c (by simp))) (λu g i=>DL g i) a w f e.hE
theorem WC.hE {b c:View} (h:∀d,bw b d->bw c d->(∀u,eW u b->eW u c->eW u d)->WC P cd Q n ds l (Ws w0 F L (d::Vs))):WC P cd Q n ds l (Ws w0 F L (b::c::Vs)):=
 λa w f e=>h (vj b c) (DJ b c) (DK (e.vs b (by simp)) (e.vs c (by simp))) (λu g i=>DL g i) a w f e.hE
theorem WL.ll {α:Type} {rd:View->Nat->Nat->α->Prop} {f:α->List Value} {k e c:Nat} {a:Option Addr} {xs:List α} (i:Nat) (g:L[i]? = some (cf e k f a c xs)) (m:∀k ∈ F,k ∈ (dM i L).flatMap aS.ids)
   (p:∀x,(f x).length=k) (q:∀d b o x,bI d b o (f x)->rd d b o x) (h:∀d,eW w0 d->Sl rd k d a c xs->WL P ops Q n ds l (Ws w0 F (dM i L) (d::Vs)) rest):WL P ops Q n ds l (Ws w0 F L Vs) rest:=
 λr w s j=>h _ (zf (j.perm (k' i L g)) m) (wz (j.kn _ (ed g)) p q) r w s (j.t_ i g)
theorem WC.ll {α:Type} {rd:View->Nat->Nat->α->Prop} {f:α->List Value} {k e c:Nat} {a:Option Addr} {xs:List α} (i:Nat) (g:L[i]? = some (cf e k f a c xs)) (m:∀k ∈ F,k ∈ (dM i L).flatMap aS.ids)
   (p:∀x,(f x).length=k) (q:∀d b o x,bI d b o (f x)->rd d b o x) (h:∀d,eW w0 d->Sl rd k d a c xs->WC P cd Q n ds l (Ws w0 F (dM i L) (d::Vs))):WC P cd Q n ds l (Ws w0 F L Vs):=
 λr w s j=>h _ (zf (j.perm (k' i L g)) m) (wz (j.kn _ (ed g)) p q) r w s (j.t_ i g)
theorem LN {α:Type} {rd:View->Nat->Nat->α->Prop} {f:α->List Value} {k T b m:Nat} {c:Nat×Nat} {g:Array Value} (i:Nat) (xs:List α) (d:L[i]? = some (aq b (.cells g T c))) (j:g=(xs.flatMap f).toArray) (p:∀k ∈ F,k ∈ (dM i L).flatMap aS.ids)
   (q:∀x,(f x).length=k) (r:∀a b o x,bI a b o (f x)->rd a b o x) (s:xs.length<=m) (t:m<=9223372036854775807)
   (h:∀a,eW w0 a->Sl rd k a (some ⟨b,0,none⟩) m xs->WL P ops Q n ds l (Ws w0 F (dM i L) (a::Vs)) rest):WL P ops Q n ds l (Ws w0 F L Vs) rest:=by
 subst j;intro u w v e;have y:w.heap[b]? = some (.cells (xs.flatMap f).toArray T c):=e.kn _ (ed d)
 have z:rv (aq b (.cells (xs.flatMap f).toArray T c)) w b=some (.cells (xs.flatMap f).toArray T c):=by
   unfold rv;rw [if_pos (by simp [aq])];exact y
 exact h _ (zf (e.perm (k' i L d)) p) (ze (f:=f) z q r s t) u w v (e.t_ i d)
end
section
variable {κ:Type} [BEq κ] [LawfulBEq κ] {kd:TypeDesc} {kv:κ->Value}
variable {P:Program} {l:List (Nat×Value)} {w0:World} {F:List Nat} {L:List aS} {Vs:List View} {ty:TypeId} {pos:String} {af:Array Edge} {g:Option (Nat×Bool)}
theorem wB {j:Option Tmp} {t d e:TypeId} {x y:Operand} {b c:Nat} {m:List (c8 κ)} {k:κ} {f:Value} (i:Nat) {a:View} (n:Vs[i]? = some a) (o:nb kd kv) (p:P.underlying t=some (.map d e)) (q:P.underlying d=some kd) (r:zeroOf P e=some f) (s:bk l x=some (.map (some b))) (u:bk l y=some (kv k)) (v:a b=some (b4 kv m c)) :
   Yl P l (Ws w0 F L Vs) ⟨j,.lookup t x y false,ty,pos,af,g⟩ (eD k m f):=by
 intro A w h z;simp [execOp,h x _ s,h y _ u,wi (P:=P) (k:=k) false o p q r (z.vs a (ed n) b _ v:w.heap[b]? = some (b4 kv m c))]
theorem DM {j:Option Tmp} {t d e:TypeId} {x y:Operand} {b c:Nat} {m:List (c8 κ)} {k:κ} {f:Value} (i:Nat) {a:View} (n:Vs[i]? = some a) (o:nb kd kv) (p:P.underlying t=some (.map d e)) (q:P.underlying d=some kd) (r:zeroOf P e=some f) (s:bk l x=some (.map (some b))) (u:bk l y=some (kv k)) (v:a b=some (b4 kv m c)) :
   Yl P l (Ws w0 F L Vs) ⟨j,.lookup t x y true,ty,pos,af,g⟩ (.tuple #[eD k m f,.bool (lS k m)]):=by
 intro A w h z;simp [execOp,h x _ s,h y _ u,wi (P:=P) (k:=k) true o p q r (z.vs a (ed n) b _ v:w.heap[b]? = some (b4 kv m c))]
end
theorem Ws.DN {a w:World} {L:List aS} {Vs:List View} (h:Ws a [] L Vs w) (i:Nat) {b:Nat} {c:Obj} (e:L[i]? = some (aq b c)):nv a w b=some c:=by
 have f:w.heap[b]? = some c:=h.kn _ (ed e)
 have g:a.heap.size<=b:=by
   rcases h.own _ (ed e) b (by simp [aq]) with d | d
   · cases d
   · exact d
 unfold nv;rw [if_pos g];exact f
section
variable {Q:Exit->Act->World->Prop} {n:Nat} {ds:List Deferred} {l:List (Nat×Value)} {w0:World} {F:List Nat} {L:List aS} {Vs:List View}
theorem WE.ln {e:Exit} {b:Nat} {a:Obj} (i:Nat) (d:Obj) (f:L[i]? = some (aq b a)) (c:a=d) (h:WE Q e n ds l (Ws w0 F (L.set i (aq b d)) Vs)):WE Q e n ds l (Ws w0 F L Vs):=by
 subst c
 have:L.set i (aq b a)=L:=by
   obtain ⟨hi,c⟩:=List.getElem?_eq_some_iff.1 f;rw [<-c];exact List.set_getElem_self hi
 rwa [this] at h
end
theorem Ws.bC {c w:World} {d:List Nat} {L:List aS} {Vs:List View} (h:Ws c d L Vs w) (i:Nat) {b:Nat} {a:Obj} (e:L[i]? = some (aq b a)):hv w b=some a:=h.kn _ (ed e)
theorem ng {a:View} {b k:Nat} {c:Obj} {v:Value} (h:a b=some c) (d:f_ c k=some v):vc a b k=some v:=by
 unfold vc;rw [h];exact d
section
variable {P:Program} {ops:Array Oper} {Q:Exit->Act->World->Prop} {n:Nat} {ds:List Deferred} {l:List (Nat×Value)} {w0:World} {F:List Nat} {L:List aS} {Vs:List View} {rest:List Oper} {d:Nat} {ty:TypeId} {pos:String} {af:Array Edge} {g:Option (Nat×Bool)}
theorem WL.kk {ι κ:Type} {f:FuncId} {args:Array Operand} {ts:Array TypeId} {vs:List Value} (s:dq ops l g) (t:Nat.blt d n=true) (u:Enters P f) (k:hU l args.toList=some vs)
   (v:ι->Value) (R:ι->Prop) (p:κ->List PanicEntry) (q:κ->Prop)
   (x:∀w,Ws w0 F L Vs w->Calls P f vs.toArray w λe w'=>(∃i,e = .returned (v i)/\Ext w w'/\R i)\/(∃j,e = .panicked (p j)/\Ext w w'/\q j))
   (y:∀j,q j->WE Q (.panic (p j)) n ds l (Ws w0 F L Vs))
   (z:∀i,R i->WL P ops Q n ds ((d,v i)::l) (Ws w0 F L Vs) rest) :
   WL P ops Q n ds l (Ws w0 F L Vs) (⟨some d,.call ⟨.value (.func f),args,ts⟩,ty,pos,af,g⟩::rest):=
 WL.tK s t u k v (λi w'=>R i/\Ws w0 F L Vs w') (λc w'=>∃j,c=p j/\q j/\Ws w0 F L Vs w') (λw b=>(x w b).mono λe w' h=>by
   rcases h with ⟨i,m,o,r⟩ | ⟨j,m,o,r⟩
   · exact .inl ⟨i,m,r,b.ext o⟩
   · exact .inr ⟨_,m,j,O,r,b.ext o⟩) (λi a w k b=>z i b.1 a w k b.2) (λc a w k b=>by
   obtain ⟨j,rfl,m,o⟩:=b
   exact y j m a w k o)
theorem WL.p8 {ι κ:Type} {f:FuncId} {args:Array Operand} {ts:Array TypeId} {vs:List Value} (t:dq ops l g) (u:Nat.blt d n=true) (x:Enters P f) (k:hU l args.toList=some vs)
   (v:ι->Value) (R:View->ι->Prop) (p:κ->List PanicEntry) (q:κ->Prop)
   (y:∀w,Ws w0 F L Vs w->Calls P f vs.toArray w λe w'=>(∃i,e = .returned (v i)/\Ext w w'/\R (nv w w') i)\/(∃j,e = .panicked (p j)/\Ext w w'/\q j))
   (z:∀j,q j->WE Q (.panic (p j)) n ds l (Ws w0 F L Vs))
   (A:∀r i,eW w0 r->R r i->WL P ops Q n ds ((d,v i)::l) (Ws w0 F L (r::Vs)) rest) :
   WL P ops Q n ds l (Ws w0 F L Vs) (⟨some d,.call ⟨.value (.func f),args,ts⟩,ty,pos,af,g⟩::rest):=
 WL.tK (ι:=View×ι) t u x k (λi=>v i.2) (λi w'=>(eW w0 i.1/\R i.1 i.2)/\Ws w0 F L (i.1::Vs) w') (λc w'=>∃j,c=p j/\q j/\Ws w0 F L Vs w') (λw b=>(y w b).mono λe w' h=>by
   rcases h with ⟨i,m,o,s⟩ | ⟨j,m,o,s⟩
   · exact .inl ⟨(nv w w',i),m,⟨(r_ w w').mono b.fr.size,s⟩,b.view o (yx w w') (r_ w w')⟩
   · exact .inr ⟨_,m,j,O,s,b.ext o⟩) (λi a w k b=>A i.1 i.2 b.1.1 b.1.2 a w k b.2) (λc a w k b=>by
   obtain ⟨j,rfl,m,o⟩:=b
   exact z j m a w k o)
end
section
variable {P:Program} {l:List (Nat×Value)} {W:World->Prop} {ty:TypeId} {pos:String} {af:Array Edge} {g:Option (Nat×Bool)}
theorem Ly {a:Option Tmp} {x:Operand} {s b:TypeId} {v:Value} {fs:Array Field} (c:P.underlying s=some (.struct fs)) (d:bk l x=some (.iface s v)):Yl P l W ⟨a,.typeAssert x b s true,ty,pos,af,g⟩ (.tuple #[v,.bool true]):=by
 intro f w e _;simp [execOp,e x _ d,Instr.typeAssert,run_underlying c]
theorem Lz {b:Option Tmp} {x:Operand} {s c:TypeId} {a:Value} {fs:Array Field} (d:P.underlying s=some (.struct fs)) (e:zeroOf P s=some a) (f:bk l x=some .nilIface):Yl P l W ⟨b,.typeAssert x c s true,ty,pos,af,g⟩ (.tuple #[a,.bool false]):=by
 intro i w h _;simp [execOp,h x _ f,Instr.typeAssert,run_underlying d,q0 e]
end
def rj (b:Bool):List Value:=[.bool b]
def rdBool (a:View) (b o:Nat) (x:Bool):Prop:=bI a b o (rj x)
theorem EG (b:Bool):(rj b).length=1:=rfl
section
variable {P:Program} {ops:Array Oper} {C:World->Prop} {Q:Exit->Act->World->Prop} {n:Nat} {ds:List Deferred} {l:List (Nat×Value)} {W:World->Prop}
theorem LB {a:Act} {p:List (Nat×Value)} {o:Oper} {r:List Oper} (c:j1 ops l (o::r)=some p) (q:Ag n ds l a) :
   ∃d,o.dst=some d/\Region.wanted o (yielded ops a.tmps)=false/\j1 ops ((d,undef)::l) r=some p:=by
 simp only [j1] at c
 cases e:o.guard with
 | none=>simp [e] at c
 | some t=>
   obtain ⟨j,b⟩:=t
   cases s:o.dst with
   | none=>simp [e,s] at c
   | some d=>
     simp only [e,s] at c
     cases f:(ops[j]?).bind (·.dst) with
     | none=>simp [f] at c
     | some h=>
       simp only [f] at c
       cases g:lk l h with
       | none=>simp [g] at c
       | some v=>
         simp only [g] at c;have hv:=q.aI h v g
         cases v with
         | bool i=>
           cases k:(i != b) with
           | false=>simp [k] at c
           | true=>
             simp only [k,cond_true] at c;refine ⟨d,O,?_,c⟩;have w:=CJ q g (.inl (by simp [undef]))
             have m:yielded ops a.tmps j=some i:=by simp [yielded,f,w]
             simp only [Region.wanted,e,m]
             cases b<;>cases i<;>first | rfl | (simp at k)
         | tuple vs=>
           refine ⟨d,O,?_,c⟩
           have m:yielded ops a.tmps j=none:=by
             simp only [yielded,f,Option.bind_some];rw [Array.getD_eq_getD_getElem?] at hv
             cases x:a.tmps[h]? with
             | none=>rfl
             | some u=>simp [x] at hv; simp [hv]
           simp [Region.wanted,e,m]
         | _=>simp at c
def opsOf (ops:Array Oper):List (Nat×Bool)->Option (List Oper)
 | []=>some []
 | (i,_)::r=>match ops[i]?,opsOf ops r with
   | some o,some t=>some (o::t)
   | _,_=>none
theorem WD.yD {j rest:List (Nat×Bool)}:∀{os:List Oper} {e l:List (Nat×Value)},opsOf ops j=some os->j1 ops l os=some e->nR n os=true->(∀w,W w->C w)->(∀a w,Ag n ds e a->W w->la P ops C Q rest a w)->
   ∀a w,Ag n ds l a->W w->la P ops C Q (j++rest) a w:=by
 induction j with
 | nil=>
   intro os e l b f _ _ h a w g c
   injection b with b
   subst b;simp [j1] at f; subst f; exact h a w g c
 | cons p r y=>
   obtain ⟨i,q⟩:=p;intro os e l b f k m h a w g c;unfold opsOf at b
   cases hi:ops[i]? with
   | none=>rw [hi] at b; cases b
   | some o=>
     cases s:opsOf ops r with
     | none=>rw [hi,s] at b; cases b
     | some t=>
       rw [hi,s] at b
       injection b with b
       subst b;obtain ⟨d,u,v,z⟩:=LB f g;simp only [nR,List.all_cons,Bool.and_eq_true] at k
       have A:Nat.blt d n=true:=by have:=k.1; rw [u] at this; exact this
       have x:=y s z k.2 m h (a.put (some d) undef) w (g.put A undef) c
       cases q with
       | true=>exact ⟨m w c,o,undef,hi,.inr ⟨v,rfl⟩,by rw [u]; exact x⟩
       | false=>
         refine ⟨m w c,?_⟩;unfold wpOp;simp only [hi,v,Bool.false_eq_true,if_false];rw [u];exact x
theorem LC {i:Nat} {f g:Act->World->Prop} {j:Act->World->Prop} (b:∀a w,f a w->g a w) {a:Act} {w:World} (h:wpOp P ops (Exit.then j Q) i f a w):wpOp P ops Q i g a w:=by
 unfold wpOp at h ⊢
 cases hi:ops[i]? with
 | none=>simp only [hi] at h ⊢; exact b _ _ h
 | some o=>
   simp only [hi] at h ⊢
   split
   · rename_i d
     rw [if_pos d] at h
     rcases h with h | ⟨k,a2,l,m⟩
     · left
       unfold Oper.wp at h ⊢;unfold Oper.upon at h ⊢
       split at h
       all_goals first
         | exact b _ _ h
         | exact h
         | (refine h.mono λe w' c=>?_
            cases e with
            | returned v=>exact b _ _ c
            | panicked q=>exact c
            | outgrown=>obtain ⟨a3,n,p⟩:=c; exact ⟨a3,n,p⟩)
         | exact h.mono λv w' c=>b _ _ c
     · exact .inr ⟨k,a2,l,m⟩
   · rename_i d
     rw [if_neg d] at h;exact b _ _ h
theorem Gi {a:List (Nat×Value)} {dx:Nat} {x:Value} (m:Nat) (d:∀w,W w->C w) (e:lk a dx=some x) (f:a.drop m=l) (g:mm (a.take m) l=true):WD P ops C (nS Q n ds l W dx x) n ds a W []:=
 λ_ w b c=>⟨d w c,⟨b.hB m f g,b.aI _ _ e⟩,c⟩
theorem LD {b rest:List (Nat×Bool)} {dx:Nat} {x:Value} (d:∀a w,(Ag n ds l a/\a.tmps.getD dx undef=x)/\W w->la P ops C Q rest a w):∀(a:Act) (w:World),la P ops C (nS Q n ds l W dx x) b a w->la P ops C Q (b++rest) a w:=by
 induction b with
 | nil=>intro a w h; exact d a w h.2
 | cons p r c=>
   obtain ⟨i,q⟩:=p;intro a w h
   cases q with
   | true=>obtain ⟨e,o,v,f,g,j⟩:=h; exact ⟨e,o,v,f,g,c _ _ j⟩
   | false=>exact ⟨h.1,LC (λa w h=>c a w h) h.2⟩
theorem WD.tL (m:Nat) {ord:List (Nat×Bool)} {os:List Oper} {s e t dx:Nat} (d:Bool) {c x:Bool} {a b:Operand} {ty:TypeId} {pos:String} {af:Array Edge} {g:Option (Nat×Bool)} {v:List (Nat×Value)}
   (F:ord[m]? = some (s,true)) (G:ops[s]? = some ⟨some t,.pick (.tmp e) a b,ty,pos,af,g⟩) (H:opsOf ops (ord.take m)=some os) (q:lk l e=some (.bool c)) (I:nR n os=true)
   (J:dq ops l g) (K:Nat.blt t n=true) (y:∀w,W w->C w)
   (i:(a,b)=(bif d then (Operand.tmp dx,Operand.const (.bool false)) else (Operand.const (.bool true),Operand.tmp dx)))
   (L:j1 ops ((e,.bool (!d))::l) os=some v) (M:v.drop m=(e,.bool (!d))::l) (N:mm (v.take m) ((e,.bool (!d))::l)=true)
   (O:c=d->WD P ops C (nS Q n ds ((e,.bool d)::l) W dx (.bool x)) n ds ((e,.bool d)::l) W (ord.take m))
   (h:WD P ops C Q n ds ((t,.bool (bif d then c&&x else c||x))::l) W (ord.drop (m+1))):WD P ops C Q n ds l W ord:=by
 intro z w A B
 have R:ord=ord.take m++(s,true)::ord.drop (m+1):=by
   obtain ⟨S,T⟩:=List.getElem?_eq_some_iff.1 F;rw [<-T,List.getElem_cons_drop S,List.take_append_drop]
 rw [R]
 have D:∀(f:Act) (w':World) (r:Bool),Ag n ds l f->W w'->(if c then f.eval a else f.eval b) = .bool r->r=(bif d then c&&x else c||x)->
     la P ops C Q ((s,true)::ord.drop (m+1)) f w':=by
   intro f w' r j k hv U;refine ⟨y w' k,_,.bool r,G,.inl ⟨dq.wanted (o:=⟨some t,.pick (.tmp e) a b,ty,pos,af,g⟩) J j,λZ _=>?_⟩,h _ _ (by rw [<-U]; exact j.put K _) k⟩;have V:f.eval (.tmp e) = .bool c:=j.aI e _ q;simp only [execOp,V,asBool,Sem.run_bind,Sem.run_pure,Result.andThen_ok,hv]
 by_cases p:c=d
 · refine LD (l:=(e,.bool d)::l) (W:=W) (dx:=dx) (x:=.bool x) (λf w' X=>?_) _ _ (O p z w (A.known (by rw [<-p]; exact q)) B)
   obtain ⟨⟨j,E⟩,k⟩:=X;refine D f w' x (j.vT (by rw [<-p]; exact q)) k ?_ ?_
   · subst p
     cases c
     · simp at i; obtain ⟨rfl,rfl⟩:=i; exact E
     · simp at i; obtain ⟨rfl,rfl⟩:=i; exact E
   · subst p; cases c<;>rfl
 · have u:c = !d:=by cases c<;>cases d<;>first | rfl | exact absurd rfl p
   refine WD.yD H L I y (λf w' j k=>?_) z w (A.known (by rw [<-u]; exact q)) B;have Y:Ag n ds l f:=(j.hB m M N).vT (by rw [<-u]; exact q);refine D f w' c Y k ?_ ?_
   · subst u
     cases d
     · simp at i; obtain ⟨rfl,rfl⟩:=i; rfl
     · simp at i; obtain ⟨rfl,rfl⟩:=i; rfl
   · subst u; cases d<;>rfl
theorem WD.and (m:Nat) {ord:List (Nat×Bool)} {os:List Oper} {i d e dx:Nat} {c x:Bool} {a b:Operand} {ty:TypeId} {pos:String} {af:Array Edge} {g:Option (Nat×Bool)} {f:List (Nat×Value)}
   (j:ord[m]? = some (i,true)) (k:ops[i]? = some ⟨some e,.pick (.tmp d) a b,ty,pos,af,g⟩) (o:opsOf ops (ord.take m)=some os) (p:lk l d=some (.bool c)) (q:nR n os=true)
   (r:dq ops l g) (s:Nat.blt e n=true) (t:∀w,W w->C w) (u:(a,b)=(Operand.tmp dx,Operand.const (.bool false)))
   (v:j1 ops ((d,.bool false)::l) os=some f) (y:f.drop m=(d,.bool false)::l) (z:mm (f.take m) ((d,.bool false)::l)=true)
   (A:c=true->WD P ops C (nS Q n ds ((d,.bool true)::l) W dx (.bool x)) n ds ((d,.bool true)::l) W (ord.take m))
   (h:WD P ops C Q n ds ((e,.bool (c&&x))::l) W (ord.drop (m+1))):WD P ops C Q n ds l W ord:=
 WD.tL m true j k o p q r s t u v y z A h
theorem WD.or (m:Nat) {ord:List (Nat×Bool)} {os:List Oper} {i d e dx:Nat} {c x:Bool} {a b:Operand} {ty:TypeId} {pos:String} {af:Array Edge} {g:Option (Nat×Bool)} {f:List (Nat×Value)}
   (j:ord[m]? = some (i,true)) (k:ops[i]? = some ⟨some e,.pick (.tmp d) a b,ty,pos,af,g⟩) (o:opsOf ops (ord.take m)=some os) (p:lk l d=some (.bool c)) (q:nR n os=true)
   (r:dq ops l g) (s:Nat.blt e n=true) (t:∀w,W w->C w) (u:(a,b)=(Operand.const (.bool true),Operand.tmp dx))
   (v:j1 ops ((d,.bool true)::l) os=some f) (y:f.drop m=(d,.bool true)::l) (z:mm (f.take m) ((d,.bool true)::l)=true)
   (A:c=false->WD P ops C (nS Q n ds ((d,.bool false)::l) W dx (.bool x)) n ds ((d,.bool false)::l) W (ord.take m))
   (h:WD P ops C Q n ds ((e,.bool (c||x))::l) W (ord.drop (m+1))):WD P ops C Q n ds l W ord:=
 WD.tL m false j k o p q r s t u v y z A h
end
section
variable {P:Program} {l:List (Nat×Value)} {W:World->Prop} {d:Option Tmp} {ty:TypeId} {pos:String} {af:Array Edge} {g:Option (Nat×Bool)}
theorem kl {t u:TypeId} {x y:Operand} {k:IntKind} {a b:Int} (c:bk l x=some (.int k a)) (e:bk l y=some (.int k b)) (h:a=b):Yl P l W ⟨d,.binOp .neq t x y u,ty,pos,af,g⟩ (.bool false):=by
 subst h;have:=e8 (P:=P) (W:=W) (d:=d) (ty:=ty) (pos:=pos) (af:=af) (g:=g) (t:=t) (u:=u) c e
 rwa [show (a != a)=false by simp] at this
theorem zg {t u:TypeId} {x y:Operand} {a b:List UInt8} (c:bk l x=some (st a)) (e:bk l y=some (st b)) (h:a=b):Yl P l W ⟨d,.binOp .neq t x y u,ty,pos,af,g⟩ (.bool false):=by
 subst h;have:=vO (P:=P) (W:=W) (d:=d) (ty:=ty) (pos:=pos) (af:=af) (g:=g) (t:=t) (u:=u) c e
 rwa [show (!(a==a))=false by simp] at this
theorem LF {t u:TypeId} {x y:Operand} {a b:List UInt8} (c:bk l x=some (st a)) (e:bk l y=some (st b)) (h:a=b):Yl P l W ⟨d,.binOp .eql t x y u,ty,pos,af,g⟩ (.bool true):=by
 subst h;have:=qY (P:=P) (W:=W) (d:=d) (ty:=ty) (pos:=pos) (af:=af) (g:=g) (t:=t) (u:=u) c e
 rwa [show (a==a)=true by simp] at this
theorem mw {t u:TypeId} {x y:Operand} {k:IntKind} {a b:Int} (c:bk l x=some (.int k a)) (e:bk l y=some (.int k b)) (h:a=b):Yl P l W ⟨d,.binOp .eql t x y u,ty,pos,af,g⟩ (.bool true):=by
 subst h;have:=bP (P:=P) (W:=W) (d:=d) (ty:=ty) (pos:=pos) (af:=af) (g:=g) (t:=t) (u:=u) c e
 rwa [show (a==a)=true by simp] at this
theorem WD.wk {ops:Array Oper} {C:World->Prop} {Q:Exit->Act->World->Prop} {n:Nat} {ds:List Deferred} {W':World->Prop} {rest:List (Nat×Bool)} (b:∀w,W w->W' w) (h:WD P ops C Q n ds l W' rest):WD P ops C Q n ds l W rest:=λa w c d=>h a w c (b w d)
end
open Go.ChangeShapes Go.WideShapes Go.ChangeAt Go.RowKit Go.Joins Go.Deep
structure eV (H:Type) where
 B:DataW H->Nat
 BA:List (DataW H)->Nat
 str:∀l:List UInt8,B (.lit (.string l))=l.length+1
 agg:∀l,B (.agg l)=BA l+1
 sl:∀l r,BA l+1<=B (.slice l r)
 nil:BA []=0
 cons:∀d r,BA (d::r)=B d+BA r
theorem eV.at_ {a:Type} (b:eV a) {l:List (DataW a)}:∀{i:Nat} {d:DataW a},l[i]? = some d->b.B d<=b.BA l:=by
 induction l with
 | nil=>intro i d h; cases h
 | cons y r c=>
   intro i d h;rw [b.cons]
   cases i with
   | zero=>simp at h; subst h; omega
   | succ i=>have:=c (i:=i) (by simpa using h); omega
section
variable {P:Program} {H:Type} {enc:TypeId×Value->H} {w:World} {base:Nat} {spare:Nat->Bool} {held:Bool} (K:eV H)
theorem LH {t:TypeId} {fuel:Nat} {v:Value} {x:DataW H×List MemPlace} (a:P.underlying t=some .string) (h:DataW.trod enc P w base spare held fuel t [v]=some x):∃l:List UInt8,v=st l/\K.B x.1=l.length+1:=by
 obtain ⟨s,e,b,_⟩:=DataW.trod_string a h
 injection e with e _
 subst e;exact ⟨s.data.toList,by simp [st],by rw [b]; exact K.str _⟩
theorem LI {α:Type} {rd:View->Nat->Nat->α->Prop} (E:α->Nat) (A:List α->Nat) (M:A []=0) (Y:∀x r,A (x::r)=E x+A r) {ts e:TypeId} {k fuel:Nat} {v:Value} {x:DataW H×List MemPlace} (Z:P.underlying ts=some (.slice e)) (G:P.cellsOf e=k) (N:0<k) (aa:∀b,spare b=true)
   (ab:∀(n:Nat) (f:List Value) (y:DataW H×List MemPlace),n<fuel->DataW.trod enc P w base spare held n e f=some y->f.length=k->∃d:α,(∀b o,bI (hv w) b o f->rd (hv w) b o d)/\E d<=K.B y.1)
   (h:DataW.trod enc P w base spare held fuel ts [v]=some x):∃(a:Option Addr) (c:Nat) (xs:List α),v = .slice a xs.length c/\Sl rd k (hv w) a c xs/\A xs<=K.B x.1:=by
 rcases DataW.trod_slice Z h with ⟨q,_⟩ | ⟨a,len,cap,C,rest,n,av,q,ac,aw,ax,ad,ay,Q,ae,_⟩
 · injection q with q _
   exact ⟨none,0,[],q,Sl.nil,by rw [M]; exact Nat.zero_le _⟩
 · injection q with q _
   have R:0<cap->a.spot=none:=by
     intro az
     rcases Nat.lt_or_ge 0 len with S | S
     · have g:=Q 0 S
       obtain ⟨y,z⟩:∃y,C[0]? = some y:=⟨_,List.getElem?_eq_getElem (by omega)⟩;rw [z] at g;obtain ⟨f,m,_⟩:=Option.bind_eq_some_iff.1 g;rw [G] at m;obtain ⟨_,I,D⟩:=World.cells?_some m;obtain ⟨u,J⟩:∃u,f[0]? = some u:=⟨_,List.getElem?_eq_getElem (by omega)⟩;have:=D 0 N;rw [J] at this
       simpa [Addr.add] using World.cell?_spot this
     · obtain ⟨aA,af⟩:=ae (aa _)
       have ag:len=0:=by omega
       have g:=af 0 (by omega);rw [ag] at g;obtain ⟨y,z⟩:∃y,rest[0]? = some y:=⟨_,List.getElem?_eq_getElem (by omega)⟩;rw [z] at g;obtain ⟨f,m,_⟩:=Option.bind_eq_some_iff.1 g;rw [G] at m;obtain ⟨_,I,D⟩:=World.cells?_some m;obtain ⟨u,J⟩:∃u,f[0]? = some u:=⟨_,List.getElem?_eq_getElem (by omega)⟩;have:=D 0 N;rw [J] at this
       simpa [Addr.add] using World.cell?_spot this
   obtain ⟨xs,ah,T⟩:=C3 (λi (d:α)=>(∀b o,a=⟨b,o,none⟩->rd (hv w) b (o+i*k) d)/\∃y:DataW H×List MemPlace,C[i]? = some y/\E d<=K.B y.1) len (λi hi=>by
     have g:=Q i hi;obtain ⟨y,z⟩:∃y,C[i]? = some y:=⟨_,List.getElem?_eq_getElem (by omega)⟩;rw [z] at g;obtain ⟨f,m,ai⟩:=Option.bind_eq_some_iff.1 g;rw [G] at m;obtain ⟨_,I,D⟩:=World.cells?_some m;obtain ⟨d,aj,ak⟩:=ab n f y (by omega) ai I;refine ⟨d,λb o al=>aj _ _ λj v U=>?_,y,z,ak⟩;subst al
     have am:j<k:=by have:=(List.getElem?_eq_some_iff.1 U).1; omega
     have:=D j am;rw [U] at this;rw [lO,lO] at this
     exact yU this)
   have an:∀(l:List α) (es:List (DataW H×List MemPlace)),l.length=es.length->(∀(i:Nat) (d:α),l[i]? = some d->∃y:DataW H×List MemPlace,es[i]? = some y/\E d<=K.B y.1)->A l<=K.BA (es.map (·.1)):=by
     intro l
     induction l with
     | nil=>intro es _ _; rw [M]; exact Nat.zero_le _
     | cons d l ao=>
       intro es V W
       cases es with
       | nil=>cases V
       | cons y es=>
         obtain ⟨X,F,t⟩:=W 0 d rfl;simp at F; subst F
         have:=ao es (by simpa using V) λi ap aq=>by
           obtain ⟨X,F,t⟩:=W (i+1) ap (by simpa using aq);exact ⟨X,by simpa using F,t⟩
         rw [Y,List.map_cons,K.cons];omega
   refine ⟨some a,cap,xs,by rw [q,ah],⟨by omega,by unfold maxLen at ad; omega,λp L ar=>by injection L with L; subst L; exact R ar,λi d t=>?_⟩,?_⟩
   · have hi:i<len:=by have:=(List.getElem?_eq_some_iff.1 t).1; omega
     have au:=R (by omega);obtain ⟨b,o,s⟩:=a;obtain rfl:s=none:=au;exact ⟨b,o,O,(T i d t).1 b o O⟩
   · have:=an xs C (by omega) λi d t=>(T i d t).2
     simp only [ac];have:=K.sl (C.map (·.1)) (rest.map (·.1));omega
structure Vx (P:Program) (tE tS tD tP tM wF su zi sv p':TypeId) (e s d p m:Array Field) (tI tB tT:TypeId):Prop where
 uI:P.underlying tI=some (.int .i64)
 uB:P.underlying tB=some .bool
 uT:P.underlying tT=some .string
 cT:P.cellsOf tT=1
 uE:P.underlying tE=some (.struct e)
 rE:(mq P 0 e.toList&&Nat.beq (P.cellsOf tE) e.size)=true
 fE:e.map (·.type) = #[tI,tI,tT,tT,wF]
 VC:P.underlying wF=some (.slice tE)
 uS:P.underlying tS=some (.struct s)
 rS:(mq P 0 s.toList&&Nat.beq (P.cellsOf tS) s.size)=true
 fS:s.map (·.type) = #[tI,tT,tT,wF,su,su]
 VF:P.underlying su=some (.slice tS)
 uD:P.underlying tD=some (.struct d)
 rD:(mq P 0 d.toList&&Nat.beq (P.cellsOf tD) d.size)=true
 fD:d.map (·.type) = #[tI,tT,tB,tI]
 VJ:P.underlying zi=some (.slice tD)
 uP:P.underlying tP=some (.struct p)
 rP:(mq P 0 p.toList&&Nat.beq (P.cellsOf tP) p.size)=true
 fP:p.map (·.type) = #[tT,tB,p',p',su]
 EZ:P.underlying sv=some (.slice tP)
 LO:P.underlying p'=some (.slice tT)
 uM:P.underlying tM=some (.struct m)
 rM:(mq P 0 m.toList&&Nat.beq (P.cellsOf tM) m.size)=true
 fM:m.map (·.type) = #[tT,p',zi,sv,su]
variable {tE tS tD tP tM wF su zi sv p' tI tB tT:TypeId} {e s d p m:Array Field}
end
end Go.Bw
end
section
namespace Go.Bw
open Go
structure bs where
 kind:Int
 n:Int
 pl:Int
 name:List UInt8
deriving DecidableEq
def bs.cells (x:bs):List Value:=[.int .i64 x.kind,.int .i64 x.n,.int .i64 x.pl,st x.name]
theorem bs.aj (x:bs):x.cells.length=4:=rfl
theorem bs.one (x:bs):x.cells.all (·.oneCell')=true:=rfl
def gV (a:View) (b o:Nat) (x:bs):Prop:=bI a b o x.cells
theorem LP {a c:View} (h:bw a c) (b o:Nat) (x:bs) (r:gV a b o x):gV c b o x:=bI.mono h r
def km (x:bs):Bool:=!((((((((!(dU x.name)||!(dv x.kind 1 4))||!(dv x.n 0 1099511627775))||!(dv x.pl 0 320))||(x.kind==1&&x.pl != 0))||(x.kind==2&&x.n != 0))||(x.kind==3&&!(dv x.n 1 32)))||(x.kind==4&&decide (3<x.n))))
theorem wI {x:bs} {lo hi a:Int} (h:(x.kind=1/\lo=0/\hi=1099511627775/\a=0)\/(x.kind=2/\lo=0/\hi=0/\a=320)\/(x.kind=3/\lo=1/\hi=32/\a=320)\/(x.kind=4/\lo=0/\hi=3/\a=320)) :
   ((((dU x.name&&decide (lo<=x.n))&&decide (x.n<=hi))&&decide (0<=x.pl))&&decide (x.pl<=a))=km x:=by
 unfold km
 generalize dU x.name=b
 rw [Bool.eq_iff_iff];cases b
 · simp
 · rcases h with ⟨h,rfl,rfl,rfl⟩ | ⟨h,rfl,rfl,rfl⟩ | ⟨h,rfl,rfl,rfl⟩ | ⟨h,rfl,rfl,rfl⟩<;>simp [dv,h]<;>omega
theorem LQ {x:bs} (a:x.kind≠1) (b:x.kind≠2) (c:x.kind≠3) (d:x.kind≠4):km x=false:=by
 unfold km
 have:dv x.kind 1 4=false:=by simp [dv]; omega
 simp [this]
def et (l:List (List UInt8)):Bool:=(List.range l.length).any λi=>(List.range i).any λj=>l[i]?.getD []==l[j]?.getD []
theorem LR {l:List (List UInt8)} {i j:Nat} (hi:i<l.length) (a:j<i) (h:(l[i]?.getD []==l[j]?.getD [])=true):et l=true:=by
 unfold et;exact List.any_eq_true.2 ⟨i,by simpa using hi,List.any_eq_true.2 ⟨j,by simpa using a,h⟩⟩
theorem zk {l:List (List UInt8)}:et l=true↔∃i j,i<l.length/\j<i/\l[i]? = l[j]?:=by
 constructor
 · intro h
   unfold et at h;obtain ⟨i,hi,h⟩:=List.any_eq_true.1 h;obtain ⟨j,a,h⟩:=List.any_eq_true.1 h
   have hi:i<l.length:=by simpa using hi
   have a:j<i:=by simpa using a
   refine ⟨i,j,hi,a,?_⟩;rw [List.getElem?_eq_getElem hi,List.getElem?_eq_getElem (by omega)] at h ⊢
   simpa using h
 · rintro ⟨i,j,hi,a,h⟩
   exact LR hi a (by rw [h]; simp)
theorem hF {l:List (List UInt8)}:l.Nodup↔et l=false:=by
 constructor
 · intro h
   rw [Bool.eq_false_iff];intro b;obtain ⟨i,j,hi,a,e⟩:=zk.1 b;have:=(List.getElem?_inj hi h).1 e;omega
 · intro h
   show List.Pairwise _ l
   rw [List.pairwise_iff_getElem];intro i j hi a c e;have:=zk.2 ⟨j,i,a,c,by rw [List.getElem?_eq_getElem hi,List.getElem?_eq_getElem a,e]⟩;rw [h] at this; cases this
def hG (name:List UInt8) (a:List bs):Int:=
 if 16<a.length then 2 else if (a.all km&&(!(et (a.map (·.name))||!(dU name))))=true then 0 else 1
theorem DP {a:List bs} (h:∀(j:Nat) (x:bs),a[j]? = some x->km x=true):a.all km=true:=by
 rw [List.all_eq_true];intro x b;obtain ⟨j,c⟩:=List.getElem?_of_mem b;exact h j x c
theorem LS {a:List bs} {j:Nat} {x:bs} (b:a[j]? = some x) (h:km x=false):a.all km=false:=by
 rw [List.all_eq_false];exact ⟨x,List.mem_of_getElem? b,by simp [h]⟩
def lp (at_:Int) (d:cB):bs:=⟨d.kind,d.n,if d.kind=1 then 0 else at_,d.nm⟩
def hH (d:cB):Int:=if d.kind=2 then 1 else if d.kind=3 then d.n else 0
def eQ:List cB->Int
 | []=>0
 | d::r=>hH d+eQ r
def hY:List cB->Int->List bs
 | [],_=>[]
 | d::r,a=>lp a d::hY r (a+hH d)
def e2 (i:Nat) (p:dA):bs:=⟨4,(p.params.length:Int),(i:Int),p.nm⟩
def jI:List dA->Nat->List bs
 | [],_=>[]
 | p::r,i=>e2 i p::jI r (i+1)
theorem DQ:∀(l:List cB) (d:cB),eQ (l++[d])=eQ l+hH d
 | [],d=>by simp [eQ]
 | x::l,d=>by simp only [List.cons_append,eQ,DQ l d]; omega
theorem DR:∀(l:List cB) (d:cB) (a:Int),hY (l++[d]) a=hY l a++[lp (a+eQ l) d]
 | [],d,a=>by simp [hY,eQ]
 | x::l,d,a=>by
   simp only [List.cons_append,hY,DR l d,eQ];rw [show a+hH x+eQ l=a+(hH x+eQ l) by omega]
theorem DS:∀(l:List dA) (p:dA) (i:Nat),jI (l++[p]) i=jI l i++[e2 (i+l.length) p]
 | [],p,i=>by simp [jI]
 | x::l,p,i=>by
   simp only [List.cons_append,jI,DS l p,List.length_cons];rw [show i+1+l.length=i+(l.length+1) by omega]
theorem wJ:∀(l:List cB) (a:Int),(hY l a).length=l.length
 | [],_=>rfl
 | x::l,a=>by simp [hY,wJ l]
theorem zl:∀(l:List dA) (i:Nat),(jI l i).length=l.length
 | [],_=>rfl
 | x::l,i=>by simp [jI,zl l]
def ef (m:aZ):List bs:=hY m.decls 0++jI m.procs 0
def j3 (m:aZ):Int:=eQ m.decls
def jJ (m:aZ):List Bool:=m.decls.map (·.bx)++m.procs.map (·.bx)
theorem uc (m:aZ):(ef m).length=m.decls.length+m.procs.length:=by simp [ef,wJ,zl]
theorem wK (m:aZ):(jJ m).length=m.decls.length+m.procs.length:=by simp [jJ]
def hZ:List bs->List Bool->List bs
 | x::l,p::ps=>(if p=true then [x] else [])++hZ l ps
 | _,_=>[]
theorem DT:∀{l:List bs} {ps:List Bool} {x:bs} {p:Bool},l.length=ps.length->hZ (l++[x]) (ps++[p])=hZ l ps++(if p=true then [x] else [])
 | [],[],x,p,_=>by simp [hZ]
 | y::l,q::ps,x,p,h=>by simp only [List.cons_append,hZ,DT (l:=l) (ps:=ps) (by simpa using h),List.append_assoc]
 | [],q::ps,x,p,h=>by simp at h
 | y::l,[],x,p,h=>by simp at h
theorem LU {l:List bs} {ps:List Bool} {i:Nat} {x:bs} {p:Bool} (c:l.length=ps.length) (a:l[i]? = some x) (b:ps[i]? = some p):hZ (l.take (i+1)) (ps.take (i+1))=hZ (l.take i) (ps.take i)++(if p=true then [x] else []):=by
 rw [List.take_add_one,List.take_add_one,a,b];exact DT (by simp; omega)
theorem zm:∀(l:List bs) (ps:List Bool),(hZ l ps).length<=l.length
 | [],_=>by simp [hZ]
 | x::l,[]=>by simp [hZ]
 | x::l,p::ps=>by
   have:=zm l ps;simp only [hZ,List.length_append,List.length_cons]
   split<;>simp<;>omega
def ao (m:aZ):(List UInt8×List bs)×Int:=
 if fH m≠0 then (([],[]),fH m) else if (et ((ef m).map (·.name))||et m.ak)=true then (([],[]),6) else ((m.nm,hZ (ef m) (jJ m)),0)
inductive db where
 | mk (op n m pl:Int) (args:List db)
inductive cY where
 | mk (op n m pl:Int) (args:List db) (body other:List cY)
def db.op:db->Int | .mk o _ _ _ _=>o
def db.n:db->Int | .mk _ n _ _ _=>n
def db.m:db->Int | .mk _ _ m _ _=>m
def db.pl:db->Int | .mk _ _ _ p _=>p
def db.args:db->List db | .mk _ _ _ _ a=>a
def cY.op:cY->Int | .mk o _ _ _ _ _ _=>o
def cY.n:cY->Int | .mk _ n _ _ _ _ _=>n
def cY.m:cY->Int | .mk _ _ m _ _ _ _=>m
def cY.pl:cY->Int | .mk _ _ _ p _ _ _=>p
def cY.args:cY->List db | .mk _ _ _ _ a _ _=>a
def cY.body:cY->List cY | .mk _ _ _ _ _ b _=>b
def cY.other:cY->List cY | .mk _ _ _ _ _ _ o=>o
structure hk where
 params:Int
 locals:Int
 body:List cY
structure bK where
 nm:List UInt8
 ak:List (List UInt8)
 data:Int
 parts:List hk
 main:List cY
def ie:bK:=⟨[],[],0,[],[]⟩
def nh (e:db) (a:Option Addr) (c:Nat):List Value:=[.int .i64 e.op,.int .i64 e.n,.int .i64 e.m,.int .i64 e.pl,.slice a e.args.length c]
def ig:Nat->View->Nat->Nat->db->Prop
 | 0=>λ_ _ _ _=>False
 | k+1=>λd b o e=>∃a c,bI d b o (nh e a c)/\Sl (ig k) 5 d a c e.args
structure rl where
 s1:Option Addr×Nat
 s2:Option Addr×Nat
 s3:Option Addr×Nat
def o7 (s:cY) (r:rl):List Value:=[.int .i64 s.op,.int .i64 s.n,.int .i64 s.m,.int .i64 s.pl,.slice r.s1.1 s.args.length r.s1.2,.slice r.s2.1 s.body.length r.s2.2,.slice r.s3.1 s.other.length r.s3.2]
def gW (ke:Nat):Nat->View->Nat->Nat->cY->Prop
 | 0=>λ_ _ _ _=>False
 | k+1=>λa b o s=>∃r:rl,bI a b o (o7 s r)/\Sl (ig ke) 5 a r.s1.1 r.s1.2 s.args/\Sl (gW ke k) 7 a r.s2.1 r.s2.2 s.body/\Sl (gW ke k) 7 a r.s3.1 r.s3.2 s.other
def sw (p:hk) (r:Option Addr×Nat):List Value:=[.int .i64 p.params,.int .i64 p.locals,.slice r.1 p.body.length r.2]
def sx (ke ks:Nat) (a:View) (b o:Nat) (p:hk):Prop:=∃r:Option Addr×Nat,bI a b o (sw p r)/\Sl (gW ke ks) 7 a r.1 r.2 p.body
structure ih where
 s1:Option Addr×Nat
 s2:Option Addr×Nat
 s3:Option Addr×Nat
def eE (u:bK) (r:ih):List Value:=[st u.nm,.slice r.s1.1 u.ak.length r.s1.2,.int .i64 u.data,.slice r.s2.1 u.parts.length r.s2.2,.slice r.s3.1 u.main.length r.s3.2]
structure hI (ke ks:Nat) (H:View) (r:ih) (u:bK):Prop where
 ak:Sl rdStr 1 H r.s1.1 r.s1.2 u.ak
 parts:Sl (sx ke ks) 3 H r.s2.1 r.s2.2 u.parts
 main:Sl (gW ke ks) 7 H r.s3.1 r.s3.2 u.main
def j4:ih:=⟨(none,0),(none,0),(none,0)⟩
theorem sy {ke ks:Nat} (a:View):hI ke ks a j4 ie:=⟨Sl.nil,Sl.nil,Sl.nil⟩
theorem zn {f g:View} (i:bw f g):∀{k d:Nat},k<=d->∀(b o:Nat) (e:db),ig k f b o e->ig d g b o e
 | 0,_,_,_,_,_,h=>h.elim
 | k+1,0,j,_,_,_,_=>absurd j (by omega)
 | k+1,d+1,j,b,o,e,h=>by
   obtain ⟨a,c,l,m⟩:=h;exact ⟨a,c,bI.mono i l,m.imp λb o x n=>zn i (by omega) b o x n⟩
theorem wL {g i:View} (c:bw g i) {ke j:Nat} (d:ke<=j):∀{k f:Nat},k<=f->∀(b o:Nat) (e:cY),gW ke k g b o e->gW j f i b o e
 | 0,_,_,_,_,_,h=>h.elim
 | k+1,0,l,_,_,_,_=>absurd l (by omega)
 | k+1,f+1,l,b,o,e,h=>by
   obtain ⟨r,m,n,p,q⟩:=h;exact ⟨r,bI.mono c m,n.imp λb o x a=>zn c d b o x a,p.imp λb o x a=>wL c d (by omega) b o x a,q.imp λb o x a=>wL c d (by omega) b o x a⟩
theorem LV {a c:View} (d:bw a c) {ke e ks f:Nat} (g:ke<=e) (i:ks<=f) (b o:Nat) (p:hk) (h:sx ke ks a b o p):sx e f c b o p:=by
 obtain ⟨r,j,k⟩:=h;exact ⟨r,bI.mono d j,k.imp λb o x l=>wL d g i b o x l⟩
theorem hX {d e:View} {k c:Nat} {a:Option Addr} {l:List db} (h:Sl (ig k) 5 d a c l) (hv:bw d e):Sl (ig k) 5 e a c l:=h.imp λb o x f=>zn hv (Nat.le_refl _) b o x f
theorem rm {d e:View} {ke k c:Nat} {a:Option Addr} {l:List cY} (h:Sl (gW ke k) 7 d a c l) (hv:bw d e):Sl (gW ke k) 7 e a c l:=h.imp λb o x f=>wL hv (Nat.le_refl _) (Nat.le_refl _) b o x f
theorem G_ {d e:View} {ke k c:Nat} {a:Option Addr} {l:List hk} (h:Sl (sx ke k) 3 d a c l) (hv:bw d e):Sl (sx ke k) 3 e a c l:=h.imp λb o x f=>LV hv (Nat.le_refl _) (Nat.le_refl _) b o x f
theorem hI.mv {ke ks:Nat} {a c:View} {r:ih} {u:bK} (h:hI ke ks a r u) (hv:bw a c):hI ke ks c r u:=⟨h.ak.imp λb o x d=>dm hv b o x d,G_ h.parts hv,rm h.main hv⟩
def Xs {X:Type} (R:View->X->Prop) (J:View) (es:List X):Prop:=∀e ∈ es,R J e
theorem Xs.nil {X:Type} {R:View->X->Prop} (J:View):Xs R J []:=by intro e h; simp at h
theorem Xs.mono {X:Type} {R:View->X->Prop} (c:∀{a B:View} {x:X},bw a B->R a x->R B x) {J b:View} {es:List X} (h:Xs R J es) (hv:bw J b):Xs R b es:=λe d=>c hv (h e d)
theorem Xs.snoc {X:Type} {R:View->X->Prop} (c:∀{d B:View} {x:X},bw d B->R d x->R B x) {J f b:View} {es:List X} {e:X} (h:Xs R J es) (g:bw J b) (i:bw f b) (j:R f e):Xs R b (es++[e]):=by
 intro x a
 rcases List.mem_append.1 a with a | a
 · exact c g (h x a)
 · rw [List.mem_singleton] at a
   subst a;exact c i j
theorem sz {X T:Type} {t:X->T} {d:View->Nat->Nat->X->Prop} {rd:View->Nat->Nat->T->Prop} {R:View->X->Prop} {k:Nat} {f J g:View} {c:Nat} {a:Option Addr} {es:List X} (h:Sl d k f a c es) (m:Xs R J es)
   (n:∀b o e,d f b o e->R J e->rd g b o (t e)):Sl rd k g a c (es.map t):=by
 refine ⟨by simpa using h.cap,h.max,h.spot,λi x j=>?_⟩;rw [List.getElem?_map] at j;obtain ⟨e,l,rfl⟩:=Option.map_eq_some_iff.1 j;obtain ⟨b,o,p,q⟩:=h.bJ i e l;exact ⟨b,o,p,n b _ e q (m e (List.mem_of_getElem? l))⟩
abbrev XN:=db×Option Addr×Nat
def XN.cells (e:XN):List Value:=nh e.1 e.2.1 e.2.2
theorem XN.aj (e:XN):(XN.cells e).length=5:=rfl
theorem XN.one (e:XN):(XN.cells e).all (·.oneCell')=true:=rfl
def DU (a:View) (b o:Nat) (e:XN):Prop:=bI a b o (XN.cells e)
def n0 (k:Nat) (J:View) (e:XN):Prop:=Sl (ig k) 5 J e.2.1 e.2.2 e.1.args
theorem n0.mv {k:Nat} {a B:View} {e:XN} (hv:bw a B) (h:n0 k a e):n0 k B e:=hX h hv
theorem LX {k:Nat} {f J d:View} {c:Nat} {a:Option Addr} {es:List XN} (h:Sl DU 5 f a c es) (hv:bw f d) (g:bw J d) (i:Xs (n0 k) J es):Sl (ig (k+1)) 5 d a c (es.map (·.1)):=
 sz h i λb o e j l=>⟨e.2.1,e.2.2,bI.mono hv j,n0.mv g l⟩
abbrev XA:=cY×rl
def XA.cells (e:XA):List Value:=o7 e.1 e.2
theorem XA.aj (e:XA):(XA.cells e).length=7:=rfl
theorem XA.one (e:XA):(XA.cells e).all (·.oneCell')=true:=rfl
def DV (a:View) (b o:Nat) (e:XA):Prop:=bI a b o (XA.cells e)
structure mx (ke k:Nat) (N:View) (e:XA):Prop where
 args:Sl (ig ke) 5 N e.2.s1.1 e.2.s1.2 e.1.args
 body:Sl (gW ke k) 7 N e.2.s2.1 e.2.s2.2 e.1.body
 other:Sl (gW ke k) 7 N e.2.s3.1 e.2.s3.2 e.1.other
theorem mx.mv {ke k:Nat} {a B:View} {e:XA} (hv:bw a B) (h:mx ke k a e):mx ke k B e:=⟨hX h.args hv,rm h.body hv,rm h.other hv⟩
theorem LY {ke k:Nat} {i J d:View} {c:Nat} {a:Option Addr} {es:List XA} (h:Sl DV 7 i a c es) (hv:bw i d) (f:bw J d) (j:Xs (mx ke k) J es):Sl (gW ke (k+1)) 7 d a c (es.map (·.1)):=
 sz h j λb o e l g=>⟨e.2,bI.mono hv l,(mx.mv f g).args,(mx.mv f g).body,(mx.mv f g).other⟩
abbrev XP:=hk×Option Addr×Nat
def XP.cells (e:XP):List Value:=sw e.1 e.2
theorem XP.aj (e:XP):(XP.cells e).length=3:=rfl
theorem XP.one (e:XP):(XP.cells e).all (·.oneCell')=true:=rfl
def DW (a:View) (b o:Nat) (e:XP):Prop:=bI a b o (XP.cells e)
def p_ (ke k:Nat) (J:View) (e:XP):Prop:=Sl (gW ke k) 7 J e.2.1 e.2.2 e.1.body
theorem p_.mv {ke k:Nat} {a B:View} {e:XP} (hv:bw a B) (h:p_ ke k a e):p_ ke k B e:=rm h hv
theorem LZ {ke k:Nat} {f J d:View} {c:Nat} {a:Option Addr} {es:List XP} (h:Sl DW 3 f a c es) (hv:bw f d) (g:bw J d) (i:Xs (p_ ke k) J es):Sl (sx ke k) 3 d a c (es.map (·.1)):=
 sz h i λb o e j l=>⟨e.2,bI.mono hv j,p_.mv g l⟩
open Go.ChangeShapes Go.WideShapes Go.ChangeAt Go.RowKit Go.Joins Go.Deep
structure VN (P:Program) (tI tT tX DX tF L0:TypeId) (x f:Array Field):Prop where
 uI:P.underlying tI=some (.int .i64)
 uT:P.underlying tT=some .string
 uX:P.underlying tX=some (.struct x)
 rX:(mq P 0 x.toList&&Nat.beq (P.cellsOf tX) x.size)=true
 fX:x.map (·.type) = #[tI,tI,tI,tT]
 VR:P.underlying DX=some (.slice tX)
 uF:P.underlying tF=some (.struct f)
 rF:(mq P 0 f.toList&&Nat.beq (P.cellsOf tF) f.size)=true
 fF:f.map (·.type) = #[tT,DX]
 VV:P.underlying L0=some (.slice tF)
end Go.Bw
end
section
namespace Go.Bw
open Go
structure dE where
 ay:List (List UInt8)
 own:List bs
 ak:List (List UInt8)
 qa:List (List bs)
def idxOf (nm:List UInt8):List (List UInt8)->Nat->Option Nat
 | [],_=>none
 | s::r,i=>if s=nm then some i else idxOf nm r (i+1)
def fJ (nm:List UInt8):List bs->Option bs
 | []=>none
 | x::r=>if x.name=nm then some x else fJ nm r
def iX (mod nm:List UInt8):List (List UInt8)->List (List bs)->Nat->Option (Int×bs)
 | u::us,f::fs,k=>if u=mod then (match fJ nm f with | some x=>some (((k+1:Nat):Int),x) | none=>iX mod nm us fs (k+1)) else iX mod nm us fs (k+1)
 | _,_,_=>none
def zq (i:Nat):bs:=⟨0,0,(i:Int),[]⟩
def eZ (a:dE) (mod nm:List UInt8):Option (Int×bs):=
 if mod=[] then (match idxOf nm a.ay 0 with
   | some i=>some (-1,zq i)
   | none=>(fJ nm a.own).map λx=>(0,x))
 else iX mod nm a.ak a.qa 0
def er (a b:Int):Int:=if a=0 then b else a
theorem jK (b:Int):er 0 b=b:=rfl
theorem L1 (a:Int):er a 0=a:=by unfold er; split<;>simp_all
theorem Hj (a b c:Int):er (er a b) c=er a (er b c):=by unfold er; split<;>simp_all
theorem iY {a b:Int}:er a b=0↔a=0/\b=0:=by unfold er; split<;>simp_all
theorem bV {a b:Int} (h:a≠0):er a b=a:=by unfold er; rw [if_neg h]
structure RN where
 op:Int
 n:Int
 m:Int
 pl:Int
 e:Int
def cG (a:dE) (op n:Int) (mod nm:List UInt8) (len:Nat):RN:=
 if dv op 3 5=true then (match eZ a mod nm with
   | none=>⟨op,n,0,0,5⟩
   | some (m,it)=>
     if m = -1 then ⟨16,n,0,it.pl,if op=3 then 0 else 7⟩
     else if op=3/\it.kind=1 then ⟨1,it.n,0,0,0⟩
     else if op=3/\it.kind=2 then ⟨op,n,m,it.pl,0⟩
     else if op=4/\it.kind=3 then ⟨op,it.n,m,it.pl,0⟩
     else if op=5/\it.kind=4 then ⟨op,n,m,it.pl,if it.n=(len:Int) then 0 else 8⟩
     else ⟨op,n,0,0,7⟩)
 else ⟨op,n,0,0,0⟩
def cQ (a:dE) (op:Int) (mod nm:List UInt8) (len:Nat):RN:=
 if dv op 1 3=true then (match eZ a mod nm with
   | none=>⟨op,0,0,0,5⟩
   | some (m,it)=>
     if op=1/\(m = -1\/it.kind=2) then ⟨op,0,m,it.pl,0⟩
     else if m = -1 then ⟨op,0,0,0,7⟩
     else if op=2/\it.kind=3 then ⟨op,it.n,m,it.pl,0⟩
     else if op=3/\it.kind=4 then ⟨op,0,m,it.pl,if it.n=(len:Int) then 0 else 8⟩
     else ⟨op,0,0,0,7⟩)
 else ⟨op,0,0,0,0⟩
mutual
def bg (a:dE):aV->db
 | .mk op n mod nm args=>.mk (cG a op n mod nm args.length).op (cG a op n mod nm args.length).n (cG a op n mod nm args.length).m (cG a op n mod nm args.length).pl (fk a args)
def fk (a:dE):List aV->List db
 | []=>[]
 | x::r=>bg a x::fk a r
end
mutual
def ij (a:dE):aV->Int
 | .mk op n mod nm args=>er (cG a op n mod nm args.length).e (gC a args)
def gC (a:dE):List aV->Int
 | []=>0
 | x::r=>er (ij a x) (gC a r)
end
mutual
def ko (a:dE):bl->cY
 | .mk op mod nm args body other=>.mk (cQ a op mod nm args.length).op (cQ a op mod nm args.length).n (cQ a op mod nm args.length).m (cQ a op mod nm args.length).pl (fk a args) (dV a body) (dV a other)
def dV (a:dE):List bl->List cY
 | []=>[]
 | x::r=>ko a x::dV a r
end
mutual
def hJ (a:dE):bl->Int
 | .mk op mod nm args body other=>er (cQ a op mod nm args.length).e (er (gC a args) (er (eu a body) (eu a other)))
def eu (a:dE):List bl->Int
 | []=>0
 | x::r=>er (hJ a x) (eu a r)
end
theorem zr (a:dE) (x:aV):bg a x = .mk (cG a x.op x.n x.mod x.nm x.args.length).op (cG a x.op x.n x.mod x.nm x.args.length).n (cG a x.op x.n x.mod x.nm x.args.length).m (cG a x.op x.n x.mod x.nm x.args.length).pl (fk a x.args):=by
 cases x; rw [bg]; rfl
theorem qb (a:dE) (x:aV):ij a x=er (cG a x.op x.n x.mod x.nm x.args.length).e (gC a x.args):=by cases x; rw [ij]; rfl
theorem iF (a:dE) (x:bl):ko a x = .mk (cQ a x.op x.mod x.nm x.args.length).op (cQ a x.op x.mod x.nm x.args.length).n (cQ a x.op x.mod x.nm x.args.length).m (cQ a x.op x.mod x.nm x.args.length).pl (fk a x.args) (dV a x.body) (dV a x.other):=by
 cases x; rw [ko]; rfl
theorem bW (a:dE) (x:bl):hJ a x=er (cQ a x.op x.mod x.nm x.args.length).e (er (gC a x.args) (er (eu a x.body) (eu a x.other))):=by cases x; rw [hJ]; rfl
theorem sA (a:dE):∀l,fk a l=l.map (bg a)
 | []=>by rw [fk]; rfl
 | x::r=>by rw [fk,sA a r]; rfl
theorem bX (a:dE):∀l,dV a l=l.map (ko a)
 | []=>by rw [dV]; rfl
 | x::r=>by rw [dV,bX a r]; rfl
def aD {α:Type} (f:α->Int):List α->Int
 | []=>0
 | x::r=>er (f x) (aD f r)
theorem zt {α:Type} (f:α->Int):∀a b:List α,aD f (a++b)=er (aD f a) (aD f b)
 | [],b=>rfl
 | x::a,b=>by simp only [List.cons_append,aD,zt f a b,Hj]
theorem zu {α:Type} (f:α->Int) {l:List α} {i:Nat} {x:α} (h:l[i]? = some x):aD f (l.take (i+1))=er (aD f (l.take i)) (f x):=by
 rw [List.take_add_one,h,zt]
 show er _ (er (f x) 0)=_
 rw [L1]
theorem sB {α:Type} (f:α->Int) {l:List α} {i:Nat} {x:α} (h:l[i]? = some x) (a:aD f (l.take i)=0) (b:f x≠0):aD f l=f x:=by
 have e:l=l.take i++l.drop i:=(List.take_append_drop i l).symm;rw [e,zt,a,jK]
 have c:l.drop i=x::l.drop (i+1):=by
   obtain ⟨d,g⟩:=List.getElem?_eq_some_iff.1 h;rw [List.drop_eq_getElem_cons d,g]
 rw [c,aD,bV b]
theorem zv (a:dE):∀l,gC a l=aD (ij a) l
 | []=>by rw [gC]; rfl
 | x::r=>by rw [gC,zv a r]; rfl
theorem zw (a:dE):∀l,eu a l=aD (hJ a) l
 | []=>by rw [eu]; rfl
 | x::r=>by rw [eu,zw a r]; rfl
def bT (m:aZ) (fs:List (List UInt8×List bs)) (ay:List (List UInt8)):dE:=⟨ay,ef m,m.ak,fs.map (·.2)⟩
def lY (m:aZ) (fs:List (List UInt8×List bs)) (p:dA):hk:=⟨(p.params.length:Int),(p.ay.length:Int),dV (bT m fs (p.params++p.ay)) p.body⟩
def my (m:aZ) (fs:List (List UInt8×List bs)) (p:dA):Int:=er (if et (p.params++p.ay)=true then 6 else 0) (eu (bT m fs (p.params++p.ay)) p.body)
def c' (m:aZ) (fs:List (List UInt8×List bs)):bK:=⟨m.nm,m.ak,j3 m,m.procs.map (lY m fs),dV (bT m fs []) m.main⟩
def j5 (m:aZ) (fs:List (List UInt8×List bs)):Int:=er (aD (my m fs) m.procs) (eu (bT m fs []) m.main)
def lq:List (List UInt8)->List (List UInt8×List bs)->Bool
 | u::us,f::fs=>((hG f.1 f.2==0)&&(f.1==u))&&lq us fs
 | _,_=>true
def cx (m:aZ) (fs:List (List UInt8×List bs)):bK×Int:=
 if (ao m).2≠0 then (ie,(ao m).2) else if fs.length≠m.ak.length then (ie,8) else if lq m.ak fs=false then (ie,1)
 else if j5 m fs≠0 then (ie,j5 m fs) else (c' m fs,0)
def hl (l:List bs) (s:Nat):List (c8 (List UInt8)):=match l with
 | []=>[]
 | x::r=>(x.name,.agg x.cells.toArray,s)::hl r (s+1)
def fQ (l:List (List UInt8)) (s:Nat):List (c8 (List UInt8)):=match l with
 | []=>[]
 | x::r=>(x,.int .i64 ((s+1:Nat):Int),s)::fQ r (s+1)
theorem zx:∀(l:List (List UInt8)) (s:Nat),(fQ l s).length=l.length
 | [],_=>rfl
 | x::r,s=>by rw [fQ,List.length_cons,zx r,List.length_cons]
theorem DZ:∀(l:List bs) (x:bs) (s:Nat),hl (l++[x]) s=hl l s++[(x.name,.agg x.cells.toArray,s+l.length)]
 | [],x,s=>rfl
 | y::r,x,s=>by
   rw [List.cons_append,hl,DZ r x,hl,List.cons_append,List.length_cons,show s+1+r.length=s+(r.length+1) by omega]
theorem nT:∀(l:List (List UInt8)) (x:List UInt8) (s:Nat),fQ (l++[x]) s=fQ l s++[(x,.int .i64 ((s+l.length+1:Nat):Int),s+l.length)]
 | [],x,s=>rfl
 | y::r,x,s=>by
   rw [List.cons_append,fQ,nT r x,fQ,List.cons_append,List.length_cons,show s+1+r.length=s+(r.length+1) by omega]
theorem zy (nm:List UInt8):∀(l:List bs) (s i:Nat),(cw nm (hl l s) i).map (·.2)=(fJ nm l).map λx=>.agg x.cells.toArray
 | [],_,_=>rfl
 | x::r,s,i=>by
   rw [hl,cw,fJ]
   by_cases h:x.name=nm
   · simp [h]
   · rw [if_neg (by simpa using λe=>h e.symm),if_neg h]
     exact zy nm r (s+1) (i+1)
theorem zz (nm:List UInt8):∀(l:List (List UInt8)) (s i:Nat),(cw nm (fQ l s) i).map (·.2)=(idxOf nm l s).map λk=>.int .i64 ((k+1:Nat):Int)
 | [],_,_=>rfl
 | x::r,s,i=>by
   rw [fQ,cw,idxOf]
   by_cases h:x=nm
   · simp [h]
   · rw [if_neg (by simpa using λe=>h e.symm),if_neg h]
     exact zz nm r (s+1) (i+1)
theorem D1 (nm:List UInt8) (l:List bs) (a:Value):eD nm (hl l 0) a=(match fJ nm l with | some x=>.agg x.cells.toArray | none=>a)/\lS nm (hl l 0)=(fJ nm l).isSome:=by
 have h:=zy nm l 0 0;unfold eD lS
 cases b:cw nm (hl l 0) 0 with
 | none=>rw [b] at h; cases hi:fJ nm l with | none=>exact ⟨rfl,rfl⟩ | some x=>rw [hi] at h; cases h
 | some r=>rw [b] at h; cases hi:fJ nm l with
   | none=>rw [hi] at h; cases h
   | some x=>rw [hi] at h; simp at h; exact ⟨by simp [h],rfl⟩
theorem D2 (nm:List UInt8) (l:List (List UInt8)):eD nm (fQ l 0) (.int .i64 0) = .int .i64 (match idxOf nm l 0 with | some k=>((k+1:Nat):Int) | none=>0):=by
 have h:=zz nm l 0 0;unfold eD
 cases a:cw nm (fQ l 0) 0 with
 | none=>rw [a] at h; cases hi:idxOf nm l 0 with | none=>rfl | some x=>rw [hi] at h; cases h
 | some r=>rw [a] at h; cases hi:idxOf nm l 0 with
   | none=>rw [hi] at h; cases h
   | some x=>rw [hi] at h; simp at h; simp [h]
theorem D3 {nm:List UInt8}:∀{l:List bs},fJ nm l=none↔nm ∉ l.map (·.name)
 | []=>by simp [fJ]
 | x::r=>by
   rw [fJ]
   by_cases h:x.name=nm
   · simp [h]
   · rw [if_neg h,D3 (l:=r)]
     simp [Ne.symm h,eq_comm,h]
theorem n4 {nm:List UInt8}:∀{l:List (List UInt8)} {s:Nat},idxOf nm l s=none↔nm ∉ l
 | [],_=>by simp [idxOf]
 | x::r,s=>by
   rw [idxOf]
   by_cases h:x=nm
   · simp [h]
   · rw [if_neg h,n4 (l:=r)]
     simp only [List.mem_cons,not_or];exact ⟨λa=>⟨λe=>h e.symm,a⟩,λa=>a.2⟩
theorem L3 {l:List bs} {x:bs} (h:x.name ∉ l.map (·.name)):dZ x.name (.agg x.cells.toArray) (hl l 0) l.length=hl (l++[x]) 0/\gA x.name (hl l 0) l.length=(l++[x]).length:=by
 have a:cw x.name (hl l 0) 0=none:=by
   have:=zy x.name l 0 0;rw [D3.2 h] at this
   simpa using this
 unfold dZ gA;rw [a,DZ];simp
theorem D4 {l:List (List UInt8)} {x:List UInt8} (h:x ∉ l):dZ x (.int .i64 ((l.length+1:Nat):Int)) (fQ l 0) l.length=fQ (l++[x]) 0/\gA x (fQ l 0) l.length=(l++[x]).length:=by
 have a:cw x (fQ l 0) 0=none:=by
   have:=zz x l 0 0;rw [n4.2 h] at this
   simpa using this
 unfold dZ gA;rw [a,nT];simp
theorem qc {nm:List UInt8}:∀{l:List (List UInt8)} {s k:Nat},idxOf nm l s=some k->s<=k/\l[k-s]? = some nm
 | [],_,_,h=>by cases h
 | x::r,s,k,h=>by
   rw [idxOf] at h
   split at h
   · rename_i a; injection h with h; subst h; simp [a]
   · obtain ⟨c,b⟩:=qc h
     refine ⟨by omega,?_⟩;rw [show k-s=(k-(s+1))+1 by omega]; simpa using b
theorem zA {mod nm:List UInt8}:∀{us:List (List UInt8)} {fs:List (List bs)} {s:Nat},mod ∉ us->iX mod nm us fs s=none
 | [],_,_,_=>by simp [iX]
 | u::us,[],_,_=>by simp [iX]
 | u::us,f::fs,s,h=>by
   rw [iX,if_neg (λe=>h (by simp [e])),zA (λa=>h (List.mem_cons_of_mem _ a))]
theorem D5 {mod nm:List UInt8}:∀{us:List (List UInt8)} {fs:List (List bs)} {s:Nat},us.Nodup->us.length=fs.length->
   iX mod nm us fs s=(idxOf mod us s).bind λk=>(fs[k-s]?).bind λf=>(fJ nm f).map λx=>(((k+1:Nat):Int),x)
 | [],[],_,_,_=>by simp [iX,idxOf]
 | [],f::fs,_,_,h=>by simp at h
 | u::us,[],_,_,h=>by simp at h
 | u::us,f::fs,s,b,c=>by
   rw [iX,idxOf];have a:=List.nodup_cons.1 b
   by_cases h:u=mod
   · rw [if_pos h,if_pos h]
     simp only [Option.bind_some,Nat.sub_self,List.getElem?_cons_zero]
     cases fJ nm f with
     | none=>simp only [Option.map_none]; exact zA (h▸a.1)
     | some x=>rfl
   · rw [if_neg h,if_neg h,D5 a.2 (by simpa using c)]
     cases hi:idxOf mod us (s+1) with
     | none=>rfl
     | some k=>
       have:=(qc hi).1;simp only [Option.bind_some];rw [show k-s=(k-(s+1))+1 by omega,List.getElem?_cons_succ]
end Go.Bw
end
section
namespace Go.Bw
open Go
structure cm where
 lZ:Bool
 data:Int
 parts:List Int
def cm.cells (k:cm) (r:Option Addr×Nat):List Value:=[.bool k.lZ,.int .i64 k.data,.slice r.1 k.parts.length r.2]
def e5 (x:Int):List Value:=[.int .i64 x]
theorem D6 (x:Int):(e5 x).length=1:=rfl
def o8 (a:View) (b o:Nat) (x:Int):Prop:=bI a b o (e5 x)
def l0 (a:View) (b o:Nat) (k:cm):Prop:=∃r:Option Addr×Nat,bI a b o (k.cells r)/\Sl o8 1 a r.1 r.2 k.parts
def c7 (u:bK):cm:=⟨true,u.data,u.parts.map (·.params)⟩
def jL:cm:=⟨false,0,[]⟩
def bh (ks:List cm) (m pl:Int):Bool:=((decide (m<0)||decide ((ks.length:Int)<=m))||decide (pl<0))||decide (512<pl)
def iD (ks:List cm) (m pl n:Int):Bool:=if bh ks m pl=true then false else match ks[m.toNat]? with
 | some k=>if k.lZ=true then decide (pl+n<=k.data) else n==1||decide (pl+n<=512)
 | none=>false
def j6 (ks:List cm) (m pl:Int):Bool:=(decide (m<0)||decide ((ks.length:Int)<=m))||decide (pl<0)
def jk (ks:List cm) (m pl n:Int):Bool:=if j6 ks m pl=true then false else match ks[m.toNat]? with
 | some k=>if k.lZ=true then decide (pl<(k.parts.length:Int))&&(k.parts[pl.toNat]?).getD 0==n else decide (pl<6)&&decide (n<=3)
 | none=>false
def o9 (ay pl:Int):Bool:=decide (0<=pl)&&decide (pl<ay)
def ni (n:Int):Bool:=decide (1<=n)&&decide (n<=32)
theorem h1 {ks:List cm} {m pl:Int} (n:Int) (h:bh ks m pl=true):iD ks m pl n=false:=by rw [iD,if_pos h]
theorem wO {ks:List cm} {m pl:Int} (h:bh ks m pl=false):(∃a:Nat,m=a/\a<ks.length)/\0<=pl/\pl<=512:=by
 unfold bh at h;simp only [Bool.or_eq_false_iff,decide_eq_false_iff_not] at h;exact ⟨⟨m.toNat,by omega,by omega⟩,by omega,by omega⟩
theorem rn {ks:List cm} {a:Nat} {pl n:Int} {k:cm} (h:bh ks a pl=false) (b:ks[a]? = some k):iD ks a pl n=if k.lZ=true then decide (pl+n<=k.data) else n==1||decide (pl+n<=512):=by
 rw [iD,if_neg (by rw [h]; decide),Int.toNat_natCast,b]
theorem h8 {ks:List cm} {m pl:Int} (n:Int) (h:j6 ks m pl=true):jk ks m pl n=false:=by rw [jk,if_pos h]
theorem wQ {ks:List cm} {m pl:Int} (h:j6 ks m pl=false):(∃a:Nat,m=a/\a<ks.length)/\∃p:Nat,pl=p:=by
 unfold j6 at h;simp only [Bool.or_eq_false_iff,decide_eq_false_iff_not] at h;exact ⟨⟨m.toNat,by omega,by omega⟩,pl.toNat,by omega⟩
theorem o' {ks:List cm} {a:Nat} {pl n:Int} {k:cm} (h:j6 ks a pl=false) (b:ks[a]? = some k):jk ks a pl n=if k.lZ=true then decide (pl<(k.parts.length:Int))&&(k.parts[pl.toNat]?).getD 0==n else decide (pl<6)&&decide (n<=3):=by
 rw [jk,if_neg (by rw [h]; decide),Int.toNat_natCast,b]
def node1 (ks:List cm) (ay op n m pl:Int) (len:Nat):Bool:=
 if op=1 then ((((m==0)&&(pl==0))&&((len:Int)==0))&&decide (0<=n))&&decide (n<=1099511627775)
 else if op=3 then ((n==0)&&((len:Int)==0))&&iD ks m pl 1
 else if op=4 then (ni n&&((len:Int)==1))&&iD ks m pl n
 else if op=5 then (n==0)&&jk ks m pl len
 else if op=16 then (((m==0)&&(n==0))&&((len:Int)==0))&&o9 ay pl
 else if op=2 then (((m==0)&&(pl==0))&&(n==0))&&((len:Int)==0)
 else if op=6 then (((m==0)&&(pl==0))&&(n==0))&&((len:Int)==1)
 else if 7<=op/\op<=15 then (((m==0)&&(pl==0))&&(n==0))&&((len:Int)==2)
 else false
def e' (ks:List cm) (ay op n m pl:Int) (na b a:Nat):Bool:=
 if op=1 then (((((b:Int)+a==0)&&((na:Int)==1))&&(n==0))&&(((m==-1)&&o9 ay pl)||iD ks m pl 1))
 else if op=2 then (((((b:Int)+a==0)&&((na:Int)==2))&&ni n)&&iD ks m pl n)
 else if op=3 then ((((b:Int)+a==0)&&(n==0))&&jk ks m pl na)
 else if op=4 then (((m==0)&&(pl==0))&&(n==0))&&((na:Int)==1)
 else if op=5 then ((((m==0)&&(pl==0))&&(n==0))&&((na:Int)==1))&&((a:Int)==0)
 else if op=6\/op=7 then ((((m==0)&&(pl==0))&&(n==0))&&((b:Int)+a==0))&&((na:Int)==1)
 else false
mutual
def jM (ks:List cm) (ay:Int):db->Nat->Bool
 | .mk op n m pl args,d=>decide (d<=6)&&(node1 ks ay op n m pl args.length&&fw ks ay args (d+1))
def fw (ks:List cm) (ay:Int):List db->Nat->Bool
 | [],_=>true
 | x::r,d=>jM ks ay x d&&fw ks ay r d
end
theorem zB (ks:List cm) (ay:Int) (x:db) (d:Nat):jM ks ay x d=(decide (d<=6)&&(node1 ks ay x.op x.n x.m x.pl x.args.length&&fw ks ay x.args (d+1))):=by cases x; rw [jM]; rfl
theorem wR (ks:List cm) (ay:Int) (d:Nat):∀l,fw ks ay l d=l.all (jM ks ay · d)
 | []=>by rw [fw]; rfl
 | x::r=>by rw [fw,wR ks ay d r]; rfl
def nj (op:Int):Bool:=(op==4)||(op==5)
mutual
def jl (ks:List cm) (ay:Int):cY->Nat->Bool
 | .mk op n m pl args body other,d=>e' ks ay op n m pl args.length body.length other.length&&(fw ks ay args 1&&((!(nj op)||(decide (d+1<=6)&&(decide (body.length<=10)&&fK ks ay body (d+1))))&&(!(decide (0<other.length))||(decide (d+1<=6)&&(decide (other.length<=10)&&fK ks ay other (d+1))))))
def fK (ks:List cm) (ay:Int):List cY->Nat->Bool
 | [],_=>true
 | x::r,d=>jl ks ay x d&&fK ks ay r d
end
def aG (ks:List cm) (ay:Int) (l:List cY) (d:Nat):Bool:=decide (d<=6)&&(decide (l.length<=10)&&fK ks ay l d)
theorem zC (ks:List cm) (ay:Int) (x:cY) (d:Nat):jl ks ay x d=(e' ks ay x.op x.n x.m x.pl x.args.length x.body.length x.other.length&&(fw ks ay x.args 1&&((!(nj x.op)||aG ks ay x.body (d+1))&&(!(decide (0<x.other.length))||aG ks ay x.other (d+1))))):=by cases x; rw [jl]; rfl
theorem zD (ks:List cm) (ay:Int) (d:Nat):∀l,fK ks ay l d=l.all (jl ks ay · d)
 | []=>by rw [fK]; rfl
 | x::r=>by rw [fK,zD ks ay d r]; rfl
theorem L4 (ks:List cm) (ay:Int) (x:db) (d:Nat):((decide (6<(d:Int))||!(node1 ks ay x.op x.n x.m x.pl x.args.length))||!(fw ks ay x.args (d+1))) = !(jM ks ay x d):=by
 rw [zB,show decide (6<(d:Int)) = !(decide (d<=6)) by rw [Bool.eq_iff_iff]; simp; omega]
 cases decide (d<=6)<;>cases node1 ks ay x.op x.n x.m x.pl x.args.length<;>cases fw ks ay x.args (d+1)<;>rfl
theorem L5 (ks:List cm) (ay:Int) (x:cY) (d:Nat):(((!(e' ks ay x.op x.n x.m x.pl x.args.length x.body.length x.other.length)||!(fw ks ay x.args 1))||(((x.op==4)||(x.op==5))&&!(aG ks ay x.body (d+1))))||(decide (0<(x.other.length:Int))&&!(aG ks ay x.other (d+1)))) = !(jl ks ay x d):=by
 rw [zC,show decide (0<(x.other.length:Int))=decide (0<x.other.length) by rw [Bool.eq_iff_iff]; simp];unfold nj
 cases e' ks ay x.op x.n x.m x.pl x.args.length x.body.length x.other.length<;>cases fw ks ay x.args 1<;>cases ((x.op==4)||(x.op==5))<;>cases aG ks ay x.body (d+1)<;>cases decide (0<x.other.length)<;>cases aG ks ay x.other (d+1)<;>rfl
theorem L6 (ks:List cm) (ay:Int) (l:List cY) (d:Nat):(decide (6<(d:Int))||decide (10<(l.length:Int)))=true->aG ks ay l d=false:=by
 intro h;unfold aG
 have b:¬(d<=6/\l.length<=10):=by simp at h; omega
 by_cases a:d<=6
 · rw [decide_eq_false (by omega:¬l.length<=10)]; simp
 · rw [decide_eq_false a]; simp
theorem L7 {l:List cY} {d:Nat} (h:(decide (6<(d:Int))||decide (10<(l.length:Int)))=false):d<=6/\l.length<=10:=by simp at h; omega
theorem D7 (ks:List cm) (ay:Int) {l:List cY} {d:Nat} (h:d<=6/\l.length<=10):aG ks ay l d=l.all (jl ks ay · d):=by
 unfold aG; rw [decide_eq_true h.1,decide_eq_true h.2,zD]; rfl
theorem sC {α:Type} {f:α->Bool} {l:List α} {i:Nat} {x:α} (h:l[i]? = some x) (a:f x=false):l.all f=false:=by
 cases b:l.all f with
 | false=>rfl
 | true=>rw [List.all_eq_true.1 b x (List.mem_of_getElem? h)] at a; cases a
theorem sD {α:Type} {f:α->Bool} {l:List α} {i:Nat} {x:α} (h:l[i]? = some x) (a:(l.take i).all f=true) (b:f x=true):(l.take (i+1)).all f=true:=by
 rw [List.take_add_one,h,List.all_append,a];simp [b]
def jm (ks:List cm) (p:hk):Bool:=!(((decide (p.params<0)||decide (3<p.params))||decide (p.locals<0))||decide (4<p.locals))&&aG ks (p.params+p.locals) p.body 1
def nk (nm:List UInt8) (us:List (List UInt8)):Bool:=!(et (nm::us))&&us.all dU
def lr (u:bK):Bool:=(((!(dU u.nm)||decide (3<(u.ak.length:Int)))||decide (u.data<0))||decide (512<u.data))||decide (6<(u.parts.length:Int))
def gq (u:bK) (kn:List cm):Bool:=nk u.nm u.ak&&(!(lr u)&&(u.parts.all (jm (c7 u::kn))&&aG (c7 u::kn) 0 u.main 1))
def fg (l:List bK):List (List UInt8):=l.map (·.nm)
def n5 (l:List bK):Bool:=(List.range l.length).all λn=>((l[n]?.map (·.ak)).getD []).all λs=>((fg l).take n).contains s
def kq:List bK->Int->Bool
 | [],_=>true
 | u::r,room=>!(decide (u.data<0)||decide (room<u.data))&&kq r (room-u.data)
def fy (l:List bK) (u:bK):List cm:=u.ak.map λs=>match idxOf s (fg l) 0 with
 | some i=>(l[i]?.map c7).getD jL
 | none=>jL
def mz (l:List bK):Int:=
 if (decide ((l.length:Int)<1)||decide (4<(l.length:Int)))=true then 2 else if n5 l=false then 9 else if et (fg l)=true then 6
 else if kq l 512=false then 1 else if (l.all λu=>gq u (fy l u))=true then 0 else 1
end Go.Bw
end
section
namespace Go.Bw
open Go
def h0 (x y:List UInt8):Bool:=Op.bytesLess x y
theorem D8:∀x:List UInt8,h0 x x=false
 | []=>rfl
 | a::x=>by
   have h:=D8 x;unfold h0 at h ⊢;simp only [Op.bytesLess,h,Bool.and_false,Bool.or_false];simp
theorem zE (a b:UInt8) (x y:List UInt8):h0 (a::x) (b::y)=(decide (a<b)||((a==b)&&h0 x y)):=rfl
theorem D9:∀x y:List UInt8,x≠y->h0 x y=true\/h0 y x=true
 | [],[],h=>absurd rfl h
 | [],b::y,_=>.inl rfl
 | a::x,[],_=>.inr rfl
 | a::x,b::y,h=>by
   rw [zE,zE]
   by_cases e:a=b
   · subst e
     have:=D9 x y (λe=>h (by rw [e]))
     simpa using this
   · rcases Nat.lt_or_gt_of_ne (λd=>e (UInt8.toNat_inj.1 d)) with c | c
     · left; simp [UInt8.lt_iff_toNat_lt,c]
     · right; simp [UInt8.lt_iff_toNat_lt,c]
theorem zF:∀x y f:List UInt8,h0 x y=true->h0 y f=true->h0 x f=true
 | [],[],_,h,_=>by cases h
 | [],_::_,[],_,h=>by cases h
 | [],_::_,_::_,_,_=>rfl
 | _::_,[],_,h,_=>by cases h
 | _::_,_::_,[],_,h=>by cases h
 | a::x,b::y,c::f,e,d=>by
   rw [zE] at e d ⊢;simp only [Bool.or_eq_true,Bool.and_eq_true,decide_eq_true_eq,beq_iff_eq,UInt8.lt_iff_toNat_lt] at e d ⊢
   rcases e with e | ⟨rfl,e⟩
   · rcases d with d | ⟨rfl,d⟩
     · exact .inl (by omega)
     · exact .inl e
   · rcases d with d | ⟨rfl,d⟩
     · exact .inl d
     · exact .inr ⟨O,zF x y f e d⟩
theorem L8 {x y:List UInt8} (h:h0 x y=true):h0 y x=false:=by
 rw [Bool.eq_false_iff];intro a;have:=zF x y x h a;rw [D8] at this; cases this
def fL (l:List aZ):List (List UInt8):=l.map (·.nm)
def hn (l:List aZ) (s:List UInt8):Option Nat:=idxOf s (fL l) 0
def aM (l:List aZ) (i:Nat):List UInt8:=(l[i]?.map (·.nm)).getD []
def bO (l:List aZ) (i:Nat):List (List UInt8):=(l[i]?.map (·.ak)).getD []
def ud (l:List aZ):Bool:=l.all λm=>m.ak.all λs=>(hn l s).isSome
def ho (l:List aZ):Int:=if 4<l.length then 2 else er (aD fH l) (if et (fL l)=true then 6 else if ud l=true then 0 else 5)
structure sE (l:List aZ):Prop where
 d':l.length<=4
 o_:∀m ∈ l,fH m=0
 nd:(fL l).Nodup
 ak:∀m ∈ l,∀s ∈ m.ak,∃j,hn l s=some j
theorem l1 {α:Type} {f:α->Int}:∀{l:List α},aD f l=0↔∀x ∈ l,f x=0
 | []=>by simp [aD]
 | x::l=>by rw [aD,iY,l1 (l:=l)]; simp
theorem D' {l:List aZ}:ho l=0↔sE l:=by
 unfold ho
 constructor
 · intro h
   split at h
   · cases h
   · rename_i k
     obtain ⟨d,a⟩:=iY.1 h
     split at a
     · cases a
     · rename_i e
       split at a
       · rename_i f
         refine ⟨by omega,l1.1 d,hF.2 (by simpa using e),λm b s c=>?_⟩;have:=List.all_eq_true.1 (List.all_eq_true.1 f m b) s c
         cases g:hn l s with
         | none=>rw [g] at this; cases this
         | some j=>exact ⟨j,rfl⟩
       · cases a
 · intro h
   rw [if_neg (by have:=h.d'; omega),l1.2 h.o_,jK,if_neg (by rw [hF.1 h.nd]; decide),if_pos];refine List.all_eq_true.2 λm b=>List.all_eq_true.2 λs c=>?_;obtain ⟨j,i⟩:=h.ak m b s c;rw [i]; rfl
theorem D_ {l:List aZ} {s:List UInt8} {j:Nat} (h:hn l s=some j):j<l.length/\aM l j=s:=by
 have a:=(qc h).2;rw [Nat.sub_zero] at a;unfold fL at a;rw [List.getElem?_map] at a;obtain ⟨m,b,e⟩:=Option.map_eq_some_iff.1 a;exact ⟨(List.getElem?_eq_some_iff.1 b).1,by rw [aM,b]; exact e⟩
theorem n6 {l:List aZ} {i:Nat} {m:aZ} (h:l[i]? = some m):aM l i=m.nm:=by rw [aM,h]; rfl
theorem od {l:List aZ} {i:Nat} {m:aZ} (h:l[i]? = some m):bO l i=m.ak:=by rw [bO,h]; rfl
theorem sF {l:List aZ} {i:Nat} {m:aZ} (h:l[i]? = some m):(fL l)[i]? = some m.nm:=by unfold fL; rw [List.getElem?_map,h]; rfl
theorem qd (l:List aZ):(fL l).length=l.length:=by simp [fL]
theorem ia {l:List aZ} (b:(fL l).Nodup) {i j:Nat} (hi:i<l.length) (a:j<l.length) (h:aM l i=aM l j):i=j:=by
 have e:(fL l)[i]? = (fL l)[j]?:=by
   rw [sF (List.getElem?_eq_getElem hi),sF (List.getElem?_eq_getElem a),<-n6 (List.getElem?_eq_getElem hi),<-n6 (List.getElem?_eq_getElem a),h]
 exact (List.getElem?_inj (by rw [qd]; exact hi) b).1 e
theorem L9 {l:List aZ} (b:(fL l).Nodup) {i:Nat} (hi:i<l.length):hn l (aM l i)=some i:=by
 cases a:hn l (aM l i) with
 | none=>
   refine absurd ?_ (n4.1 a);rw [n6 (List.getElem?_eq_getElem hi)];exact List.mem_of_getElem? (sF (List.getElem?_eq_getElem hi))
 | some j=>
   obtain ⟨c,d⟩:=D_ a;rw [ia b c hi d]
def i' (l:List aZ) (d:List Nat) (s:List UInt8):Bool:=match hn l s with | some j=>d.contains j | none=>false
def kr (l:List aZ) (d:List Nat) (i:Nat):Bool:=!d.contains i&&(bO l i).all (i' l d)
structure sG (l:List aZ) (d:List Nat) (b:Nat):Prop where
 lt:b<l.length
 ready:kr l d b=true
 least:∀i,i<l.length->kr l d i=true->i=b\/h0 (aM l b) (aM l i)=true
inductive jn (l:List aZ):List Nat->Prop where
 | nil:jn l []
 | snoc {d:List Nat} {b:Nat}:jn l d->sG l d b->jn l (d++[b])
def zG (l:List aZ) (d:List Nat):Prop:=∀i,i<l.length->kr l d i=false
theorem Ho {l:List aZ} {d:List Nat} {a b:Nat} (e:sG l d a) (f:sG l d b):a=b:=by
 rcases e.least b f.lt f.ready with h | h
 · exact h.symm
 · rcases f.least a e.lt e.ready with c | c
   · exact c
   · rw [L8 h] at c; cases c
theorem zH {l:List aZ} {d:List Nat} {b:Nat} (h:jn l (d++[b])):jn l d/\sG l d b:=by
 generalize c:d++[b]=e at h
 cases h with
 | nil=>simp at c
 | snoc f g=>
   obtain ⟨rfl,a⟩:=List.append_inj' c rfl
   injection a with a
   subst a;exact ⟨f,g⟩
theorem L_ {l:List aZ}:∀{d:List Nat},jn l d->∀k,jn l (d.take k):=by
 intro d h
 induction h with
 | nil=>intro k; simp; exact .nil
 | @snoc d b c e f=>
   intro k
   rcases Nat.lt_or_ge d.length k with a | a
   · rw [List.take_of_length_le (by simp; omega)]; exact .snoc c e
   · rw [List.take_append_of_le_length a]; exact f k
theorem zI {l:List aZ}:∀{n:Nat} {d e:List Nat},d.length=n->e.length=n->jn l d->jn l e->d=e
 | 0,d,e,c,f,_,_=>by rw [List.eq_nil_of_length_eq_zero c,List.eq_nil_of_length_eq_zero f]
 | n+1,d,e,c,f,i,he=>by
   obtain ⟨g,a,rfl⟩:∃g a,d=g++[a]:=⟨d.dropLast,d.getLast (by intro h; rw [h] at c; cases c),(List.dropLast_concat_getLast _).symm⟩;obtain ⟨p,b,rfl⟩:∃g a,e=g++[a]:=⟨e.dropLast,e.getLast (by intro h; rw [h] at f; cases f),(List.dropLast_concat_getLast _).symm⟩;obtain ⟨j,k⟩:=zH i;obtain ⟨m,o⟩:=zH he;have:=zI (n:=n) (by simpa using c) (by simpa using f) j m;subst this;rw [Ho k o]
theorem zJ {l:List aZ} {d e:List Nat} (c:jn l d) (f:zG l d) (g:jn l e):e.length<=d.length:=by
 rcases Nat.lt_or_ge d.length e.length with h | h
 · have b:=L_ g (d.length+1)
   have i:e.take (d.length+1)=e.take d.length++[e[d.length]]:=by rw [List.take_add_one,List.getElem?_eq_getElem h]; rfl
   rw [i] at b;obtain ⟨j,a⟩:=zH b;have k:=zI (n:=d.length) rfl (by simp; omega) c j;rw [<-k] at a;have:=a.ready;rw [f _ a.lt] at this; cases this
 · exact h
def zK (l:List aZ) (d:List Nat):Prop:=jn l d/\(d.length=l.length\/zG l d)
theorem n7 {l:List aZ} {d:List Nat} (h:jn l d):(∀i ∈ d,i<l.length)/\d.Nodup:=by
 induction h with
 | nil=>simp
 | @snoc d b k c f=>
   refine ⟨λi hi=>?_,?_⟩
   · rcases List.mem_append.1 hi with hi | hi
     · exact f.1 i hi
     · rw [List.mem_singleton] at hi; subst hi; exact c.lt
   · rw [List.nodup_append]
     refine ⟨f.2,by simp,λa j m g=>?_⟩;rw [List.mem_singleton] at g; subst g;intro e; subst e;have:=c.ready;simp [kr,j] at this
theorem ue:∀{n:Nat} {d:List Nat},d.Nodup->(∀i ∈ d,i<n)->d.length<=n
 | 0,[],_,_=>Nat.le_refl _
 | 0,x::_,_,h=>absurd (h x (by simp)) (by omega)
 | n+1,d,a,f=>by
   have b:(d.erase n).length<=n:=ue (a.erase n) λi hi=>by
     have c:=(a.mem_erase_iff).1 hi;have:=f i c.2;have:=c.1;omega
   by_cases e:n ∈ d
   · rw [List.length_erase_of_mem e] at b; omega
   · rw [List.erase_of_not_mem e] at b; omega
theorem Ma {l:List aZ} {d e:List Nat} (b:zK l d) (a:zK l e):d=e:=by
 have g:=ue (n7 b.1).2 (n7 b.1).1;have le:=ue (n7 a.1).2 (n7 a.1).1
 have h:d.length=e.length:=by
   rcases b.2 with f | f
   · rcases a.2 with c | c
     · omega
     · have:=zJ a.1 c b.1; omega
   · have i:=zJ b.1 f a.1
     rcases a.2 with c | c
     · omega
     · have:=zJ a.1 c b.1; omega
 exact zI (n:=d.length) O h.symm b.1 a.1
def uf (l:List aZ) (d:List Nat):List Nat×Int:=if d.length=l.length then (d,0) else ([],9)
def qe (l:List aZ) (s:List UInt8):List (List UInt8):=match hn l s with | some i=>bO l i | none=>[]
inductive Reach (l:List aZ) (a:List UInt8):List UInt8->Prop where
 | base {s:List UInt8}:s ∈ qe l a->Reach l a s
 | step {b s:List UInt8}:Reach l a b->s ∈ qe l b->Reach l a s
structure zL (l:List aZ) (a:List UInt8) (S:List UInt8->Prop):Prop where
 base:∀s ∈ qe l a,S s
 step:∀b,S b->∀s ∈ qe l b,S s
 sound:∀s,S s->Reach l a s
theorem zL.iff {l:List aZ} {a:List UInt8} {S:List UInt8->Prop} (h:zL l a S) (s:List UInt8):S s↔Reach l a s:=
 ⟨h.sound s,λc=>by
   induction c with
   | base b=>exact h.base _ b
   | step _ b d=>exact h.step _ d _ b⟩
def fR (l:List (List UInt8)) (s:Nat):List (c8 (List UInt8)):=match l with
 | []=>[]
 | x::r=>(x,.int .i64 (s:Int),s)::fR r (s+1)
theorem zM:∀(l:List (List UInt8)) (s:Nat),(fR l s).length=l.length
 | [],_=>rfl
 | x::r,s=>by rw [fR,List.length_cons,zM r,List.length_cons]
theorem zN:∀(l:List (List UInt8)) (x:List UInt8) (s:Nat),fR (l++[x]) s=fR l s++[(x,.int .i64 ((s+l.length:Nat):Int),s+l.length)]
 | [],x,s=>rfl
 | y::r,x,s=>by
   rw [List.cons_append,fR,zN r x,fR,List.cons_append,List.length_cons,show s+1+r.length=s+(r.length+1) by omega]
theorem wT (nm:List UInt8):∀(l:List (List UInt8)) (s i:Nat),(cw nm (fR l s) i).map (·.2)=(idxOf nm l s).map λk=>.int .i64 (k:Int)
 | [],_,_=>rfl
 | x::r,s,i=>by
   rw [fR,cw,idxOf]
   by_cases h:x=nm
   · simp [h]
   · rw [if_neg (by simpa using λe=>h e.symm),if_neg h]
     exact wT nm r (s+1) (i+1)
theorem ug (nm:List UInt8) (l:List (List UInt8)):eD nm (fR l 0) (.int .i64 0) = .int .i64 (((idxOf nm l 0).getD 0:Nat):Int)/\lS nm (fR l 0)=(idxOf nm l 0).isSome:=by
 have h:=wT nm l 0 0;unfold eD lS
 cases a:cw nm (fR l 0) 0 with
 | none=>rw [a] at h; cases hi:idxOf nm l 0 with | none=>exact ⟨rfl,rfl⟩ | some x=>rw [hi] at h; cases h
 | some r=>rw [a] at h; cases hi:idxOf nm l 0 with
   | none=>rw [hi] at h; cases h
   | some x=>rw [hi] at h; simp at h; exact ⟨by simp [h],rfl⟩
theorem zO {κ:Type} [BEq κ] (k:κ) (v:Value) (m:List (c8 κ)) (c:Nat):(dZ k v m c).length<=m.length+1:=by
 unfold dZ
 split<;>simp
def zP (ns:List (List UInt8)) (i:Nat) (M:List (c8 (List UInt8))) (c:Nat):Prop:=((ns.take i).Nodup/\M=fR (ns.take i) 0/\c=i)\/(¬(ns.take i).Nodup/\M.length<i)
theorem Mb {ns:List (List UInt8)} {i:Nat} {M:List (c8 (List UInt8))} {c:Nat} {x:List UInt8} (h:zP ns i M c) (n:ns[i]? = some x):zP ns (i+1) (dZ x (.int .i64 (i:Int)) M c) (gA x M c):=by
 have v:=(List.getElem?_eq_some_iff.1 n).1
 have o:(ns.take i).length=i:=by simp; omega
 have j:ns.take (i+1)=ns.take i++[x]:=by rw [List.take_add_one,n]; rfl
 rcases h with ⟨m,rfl,s⟩ | ⟨m,w⟩
 · have t:=s.symm
   subst t;have f:=wT x (ns.take i) 0 0
   by_cases l:x ∈ ns.take i
   · right
     refine ⟨λg=>?_,?_⟩
     · rw [j,List.nodup_append] at g
       exact g.2.2 x l x (by simp) O
     · have p:(cw x (fR (ns.take i) 0) 0).isSome=true:=by
         cases d:cw x (fR (ns.take i) 0) 0 with
         | some r=>rfl
         | none=>
           rw [d] at f
           have:idxOf x (ns.take i) 0=none:=by
             cases hi:idxOf x (ns.take i) 0 with
             | none=>rfl
             | some k=>rw [hi] at f; cases f
           exact absurd l (n4.1 this)
       unfold dZ
       cases d:cw x (fR (ns.take i) 0) 0 with
       | none=>rw [d] at p; cases p
       | some r=>simp [zM,o]
   · left
     have d:cw x (fR (ns.take i) 0) 0=none:=by
       rw [n4.2 l] at f
       simpa using f
     refine ⟨?_,?_,?_⟩
     · rw [j,List.nodup_append]
       exact ⟨m,by simp,λa u b q e=>by rw [List.mem_singleton] at q; subst q; subst e; exact l u⟩
     · unfold dZ
       rw [d,j,zN,o];simp
     · unfold gA
       rw [d]
 · right
   refine ⟨λg=>m ?_,?_⟩
   · rw [j,List.nodup_append] at g; exact g.1
   · have:=zO x (.int .i64 (i:Int)) M c
     omega
end Go.Bw
end
section
namespace Go.Bw
open Go
def nn (l:List aZ) (a b:Nat):Prop:=h0 (aM l a) (aM l b)=true
def lu {α:Type} (R:α->α->Prop) (d:List α) (i:Nat):Prop:=∀(x y:Nat) (a b:α),x<y->y<i->d[x]? = some a->d[y]? = some b->R a b
structure rp {α:Type} (R:α->α->Prop) (d0 d:List α) (i j:Nat):Prop where
 perm:d.Perm d0
 ji:j<=i
 il:i<d.length
 ord:∀(x y:Nat) (a b:α),x<y->y<=i->x≠j->y≠j->d[x]? = some a->d[y]? = some b->R a b
 up:∀(y:Nat) (a b:α),j<y->y<=i->d[j]? = some a->d[y]? = some b->R a b
theorem Mc {α:Type} {R:α->α->Prop} {d0 d:List α} {i:Nat} (c:d.Perm d0) (hi:i<d.length) (h:lu R d i):rp R d0 d i i:=
 ⟨c,Nat.le_refl _,hi,λx y a b e l f g j k=>h x y a b e (by omega) j k,λy a b f g=>by omega⟩
theorem Md {α:Type} {d:List α} {j:Nat} {a b:α} (f:d[j]? = some b) (g:d[j+1]? = some a):d=d.take j++b::a::d.drop (j+2)/\(d.set (j+1) b).set j a=d.take j++a::b::d.drop (j+2):=by
 obtain ⟨h,i⟩:=List.getElem?_eq_some_iff.1 f;obtain ⟨k,l⟩:=List.getElem?_eq_some_iff.1 g
 have e:d=d.take j++b::a::d.drop (j+2):=by
   conv=>lhs; rw [<-List.take_append_drop j d,List.drop_eq_getElem_cons h,i,List.drop_eq_getElem_cons k,l]
 refine ⟨e,?_⟩
 have c:(d.take j).length=j:=by simp; omega
 conv=>lhs; rw [e]
 rw [List.set_append_right _ _ (by omega),c,show j+1-j=1 by omega,List.set_append_right _ _ (by omega),c,Nat.sub_self]
 rfl
theorem Me {α:Type} {R:α->α->Prop} {d0 d:List α} {i j:Nat} {a b:α} (h:rp R d0 d i (j+1)) (p:d[j+1]? = some a) (l:d[j]? = some b) (r:R a b):rp R d0 ((d.set (j+1) b).set j a) i j:=by
 obtain ⟨s,t⟩:=Md l p;have A:=h.ji;have w:=h.il
 have g:∀x,((d.set (j+1) b).set j a)[x]? = if x=j then some a else if x=j+1 then some b else d[x]?:=by
   intro x;rw [List.getElem?_set,List.getElem?_set];simp only [List.length_set]
   by_cases f:x=j
   · subst f; rw [if_pos rfl,if_pos (by omega),if_pos rfl]
   · rw [if_neg (λe=>f e.symm),if_neg f]
     by_cases m:x=j+1
     · subst m; rw [if_pos rfl,if_pos (by omega),if_pos rfl]
     · rw [if_neg (λe=>m e.symm),if_neg m]
 refine ⟨?_,by omega,by simpa using w,?_,?_⟩
 · rw [t]
   refine List.Perm.trans ?_ h.perm
   conv=>rhs; rw [s]
   exact List.Perm.append_left _ (List.Perm.swap _ _ _)
 · intro x y u v z k q n c hv
   rw [g,if_neg q] at c;rw [g,if_neg n] at hv
   by_cases f:x=j+1
   · rw [if_pos f] at c
     injection c with c; subst c
     rw [if_neg (by omega)] at hv;exact h.ord j y b v (by omega) k (by omega) (by omega) l hv
   · rw [if_neg f] at c
     by_cases o:y=j+1
     · rw [if_pos o] at hv
       injection hv with hv; subst hv
       exact h.ord x j u b (by omega) (by omega) f (by omega) c l
     · rw [if_neg o] at hv
       exact h.ord x y u v z k f o c hv
 · intro y u v q n c hv
   rw [g,if_pos rfl] at c
   injection c with c; subst c
   rw [g,if_neg (by omega)] at hv
   by_cases k:y=j+1
   · rw [if_pos k] at hv
     injection hv with hv; subst hv
     exact r
   · rw [if_neg k] at hv
     exact h.up y a v (by omega) n p hv
theorem Mf {α:Type} {R:α->α->Prop} {d0 d:List α} {i:Nat} (h:rp R d0 d i 0):lu R d (i+1):=by
 intro x y a b c j e f
 by_cases g:x=0
 · subst g; exact h.up y a b c (by omega) e f
 · exact h.ord x y a b c (by omega) g (by omega) e f
theorem Mg {α:Type} {R:α->α->Prop} (n:∀a b c,R a b->R b c->R a c) {d0 d:List α} {i j:Nat} {a b:α} (h:rp R d0 d i (j+1)) (o:d[j+1]? = some a) (g:d[j]? = some b) (k:R b a):lu R d (i+1):=by
 intro x y u v l q e hv
 by_cases f:x=j+1
 · subst f; exact h.up y u v l (by omega) e hv
 · by_cases m:y=j+1
   · subst m
     rw [o] at hv; injection hv with hv; subst hv
     by_cases p:x=j
     · subst p; rw [g] at e; injection e with e; subst e; exact k
     · exact n u b a (h.ord x j u b (by omega) (by have:=h.ji; omega) f (by omega) e g) k
   · exact h.ord x y u v l (by omega) f m e hv
def np (a b:List UInt8):Int:=if h0 a b=true then -1 else if (!(h0 a b||a==b))=true then 1 else 0
theorem Ec {a b:List UInt8}:np a b<0↔h0 a b=true:=by
 unfold np
 by_cases h:h0 a b=true
 · simp [h]
 · rw [if_neg h]
   constructor
   · intro c; split at c<;>omega
   · intro c; exact absurd c h
def jN (d:List Nat) (s:Nat):List (c8 Int):=match d with
 | []=>[]
 | i::r=>((i:Int),.int .i64 1,s)::jN r (s+1)
theorem oe:∀(d:List Nat) (i s:Nat),jN (d++[i]) s=jN d s++[((i:Int),.int .i64 1,s+d.length)]
 | [],i,s=>rfl
 | y::r,i,s=>by
   rw [List.cons_append,jN,oe r i,jN,List.cons_append,List.length_cons,show s+1+r.length=s+(r.length+1) by omega]
theorem zR (i:Nat):∀(d:List Nat) (s k:Nat),(cw (i:Int) (jN d s) k).map (·.2)=if d.contains i=true then some (.int .i64 1) else none
 | [],_,_=>rfl
 | x::r,s,k=>by
   rw [jN,cw]
   by_cases h:i=x
   · subst h; simp
   · rw [if_neg (by simpa using λe:(i:Int)=(x:Int)=>h (by omega)),zR i r (s+1) (k+1)]
     simp [h]
theorem zS (i:Nat) (d:List Nat):eD (i:Int) (jN d 0) (.int .i64 0) = .int .i64 (if d.contains i=true then 1 else 0):=by
 have h:=zR i d 0 0;unfold eD
 cases a:cw (i:Int) (jN d 0) 0 with
 | none=>rw [a] at h; split at h<;>simp_all
 | some r=>rw [a] at h; split at h<;>simp_all
theorem Ee {i:Nat} {d:List Nat} (h:d.contains i=false):dZ (i:Int) (.int .i64 1) (jN d 0) d.length=jN (d++[i]) 0/\gA (i:Int) (jN d 0) d.length=(d++[i]).length:=by
 have a:=zR i d 0 0;rw [h,if_neg (by decide)] at a
 have a:cw (i:Int) (jN d 0) 0=none:=by simpa using a
 unfold dZ gA;rw [a,oe];simp
theorem Mh {l:List aZ} {d out:List Nat} {k b:Nat} (f:d.Perm (List.range l.length)) (j:lu (nn l) d d.length) (e:d[k]? = some b) (m:kr l out b=true) (n:∀x c,x<k->d[x]? = some c->kr l out c=false):sG l out b:=by
 refine ⟨by simpa using f.subset (List.mem_of_getElem? e),m,λi hi g=>?_⟩;have o:i ∈ d:=f.symm.subset (by simpa using hi);obtain ⟨y,a⟩:=List.getElem?_of_mem o;have p:=(List.getElem?_eq_some_iff.1 a).1
 rcases Nat.lt_trichotomy y k with h | h | h
 · rw [n y i h a] at g; cases g
 · subst h; rw [e] at a; injection a with a; exact .inl a.symm
 · exact .inr (j k y b i h p e a)
theorem Mi {l:List aZ} {d out:List Nat} (a:d.Perm (List.range l.length)) (b:∀x c:Nat,d[x]? = some c->kr l out c=false):zG l out:=λi hi=>by
 have e:i ∈ d:=a.symm.subset (by simpa using hi);obtain ⟨y,f⟩:=List.getElem?_of_mem e;exact b y i f
end Go.Bw
end
section
namespace Go.Bw
open Go Go.RowKit Go.Maps Go.Sort
open Go.WideElems (Fit rd rg pl rd_val rd_mk rg_of)
structure VW (M:List (c8 (List UInt8))) (c:Nat):Prop where
 nd:(M.map (·.1)).Nodup
 len:∀e ∈ M,e.1.length<=maxLen
 size:M.length<=maxLen
 born:M.map (·.2.2)=List.range M.length
 clock:c=M.length
end Go.Bw
end
section
namespace Go.Bw
open Go
section
variable {κ:Type} [BEq κ] [LawfulBEq κ]
theorem wU (k:κ):∀(m:List (c8 κ)) (i j:Nat) (v:Value),cw k m i=some (j,v)->i<=j/\∃b,m[j-i]? = some (k,v,b)
 | [],i,j,v,h=>by simp [cw] at h
 | e::r,i,j,v,h=>by
   simp only [cw] at h
   split at h
   · rename_i d
     have f:e.1=k:=(eq_of_beq d).symm
     injection h with h
     injection h with c a
     subst c a;exact ⟨Nat.le_refl _,e.2.2,by rw [Nat.sub_self,List.getElem?_cons_zero,<-f]⟩
   · obtain ⟨c,b,a⟩:=wU k r (i+1) j v h
     refine ⟨by omega,b,?_⟩;rw [show j-i=(j-(i+1))+1 by omega,List.getElem?_cons_succ];exact a
theorem Ef (k:κ):∀(m:List (c8 κ)) (i:Nat),cw k m i=none↔k ∉ m.map (·.1)
 | [],i=>by simp [cw]
 | e::r,i=>by
   simp only [cw,List.map_cons,List.mem_cons,not_or]
   split
   · rename_i a
     have b:e.1=k:=(eq_of_beq a).symm;exact ⟨λh=>(by cases h),λh=>absurd b.symm h.1⟩
   · rename_i a
     have b:¬k=e.1:=λc=>a (by simp [c]);rw [Ef k r (i+1)];exact ⟨λh=>⟨b,h⟩,λh=>h.2⟩
theorem Mj (k:κ) (v:Value) (m:List (c8 κ)) (c:Nat):((k ∈ m.map (·.1))/\(dZ k v m c).map (·.1)=m.map (·.1)/\(dZ k v m c).map (·.2.2)=m.map (·.2.2)/\gA k m c=c)\/
   (k ∉ m.map (·.1)/\dZ k v m c=m++[(k,v,c)]/\gA k m c=c+1):=by
 unfold dZ gA
 cases d:cw k m 0 with
 | none=>exact .inr ⟨(Ef k m 0).1 d,rfl,rfl⟩
 | some r=>
   obtain ⟨j,u⟩:=r;obtain ⟨_,b,a⟩:=wU k m 0 j u d;rw [Nat.sub_zero] at a;refine .inl ⟨List.mem_map.2 ⟨_,List.mem_of_getElem? a,O⟩,?_,?_,O⟩
   all_goals
     apply List.ext_getElem?;intro i;simp only [List.getElem?_map,List.getElem?_modify]
     by_cases e:j=i
     · subst e; rw [a]; simp
     · simp [e]
theorem rq (k:κ) (v:Value) (m:List (c8 κ)) (c:Nat) (g:Value):eD k (dZ k v m c) g=v:=by
 have key:∃e,cw k (dZ k v m c) 0=some (e,v):=by
   unfold dZ
   cases f:cw k m 0 with
   | none=>
     have a:∀(m:List (c8 κ)) (i:Nat),cw k m i=none->cw k (m++[(k,v,c)]) i=some (i+m.length,v):=by
       intro m
       induction m with
       | nil=>intro i _; simp [cw]
       | cons e r d=>
         intro i h;simp only [cw,List.cons_append] at h ⊢
         split at h
         · cases h
         · rename_i b
           rw [if_neg b,d _ h,List.length_cons]
           congr 2
           omega
     exact ⟨_,a m 0 f⟩
   | some r=>
     obtain ⟨j,u⟩:=r
     have a:∀(m:List (c8 κ)) (i:Nat),cw k m i=some (j,u)->cw k (m.modify (j-i) λe=>(k,v,e.2.2)) i=some (j,v):=by
       intro m
       induction m with
       | nil=>intro i h; simp [cw] at h
       | cons e r d=>
         intro i h;simp only [cw] at h
         split at h
         · injection h with h
           injection h with a l
           subst a;rw [Nat.sub_self];simp [cw]
         · rename_i b
           have n:=(wU k r (i+1) j u h).1;rw [show j-i=(j-(i+1))+1 by omega,List.modify_succ_cons,cw,if_neg b];exact d _ h
     exact ⟨_,a m 0 f⟩
 obtain ⟨e,b⟩:=key;unfold eD;rw [b]
end
structure zT (M:List (c8 (List UInt8))) (c p:Nat):Prop where
 nd:(M.map (·.1)).Nodup
 born:M.map (·.2.2)=List.range M.length
 clock:c=M.length
 kV:∀x v,eD x M (.int .i64 0)=v->∃n:Nat,n<=p/\v = .int .i64 (n:Int)/\(n=0↔x ∉ M.map (·.1))
theorem uh {κ:Type} [BEq κ] [LawfulBEq κ] {k a:κ} (v:Value) (m:List (c8 κ)) (c:Nat) (n:Value) (h:a≠k):eD a (dZ k v m c) n=eD a m n:=by
 have p:∀(m:List (c8 κ)) (i:Nat),(cw a (m++[(k,v,c)]) i).map (·.2)=(cw a m i).map (·.2):=by
   intro m
   induction m with
   | nil=>intro i; simp [cw,h]
   | cons e r l=>intro i; simp only [cw,List.cons_append]; split<;>simp [l]
 have s:∀(m:List (c8 κ)) (i j:Nat),(m[j]?.map (·.1)=some k)->(cw a (m.modify j λe=>(k,v,e.2.2)) i).map (·.2)=(cw a m i).map (·.2):=by
   intro m
   induction m with
   | nil=>intro i j g; simp at g
   | cons e r l=>
     intro i j g
     cases j with
     | zero=>
       have t:e.1=k:=by simpa using g
       have w:¬(a==e.1)=true:=by rw [t]; simpa using h
       have x:¬(a==k)=true:=by simpa using h
       rw [List.modify_zero_cons,cw,cw,if_neg w,if_neg (show ¬(a==(k,v,e.2.2).1)=true from x)]
     | succ j=>
       rw [List.modify_succ_cons,cw,cw]
       split
       · rfl
       · exact l _ _ (by simpa using g)
 have d:(cw a (dZ k v m c) 0).map (·.2)=(cw a m 0).map (·.2):=by
   unfold dZ
   cases y:cw k m 0 with
   | none=>exact p m 0
   | some r=>
     obtain ⟨j,u⟩:=r;obtain ⟨_,b,f⟩:=wU k m 0 j u y;rw [Nat.sub_zero] at f;exact s m 0 j (by rw [f]; rfl)
 unfold eD
 cases o:cw a (dZ k v m c) 0 with
 | none=>rw [o] at d; cases f:cw a m 0 with | none=>rfl | some r=>rw [f] at d; cases d
 | some q=>rw [o] at d; cases f:cw a m 0 with
   | none=>rw [f] at d; cases d
   | some r=>rw [f] at d; simp at d; simp [d]
theorem zT.put {M:List (c8 (List UInt8))} {c p n:Nat} {x:List UInt8} (h:zT M c p) (w:n<=p) (j:n=0↔x ∉ M.map (·.1)) :
   zT (dZ x (.int .i64 ((n+1:Nat):Int)) M c) (gA x M c) (p+1)/\(dZ x (.int .i64 ((n+1:Nat):Int)) M c).map (·.1)=(if n=0 then M.map (·.1)++[x] else M.map (·.1)):=by
 have i:∀y v,eD y (dZ x (.int .i64 ((n+1:Nat):Int)) M c) (.int .i64 0)=v->∃k:Nat,k<=p+1/\v = .int .i64 (k:Int)/\(k=0↔y ∉ (if n=0 then M.map (·.1)++[x] else M.map (·.1))):=by
   intro y v hv
   by_cases l:y=x
   · subst l
     rw [rq] at hv;refine ⟨n+1,by omega,hv.symm,?_⟩
     split
     · simp
     · rename_i m
       exact ⟨λh=>by omega,λd=>absurd (j.2 d) m⟩
   · rw [uh _ _ _ _ l] at hv
     obtain ⟨k,f,d,g⟩:=h.kV y v hv;refine ⟨k,by omega,d,g.trans ?_⟩
     split
     · simp [l]
     · rfl
 rcases Mj x (.int .i64 ((n+1:Nat):Int)) M c with ⟨f,d,g,s⟩ | ⟨f,d,g⟩
 · have m:¬n=0:=λe=>j.1 e f
   rw [if_neg m] at i ⊢
   have q:(dZ x (.int .i64 ((n+1:Nat):Int)) M c).length=M.length:=by have:=congrArg List.length d; simpa using this
   exact ⟨⟨by rw [d]; exact h.nd,by rw [g,q]; exact h.born,by rw [s,q]; exact h.clock,λy v hv=>by rw [d]; exact i y v hv⟩,d⟩
 · have t:n=0:=j.2 f
   rw [if_pos t] at i ⊢
   have o:(dZ x (.int .i64 ((n+1:Nat):Int)) M c).map (·.1)=M.map (·.1)++[x]:=by rw [d]; simp
   refine ⟨⟨?_,?_,?_,λy v hv=>by rw [o]; exact i y v hv⟩,o⟩
   · rw [o,List.nodup_append]
     exact ⟨h.nd,by simp,λa u b r e=>by rw [List.mem_singleton] at r; subst r; subst e; exact f u⟩
   · rw [d,List.map_append,h.born,List.length_append,List.length_singleton,List.range_succ,h.clock]; rfl
   · rw [g,d,h.clock]; simp
structure qf (l:List aZ) (nm:List UInt8) (ds nx:List (List UInt8)):Prop where
 base:∀s ∈ qe l nm,s ∈ ds\/s ∈ nx
 step:∀b ∈ ds,∀s ∈ qe l b,s ∈ ds\/s ∈ nx
 sound:∀s,s ∈ ds\/s ∈ nx->Reach l nm s
theorem qf.old {l:List aZ} {nm x:List UInt8} {ds r:List (List UInt8)} (h:qf l nm ds (x::r)) (c:x ∈ ds):qf l nm ds r:=by
 have key:∀s,s ∈ ds\/s ∈ x::r->s ∈ ds\/s ∈ r:=λs a=>by
   rcases a with a | a
   · exact .inl a
   · rcases List.mem_cons.1 a with e | a
     · subst e; exact .inl c
     · exact .inr a
 exact ⟨λs a=>key s (h.base s a),λb d s a=>key s (h.step b d s a),λs a=>h.sound s (a.imp id (List.mem_cons_of_mem _))⟩
theorem qf.new {l:List aZ} {nm x:List UInt8} {ds r:List (List UInt8)} (h:qf l nm ds (x::r)):qf l nm (ds++[x]) (r++qe l x):=by
 have key:∀s,s ∈ ds\/s ∈ x::r->s ∈ ds++[x]\/s ∈ r++qe l x:=λs a=>by
   rcases a with a | a
   · exact .inl (List.mem_append_left _ a)
   · rcases List.mem_cons.1 a with e | a
     · subst e; exact .inl (by simp)
     · exact .inr (List.mem_append_left _ a)
 refine ⟨λs a=>key s (h.base s a),λb c s a=>?_,λs a=>?_⟩
 · rcases List.mem_append.1 c with c | c
   · exact key s (h.step b c s a)
   · rw [List.mem_singleton] at c; subst c
     exact .inr (List.mem_append_right _ a)
 · rcases a with a | a
   · rcases List.mem_append.1 a with a | a
     · exact h.sound s (.inl a)
     · rw [List.mem_singleton] at a; subst a
       exact h.sound _ (.inr (by simp))
   · rcases List.mem_append.1 a with a | a
     · exact h.sound s (.inr (List.mem_cons_of_mem _ a))
     · exact .step (h.sound x (.inr (by simp))) a
theorem qf.fin {l:List aZ} {nm:List UInt8} {ds:List (List UInt8)} (h:qf l nm ds []) (s:List UInt8):s ∈ ds↔Reach l nm s:=
 zL.iff (S:=λs=>s ∈ ds) ⟨λs a=>(h.base s a).resolve_right (by simp),λb c s a=>(h.step b c s a).resolve_right (by simp),λs a=>h.sound s (.inl a)⟩ s
end Go.Bw
end
section
namespace Go.Bw
open Go
def kW (l:List (List UInt8)) (s:Nat):List (c8 (List UInt8)):=match l with
 | []=>[]
 | x::r=>(x,.int .i64 1,s)::kW r (s+1)
theorem Eg:∀(l:List (List UInt8)) (x:List UInt8) (s:Nat),kW (l++[x]) s=kW l s++[(x,.int .i64 1,s+l.length)]
 | [],x,s=>rfl
 | y::r,x,s=>by
   rw [List.cons_append,kW,Eg r x,kW,List.cons_append,List.length_cons,show s+1+r.length=s+(r.length+1) by omega]
theorem zV (nm:List UInt8):∀(l:List (List UInt8)) (s i:Nat),(cw nm (kW l s) i).map (·.2)=if l.contains nm=true then some (.int .i64 1) else none
 | [],_,_=>rfl
 | x::r,s,i=>by
   rw [kW,cw]
   by_cases h:x=nm
   · subst h; simp
   · rw [if_neg (by simpa using λe=>h e.symm),zV nm r (s+1) (i+1)]
     have a:¬nm=x:=λe=>h e.symm;simp [a]
theorem Mk (nm:List UInt8) (l:List (List UInt8)):eD nm (kW l 0) (.int .i64 0) = .int .i64 (if l.contains nm=true then 1 else 0):=by
 have h:=zV nm l 0 0;unfold eD
 cases a:cw nm (kW l 0) 0 with
 | none=>rw [a] at h; split at h<;>simp_all
 | some r=>rw [a] at h; split at h<;>simp_all
theorem Eh {x:List UInt8} {l:List (List UInt8)} (h:l.contains x=false):dZ x (.int .i64 1) (kW l 0) l.length=kW (l++[x]) 0/\gA x (kW l 0) l.length=(l++[x]).length:=by
 have a:=zV x l 0 0;rw [if_neg (by rw [h]; decide)] at a
 have b:cw x (kW l 0) 0=none:=by cases c:cw x (kW l 0) 0 with | none=>rfl | some r=>rw [c] at a; cases a
 unfold dZ gA;rw [b,Eg];simp
structure b7 (ns:List (List UInt8)) (i:Nat) (M:List (c8 (List UInt8))) (c:Nat):Prop where
 mem:∀s,∃v:Nat,eD s M (.int .i64 0) = .int .i64 (v:Int)/\(v=0↔s ∉ ns.take i)
 ep:((ns.take i).Nodup/\M=fQ (ns.take i) 0/\c=i)\/(¬(ns.take i).Nodup/\M.length<i)
theorem Ml (ns:List (List UInt8)):b7 ns 0 [] 0:=⟨λs=>⟨0,rfl,by simp⟩,.inl ⟨by simp,rfl,rfl⟩⟩
theorem b7.old {ns:List (List UInt8)} {i c:Nat} {M:List (c8 (List UInt8))} {x:List UInt8} (h:b7 ns i M c) (d:ns[i]? = some x) (e:x ∈ ns.take i):b7 ns (i+1) M c:=by
 have f:ns.take (i+1)=ns.take i++[x]:=by rw [List.take_add_one,d]; rfl
 refine ⟨λs=>?_,.inr ⟨λg=>?_,?_⟩⟩
 · obtain ⟨v,j,k⟩:=h.mem s
   refine ⟨v,j,k.trans ?_⟩;rw [f,List.mem_append,List.mem_singleton]
   constructor
   · rintro a (b | b)
     · exact a b
     · subst b; exact a e
   · exact λa b=>a (.inl b)
 · rw [f,List.nodup_append] at g
   exact g.2.2 x e x (by simp) O
 · have l:=(List.getElem?_eq_some_iff.1 d).1
   rcases h.ep with ⟨_,rfl,_⟩ | ⟨_,a⟩
   · rw [zx]; simp; omega
   · omega
theorem b7.new {ns:List (List UInt8)} {i c:Nat} {M:List (c8 (List UInt8))} {x:List UInt8} (h:b7 ns i M c) (j:ns[i]? = some x) (k:x ∉ ns.take i):b7 ns (i+1) (dZ x (.int .i64 ((i+1:Nat):Int)) M c) (gA x M c):=by
 have d:ns.take (i+1)=ns.take i++[x]:=by rw [List.take_add_one,j]; rfl
 have r:=(List.getElem?_eq_some_iff.1 j).1
 have o:(ns.take i).length=i:=by simp; omega
 refine ⟨λs=>?_,?_⟩
 · by_cases e:s=x
   · subst e
     exact ⟨i+1,rq s _ M c _,by rw [d]; simp⟩
   · obtain ⟨v,f,p⟩:=h.mem s
     refine ⟨v,by rw [uh _ M c _ e]; exact f,p.trans ?_⟩;rw [d]; simp [e]
 · rcases h.ep with ⟨f,rfl,rfl⟩ | ⟨f,t⟩
   · left
     have g:=D4 (l:=ns.take c) (x:=x) k;rw [o] at g;refine ⟨?_,by rw [g.1,d],by rw [g.2]; simp; omega⟩;rw [d,List.nodup_append];refine ⟨f,by simp,λa q b m e=>?_⟩;rw [List.mem_singleton] at m; subst m; subst e; exact k q
   · right
     refine ⟨λn=>f ?_,?_⟩
     · rw [d,List.nodup_append] at n; exact n.1
     · have:=zO x (.int .i64 ((i+1:Nat):Int)) M c
       omega
theorem Mm {nm s:List UInt8} {us:List (List UInt8)} {i:Nat} (h:us[i]? = some s) (a:(nm::us.take i).contains s=true\/dU s=false):nk nm us=false:=by
 unfold nk
 rcases a with a | a
 · have c:et (nm::us)=true:=by
     have b:¬(nm::us).Nodup:=λb=>by
       have e:nm::us=(nm::us.take i)++us.drop i:=by simp
       rw [e,List.nodup_append] at b;refine b.2.2 s (by simpa using a) s ?_ O
       have:us.drop i=s::us.drop (i+1):=by
         rw [List.drop_eq_getElem_cons (List.getElem?_eq_some_iff.1 h).1,(List.getElem?_eq_some_iff.1 h).2]
       rw [this]; simp
     rw [hF] at b
     simpa using b
   rw [c]; rfl
 · rw [sC h a]; simp
theorem Ei {nm:List UInt8} {us:List (List UInt8)} (a:(nm::us).Nodup) (b:us.all dU=true):nk nm us=true:=by
 unfold nk; rw [hF.1 a,b]; rfl
end Go.Bw
end
section
namespace Go.Bw
open Go
structure Wm where
 data:List Int
 b':List Int
 out:List Int
 jo:Nat
 calls:Nat
inductive Rz (σ α:Type) where
 | ok (a:α) (s:σ)
 | ov (e:Int) (w:Wm)
def Rz.bind {b α β:Type} (r:Rz b α) (f:α->b->Rz b β):Rz b β:=match r with
 | .ok a s=>f a s
 | .ov e w=>.ov e w
structure Fm where
 loc:List Int
 val:Int
 w:Wm
structure Env where
 l:List bK
 ak:List (List Nat)
 ui:List Nat
 j7:Nat
def Env.mod (P:Env) (u:Nat) (m:Int):Nat:=(((P.ak[u]?).getD [])[m.toNat]?).getD 0
def Env.at_ (P:Env) (u:Nat) (m pl:Int):Nat:=(P.ui[P.mod u m]?).getD 0+pl.toNat
def Ej (P:Env) (w:Wm):Rz Wm Unit:=if w.jo=P.j7 then .ov 3 w else .ok () { w with jo:=w.jo+1 }
abbrev Ev:=List Int->Wm->Rz Wm Int
abbrev Cl:=Nat->List Int->List cY->Wm->Rz Wm Int
def Rz.fr {α:Type} (f:Fm) (r:Rz Wm α):Rz Fm α:=match r with
 | .ok a w=>.ok a { f with w:=w }
 | .ov e w=>.ov e w
def El:List bK->Nat->List Nat
 | [],_=>[]
 | u::r,s=>s::El r (s+u.data.toNat)
def Mn (l:List bK):List (List Nat):=(List.range l.length).map λn=>n::((l[n]?.map (·.ak)).getD []).map λs=>(idxOf s (fg l) 0).getD 0
structure VX where
 fin:Int
 out:List Int
 data:List Int
 jo:Int
end Go.Bw
end
section
namespace Go.Bw
open Go
structure Mo (l:List bK):Prop where
 d':1<=l.length/\l.length<=4
 ahead:n5 l=true
 nd:(fg l).Nodup
 data:kq l 512=true
 sH:∀u ∈ l,gq u (fy l u)=true
theorem wV {u:bK} {kn:List cm} (h:gq u kn=true):(∀p ∈ u.parts,jm (c7 u::kn) p=true)/\aG (c7 u::kn) 0 u.main 1=true/\lr u=false/\nk u.nm u.ak=true:=by
 unfold gq at h;obtain ⟨c,a⟩:=Bool.and_eq_true_iff.1 h;obtain ⟨a,b⟩:=Bool.and_eq_true_iff.1 a;obtain ⟨b,d⟩:=Bool.and_eq_true_iff.1 b;exact ⟨λp e=>List.all_eq_true.1 b p e,d,by simpa using a,c⟩
theorem zW {kn:List cm} {p:hk} (h:jm kn p=true):0<=p.params/\p.params<=3/\0<=p.locals/\p.locals<=4/\aG kn (p.params+p.locals) p.body 1=true:=by
 unfold jm at h;obtain ⟨a,b⟩:=Bool.and_eq_true_iff.1 h
 have a:(((decide (p.params<0)||decide (3<p.params))||decide (p.locals<0))||decide (4<p.locals))=false:=by simpa using a
 simp only [Bool.or_eq_false_iff,decide_eq_false_iff_not] at a;exact ⟨by omega,by omega,by omega,by omega,b⟩
open Go.ChangeShapes Go.WideShapes Go.ChangeAt Go.RowKit Go.Joins Go.Deep
mutual
def dS:db->Nat
 | .mk _ _ _ _ args=>1+aN args
def aN:List db->Nat
 | []=>0
 | x::r=>dS x+aN r
end
mutual
def l2:cY->Nat
 | .mk _ _ _ _ args body other=>1+aN args+eF body+eF other
def eF:List cY->Nat
 | []=>0
 | x::r=>l2 x+eF r
end
def sI (p:hk):Nat:=1+eF p.body
def jq:List hk->Nat
 | []=>0
 | p::r=>sI p+jq r
def n8 (u:bK):Nat:=1+u.nm.length+wN u.ak+jq u.parts+eF u.main
def Mp (n:Nat) (a:View) (b o:Nat) (u:bK):Prop:=∃r:ih,bI a b o (eE u r)/\hI n n a r u
structure VY (P:Program) (tN tA tP tU zZ uj sv p':TypeId) (e s p m:Array Field) (tI tT:TypeId):Prop where
 uI:P.underlying tI=some (.int .i64)
 uT:P.underlying tT=some .string
 cT:P.cellsOf tT=1
 uN:P.underlying tN=some (.struct e)
 rN:(mq P 0 e.toList&&Nat.beq (P.cellsOf tN) e.size)=true
 fN:e.map (·.type) = #[tI,tI,tI,tI,zZ]
 V2:P.underlying zZ=some (.slice tN)
 uA:P.underlying tA=some (.struct s)
 rA:(mq P 0 s.toList&&Nat.beq (P.cellsOf tA) s.size)=true
 fA:s.map (·.type) = #[tI,tI,tI,tI,zZ,uj,uj]
 V6:P.underlying uj=some (.slice tA)
 uP:P.underlying tP=some (.struct p)
 rP:(mq P 0 p.toList&&Nat.beq (P.cellsOf tP) p.size)=true
 fP:p.map (·.type) = #[tI,tI,uj]
 EZ:P.underlying sv=some (.slice tP)
 LO:P.underlying p'=some (.slice tT)
 uU:P.underlying tU=some (.struct m)
 rU:(mq P 0 m.toList&&Nat.beq (P.cellsOf tU) m.size)=true
 fU:m.map (·.type) = #[tT,p',tI,sv,uj]
end Go.Bw
end
section
namespace Go.Bw
open Go
structure bG where
 op:Int
 a:Int
 b:Int
structure eI where
 at_:Int
 kind:Int
 m:Int
structure Gs where
 code:List bG
 fix:List eI
abbrev Gk:=Gs->Gs
def bt (l:List bG) (g:Gs):Gs:={ g with code:=g.code++l }
def aQ (i:bG) (kind m:Int) (g:Gs):Gs:=⟨g.code++[i],g.fix++[⟨(g.code.length:Int),kind,m⟩]⟩
def cS (n:Nat) (g:Gs):Gs:={ g with code:=g.code.modify n λi=>{ i with a:=(g.code.length:Int) } }
def js (ks:List Gk) (i:Nat):Gk:=(ks[i]?).getD id
def qg (ks:List Gk) (g:Gs):Gs:=ks.foldl (λg k=>k g) g
def uk (c d:Gk) (g:Gs):Gs:=
 let a:=c g
 let b:=bt [⟨22,0,0⟩] (d (aQ ⟨12,0,0⟩ 1 0 a))
 cS b.code.length (bt [⟨1,0,0⟩] (cS a.code.length (aQ ⟨11,0,0⟩ 1 0 b)))
def um (c d:Gk) (g:Gs):Gs:=
 let a:=c g
 let b:=bt [⟨1,1,0⟩] (aQ ⟨12,0,0⟩ 1 0 a)
 cS b.code.length (bt [⟨22,0,0⟩] (d (cS a.code.length (aQ ⟨11,0,0⟩ 1 0 b))))
def lv (op n m pl:Int) (ks:List Gk) (g:Gs):Gs:=
 if op=1 then bt [⟨1,n,0⟩] g
 else if op=2 then bt [⟨18,0,0⟩] g
 else if op=16 then bt [⟨2,pl,0⟩] g
 else if op=3 then aQ ⟨4,pl,0⟩ 3 m g
 else if op=4 then bt [⟨7,0,0⟩] (aQ ⟨6,pl,n⟩ 3 m (js ks 0 g))
 else if op=5 then aQ ⟨13,pl,0⟩ 2 m (qg ks g)
 else if op=7 then uk (js ks 0) (js ks 1) g
 else if op=8 then um (js ks 0) (js ks 1) g
 else if op=6 then bt [⟨9,0,0⟩] (qg ks g)
 else bt [⟨10,op,0⟩] (qg ks g)
mutual
def aF:db->Gs->Gs
 | .mk op n m pl args,g=>lv op n m pl (iE args) g
def iE:List db->List Gk
 | []=>[]
 | x::r=>(λg=>aF x g)::iE r
end
theorem n9 (x:db) (g:Gs):aF x g=lv x.op x.n x.m x.pl (iE x.args) g:=by cases x; rw [aF]; rfl
theorem sJ:∀l,iE l=l.map aF
 | []=>by rw [iE]; rfl
 | x::r=>by rw [iE,sJ r]; rfl
def e0 (l:List db) (g:Gs):Gs:=l.foldl (λg x=>aF x g) g
theorem uo (l:List db) (g:Gs):qg (iE l) g=e0 l g:=by rw [sJ]; unfold qg e0; rw [List.foldl_map]
theorem Mq {l:List db} {i:Nat} {x:db} (h:l[i]? = some x) (g:Gs):e0 (l.take (i+1)) g=aF x (e0 (l.take i) g):=by
 unfold e0; rw [List.take_add_one,h]; simp
def sK (c body other:Gk) (d:Nat) (g:Gs):Gs:=
 let a:=c g
 let b:=body (aQ ⟨12,0,0⟩ 1 0 a)
 if 0<d then cS b.code.length (other (cS a.code.length (aQ ⟨11,0,0⟩ 1 0 b))) else cS a.code.length b
def wW (b body:Gk) (g:Gs):Gs:=
 let a:=b g
 cS a.code.length (aQ ⟨11,(g.code.length:Int),0⟩ 1 0 (body (bt [⟨16,0,0⟩] (aQ ⟨12,0,0⟩ 1 0 a))))
def l3 (op n m pl:Int) (ks:List Gk) (body other:Gk) (a:Nat) (g:Gs):Gs:=
 if op=1 then (if m<0 then bt [⟨3,pl,0⟩] (js ks 0 g) else aQ ⟨5,pl,0⟩ 3 m (js ks 0 g))
 else if op=2 then bt [⟨8,0,0⟩] (js ks 1 (aQ ⟨6,pl,n⟩ 3 m (js ks 0 g)))
 else if op=3 then bt [⟨17,0,0⟩] (aQ ⟨13,pl,0⟩ 2 m (qg ks g))
 else if op=4 then sK (js ks 0) body other a g
 else if op=5 then wW (js ks 0) body g
 else if op=6 then bt [⟨15,0,0⟩] (js ks 0 g)
 else if op=7 then bt [⟨19,0,0⟩] (js ks 0 g)
 else g
mutual
def jt:cY->Gs->Gs
 | .mk op n m pl args body other,g=>l3 op n m pl (iE args) (λg=>ct body g) (λg=>ct other g) other.length g
def ct:List cY->Gs->Gs
 | [],g=>g
 | x::r,g=>ct r (jt x g)
end
theorem pc (x:cY) (g:Gs):jt x g=l3 x.op x.n x.m x.pl (iE x.args) (λg=>ct x.body g) (λg=>ct x.other g) x.other.length g:=by cases x; rw [jt]; rfl
theorem En:∀(a b:List cY) (g:Gs),ct (a++b) g=ct b (ct a g)
 | [],b,g=>by rw [ct]; rfl
 | x::r,b,g=>by rw [List.cons_append,ct,En r b,ct]
theorem Mr {l:List cY} {i:Nat} {x:cY} (h:l[i]? = some x) (g:Gs):ct (l.take (i+1)) g=jt x (ct (l.take i) g):=by
 rw [List.take_add_one,h]
 show ct (l.take i++[x]) g=_
 rw [En,ct,ct]
def hK (params locals:Int) (body:List cY) (g:Gs):Gs:=bt [⟨1,0,0⟩,⟨15,0,0⟩] (ct body (bt [⟨14,params,locals⟩] g))
def cV:List hk->Gs->List Nat×Gs
 | [],g=>([],g)
 | p::r,g=>(g.code.length::(cV r (hK p.params p.locals p.body g)).1,(cV r (hK p.params p.locals p.body g)).2)
theorem z1:∀(a:List hk) (p:hk) (g:Gs),cV (a++[p]) g=((cV a g).1++[(cV a g).2.code.length],hK p.params p.locals p.body (cV a g).2)
 | [],p,g=>rfl
 | x::r,p,g=>by rw [List.cons_append,cV,z1 r p]; rfl
structure nq where
 nm:List UInt8
 ak:List (List UInt8)
 data:Int
 g:Gs
 cI:List Nat
 main:Nat
def uq:nq:=⟨[],[],0,⟨[],[]⟩,[],0⟩
def nr (u:bK):Bool:=gq u (List.replicate u.ak.length jL)
def eY (u:bK):nq:=
 let r:=cV u.parts ⟨[],[]⟩
 ⟨u.nm,u.ak,u.data,hK 0 0 u.main r.2,r.1,r.2.code.length⟩
def eb (u:bK):nq×Int:=if nr u=false then (uq,1) else if 2048<(eY u).g.code.length then (uq,2) else (eY u,0)
structure GL (c:Nat) (g g':Gs):Prop where
 lo:g.code.length<=g'.code.length
 hi:g'.code.length<=g.code.length+c
 z6:g.fix.length<=g'.fix.length
 a8:g'.fix.length<=g.fix.length+c
theorem GL.refl (c:Nat) (g:Gs):GL c g g:=⟨Nat.le_refl _,Nat.le_add_right _ _,Nat.le_refl _,Nat.le_add_right _ _⟩
theorem GL.trans {a b:Nat} {g c d:Gs} (h:GL a g c) (k:GL b c d):GL (a+b) g d:=⟨Nat.le_trans h.lo k.lo,by have:=h.hi; have:=k.hi; omega,Nat.le_trans h.z6 k.z6,by have:=h.a8; have:=k.a8; omega⟩
theorem GL.mono {a b:Nat} {g c:Gs} (h:GL a g c) (d:a<=b):GL b g c:=⟨h.lo,by have:=h.hi; omega,h.z6,by have:=h.a8; omega⟩
theorem jO (l:List bG) (g:Gs):GL l.length g (bt l g):=⟨by simp [bt],by simp [bt],Nat.le_refl _,Nat.le_add_right _ _⟩
theorem kY (i:bG) (k m:Int) (g:Gs):GL 1 g (aQ i k m g):=⟨by simp [aQ],by simp [aQ],by simp [aQ],by simp [aQ]⟩
theorem qh (n:Nat) (g:Gs):GL 0 g (cS n g):=⟨by simp [cS],by simp [cS],Nat.le_refl _,Nat.le_refl _⟩
theorem z7 {ks:List Gk} {cs:List Nat} (h:ks.length=cs.length) (d:∀(i:Nat) k c,ks[i]? = some k->cs[i]? = some c->∀g,GL c g (k g)):∀g,GL cs.sum g (qg ks g):=by
 induction ks generalizing cs with
 | nil=>intro g; cases cs with | nil=>exact .refl _ _ | cons c r=>cases h
 | cons k r e=>
   intro g
   cases cs with
   | nil=>cases h
   | cons c f=>
     have j:=d 0 k c rfl rfl g;have l:=e (cs:=f) (by simpa using h) (λi m n a b=>d (i+1) m n (by simpa using a) (by simpa using b)) (k g);exact j.trans l
theorem wX {ks:List Gk} {cs:List Nat} (h:ks.length=cs.length) (b:∀(i:Nat) k c,ks[i]? = some k->cs[i]? = some c->∀g,GL c g (k g)) (i:Nat):∀g,GL ((cs[i]?).getD 0) g (js ks i g):=λg=>by
 unfold js
 cases hi:ks[i]? with
 | none=>exact .refl _ _
 | some k=>
   have d:=(List.getElem?_eq_some_iff.1 hi).1;obtain ⟨c,a⟩:∃c,cs[i]? = some c:=⟨_,List.getElem?_eq_getElem (by omega)⟩;rw [a];exact b i k c hi a g
theorem Eo:∀(cs:List Nat),(cs[0]?).getD 0+(cs[1]?).getD 0<=cs.sum
 | []=>by simp
 | [a]=>by simp
 | a::b::r=>by simp only [List.getElem?_cons_zero,List.getElem?_cons_succ,Option.getD_some,List.sum_cons]; omega
mutual
theorem bj:∀(x:db) (g:Gs),GL (8*dS x) g (aF x g)
 | .mk op n m pl args,g=>by
   rw [aF];have b:=wY args
   have c:(iE args).length=(args.map λx=>8*dS x).length:=by rw [sJ]; simp
   have f:(args.map λx=>8*dS x).sum=8*aN args:=wZ args;have a:=z7 c b;have d:=wX c b 0;have e:=wX c b 1;have h:=Eo (args.map λx=>8*dS x);rw [f] at a h
   have i:dS (.mk op n m pl args)=1+aN args:=by rw [dS]
   rw [i];unfold lv
   split
   · exact (jO _ g).mono (by simp only [List.length_cons,List.length_nil]; omega)
   · split
     · exact (jO _ g).mono (by simp only [List.length_cons,List.length_nil]; omega)
     · split
       · exact (jO _ g).mono (by simp only [List.length_cons,List.length_nil]; omega)
       · split
         · exact (kY _ _ _ g).mono (by omega)
         · split
           · exact (((d g).trans (kY _ _ _ _)).trans (jO _ _)).mono (by simp only [List.length_cons,List.length_nil]; omega)
           · split
             · exact ((a g).trans (kY _ _ _ _)).mono (by omega)
             · split
               · unfold uk
                 exact (((((((d g).trans (kY _ _ _ _)).trans (e _)).trans (jO _ _)).trans (kY _ _ _ _)).trans (qh _ _)).trans (jO _ _) |>.trans (qh _ _)).mono (by simp only [List.length_cons,List.length_nil]; omega)
               · split
                 · unfold um
                   exact (((((((d g).trans (kY _ _ _ _)).trans (jO _ _)).trans (kY _ _ _ _)).trans (qh _ _)).trans (e _)).trans (jO _ _) |>.trans (qh _ _)).mono (by simp only [List.length_cons,List.length_nil]; omega)
                 · split
                   · exact ((a g).trans (jO _ _)).mono (by simp only [List.length_cons,List.length_nil]; omega)
                   · exact ((a g).trans (jO _ _)).mono (by simp only [List.length_cons,List.length_nil]; omega)
theorem wY:∀(l:List db) (i:Nat) k c,(iE l)[i]? = some k->(l.map λx=>8*dS x)[i]? = some c->∀g,GL c g (k g)
 | [],i,k,c,h,_,g=>by rw [iE] at h; simp at h
 | x::r,0,k,c,h,a,g=>by
   rw [iE] at h;simp at h a;subst h a;exact bj x g
 | x::r,i+1,k,c,h,a,g=>by
   rw [iE] at h;exact wY r i k c (by simpa using h) (by simpa using a) g
theorem wZ:∀(l:List db),(l.map λx=>8*dS x).sum=8*aN l
 | []=>by simp [aN]
 | x::r=>by rw [List.map_cons,List.sum_cons,wZ r,aN]; omega
end
mutual
theorem Ms:∀(x:cY) (g:Gs),GL (8*l2 x) g (jt x g)
 | .mk op n m pl args body other,g=>by
   rw [jt];have b:=wY args
   have c:(iE args).length=(args.map λx=>8*dS x).length:=by rw [sJ]; simp
   have e:=z7 c b;have a:=wX c b 0;have f:=wX c b 1;have h:=Eo (args.map λx=>8*dS x);rw [wZ] at e h;have d:=b_ body;have i:=b_ other
   have j:l2 (.mk op n m pl args body other)=1+aN args+eF body+eF other:=by rw [l2]
   rw [j];unfold l3
   split
   · split
     · exact ((a g).trans (jO _ _)).mono (by simp only [List.length_cons,List.length_nil]; omega)
     · exact ((a g).trans (kY _ _ _ _)).mono (by omega)
   · split
     · exact ((((a g).trans (kY _ _ _ _)).trans (f _)).trans (jO _ _)).mono (by simp only [List.length_cons,List.length_nil]; omega)
     · split
       · exact (((e g).trans (kY _ _ _ _)).trans (jO _ _)).mono (by simp only [List.length_cons,List.length_nil]; omega)
       · split
         · unfold sK
           dsimp only
           split
           · exact ((((((a g).trans (kY _ _ _ _)).trans (d _)).trans (kY _ _ _ _)).trans (qh _ _)).trans (i _) |>.trans (qh _ _)).mono (by omega)
           · exact ((((a g).trans (kY _ _ _ _)).trans (d _)).trans (qh _ _)).mono (by omega)
         · split
           · unfold wW
             exact ((((((a g).trans (kY _ _ _ _)).trans (jO _ _)).trans (d _)).trans (kY _ _ _ _)).trans (qh _ _)).mono (by simp only [List.length_cons,List.length_nil]; omega)
           · split
             · exact ((a g).trans (jO _ _)).mono (by simp only [List.length_cons,List.length_nil]; omega)
             · split
               · exact ((a g).trans (jO _ _)).mono (by simp only [List.length_cons,List.length_nil]; omega)
               · exact .refl _ _
theorem b_:∀(l:List cY) (g:Gs),GL (8*eF l) g (ct l g)
 | [],g=>by rw [ct]; exact .refl _ _
 | x::r,g=>by
   rw [ct,eF];exact ((Ms x g).trans (b_ r _)).mono (by omega)
end
theorem Mt (pa lo:Int) (b:List cY) (g:Gs):GL (8*(1+eF b)) g (hK pa lo b g):=by
 unfold hK;exact (((jO _ g).trans (b_ b _)).trans (jO _ _)).mono (by simp only [List.length_cons,List.length_nil]; omega)
theorem ib:∀(l:List hk) (g:Gs),GL (8*jq l) g (cV l g).2/\(cV l g).1.length=l.length
 | [],g=>⟨.refl _ _,rfl⟩
 | p::r,g=>by
   have a:=ib r (hK p.params p.locals p.body g);refine ⟨?_,by simp [cV,a.2]⟩;rw [cV,jq];exact ((Mt p.params p.locals p.body g).trans a.1).mono (by unfold sI; omega)
section
variable {P:Program} {ops:Array Oper} {Q:Exit->Act->World->Prop} {n:Nat} {ds:List Deferred} {l:List (Nat×Value)} {w0:World} {F:List Nat} {L:List aS} {Vs:List View} {rest:List Oper}
 {ty:TypeId} {pos:String} {af:Array Edge} {g:Option (Nat×Bool)} {d:Nat}
theorem WL.qi {ι:Type} {f:FuncId} {c:Operand} {k:Array Value} {args:Array Operand} {ts:Array TypeId} {vs:List Value} (a L2:List aS) (m:dq ops l g) (o:Nat.blt d n=true) (p:Enters P f) (q:bk l c=some (.func (.func f) #[] k)) (r:hU l args.toList=some vs) (s:L=a++L2)
   (v:ι->Value) (b:ι->List aS) (R:ι->Prop) (ah:List View) (t:∀u ∈ ah,u ∈ Vs)
   (x:∀w,Ws w (a.flatMap aS.ids) a ah w->Calls P f (vs.toArray++k) w λe w'=>∃i,e = .returned (v i)/\R i/\Ws w (a.flatMap aS.ids) (b i) ah w')
   (y:∀i,R i->WL P ops Q n ds ((d,v i)::l) (Ws w0 F (b i++L2) Vs) rest) :
   WL P ops Q n ds l (Ws w0 F L Vs) (⟨some d,.call ⟨.value c,args,ts⟩,ty,pos,af,g⟩::rest):=
 WL.CY (κ:=Empty) a L2 m o p q r s v b R (λ_=>[]) (λ_=>[]) (λ_=>False) ah t (λw z=>(x w z).mono λe w' h=>.inl h) (λj=>nomatch j) y
end
def bG.cells (x:bG):List Value:=[.int .i64 x.op,.int .i64 x.a,.int .i64 x.b]
theorem bG.aj (x:bG):x.cells.length=3:=rfl
theorem bG.one (x:bG):x.cells.all (·.oneCell')=true:=rfl
def gv (a:View) (b o:Nat) (x:bG):Prop:=bI a b o x.cells
def eI.cells (x:eI):List Value:=[.int .i64 x.at_,.int .i64 x.kind,.int .i64 x.m]
theorem eI.aj (x:eI):x.cells.length=3:=rfl
theorem eI.one (x:eI):x.cells.all (·.oneCell')=true:=rfl
def oJ (a:View) (b o:Nat) (x:eI):Prop:=bI a b o x.cells
structure gP where
 nm:List UInt8
 v1:Value
 data:Int
 v5:Value
 v6:Value
structure b5 where
 g:Gs
 ca:Option Addr×Nat
 fa:Option Addr×Nat
def n' (T:TypeId) (a:gP) (t:b5):Obj:=.cells #[st a.nm,a.v1,.int .i64 a.data,.slice t.ca.1 t.g.code.length t.ca.2,.slice t.fa.1 t.g.fix.length t.fa.2,a.v5,a.v6] T (0,0)
abbrev ab (T a b:TypeId) (c:Nat) (d:gP) (t:b5):List aS:=[aq c (n' T d t),cf a 3 bG.cells t.ca.1 t.ca.2 t.g.code,cf b 3 eI.cells t.fa.1 t.fa.2 t.g.fix]
theorem lx {l:List db} {i:Nat} {y:db} (h:l[i]? = some y):js (iE l) i=aF y:=by
 unfold js; rw [sJ,List.getElem?_map,h]; rfl
theorem sL:∀{l:List db} {i:Nat} {x:db},l[i]? = some x->aN (l.take (i+1))=aN (l.take i)+dS x/\aN (l.take (i+1))<=aN l
 | [],_,_,h=>by simp at h
 | y::r,0,x,h=>by
   simp at h; subst h;simp [aN]
 | y::r,i+1,x,h=>by
   obtain ⟨a,b⟩:=sL (l:=r) (i:=i) (by simpa using h);simp only [List.take_succ_cons,aN];omega
theorem p9:∀{l:List cY} {i:Nat} {x:cY},l[i]? = some x->eF (l.take (i+1))=eF (l.take i)+l2 x/\eF (l.take (i+1))<=eF l
 | [],_,_,h=>by simp at h
 | y::r,0,x,h=>by
   simp at h; subst h;simp [eF]
 | y::r,i+1,x,h=>by
   obtain ⟨a,b⟩:=p9 (l:=r) (i:=i) (by simpa using h);simp only [List.take_succ_cons,eF];omega
theorem w1 (l:List db) (g:Gs):GL (8*aN l) g (e0 l g):=by
 have a:(iE l).length=(l.map λx=>8*dS x).length:=by rw [sJ]; simp
 have h:=z7 a (wY l) g;rw [uo,wZ] at h;exact h
theorem Mu (x:db):dS x=1+aN x.args:=by cases x; rw [dS]; rfl
theorem Mv (x:cY):l2 x=1+aN x.args+eF x.body+eF x.other:=by cases x; rw [l2]; rfl
theorem Mw {l:List bG} {n:Nat} {x:bG} (f:bG->bG) (h:l[n]? = some x):l.modify n f=l.set n (f x):=by
 apply List.ext_getElem?;intro i;rw [List.getElem?_modify,List.getElem?_set]
 by_cases e:n=i
 · subst e
   obtain ⟨a,b⟩:=List.getElem?_eq_some_iff.1 h;simp [a,b]
 · simp [e]
theorem Mx {n:Nat} {g:Gs} {x:bG} (h:g.code[n]? = some x):cS n g = { g with code:=g.code.set n ⟨x.op,(g.code.length:Int),x.b⟩ }:=by
 unfold cS; rw [Mw _ h]
theorem My {kn:List cm} {ay op n m pl:Int} {len:Nat} (h:node1 kn ay op n m pl len=true):(op=4\/op=6->len=1)/\(7<=op/\op<=15->len=2)/\1<=op/\op<=16:=by
 unfold node1 at h
 split at h
 · subst_vars; omega
 · split at h
   · subst_vars; omega
   · split at h
     · subst_vars; simp at h; omega
     · split at h
       · subst_vars; omega
       · split at h
         · subst_vars; omega
         · split at h
           · subst_vars; omega
           · split at h
             · subst_vars; simp at h; omega
             · split at h
               · simp at h; omega
               · cases h
theorem Mz {kn:List cm} {ay op n m pl:Int} {na a b:Nat} (h:e' kn ay op n m pl na a b=true):(op=1\/op=4\/op=5\/op=6\/op=7->na=1)/\(op=2->na=2)/\1<=op/\op<=7:=by
 unfold e' at h
 split at h
 · subst_vars; simp at h; omega
 · split at h
   · subst_vars; simp at h; omega
   · split at h
     · subst_vars; omega
     · split at h
       · subst_vars; simp at h; omega
       · split at h
         · subst_vars; simp at h; omega
         · split at h
           · simp at h; omega
           · cases h
def sM (x:db):Prop:=∃kn ay d,jM kn ay x d=true
def sN (l:List db):Prop:=∃kn ay d,fw kn ay l d=true
def w2 (x:cY):Prop:=∃kn ay d,jl kn ay x d=true
def n_ (l:List cY):Prop:=∃kn ay d,fK kn ay l d=true
theorem sN.at_ {l:List db} (h:sN l) {i:Nat} {x:db} (a:l[i]? = some x):sM x:=by
 obtain ⟨kn,ay,d,h⟩:=h;rw [wR] at h;exact ⟨kn,ay,d,List.all_eq_true.1 h x (List.mem_of_getElem? a)⟩
theorem sM.args {x:db} (h:sM x):sN x.args/\(x.op=4\/x.op=6->x.args.length=1)/\(7<=x.op/\x.op<=15->x.args.length=2)/\1<=x.op/\x.op<=16:=by
 obtain ⟨kn,ay,d,h⟩:=h;rw [zB] at h;obtain ⟨_,h⟩:=Bool.and_eq_true_iff.1 h;obtain ⟨a,b⟩:=Bool.and_eq_true_iff.1 h;exact ⟨⟨kn,ay,_,b⟩,My a⟩
theorem n_.at_ {l:List cY} (h:n_ l) {i:Nat} {x:cY} (a:l[i]? = some x):w2 x:=by
 obtain ⟨kn,ay,d,h⟩:=h;rw [zD] at h;exact ⟨kn,ay,d,List.all_eq_true.1 h x (List.mem_of_getElem? a)⟩
theorem w2.parts {x:cY} (h:w2 x):sN x.args/\(x.op=4\/x.op=5->n_ x.body)/\n_ x.other/\(x.op=1\/x.op=4\/x.op=5\/x.op=6\/x.op=7->x.args.length=1)/\(x.op=2->x.args.length=2)/\1<=x.op/\x.op<=7:=by
 obtain ⟨kn,ay,d,h⟩:=h;rw [zC] at h;obtain ⟨e,h⟩:=Bool.and_eq_true_iff.1 h;obtain ⟨f,h⟩:=Bool.and_eq_true_iff.1 h;obtain ⟨b,c⟩:=Bool.and_eq_true_iff.1 h;refine ⟨⟨kn,ay,_,f⟩,λg=>?_,?_,Mz e⟩
 · have:nj x.op=true:=by unfold nj; simpa using g
   rw [this] at b
   have a:aG kn ay x.body (d+1)=true:=by simpa using b
   unfold aG at a;exact ⟨kn,ay,d+1,(Bool.and_eq_true_iff.1 (Bool.and_eq_true_iff.1 a).2).2⟩
 · by_cases i:0<x.other.length
   · rw [decide_eq_true i] at c
     have a:aG kn ay x.other (d+1)=true:=by simpa using c
     unfold aG at a;exact ⟨kn,ay,d+1,(Bool.and_eq_true_iff.1 (Bool.and_eq_true_iff.1 a).2).2⟩
   · have:x.other=[]:=List.eq_nil_of_length_eq_zero (by omega)
     rw [this];exact ⟨kn,ay,d,by rw [fK]⟩
theorem MA {α:Type} {f:α->List Value} {x:α} {zs:Array Value} (h:zs.toList=f x) (j:0<(f x).length) (k:Nat):madeCells zs (k*(f x).length)=((List.replicate k x).flatMap f).toArray:=by
 apply Array.ext';simp only [madeCells]
 have l:zs.size=(f x).length:=by rw [<-h]; simp
 have c:((List.replicate k x).flatMap f).length=k*(f x).length:=by
   induction k with
   | zero=>simp
   | succ k b=>rw [List.replicate_succ,List.flatMap_cons,List.length_append,b,Nat.succ_mul]; omega
 apply List.ext_getElem
 · simp [c]
 · intro i n d
   simp
   have key:∀(k i:Nat) (hi:i<k*(f x).length),((List.replicate k x).flatMap f)[i]? = (f x)[i % (f x).length]?:=by
     intro k
     induction k with
     | zero=>intro i hi; omega
     | succ k b=>
       intro i hi;rw [List.replicate_succ,List.flatMap_cons,List.getElem?_append]
       split
       · rename_i m; rw [Nat.mod_eq_of_lt m]
       · rename_i o
         rw [Nat.succ_mul] at hi;rw [b (i-(f x).length) (by omega),<-Nat.mod_eq_sub_mod (by omega)]
   have hi:i<k*(f x).length:=by rw [<-c]; exact d
   have a:=key k i hi;have e:=Nat.mod_lt i j;rw [List.getElem?_eq_getElem d,List.getElem?_eq_getElem e] at a
   injection a with a
   rw [a]
   have g:zs[i % zs.size]? = (f x)[i % (f x).length]?:=by rw [l,<-h]; simp
   rw [List.getElem?_eq_getElem e] at g;rw [getElem!_def,g]
theorem cJ:(∀i k m g,(aQ i k m g).code.length=g.code.length+1)/\(∀i k m g,(aQ i k m g).fix.length=g.fix.length+1)/\(∀l g,(bt l g).code.length=g.code.length+l.length)/\(∀l g,(bt l g).fix.length=g.fix.length)/\(∀n g,(cS n g).code.length=g.code.length)/\(∀n g,(cS n g).fix.length=g.fix.length)/\(∀(x:bG) l,(x::l).length=l.length+1)/\([]:List bG).length=0:=by
 refine ⟨λ_ _ _ _=>?_,λ_ _ _ _=>?_,λ_ _=>?_,λ_ _=>rfl,λ_ _=>?_,λ_ _=>rfl,λ_ _=>rfl,O⟩<;>simp [aQ,bt,cS]
def mA (x:Nat):List Value:=[.int .i64 (x:Int)]
theorem z8 (x:Nat):(mA x).length=1:=rfl
def bZ (a:View) (b o:Nat) (x:Nat):Prop:=bI a b o (mA x)
structure kZ where
 s1:Option Addr×Nat
 s2:Option Addr×Nat
 s3:Option Addr×Nat
 s4:Option Addr×Nat
def z' (o:nq) (q:kZ):List Value:=[st o.nm,.slice q.s1.1 o.ak.length q.s1.2,.int .i64 o.data,.slice q.s2.1 o.g.code.length q.s2.2,.slice q.s3.1 o.g.fix.length q.s3.2,.slice q.s4.1 o.cI.length q.s4.2,.int .i64 (o.main:Int)]
structure z_ (H:View) (q:kZ) (o:nq):Prop where
 ak:Sl rdStr 1 H q.s1.1 q.s1.2 o.ak
 code:Sl gv 3 H q.s2.1 q.s2.2 o.g.code
 fix:Sl oJ 3 H q.s3.1 q.s3.2 o.g.fix
 cI:Sl bZ 1 H q.s4.1 q.s4.2 o.cI
def Aa:kZ:=⟨(none,0),(none,0),(none,0),(none,0)⟩
theorem qj (a:View):z_ a Aa uq:=⟨Sl.nil,Sl.nil,Sl.nil,Sl.nil⟩
theorem qk:∀{l:List hk} {i:Nat} {x:hk},l[i]? = some x->jq (l.take (i+1))=jq (l.take i)+sI x/\jq (l.take (i+1))<=jq l
 | [],_,_,h=>by simp at h
 | y::r,0,x,h=>by
   simp at h; subst h;simp [jq]
 | y::r,i+1,x,h=>by
   obtain ⟨a,b⟩:=qk (l:=r) (i:=i) (by simpa using h);simp only [List.take_succ_cons,jq];omega
theorem MB {l:List hk} {i:Nat} {x:hk} (h:l[i]? = some x) (g:Gs):cV (l.take (i+1)) g=((cV (l.take i) g).1++[(cV (l.take i) g).2.code.length],hK x.params x.locals x.body (cV (l.take i) g).2):=by
 rw [List.take_add_one,h];exact z1 _ _ _
theorem qE {kn:List cm} {ay:Int} {l:List cY} (h:aG kn ay l 1=true):n_ l:=by
 unfold aG at h;exact ⟨kn,ay,1,(Bool.and_eq_true_iff.1 (Bool.and_eq_true_iff.1 h).2).2⟩
theorem qM:∀l:List hk,l.length<=jq l
 | []=>Nat.zero_le _
 | s::r=>by have:=qM r; simp only [List.length_cons,jq,sI]; omega
theorem MC (u:bK):n8 u=1+u.nm.length+wN u.ak+jq u.parts+eF u.main:=rfl
theorem MD {u:bK} (h:nr u=true):(∀p ∈ u.parts,n_ p.body)/\n_ u.main:=by
 obtain ⟨a,b,_,_⟩:=wV h;exact ⟨λp c=>qE (zW (a p c)).2.2.2.2,qE b⟩
end Go.Bw
end
section
namespace Go.Bw
open Go
def Rz.all {b α:Type} (r:Rz b α) (p:α->b->Prop) (q:Wm->Prop):Prop:=match r with
 | .ok a s=>p a s
 | .ov _ w=>q w
theorem Rz.all_bind {b α β:Type} {r:Rz b α} {f:α->b->Rz b β} {p:β->b->Prop} {q:Wm->Prop} (h:r.all (λa s=>(f a s).all p q) q):(r.bind f).all p q:=by
 cases r with
 | ok a s=>exact h
 | ov e w=>exact h
theorem Rz.oc {b α:Type} {r:Rz b α} {p c:α->b->Prop} {q d:Wm->Prop} (h:r.all p q) (f:∀a s,p a s->c a s) (g:∀w,q w->d w):r.all c d:=by
 cases r with
 | ok a s=>exact f _ _ h
 | ov e w=>exact g _ h
theorem Rz.Ew {α:Type} {r:Rz Wm α} {f:Fm} {p:α->Fm->Prop} {q:Wm->Prop} (h:r.all (λa w=>p a { f with w:=w }) q):(Rz.fr f r).all p q:=by
 cases r with
 | ok a s=>exact h
 | ov e w=>exact h
structure Kw (P:Env) (w w':Wm):Prop where
 jo:w.jo<=w'.jo
 j7:w.jo<=P.j7->w'.jo<=P.j7
 len:w'.data.length=w.data.length
 out:w.out.length<=200->w'.out.length<=200
 pre:w.out <+: w'.out
structure Kp (P:Env) (w w':Wm):Prop extends Kw P w w' where
 calls:w'.calls=w.calls
section
variable {P:Env} {a b c:Wm}
theorem Kw.refl (P:Env) (a:Wm):Kw P a a:=⟨Nat.le_refl _,id,rfl,id,List.prefix_rfl⟩
theorem Kw.trans (h:Kw P a b) (k:Kw P b c):Kw P a c:=⟨Nat.le_trans h.jo k.jo,λx=>k.j7 (h.j7 x),k.len.trans h.len,λx=>k.out (h.out x),h.pre.trans k.pre⟩
theorem Kp.refl (P:Env) (a:Wm):Kp P a a:=⟨Kw.refl P a,rfl⟩
theorem Kp.trans (h:Kp P a b) (k:Kp P b c):Kp P a c:=⟨h.toKw.trans k.toKw,k.calls.trans h.calls⟩
abbrev RK {α:Type} (P:Env) (w:Wm) (r:Rz Wm α):Prop:=r.all (λ_ w'=>Kp P w w') (Kw P w)
theorem RK.ok {α:Type} (v:α) (w:Wm):RK P w (.ok v w):=Kp.refl P w
theorem RK.ov {α:Type} (e:Int) (w:Wm):RK (α:=α) P w (.ov e w):=Kw.refl P w
theorem RK.bind {α β:Type} {w:Wm} {r:Rz Wm α} {f:α->Wm->Rz Wm β} (h:RK P w r) (k:∀v w',RK P w' (f v w')):RK P w (r.bind f):=
 Rz.all_bind (Rz.oc h (λv w' b=>Rz.oc (k v w') (λ_ _ a=>b.trans a) λ_ a=>b.toKw.trans a) λ_ h=>h)
abbrev EK (P:Env) (k:Ev):Prop:=∀loc w,RK P w (k loc w)
abbrev CK (P:Env) (call:Cl):Prop:=∀u loc body w,RK P w (call u loc body w)
abbrev FK {α:Type} (P:Env) (f:Fm) (r:Rz Fm α):Prop:=r.all (λ_ a=>Kp P f.w a.w/\a.loc.length=f.loc.length) (Kw P f.w)
theorem FK.ok {α:Type} (v:α) (f:Fm):FK P f (.ok v f):=⟨Kp.refl P f.w,rfl⟩
theorem FK.bind {α β:Type} {f:Fm} {r:Rz Fm α} {g:α->Fm->Rz Fm β} (h:FK P f r) (k:∀v a,FK P a (g v a)):FK P f (r.bind g):=
 Rz.all_bind (Rz.oc h (λv a c=>Rz.oc (k v a) (λ_ _ b=>⟨c.1.trans b.1,b.2.trans c.2⟩) λ_ b=>c.1.toKw.trans b) λ_ h=>h)
theorem FK.fr {α:Type} {f:Fm} {r:Rz Wm α} (h:RK P f.w r):FK P f (Rz.fr f r):=Rz.Ew (Rz.oc h (λ_ _ h=>⟨h,rfl⟩) λ_ h=>h)
end
end Go.Bw
end
section
namespace Go.Bw
open Go
theorem MF {kn:List cm} {ay op n m pl:Int} {len:Nat} (h:node1 kn ay op n m pl len=true):(op=3->iD kn m pl 1=true)/\(op=4->(1<=n/\n<=32)/\iD kn m pl n=true)/\(op=5->jk kn m pl len=true)/\(op=16->0<=pl/\pl<ay):=by
 refine ⟨λe=>?_,λe=>?_,λe=>?_,λe=>?_⟩
 · subst e; rw [node1,if_neg (by decide),if_pos rfl] at h; exact (Bool.and_eq_true_iff.1 h).2
 · subst e; rw [node1,if_neg (by decide),if_neg (by decide),if_pos rfl] at h
   obtain ⟨a,b⟩:=Bool.and_eq_true_iff.1 h;exact ⟨by simpa [ni] using (Bool.and_eq_true_iff.1 a).1,b⟩
 · subst e; rw [node1,if_neg (by decide),if_neg (by decide),if_neg (by decide),if_pos rfl] at h; exact (Bool.and_eq_true_iff.1 h).2
 · subst e; rw [node1,if_neg (by decide),if_neg (by decide),if_neg (by decide),if_neg (by decide),if_pos rfl] at h
   simpa [o9] using (Bool.and_eq_true_iff.1 h).2
theorem MG {kn:List cm} {m pl n:Int} (h:iD kn m pl n=true):0<=m:=by
 cases a:bh kn m pl with
 | true=>rw [h1 n a] at h; cases h
 | false=>obtain ⟨⟨b,e,_⟩,_⟩:=wO a; omega
theorem MH {kn:List cm} {ay op n m pl:Int} {na f g:Nat} (h:e' kn ay op n m pl na f g=true):(op=1->(m<0->0<=pl/\pl<ay)/\(¬m<0->iD kn m pl 1=true))/\(op=2->(1<=n/\n<=32)/\iD kn m pl n=true)/\(op=3->jk kn m pl na=true):=by
 refine ⟨λe=>?_,λe=>?_,λe=>?_⟩
 · subst e; rw [e',if_pos rfl] at h
   have b:=(Bool.and_eq_true_iff.1 h).2
   rcases Bool.or_eq_true_iff.1 b with a | a
   · obtain ⟨c,i⟩:=Bool.and_eq_true_iff.1 a
     have c:m = -1:=by simpa using c
     exact ⟨λ_=>by simpa [o9] using i,λd=>absurd (by omega) d⟩
   · have:=MG a
     exact ⟨λd=>absurd this (by omega),λ_=>a⟩
 · subst e; rw [e',if_neg (by decide),if_pos rfl] at h
   obtain ⟨j,b⟩:=Bool.and_eq_true_iff.1 h;exact ⟨by simpa [ni] using (Bool.and_eq_true_iff.1 j).2,b⟩
 · subst e; rw [e',if_neg (by decide),if_neg (by decide),if_pos rfl] at h; exact (Bool.and_eq_true_iff.1 h).2
theorem Ey {b α β:Type} {r:Rz b α} {f:α->b->Rz b β} {a:α} {s:b} (h:r = .ok a s):r.bind f=f a s:=by rw [h]; rfl
theorem Ab {a α β:Type} {r:Rz a α} {f:α->a->Rz a β} {e:Int} {w:Wm} (h:r = .ov e w):r.bind f = .ov e w:=by rw [h]; rfl
theorem MI {α:Type} {r:Rz Wm α} {f:Fm} {e:Int} {w:Wm} (h:r = .ov e w):Rz.fr f r = .ov e w:=by rw [h]; rfl
theorem MJ {kn:List cm} {ay:Int} {x:db} {d:Nat} (h:jM kn ay x d=true):node1 kn ay x.op x.n x.m x.pl x.args.length=true/\fw kn ay x.args (d+1)=true:=by
 rw [zB] at h;exact Bool.and_eq_true_iff.1 (Bool.and_eq_true_iff.1 h).2
theorem w3 {kn:List cm} {ay:Int} {l:List cY} {d:Nat} (h:aG kn ay l d=true):fK kn ay l d=true:=by
 unfold aG at h; exact (Bool.and_eq_true_iff.1 (Bool.and_eq_true_iff.1 h).2).2
theorem MK {kn:List cm} {ay:Int} {x:cY} {d:Nat} (h:jl kn ay x d=true):e' kn ay x.op x.n x.m x.pl x.args.length x.body.length x.other.length=true/\fw kn ay x.args 1=true/\(x.op=4\/x.op=5->fK kn ay x.body (d+1)=true)/\fK kn ay x.other (d+1)=true:=by
 rw [zC] at h;obtain ⟨f,b⟩:=Bool.and_eq_true_iff.1 h;obtain ⟨b,a⟩:=Bool.and_eq_true_iff.1 b;obtain ⟨a,c⟩:=Bool.and_eq_true_iff.1 a;refine ⟨f,b,λe=>?_,?_⟩
 · rw [show nj x.op=true from by unfold nj; rcases e with e | e<;>rw [e]<;>decide] at a
   exact w3 (by simpa using a)
 · cases g:x.other with
   | nil=>rw [fK]
   | cons y r=>rw [g] at c; exact w3 (by simpa using c)
end Go.Bw
end
section
namespace Go.Bw
open Go
theorem Ez {l:List (List UInt8)} {x:List UInt8} {n:Nat} (h:x ∉ l) (a:l.length=n):dZ x (.int .i64 (n:Int)) (fR l 0) n=fR (l++[x]) 0/\gA x (fR l 0) n=n+1:=by
 subst a
 have b:cw x (fR l 0) 0=none:=by
   have:=wT x l 0 0;rw [n4.2 h] at this
   simpa using this
 unfold dZ gA;rw [b,zN];simp
theorem ML {ns:List (List UInt8)} {i:Nat} {x:List UInt8} (c:ns.Nodup) (b:ns[i]? = some x):x ∉ ns.take i:=λd=>by
 obtain ⟨j,a⟩:=List.getElem?_of_mem d;rw [List.getElem?_take] at a
 split at a
 · rename_i e
   have hi:=(List.getElem?_eq_some_iff.1 b).1;have:=(List.getElem?_inj hi c).1 (b.trans a.symm);omega
 · cases a
abbrev XI:=List Nat×(Option Addr×Nat)
def XI.cells (e:XI):List Value:=[.slice e.2.1 e.1.length e.2.2]
theorem XI.aj (e:XI):(XI.cells e).length=1:=rfl
structure KW where
 l:Option Addr×Nat
 u:Option Addr×Nat
 b:Option Addr×Nat
structure MN where
 w:Wm
 i:Option Addr×Nat
 o:Option Addr×Nat
 d:Option Addr×Nat
def MO (a:View) (b o:Nat) (x:List Nat):Prop:=∃r:Option Addr×Nat,bI a b o [.slice r.1 x.length r.2]/\Sl bZ 1 a r.1 r.2 x
structure V' (H:View) (P:Env) (D C:Nat) (s:MN):Prop where
 b':Sl o8 1 H s.i.1 s.i.2 s.w.b'
 out:s.w.out.length<=200
 tk:s.w.jo<=P.j7
 V_:s.w.data.length=D
 cl:s.w.calls=C
structure Wb (H:View) (n:Nat) (K:KW) (l:List bK) (j7:Nat):Prop where
 ok:Mo l
 j7:j7<=2000
 Wc:Sl (Mp n) 5 H K.l.1 K.l.2 l
 ak:Sl MO 1 H K.u.1 K.u.2 (Mn l)
 ui:Sl bZ 1 H K.b.1 K.b.2 (El l 0)
theorem XI.one (e:XI):(XI.cells e).all (·.oneCell')=true:=rfl
def Ac (J:View) (e:XI):Prop:=Sl bZ 1 J e.2.1 e.2.2 e.1
theorem MQ {a c:View} (hv:bw a c) (b o:Nat) (x:Nat) (h:bZ a b o x):bZ c b o x:=bI.mono hv h
theorem Ac.mv {a B:View} {e:XI} (hv:bw a B) (h:Ac a e):Ac B e:=Sl.imp (λb o x h=>MQ hv b o x h) h
structure Vw where
 i:Nat
 es:List XI
 ua:Option Addr×Nat
 ba:Option Addr×Nat
 J:View
end Go.Bw
end
section
namespace Go.Bw
open Go
def Sm {b α:Type} (g:b->b->Prop) (h:Wm->Wm->Prop) (X:Prop) (o:b->List Int) (i c:Rz b α):Prop:=match i with
 | .ok a s1=>∃s2,c = .ok a s2/\g s1 s2
 | .ov e d=>(∃f,c = .ov e f/\h d f)\/(X/\e=3/\c.all (λ_ s=>d.out <+: o s) (λw=>d.out <+: w.out))
def EA (w:Wm):Rz Wm Int:=match w.b' with | []=>.ok 0 w | x::r=>.ok x { w with b':=r }
structure MR (P1 P2:Env) (E G:Wm->Wm->Prop) (X:Prop):Prop where
 l:P1.l=P2.l
 ak:P1.ak=P2.ak
 ui:P1.ui=P2.ui
 eg:∀{a b},E a b->G a b
 data:∀{a b},E a b->a.data=b.data
 out:∀{a b},E a b->a.out=b.out
 calls:∀{a b},E a b->a.calls=b.calls
 tk:∀{a b},E a b->a.jo=b.jo/\a.jo<=P1.j7/\P1.j7<=P2.j7
 tick:∀{a b},E a b->Sm E G X (·.out) (Ej P1 a) (Ej P2 b)
 read:∀{a b},E a b->Sm E G X (·.out) (EA a) (EA b)
 Wf:∀{a b} d,E a b->E { a with data:=d } { b with data:=d }
 Wg:∀{a b} d,E a b->E { a with out:=d } { b with out:=d }
 Wh:∀{a b} d,E a b->E { a with calls:=d } { b with calls:=d }
section
variable {P1 P2:Env} {E G:Wm->Wm->Prop} {X:Prop}
abbrev SW {α:Type} (a b:Wm->Wm->Prop) (X:Prop) (c d:Rz Wm α):Prop:=Sm a b X (·.out) c d
structure EF (E:Wm->Wm->Prop) (f g:Fm):Prop where
 loc:f.loc=g.loc
 val:f.val=g.val
 w:E f.w g.w
abbrev SF {α:Type} (a b:Wm->Wm->Prop) (X:Prop) (c d:Rz Fm α):Prop:=Sm (EF a) b X (·.w.out) c d
theorem SW.bind (i:Env) {α β:Type} {b d:Rz Wm α} {f c:α->Wm->Rz Wm β} (h:SW E G X b d) (k:∀a s1 s2,E s1 s2->SW E G X (f a s1) (c a s2)) (m:∀a s,RK i s (c a s)):SW E G X (b.bind f) (d.bind c):=by
 cases b with
 | ok a s1=>obtain ⟨s2,rfl,j⟩:=h; exact k a s1 s2 j
 | ov e r=>
   rcases h with ⟨l,rfl,n⟩ | ⟨o,p,q⟩
   · exact .inl ⟨l,O,n⟩
   · refine .inr ⟨o,p,Rz.all_bind (Rz.oc q (λa s g=>?_) λ_ h=>h)⟩
     exact Rz.oc (m a s) (λ_ _ h=>g.trans h.pre) λ_ h=>g.trans h.pre
theorem SF.bind (i:Env) {α β:Type} {b c:Rz Fm α} {f d:α->Fm->Rz Fm β} (h:SF E G X b c) (k:∀a s1 s2,c = .ok a s2->EF E s1 s2->SF E G X (f a s1) (d a s2)) (m:∀a s,FK i s (d a s)):SF E G X (b.bind f) (c.bind d):=by
 cases b with
 | ok a s1=>obtain ⟨s2,rfl,j⟩:=h; exact k a s1 s2 rfl j
 | ov e r=>
   rcases h with ⟨l,rfl,n⟩ | ⟨o,p,q⟩
   · exact .inl ⟨l,O,n⟩
   · refine .inr ⟨o,p,Rz.all_bind (Rz.oc q (λa s g=>?_) λ_ h=>h)⟩
     exact Rz.oc (m a s) (λ_ _ h=>g.trans h.1.pre) λ_ h=>g.trans h.pre
theorem SF.fr {α:Type} {b c:Rz Wm α} {f g:Fm} (h:SW E G X b c) (d:EF E f g):SF E G X (Rz.fr f b) (Rz.fr g c):=by
 cases b with
 | ok a s1=>obtain ⟨s2,rfl,i⟩:=h; exact ⟨_,rfl,d.loc,d.val,i⟩
 | ov e o=>
   rcases h with ⟨j,rfl,k⟩ | ⟨l,m,n⟩
   · exact .inl ⟨j,O,k⟩
   · exact .inr ⟨l,m,Rz.Ew (Rz.oc n (λ_ _ h=>h) λ_ h=>h)⟩
theorem SW.ok {α:Type} (a:α) {s1 s2:Wm} (h:E s1 s2):SW E G X (.ok a s1) (.ok a s2):=⟨s2,rfl,h⟩
theorem SF.ok {α:Type} (a:α) {s1 s2:Fm} (h:EF E s1 s2):SF E G X (.ok a s1) (.ok a s2):=⟨s2,rfl,h⟩
theorem SW.ov {α:Type} (S:MR P1 P2 E G X) (e:Int) {s1 s2:Wm} (h:E s1 s2):SW (α:=α) E G X (.ov e s1) (.ov e s2):=.inl ⟨s2,rfl,S.eg h⟩
structure EE (P2:Env) (E G:Wm->Wm->Prop) (X:Prop) (k1 k2:Ev):Prop where
 go:∀loc {a b},E a b->SW E G X (k1 loc a) (k2 loc b)
 kp:EK P2 k2
structure CC (P2:Env) (E G:Wm->Wm->Prop) (X:Prop) (c1 c2:Cl):Prop where
 go:∀u loc body {a b},E a b->SW E G X (c1 u loc body a) (c2 u loc body b)
 kp:CK P2 c2
inductive KE (P2:Env) (E G:Wm->Wm->Prop) (X:Prop):List Ev->List Ev->Prop where
 | nil:KE P2 E G X [] []
 | cons {x y:Ev} {r q:List Ev} (h:EE P2 E G X x y) (t:KE P2 E G X r q):KE P2 E G X (x::r) (y::q)
theorem KE.kp:∀{b a:List Ev},KE P2 E G X b a->∀k ∈ a,EK P2 k
 | _,_,.nil,k,h=>by simp at h
 | _,_,.cons c d,k,h=>by
   rcases List.mem_cons.1 h with rfl | h
   · exact c.kp
   · exact KE.kp d k h
structure AA (P2:Env) (E G:Wm->Wm->Prop) (X:Prop) (b1 b2:Fm->Rz Fm Bool):Prop where
 go:∀{f g},EF E f g->SF E G X (b1 f) (b2 g)
 kp:∀f,FK P2 f (b2 f)
end
end Go.Bw
end
section
namespace Go.Bw
open Go
structure Wk (j7:Nat) (a b:Wm):Prop where
 data:a.data=b.data
 out:a.out=b.out
 jo:a.jo=b.jo
 calls:a.calls=b.calls
 tl:a.jo<=j7
 b':b.b'=a.b'++[0]\/(a.b'=[]/\b.b'=[])
end Go.Bw
end
section
namespace Go.Bw
open Go
structure Ren (l l':List aZ) (f:Nat->Nat):Prop where
 len:l'.length=l.length
 inv:∀k,f (f k)=k
 lt:∀k,k<l.length->f k<l.length
 get:∀k,k<l.length->l'[f k]? = l[k]?
theorem Ren.nm {l a:List aZ} {f:Nat->Nat} (h:Ren l a f) {k:Nat} (b:k<l.length):aM a (f k)=aM l k:=by unfold aM; rw [h.get k b]
theorem Ren.us {l a:List aZ} {f:Nat->Nat} (h:Ren l a f) {k:Nat} (b:k<l.length):bO a (f k)=bO l k:=by unfold bO; rw [h.get k b]
theorem Ren.back {l b:List aZ} {f:Nat->Nat} (h:Ren l b f):Ren b l f:=⟨h.len.symm,h.inv,λk a=>by rw [h.len] at a ⊢; exact h.lt k a,λk a=>by
 rw [h.len] at a;have:=h.get (f k) (h.lt k a);rw [h.inv] at this
 exact this.symm⟩
theorem Ren.mem {l b:List aZ} {f:Nat->Nat} (h:Ren l b f) {m:aZ} (c:m ∈ l):m ∈ b:=by
 obtain ⟨k,a⟩:=List.getElem?_of_mem c;have d:=(List.getElem?_eq_some_iff.1 a).1;rw [<-h.get k d] at a;exact List.mem_of_getElem? a
theorem Ren.nodup {l b:List aZ} {f:Nat->Nat} (h:Ren l b f) (m:(fL l).Nodup):(fL b).Nodup:=by
 unfold List.Nodup;rw [List.pairwise_iff_getElem];intro i j hi a p e;rw [qd] at hi a
 have k:aM b i=aM b j:=by
   have c:=sF (List.getElem?_eq_getElem hi);have d:=sF (List.getElem?_eq_getElem a);rw [List.getElem?_eq_getElem (by rw [qd]; exact hi)] at c;rw [List.getElem?_eq_getElem (by rw [qd]; exact a)] at d
   injection c with c
   injection d with d
   rw [n6 (List.getElem?_eq_getElem hi),n6 (List.getElem?_eq_getElem a),<-c,<-d,e]
 have g:=h.back;rw [<-g.nm hi,<-g.nm a] at k;have n:=ia m (by have:=g.lt i hi; rw [h.len] at this; exact this) (by have:=g.lt j a; rw [h.len] at this; exact this) k;have o:=congrArg f n;rw [h.inv,h.inv] at o;omega
theorem Ren.place {l a:List aZ} {f:Nat->Nat} (h:Ren l a f) (d:(fL l).Nodup) {s:List UInt8} {p:Nat} (e:hn l s=some p):hn a s=some (f p):=by
 obtain ⟨b,g⟩:=D_ e;have c:=L9 (h.nodup d) (i:=f p) (by rw [h.len]; exact h.lt p b);rw [h.nm b,g] at c;exact c
theorem Ren.ok {l c:List aZ} {f:Nat->Nat} (h:Ren l c f) (a:sE l):sE c:=
 ⟨by rw [h.len]; exact a.d',λm b=>a.o_ m (h.back.mem b),h.nodup a.nd,λm b s d=>by
   obtain ⟨p,e⟩:=a.ak m (h.back.mem b) s d
   exact ⟨f p,h.place a.nd e⟩⟩
theorem Ren.contains {l a:List aZ} {f:Nat->Nat} (h:Ren l a f) (d:List Nat) (x:Nat):(d.map f).contains (f x)=d.contains x:=by
 rw [Bool.eq_iff_iff];simp only [List.contains_iff_mem,List.mem_map]
 constructor
 · rintro ⟨y,b,e⟩
   have:=congrArg f e;rw [h.inv,h.inv] at this;rw [<-this]; exact b
 · exact λc=>⟨x,c,O⟩
theorem Ren.ready {l b:List aZ} {f:Nat->Nat} (h:Ren l b f) (e:sE l) (d:List Nat) {x:Nat} (c:x<l.length):kr b (d.map f) (f x)=kr l d x:=by
 unfold kr;rw [h.contains,h.us c]
 congr 1
 have key:∀u:List (List UInt8),(∀s ∈ u,∃p,hn l s=some p)->u.all (i' b (d.map f))=u.all (i' l d):=by
   intro u
   induction u with
   | nil=>intro _; rfl
   | cons s r j=>
     intro g;obtain ⟨p,i⟩:=g s (by simp);rw [List.all_cons,List.all_cons,j λs a=>g s (by simp [a])]
     congr 1
     unfold i';rw [i,h.place e.nd i];exact h.contains d p
 refine key _ λs a=>?_;rw [od (List.getElem?_eq_getElem c)] at a;exact e.ak _ (List.getElem_mem c) s a
end Go.Bw
end
section
namespace Go.Bw
open Go
def l5 (a b:List Bool):Prop:=∀j:Nat,a[j]? = some true->b[j]? = some true
theorem l5.refl (a:List Bool):l5 a a:=λ_ h=>h
theorem l5.count:∀{a b:List Bool},a.length=b.length->l5 a b->a.count true<=b.count true/\(b.count true<=a.count true->a=b)
 | [],[],_,_=>⟨Nat.le_refl _,λ_=>rfl⟩
 | [],_::_,h,_=>by cases h
 | _::_,[],h,_=>by cases h
 | x::a,y::b,h,c=>by
   obtain ⟨d,f⟩:=l5.count (a:=a) (b:=b) (by simpa using h) λj g=>by simpa using c (j+1) (by simpa using g)
   have i:x=true->y=true:=λe=>by simpa using c 0 (by simp [e])
   cases x<;>cases y<;>simp at i ⊢
   · exact ⟨d,f⟩
   · exact ⟨by omega,by omega⟩
   · exact ⟨d,f⟩
theorem l5.set (a:List Bool) (p:Nat):l5 a (a.set p true):=λj h=>by
 have b:=(List.getElem?_eq_some_iff.1 h).1;rw [List.getElem?_set]
 by_cases e:p=j
 · subst e; simp [b]
 · rw [if_neg e]; exact h
theorem l5.trans {a b c:List Bool} (h:l5 a b) (k:l5 b c):l5 a c:=λj d=>k j (h j d)
def Ad (l:List aZ) (nm:List UInt8) (S:List Bool) (j:Nat):Prop:=S[j]? = some true\/aM l j=nm
def sP (l:List aZ) (S:List Bool) (s:List UInt8):Prop:=∃p,hn l s=some p/\S[p]? = some true
theorem sP.sub {l:List aZ} {a b:List Bool} {s:List UInt8} (h:sP l a s) (c:l5 a b):sP l b s:=let ⟨p,d,e⟩:=h; ⟨p,d,c p e⟩
def MW (l:List aZ) (nm:List UInt8) (S:List Bool):Prop:=∀j,j<l.length->Ad l nm S j->∀s ∈ bO l j,sP l S s
structure MX (l:List aZ) (nm:List UInt8) (S:List Bool):Prop where
 len:S.length=l.length
 sound:∀j,S[j]? = some true->Go.Bw.Reach l nm (aM l j)
structure Ae (l:List aZ) (nm:List UInt8) (S0 S:List Bool) (j:Nat):Prop where
 ok:MX l nm S
 sub:l5 S0 S
 same:MW l nm S0->S=S0
 done:∀i,i<j->Ad l nm S0 i->∀s ∈ bO l i,sP l S s
theorem Ae.next {l:List aZ} {nm:List UInt8} {a S:List Bool} {j:Nat} (h:Ae l nm a S j) (d:Ad l nm a j->∀s ∈ bO l j,sP l S s):Ae l nm a S (j+1):=
 ⟨h.ok,h.sub,h.same,λi hi c=>by
   rcases Nat.lt_succ_iff_lt_or_eq.1 hi with b | b
   · exact h.done i b c
   · subst b; exact d c⟩
def MY (a b:List UInt8):Prop:=h0 a b=true
def MZ (l:List aZ) (S:List Bool) (i:Nat):List (List UInt8):=((List.range i).filter λj=>(S[j]?).getD false).map (aM l)
structure Vy (l:List aZ) (S:List Bool) (i:Nat) (out:List (List UInt8)):Prop where
 perm:out.Perm (MZ l S i)
 up:lu MY out out.length
open Go.ChangeShapes Go.WideShapes Go.ChangeAt Go.RowKit Go.Joins Go.Deep
theorem open_strs {P:Program} {e:Type} {enc:TypeId×Value->e} {w:World} {base:Nat} {i:Nat->Bool} {n:Bool} (j:eV e) {f g:TypeId} (uT:P.underlying f=some .string) (p:P.cellsOf f=1) (s:∀b,i b=true) (uS:P.underlying g=some (.slice f))
   {r:_root_.Go.Reach} {t:Nat} {v:Value} {x:DataW e} {pl:List MemPlace} (u:Value.okWide P w r t g v) (h:DataW.Trod enc P w base i n g v x pl):∃(a:Option Addr) (c:Nat) (l:List (List UInt8)),v = .slice a l.length c/\Sl rdStr 1 (hv w) a c l:=by
 obtain ⟨a,k,c,rfl⟩:=okWide_slice uS u;obtain ⟨fuel,h⟩:=h
 obtain ⟨a,c,l,z,A,_⟩:=LI (rd:=rdStr) j (λ_=>0) (λ_=>0) rfl (λ_ _=>rfl) uS p (by omega) s (λE m y F B C=>by
   obtain ⟨d,rfl⟩:∃d,m=[d]:=by
     match m,C with
     | [d],_=>exact ⟨d,rfl⟩
   obtain ⟨q,rfl,_⟩:=LH j uT B
   exact ⟨q,λb o D=>D,Nat.zero_le _⟩) h
 exact ⟨a,c,l,z,A⟩
end Go.Bw
end
section
namespace Go.Bw
open Go
structure mB where
 w:Wm
 fin:Int
 i:Option Addr×Nat
 o:Option Addr×Nat
def iG {α:Type} (r:Rz Wm α) (v:α) (t:mB):Prop:=(t.fin=0/\r = .ok v t.w)\/(t.fin≠0/\∃c,r = .ov t.fin { t.w with calls:=c })
def M0 {α:Type} (s:mB) (r:Rz Wm α) (v:α) (t:mB):Prop:=(s.fin≠0/\t=s)\/(s.fin=0/\iG r v t)
theorem iG.ok {α:Type} {r:Rz Wm α} {v:α} {t:mB} (a:t.fin=0) (h:r = .ok v t.w):iG r v t:=.inl ⟨a,h⟩
theorem iG.ov {α:Type} {r:Rz Wm α} {v:α} {t:mB} {c:Nat} (a:t.fin≠0) (h:r = .ov t.fin { t.w with calls:=c }):iG r v t:=.inr ⟨a,c,h⟩
theorem iG.get {α:Type} {r:Rz Wm α} {v:α} {t:mB} (h:iG r v t) (a:t.fin=0):r = .ok v t.w:=by
 rcases h with ⟨_,h⟩ | ⟨h,_⟩
 · exact h
 · exact absurd a h
theorem iG.out {α β:Type} {r:Rz Wm α} {v:α} {t:mB} (h:iG r v t) (a:t.fin≠0) (f:α->Wm->Rz Wm β) (b:β):iG (r.bind f) b t:=by
 rcases h with ⟨h,_⟩ | ⟨_,c,h⟩
 · exact absurd h a
 · exact .inr ⟨a,c,Ab h⟩
theorem iG.same {α:Type} {r:Rz Wm α} {v b:α} {t:mB} (h:iG r v t) (a:t.fin≠0):iG r b t:=by
 rcases h with ⟨h,_⟩ | ⟨_,h⟩
 · exact absurd h a
 · exact .inr ⟨a,h⟩
theorem iG.then {α β:Type} {r:Rz Wm α} {v:α} {t c:mB} {f:α->Wm->Rz Wm β} {b:β} (h:iG r v t) (k:M0 t (f v t.w) b c):iG (r.bind f) b c:=by
 rcases k with ⟨a,rfl⟩ | ⟨a,d⟩
 · exact h.out a f b
 · rw [Ey (h.get a)]; exact d
theorem iG.map {α β:Type} {r:Rz Wm α} {v:α} {t:mB} (f:α->β) (h:iG r v t):iG (r.bind λv w=>.ok (f v) w) (f v) t:=by
 rcases h with ⟨a,h⟩ | ⟨a,c,h⟩
 · exact .inl ⟨a,Ey h⟩
 · exact .inr ⟨a,c,Ab h⟩
def M1 (r:Rz Fm Bool) (d:Bool) (loc:List Int) (v:Int) (t:mB):Prop:=(t.fin=0/\r = .ok d ⟨loc,v,t.w⟩)\/(t.fin≠0/\∃c,r = .ov t.fin { t.w with calls:=c })
theorem iG.fr {α:Type} {r:Rz Wm α} {x:α} {t:mB} {loc:List Int} {v:Int} {w:Wm} {f:α->Fm->Rz Fm Bool} {d:Bool} {b:List Int} {e:Int} (h:iG r x t) (a:t.fin≠0):M1 ((Rz.fr ⟨loc,v,w⟩ r).bind f) d b e t:=by
 rcases h with ⟨h,_⟩ | ⟨_,c,h⟩
 · exact absurd h a
 · exact .inr ⟨a,c,Ab (MI h)⟩
end Go.Bw
end
section
namespace Go.Bw
open Go
structure og (ks ED:List cm):Prop where
 d:∀m pl n,iD ks m pl n=true->iD ED m pl n=true
 p:∀m pl n,jk ks m pl n=true->jk ED m pl n=true
theorem M3 {ks e:List cm} (h:og ks e) {ay op n m pl:Int} {len:Nat} (c:node1 ks ay op n m pl len=true):node1 e ay op n m pl len=true:=by
 unfold node1 at c ⊢
 by_cases f:op=1
 · rw [if_pos f] at c ⊢; exact c
 rw [if_neg f] at c ⊢
 by_cases g:op=3
 · rw [if_pos g] at c ⊢; obtain ⟨a,b⟩:=Bool.and_eq_true_iff.1 c; exact Bool.and_eq_true_iff.2 ⟨a,h.d _ _ _ b⟩
 rw [if_neg g] at c ⊢
 by_cases i:op=4
 · rw [if_pos i] at c ⊢; obtain ⟨a,b⟩:=Bool.and_eq_true_iff.1 c; exact Bool.and_eq_true_iff.2 ⟨a,h.d _ _ _ b⟩
 rw [if_neg i] at c ⊢
 by_cases j:op=5
 · rw [if_pos j] at c ⊢; obtain ⟨a,b⟩:=Bool.and_eq_true_iff.1 c; exact Bool.and_eq_true_iff.2 ⟨a,h.p _ _ _ b⟩
 rw [if_neg j] at c ⊢;exact c
theorem M4 {ks e:List cm} (h:og ks e) {ay op n m pl:Int} {na f g:Nat} (c:e' ks ay op n m pl na f g=true):e' e ay op n m pl na f g=true:=by
 unfold e' at c ⊢
 by_cases i:op=1
 · rw [if_pos i] at c ⊢; obtain ⟨a,b⟩:=Bool.and_eq_true_iff.1 c; exact Bool.and_eq_true_iff.2 ⟨a,Bool.or_eq_true_iff.2 ((Bool.or_eq_true_iff.1 b).imp id (h.d _ _ _))⟩
 rw [if_neg i] at c ⊢
 by_cases j:op=2
 · rw [if_pos j] at c ⊢; obtain ⟨a,b⟩:=Bool.and_eq_true_iff.1 c; exact Bool.and_eq_true_iff.2 ⟨a,h.d _ _ _ b⟩
 rw [if_neg j] at c ⊢
 by_cases k:op=3
 · rw [if_pos k] at c ⊢; obtain ⟨a,b⟩:=Bool.and_eq_true_iff.1 c; exact Bool.and_eq_true_iff.2 ⟨a,h.p _ _ _ b⟩
 rw [if_neg k] at c ⊢;exact c
mutual
theorem M5 {ks b:List cm} (h:og ks b) (ay:Int):∀(x:db) (d:Nat),jM ks ay x d=true->jM b ay x d=true
 | .mk op n m pl args,d,a=>by
   rw [jM] at a ⊢;simp only [Bool.and_eq_true] at a ⊢;exact ⟨a.1,M3 h a.2.1,Af h ay args (d+1) a.2.2⟩
theorem Af {ks b:List cm} (h:og ks b) (ay:Int):∀(l:List db) (d:Nat),fw ks ay l d=true->fw b ay l d=true
 | [],d,_=>by rw [fw]
 | x::r,d,a=>by
   rw [fw] at a ⊢;simp only [Bool.and_eq_true] at a ⊢;exact ⟨M5 h ay x d a.1,Af h ay r d a.2⟩
end
mutual
theorem M6 {ks c:List cm} (h:og ks c) (ay:Int):∀(x:cY) (d:Nat),jl ks ay x d=true->jl c ay x d=true
 | .mk op n m pl args body other,d,b=>by
   rw [jl] at b ⊢;simp only [Bool.and_eq_true,Bool.or_eq_true] at b ⊢;exact ⟨M4 h b.1,Af h ay args 1 b.2.1,b.2.2.1.imp id λa=>⟨a.1,a.2.1,w7 h ay body (d+1) a.2.2⟩,b.2.2.2.imp id λa=>⟨a.1,a.2.1,w7 h ay other (d+1) a.2.2⟩⟩
theorem w7 {ks b:List cm} (h:og ks b) (ay:Int):∀(l:List cY) (d:Nat),fK ks ay l d=true->fK b ay l d=true
 | [],d,_=>by rw [fK]
 | x::r,d,a=>by
   rw [fK] at a ⊢;simp only [Bool.and_eq_true] at a ⊢;exact ⟨M6 h ay x d a.1,w7 h ay r d a.2⟩
end
theorem q6 {ks b:List cm} (h:og ks b) {ay:Int} {l:List cY} {d:Nat} (a:aG ks ay l d=true):aG b ay l d=true:=by
 unfold aG at a ⊢;simp only [Bool.and_eq_true] at a ⊢;exact ⟨a.1,a.2.1,w7 h ay l d a.2.2⟩
theorem M7 {ks b:List cm} (h:og ks b) {p:hk} (a:jm ks p=true):jm b p=true:=by
 unfold jm at a ⊢;simp only [Bool.and_eq_true] at a ⊢;exact ⟨a.1,q6 h a.2⟩
theorem M8 {u:bK} {kn b:List cm} (h:og (c7 u::kn) (c7 u::b)) (a:gq u kn=true):gq u b=true:=by
 unfold gq at a ⊢;simp only [Bool.and_eq_true,List.all_eq_true] at a ⊢;exact ⟨a.1,a.2.1,λp c=>M7 h (a.2.2.1 p c),q6 h a.2.2.2⟩
def iQ (k:cm):Prop:=k.lZ=true->k.data<=512/\k.parts.length<=6/\∀x ∈ k.parts,x<=3
theorem M9 {b:cm} {kn:List cm} (h:∀k ∈ kn,iQ k):og (b::kn) (b::List.replicate kn.length jL):=by
 have r:(b::List.replicate kn.length jL).length=(b::kn).length:=by simp
 constructor
 · intro m pl n a
   have d:bh (b::kn) m pl=false:=by
     cases i:bh (b::kn) m pl with
     | false=>rfl
     | true=>rw [h1 n i] at a; cases a
   have f:bh (b::List.replicate kn.length jL) m pl=false:=by unfold bh at d ⊢; rw [r]; exact d
   obtain ⟨⟨g,rfl,l⟩,_,_⟩:=wO d;obtain ⟨k,c⟩:∃k,(b::kn)[g]? = some k:=⟨_,List.getElem?_eq_getElem l⟩;rw [rn d c] at a
   cases g with
   | zero=>
     have e:b=k:=by simpa using c
     subst e;rw [rn f (k:=b) rfl]; exact a
   | succ j=>
     rw [List.getElem?_cons_succ] at c;have o:j<kn.length:=(List.getElem?_eq_some_iff.1 c).1;rw [rn f (k:=jL) (by rw [List.getElem?_cons_succ,List.getElem?_replicate,if_pos o]),if_neg (by decide)];have q:=h k (List.mem_of_getElem? c)
     split at a
     · rename_i hi
       have:=(q hi).1;have a:=of_decide_eq_true a;rw [decide_eq_true (show pl+n<=512 by omega)]; simp
     · exact a
 · intro m pl n a
   have d:j6 (b::kn) m pl=false:=by
     cases i:j6 (b::kn) m pl with
     | false=>rfl
     | true=>rw [h8 n i] at a; cases a
   have f:j6 (b::List.replicate kn.length jL) m pl=false:=by unfold j6 at d ⊢; rw [r]; exact d
   obtain ⟨⟨g,rfl,l⟩,p,rfl⟩:=wQ d;obtain ⟨k,c⟩:∃k,(b::kn)[g]? = some k:=⟨_,List.getElem?_eq_getElem l⟩;rw [o' d c] at a
   cases g with
   | zero=>
     have e:b=k:=by simpa using c
     subst e;rw [o' f (k:=b) rfl]; exact a
   | succ j=>
     rw [List.getElem?_cons_succ] at c;have o:j<kn.length:=(List.getElem?_eq_some_iff.1 c).1;rw [o' f (k:=jL) (by rw [List.getElem?_cons_succ,List.getElem?_replicate,if_pos o]),if_neg (by decide)];have q:=h k (List.mem_of_getElem? c)
     split at a
     · rename_i hi
       obtain ⟨_,u,s⟩:=q hi;simp only [Bool.and_eq_true,decide_eq_true_eq,beq_iff_eq,Int.toNat_natCast] at a
       have t:p<k.parts.length:=by omega
       have s:=s _ (List.getElem_mem t);rw [List.getElem?_eq_getElem t] at a;have e:=a.2;simp at e;simp only [Bool.and_eq_true,decide_eq_true_eq];omega
     · exact a
theorem Ah {u:bK} {kn:List cm} (h:gq u kn=true):iQ (c7 u):=by
 intro _;obtain ⟨b,e,a,f⟩:=wV h;unfold lr at a;simp only [Bool.or_eq_false_iff,decide_eq_false_iff_not] at a;refine ⟨by show u.data<=512; omega,by show (u.parts.map (·.params)).length<=6; rw [List.length_map]; omega,λx c=>?_⟩;obtain ⟨p,d,rfl⟩:=List.mem_map.1 c;exact (zW (b p d)).2.1
end Go.Bw
end
section
namespace Go.Bw
open Go
def ja (i:bG):Prop:=1<=i.op/\i.op<=22
def rk (U:Nat) (Pk:Int->Int->Prop) (b:List Nat) (lo:Nat) (c:List bG) (f:eI):Prop:=
 ∃(p:Nat) (i:bG),f.at_=(p:Int)/\c[p]? = some i/\lo<=p/\
   ((f.kind=1/\f.m=0/\(p ∈ b\/((lo:Int)<=i.a/\i.a<=(c.length:Int))))\/((f.kind=2\/f.kind=3)/\p ∉ b/\0<=f.m/\f.m<=(U:Int)/\0<=i.a/\i.a<=2048/\(f.kind=2->Pk f.m i.a)))
structure Ap (U:Nat) (Pk:Int->Int->Prop) (pd:List Nat) (g g':Gs):Prop where
 w8:∀p ∈ pd,g.code.length<=p/\p<g'.code.length
 more:∃c fx,g'.code=g.code++c/\g'.fix=g.fix++fx/\(∀i ∈ c,ja i)/\(∀f ∈ fx,rk U Pk pd g.code.length g'.code f)/\fx.Pairwise λa b=>a.at_<b.at_
theorem Ap.refl (U:Nat) (Pk:Int->Int->Prop) (g:Gs):Ap U Pk [] g g:=⟨by simp,[],[],by simp,by simp,by simp,by simp,.nil⟩
theorem Ap.lo {U:Nat} {Pk:Int->Int->Prop} {b:List Nat} {g a:Gs} (h:Ap U Pk b g a):g.code.length<=a.code.length:=by
 obtain ⟨c,fx,d,_⟩:=h.more;rw [d]; simp
theorem Ap.trans {U:Nat} {Pk:Int->Int->Prop} {pa pb:List Nat} {g r s:Gs} (h:Ap U Pk pa g r) (k:Ap U Pk pb r s):Ap U Pk (pa++pb) g s:=by
 have K:=h.lo;have L:=k.lo;have t:=h.w8;have u:=k.w8;obtain ⟨c,fx,z,A,B,v,C⟩:=h.more;obtain ⟨D,E,w,F,G,y,H⟩:=k.more;refine ⟨λp l=>?_,c++D,fx++E,by rw [w,z,List.append_assoc],by rw [F,A,List.append_assoc],?_,?_,?_⟩
 · rcases List.mem_append.1 l with l | l
   · have:=t p l; omega
   · have:=u p l; omega
 · intro i hi
   rcases List.mem_append.1 hi with hi | hi
   · exact B i hi
   · exact G i hi
 · intro f o
   rcases List.mem_append.1 o with o | o
   · obtain ⟨p,i,a1,a2,a3,a4⟩:=v f o
     have l:p<r.code.length:=(List.getElem?_eq_some_iff.1 a2).1;refine ⟨p,i,a1,by rw [w,List.getElem?_append_left l]; exact a2,a3,?_⟩
     rcases a4 with ⟨e,m,n⟩ | ⟨e,m,n⟩
     · exact .inl ⟨e,m,n.imp (λx=>List.mem_append_left _ x) λx=>⟨x.1,by omega⟩⟩
     · refine .inr ⟨e,λd=>?_,n⟩
       rcases List.mem_append.1 d with d | d
       · exact m d
       · have:=(u p d).1; omega
   · obtain ⟨p,i,a1,a2,a3,a4⟩:=y f o
     refine ⟨p,i,a1,a2,by omega,?_⟩
     rcases a4 with ⟨e,m,n⟩ | ⟨e,m,n⟩
     · exact .inl ⟨e,m,n.imp (λx=>List.mem_append_right _ x) λx=>⟨by omega,x.2⟩⟩
     · refine .inr ⟨e,λd=>?_,n⟩
       rcases List.mem_append.1 d with d | d
       · have:=(t p d).2; omega
       · exact m d
 · refine List.pairwise_append.2 ⟨C,H,λa I b J=>?_⟩
   obtain ⟨p,i,a1,a2,a3,_⟩:=v a I;obtain ⟨q,j,e,m,n,_⟩:=y b J;have l:p<r.code.length:=(List.getElem?_eq_some_iff.1 a2).1;rw [a1,e]; omega
theorem EH (U:Nat) (Pk:Int->Int->Prop) (l:List bG) (g:Gs) (a:∀i ∈ l,ja i):Ap U Pk [] g (bt l g):=⟨by simp,l,[],rfl,by simp [bt],a,by simp,.nil⟩
theorem j8 (U:Nat) (Pk:Int->Int->Prop) (i:bG) (g:Gs) (a:ja i):Ap U Pk [] g (bt [i] g):=EH U Pk [i] g (by simpa using a)
theorem w9 (i:bG) (k m:Int) (g:Gs):(aQ i k m g).code.length=g.code.length+1:=by simp [aQ]
theorem ru (U:Nat) (Pk:Int->Int->Prop) (i:bG) (g:Gs) (hi:ja i):Ap U Pk [g.code.length] g (aQ i 1 0 g):=by
 refine ⟨λp a=>?_,[i],[⟨(g.code.length:Int),1,0⟩],O,O,by simpa using hi,λf b=>?_,List.pairwise_singleton _ _⟩
 · have:=List.mem_singleton.1 a; subst this; rw [w9]; omega
 · have:=List.mem_singleton.1 b; subst this
   exact ⟨g.code.length,i,O,by simp [aQ],Nat.le_refl _,.inl ⟨O,O,.inl (by simp)⟩⟩
theorem M' (U:Nat) (Pk:Int->Int->Prop) {i:bG} {l g:Gs} {q:List Nat} (h:Ap U Pk q l g) (hi:ja i) (B:i.a=(l.code.length:Int)):Ap U Pk q l (aQ i 1 0 g):=by
 have s:=h.lo;have t:=h.w8;obtain ⟨c,fx,u,v,w,r,y⟩:=h.more;refine ⟨λp k=>?_,c++[i],fx++[⟨(g.code.length:Int),1,0⟩],by show g.code++[i]=_; rw [u,List.append_assoc],by show g.fix++_=_; rw [v,List.append_assoc],?_,λf d=>?_,?_⟩
 · rw [w9]; have:=t p k; omega
 · intro j e
   rcases List.mem_append.1 e with e | e
   · exact w j e
   · have:=List.mem_singleton.1 e; subst this; exact hi
 · rcases List.mem_append.1 d with d | d
   · obtain ⟨p,j,a1,a2,a3,a4⟩:=r f d
     have k:p<g.code.length:=(List.getElem?_eq_some_iff.1 a2).1;refine ⟨p,j,a1,by show (g.code++[i])[p]? = _; rw [List.getElem?_append_left k]; exact a2,a3,?_⟩
     rcases a4 with ⟨m,n,o⟩ | ⟨m,n,o⟩
     · exact .inl ⟨m,n,o.imp id λx=>⟨x.1,by rw [w9]; omega⟩⟩
     · exact .inr ⟨m,n,o⟩
   · have:=List.mem_singleton.1 d; subst this
     exact ⟨g.code.length,i,O,by simp [aQ],s,.inl ⟨O,O,.inr ⟨by omega,by rw [w9]; omega⟩⟩⟩
 · refine List.pairwise_append.2 ⟨y,List.pairwise_singleton _ _,λa z b A=>?_⟩
   obtain ⟨p,j,a1,a2,a3,_⟩:=r a z;have k:p<g.code.length:=(List.getElem?_eq_some_iff.1 a2).1;have:=List.mem_singleton.1 A; subst this;rw [a1]; show (p:Int)<(g.code.length:Int); omega
theorem sQ {U:Nat} {Pk:Int->Int->Prop} {i:bG} {k m:Int} (g:Gs) (hi:ja i) (d:k=2\/k=3) (b:0<=m/\m<=(U:Int)) (c:0<=i.a/\i.a<=2048) (e:k=2->Pk m i.a):Ap U Pk [] g (aQ i k m g):=by
 refine ⟨by simp,[i],[⟨(g.code.length:Int),k,m⟩],O,O,by simpa using hi,λf h=>?_,List.pairwise_singleton _ _⟩;have:=List.mem_singleton.1 h; subst this;exact ⟨g.code.length,i,O,by simp [aQ],Nat.le_refl _,.inr ⟨d,by simp,b.1,b.2,c.1,c.2,e⟩⟩
theorem M_ (n:Nat) (g:Gs):(cS n g).code.length=g.code.length:=by simp [cS]
theorem ql {U:Nat} {Pk:Int->Int->Prop} {pa pb:List Nat} {n:Nat} {g b:Gs} (h:Ap U Pk (pa++n::pb) g b):Ap U Pk (pa++pb) g (cS n b):=by
 have D:=h.lo;have u:=h.w8;obtain ⟨c,fx,r,w,y,z,A⟩:=h.more;obtain ⟨E,F⟩:=u n (by simp)
 have q (p:Nat):(cS n b).code[p]? = if n=p then (b.code[p]?).map (λi=>{ i with a:=(b.code.length:Int) }) else b.code[p]?:=by
   show (b.code.modify n _)[p]? = _
   rw [List.getElem?_modify]
   by_cases e:n=p
   · subst e; simp
   · rw [if_neg e]; simp [e]
 have s:(cS n b).code.length=b.code.length:=M_ n b
 have G:b.code.length=g.code.length+c.length:=by rw [r]; simp
 refine ⟨λp d=>?_,(cS n b).code.drop g.code.length,fx,?_,w,?_,λf B=>?_,A⟩
 · have:p ∈ pa++n::pb:=by
     rcases List.mem_append.1 d with d | d
     · exact List.mem_append_left _ d
     · exact List.mem_append_right _ (List.mem_cons_of_mem _ d)
   rw [s]; exact u p this
 · have C:(cS n b).code.take g.code.length=g.code:=by
     refine List.ext_getElem? λp=>?_;rw [List.getElem?_take]
     split
     · rename_i d
       rw [q p,if_neg (by omega),r,List.getElem?_append_left d]
     · rename_i d
       rw [List.getElem?_eq_none (by omega)]
   rw [<-List.take_append_drop g.code.length (cS n b).code,C];rw [List.drop_append_of_le_length (Nat.le_refl _),List.drop_length,List.nil_append]
 · intro i hi
   obtain ⟨j,k⟩:=List.getElem?_of_mem hi;rw [List.getElem?_drop,q] at k
   have v:∀x,b.code[g.code.length+j]? = some x->ja x:=λx m=>by
     rw [r,List.getElem?_append_right (by omega)] at m;exact y x (List.mem_of_getElem? m)
   split at k
   · cases m:b.code[g.code.length+j]? with
     | none=>rw [m] at k; cases k
     | some x=>rw [m] at k; simp at k; subst k; exact v x m
   · exact v i k
 · obtain ⟨p,i,a1,a2,a3,a4⟩:=z f B
   by_cases e:n=p
   · subst e
     refine ⟨n,{ i with a:=(b.code.length:Int) },a1,by rw [q,if_pos O,a2]; rfl,a3,?_⟩
     rcases a4 with ⟨o,l,_⟩ | ⟨_,l,_⟩
     · exact .inl ⟨o,l,.inr ⟨by show (g.code.length:Int)<=(b.code.length:Int); omega,by rw [s]; exact Int.le_refl _⟩⟩
     · exact absurd (by simp) l
   · refine ⟨p,i,a1,by rw [q,if_neg e]; exact a2,a3,?_⟩
     rw [s]
     rcases a4 with ⟨o,l,t⟩ | ⟨o,l,t⟩
     · refine .inl ⟨o,l,t.imp (λx=>?_) id⟩
       rcases List.mem_append.1 x with x | x
       · exact List.mem_append_left _ x
       · rcases List.mem_cons.1 x with x | x
         · exact absurd x.symm e
         · exact List.mem_append_right _ x
     · refine .inr ⟨o,λx=>l ?_,t⟩
       rcases List.mem_append.1 x with x | x
       · exact List.mem_append_left _ x
       · exact List.mem_append_right _ (List.mem_cons_of_mem _ x)
end Go.Bw
end
section
namespace Go.Bw
open Go
theorem fO {k a b:Int} (c:1<=k) (d:k<=22):ja ⟨k,a,b⟩:=⟨c,d⟩
structure pf (U:Nat) (Pk:Int->Int->Prop) (ks:List cm):Prop where
 len:ks.length=U+1
 small:∀k ∈ ks,k.lZ=true->k.parts.length<=2048
 call:∀m a n,jk ks m a n=true->Pk m a
theorem ix {U:Nat} {Pk:Int->Int->Prop} {ks:List cm} (b:pf U Pk ks) {m pl n:Int} (h:iD ks m pl n=true):(0<=m/\m<=(U:Int))/\0<=pl/\pl<=2048:=by
 cases a:bh ks m pl with
 | true=>rw [h1 n a] at h; cases h
 | false=>
   obtain ⟨⟨d,rfl,e⟩,c,f⟩:=wO a;have:=b.len;exact ⟨⟨by omega,by omega⟩,c,by omega⟩
theorem EI {U:Nat} {Pk:Int->Int->Prop} {ks:List cm} (b:pf U Pk ks) {m pl n:Int} (h:jk ks m pl n=true):(0<=m/\m<=(U:Int))/\0<=pl/\pl<=2048:=by
 cases a:j6 ks m pl with
 | true=>rw [h8 n a] at h; cases h
 | false=>
   obtain ⟨⟨d,rfl,e⟩,p,rfl⟩:=wQ a;have f:=b.len;obtain ⟨k,c⟩:∃k,ks[d]? = some k:=⟨_,List.getElem?_eq_getElem e⟩;rw [o' a c] at h;refine ⟨⟨by omega,by omega⟩,by omega,?_⟩
   split at h
   · rename_i hi
     have:=b.small k (List.mem_of_getElem? c) hi;simp only [Bool.and_eq_true,decide_eq_true_eq] at h;omega
   · simp only [Bool.and_eq_true,decide_eq_true_eq] at h
     omega
theorem uu {U:Nat} {Pk:Int->Int->Prop}:∀{ks:List Gk} (h:∀(i:Nat) k,ks[i]? = some k->∀g,Ap U Pk [] g (k g)) (g:Gs),Ap U Pk [] g (qg ks g)
 | [],h,g=>.refl U Pk g
 | k::r,h,g=>(h 0 k rfl g).trans (uu (ks:=r) (λi a b=>h (i+1) a (by simpa using b)) (k g))
theorem l6 {U:Nat} {Pk:Int->Int->Prop} {ks:List Gk} (h:∀(i:Nat) k,ks[i]? = some k->∀g,Ap U Pk [] g (k g)) (i:Nat) (g:Gs):Ap U Pk [] g (js ks i g):=by
 unfold js
 cases hi:ks[i]? with
 | none=>exact .refl U Pk g
 | some k=>exact h i k hi g
theorem Na {U:Nat} {Pk:Int->Int->Prop} {c d:Gk} (e:∀g,Ap U Pk [] g (c g)) (f:∀g,Ap U Pk [] g (d g)) (g:Gs):Ap U Pk [] g (uk c d g):=by
 unfold uk;dsimp only
 generalize h:c g=a
 generalize i:bt [⟨22,0,0⟩] (d (aQ ⟨12,0,0⟩ 1 0 a))=b
 have a1:Ap U Pk [] g a:=h▸e g;have a2:Ap U Pk [a.code.length] a b:=i▸((ru U Pk ⟨12,0,0⟩ a (fO (by decide) (by decide))).trans (f _)).trans (j8 U Pk ⟨22,0,0⟩ _ (fO (by decide) (by decide)));have a3:Ap U Pk [a.code.length,b.code.length] g (aQ ⟨11,0,0⟩ 1 0 b):=(a1.trans a2).trans (ru U Pk ⟨11,0,0⟩ b (fO (by decide) (by decide)));have a4:Ap U Pk [b.code.length] g _:=ql (pa:=[]) a3;have j:Ap U Pk [b.code.length] g _:=a4.trans (j8 U Pk ⟨1,0,0⟩ _ (fO (by decide) (by decide)));exact ql (pa:=[]) (pb:=[]) j
theorem Nb {U:Nat} {Pk:Int->Int->Prop} {c d:Gk} (e:∀g,Ap U Pk [] g (c g)) (f:∀g,Ap U Pk [] g (d g)) (g:Gs):Ap U Pk [] g (um c d g):=by
 unfold um;dsimp only
 generalize h:c g=a
 generalize i:bt [⟨1,1,0⟩] (aQ ⟨12,0,0⟩ 1 0 a)=b
 have a1:Ap U Pk [] g a:=h▸e g;have a2:Ap U Pk [a.code.length] a b:=i▸(ru U Pk ⟨12,0,0⟩ a (fO (by decide) (by decide))).trans (j8 U Pk ⟨1,1,0⟩ _ (fO (by decide) (by decide)));have a3:Ap U Pk [a.code.length,b.code.length] g (aQ ⟨11,0,0⟩ 1 0 b):=(a1.trans a2).trans (ru U Pk ⟨11,0,0⟩ b (fO (by decide) (by decide)));have a4:Ap U Pk [b.code.length] g _:=ql (pa:=[]) a3;have j:Ap U Pk [b.code.length] g _:=(a4.trans (f _)).trans (j8 U Pk ⟨22,0,0⟩ _ (fO (by decide) (by decide)));exact ql (pa:=[]) (pb:=[]) j
mutual
theorem Nc {U:Nat} {Pk:Int->Int->Prop} {ks:List cm} (b:pf U Pk ks) (ay:Int):∀(x:db) (d:Nat),jM ks ay x d=true->∀g,Ap U Pk [] g (aF x g)
 | .mk op n m pl args,d,h,g=>by
   obtain ⟨j,k⟩:=MJ h;have a:=Ai b ay args (d+1) k;have f:=MF j;rw [aF];unfold lv
   split
   · exact j8 U Pk _ g (fO (by decide) (by decide))
   · split
     · exact j8 U Pk _ g (fO (by decide) (by decide))
     · split
       · exact j8 U Pk _ g (fO (by decide) (by decide))
       · split
         · rename_i e
           obtain ⟨c,i⟩:=ix b (f.1 e);exact sQ g (fO (by decide) (by decide)) (.inr O) c i (λe=>absurd e (by decide))
         · split
           · rename_i e
             obtain ⟨c,i⟩:=ix b (f.2.1 e).2;exact ((l6 a 0 g).trans (sQ _ (fO (by decide) (by decide)) (.inr O) c i (λe=>absurd e (by decide)))).trans (j8 U Pk _ _ (fO (by decide) (by decide)))
           · split
             · rename_i e
               obtain ⟨c,i⟩:=EI b (f.2.2.1 e);exact (uu a g).trans (sQ _ (fO (by decide) (by decide)) Y c i (λ_=>b.call _ _ _ (f.2.2.1 e)))
             · split
               · exact Na (l6 a 0) (l6 a 1) g
               · split
                 · exact Nb (l6 a 0) (l6 a 1) g
                 · split
                   · exact (uu a g).trans (j8 U Pk _ _ (fO (by decide) (by decide)))
                   · exact (uu a g).trans (j8 U Pk _ _ (fO (by decide) (by decide)))
theorem Ai {U:Nat} {Pk:Int->Int->Prop} {ks:List cm} (b:pf U Pk ks) (ay:Int):∀(l:List db) (d:Nat),fw ks ay l d=true->∀(i:Nat) k,(iE l)[i]? = some k->∀g,Ap U Pk [] g (k g)
 | [],d,_,i,k,h,g=>by rw [iE] at h; simp at h
 | x::r,d,a,0,k,h,g=>by
   rw [fw] at a;rw [iE] at h;simp at h;subst h;exact Nc b ay x d (Bool.and_eq_true_iff.1 a).1 g
 | x::r,d,a,i+1,k,h,g=>by
   rw [fw] at a;rw [iE] at h;exact Ai b ay r d (Bool.and_eq_true_iff.1 a).2 i k (by simpa using h) g
end
theorem Nd {U:Nat} {Pk:Int->Int->Prop} {c body other:Gk} {d:Nat} (e:∀g,Ap U Pk [] g (c g)) (f:∀g,Ap U Pk [] g (body g)) (h:∀g,Ap U Pk [] g (other g)) (g:Gs):Ap U Pk [] g (sK c body other d g):=by
 unfold sK;dsimp only
 generalize i:c g=a
 generalize j:body (aQ ⟨12,0,0⟩ 1 0 a)=b
 have a1:Ap U Pk [] g a:=i▸e g;have a2:Ap U Pk [a.code.length] a b:=j▸(ru U Pk ⟨12,0,0⟩ a (fO (by decide) (by decide))).trans (f _)
 split
 · have a3:Ap U Pk [a.code.length,b.code.length] g (aQ ⟨11,0,0⟩ 1 0 b):=(a1.trans a2).trans (ru U Pk ⟨11,0,0⟩ b (fO (by decide) (by decide)))
   have a4:Ap U Pk [b.code.length] g _:=ql (pa:=[]) a3;have k:Ap U Pk [b.code.length] g _:=a4.trans (h _);exact ql (pa:=[]) (pb:=[]) k
 · exact ql (pa:=[]) (pb:=[]) (a1.trans a2)
theorem Nf {U:Nat} {Pk:Int->Int->Prop} {a body:Gk} (c:∀g,Ap U Pk [] g (a g)) (d:∀g,Ap U Pk [] g (body g)) (g:Gs):Ap U Pk [] g (wW a body g):=by
 unfold wW;dsimp only
 generalize e:a g=b
 have a1:Ap U Pk [] g b:=e▸c g;have a2:Ap U Pk [b.code.length] g _:=((a1.trans (ru U Pk ⟨12,0,0⟩ b (fO (by decide) (by decide)))).trans (j8 U Pk ⟨16,0,0⟩ _ (fO (by decide) (by decide)))).trans (d _);exact ql (pa:=[]) (pb:=[]) (M' U Pk a2 (i:=⟨11,(g.code.length:Int),0⟩) (fO (by decide) (by decide)) O)
mutual
theorem Ng {U:Nat} {Pk:Int->Int->Prop} {ks:List cm} (b:pf U Pk ks) (ay:Int):∀(x:cY) (d:Nat),jl ks ay x d=true->∀g,Ap U Pk [] g (jt x g)
 | .mk op n m pl args body other,d,h,g=>by
   obtain ⟨k,l,j,o⟩:=MK h;have a:=Ai b ay args 1 l;have f:=MH k;have p:=sR b ay other (d+1) o;rw [jt];unfold l3
   split
   · rename_i e
     split
     · exact (l6 a 0 g).trans (j8 U Pk _ _ (fO (by decide) (by decide)))
     · rename_i c
       obtain ⟨c,i⟩:=ix b ((f.1 e).2 c);exact (l6 a 0 g).trans (sQ _ (fO (by decide) (by decide)) (.inr O) c i (λe=>absurd e (by decide)))
   · split
     · rename_i e
       obtain ⟨c,i⟩:=ix b (f.2.1 e).2;exact (((l6 a 0 g).trans (sQ _ (fO (by decide) (by decide)) (.inr O) c i (λe=>absurd e (by decide)))).trans (l6 a 1 _)).trans (j8 U Pk _ _ (fO (by decide) (by decide)))
     · split
       · rename_i e
         obtain ⟨c,i⟩:=EI b (f.2.2 e);exact ((uu a g).trans (sQ _ (fO (by decide) (by decide)) Y c i (λ_=>b.call _ _ _ (f.2.2 e)))).trans (j8 U Pk _ _ (fO (by decide) (by decide)))
       · split
         · rename_i e
           exact Nd (l6 a 0) (sR b ay body (d+1) (j (.inl e))) p g
         · split
           · rename_i e
             exact Nf (l6 a 0) (sR b ay body (d+1) (j (.inr e))) g
           · split
             · exact (l6 a 0 g).trans (j8 U Pk _ _ (fO (by decide) (by decide)))
             · split
               · exact (l6 a 0 g).trans (j8 U Pk _ _ (fO (by decide) (by decide)))
               · exact .refl U Pk g
theorem sR {U:Nat} {Pk:Int->Int->Prop} {ks:List cm} (a:pf U Pk ks) (ay:Int):∀(l:List cY) (d:Nat),fK ks ay l d=true->∀g,Ap U Pk [] g (ct l g)
 | [],d,_,g=>by rw [ct]; exact .refl U Pk g
 | x::r,d,h,g=>by
   rw [fK] at h;rw [ct];exact (Ng a ay x d (Bool.and_eq_true_iff.1 h).1 g).trans (sR a ay r d (Bool.and_eq_true_iff.1 h).2 _)
end
def Nh (lo hi:Nat) (c:List bG) (f:eI):Prop:=∀(p:Nat) i,f.kind=1->f.at_=(p:Int)->c[p]? = some i->lo<=p/\p<hi/\(lo:Int)<=i.a/\i.a<(hi:Int)
theorem Ni {U:Nat} {Pk:Int->Int->Prop} {ks:List cm} (l:pf U Pk ks) {ay:Int} {b:List cY} {d:Nat} (h:fK ks ay b d=true) (pa lo:Int) (g:Gs) :
   Ap U Pk [] g (hK pa lo b g)/\g.code.length+3<=(hK pa lo b g).code.length/\∃fx,(hK pa lo b g).fix=g.fix++fx/\∀f ∈ fx,Nh g.code.length (hK pa lo b g).code.length (hK pa lo b g).code f:=by
 have a1:Ap U Pk [] g (ct b (bt [⟨14,pa,lo⟩] g)):=(j8 U Pk ⟨14,pa,lo⟩ g (fO (by decide) (by decide))).trans (sR l ay b d h _);have m:=(sR l ay b d h (bt [⟨14,pa,lo⟩] g)).lo;unfold hK
 generalize ct b (bt [⟨14,pa,lo⟩] g)=a at a1 m
 have v:(bt [⟨14,pa,lo⟩] g).code.length=g.code.length+1:=by simp [bt]
 have n:(bt [⟨1,0,0⟩,⟨15,0,0⟩] a).code.length=a.code.length+2:=by simp [bt]
 refine ⟨a1.trans (EH U Pk _ a (by intro i hi; simp at hi; rcases hi with rfl | rfl<;>exact fO (by decide) (by decide))),by omega,?_⟩;obtain ⟨c,fx,w,o,y,q,z⟩:=a1.more;refine ⟨fx,o,λf r p i A B s=>?_⟩;obtain ⟨e,j,c1,c2,c3,c4⟩:=q f r
 have t:e=p:=by omega
 subst t;have u:e<a.code.length:=(List.getElem?_eq_some_iff.1 c2).1
 have k:a.code[e]? = some i:=by
   have:(a.code++[⟨1,0,0⟩,⟨15,0,0⟩])[e]? = some i:=s
   rwa [List.getElem?_append_left u] at this
 rw [c2] at k
 injection k with k
 subst k;rw [n]
 rcases c4 with ⟨_,_,x | x⟩ | ⟨x,_⟩
 · cases x
 · exact ⟨c3,by omega,x.1,by omega⟩
 · omega
structure EJ (g g':Gs) (S:List Nat):Prop where
 at_:∀s ∈ S,g.code.length<=s/\s<g'.code.length
 stay:∃fx,g'.fix=g.fix++fx/\∀f ∈ fx,∀(p:Nat) i,f.kind=1->f.at_=(p:Int)->g'.code[p]? = some i->g.code.length<=p/\(g.code.length:Int)<=i.a/\∀s ∈ S,(p<s->i.a<(s:Int))/\(s<=p->(s:Int)<=i.a)
theorem rr {U:Nat} {Pk:Int->Int->Prop} {ks:List cm} (w:pf U Pk ks):∀{l:List hk} (k:∀p ∈ l,∃ay d,fK ks ay p.body d=true) (g:Gs),Ap U Pk [] g (cV l g).2/\EJ g (cV l g).2 (cV l g).1
 | [],k,g=>⟨.refl U Pk g,⟨(by intro s a; cases a),[],(by show g.fix=_; simp),(by intro f b; cases b)⟩⟩
 | q::r,k,g=>by
   obtain ⟨ay,d,h⟩:=k q (by simp);obtain ⟨a1,a2,fx,a3,a4⟩:=Ni w h q.params q.locals g;obtain ⟨o,x⟩:=rr w (l:=r) (λp t=>k p (by simp [t])) (hK q.params q.locals q.body g);obtain ⟨C,D,E⟩:=x.stay;have y:=x.at_;rw [cV];dsimp only
   generalize hK q.params q.locals q.body g=u at *
   generalize cV r u=N at *
   have O:=o.lo;obtain ⟨c,_,F,_⟩:=o.more;refine ⟨a1.trans o,λs a=>?_,fx++C,by rw [D,a3,List.append_assoc],λf b p i z A v=>?_⟩
   · rcases List.mem_cons.1 a with rfl | a
     · omega
     · have:=y s a; omega
   · rcases List.mem_append.1 b with b | b
     · obtain ⟨_,G,P,H,Q,I,R⟩:=a1.more
       have e:G=fx:=List.append_cancel_left (H.symm.trans a3);subst e;obtain ⟨m,j,S,J,_⟩:=I f b
       have t:m=p:=by omega
       subst t;have K:m<u.code.length:=(List.getElem?_eq_some_iff.1 J).1
       have L:u.code[m]? = some i:=by rw [F,List.getElem?_append_left K] at v; exact v
       obtain ⟨B,M,n,T⟩:=a4 f b m i z A L;refine ⟨B,n,λs a=>?_⟩
       rcases List.mem_cons.1 a with rfl | a
       · exact ⟨λ_=>by omega,λ_=>n⟩
       · have:=y s a
         exact ⟨λ_=>by omega,λ_=>by omega⟩
     · obtain ⟨B,M,n⟩:=E f b p i z A v
       refine ⟨by omega,by omega,λs a=>?_⟩
       rcases List.mem_cons.1 a with rfl | a
       · exact ⟨λ_=>by omega,λ_=>by omega⟩
       · exact n s a
structure EL (Pk:Int->Int->Prop) (u:bK) (o:nq):Prop where
 ap:Ap u.ak.length Pk [] ⟨[],[]⟩ o.g
 EM:EJ ⟨[],[]⟩ o.g (o.cI++[o.main])
 d':o.cI.length=u.parts.length
theorem Nj {u:bK} {fm:List cm} (h:gq u fm=true) (c:fm.length=u.ak.length) (d:∀k ∈ fm,k.lZ=true->k.parts.length<=2048):pf u.ak.length (λm a=>∃n,jk (c7 u::fm) m a n=true) (c7 u::fm):=by
 refine ⟨by simp [c],λk b hi=>?_,λm a n e=>⟨n,e⟩⟩
 rcases List.mem_cons.1 b with rfl | b
 · have:=(Ah h hi).2.1
   omega
 · exact d k b hi
theorem EN {u:bK} {fm:List cm} (h:gq u fm=true) (e:fm.length=u.ak.length) (f:∀k ∈ fm,k.lZ=true->k.parts.length<=2048):EL (λm a=>∃n,jk (c7 u::fm) m a n=true) u (eY u):=by
 have g:=Nj h e f;obtain ⟨i,j,l,o⟩:=wV h
 have e:∀p ∈ u.parts++[(⟨0,0,u.main⟩:hk)],∃ay d,fK (c7 u::fm) ay p.body d=true:=by
   intro p c
   rcases List.mem_append.1 c with c | c
   · exact ⟨_,1,w3 (zW (i p c)).2.2.2.2⟩
   · have:=List.mem_singleton.1 c; subst this
     exact ⟨_,1,w3 j⟩
 obtain ⟨a,b⟩:=rr g e ⟨[],[]⟩;rw [z1] at a b;exact ⟨a,b,(ib u.parts ⟨[],[]⟩).2⟩
theorem EO {u:bK} (h:nr u=true):EL (λm a=>∃n,jk (c7 u::List.replicate u.ak.length jL) m a n=true) u (eY u):=
 EN h (by simp) λk b hi=>by rw [(List.mem_replicate.1 b).2] at hi; cases hi
end Go.Bw
end
section
namespace Go.Bw
open Go
structure bA where
 nm:List UInt8
 ak:List (List UInt8)
 data:Int
 code:List bG
 fix:List eI
 cI:List Int
 main:Int
def hL (o:bA) (q:kZ):List Value:=[st o.nm,.slice q.s1.1 o.ak.length q.s1.2,.int .i64 o.data,.slice q.s2.1 o.code.length q.s2.2,.slice q.s3.1 o.fix.length q.s3.2,.slice q.s4.1 o.cI.length q.s4.2,.int .i64 o.main]
structure mC (H:View) (q:kZ) (o:bA):Prop where
 ak:Sl rdStr 1 H q.s1.1 q.s1.2 o.ak
 code:Sl gv 3 H q.s2.1 q.s2.2 o.code
 fix:Sl oJ 3 H q.s3.1 q.s3.2 o.fix
 cI:Sl o8 1 H q.s4.1 q.s4.2 o.cI
def nq.to (o:nq):bA:=⟨o.nm,o.ak,o.data,o.g.code,o.g.fix,o.cI.map λn:Nat=>(n:Int),o.main⟩
theorem Nk (o:nq) (q:kZ):hL o.to q=z' o q:=by simp [hL,z',nq.to]
theorem Nl {c:View} {q:kZ} {o:nq} (h:z_ c q o):mC c q o.to:=by
 refine ⟨h.ak,h.code,h.fix,⟨?_,h.cI.max,h.cI.spot,λi x a=>?_⟩⟩
 · show (o.cI.map λn:Nat=>(n:Int)).length<=_
   rw [List.length_map]; exact h.cI.cap
 · have a:(o.cI.map λn:Nat=>(n:Int))[i]? = some x:=a
   rw [List.getElem?_map] at a
   cases b:o.cI[i]? with
   | none=>rw [b] at a; cases a
   | some n=>
     rw [b] at a
     injection a with a
     subst a;exact h.cI.bJ i n b
def aP (n:Nat) (at_:Int):Bool:=decide (0<=at_)&&decide (at_<(n:Int))
def jP (seen:List (List UInt8)):List (List UInt8)->Bool->Bool
 | [],f=>f
 | s::r,f=>jP (seen++[s]) r ((f&&dU s)&&(((seen.count s:Nat):Int)+1==1))
def kt:List bG->Bool->Bool
 | [],f=>f
 | x::r,f=>kt r ((f&&decide (1<=x.op))&&decide (x.op<=22))
def ly (n:Nat):List Int->Bool->Bool
 | [],f=>f
 | x::r,f=>ly n r (f&&aP n x)
def h2 (c:List bG) (p:Int):Int:=((c[p.toNat]?).map (·.a)).getD 0
def ik (U n:Nat) (kind m a:Int):Bool:=
 if kind=1 then ((decide (0<=a)&&decide (a<=2048))&&(m==0))&&decide (a<=(n:Int))
 else if kind=2\/kind=3 then ((decide (0<=a)&&decide (a<=2048))&&decide (0<=m))&&decide (m<=(U:Int)) else false
def j9 (U:Nat) (c:List bG):List eI->Int->Bool->Bool
 | [],_,f=>f
 | x::r,last,f=>if ((f&&decide (last<x.at_))&&aP c.length x.at_)=false then false else j9 U c r x.at_ (ik U c.length x.kind x.m (h2 c x.at_))
def bS (o:bA):Bool:=(dU o.nm&&decide (0<=o.data))&&decide (o.data<=512)
def qm (o:bA):Bool:=j9 o.ak.length o.code o.fix (-1) (ly o.code.length o.cI (kt o.code (jP [o.nm] o.ak (bS o))))
def mD (o:bA):Bool:=((decide (3<(o.ak.length:Int))||decide (6<(o.cI.length:Int)))||decide ((o.code.length:Int)<1))||decide (2048<(o.code.length:Int))
def fz (o:bA):Int:=if mD o=true then 2 else if (!(qm o)||!(aP o.code.length o.main))=true then 1 else 0
theorem pg {n:Nat} {x:Int} (h:aP n x=true):∃p:Nat,x=(p:Int)/\p<n:=by
 unfold aP at h;simp only [Bool.and_eq_true,decide_eq_true_eq] at h;exact ⟨x.toNat,by omega,by omega⟩
theorem Aj {n p:Nat} (h:p<n):aP n (p:Int)=true:=by
 unfold aP;simp only [Bool.and_eq_true,decide_eq_true_eq];omega
theorem Nn {seen us:List (List UInt8)} {i:Nat} {s:List UInt8} (h:us[i]? = some s) (f:Bool):jP (seen++us.take i) (us.drop i) f=jP (seen++us.take (i+1)) (us.drop (i+1)) ((f&&dU s)&&((((seen++us.take i).count s:Nat):Int)+1==1)):=by
 obtain ⟨a,b⟩:=List.getElem?_eq_some_iff.1 h;rw [List.drop_eq_getElem_cons a,b,jP,List.take_add_one,h,List.append_assoc]
 rfl
theorem No {l:List bG} {i:Nat} {x:bG} (h:l[i]? = some x) (f:Bool):kt (l.drop i) f=kt (l.drop (i+1)) ((f&&decide (1<=x.op))&&decide (x.op<=22)):=by
 obtain ⟨a,b⟩:=List.getElem?_eq_some_iff.1 h;rw [List.drop_eq_getElem_cons a,b,kt]
theorem Np {n:Nat} {l:List Int} {i:Nat} {x:Int} (h:l[i]? = some x) (f:Bool):ly n (l.drop i) f=ly n (l.drop (i+1)) (f&&aP n x):=by
 obtain ⟨a,b⟩:=List.getElem?_eq_some_iff.1 h;rw [List.drop_eq_getElem_cons a,b,ly]
theorem Nq {U:Nat} {c:List bG} {l:List eI} {i:Nat} {x:eI} (h:l[i]? = some x) (a:Int) (f:Bool):j9 U c (l.drop i) a f=if ((f&&decide (a<x.at_))&&aP c.length x.at_)=false then false else j9 U c (l.drop (i+1)) x.at_ (ik U c.length x.kind x.m (h2 c x.at_)):=by
 obtain ⟨b,d⟩:=List.getElem?_eq_some_iff.1 h;rw [List.drop_eq_getElem_cons b,d,j9]
theorem EP:∀{us seen:List (List UInt8)} (a:(seen++us).Nodup) (b:us.all dU=true),jP seen us true=true
 | [],_,_,_=>rfl
 | s::r,seen,a,b=>by
   rw [jP];rw [List.all_cons] at b;obtain ⟨c,d⟩:=Bool.and_eq_true_iff.1 b
   have e:seen.count s=0:=by
     rw [List.count_eq_zero];intro f;exact (List.nodup_append.1 a).2.2 s f s (by simp) O
   rw [c,e];exact EP (us:=r) (by rw [List.append_assoc]; exact a) d
theorem ER:∀{l:List bG} (h:∀i ∈ l,ja i),kt l true=true
 | [],_=>rfl
 | x::r,h=>by
   have:=h x (by simp);rw [kt,decide_eq_true this.1,decide_eq_true this.2];exact ER λi hi=>h i (by simp [hi])
theorem ES {n:Nat}:∀{l:List Nat} (h:∀s ∈ l,s<n),ly n (l.map λn:Nat=>(n:Int)) true=true
 | [],_=>rfl
 | x::r,h=>by
   rw [List.map_cons,ly,Aj (h x (by simp))];exact ES λs a=>h s (by simp [a])
theorem ET {U:Nat} {Pk:Int->Int->Prop} {c:List bG} (o:c.length<=2048):∀{l:List eI} {g:Int} (h:∀f ∈ l,g<f.at_/\rk U Pk [] 0 c f) (d:l.Pairwise λa b=>a.at_<b.at_),j9 U c l g true=true
 | [],_,_,_=>rfl
 | x::r,g,h,d=>by
   obtain ⟨t,p,i,a1,a2,a3,a4⟩:=h x (by simp);have q:p<c.length:=(List.getElem?_eq_some_iff.1 a2).1;rw [j9,a1,Aj q,decide_eq_true (by omega)];rw [if_neg (by decide)]
   have s:h2 c (p:Int)=i.a:=by unfold h2; rw [Int.toNat_natCast,a2]; rfl
   have e:ik U c.length x.kind x.m (h2 c (p:Int))=true:=by
     rw [s];unfold ik
     rcases a4 with ⟨j,n,k | k⟩ | ⟨j,_,n,k,u,v,_⟩
     · cases k
     · rw [if_pos j,n,decide_eq_true (show 0<=i.a by omega),decide_eq_true (show i.a<=2048 by omega),decide_eq_true (show i.a<=(c.length:Int) by omega)]
       rfl
     · rw [if_neg (by omega),if_pos j]
       simp only [Bool.and_eq_true,decide_eq_true_eq];omega
   rw [e];rw [List.pairwise_cons] at d;exact ET o (λf e=>⟨by have:=d.1 f e; omega,(h f (by simp [e])).2⟩) d.2
theorem Nr {u:bK} (h:nr u=true) (k:(eY u).g.code.length<=2048):fz (eY u).to=0:=by
 have b:=EO h;obtain ⟨F,G,d,j⟩:=wV h;unfold lr at d;simp only [Bool.or_eq_false_iff,decide_eq_false_iff_not] at d
 have l:dU u.nm=true:=by simpa using d.1.1.1.1
 unfold nk at j;obtain ⟨o,q⟩:=Bool.and_eq_true_iff.1 j;have r:(u.nm::u.ak).Nodup:=hF.2 (by simpa using o);have t:(eY u).main<(eY u).g.code.length:=(b.EM.at_ _ (by simp)).2;obtain ⟨c,fx,a1,a2,a3,a4,v⟩:=b.ap.more
 have a1:(eY u).g.code=c:=by simpa using a1
 have a2:(eY u).g.fix=fx:=by simpa using a2
 unfold fz
 have w:mD (eY u).to=false:=by
   unfold mD;simp only [Bool.or_eq_false_iff,decide_eq_false_iff_not];refine ⟨⟨⟨?_,?_⟩,?_⟩,?_⟩
   · show ¬3<(u.ak.length:Int); omega
   · show ¬6<((((eY u).cI.map λn:Nat=>(n:Int)).length:Nat):Int)
     rw [List.length_map,b.d']; omega
   · show ¬(((eY u).g.code.length:Nat):Int)<1; omega
   · show ¬2048<(((eY u).g.code.length:Nat):Int); omega
 rw [w,if_neg (by decide)]
 have x:bS (eY u).to=true:=by
   unfold bS;simp only [Bool.and_eq_true,decide_eq_true_eq];exact ⟨⟨l,by show 0<=u.data; omega⟩,by show u.data<=512; omega⟩
 have y:qm (eY u).to=true:=by
   unfold qm;rw [x];have z:jP [(eY u).to.nm] (eY u).to.ak true=true:=EP r q;have A:kt (eY u).to.code true=true:=ER (by show ∀i ∈ (eY u).g.code,ja i; rw [a1]; exact a3);have B:ly (eY u).to.code.length (eY u).to.cI true=true:=ES λs C=>(b.EM.at_ s (by simp [C])).2;rw [z,A,B]
   show j9 u.ak.length (eY u).g.code (eY u).g.fix (-1) true=true
   refine ET (Pk:=λm a=>∃n,jk (c7 u::List.replicate u.ak.length jL) m a n=true) k (λf e=>?_) (by rw [a2]; exact v);rw [a2] at e;have D:=a4 f e;obtain ⟨p,i,H,_⟩:=D;exact ⟨by omega,a4 f e⟩
 rw [y];have E:aP (eY u).to.code.length (eY u).to.main=true:=Aj t;rw [E]
 rfl
end Go.Bw
end
section
namespace Go.Bw
open Go
structure uv (o:bA):Prop where
 names:∀s ∈ o.nm::o.ak,dU s=true
 nd:(o.nm::o.ak).Nodup
 data:0<=o.data/\o.data<=512
 main:aP o.code.length o.main=true
 code:∀i ∈ o.code,ja i
 cI:∀e ∈ o.cI,aP o.code.length e=true
 fix:∀f ∈ o.fix,aP o.code.length f.at_=true/\ik o.ak.length o.code.length f.kind f.m (h2 o.code f.at_)=true
 up:o.fix.Pairwise λa b=>a.at_<b.at_
theorem EU:∀(us seen:List (List UInt8)) (f:Bool),jP seen us f=true↔f=true/\(∀s ∈ us,dU s=true)/\us.Nodup/\∀s ∈ us,s ∉ seen
 | [],seen,f=>by simp [jP]
 | s::r,seen,f=>by
   rw [jP,EU r]
   have j:((((seen.count s:Nat):Int)+1==1)=true)↔s ∉ seen:=by
     rw [beq_iff_eq,<-List.count_eq_zero];omega
   rw [Bool.and_eq_true,Bool.and_eq_true,j]
   have k:∀t,(t ∈ seen++[s])↔(t ∈ seen\/t=s):=λt=>by simp
   simp only [k,List.mem_cons,List.nodup_cons,forall_eq_or_imp]
   constructor
   · rintro ⟨⟨⟨d,e⟩,g⟩,h,i,b⟩
     exact ⟨d,⟨e,h⟩,⟨λl=>b s l (.inr O),i⟩,g,λt c a=>b t c (.inl a)⟩
   · rintro ⟨d,⟨e,h⟩,⟨m,i⟩,g,b⟩
     refine ⟨⟨⟨d,e⟩,g⟩,h,i,λt c a=>?_⟩
     rcases a with a | a
     · exact b t c a
     · subst a; exact m c
theorem EV:∀(l:List bG) (f:Bool),kt l f=true↔f=true/\∀i ∈ l,ja i
 | [],f=>by simp [kt]
 | x::r,f=>by
   rw [kt,EV r];simp only [Bool.and_eq_true,decide_eq_true_eq,List.mem_cons,forall_eq_or_imp,ja]
   constructor
   · rintro ⟨⟨⟨a,b⟩,c⟩,d⟩; exact ⟨a,⟨b,c⟩,d⟩
   · rintro ⟨a,⟨b,c⟩,d⟩; exact ⟨⟨⟨a,b⟩,c⟩,d⟩
theorem EW (n:Nat):∀(l:List Int) (f:Bool),ly n l f=true↔f=true/\∀e ∈ l,aP n e=true
 | [],f=>by simp [ly]
 | x::r,f=>by
   rw [ly,EW n r];simp only [Bool.and_eq_true,List.mem_cons,forall_eq_or_imp]
   constructor
   · rintro ⟨⟨a,b⟩,c⟩; exact ⟨a,b,c⟩
   · rintro ⟨a,b,c⟩; exact ⟨⟨a,b⟩,c⟩
theorem EX (U:Nat) (c:List bG):∀(l:List eI) (d:Int) (f:Bool),j9 U c l d f=true↔f=true/\(∀x ∈ l,d<x.at_/\aP c.length x.at_=true/\ik U c.length x.kind x.m (h2 c x.at_)=true)/\l.Pairwise λa b=>a.at_<b.at_
 | [],d,f=>by simp [j9]
 | x::r,d,f=>by
   rw [j9]
   have q:((f&&decide (d<x.at_))&&aP c.length x.at_)=true↔f=true/\d<x.at_/\aP c.length x.at_=true:=by
     simp only [Bool.and_eq_true,decide_eq_true_eq,and_assoc]
   cases j:((f&&decide (d<x.at_))&&aP c.length x.at_) with
   | false=>
     rw [if_pos rfl];refine ⟨λh=>(by cases h),λ⟨k,n,_⟩=>?_⟩;have i:=n x (by simp);rw [q.2 ⟨k,i.1,i.2.1⟩] at j;cases j
   | true=>
     rw [if_neg (by decide),EX U c r];obtain ⟨k,n,i⟩:=q.1 j;simp only [List.mem_cons,forall_eq_or_imp,List.pairwise_cons]
     constructor
     · rintro ⟨o,g,p⟩
       exact ⟨k,⟨⟨n,i,o⟩,λy e=>⟨by have:=(g y e).1; omega,(g y e).2⟩⟩,λy e=>(g y e).1,p⟩
     · rintro ⟨_,⟨⟨_,_,o⟩,g⟩,p,s⟩
       exact ⟨o,λy e=>⟨p y e,(g y e).2⟩,s⟩
theorem Hp (o:bA):(qm o=true/\aP o.code.length o.main=true)↔uv o:=by
 unfold qm;rw [EX,EW,EV,EU];unfold bS;simp only [Bool.and_eq_true,decide_eq_true_eq]
 constructor
 · rintro ⟨⟨⟨⟨⟨⟨⟨e,g⟩,i⟩,j,k,l⟩,m⟩,n⟩,q,r⟩,t⟩
   refine ⟨λs a=>?_,?_,⟨g,i⟩,t,m,n,λf b=>(q f b).2,r⟩
   · rcases List.mem_cons.1 a with rfl | a
     · exact e
     · exact j s a
   · rw [List.nodup_cons]
     exact ⟨λc=>l _ c (by simp),k⟩
 · intro h
   have d:=h.nd;rw [List.nodup_cons] at d;refine ⟨⟨⟨⟨⟨⟨⟨h.names _ (by simp),h.data.1⟩,h.data.2⟩,λs a=>h.names s (by simp [a]),d.2,λs a=>?_⟩,h.code⟩,h.cI⟩,λf b=>⟨?_,h.fix f b⟩,h.up⟩,h.main⟩
   · intro c
     rw [List.mem_singleton] at c;subst c;exact d.1 a
   · obtain ⟨p,u,_⟩:=pg (h.fix f b).1
     omega
theorem Nt {o:bA} (h:mD o=true):fz o=2:=by rw [fz,if_pos h]
theorem Nu {o:bA} (h:mD o=false) (k:¬uv o):fz o=1:=by
 rw [fz,if_neg (by rw [h]; decide),if_pos]
 cases a:qm o with
 | false=>rfl
 | true=>
   cases b:aP o.code.length o.main with
   | false=>rfl
   | true=>exact absurd ((Hp o).1 ⟨a,b⟩) k
end Go.Bw
end
section
namespace Go.Bw
open Go
def c_ (n:Int):UInt8:=UInt8.ofNat (n % 256).toNat
def bm (n:Int):List UInt8:=[c_ (n.fdiv (2 ^ 56)),c_ (n.fdiv (2 ^ 48)),c_ (n.fdiv (2 ^ 40)),c_ (n.fdiv (2 ^ 32)),c_ (n.fdiv (2 ^ 24)),c_ (n.fdiv (2 ^ 16)),c_ (n.fdiv (2 ^ 8)),c_ n]
def bH (s:List UInt8):List UInt8:=c_ s.length::s
def numOf (l:List UInt8):Int:=l.foldl (λn b=>IntKind.i64.wrap (n*256+(b.toNat:Nat))) 0
def l7 (s:List UInt8):Option (Int×List UInt8):=match s with | []=>none | x::r=>some ((x.toNat:Nat),r)
def oh (s:List UInt8):Option (List UInt8×List UInt8):=match s with | []=>none | x::r=>if r.length<x.toNat then none else some (r.take x.toNat,r.drop x.toNat)
def lz (s:List UInt8):Option (Int×List UInt8):=if s.length<8 then none else some (numOf (s.take 8),s.drop 8)
theorem ku (n:Int):(bm n).length=8:=rfl
def EY (n:Int):Prop:=-9223372036854775808<=n/\n<=9223372036854775807
def uw {α:Type} (f:α->List UInt8) (l:List α):List UInt8:=bm l.length++l.flatMap f
def ez (i:bG):List UInt8:=c_ i.op::(bm i.a++bm i.b)
def gb (f:eI):List UInt8:=bm f.at_++c_ f.kind::bm f.m
def l8 (o:bA):List UInt8:=bH o.nm++(uw bH o.ak++(bm o.data++(uw ez o.code++(uw gb o.fix++(uw bm o.cI++bm o.main)))))
structure Wn (o:bA):Prop where
 code:∀i ∈ o.code,EY i.a/\EY i.b
end Go.Bw
end
section
namespace Go.Bw
open Go
structure Ns {α:Type} (gl:List UInt8->Option (α×List UInt8)) (no:List UInt8×Bool->α×(List UInt8×Bool)):Prop where
 some_:∀s r,gl s=some r->no (s,false)=(r.1,(r.2,false))
 none_:∀s,gl s=none->(no (s,false)).2.2=true
 bad:∀p,p.2=true->(no p).2.2=true
theorem Ns.pure {α:Type} (x:α):Ns (λs=>some (x,s)) (λp=>(x,p)):=⟨λs r h=>by injection h with h; subst h; rfl,λs h=>(by cases h),λp h=>h⟩
theorem Ns.bind {α β:Type} {c:List UInt8->Option (α×List UInt8)} {n1:List UInt8×Bool->α×(List UInt8×Bool)} {f:α->List UInt8->Option (β×List UInt8)} {n2:α->List UInt8×Bool->β×(List UInt8×Bool)}
   (d:Ns c n1) (e:∀a,Ns (f a) (n2 a)):Ns (λs=>(c s).bind λp=>f p.1 p.2) (λp=>n2 (n1 p).1 (n1 p).2):=by
 refine ⟨λs r h=>?_,λs h=>?_,λp h=>(e _).bad _ (d.bad p h)⟩
 · obtain ⟨a,b,g⟩:=Option.bind_eq_some_iff.1 h
   show n2 (n1 (s,false)).1 (n1 (s,false)).2=_
   rw [d.some_ s a b];exact (e _).some_ _ _ g
 · show (n2 (n1 (s,false)).1 (n1 (s,false)).2).2.2=true
   cases b:c s with
   | none=>exact (e _).bad _ (d.none_ s b)
   | some a=>
     have h:(c s).bind (λp=>f p.1 p.2)=none:=h;rw [b] at h;rw [d.some_ s a b];exact (e _).none_ _ h
end Go.Bw
end
section
namespace Go.Bw
open Go
theorem ry {n:Int}:∀(l:List eI) (lo:Int),lo<=n->(∀f ∈ l,lo<=f.at_/\f.at_<n)->(l.Pairwise λa b=>a.at_<b.at_)->(l.length:Int)<=n-lo
 | [],lo,h,_,_=>by simp; omega
 | x::r,lo,h,d,c=>by
   rw [List.pairwise_cons] at c;have g:=d x (by simp);have i:=ry r (x.at_+1) (by omega) (λf e=>⟨by have:=c.1 f e; omega,(d f (by simp [e])).2⟩) c.2;simp only [List.length_cons];omega
theorem Nv {o:bA} (h:uv o):o.fix.length<=o.code.length:=by
 have:=ry (n:=(o.code.length:Int)) o.fix 0 (by omega) (λf a=>by
   obtain ⟨p,b,c⟩:=pg (h.fix f a).1
   omega) h.up
 omega
theorem cz {o:bA} (h:fz o=0):mD o=false/\uv o:=by
 have a:mD o=false:=by
   cases a:mD o with
   | false=>rfl
   | true=>rw [Nt a] at h; cases h
 refine ⟨a,?_⟩;refine Classical.byContradiction λb=>?_;rw [Nu a b] at h;cases h
def oi (o:bA):List UInt8×Int:=if fz o=0 then (if 32768<(l8 o).length then ([],2) else (l8 o,0)) else ([],fz o)
end Go.Bw
end
section
namespace Go.Bw
open Go
theorem E1 {α:Type} {f:α->List UInt8} {k:Nat}:∀(l:List α) (h:∀x ∈ l,(f x).length<=k),(l.flatMap f).length<=k*l.length
 | [],_=>by simp
 | x::r,h=>by
   have b:=h x (by simp);have c:=E1 r λy a=>h y (by simp [a]);simp only [List.flatMap_cons,List.length_append,List.length_cons];rw [Nat.mul_add];omega
theorem w_ {α:Type} {f:α->List UInt8} {k:Nat} {l:List α} (h:∀x ∈ l,(f x).length<=k) (i:Nat):((l.take i).flatMap f).length<=k*l.length:=by
 have a:=E1 (l.take i) λx b=>h x (List.mem_of_mem_take b)
 have c:(l.take i).length<=l.length:=by simp; omega
 exact Nat.le_trans a (Nat.mul_le_mul_left _ c)
theorem Nw (i:bG):(ez i).length=17:=rfl
theorem Nx (f:eI):(gb f).length=17:=rfl
theorem bb (s:List UInt8):(bH s).length=s.length+1:=rfl
structure ph (o:bA):Prop where
 nm:o.nm.length<=8
 un:∀s ∈ o.ak,s.length<=8
 ak:o.ak.length<=3
 code:o.code.length<=2048
 cI:o.cI.length<=6
 fix:o.fix.length<=2048
theorem E2 {s:List UInt8} (h:dU s=true):s.length<=8:=by
 unfold dU at h;simp only [Bool.and_eq_true,decide_eq_true_eq] at h;omega
theorem sT {o:bA} (h:fz o=0):ph o:=by
 obtain ⟨b,a⟩:=cz h;have d:=Nv a;unfold mD at b;simp only [Bool.or_eq_false_iff,decide_eq_false_iff_not] at b;exact ⟨E2 (a.names _ (by simp)),λs c=>E2 (a.names s (by simp [c])),by omega,by omega,by omega,by omega⟩
theorem ph.us {o:bA} (h:ph o) (i:Nat):((o.ak.take i).flatMap bH).length<=27:=by
 have b:=w_ (f:=bH) (k:=9) (l:=o.ak) (λx a=>by have:=h.un x a; rw [bb]; omega) i;have:=h.ak;omega
theorem ph.co {o:bA} (h:ph o) (i:Nat):((o.code.take i).flatMap ez).length<=34816:=by
 have a:=w_ (f:=ez) (k:=17) (l:=o.code) (λx b=>Nat.le_of_eq (Nw x)) i;have:=h.code;omega
theorem ph.fx {o:bA} (h:ph o) (i:Nat):((o.fix.take i).flatMap gb).length<=34816:=by
 have a:=w_ (f:=gb) (k:=17) (l:=o.fix) (λx b=>Nat.le_of_eq (Nx x)) i;have:=h.fix;omega
theorem ph.en {o:bA} (h:ph o) (i:Nat):((o.cI.take i).flatMap bm).length<=48:=by
 have a:=w_ (f:=bm) (k:=8) (l:=o.cI) (λx b=>Nat.le_of_eq (ku x)) i;have:=h.cI;omega
theorem Nz (n:Nat) (x:Int):dv x 0 ((n:Int)-1)=aP n x:=by
 unfold dv aP;rw [Bool.eq_iff_iff];simp;omega
theorem E3 {α:Type} {p:α->Prop} {l:List α} {i:Nat} {x:α} (h:l[i]? = some x) (b:∀y ∈ l.take i,p y) (c:p x):∀y ∈ l.take (i+1),p y:=λy a=>by
 rw [List.take_add_one,h] at a
 rcases List.mem_append.1 a with a | a
 · exact b y a
 · have a:y ∈ [x]:=a
   rw [List.mem_singleton] at a;subst a;exact c
def E4 (o:bA) (i:Nat) (x:eI):Bool:=
 ((((!(dv x.at_ 0 ((o.code.length:Int)-1))||(decide ((0:Int)<(i:Int))&&decide (x.at_<=((o.fix[i-1]?).map (·.at_)).getD 0)))||!(dv x.kind 1 3))||!(dv x.m 0 (o.ak.length:Int)))||!(dv (h2 o.code x.at_) 0 2048))||(x.kind==1&&(!(x.m==0)||decide ((o.code.length:Int)<h2 o.code x.at_)))
theorem NA (U n:Nat) (k m a:Int):(!(!(dv k 1 3))&&(!(!(dv m 0 (U:Int)))&&(!(!(dv a 0 2048))&&!(k==1&&(!(m==0)||decide ((n:Int)<a))))))=ik U n k m a:=by
 unfold ik dv
 by_cases b:k=1
 · subst b
   rw [if_pos rfl,Bool.eq_iff_iff]
   by_cases c:m=0
   · subst c
     simp
   · simp [c]
 · rw [if_neg b]
   by_cases d:k=2\/k=3
   · rw [if_pos d,Bool.eq_iff_iff]
     have e:(k==1)=false:=by simpa using b
     rw [e];simp;omega
   · rw [if_neg d,Bool.eq_iff_iff]
     simp;omega
theorem NB {l:List eI} {i:Nat} {x:eI} (f:l[i]? = some x) (g:(l.take i).Pairwise λa b=>a.at_<b.at_) (c:0<i->((l[i-1]?).map (·.at_)).getD 0<x.at_):(l.take (i+1)).Pairwise λa b=>a.at_<b.at_:=by
 rw [List.take_add_one,f]
 show (l.take i++[x]).Pairwise _
 rw [List.pairwise_append];refine ⟨g,by simp,λy k m h=>?_⟩;rw [List.mem_singleton] at h;subst h;obtain ⟨j,e⟩:=List.getElem?_of_mem k
 have n:j<i:=by
   have:=(List.getElem?_eq_some_iff.1 e).1;simp at this;omega
 have o:l[j]? = some y:=by rw [List.getElem?_take_of_lt n] at e; exact e
 have w:i<l.length:=(List.getElem?_eq_some_iff.1 f).1;have c:=c (by omega);obtain ⟨u,d⟩:∃u,l[i-1]? = some u:=⟨_,List.getElem?_eq_getElem (by omega)⟩;rw [d] at c;have c:u.at_<m.at_:=c
 by_cases p:j=i-1
 · subst p
   rw [o] at d
   injection d with d
   subst d;exact c
 · have q:(l.take i)[i-1]? = some u:=by rw [List.getElem?_take,if_pos (by omega)]; exact d
   obtain ⟨r,s⟩:=List.getElem?_eq_some_iff.1 e;obtain ⟨t,v⟩:=List.getElem?_eq_some_iff.1 q;have:=List.pairwise_iff_getElem.1 g j (i-1) r t (by omega);rw [s,v] at this;omega
def ux (o:bA) (i:Nat):Prop:=(∀f ∈ o.fix.take i,aP o.code.length f.at_=true/\ik o.ak.length o.code.length f.kind f.m (h2 o.code f.at_)=true)/\(o.fix.take i).Pairwise λa b=>a.at_<b.at_
theorem ux.zero (o:bA):ux o 0:=⟨by simp,by simp⟩
theorem ux.next {o:bA} {i:Nat} {x:eI} (h:ux o i) (d:o.fix[i]? = some x) (c:E4 o i x=false):ux o (i+1):=by
 unfold E4 at c;simp only [Bool.or_eq_false_iff] at c;obtain ⟨⟨⟨⟨⟨e,b⟩,g⟩,j⟩,k⟩,l⟩:=c;refine ⟨λf a=>?_,NB d h.2 λm=>?_⟩
 · rw [List.take_add_one,d] at a
   rcases List.mem_append.1 a with a | a
   · exact h.1 f a
   · have a:f ∈ [x]:=a
     rw [List.mem_singleton] at a;subst a;refine ⟨(Nz _ _).symm.trans (by simpa using e),?_⟩;rw [<-NA,g,j,k,l]
     rfl
 · rw [decide_eq_true (show (0:Int)<(i:Int) by omega)] at b
   have b:decide (x.at_<=((o.fix[i-1]?).map (·.at_)).getD 0)=false:=b;have:=of_decide_eq_false b;omega
theorem xa {s:List UInt8} {r:Int×List UInt8} (h:lz s=some r):r.2.length<=s.length:=by
 unfold lz at h; split at h; cases h; injection h with h; subst h; simp
theorem sU {s:List UInt8} {r:Int×List UInt8} (h:l7 s=some r):r.2.length<=s.length:=by
 cases s with
 | nil=>cases h
 | cons x q=>simp only [l7] at h; injection h with h; subst h; simp
theorem sV {s:List UInt8} {r:List UInt8×List UInt8} (h:oh s=some r):r.2.length<=s.length:=by
 cases s with
 | nil=>cases h
 | cons x q=>simp only [oh] at h; split at h; cases h; injection h with h; subst h; simp; omega
end Go.Bw
end
section
namespace Go.Bw
open Go
def eA (l:List bA):List (List UInt8):=l.map (·.nm)
structure Pl where
 code:Int
 data:Int
 o_:List Nat
def pj (l:List bA):Nat:=(l.map (·.code.length)).sum
def qn (l:List bA):Int:=(l.map (·.data)).sum
def aw (l:List bA) (k:Nat):Int:=((l.length+1+pj (l.take k):Nat):Int)
def e_ (l:List bA) (k:Nat):Int:=qn (l.take k)
def pk (ns:List (List UInt8)) (o:bA):Bool:=o.ak.all λs=>(idxOf s ns 0).isSome
def oj (ns:List (List UInt8)) (s:List UInt8):Nat:=(idxOf s ns 0).getD 0
def lA (l:List bA) (n:Nat) (o:bA):List Nat:=n::o.ak.map (oj ((eA l).take n))
def nw (l:List bA) (n:Nat) (o:bA):Pl:=⟨aw l n,e_ l n,lA l n o⟩
def lB (l:List bA):List Pl:=l.mapIdx λn o=>nw l n o
def om (l:List bA):Pl:=⟨aw l l.length,e_ l l.length,[]⟩
def qo (l:List bA) (k:Nat):Nat:=((l[k]?).map (·.cI.length)).getD 0
def aR (l:List bA) (n:Nat) (o:bA) (m:Int):Nat:=((lA l n o)[m.toNat]?).getD 0
def bU (l:List bA) (n:Nat) (o:bA) (f:eI):Bool:=f.kind==2&&decide ((qo l (aR l n o f.m):Int)<=h2 o.code f.at_)
def pn (p:Nat->bA->Bool) (l:List bA):Bool:=(l.mapIdx p).any id
def gX (l:List bA):Int:=if l.length<1\/4<l.length then 2 else er (aD fz l) (if et (eA l)=true then 6 else if pn (λn o=>!(pk ((eA l).take n) o)) l=true then 9 else if pn (λn o=>o.fix.any (bU l n o)) l=true then 5 else 0)
theorem Ak {p:Nat->bA->Bool} {l:List bA} {n:Nat} {o:bA} (h:l[n]? = some o) (a:p n o=true):pn p l=true:=by
 unfold pn;rw [List.any_eq_true];exact ⟨true,List.mem_of_getElem? (i:=n) (by rw [List.getElem?_mapIdx,h,Option.map_some,a]),O⟩
theorem xb {p:Nat->bA->Bool} {l:List bA} (h:∀n o,l[n]? = some o->p n o=false):pn p l=false:=by
 unfold pn;rw [List.any_eq_false];intro x b;obtain ⟨n,a⟩:=List.getElem?_of_mem b;rw [List.getElem?_mapIdx] at a;obtain ⟨o,c,rfl⟩:=Option.map_eq_some_iff.1 a;simp [h n o c]
theorem E5 {p:Nat->bA->Bool} {l:List bA} (h:pn p l=false) {n:Nat} {o:bA} (a:l[n]? = some o):p n o=false:=by
 cases b:p n o with
 | false=>rfl
 | true=>rw [Ak a b] at h; cases h
theorem sW (l:List bA):(eA l).length=l.length:=by simp [eA]
theorem E6 {l:List bA} {i:Nat} {o:bA} (h:l[i]? = some o):(eA l)[i]? = some o.nm:=by unfold eA; rw [List.getElem?_map,h]; rfl
theorem E7 {l:List bA} (h:l.length<1\/4<l.length):gX l=2:=by rw [gX,if_pos h]
theorem NC {l:List bA} {i:Nat} {o:bA} (a:¬(l.length<1\/4<l.length)) (hi:l[i]? = some o) (b:∀x ∈ l.take i,fz x=0) (h:¬fz o=0):gX l=fz o:=by
 rw [gX,if_neg a,sB fz hi (l1.2 b) h,bV h]
theorem xc {l:List bA} (a:¬(l.length<1\/4<l.length)) (b:∀x ∈ l,fz x=0):gX l=if et (eA l)=true then 6 else if pn (λn o=>!(pk ((eA l).take n) o)) l=true then 9 else if pn (λn o=>o.fix.any (bU l n o)) l=true then 5 else 0:=by
 rw [gX,if_neg a,l1.2 b,jK]
structure E8 (l:List bA):Prop where
 d':¬(l.length<1\/4<l.length)
 lC:∀o ∈ l,fz o=0
 nd:(eA l).Nodup
 known:∀n o,l[n]? = some o->pk ((eA l).take n) o=true
 E9:∀n o,l[n]? = some o->∀f ∈ o.fix,bU l n o f=false
theorem iW {l:List bA}:gX l=0↔E8 l:=by
 constructor
 · intro h
   have b:¬(l.length<1\/4<l.length):=λb=>by rw [E7 b] at h; cases h
   have d:∀x ∈ l,fz x=0:=by
     rw [gX,if_neg b,iY] at h;exact l1.1 h.1
   rw [xc b d] at h
   split at h
   · cases h
   · rename_i e
     split at h
     · cases h
     · rename_i g
       split at h
       · cases h
       · rename_i i
         refine ⟨b,d,hF.2 (by simpa using e),λn o a=>?_,λn o a f c=>?_⟩
         · have:=E5 (by simpa using g) a
           simpa using this
         · have:=E5 (p:=λn o=>o.fix.any (bU l n o)) (by simpa using i) a
           rw [List.any_eq_false] at this
           simpa using this f c
 · intro h
   rw [xc h.d' h.lC,hF.1 h.nd,if_neg (by decide),xb (λn o a=>by rw [h.known n o a]; rfl),if_neg (by decide),xb (λn o a=>by rw [List.any_eq_false]; intro f c; rw [h.E9 n o a f c]; decide),if_neg (by decide)]
theorem Am {l:List bA} {i:Nat} {o:bA} (h:l[i]? = some o):pj (l.take (i+1))=pj (l.take i)+o.code.length:=by
 unfold pj;rw [List.take_add_one,h];simp
theorem E' {l:List bA} {i:Nat} {o:bA} (h:l[i]? = some o):qn (l.take (i+1))=qn (l.take i)+o.data:=by
 unfold qn;rw [List.take_add_one,h];simp
theorem E_ {l:List bA} (h:∀o ∈ l,o.code.length<=2048):∀i,i<=l.length->pj (l.take i)<=2048*i
 | 0,_=>by simp [pj]
 | i+1,hi=>by
   obtain ⟨o,a⟩:∃o,l[i]? = some o:=⟨_,List.getElem?_eq_getElem (by omega)⟩;have b:=E_ h i (by omega);have c:=h o (List.mem_of_getElem? a);rw [Am a];omega
theorem Fa {l:List bA} (h:∀o ∈ l,0<=o.data/\o.data<=512):∀i,i<=l.length->0<=qn (l.take i)/\qn (l.take i)<=512*i
 | 0,_=>by simp [qn]
 | i+1,hi=>by
   obtain ⟨o,a⟩:∃o,l[i]? = some o:=⟨_,List.getElem?_eq_getElem (by omega)⟩;have b:=Fa h i (by omega);have c:=h o (List.mem_of_getElem? a);rw [E' a];omega
theorem Fb {o:bA} (h:fz o=0):0<=o.data/\o.data<=512:=(cz h).2.data
theorem uy {l:List bA} (c:¬(l.length<1\/4<l.length)) (h:∀o ∈ l,fz o=0) {k:Nat} (a:k<=l.length):0<=aw l k/\aw l k<=9000:=by
 have d:=E_ (λo b=>(sT (h o b)).code) k a;unfold aw;omega
theorem uz {l:List bA} (c:¬(l.length<1\/4<l.length)) (h:∀o ∈ l,fz o=0) {k:Nat} (a:k<=l.length):0<=e_ l k/\e_ l k<=2048:=by
 have d:=Fa (λo b=>Fb (h o b)) k a;unfold e_;omega
theorem An {l:List bA} {i:Nat} {o:bA} (h:l[i]? = some o):aw l (i+1)=aw l i+(o.code.length:Int):=by
 unfold aw;rw [Am h];omega
theorem ND {l:List bA} {i:Nat} {o:bA} (h:l[i]? = some o):e_ l (i+1)=e_ l i+o.data:=by
 unfold e_;rw [E' h]
theorem Ao {l:List bA} {i:Nat} {o:bA} (h:l[i]? = some o):(lB l)[i]? = some (nw l i o):=by unfold lB; rw [List.getElem?_mapIdx,h]; rfl
theorem qp (l:List bA):(lB l).length=l.length:=by simp [lB]
theorem NF {l:List bA} {i:Nat} {o:bA} (h:l[i]? = some o):(lB l).take (i+1)=(lB l).take i++[nw l i o]:=by rw [List.take_add_one,Ao h]; rfl
theorem iZ {l:List bA} {i:Nat} {o:bA} (h:l[i]? = some o):(lB l++[om l])[i]? = some (nw l i o):=by
 have hi:=(List.getElem?_eq_some_iff.1 h).1;rw [List.getElem?_append_left (by rw [qp]; exact hi),Ao h]
theorem NG (l:List bA):(lB l++[om l])[l.length]? = some (om l):=by
 rw [List.getElem?_append_right (by rw [qp]; exact Nat.le_refl _),qp,Nat.sub_self]
 rfl
theorem Aq (l:List bA) (n:Nat) (o:bA):(lA l n o).length=o.ak.length+1:=by simp [lA]
theorem NH {l:List bA} {n:Nat} {o:bA} (c:n<l.length) (d:pk ((eA l).take n) o=true):∀k ∈ lA l n o,k<l.length:=by
 intro k a;unfold lA at a
 rcases List.mem_cons.1 a with rfl | a
 · exact c
 · obtain ⟨s,e,rfl⟩:=List.mem_map.1 a
   have b:=List.all_eq_true.1 d s e;unfold oj
   cases hi:idxOf s ((eA l).take n) 0 with
   | none=>rw [hi] at b; cases b
   | some k=>
     have:=(List.getElem?_eq_some_iff.1 (qc hi).2).1;rw [List.length_take,sW] at this
     show k<l.length
     omega
theorem Fc {l:List bA} {n:Nat} {o:bA} (c:n<l.length) (d:pk ((eA l).take n) o=true) {m:Int} (f:0<=m) (g:m<=(o.ak.length:Int)):(lA l n o)[m.toNat]? = some (aR l n o m)/\aR l n o m<l.length:=by
 have a:m.toNat<(lA l n o).length:=by rw [Aq]; omega
 have b:(lA l n o)[m.toNat]? = some (lA l n o)[m.toNat]:=List.getElem?_eq_getElem a
 have e:aR l n o m=(lA l n o)[m.toNat]:=by unfold aR; rw [b]; rfl
 rw [e];exact ⟨b,NH c d _ (List.getElem_mem a)⟩
def bD (c:List bG) (p:Nat) (v:Int):List bG:=match c[p]? with | some x=>c.set p ⟨x.op,v,x.b⟩ | none=>c
def Ar (l:List bA) (k:Nat) (a:Int):Int:=((l[k]?).bind λo=>o.cI[a.toNat]?).getD 0
def oo (l:List bA) (n:Nat) (o:bA) (f:eI):Int:=
 if f.kind=1 then h2 o.code f.at_+aw l n else if f.kind=2 then aw l (aR l n o f.m)+Ar l (aR l n o f.m) (h2 o.code f.at_) else h2 o.code f.at_+e_ l (aR l n o f.m)
def jQ (l:List bA) (n:Nat) (o:bA) (c:List bG) (fs:List eI):List bG:=fs.foldl (λc f=>bD c f.at_.toNat (oo l n o f)) c
def l_ (l:List bA):List bG:=l.mapIdx λn o=>(⟨13,aw l n+o.main,0⟩:bG)
def e6 (l:List bA) (n:Nat) (o:bA):List bG:=jQ l n o o.code o.fix
def rz (l:List bA) (n:Nat):List bG:=((l.mapIdx λn o=>e6 l n o).take n).flatten
def fT (l:List bA) (n:Nat):List bG:=l_ l++[⟨20,0,0⟩]++rz l n
def po (l:List bA):List bG:=fT l l.length
def hM (l:List bA):(List bG×Int)×Int:=if gX l≠0 then (([],0),gX l) else if 2048<aw l l.length\/512<e_ l l.length then (([],0),2) else ((po l,e_ l l.length),0)
theorem NI (c:List bG) (p:Nat) (v:Int):(bD c p v).length=c.length:=by unfold bD; split<;>simp
theorem NJ {c:List bG} {p:Nat} {x:bG} (h:c[p]? = some x) (v:Int):bD c p v=c.set p ⟨x.op,v,x.b⟩:=by unfold bD; rw [h]
theorem NK {c:List bG} {p q:Nat} (v:Int) (h:p≠q):(bD c p v)[q]? = c[q]?:=by
 unfold bD
 split
 · rw [List.getElem?_set_ne h]
 · rfl
theorem xd (l:List bA) (n:Nat) (o:bA):∀(fs:List eI) (c:List bG),(jQ l n o c fs).length=c.length
 | [],c=>rfl
 | f::r,c=>by
   show (jQ l n o (bD c f.at_.toNat (oo l n o f)) r).length=_
   rw [xd l n o r,NI]
theorem i_ {l:List bA} {n:Nat} {o:bA} {c:List bG} {fs:List eI} {j:Nat} {f:eI} (h:fs[j]? = some f):jQ l n o c (fs.take (j+1))=bD (jQ l n o c (fs.take j)) f.at_.toNat (oo l n o f):=by
 unfold jQ;rw [List.take_add_one,h];simp
theorem Fe {l:List bA} {n:Nat} {o:bA} {q:Nat}:∀(fs:List eI) (c:List bG),(∀f ∈ fs,f.at_.toNat≠q)->(jQ l n o c fs)[q]? = c[q]?
 | [],c,_=>rfl
 | f::r,c,h=>by
   show (jQ l n o (bD c f.at_.toNat (oo l n o f)) r)[q]? = _
   rw [Fe r _ λg a=>h g (by simp [a]),NK _ (h f (by simp))]
theorem NL {l:List bA} {n:Nat} {o:bA} (a:uv o) {j:Nat} {f:eI} (h:o.fix[j]? = some f):(jQ l n o o.code (o.fix.take j))[f.at_.toNat]? = o.code[f.at_.toNat]?:=by
 refine Fe _ _ λg c e=>?_;obtain ⟨i,hi⟩:=List.getElem?_of_mem c
 have b:i<j:=by
   have:=(List.getElem?_eq_some_iff.1 hi).1;rw [List.length_take] at this;omega
 rw [List.getElem?_take_of_lt b] at hi;obtain ⟨a1,a2⟩:=List.getElem?_eq_some_iff.1 hi;obtain ⟨d,k⟩:=List.getElem?_eq_some_iff.1 h;have:=List.pairwise_iff_getElem.1 a.up i j a1 d b;rw [a2,k] at this;obtain ⟨p,m,_⟩:=pg (a.fix g (List.mem_of_getElem? hi)).1;obtain ⟨q,r,_⟩:=pg (a.fix f (List.mem_of_getElem? h)).1;omega
theorem xe (l:List bA):(l_ l).length=l.length:=by simp [l_]
theorem NM {l:List bA} {i:Nat} {o:bA} (h:l[i]? = some o):(l_ l).take (i+1)=(l_ l).take i++[⟨13,aw l i+o.main,0⟩]:=by
 rw [List.take_add_one];unfold l_;rw [List.getElem?_mapIdx,h]
 rfl
theorem At (l:List bA):rz l 0=[]:=rfl
theorem Au {l:List bA} {i:Nat} {o:bA} (h:l[i]? = some o):rz l (i+1)=rz l i++e6 l i o:=by
 unfold rz;rw [List.take_add_one,List.getElem?_mapIdx,h];simp
theorem Ff {l:List bA}:∀{i:Nat},i<=l.length->(rz l i).length=pj (l.take i)
 | 0,_=>by simp [At,pj]
 | i+1,hi=>by
   obtain ⟨o,a⟩:∃o,l[i]? = some o:=⟨_,List.getElem?_eq_getElem (by omega)⟩;rw [Au a,List.length_append,Ff (i:=i) (by omega),Am a];unfold e6;rw [xd]
theorem Fg {l:List bA} {i:Nat} (hi:i<=l.length):((fT l i).length:Int)=aw l i:=by
 unfold fT aw;rw [List.length_append,List.length_append,xe,Ff hi,List.length_singleton]
theorem Fh {l:List bA} {i:Nat} {o:bA} (h:l[i]? = some o):fT l (i+1)=fT l i++e6 l i o:=by
 unfold fT;rw [Au h,List.append_assoc,List.append_assoc,List.append_assoc]
theorem Av {l:List bA} {n:Nat} {o:bA} {c:List bG} {p:Nat} {x:bG} (v:Int) (h:c[p]? = some x):(fT l n++c).set ((fT l n).length+p) ⟨x.op,v,x.b⟩=fT l n++bD c p v:=by
 rw [List.set_append_right _ _ (by omega),Nat.add_sub_cancel_left,NJ h]
theorem NN {c:List bG} {p:Nat} {v:Int} (h:∀i ∈ c,ja i):∀i ∈ bD c p v,ja i:=by
 unfold bD
 split
 · rename_i x a
   intro i hi
   rcases List.mem_or_eq_of_mem_set hi with hi | rfl
   · exact h i hi
   · exact h x (List.mem_of_getElem? a)
 · exact h
theorem Fi (l:List bA) (n:Nat) (o:bA):∀(fs:List eI) (c:List bG),(∀i ∈ c,ja i)->∀i ∈ jQ l n o c fs,ja i
 | [],c,h=>h
 | f::r,c,h=>Fi l n o r _ (NN h)
theorem Fj {l:List bA} (h:∀o ∈ l,fz o=0):∀{i:Nat},i<=l.length->∀x ∈ rz l i,ja x
 | 0,_=>by simp [At]
 | i+1,hi=>by
   obtain ⟨o,b⟩:∃o,l[i]? = some o:=⟨_,List.getElem?_eq_getElem (by omega)⟩;rw [Au b];intro x a
   rcases List.mem_append.1 a with a | a
   · exact Fj h (i:=i) (by omega) x a
   · exact Fi l i o _ _ (cz (h o (List.mem_of_getElem? b))).2.code x a
theorem NO {l:List bA} (h:∀o ∈ l,fz o=0):∀x ∈ po l,ja x:=by
 intro x a;unfold po fT at a
 rcases List.mem_append.1 a with a | a
 · rcases List.mem_append.1 a with a | a
   · unfold l_ at a
     obtain ⟨n,b⟩:=List.getElem?_of_mem a;rw [List.getElem?_mapIdx] at b;obtain ⟨o,_,rfl⟩:=Option.map_eq_some_iff.1 b;exact ⟨show (1:Int)<=13 by decide,show (13:Int)<=22 by decide⟩
   · rw [List.mem_singleton] at a; subst a; exact ⟨by decide,by decide⟩
 · exact Fj h (Nat.le_refl _) x a
theorem NP (l:List bA):((po l).length:Int)=aw l l.length:=Fg (Nat.le_refl _)
theorem Aw {k:List UInt8}:∀(m:List (c8 (List UInt8))) (i:Nat),(cw k m i).isSome=true↔k ∈ m.map (·.1)
 | [],i=>by simp [cw]
 | e::r,i=>by
   rw [cw,List.map_cons,List.mem_cons]
   by_cases h:k=e.1
   · simp [h]
   · rw [if_neg (by simpa using h),Aw r (i+1)]
     simp [h]
theorem Fk {k:List UInt8} {v:Value} {m:List (c8 (List UInt8))} {c:Nat}:(k ∈ m.map (·.1)->(dZ k v m c).length=m.length)/\(k ∉ m.map (·.1)->(dZ k v m c).map (·.1)=m.map (·.1)++[k]):=by
 constructor
 · intro h
   have a:=(Aw m 0).2 h;unfold dZ
   cases b:cw k m 0 with
   | none=>rw [b] at a; cases a
   | some r=>simp
 · intro h
   have a:cw k m 0=none:=by
     cases b:cw k m 0 with
     | none=>rfl
     | some r=>exact absurd ((Aw m 0).1 (by rw [b]; rfl)) h
   unfold dZ;rw [a];simp
def pq (ns:List (List UInt8)) (i:Nat) (M:List (c8 (List UInt8))):Prop:=
 (∀s,eD s M (.int .i64 0) = .int .i64 (((ns.take i).count s:Nat):Int))/\(((ns.take i).Nodup/\M.map (·.1)=ns.take i)\/(¬(ns.take i).Nodup/\M.length<i))
theorem pq.zero (ns:List (List UInt8)):pq ns 0 []:=⟨λs=>by simp [eD,cw],.inl ⟨by simp,by simp⟩⟩
theorem pq.step {ns:List (List UInt8)} {i:Nat} {M:List (c8 (List UInt8))} {x:List UInt8} (h:pq ns i M) (n:ns[i]? = some x) (c:Nat):pq ns (i+1) (dZ x (.int .i64 (((ns.take i).count x:Nat)+1)) M c):=by
 have t:=(List.getElem?_eq_some_iff.1 n).1
 have p:(ns.take i).length=i:=by simp; omega
 have d:ns.take (i+1)=ns.take i++[x]:=by rw [List.take_add_one,n]; rfl
 refine ⟨λs=>?_,?_⟩
 · by_cases e:s=x
   · subst e
     rw [rq,d,List.count_append];simp
   · rw [uh _ M c _ e,h.1 s,d,List.count_append]
     have q:¬x=s:=λk=>e k.symm;simp [List.count_cons,q]
 · rcases h.2 with ⟨m,g⟩ | ⟨m,g⟩
   · by_cases l:x ∈ ns.take i
     · right
       refine ⟨λj=>?_,?_⟩
       · rw [d,List.nodup_append] at j
         exact j.2.2 x l x (by simp) O
       · rw [Fk.1 (by rw [g]; exact l),<-List.length_map (f:=(·.1)),g,p]
         omega
     · left
       refine ⟨?_,?_⟩
       · rw [d,List.nodup_append]
         exact ⟨m,by simp,λa r b o e=>by rw [List.mem_singleton] at o; subst o; subst e; exact l r⟩
       · rw [Fk.2 (by rw [g]; exact l),g,d]
   · right
     refine ⟨λj=>m ?_,?_⟩
     · rw [d,List.nodup_append] at j; exact j.1
     · have:=zO x (.int .i64 (((ns.take i).count x:Nat)+1)) M c
       omega
theorem pq.d' {ns:List (List UInt8)} {M:List (c8 (List UInt8))} (h:pq ns ns.length M):M.length<ns.length↔et ns=true:=by
 have a:=h.2;rw [List.take_length] at a
 rcases a with ⟨b,a⟩ | ⟨b,a⟩
 · rw [hF] at b
   have:M.length=ns.length:=by rw [<-List.length_map (f:=(·.1)),a]
   rw [b]
   constructor
   · intro; omega
   · intro e; cases e
 · rw [hF] at b
   exact ⟨λ_=>by simpa using b,λ_=>a⟩
end Go.Bw
end
section
namespace Go.Bw
open Go
theorem Fl {α β:Type} {p:Nat->α->β->Prop}:∀(l:List α) (s:Nat),(∀i x,l[i]? = some x->∃r,p (s+i) x r)->∃ys:List (α×β),ys.map (·.1)=l/\∀(i:Nat) y,ys[i]? = some y->p (s+i) y.1 y.2
 | [],_,_=>⟨[],rfl,λi y h=>by simp at h⟩
 | x::l,s,h=>by
   obtain ⟨r,b⟩:=h 0 x rfl
   obtain ⟨ys,c,d⟩:=Fl l (s+1) λi y a=>by
     obtain ⟨r,b⟩:=h (i+1) y a;exact ⟨r,by rw [show s+1+i=s+(i+1) by omega]; exact b⟩
   refine ⟨(x,r)::ys,by simp [c],λi y a=>?_⟩
   cases i with
   | zero=>simp at a; subst a; exact b
   | succ i=>rw [show s+(i+1)=s+1+i by omega]; exact d i y (by simpa using a)
end Go.Bw
end
section
namespace Go.Bw
open Go
abbrev Tx:=List UInt8
def pr:List UInt8:=[109,111,100,117,108,101]
def mE:List UInt8:=[117,115,101]
def cH:List UInt8:=[112,117,98]
def h3:List UInt8:=[99,111,110,115,116]
def h4:List UInt8:=[118,97,114]
def h5:List UInt8:=[97,114,114,97,121]
def mF:List UInt8:=[112,114,111,99]
def ny:List UInt8:=[108,111,99,97,108]
def gD:List UInt8:=[109,97,105,110]
def eR:List UInt8:=[105,102]
def eJ:List UInt8:=[101,108,115,101]
def eS:List UInt8:=[119,104,105,108,101]
def eK:List UInt8:=[114,101,116,117,114,110]
def eL:List UInt8:=[111,117,116]
def qq:List UInt8:=[105,110]
def J (l:List Tx):Tx:=Lib.join l [32]
def hN (mod nm:Tx):List Tx:=if (mod==[])=true then [nm] else [mod,[46],nm]
def opsL:List Tx:=[[38],[124],[43],[45],[42],[47],[37],[61],[60]]
def rB (op:Int):Tx:=(opsL[(op-7).toNat]?).getD []
def gd:List (List Tx)->List Tx
 | []=>[]
 | [x]=>x
 | x::y::r=>x++[[44]]++gd (y::r)
def oq (l:List (List Tx)):List Tx:=[[40]]++gd l++[[41]]
def at_ (l:List (List Tx)) (i:Nat):List Tx:=(l[i]?).getD []
def lD (op n:Int) (mod nm:Tx) (a:List (List Tx)):List Tx:=
 if op=1 then [Lib.itoa n] else if op=2 then [qq] else if op=3 then hN mod nm else if op=4 then hN mod nm++[[91]]++at_ a 0++[[93]] else if op=5 then hN mod nm++oq a
 else if op=6 then [[33]]++at_ a 0 else [[40]]++at_ a 0++[rB op]++at_ a 1++[[41]]
mutual
def aB:aV->List Tx
 | .mk op n mod nm args=>lD op n mod nm (dW args)
def dW:List aV->List (List Tx)
 | []=>[]
 | x::r=>aB x::dW r
end
def mG (l:List Tx):List Tx:=[[123]]++l++[[125]]
def k0 (op:Int) (mod nm:Tx) (a:List (List Tx)) (b:List Tx) (c:Nat) (o:List Tx):List Tx:=
 if op=4\/op=5 then [if op=5 then eS else eR]++at_ a 0++mG b++(if 0<c then [eJ]++mG o else [])
 else (if op=6 then [eK]++at_ a 0 else if op=7 then [eL]++at_ a 0 else if op=3 then hN mod nm++oq a else if op=1 then hN mod nm++[[61]]++at_ a 0 else if op=2 then hN mod nm++[[91]]++at_ a 0++[[93],[61]]++at_ a 1 else [])++[[59]]
mutual
def j':bl->List Tx
 | .mk op mod nm args body other=>k0 op mod nm (dW args) (gQ body) other.length (gQ other)
def gQ:List bl->List Tx
 | []=>[]
 | x::r=>j' x++gQ r
end
def jR (l:List bl):List Tx:=mG (gQ l)
def qs (b:Bool):List Tx:=if b=true then [cH] else []
def rC (u:Tx):List Tx:=[mE,u,[59]]
def nz (u:Tx):List Tx:=[ny,u,[59]]
def ot (d:cB):List Tx:=if d.kind=1 then [h3,d.nm,[61],Lib.itoa d.n] else if d.kind=2 then [h4,d.nm] else if d.kind=3 then [h5,d.nm,[91],Lib.itoa d.n,[93]] else []
def bn (d:cB):List Tx:=qs d.bx++ot d++[[59]]
def hO (p:dA):List Tx:=qs p.bx++[mF,p.nm,[40]]++gd (p.params.map λs=>[s])++[[41]]++p.ay.flatMap nz++jR p.body
def bF (m:aZ):List Tx:=[pr,m.nm,[123]]++m.ak.flatMap rC++m.decls.flatMap bn++m.procs.flatMap hO++[gD]++jR m.main++[[125]]
theorem fo {a b:bo} (h:(a+b).bE=0):a.bE=0/\b.bE=0:=by
 rw [bo.dG] at h; omega
theorem ou {b:Bool} (h:(dn b).bE=0):b=false:=by cases b; rfl; cases h
theorem sX {b:Bool} (h:(ch b).bE=0):b=false:=by cases b; rfl; cases h
theorem rG {b:Bool} (h:(du b).bE=0):b=false:=by cases b; rfl; cases h
structure qt (op n:Int) (mod nm:Tx) (args:List aV) (d:Nat):Prop where
 deep:d<=6
 kind:1<=op/\op<=15
 name:gU (dv op 3 5) mod nm=false
 nA:j2 (hA op) args.length=false
 d':args.length<=3
 num:gN op n=false
 sub:(cP args (d+1)).bE=0
theorem e7 {op n:Int} {mod nm:Tx} {args:List aV} {d:Nat} (h:(ga (.mk op n mod nm args) d).bE=0):qt op n mod nm args d:=by
 unfold ga at h
 split at h
 · cases h
 · rename_i o
   obtain ⟨h,c⟩:=fo h;obtain ⟨h,e⟩:=fo h;obtain ⟨f,a⟩:=fo h;have b:=rG f;obtain ⟨g,i⟩:=Lm b;unfold dB at a;obtain ⟨a,j⟩:=fo a;obtain ⟨k,l⟩:=fo a;rw [Dw] at b;have m:=sX j;exact ⟨by omega,by simp [dv] at b; omega,by rw [<-g]; exact ou k,by rw [<-i]; exact ou l,by simp at m; omega,ou e,c⟩
theorem Fo {x:aV} {r:List aV} {d:Nat} (h:(cP (x::r) d).bE=0):(ga x d).bE=0/\(cP r d).bE=0:=by
 unfold cP at h; exact fo h
theorem qt.Fp {op n:Int} {mod nm:Tx} {args:List aV} {d:Nat} (h:qt op n mod nm args d) (a:op=4\/op=6):args.length=1:=by
 have:=h.nA
 rcases a with rfl | rfl<;>simp [j2,hA] at this<;>omega
theorem qt.NQ {op n:Int} {mod nm:Tx} {args:List aV} {d:Nat} (h:qt op n mod nm args d) (a:7<=op):args.length=2:=by
 have:=h.nA;unfold j2 hA at this;rw [if_neg (by omega),if_neg (by omega),if_neg (by omega)] at this;simp at this; omega
theorem Fq:∀l:List aV,(dW l).length=l.length
 | []=>rfl
 | x::r=>by unfold dW; simp [Fq r]
theorem NR (mod nm:Tx):hN mod nm≠[]:=by unfold hN; split<;>simp
theorem Fs:∀x:aV,aB x≠[]
 | .mk op n mod nm args=>by
   unfold aB lD oq;have:=NR mod nm
   repeat' split
   all_goals simp_all
theorem Ft:∀(l:List aV),∀x ∈ dW l,x≠[]
 | [],_,h=>by simp [dW] at h
 | y::r,x,h=>by
   unfold dW at h
   rcases List.mem_cons.1 h with rfl | h
   · exact Fs y
   · exact Ft r x h
structure b3 (op:Int) (mod nm:Tx) (args:List aV) (body other:List bl) (d:Nat):Prop where
 kind:1<=op/\op<=7
 name:gU (dv op 1 3) mod nm=false
 nA:j2 (lU op) args.length=false
 d':args.length<=3
 exprs:(cP args 1).bE=0
 form:gB op body.length other.length=false
 body:(inner op||decide (0<body.length))=true->(kU (d+1) body.length (ar body (d+1))).bE=0
 other:0<other.length->(kU (d+1) other.length (ar other (d+1))).bE=0
theorem uC {op:Int} {mod nm:Tx} {args:List aV} {body other:List bl} {d:Nat} (h:(eP (.mk op mod nm args body other) d).bE=0):b3 op mod nm args body other d:=by
 unfold eP at h;obtain ⟨h,e⟩:=fo h;obtain ⟨h,f⟩:=fo h;obtain ⟨h,g⟩:=fo h;obtain ⟨h,i⟩:=fo h;obtain ⟨j,a⟩:=fo h;have b:=rG j;obtain ⟨k,l⟩:=DO b;unfold dB at a;obtain ⟨a,m⟩:=fo a;obtain ⟨n,o⟩:=fo a;rw [Dx] at b;have p:=sX m;refine ⟨by simp [dv] at b; omega,by rw [<-k]; exact ou n,by rw [<-l]; exact ou o,by simp at p; omega,i,ou g,λc=>?_,λc=>?_⟩
 · rw [if_pos c] at f; exact f
 · rw [if_pos c] at e; exact e
theorem fq {d len:Nat} {c:bo} (h:(kU d len c).bE=0):d<=6/\len<=10/\c.bE=0:=by
 unfold kU at h
 split at h
 · cases h
 · obtain ⟨a,b⟩:=fo h
   have:=sX a;simp at this;exact ⟨by omega,by omega,b⟩
theorem Ax {x:bl} {r:List bl} {d:Nat} (h:(ar (x::r) d).bE=0):(eP x d).bE=0/\(ar r d).bE=0:=by
 unfold ar at h; exact fo h
theorem b3.len {op:Int} {mod nm:Tx} {args:List aV} {body other:List bl} {d:Nat} (h:b3 op mod nm args body other d) (b:op≠3):args.length=if op=2 then 2 else 1:=by
 have:=h.nA;unfold j2 lU at this
 by_cases a:op=2
 · rw [if_pos a] at this ⊢; simp at this; omega
 · rw [if_neg a,if_neg b] at this; rw [if_neg a]; simp at this; omega
theorem b3.NS {op:Int} {mod nm:Tx} {args:List aV} {body other:List bl} {d:Nat} (h:b3 op mod nm args body other d):((op≠4/\op≠5)->body=[])/\(op≠4->other=[]):=by
 have:=h.form;unfold gB inner at this;rw [Bool.or_eq_false_iff] at this;refine ⟨λ⟨a,b⟩=>?_,λa=>?_⟩
 · have c:=this.1
   simpa [a,b] using c
 · have c:=this.2
   simpa [a] using c
theorem Fu:∀x:bl,j' x≠[]
 | .mk op mod nm args body other=>by
   unfold j' k0
   split<;>simp
theorem NT {d:cB} (h:(gk d).bE=0):d.kind=1\/d.kind=2\/d.kind=3:=by
 unfold gk at h;obtain ⟨_,h⟩:=fo h
 by_cases a:d.kind=1
 · exact .inl a
 · rw [if_neg a] at h
   by_cases b:d.kind=2
   · exact .inr (.inl b)
   · rw [if_neg b] at h
     by_cases c:d.kind=3
     · exact .inr (.inr c)
     · rw [if_neg c] at h; cases h
theorem Fv:∀{l:List cB},(dJ l).bE=0->∀d ∈ l,(gk d).bE=0
 | [],_,d,a=>by simp at a
 | x::r,h,d,a=>by
   unfold dJ at h;obtain ⟨b,c⟩:=fo h
   rcases List.mem_cons.1 a with rfl | a
   · exact b
   · exact Fv c d a
theorem Fw:∀{l:List dA},(eo l).bE=0->∀d ∈ l,(lT d).bE=0
 | [],_,d,a=>by simp at a
 | x::r,h,d,a=>by
   unfold eo at h;obtain ⟨b,c⟩:=fo h
   rcases List.mem_cons.1 a with rfl | a
   · exact b
   · exact Fw c d a
theorem NU {c:bo}:o6 c=0↔c.bE=0:=by
 unfold o6 bo.bE
 split
 · omega
 · split
   · omega
   · split<;>omega
end Go.Bw
end
section
namespace Go.Bw
open Go
def cb (s:Tx):Tok:=match Lib.atoiAll s with
 | .ok v=>⟨2,v,[]⟩
 | _=>if dU s=true then ⟨1,0,s⟩ else ⟨3,0,s⟩
def Ay (t:Tok):Prop:=nZ t=true/\iz t=true
theorem xf:∀u ∈ o4,cb [u]=⟨3,0,[u]⟩:=by decide
theorem fv {s:Tx} (h:dU s=true):cb s=⟨1,0,s⟩:=by
 cases s with
 | nil=>simp [dU] at h
 | cons c r=>
   have a:kR (c.toNat:Int)=true:=by
     simp only [dU,Bool.and_eq_true] at h
     simpa using h.1.2
   have e:97<=c.toNat:=by simp [kR] at a; omega
   have b:∀v,Lib.atoiAll (c::r)≠.ok v:=by
     intro v hv;rw [Lib.atoiAll_plain c r (by omega) (by omega)] at hv;unfold Lib.parseMag Lib.parseUint10 at hv;rw [if_neg (by simp),if_neg (by omega)] at hv;cases hv
   unfold cb
   cases d:Lib.atoiAll (c::r) with
   | ok v=>exact absurd d (b v)
   | _=>simp [h]
theorem fG {n:Int} (a:0<=n) (b:n<=1099511627775):cb (Lib.itoa n)=⟨2,n,[]⟩:=by
 unfold cb;rw [y9 a,nN (by omega)];simp; omega
theorem xg {t:Tok} (h:Ay t):cb (lj t)=t:=by
 obtain ⟨b,a⟩:=h;obtain ⟨k,n,s⟩:=t
 have d:k=1\/k=2\/k=3:=by simp [nZ] at b; omega
 rcases d with rfl | rfl | rfl
 · simp only [iz,if_pos,Bool.and_eq_true,beq_iff_eq] at a
   obtain ⟨rfl,e⟩:=a;exact fv e
 · have:s=[]/\0<=n/\n<=1099511627775:=by simpa [iz] using a
   obtain ⟨rfl,f,g⟩:=this;exact fG f g
 · have:n=0/\s.length=1/\kS (s[0]?.getD 0)=true:=by simpa [iz] using a
   obtain ⟨rfl,i,j⟩:=this
   match s,i with
   | [c],_=>exact xf c (by simpa [kS] using j)
def gf (w:Tx):Prop:=Ay (cb w)/\lj (cb w)=w
theorem gY {s:Tx} (h:dU s=true):gf s:=by
 unfold gf;rw [fv h];exact ⟨⟨O,by simp [iz,h]⟩,O⟩
theorem aW {u:UInt8} (h:u ∈ o4):gf [u]:=by
 unfold gf;rw [xf u h];exact ⟨⟨O,by simp [iz,kS,h]⟩,O⟩
theorem Az {n:Int} (a:0<=n) (b:n<=1099511627775):gf (Lib.itoa n):=by
 unfold gf;rw [fG a b];exact ⟨⟨O,by simp [iz]; omega⟩,O⟩
theorem NV {l:List Tx} (h:∀w ∈ l,gf w):o5 (l.map cb)=J l:=by
 unfold o5 J
 congr 1
 rw [List.map_map]
 conv=>rhs; rw [<-List.map_id l]
 exact List.map_congr_left λw a=>(h w a).2
theorem jv {s:Tx} (h:ei s=true):dU s=true:=by
 simp only [ei,Bool.and_eq_true] at h; exact h.1
theorem jh {mod nm:Tx} (h:gU true mod nm=false):(mod=[]\/ei mod=true)/\ei nm=true:=by
 unfold gU at h
 cases a:(mod==[]) with
 | true=>simp [a] at h; simp at a; exact ⟨.inl a,by simpa using h⟩
 | false=>simp [a] at h; exact ⟨.inr h.1,h.2⟩
theorem Fx {mod nm:Tx} (h:gU false mod nm=false):mod=[]/\nm=[]:=by
 unfold gU at h;rw [Ll] at h
 simpa using h
theorem sY {mod nm:Tx} (h:gU true mod nm=false):∀w ∈ hN mod nm,gf w:=by
 obtain ⟨c,b⟩:=jh h;intro w a;unfold hN at a
 split at a
 · rw [List.mem_singleton] at a; subst a; exact gY (jv b)
 · rename_i d
   have:ei mod=true:=c.resolve_left (by simpa using d);simp only [List.mem_cons,List.not_mem_nil,or_false] at a
   rcases a with rfl | rfl | rfl
   · exact gY (jv this)
   · exact aW (by decide)
   · exact gY (jv b)
theorem Fy {l:List (List Tx)} (h:∀x ∈ l,∀w ∈ x,gf w):∀w ∈ gd l,gf w:=by
 induction l with
 | nil=>intro w a; simp [gd] at a
 | cons x r b=>
   cases r with
   | nil=>intro w a; exact h x (by simp) w a
   | cons y r=>
     intro w a;simp only [gd,List.mem_append,List.mem_singleton] at a
     rcases a with (a | rfl) | a
     · exact h x (by simp) w a
     · exact aW (by decide)
     · exact b (λc d=>h c (List.mem_cons_of_mem _ d)) w a
theorem Fz {l:List (List Tx)} (h:∀x ∈ l,∀w ∈ x,gf w):∀w ∈ oq l,gf w:=by
 intro w a;simp only [oq,List.mem_append,List.mem_singleton] at a
 rcases a with (rfl | a) | rfl
 · exact aW (by decide)
 · exact Fy h w a
 · exact aW (by decide)
theorem at_mem {l:List (List Tx)} {i:Nat} {w:Tx} (h:w ∈ at_ l i):∃x ∈ l,w ∈ x:=by
 unfold at_ at h
 cases a:l[i]? with
 | none=>simp [a] at h
 | some x=>rw [a] at h; exact ⟨x,List.mem_of_getElem? a,h⟩
theorem NW {op:Int} (h:7<=op/\op<=15):gf (rB op):=by
 have:op=7\/op=8\/op=9\/op=10\/op=11\/op=12\/op=13\/op=14\/op=15:=by omega
 rcases this with rfl | rfl | rfl | rfl | rfl | rfl | rfl | rfl | rfl<;>exact aW (by decide)
theorem AB {n:Int} (h:gN 1 n=false):0<=n/\n<=1099511627775:=by
 simp [gN] at h; omega
theorem NX {op n:Int} {mod nm:Tx} {args:List aV} {d:Nat} (h:qt op n mod nm args d) (g:∀x ∈ dW args,∀w ∈ x,gf w):∀w ∈ lD op n mod nm (dW args),gf w:=by
 have q:=h.kind
 have e:∀i w,w ∈ at_ (dW args) i->gf w:=λi w c=>by
   obtain ⟨x,r,s⟩:=at_mem c;exact g x r w s
 intro w c;unfold lD at c;have f:=h.name
 by_cases j:op=1
 · subst j
   rw [if_pos rfl,List.mem_singleton] at c;subst c;obtain ⟨a,b⟩:=AB h.num;exact Az a b
 rw [if_neg j] at c
 by_cases k:op=2
 · rw [if_pos k,List.mem_singleton] at c; subst c; exact gY (by decide)
 rw [if_neg k] at c
 by_cases l:op=3
 · subst l; rw [if_pos rfl] at c; exact sY f w c
 rw [if_neg l] at c
 by_cases m:op=4
 · subst m
   rw [if_pos rfl] at c;simp only [List.mem_append,List.mem_singleton] at c
   rcases c with ((c | rfl) | c) | rfl
   · exact sY f w c
   · exact aW (by decide)
   · exact e _ _ c
   · exact aW (by decide)
 rw [if_neg m] at c
 by_cases o:op=5
 · subst o
   rw [if_pos rfl,List.mem_append] at c
   rcases c with c | c
   · exact sY f w c
   · exact Fz g w c
 rw [if_neg o] at c
 by_cases p:op=6
 · rw [if_pos p,List.mem_append,List.mem_singleton] at c
   rcases c with rfl | c
   · exact aW (by decide)
   · exact e _ _ c
 rw [if_neg p] at c;simp only [List.mem_append,List.mem_singleton] at c
 rcases c with (((rfl | c) | rfl) | c) | rfl
 · exact aW (by decide)
 · exact e _ _ c
 · exact NW ⟨by omega,q.2⟩
 · exact e _ _ c
 · exact aW (by decide)
mutual
theorem NY:∀(x:aV) (d:Nat),(ga x d).bE=0->∀w ∈ aB x,gf w
 | .mk op n mod nm args,d,h=>by
   have a:=e7 h;unfold aB;exact NX a (AD args (d+1) a.sub)
theorem AD:∀(l:List aV) (d:Nat),(cP l d).bE=0->∀x ∈ dW l,∀w ∈ x,gf w
 | [],_,_=>by intro x a; simp [dW] at a
 | y::r,d,h=>by
   obtain ⟨b,c⟩:=Fo h;intro x a;unfold dW at a
   rcases List.mem_cons.1 a with rfl | a
   · exact NY y d b
   · exact AD r d c x a
end
theorem uG {l:List Tx} (h:∀w ∈ l,gf w):∀w ∈ mG l,gf w:=by
 intro w a;simp only [mG,List.mem_append,List.mem_singleton] at a
 rcases a with (rfl | a) | rfl
 · exact aW (by decide)
 · exact h w a
 · exact aW (by decide)
theorem NZ {op:Int} {mod nm:Tx} {args:List aV} {body other:List bl} {d:Nat} (h:b3 op mod nm args body other d) (e:∀w ∈ gQ body,gf w) (f:∀w ∈ gQ other,gf w) :
   ∀w ∈ k0 op mod nm (dW args) (gQ body) other.length (gQ other),gf w:=by
 have l:=h.kind;have g:=AD args 1 h.exprs
 have b:∀i w,w ∈ at_ (dW args) i->gf w:=λi w a=>by
   obtain ⟨x,j,k⟩:=at_mem a;exact g x j w k
 have c:=h.name;intro w a;unfold k0 at a
 rcases (by omega:op=1\/op=2\/op=3\/op=4\/op=5\/op=6\/op=7) with rfl | rfl | rfl | rfl | rfl | rfl | rfl
 · simp only [if_true,if_false,reduceCtorEq,Int.reduceEq,or_self,List.mem_append,List.mem_singleton] at a
   rcases a with ((a | rfl) | a) | rfl
   · exact sY c w a
   · exact aW (by decide)
   · exact b _ _ a
   · exact aW (by decide)
 · simp only [if_true,if_false,reduceCtorEq,Int.reduceEq,or_self,List.mem_append,List.mem_singleton,List.mem_cons,List.not_mem_nil,or_false] at a
   rcases a with ((((a | rfl) | a) | (rfl | rfl)) | a) | rfl
   · exact sY c w a
   · exact aW (by decide)
   · exact b _ _ a
   · exact aW (by decide)
   · exact aW (by decide)
   · exact b _ _ a
   · exact aW (by decide)
 · simp only [if_true,if_false,reduceCtorEq,Int.reduceEq,or_self,List.mem_append,List.mem_singleton] at a
   rcases a with (a | a) | rfl
   · exact sY c w a
   · exact Fz g w a
   · exact aW (by decide)
 · simp only [if_true,if_false,reduceCtorEq,Int.reduceEq,or_false,true_or,List.mem_append,List.mem_singleton] at a
   rcases a with ((rfl | a) | a) | a
   · exact gY (by decide)
   · exact b _ _ a
   · exact uG e w a
   · split at a
     · simp only [List.mem_append,List.mem_singleton] at a
       rcases a with rfl | a
       · exact gY (by decide)
       · exact uG f w a
     · simp at a
 · simp only [if_true,if_false,reduceCtorEq,Int.reduceEq,or_true,List.mem_append,List.mem_singleton] at a
   rcases a with ((rfl | a) | a) | a
   · exact gY (by decide)
   · exact b _ _ a
   · exact uG e w a
   · split at a
     · simp only [List.mem_append,List.mem_singleton] at a
       rcases a with rfl | a
       · exact gY (by decide)
       · exact uG f w a
     · simp at a
 · simp only [if_true,if_false,reduceCtorEq,Int.reduceEq,or_self,List.mem_append,List.mem_singleton] at a
   rcases a with (rfl | a) | rfl
   · exact gY (by decide)
   · exact b _ _ a
   · exact aW (by decide)
 · simp only [if_true,if_false,reduceCtorEq,Int.reduceEq,or_self,List.mem_append,List.mem_singleton] at a
   rcases a with (rfl | a) | rfl
   · exact gY (by decide)
   · exact b _ _ a
   · exact aW (by decide)
theorem b3.FA {op:Int} {mod nm:Tx} {args:List aV} {body other:List bl} {d:Nat} (b:b3 op mod nm args body other d):(ar body (d+1)).bE=0/\(ar other (d+1)).bE=0:=by
 constructor
 · by_cases a:(inner op||decide (0<body.length))=true
   · exact (fq (b.body a)).2.2
   · have:body=[]:=by
       simp at a;exact a.2
     subst this; rfl
 · by_cases a:0<other.length
   · exact (fq (b.other a)).2.2
   · have:other=[]:=List.eq_nil_of_length_eq_zero (by omega)
     subst this; rfl
mutual
theorem N0:∀(x:bl) (d:Nat),(eP x d).bE=0->∀w ∈ j' x,gf w
 | .mk op mod nm args body other,d,h=>by
   have a:=uC h;unfold j';exact NZ a (xh body (d+1) a.FA.1) (xh other (d+1) a.FA.2)
theorem xh:∀(l:List bl) (d:Nat),(ar l d).bE=0->∀w ∈ gQ l,gf w
 | [],_,_=>by intro x b; simp [gQ] at b
 | y::r,d,h=>by
   obtain ⟨c,e⟩:=Ax h;intro w a;unfold gQ at a
   rcases List.mem_append.1 a with a | a
   · exact N0 y d c w a
   · exact xh r d e w a
end
theorem cL:∀{l:List Tx},(bp l).bE=0->∀s ∈ l,ei s=true
 | [],_,s,a=>by simp at a
 | x::r,h,s,a=>by
   unfold bp at h;obtain ⟨b,c⟩:=fo h
   rcases List.mem_cons.1 a with rfl | a
   · simpa using ou b
   · exact cL c s a
structure xi (d:cB):Prop where
 name:ei d.nm=true
 kind:d.kind=1\/d.kind=2\/d.kind=3
 n1:d.kind=1->0<=d.n/\d.n<=1099511627775
 n2:d.kind=2->d.n=0
 n3:d.kind=3->1<=d.n/\d.n<=32
theorem cM {d:cB} (h:(gk d).bE=0):xi d:=by
 have b:=NT h;unfold gk at h;obtain ⟨c,a⟩:=fo h;refine ⟨cL c d.nm (by simp),b,λe=>?_,λe=>?_,λe=>?_⟩
 · rw [if_pos e] at a
   have:=ou a;simp at this; omega
 · rw [if_neg (by omega),if_pos e] at a
   have:=ou a
   simpa using this
 · rw [if_neg (by omega),if_neg (by omega),if_pos e] at a
   have:=ou a;simp at this; omega
theorem N1 {d:cB} (h:(gk d).bE=0):∀w ∈ bn d,gf w:=by
 have f:=cM h;have g:=gY (jv f.name);intro w c;simp only [bn,List.mem_append,List.mem_singleton] at c
 rcases c with (c | c) | rfl
 · unfold qs at c
   split at c
   · rw [List.mem_singleton] at c; subst c; exact gY (by decide)
   · simp at c
 · unfold ot at c
   rcases f.kind with e | e | e
   · obtain ⟨a,b⟩:=f.n1 e
     rw [if_pos e] at c;simp only [List.mem_cons,List.not_mem_nil,or_false] at c
     rcases c with rfl | rfl | rfl | rfl
     · exact gY (by decide)
     · exact g
     · exact aW (by decide)
     · exact Az a b
   · rw [if_neg (by omega),if_pos e] at c
     simp only [List.mem_cons,List.not_mem_nil,or_false] at c
     rcases c with rfl | rfl
     · exact gY (by decide)
     · exact g
   · obtain ⟨a,b⟩:=f.n3 e
     rw [if_neg (by omega),if_neg (by omega),if_pos e] at c;simp only [List.mem_cons,List.not_mem_nil,or_false] at c
     rcases c with rfl | rfl | rfl | rfl | rfl
     · exact gY (by decide)
     · exact g
     · exact aW (by decide)
     · exact Az (by omega) (by omega)
     · exact aW (by decide)
 · exact aW (by decide)
structure FB (p:dA):Prop where
 name:ei p.nm=true
 params:∀s ∈ p.params,ei s=true
 ay:∀s ∈ p.ay,ei s=true
 d':p.params.length<=3/\p.ay.length<=4
 body:(dw p.body 1).bE=0
theorem cO {p:dA} (h:(lT p).bE=0):FB p:=by
 unfold lT at h;obtain ⟨h,a⟩:=fo h;obtain ⟨h,b⟩:=fo h;obtain ⟨h,c⟩:=fo h;obtain ⟨d,e⟩:=fo h;have:=sX b;simp at this;exact ⟨cL d p.nm (by simp),cL e,cL c,by omega,a⟩
theorem FC {l:List bl} {d:Nat} (h:(dw l d).bE=0):∀w ∈ jR l,gf w:=by
 unfold dw at h;exact uG (xh l d (fq h).2.2)
theorem N2 {p:dA} (h:(lT p).bE=0):∀w ∈ hO p,gf w:=by
 have b:=cO h;intro w a;simp only [hO,List.mem_append,List.mem_singleton,List.mem_cons,List.not_mem_nil,or_false,List.mem_flatMap] at a
 rcases a with ((((a | (rfl | rfl | rfl)) | a) | rfl) | ⟨s,c,a⟩) | a
 · unfold qs at a
   split at a
   · rw [List.mem_singleton] at a; subst a; exact gY (by decide)
   · simp at a
 · exact gY (by decide)
 · exact gY (jv b.name)
 · exact aW (by decide)
 · refine Fy (λx d w a=>?_) w a
   obtain ⟨s,c,rfl⟩:=List.mem_map.1 d;rw [List.mem_singleton] at a;subst a;exact gY (jv (b.params _ c))
 · exact aW (by decide)
 · simp only [nz,List.mem_cons,List.not_mem_nil,or_false] at a
   rcases a with rfl | rfl | rfl
   · exact gY (by decide)
   · exact gY (jv (b.ay _ c))
   · exact aW (by decide)
 · exact FC b.body w a
structure jw (m:aZ):Prop where
 name:ei m.nm=true
 ak:∀s ∈ m.ak,ei s=true
 d':m.ak.length<=3/\m.decls.length<=10/\m.procs.length<=6
 decls:∀d ∈ m.decls,(gk d).bE=0
 procs:∀p ∈ m.procs,(lT p).bE=0
 main:(dw m.main 1).bE=0
theorem xj {m:aZ} (h:(nf m).bE=0):jw m:=by
 unfold nf at h;obtain ⟨h,a⟩:=fo h;obtain ⟨h,b⟩:=fo h;obtain ⟨h,c⟩:=fo h;obtain ⟨h,d⟩:=fo h;obtain ⟨e,f⟩:=fo h;have:=sX d;simp at this;exact ⟨cL e m.nm (by simp),cL f,by omega,Fv c,Fw b,a⟩
theorem FD {m:aZ} (h:(nf m).bE=0):∀w ∈ bF m,gf w:=by
 have b:=xj h;intro w a;simp only [bF,List.mem_append,List.mem_singleton,List.mem_cons,List.not_mem_nil,or_false,List.mem_flatMap] at a
 rcases a with ((((((rfl | rfl | rfl) | ⟨s,c,a⟩) | ⟨d,e,a⟩) | ⟨p,f,a⟩) | rfl) | a) | rfl
 · exact gY (by decide)
 · exact gY (jv b.name)
 · exact aW (by decide)
 · simp only [rC,List.mem_cons,List.not_mem_nil,or_false] at a
   rcases a with rfl | rfl | rfl
   · exact gY (by decide)
   · exact gY (jv (b.ak _ c))
   · exact aW (by decide)
 · exact N1 (b.decls d e) w a
 · exact N2 (b.procs p f) w a
 · exact gY (by decide)
 · exact FC b.main w a
 · exact aW (by decide)
end Go.Bw
end
section
namespace Go.Bw
open Go
abbrev Tk:=List Tok
def aU (s:Tx):Tk->Option Tk
 | []=>none
 | t::r=>if (t.text==s)=true then some r else none
def jx (k:Int):Tk->Option (Tok×Tk)
 | []=>none
 | t::r=>if t.kind=k then some (t,r) else none
def dz (l:Tk):Option (Tx×Tk):=(jx 1 l).bind λp=>if ei p.1.text=true then some (p.1.text,p.2) else none
def iH (l:Tk):Option (Int×Tk):=(jx 2 l).map λp=>(p.1.n,p.2)
def h6 (l:Tk):Option ((Tx×Tx)×Tk):=(dz l).bind λa=>match aU [46] a.2 with
 | some r=>(dz r).map λb=>((a.1,b.1),b.2)
 | none=>some (([],a.1),a.2)
def jb (a:Tk->Option (aV×Tk)):Nat->Tk->Option (List aV×Tk)
 | 0,_=>none
 | n+1,l=>(a l).bind λx=>match aU [41] x.2 with
   | some r=>some ([x.1],r)
   | none=>match aU [44] x.2 with
     | some r=>(jb a n r).map λq=>(x.1::q.1,q.2)
     | none=>none
def iI (a:Tk->Option (aV×Tk)) (l:Tk):Option (List aV×Tk):=match aU [41] l with
 | some r=>some ([],r)
 | none=>jb a (l.length+1) l
def bu:List Tx->Nat->Tk->Option (Nat×Tk)
 | [],_,_=>none
 | w::ws,i,l=>match aU w l with
   | some r=>some (i,r)
   | none=>bu ws (i+1) l
def j_ (c:Tk->Option (aV×Tk)) (l:Tk):Option (aV×Tk):=(c l).bind λa=>(bu opsL 0 a.2).bind λo=>(c o.2).bind λb=>(aU [41] b.2).map λr=>(aV.mk (7+(o.1:Int)) 0 [] [] [a.1,b.1],r)
def kx (a:Tk->Option (aV×Tk)) (mod nm:Tx) (l:Tk):Option (aV×Tk):=match aU [91] l with
 | some r=>(a r).bind λx=>(aU [93] x.2).map λr=>(aV.mk 4 0 mod nm [x.1],r)
 | none=>match aU [40] l with
   | some r=>(iI a r).map λq=>(aV.mk 5 0 mod nm q.1,q.2)
   | none=>some (aV.mk 3 0 mod nm [],l)
def jc (a:Tk->Option (aV×Tk)) (l:Tk):Option (aV×Tk):=match aU qq l with
 | some r=>some (aV.mk 2 0 [] [] [],r)
 | none=>match aU [33] l with
   | some r=>(a r).map λx=>(aV.mk 6 0 [] [] [x.1],x.2)
   | none=>match aU [40] l with
     | some r=>j_ a r
     | none=>(h6 l).bind λp=>kx a p.1.1 p.1.2 p.2
def cC:Nat->Tk->Option (aV×Tk)
 | 0,_=>none
 | f+1,l=>match l with
   | []=>none
   | t::r=>if t.kind=2 then some (aV.mk 1 t.n [] [] [],r) else jc (cC f) (t::r)
def eM (l:Tk):Option (bl×Tk):=match aU eK l with
 | some r=>(cC 6 r).map λx=>(bl.mk 6 [] [] [x.1] [] [],x.2)
 | none=>match aU eL l with
   | some r=>(cC 6 r).map λx=>(bl.mk 7 [] [] [x.1] [] [],x.2)
   | none=>(h6 l).bind λp=>match aU [40] p.2 with
     | some r=>(iI (cC 6) r).map λq=>(bl.mk 3 p.1.1 p.1.2 q.1 [] [],q.2)
     | none=>match aU [91] p.2 with
       | some r=>(cC 6 r).bind λi=>(aU [93] i.2).bind λr=>(aU [61] r).bind λr=>(cC 6 r).map λx=>(bl.mk 2 p.1.1 p.1.2 [i.1,x.1] [] [],x.2)
       | none=>(aU [61] p.2).bind λr=>(cC 6 r).map λx=>(bl.mk 1 p.1.1 p.1.2 [x.1] [] [],x.2)
def eh (pb:Tk->Option (List bl×Tk)) (l:Tk):Option (bl×Tk):=match aU eR l with
 | some r=>(cC 6 r).bind λx=>(pb x.2).bind λb=>match aU eJ b.2 with
   | some r=>(pb r).bind λo=>if o.1.length=0 then none else some (bl.mk 4 [] [] [x.1] b.1 o.1,o.2)
   | none=>some (bl.mk 4 [] [] [x.1] b.1 [],b.2)
 | none=>match aU eS l with
   | some r=>(cC 6 r).bind λx=>(pb x.2).map λb=>(bl.mk 5 [] [] [x.1] b.1 [],b.2)
   | none=>(eM l).bind λs=>(aU [59] s.2).map λr=>(s.1,r)
def ky (ps:Tk->Option (bl×Tk)):Nat->Tk->Option (List bl×Tk)
 | 0,_=>none
 | n+1,l=>match aU [125] l with
   | some r=>some ([],r)
   | none=>(ps l).bind λs=>(ky ps n s.2).map λq=>(s.1::q.1,q.2)
def fb:Nat->Tk->Option (List bl×Tk)
 | 0,_=>none
 | f+1,l=>(aU [123] l).bind λr=>ky (eh (fb f)) (r.length+1) r
def eT (bx:Bool) (l:Tk):Option (Option cB×Tk):=match aU h3 l with
 | some r=>(dz r).bind λa=>(aU [61] a.2).bind λr=>(iH r).bind λn=>(aU [59] n.2).map λr=>(some ⟨1,a.1,bx,n.1⟩,r)
 | none=>match aU h4 l with
   | some r=>(dz r).bind λa=>(aU [59] a.2).map λr=>(some ⟨2,a.1,bx,0⟩,r)
   | none=>match aU h5 l with
     | some r=>(dz r).bind λa=>(aU [91] a.2).bind λr=>(iH r).bind λn=>(aU [93] n.2).bind λr=>(aU [59] r).map λr=>(some ⟨3,a.1,bx,n.1⟩,r)
     | none=>some (none,l)
def ea (l:Tk):Bool×Tk:=((aU cH l).isSome,(aU cH l).getD l)
def jS:Nat->Bool->Tk->Option ((List cB×Bool)×Tk)
 | 0,_,_=>none
 | n+1,bx,l=>(eT bx l).bind λd=>match d.1 with
   | none=>some (([],bx),d.2)
   | some x=>(jS n (ea d.2).1 (ea d.2).2).map λq=>((x::q.1.1,q.1.2),q.2)
def hr:Nat->Bool->Tk->Option (List Tx×Tk)
 | 0,_,_=>none
 | n+1,first,l=>match aU [41] l with
   | some r=>some ([],r)
   | none=>(if first=true then some l else aU [44] l).bind λl=>(dz l).bind λa=>(hr n false a.2).map λq=>(a.1::q.1,q.2)
def im:Nat->Tk->Option (List Tx×Tk)
 | 0,_=>none
 | n+1,l=>match aU ny l with
   | some r=>(dz r).bind λa=>(aU [59] a.2).bind λr=>(im n r).map λq=>(a.1::q.1,q.2)
   | none=>some ([],l)
def hP (bx:Bool) (l:Tk):Option (dA×Tk):=(dz l).bind λa=>(aU [40] a.2).bind λr=>(hr (r.length+1) true r).bind λps=>(im (ps.2.length+1) ps.2).bind λc=>(fb 6 c.2).map λb=>(⟨a.1,bx,ps.1,c.1,b.1⟩,b.2)
def jT:Nat->Bool->Tk->Option ((List dA×Bool)×Tk)
 | 0,_,_=>none
 | n+1,bx,l=>match aU mF l with
   | some r=>(hP bx r).bind λp=>(jT n (ea p.2).1 (ea p.2).2).map λq=>((p.1::q.1.1,q.1.2),q.2)
   | none=>some (([],bx),l)
def iJ:Nat->Tk->Option (List Tx×Tk)
 | 0,_=>none
 | n+1,l=>match aU mE l with
   | some r=>(dz r).bind λa=>(aU [59] a.2).bind λr=>(iJ n r).map λq=>(a.1::q.1,q.2)
   | none=>some ([],l)
def jU (l:Tk):Option (aZ×Tk):=(aU pr l).bind λr=>(dz r).bind λa=>(aU [123] a.2).bind λr=>(iJ (r.length+1) r).bind λu=>
 (jS ((ea u.2).2.length+1) (ea u.2).1 (ea u.2).2).bind λd=>(jT (d.2.length+1) d.1.2 d.2).bind λp=>if p.1.2=true then none else
 (aU gD p.2).bind λr=>(fb 6 r).bind λb=>(aU [125] b.2).map λr=>(⟨a.1,u.1,d.1.1,p.1.1,b.1⟩,r)
def gx (l:Tk):Prop:=∀t ∈ l,Ay t
def fh (l:Tk) (a:List Tx) (r:Tk):Prop:=gx l/\l=a.map cb++r
theorem fh.ok {l r:Tk} {a:List Tx} (h:fh l a r):gx r:=λt b=>h.1 t (by rw [h.2]; exact List.mem_append_right _ b)
theorem fh.trans {l r q:Tk} {a b:List Tx} (h:fh l a r) (k:fh r b q):fh l (a++b) q:=⟨h.1,by rw [h.2,k.2]; simp⟩
theorem fh.nil {l:Tk} (h:gx l):fh l [] l:=⟨h,rfl⟩
theorem fh.cast {l r:Tk} {a b:List Tx} (h:fh l a r) (e:a=b):fh l b r:=e▸h
theorem e1 {s:Tx} {l r:Tk} (b:gx l) (d:s≠[]) (h:aU s l=some r):fh l [s] r:=by
 cases l with
 | nil=>cases h
 | cons t q=>
   simp only [aU] at h
   split at h
   · rename_i a
     injection h with h
     subst h;simp only [beq_iff_eq] at a;refine ⟨b,?_⟩;have c:=b t (by simp)
     have e:lj t=s:=by
       unfold lj;rw [if_neg]
       · exact a
       · intro f
         have:=c.2;unfold iz at this;rw [if_neg (by omega),if_pos f] at this;simp [a,d] at this
     simp [<-e,xg c]
   · cases h
theorem ow {l r:Tk} {a:Tx} (b:gx l) (h:dz l=some (a,r)):fh l [a] r/\ei a=true:=by
 cases l with
 | nil=>cases h
 | cons t q=>
   unfold dz jx at h;dsimp only at h
   by_cases c:t.kind=1
   · rw [if_pos c] at h
     simp only [Option.bind_some] at h
     split at h
     · rename_i d
       injection h with h
       injection h with f g
       subst f g;refine ⟨⟨b,?_⟩,d⟩;have i:=b t (by simp)
       have e:lj t=t.text:=by rw [lj,if_neg (by omega)]
       rw [<-e];simp [xg i]
     · cases h
   · rw [if_neg c] at h; cases h
theorem AE {l r:Tk} {n:Int} (b:gx l) (h:iH l=some (n,r)):fh l [Lib.itoa n] r:=by
 cases l with
 | nil=>cases h
 | cons t q=>
   unfold iH jx at h;dsimp only at h
   by_cases a:t.kind=2
   · rw [if_pos a] at h
     simp only [Option.map_some] at h
     injection h with h
     injection h with c d
     subst c d;refine ⟨b,?_⟩;have f:=b t (by simp)
     have e:lj t=Lib.itoa t.n:=by rw [lj,if_pos a]
     rw [<-e];simp [xg f]
   · rw [if_neg a] at h; cases h
theorem AF {l r:Tk} {mod nm:Tx} (j:gx l) (h:h6 l=some ((mod,nm),r)):fh l (hN mod nm) r:=by
 unfold h6 at h;obtain ⟨⟨a,q⟩,k,c⟩:=Option.bind_eq_some_iff.1 h;obtain ⟨d,n1⟩:=ow j k;simp only at c
 cases e:aU [46] q with
 | none=>
   rw [e] at c;simp only [Option.some.injEq,Prod.mk.injEq] at c;obtain ⟨⟨rfl,rfl⟩,rfl⟩:=c;exact d
 | some o=>
   rw [e] at c;obtain ⟨⟨b,p⟩,m,f⟩:=Option.map_eq_some_iff.1 c;simp only [Prod.mk.injEq] at f;obtain ⟨⟨rfl,rfl⟩,rfl⟩:=f;have g:=e1 d.ok (by simp) e;obtain ⟨n,n3⟩:=ow g.ok m;refine ((d.trans g).trans n).cast ?_;unfold hN;rw [if_neg]
   · rfl
   · intro i
     simp only [beq_iff_eq] at i;subst i;simp [ei,dU] at n1
def Sound (a:Tk->Option (aV×Tk)):Prop:=∀l x r,gx l->a l=some (x,r)->fh l (aB x) r
theorem AG {g:Tk->Option (aV×Tk)} (i:Sound g):∀(n:Nat) (l:Tk) (xs:List aV) (r:Tk),gx l->jb g n l=some (xs,r)->fh l (gd (dW xs)++[[41]]) r
 | 0,_,_,_,_,h=>by cases h
 | n+1,l,xs,r,o,h=>by
   unfold jb at h;obtain ⟨⟨x,q⟩,p,a⟩:=Option.bind_eq_some_iff.1 h;have c:=i l x q o p;simp only at a
   cases e:aU [41] q with
   | some j=>
     rw [e] at a;simp only [Option.some.injEq,Prod.mk.injEq] at a;obtain ⟨rfl,rfl⟩:=a;exact c.trans (e1 c.ok (by simp) e)
   | none=>
     rw [e] at a;simp only at a
     cases f:aU [44] q with
     | none=>rw [f] at a; cases a
     | some j=>
       rw [f] at a;obtain ⟨⟨ys,s⟩,d,k⟩:=Option.map_eq_some_iff.1 a;simp only [Prod.mk.injEq] at k;obtain ⟨rfl,rfl⟩:=k;have m:=e1 c.ok (by simp) f;have t:=AG i n j ys s m.ok d;refine ((c.trans m).trans t).cast ?_
       cases ys with
       | nil=>exfalso; cases n with
         | zero=>cases d
         | succ n=>
           unfold jb at d;obtain ⟨⟨y,v⟩,_,b⟩:=Option.bind_eq_some_iff.1 d;simp only at b
           split at b
           · simp at b
           · split at b
             · obtain ⟨w,_,u⟩:=Option.map_eq_some_iff.1 b
               simp at u
             · cases b
       | cons y ys=>simp [dW,gd]
theorem FE {c:Tk->Option (aV×Tk)} (d:Sound c) {l r q:Tk} {xs:List aV} (e:gx l) (f:aU [40] l=some q) (h:iI c q=some (xs,r)):fh l (oq (dW xs)) r:=by
 have a:=e1 e (by simp) f;unfold iI at h
 cases b:aU [41] q with
 | some g=>
   rw [b] at h;simp only [Option.some.injEq,Prod.mk.injEq] at h;obtain ⟨rfl,rfl⟩:=h;exact a.trans (e1 a.ok (by simp) b)
 | none=>
   rw [b] at h;exact (a.trans (AG d _ q xs r a.ok h)).cast (by simp [oq])
theorem FF:∀(a:List Tx) (i:Nat) (l r:Tk) (k:Nat),gx l->(∀w ∈ a,w≠[])->bu a i l=some (k,r)->∃j,k=i+j/\∃w,a[j]? = some w/\fh l [w] r
 | [],_,_,_,_,_,_,h=>by cases h
 | w::a,i,l,r,k,c,hw,h=>by
   unfold bu at h
   cases b:aU w l with
   | some q=>
     rw [b] at h;simp only [Option.some.injEq,Prod.mk.injEq] at h;obtain ⟨rfl,rfl⟩:=h;exact ⟨0,O,w,O,e1 c (hw w (by simp)) b⟩
   | none=>
     rw [b] at h;obtain ⟨j,f,v,d,e⟩:=FF a (i+1) l r k c (λv hv=>hw v (List.mem_cons_of_mem _ hv)) h;exact ⟨j+1,by omega,v,by simpa using d,e⟩
theorem FG (op n:Int) (mod nm:Tx) (args:List aV):aB (.mk op n mod nm args)=lD op n mod nm (dW args):=by rw [aB]
theorem N3 {c:Tk->Option (aV×Tk)} (d:Sound c) {l r q:Tk} {x:aV} (s:gx l) (t:aU [40] l=some q) (h:j_ c q=some (x,r)):fh l (aB x) r:=by
 have e:=e1 s (by simp) t;unfold j_ at h;obtain ⟨⟨a,f⟩,u,v⟩:=Option.bind_eq_some_iff.1 h;obtain ⟨⟨o,g⟩,y,z⟩:=Option.bind_eq_some_iff.1 v;obtain ⟨⟨b,A⟩,B,C⟩:=Option.bind_eq_some_iff.1 z;obtain ⟨G,D,i⟩:=Option.map_eq_some_iff.1 C;simp only [Prod.mk.injEq] at i;obtain ⟨rfl,rfl⟩:=i;have k:=d q a f e.ok u;obtain ⟨j,H,w,m,n⟩:=FF opsL 0 f g o k.ok (by decide) y;have p:=d g b A n.ok B;have E:=e1 p.ok (by simp) D;refine ((((e.trans k).trans n).trans p).trans E).cast ?_
 obtain rfl:o=j:=by omega
 have I:o<9:=(List.getElem?_eq_some_iff.1 m).1
 have F:rB (7+(o:Int))=w:=by
   unfold rB;rw [show ((7+(o:Int))-7).toNat=o by omega,m]; rfl
 rw [FG,lD,if_neg (by omega),if_neg (by omega),if_neg (by omega),if_neg (by omega),if_neg (by omega),if_neg (by omega),F];simp [dW,at_]
theorem N4 {f:Tk->Option (aV×Tk)} (g:Sound f) {l i r:Tk} {mod nm:Tx} {x:aV} (a:fh i (hN mod nm) l) (h:kx f mod nm l=some (x,r)):fh i (aB x) r:=by
 unfold kx at h
 cases c:aU [91] l with
 | some q=>
   rw [c] at h;obtain ⟨⟨y,j⟩,d,b⟩:=Option.bind_eq_some_iff.1 h;obtain ⟨s,o,k⟩:=Option.map_eq_some_iff.1 b;simp only [Prod.mk.injEq] at k;obtain ⟨rfl,rfl⟩:=k;have m:=e1 a.ok (by simp) c;have n:=g q y j m.ok d;have p:=e1 n.ok (by simp) o;exact (((a.trans m).trans n).trans p).cast (by simp [aB,lD,dW,at_])
 | none=>
   rw [c] at h;simp only at h
   cases e:aU [40] l with
   | some q=>
     rw [e] at h;obtain ⟨⟨xs,j⟩,d,b⟩:=Option.map_eq_some_iff.1 h;simp only [Prod.mk.injEq] at b;obtain ⟨rfl,rfl⟩:=b;exact (a.trans (FE g a.ok e d)).cast (by simp [aB,lD])
   | none=>
     rw [e] at h;simp only [Option.some.injEq,Prod.mk.injEq] at h;obtain ⟨rfl,rfl⟩:=h;exact a.cast (by simp [aB,lD])
theorem N5 {i:Tk->Option (aV×Tk)} (c:Sound i):Sound (jc i):=by
 intro l x r a h;unfold jc at h
 cases d:aU qq l with
 | some q=>
   rw [d] at h;simp only [Option.some.injEq,Prod.mk.injEq] at h;obtain ⟨rfl,rfl⟩:=h;exact (e1 a (by decide) d).cast (by simp [aB,lD])
 | none=>
   rw [d] at h;simp only at h
   cases e:aU [33] l with
   | some q=>
     rw [e] at h;obtain ⟨⟨y,k⟩,f,b⟩:=Option.map_eq_some_iff.1 h;simp only [Prod.mk.injEq] at b;obtain ⟨rfl,rfl⟩:=b;have j:=e1 a (by simp) e;exact (j.trans (c q y k j.ok f)).cast (by simp [aB,lD,dW,at_])
   | none=>
     rw [e] at h;simp only at h
     cases g:aU [40] l with
     | some q=>rw [g] at h; exact N3 c a g h
     | none=>
       rw [g] at h;obtain ⟨⟨⟨mod,nm⟩,q⟩,f,b⟩:=Option.bind_eq_some_iff.1 h;exact N4 c (AF a f) b
theorem sZ:∀f,Sound (cC f)
 | 0=>λ_ _ _ _ h=>by cases h
 | f+1=>by
   intro l x r a h
   cases l with
   | nil=>cases h
   | cons t q=>
     unfold cC at h
     by_cases b:t.kind=2
     · simp only [if_pos b,Option.some.injEq,Prod.mk.injEq] at h
       obtain ⟨rfl,rfl⟩:=h;refine ⟨a,?_⟩;have c:=a t (by simp)
       have e:lj t=Lib.itoa t.n:=by rw [lj,if_pos b]
       have d:aB (aV.mk 1 t.n [] [] [])=[Lib.itoa t.n]:=by simp [aB,lD]
       rw [d,<-e];simp [xg c]
     · simp only [if_neg b] at h
       exact N5 (sZ f) _ x r a h
end Go.Bw
end
section
namespace Go.Bw
open Go
theorem ox (op:Int) (mod nm:Tx) (args:List aV) (body other:List bl):j' (.mk op mod nm args body other)=k0 op mod nm (dW args) (gQ body) other.length (gQ other):=by rw [j']
theorem N6 {l r:Tk} {s:bl} (o:gx l) (h:eM l=some (s,r)):∃w,j' s=w++[[59]]/\fh l w r:=by
 have c:=sZ 6;unfold eM at h
 cases p:aU eK l with
 | some q=>
   rw [p] at h;obtain ⟨⟨x,d⟩,j,e⟩:=Option.map_eq_some_iff.1 h;simp only [Prod.mk.injEq] at e;obtain ⟨rfl,rfl⟩:=e;have b:=e1 o (by decide) p;exact ⟨[eK]++aB x,by simp [ox,k0,dW,at_],b.trans (c q x d b.ok j)⟩
 | none=>
   rw [p] at h;simp only at h
   cases j:aU eL l with
   | some q=>
     rw [j] at h;obtain ⟨⟨x,d⟩,e,a⟩:=Option.map_eq_some_iff.1 h;simp only [Prod.mk.injEq] at a;obtain ⟨rfl,rfl⟩:=a;have b:=e1 o (by decide) j;exact ⟨[eL]++aB x,by simp [ox,k0,dW,at_],b.trans (c q x d b.ok e)⟩
   | none=>
     rw [j] at h;obtain ⟨⟨⟨mod,nm⟩,q⟩,e,a⟩:=Option.bind_eq_some_iff.1 h;have f:=AF o e;simp only at a
     cases t:aU [40] q with
     | some d=>
       rw [t] at a;obtain ⟨⟨xs,y⟩,k,g⟩:=Option.map_eq_some_iff.1 a;simp only [Prod.mk.injEq] at g;obtain ⟨rfl,rfl⟩:=g;exact ⟨hN mod nm++oq (dW xs),by simp [ox,k0],f.trans (FE c f.ok t k)⟩
     | none=>
       rw [t] at a;simp only at a
       cases k:aU [91] q with
       | some d=>
         rw [k] at a;obtain ⟨⟨i,y⟩,g,u⟩:=Option.bind_eq_some_iff.1 a;obtain ⟨G,v,m⟩:=Option.bind_eq_some_iff.1 u;obtain ⟨H,C,D⟩:=Option.bind_eq_some_iff.1 m;obtain ⟨⟨x,I⟩,E,z⟩:=Option.map_eq_some_iff.1 D;simp only [Prod.mk.injEq] at z;obtain ⟨rfl,rfl⟩:=z;have b:=e1 f.ok (by simp) k;have n:=c _ _ _ b.ok g;have A:=e1 n.ok (by simp) v;have B:=e1 A.ok (by simp) C;have F:=c _ _ _ B.ok E;exact ⟨hN mod nm++[[91]]++aB i++[[93],[61]]++aB x,by simp [ox,k0,dW,at_],(((((f.trans b).trans n).trans A).trans B).trans F).cast (by simp)⟩
       | none=>
         rw [k] at a;obtain ⟨d,g,u⟩:=Option.bind_eq_some_iff.1 a;obtain ⟨⟨x,y⟩,v,m⟩:=Option.map_eq_some_iff.1 u;simp only [Prod.mk.injEq] at m;obtain ⟨rfl,rfl⟩:=m;have b:=e1 f.ok (by simp) g;have n:=c _ _ _ b.ok v;exact ⟨hN mod nm++[[61]]++aB x,by simp [ox,k0,dW,at_],(f.trans b).trans n⟩
def AH (pb:Tk->Option (List bl×Tk)):Prop:=∀l x r,gx l->pb l=some (x,r)->fh l (jR x) r
theorem AI {pb:Tk->Option (List bl×Tk)} (m:AH pb) {l r:Tk} {s:bl} (n:gx l) (h:eh pb l=some (s,r)):fh l (j' s) r:=by
 have t:=sZ 6;unfold eh at h
 cases p:aU eR l with
 | some q=>
   rw [p] at h;obtain ⟨⟨x,u⟩,f,g⟩:=Option.bind_eq_some_iff.1 h;obtain ⟨⟨b,v⟩,i,a⟩:=Option.bind_eq_some_iff.1 g;have e:=e1 n (by decide) p;have c:=t _ _ _ e.ok f;have j:=m _ _ _ c.ok i;simp only at a
   cases d:aU eJ v with
   | some A=>
     rw [d] at a;obtain ⟨⟨o,B⟩,y,k⟩:=Option.bind_eq_some_iff.1 a;simp only at k
     split at k
     · cases k
     · rename_i C
       simp only [Option.some.injEq,Prod.mk.injEq] at k;obtain ⟨rfl,rfl⟩:=k;have w:=e1 j.ok (by decide) d;have z:=m _ _ _ w.ok y;refine ((((e.trans c).trans j).trans w).trans z).cast ?_;rw [ox];simp only [k0,Int.reduceEq,or_false,true_or,if_true,if_false];rw [if_pos (by omega)];simp [dW,at_,jR]
   | none=>
     rw [d] at a;simp only [Option.some.injEq,Prod.mk.injEq] at a;obtain ⟨rfl,rfl⟩:=a;exact ((e.trans c).trans j).cast (by simp [ox,k0,dW,at_,jR])
 | none=>
   rw [p] at h;simp only at h
   cases f:aU eS l with
   | some q=>
     rw [f] at h;obtain ⟨⟨x,u⟩,g,i⟩:=Option.bind_eq_some_iff.1 h;obtain ⟨⟨b,v⟩,a,d⟩:=Option.map_eq_some_iff.1 i;simp only [Prod.mk.injEq] at d;obtain ⟨rfl,rfl⟩:=d;have e:=e1 n (by decide) f;have c:=t _ _ _ e.ok g;have j:=m _ _ _ c.ok a;exact ((e.trans c).trans j).cast (by simp [ox,k0,dW,at_,jR])
   | none=>
     rw [f] at h;obtain ⟨⟨D,q⟩,g,i⟩:=Option.bind_eq_some_iff.1 h;obtain ⟨u,a,d⟩:=Option.map_eq_some_iff.1 i;simp only [Prod.mk.injEq] at d;obtain ⟨rfl,rfl⟩:=d;obtain ⟨E,e,c⟩:=N6 n g;exact (c.trans (e1 c.ok (by simp) a)).cast e.symm
theorem FH {ps:Tk->Option (bl×Tk)} (b:∀l x r,gx l->ps l=some (x,r)->fh l (j' x) r):∀(n:Nat) (l:Tk) (xs:List bl) (r:Tk),gx l->ky ps n l=some (xs,r)->fh l (gQ xs++[[125]]) r
 | 0,_,_,_,_,h=>by cases h
 | n+1,l,xs,r,c,h=>by
   unfold ky at h
   cases a:aU [125] l with
   | some q=>
     rw [a] at h;simp only [Option.some.injEq,Prod.mk.injEq] at h;obtain ⟨rfl,rfl⟩:=h;exact (e1 c (by simp) a).cast (by simp [gQ])
   | none=>
     rw [a] at h;obtain ⟨⟨s,q⟩,f,g⟩:=Option.bind_eq_some_iff.1 h;obtain ⟨⟨ys,i⟩,j,d⟩:=Option.map_eq_some_iff.1 g;simp only [Prod.mk.injEq] at d;obtain ⟨rfl,rfl⟩:=d;have e:=b l s q c f;exact (e.trans (FH b n q ys i e.ok j)).cast (by simp [gQ])
theorem uH:∀f,AH (fb f)
 | 0=>λ_ _ _ _ h=>by cases h
 | f+1=>by
   intro l x r a h;unfold fb at h;obtain ⟨q,c,d⟩:=Option.bind_eq_some_iff.1 h;have b:=e1 a (by simp) c;exact (b.trans (FH (λl x r a h=>AI (uH f) a h) _ q x r b.ok d)).cast (by simp [jR,mG])
def nB (d:cB):List Tx:=ot d++[[59]]
theorem FI {bx:Bool} {l r:Tk} {d:cB} (s:gx l) (h:eT bx l=some (some d,r)):fh l (nB d) r/\d.bx=bx:=by
 unfold eT at h
 cases t:aU h3 l with
 | some q=>
   rw [t] at h;obtain ⟨⟨a,w⟩,i,e⟩:=Option.bind_eq_some_iff.1 h;obtain ⟨x,j,k⟩:=Option.bind_eq_some_iff.1 e;obtain ⟨⟨n,z⟩,g,u⟩:=Option.bind_eq_some_iff.1 k;obtain ⟨A,v,o⟩:=Option.map_eq_some_iff.1 u;simp only [Prod.mk.injEq,Option.some.injEq] at o;obtain ⟨rfl,rfl⟩:=o;have b:=e1 s (by decide) t;have c:=(ow b.ok i).1;have f:=e1 c.ok (by simp) j;have m:=AE f.ok g;have p:=e1 m.ok (by simp) v;exact ⟨((((b.trans c).trans f).trans m).trans p).cast (by simp [nB,ot]),O⟩
 | none=>
   rw [t] at h;simp only at h
   cases i:aU h4 l with
   | some q=>
     rw [i] at h;obtain ⟨⟨a,w⟩,e,j⟩:=Option.bind_eq_some_iff.1 h;obtain ⟨x,k,g⟩:=Option.map_eq_some_iff.1 j;simp only [Prod.mk.injEq,Option.some.injEq] at g;obtain ⟨rfl,rfl⟩:=g;have b:=e1 s (by decide) i;have c:=(ow b.ok e).1;have f:=e1 c.ok (by simp) k;exact ⟨((b.trans c).trans f).cast (by simp [nB,ot]),O⟩
   | none=>
     rw [i] at h;simp only at h
     cases e:aU h5 l with
     | some q=>
       rw [e] at h;obtain ⟨⟨a,w⟩,j,k⟩:=Option.bind_eq_some_iff.1 h;obtain ⟨x,g,u⟩:=Option.bind_eq_some_iff.1 k;obtain ⟨⟨n,z⟩,v,o⟩:=Option.bind_eq_some_iff.1 u;obtain ⟨A,B,C⟩:=Option.bind_eq_some_iff.1 o;obtain ⟨F,D,y⟩:=Option.map_eq_some_iff.1 C;simp only [Prod.mk.injEq,Option.some.injEq] at y;obtain ⟨rfl,rfl⟩:=y;have b:=e1 s (by decide) e;have c:=(ow b.ok j).1;have f:=e1 c.ok (by simp) g;have m:=AE f.ok v;have p:=e1 m.ok (by simp) B;have E:=e1 p.ok (by simp) D;exact ⟨(((((b.trans c).trans f).trans m).trans p).trans E).cast (by simp [nB,ot]),O⟩
     | none=>
       rw [e] at h;simp at h
theorem AJ {bx:Bool} {l r:Tk} (h:eT bx l=some (none,r)):r=l:=by
 unfold eT at h
 split at h
 · obtain ⟨_,_,h⟩:=Option.bind_eq_some_iff.1 h
   obtain ⟨_,_,h⟩:=Option.bind_eq_some_iff.1 h;obtain ⟨_,_,h⟩:=Option.bind_eq_some_iff.1 h;obtain ⟨_,_,h⟩:=Option.map_eq_some_iff.1 h;simp at h
 · split at h
   · obtain ⟨_,_,h⟩:=Option.bind_eq_some_iff.1 h
     obtain ⟨_,_,h⟩:=Option.map_eq_some_iff.1 h;simp at h
   · split at h
     · obtain ⟨_,_,h⟩:=Option.bind_eq_some_iff.1 h
       obtain ⟨_,_,h⟩:=Option.bind_eq_some_iff.1 h;obtain ⟨_,_,h⟩:=Option.bind_eq_some_iff.1 h;obtain ⟨_,_,h⟩:=Option.bind_eq_some_iff.1 h;obtain ⟨_,_,h⟩:=Option.map_eq_some_iff.1 h;simp at h
     · simp at h; exact h.symm
theorem FJ:∀(n:Nat) (first:Bool) (l:Tk) (xs:List Tx) (r:Tk),gx l->hr n first l=some (xs,r)->fh l ((if first=true\/xs=[] then [] else [[44]])++gd (xs.map λs=>[s])++[[41]]) r
 | 0,_,_,_,_,_,h=>by cases h
 | n+1,first,l,xs,r,b,h=>by
   unfold hr at h
   cases c:aU [41] l with
   | some q=>
     rw [c] at h;simp only [Option.some.injEq,Prod.mk.injEq] at h;obtain ⟨rfl,rfl⟩:=h;exact (e1 b (by simp) c).cast (by simp [gd])
   | none=>
     rw [c] at h;obtain ⟨i,d,j⟩:=Option.bind_eq_some_iff.1 h;obtain ⟨⟨a,q⟩,k,m⟩:=Option.bind_eq_some_iff.1 j;obtain ⟨⟨ys,o⟩,p,e⟩:=Option.map_eq_some_iff.1 m;simp only [Prod.mk.injEq] at e;obtain ⟨rfl,rfl⟩:=e
     have f:fh l (if first=true then [] else [[44]]) i:=by
       cases first with
       | true=>
         simp only [if_true,Option.some.injEq] at d;subst d; exact fh.nil b
       | false=>exact e1 b (by simp) d
     have g:=(ow f.ok k).1;have t:=FJ n false q ys o g.ok p;refine ((f.trans g).trans t).cast ?_
     cases ys with
     | nil=>cases first<;>simp [gd]
     | cons y ys=>cases first<;>simp [gd]
theorem sf:∀(n:Nat) (l:Tk) (xs:List Tx) (r:Tk),gx l->im n l=some (xs,r)->fh l (xs.flatMap nz) r
 | 0,_,_,_,_,h=>by cases h
 | n+1,l,xs,r,c,h=>by
   unfold im at h
   cases b:aU ny l with
   | none=>
     rw [b] at h;simp only [Option.some.injEq,Prod.mk.injEq] at h;obtain ⟨rfl,rfl⟩:=h;exact fh.nil c
   | some q=>
     rw [b] at h;obtain ⟨⟨a,t⟩,i,j⟩:=Option.bind_eq_some_iff.1 h;obtain ⟨k,m,o⟩:=Option.bind_eq_some_iff.1 j;obtain ⟨⟨ys,p⟩,s,d⟩:=Option.map_eq_some_iff.1 o;simp only [Prod.mk.injEq] at d;obtain ⟨rfl,rfl⟩:=d;have e:=e1 c (by decide) b;have f:=(ow e.ok i).1;have g:=e1 f.ok (by simp) m;exact (((e.trans f).trans g).trans (sf n k ys p g.ok s)).cast (by simp [nz])
def cg (p:dA):List Tx:=[p.nm,[40]]++gd (p.params.map λs=>[s])++[[41]]++p.ay.flatMap nz++jR p.body
theorem FL {bx:Bool} {l r:Tk} {p:dA} (i:gx l) (h:hP bx l=some (p,r)):fh l (cg p) r/\p.bx=bx:=by
 unfold hP at h;obtain ⟨⟨a,w⟩,j,k⟩:=Option.bind_eq_some_iff.1 h;obtain ⟨x,m,n⟩:=Option.bind_eq_some_iff.1 k;obtain ⟨⟨ps,y⟩,o,q⟩:=Option.bind_eq_some_iff.1 n;obtain ⟨⟨z,A⟩,s,t⟩:=Option.bind_eq_some_iff.1 q;obtain ⟨⟨b,B⟩,u,c⟩:=Option.map_eq_some_iff.1 t;simp only [Prod.mk.injEq] at c;obtain ⟨rfl,rfl⟩:=c;have d:=(ow i j).1;have e:=e1 d.ok (by simp) m;have f:=FJ _ _ _ _ _ e.ok o;have g:=sf _ _ _ _ f.ok s;have v:=uH 6 _ _ _ g.ok u;exact ⟨((((d.trans e).trans f).trans g).trans v).cast (by simp [cg]),O⟩
end Go.Bw
end
