/- BuildApart: compiled one by one, each with the faces of its uses alone, and linked, modules are what Build tells. -/
import Derived.Maps.Own
import Derived.Maps.Range
import Derived.Sort.KeysCollected
import Derived.Test.YtccenighnmfhgaaGreatDoorV1
set_option linter.unusedVariables false
set_option linter.unusedSimpArgs false
set_option linter.defProp false
section
namespace Go.Bw
open Go Go.RowKit
def rv (A:aW) (w:World):View:=λb=>if b ∈ A.ids then w.heap[b]? else none
section
variable {w0 w:World} {F:List Nat} {L:List aW} {Vs:List View} {A:aW}
theorem Oa (A:aW) (w:World):Le (rv A w) w:=λb o h=>by
 unfold rv at h
 split at h
 · exact h
 · cases h
theorem Ws.wA (h:Ws w0 F L Vs w) (i:Nat) (g:L[i]? = some A):Ws w0 F (eu i L) (rv A w::Vs) w:=by
 have d:=h.perm (mx i L g);have b:Ws w0 F (eu i L) Vs w:=Ws.drop (L:=[A]) d;refine ⟨b.fr,b.kn,b.nd,b.own,λc a=>?_,λc a B e k f=>?_⟩
 · rcases dU.1 a with rfl | a
   · exact Oa A w
   · exact b.vs c a
 · rcases dU.1 a with rfl | a
   · have nd:=d.nd
     rw [gd,jx] at nd;unfold rv;rw [if_neg];intro j;exact nd.2.2 k j k (lX.2 ⟨B,e,f⟩) O
   · exact b.off c a B e k f
theorem yQ {α:Type} {rd:View->Nat->Nat->α->Prop} {f:α->List Value} {k e c:Nat} {a:Option Addr} {xs:List α} (h:(bS e k f a c xs).holds w)
   (m:∀x,(f x).length=k) (q:∀n b o x,bR n b o (f x)->rd n b o x):Sl rd k (rv (bS e k f a c xs) w) a c xs:=by
 obtain ⟨G,r⟩:=(h:w.ownsRow 0 e k _ xs.length (xs.flatMap f))
 rcases r with ⟨s,H⟩ | ⟨b,cap,p,t,_,u,y,g,I,z⟩
 · injection s with l A g
   subst l g;have:xs=[]:=ou ae;subst this;exact Sl.nil
 · injection t with l A B
   subst l B;refine ⟨y,by unfold maxLen at g; omega,aj,λi x C=>⟨b,0,O,q _ _ _ _ λj v hv=>?_⟩⟩
   have D:j<k:=by have:=(cf.1 hv).1; rw [m] at this; exact this
   have d:(xs.flatMap f)[i*k+j]? = some v:=by rw [qv m C D]; exact hv
   rw [<-z,jy] at d
   split at d
   · have E:rv (bS e k f (some ⟨b,0,none⟩) c xs) w b=some (.cells p e (0,0)):=by
       unfold rv;rw [if_pos (by simp [b6,Value.ownBlock])];exact u
     have F:vc (rv (bS e k f (some ⟨b,0,none⟩) c xs) w) b (0+i*k+j)=gQ (.cells p e (0,0)) (0+i*k+j):=by unfold vc; rw [E]; rfl
     rw [F]
     simpa [gQ] using d
   · cases d
end
section
variable {P:Program} {ops:Array Oper} {cd:Code} {Q:Exit->Act->World->Prop} {n:Nat} {ds:List Deferred} {l:List (Nat×Value)} {w0:World} {F:List Nat} {L:List aW} {Vs:List View} {rest:List Oper}
theorem WC.l9 {α:Type} {rd:View->Nat->Nat->α->Prop} {f:α->List Value} {k e c:Nat} {a:Option Addr} {xs:List α} (i:Nat) (g:L[i]? = some (bS e k f a c xs))
   (m:∀x,(f x).length=k) (p:∀d b o x,bR d b o (f x)->rd d b o x) (h:∀d,Sl rd k d a c xs->WC P cd Q n ds l (Ws w0 F (eu i L) (d::Vs))):WC P cd Q n ds l (Ws w0 F L Vs):=
 λq w r j=>h _ (yQ (j.kn _ (eL g)) m p) q w r (j.wA i g)
theorem fm {b:Nat} {a:Obj} (i:Nat) (c:Obj) (d:L[i]? = some (ao b a)) (e:a=c) (h:WC P cd Q n ds l (Ws w0 F (L.set i (ao b c)) Vs)):WC P cd Q n ds l (Ws w0 F L Vs):=
 WC.jJ i d (by rw [e]) h
theorem WL.l9 {α:Type} {rd:View->Nat->Nat->α->Prop} {f:α->List Value} {k e c:Nat} {a:Option Addr} {xs:List α} (i:Nat) (g:L[i]? = some (bS e k f a c xs))
   (m:∀x,(f x).length=k) (p:∀d b o x,bR d b o (f x)->rd d b o x) (h:∀d,Sl rd k d a c xs->WL P ops Q n ds l (Ws w0 F (eu i L) (d::Vs)) rest):WL P ops Q n ds l (Ws w0 F L Vs) rest:=
 λq w r j=>h _ (yQ (j.kn _ (eL g)) m p) q w r (j.wA i g)
theorem WL.jY {α:Type} {rd:View->Nat->Nat->α->Prop} {f:α->List Value} {k T b m:Nat} {c:Nat×Nat} {d:Array Value} (i:Nat) (xs:List α) (e:L[i]? = some (ao b (.cells d T c))) (g:d=(xs.flatMap f).toArray)
   (j:∀x,(f x).length=k) (p:∀a b o x,bR a b o (f x)->rd a b o x) (q:xs.length<=m) (r:m<=9223372036854775807)
   (h:∀a,Sl rd k a (some ⟨b,0,none⟩) m xs->WL P ops Q n ds l (Ws w0 F (eu i L) (a::Vs)) rest):WL P ops Q n ds l (Ws w0 F L Vs) rest:=by
 subst g
 have s:bv b (.cells (xs.flatMap f).toArray T c) b=some (.cells (xs.flatMap f).toArray T c):=by simp [bv]
 exact WL.lv i e (h _ (BX (f:=f) s j p q r))
end
def yR (P:Program) (t:TypeId) (f:Nat):Option Nat:=match P.underlying t with
 | some (.struct fs)=>match fs[f]? with
   | some x=>if nJ P x.type=true then some x.offset else none
   | none=>none
 | _=>none
section
variable {P:Program} {l:List (Nat×Value)} {W:World->Prop} {d:Option Tmp} {ty:TypeId} {pos:String} {af:Array Edge} {g:Option (Nat×Bool)}
theorem BG {t:TypeId} {x:Operand} {f k:Nat} {cs:Array Value} {v:Value} (a:yR P t f=some k) (h:bn l x=some (.agg cs)) (hv:cs[k]? = some v):Yl P l W ⟨d,.field t x f,ty,pos,af,g⟩ v:=by
 intro ρ w i _;unfold yR at a
 cases b:P.underlying t with
 | none=>simp [b] at a
 | some j=>
   cases j<;>simp [b] at a
   rename_i fs
   cases c:fs[f]? with
   | none=>simp [c] at a
   | some e=>
     simp [c] at a;obtain ⟨m,rfl⟩:=a;have n:=yg m w
     have o:(part e.type cs e.offset).run P w = .ok v w:=by simp [part,n,hv]
     simp [execOp,i x _ h,Instr.field,run_underlying b,c,asAgg,o]
end
abbrev v0:View:=λ_=>none
theorem nh (w:World):fj w v0:=λ_ _=>rfl
def vj (A B:View):View:=λb=>match A b with | some o=>some o | none=>B b
theorem BH (A B:View):bF A (vj A B):=λb o h=>by simp [vj,h]
theorem B0 {A B:View} {w:World} (d:Le A w) (e:Le B w):bF B (vj A B):=λb o h=>by
 cases c:A b with
 | none=>simp [vj,c,h]
 | some f=>
   have g:=d b f c;have a:=e b o h;rw [g] at a
   injection a with a
   subst a;simp [vj,c]
theorem Ob {A B:View} {w:World} (a:Le A w) (c:Le B w):Le (vj A B) w:=λb o h=>by
 unfold vj at h
 split at h
 · rename_i e d; injection h with h; subst h; exact a b _ d
 · exact c b o h
theorem B2 {A B:View} {w:World} (a:fj w A) (c:fj w B):fj w (vj A B):=λb h=>by simp [vj,a b h,c b h]
section
variable {w0 w:World} {F:List Nat} {L:List aW} {Vs:List View} {A:aW}
theorem Ws.v0 (h:Ws w0 F L Vs w):Ws w0 F L (v0::Vs) w:=
 ⟨h.fr,h.kn,h.nd,h.own,λc a=>by
   rcases dU.1 a with rfl | a
   · intro b o d; cases d
   · exact h.vs c a,λc a=>by
   rcases dU.1 a with rfl | a
   · intro _ _ _ _; rfl
   · exact h.off c a⟩
theorem Ws.h6 {b c:View} (h:Ws w0 F L (b::c::Vs) w):Ws w0 F L (vj b c::Vs) w:=
 ⟨h.fr,h.kn,h.nd,h.own,λd a=>by
   rcases dU.1 a with rfl | a
   · exact Ob (h.vs b aj) (h.vs c aj)
   · exact h.vs d (by simp [a]),λd a A e k f=>by
   rcases dU.1 a with rfl | a
   · simp [vj,h.off b aj A e k f,h.off c aj A e k f]
   · exact h.off d (by simp [a]) A e k f⟩
theorem Ws.Oc (h:Ws w0 F (A::L) Vs w) (c:∀k ∈ F,k ∈ L.flatMap aW.ids):∀k ∈ A.ids,w0.heap.size<=k:=by
 intro k b
 rcases h.own A aj k b with a | a
 · have nd:=h.nd
   rw [gd,jx] at nd;exact absurd O (nd.2.2 k b k (c k a))
 · exact a
theorem BY (h:Ws w0 F (A::L) Vs w) (a:∀k ∈ F,k ∈ L.flatMap aW.ids):fj w0 (rv A w):=λb d=>by
 unfold rv;rw [if_neg];intro c;have:=h.Oc a b c;omega
theorem cU {a:View} (h:Ws w0 F L Vs w) (b:a ∈ Vs) (c:fj w0 a):bF a (nv w0 w):=ML (h.vs a b) c
end
section
variable {P:Program} {ops:Array Oper} {cd:Code} {Q:Exit->Act->World->Prop} {n:Nat} {ds:List Deferred} {l:List (Nat×Value)} {w0:World} {F:List Nat} {L:List aW} {Vs:List View} {rest:List Oper}
theorem WL.v0 (h:WL P ops Q n ds l (Ws w0 F L (v0::Vs)) rest):WL P ops Q n ds l (Ws w0 F L Vs) rest:=LW (λ_ a=>a.v0) h
theorem WL.h6 {b c:View} (h:∀d,bF b d->bF c d->(∀u,fj u b->fj u c->fj u d)->WL P ops Q n ds l (Ws w0 F L (d::Vs)) rest):WL P ops Q n ds l (Ws w0 F L (b::c::Vs)) rest:=
 λa w f e=>h (vj b c) (BH b c) (B0 (e.vs b aj) (e.vs c aj)) (λu g i=>B2 g i) a w f e.h6
theorem WC.h6 {b c:View} (h:∀d,bF b d->bF c d->(∀u,fj u b->fj u c->fj u d)->WC P cd Q n ds l (Ws w0 F L (d::Vs))):WC P cd Q n ds l (Ws w0 F L (b::c::Vs)):=
 λa w f e=>h (vj b c) (BH b c) (B0 (e.vs b aj) (e.vs c aj)) (λu g i=>B2 g i) a w f e.h6
theorem WL.nj {α:Type} {rd:View->Nat->Nat->α->Prop} {f:α->List Value} {k e c:Nat} {a:Option Addr} {xs:List α} (i:Nat) (g:L[i]? = some (bS e k f a c xs)) (m:∀k ∈ F,k ∈ (eu i L).flatMap aW.ids)
   (p:∀x,(f x).length=k) (q:∀d b o x,bR d b o (f x)->rd d b o x) (h:∀d,fj w0 d->Sl rd k d a c xs->WL P ops Q n ds l (Ws w0 F (eu i L) (d::Vs)) rest):WL P ops Q n ds l (Ws w0 F L Vs) rest:=
 λr w s j=>h _ (BY (j.perm (mx i L g)) m) (yQ (j.kn _ (eL g)) p q) r w s (j.wA i g)
theorem WC.nj {α:Type} {rd:View->Nat->Nat->α->Prop} {f:α->List Value} {k e c:Nat} {a:Option Addr} {xs:List α} (i:Nat) (g:L[i]? = some (bS e k f a c xs)) (m:∀k ∈ F,k ∈ (eu i L).flatMap aW.ids)
   (p:∀x,(f x).length=k) (q:∀d b o x,bR d b o (f x)->rd d b o x) (h:∀d,fj w0 d->Sl rd k d a c xs->WC P cd Q n ds l (Ws w0 F (eu i L) (d::Vs))):WC P cd Q n ds l (Ws w0 F L Vs):=
 λr w s j=>h _ (BY (j.perm (mx i L g)) m) (yQ (j.kn _ (eL g)) p q) r w s (j.wA i g)
theorem LN {α:Type} {rd:View->Nat->Nat->α->Prop} {f:α->List Value} {k T b m:Nat} {c:Nat×Nat} {g:Array Value} (i:Nat) (xs:List α) (d:L[i]? = some (ao b (.cells g T c))) (j:g=(xs.flatMap f).toArray) (p:∀k ∈ F,k ∈ (eu i L).flatMap aW.ids)
   (q:∀x,(f x).length=k) (r:∀a b o x,bR a b o (f x)->rd a b o x) (s:xs.length<=m) (t:m<=9223372036854775807)
   (h:∀a,fj w0 a->Sl rd k a (some ⟨b,0,none⟩) m xs->WL P ops Q n ds l (Ws w0 F (eu i L) (a::Vs)) rest):WL P ops Q n ds l (Ws w0 F L Vs) rest:=by
 subst j;intro u w v e;have y:w.heap[b]? = some (.cells (xs.flatMap f).toArray T c):=e.kn _ (eL d)
 have z:rv (ao b (.cells (xs.flatMap f).toArray T c)) w b=some (.cells (xs.flatMap f).toArray T c):=by
   unfold rv;rw [if_pos (by simp [ao])];exact y
 exact h _ (BY (e.perm (mx i L d)) p) (BX (f:=f) z q r s t) u w v (e.wA i d)
end
section
variable {κ:Type} [BEq κ] [LawfulBEq κ] {kd:TypeDesc} {kv:κ->Value}
variable {P:Program} {l:List (Nat×Value)} {w0:World} {F:List Nat} {L:List aW} {Vs:List View} {ty:TypeId} {pos:String} {af:Array Edge} {g:Option (Nat×Bool)}
theorem yS {j:Option Tmp} {t d e:TypeId} {x y:Operand} {b c:Nat} {m:List (dP κ)} {k:κ} {f:Value} (i:Nat) {a:View} (n:Vs[i]? = some a) (o:oy kd kv) (p:P.underlying t=some (.map d e)) (q:P.underlying d=some kd) (r:zeroOf P e=some f) (s:bn l x=some (.map (some b))) (u:bn l y=some (kv k)) (v:a b=some (ar kv m c)) :
   Yl P l (Ws w0 F L Vs) ⟨j,.lookup t x y false,ty,pos,af,g⟩ (aI k m f):=by
 intro ρ w h z;simp [execOp,h x _ s,h y _ u,yG (P:=P) (k:=k) false o p q r (z.vs a (eL n) b _ v:w.heap[b]? = some (ar kv m c))]
theorem B7 {j:Option Tmp} {t d e:TypeId} {x y:Operand} {b c:Nat} {m:List (dP κ)} {k:κ} {f:Value} (i:Nat) {a:View} (n:Vs[i]? = some a) (o:oy kd kv) (p:P.underlying t=some (.map d e)) (q:P.underlying d=some kd) (r:zeroOf P e=some f) (s:bn l x=some (.map (some b))) (u:bn l y=some (kv k)) (v:a b=some (ar kv m c)) :
   Yl P l (Ws w0 F L Vs) ⟨j,.lookup t x y true,ty,pos,af,g⟩ (.tuple #[aI k m f,.bool (cy k m)]):=by
 intro ρ w h z;simp [execOp,h x _ s,h y _ u,yG (P:=P) (k:=k) true o p q r (z.vs a (eL n) b _ v:w.heap[b]? = some (ar kv m c))]
end
theorem Ws.B8 {a w:World} {L:List aW} {Vs:List View} (h:Ws a [] L Vs w) (i:Nat) {b:Nat} {c:Obj} (e:L[i]? = some (ao b c)):nv a w b=some c:=by
 have f:w.heap[b]? = some c:=h.kn _ (eL e)
 have g:a.heap.size<=b:=by
   rcases h.own _ (eL e) b (by simp [ao]) with d | d
   · cases d
   · exact d
 unfold nv;rw [if_pos g];exact f
section
variable {Q:Exit->Act->World->Prop} {n:Nat} {ds:List Deferred} {l:List (Nat×Value)} {w0:World} {F:List Nat} {L:List aW} {Vs:List View}
theorem WE.mE {e:Exit} {b:Nat} {a:Obj} (i:Nat) (d:Obj) (f:L[i]? = some (ao b a)) (c:a=d) (h:WE Q e n ds l (Ws w0 F (L.set i (ao b d)) Vs)):WE Q e n ds l (Ws w0 F L Vs):=by
 subst c
 have:L.set i (ao b a)=L:=by
   obtain ⟨hi,c⟩:=cf.1 f;rw [<-c];exact vQ hi
 rwa [this] at h
end
theorem Ws.mF {c w:World} {d:List Nat} {L:List aW} {Vs:List View} (h:Ws c d L Vs w) (i:Nat) {b:Nat} {a:Obj} (e:L[i]? = some (ao b a)):hv w b=some a:=h.kn _ (eL e)
theorem oD {a:View} {b k:Nat} {c:Obj} {v:Value} (h:a b=some c) (d:gQ c k=some v):vc a b k=some v:=by
 unfold vc;rw [h];exact d
section
variable {P:Program} {ops:Array Oper} {Q:Exit->Act->World->Prop} {n:Nat} {ds:List Deferred} {l:List (Nat×Value)} {w0:World} {F:List Nat} {L:List aW} {Vs:List View} {rest:List Oper} {d:Nat} {ty:TypeId} {pos:String} {af:Array Edge} {g:Option (Nat×Bool)}
theorem WL.lz {ι κ:Type} {f:FuncId} {args:Array Operand} {ts:Array TypeId} {vs:List Value} (s:dN ops l g) (t:Nat.blt d n=true) (u:Enters P f) (k:iu l args.toList=some vs)
   (v:ι->Value) (R:ι->Prop) (p:κ->List PanicEntry) (q:κ->Prop)
   (x:∀w,Ws w0 F L Vs w->Calls P f vs.toArray w λe w'=>(∃i,e = .returned (v i)/\Ext w w'/\R i)\/(∃j,e = .panicked (p j)/\Ext w w'/\q j))
   (y:∀j,q j->WE Q (.panic (p j)) n ds l (Ws w0 F L Vs))
   (z:∀i,R i->WL P ops Q n ds ((d,v i)::l) (Ws w0 F L Vs) rest) :
   WL P ops Q n ds l (Ws w0 F L Vs) (⟨some d,.call ⟨.value (.func f),args,ts⟩,ty,pos,af,g⟩::rest):=
 WL.v_ s t u k v (λi w'=>R i/\Ws w0 F L Vs w') (λc w'=>∃j,c=p j/\q j/\Ws w0 F L Vs w') (λw b=>(x w b).mono λe w' h=>by
   rcases h with ⟨i,m,o,r⟩ | ⟨j,m,o,r⟩
   · exact .inl ⟨i,m,r,b.ext o⟩
   · exact .inr ⟨_,m,j,O,r,b.ext o⟩) (λi a w k b=>z i b.1 a w k b.2) (λc a w k b=>by
   obtain ⟨j,rfl,m,o⟩:=b
   exact y j m a w k o)
theorem WL.rL {ι κ:Type} {f:FuncId} {args:Array Operand} {ts:Array TypeId} {vs:List Value} (t:dN ops l g) (u:Nat.blt d n=true) (x:Enters P f) (k:iu l args.toList=some vs)
   (v:ι->Value) (R:View->ι->Prop) (p:κ->List PanicEntry) (q:κ->Prop)
   (y:∀w,Ws w0 F L Vs w->Calls P f vs.toArray w λe w'=>(∃i,e = .returned (v i)/\Ext w w'/\R (nv w w') i)\/(∃j,e = .panicked (p j)/\Ext w w'/\q j))
   (z:∀j,q j->WE Q (.panic (p j)) n ds l (Ws w0 F L Vs))
   (A:∀r i,fj w0 r->R r i->WL P ops Q n ds ((d,v i)::l) (Ws w0 F L (r::Vs)) rest) :
   WL P ops Q n ds l (Ws w0 F L Vs) (⟨some d,.call ⟨.value (.func f),args,ts⟩,ty,pos,af,g⟩::rest):=
 WL.v_ (ι:=View×ι) t u x k (λi=>v i.2) (λi w'=>(fj w0 i.1/\R i.1 i.2)/\Ws w0 F L (i.1::Vs) w') (λc w'=>∃j,c=p j/\q j/\Ws w0 F L Vs w') (λw b=>(y w b).mono λe w' h=>by
   rcases h with ⟨i,m,o,s⟩ | ⟨j,m,o,s⟩
   · exact .inl ⟨(nv w w',i),m,⟨(tY w w').mono b.fr.size,s⟩,b.view o (nF w w') (tY w w')⟩
   · exact .inr ⟨_,m,j,O,s,b.ext o⟩) (λi a w k b=>A i.1 i.2 b.1.1 b.1.2 a w k b.2) (λc a w k b=>by
   obtain ⟨j,rfl,m,o⟩:=b
   exact z j m a w k o)
end
section
variable {P:Program} {l:List (Nat×Value)} {W:World->Prop} {ty:TypeId} {pos:String} {af:Array Edge} {g:Option (Nat×Bool)}
theorem Od {a:Option Tmp} {x:Operand} {s b:TypeId} {v:Value} {fs:Array Field} (c:P.underlying s=some (.struct fs)) (d:bn l x=some (.iface s v)):Yl P l W ⟨a,.typeAssert x b s true,ty,pos,af,g⟩ (.tuple #[v,.bool true]):=by
 intro ρ w e _;simp [execOp,e x _ d,Instr.typeAssert,run_underlying c]
theorem Oe {b:Option Tmp} {x:Operand} {s c:TypeId} {a:Value} {fs:Array Field} (d:P.underlying s=some (.struct fs)) (e:zeroOf P s=some a) (f:bn l x=some .nilIface):Yl P l W ⟨b,.typeAssert x c s true,ty,pos,af,g⟩ (.tuple #[a,.bool false]):=by
 intro ρ w h _;simp [execOp,h x _ f,Instr.typeAssert,run_underlying d,sJ e]
end
def sZ (b:Bool):List Value:=[.bool b]
def rdBool (a:View) (b o:Nat) (x:Bool):Prop:=bR a b o (sZ x)
theorem Of (b:Bool):(sZ b).length=1:=rfl
section
variable {P:Program} {ops:Array Oper} {C:World->Prop} {Q:Exit->Act->World->Prop} {n:Nat} {ds:List Deferred} {l:List (Nat×Value)} {W:World->Prop}
theorem Og {a:Act} {p:List (Nat×Value)} {o:Oper} {r:List Oper} (c:bP ops l (o::r)=some p) (q:Ag n ds l a) :
   ∃d,o.dst=some d/\Region.wanted o (yielded ops a.tmps)=false/\bP ops ((d,undef)::l) r=some p:=by
 simp only [bP] at c
 cases e:o.guard with
 | none=>simp [e] at c
 | some t=>
   obtain ⟨j,b⟩:=t
   cases s:o.dst with
   | none=>simp [e,s] at c
   | some d=>
     simp only [e,s] at c
     cases f:(ops[j]?).bind (·.dst) with
     | none=>simp [f] at c
     | some h=>
       simp only [f] at c
       cases g:lk l h with
       | none=>simp [g] at c
       | some v=>
         simp only [g] at c;have hv:=q.gv h v g
         cases v with
         | bool i=>
           cases k:(i != b) with
           | false=>simp [k] at c
           | true=>
             simp only [k,cond_true] at c;refine ⟨d,O,?_,c⟩;have w:=yT q g (.inl (by simp [undef]))
             have m:yielded ops a.tmps j=some i:=by simp [yielded,f,w]
             simp only [Region.wanted,e,m]
             cases b<;>cases i<;>first | rfl | (simp at k)
         | tuple vs=>
           refine ⟨d,O,?_,c⟩
           have m:yielded ops a.tmps j=none:=by
             simp only [yielded,f,bt];rw [iL] at hv
             cases x:a.tmps[h]? with
             | none=>rfl
             | some u=>simp [x] at hv; simp [hv]
           simp [Region.wanted,e,m]
         | _=>simp at c
def opsOf (ops:Array Oper):List (Nat×Bool)->Option (List Oper)
 | []=>some []
 | (i,_)::r=>match ops[i]?,opsOf ops r with
   | some o,some t=>some (o::t)
   | _,_=>none
theorem WD.Bh {j rest:List (Nat×Bool)}:∀{os:List Oper} {e l:List (Nat×Value)},opsOf ops j=some os->bP ops l os=some e->ph n os=true->(∀w,W w->C w)->(∀a w,Ag n ds e a->W w->mz P ops C Q rest a w)->
   ∀a w,Ag n ds l a->W w->mz P ops C Q (j++rest) a w:=by
 induction j with
 | nil=>
   intro os e l b f _ _ h a w g c
   injection b with b
   subst b;simp [bP] at f; subst f; exact h a w g c
 | cons p r y=>
   obtain ⟨i,q⟩:=p;intro os e l b f k m h a w g c;unfold opsOf at b
   cases hi:ops[i]? with
   | none=>rw [hi] at b; cases b
   | some o=>
     cases s:opsOf ops r with
     | none=>rw [hi,s] at b; cases b
     | some t=>
       rw [hi,s] at b
       injection b with b
       subst b;obtain ⟨d,u,v,z⟩:=Og f g;simp only [ph,sD,cO] at k
       have A:Nat.blt d n=true:=by have:=k.1; rw [u] at this; exact this
       have x:=y s z k.2 m h (a.put (some d) undef) w (g.put A undef) c
       cases q with
       | true=>exact ⟨m w c,o,undef,hi,.inr ⟨v,rfl⟩,by rw [u]; exact x⟩
       | false=>
         refine ⟨m w c,?_⟩;unfold wpOp;simp only [hi,v,pc,if_false];rw [u];exact x
theorem Oh {i:Nat} {f g:Act->World->Prop} {j:Act->World->Prop} (b:∀a w,f a w->g a w) {a:Act} {w:World} (h:wpOp P ops (Exit.then j Q) i f a w):wpOp P ops Q i g a w:=by
 unfold wpOp at h ⊢
 cases hi:ops[i]? with
 | none=>simp only [hi] at h ⊢; exact b _ _ h
 | some o=>
   simp only [hi] at h ⊢
   split
   · rename_i d
     rw [if_pos d] at h
     rcases h with h | ⟨k,a2,l,m⟩
     · left
       unfold Oper.wp at h ⊢;unfold Oper.upon at h ⊢
       split at h
       all_goals first
         | exact b _ _ h
         | exact h
         | (refine h.mono λe w' c=>?_
            cases e with
            | returned v=>exact b _ _ c
            | panicked q=>exact c
            | outgrown=>obtain ⟨a3,n,p⟩:=c; exact ⟨a3,n,p⟩)
         | exact h.mono λv w' c=>b _ _ c
     · exact .inr ⟨k,a2,l,m⟩
   · rename_i d
     rw [if_neg d] at h;exact b _ _ h
theorem Gi {a:List (Nat×Value)} {dx:Nat} {x:Value} (m:Nat) (d:∀w,W w->C w) (e:lk a dx=some x) (f:a.drop m=l) (g:nL (a.take m) l=true):WD P ops C (pj Q n ds l W dx x) n ds a W []:=
 λ_ w b c=>⟨d w c,⟨b.ym m f g,b.gv _ _ e⟩,c⟩
theorem Oi {b rest:List (Nat×Bool)} {dx:Nat} {x:Value} (d:∀a w,(Ag n ds l a/\a.tmps.getD dx undef=x)/\W w->mz P ops C Q rest a w):∀(a:Act) (w:World),mz P ops C (pj Q n ds l W dx x) b a w->mz P ops C Q (b++rest) a w:=by
 induction b with
 | nil=>intro a w h; exact d a w h.2
 | cons p r c=>
   obtain ⟨i,q⟩:=p;intro a w h
   cases q with
   | true=>obtain ⟨e,o,v,f,g,j⟩:=h; exact ⟨e,o,v,f,g,c _ _ j⟩
   | false=>exact ⟨h.1,Oh (λa w h=>c a w h) h.2⟩
theorem WD.wa (m:Nat) {ord:List (Nat×Bool)} {os:List Oper} {s e t dx:Nat} (d:Bool) {c x:Bool} {a b:Operand} {ty:TypeId} {pos:String} {af:Array Edge} {g:Option (Nat×Bool)} {v:List (Nat×Value)}
   (F:ord[m]? = some (s,true)) (G:ops[s]? = some ⟨some t,.pick (.tmp e) a b,ty,pos,af,g⟩) (H:opsOf ops (ord.take m)=some os) (q:lk l e=some (.bool c)) (I:ph n os=true)
   (J:dN ops l g) (K:Nat.blt t n=true) (y:∀w,W w->C w)
   (i:(a,b)=(bif d then (Operand.tmp dx,Operand.const (.bool false)) else (Operand.const (.bool true),Operand.tmp dx)))
   (L:bP ops ((e,.bool (!d))::l) os=some v) (M:v.drop m=(e,.bool (!d))::l) (N:nL (v.take m) ((e,.bool (!d))::l)=true)
   (O:c=d->WD P ops C (pj Q n ds ((e,.bool d)::l) W dx (.bool x)) n ds ((e,.bool d)::l) W (ord.take m))
   (h:WD P ops C Q n ds ((t,.bool (bif d then c&&x else c||x))::l) W (ord.drop (m+1))):WD P ops C Q n ds l W ord:=by
 intro z w A B
 have R:ord=ord.take m++(s,true)::ord.drop (m+1):=by
   obtain ⟨S,T⟩:=cf.1 F;rw [<-T,E6 S,ot]
 rw [R]
 have D:∀(f:Act) (w':World) (r:Bool),Ag n ds l f->W w'->(if c then f.eval a else f.eval b) = .bool r->r=(bif d then c&&x else c||x)->
     mz P ops C Q ((s,true)::ord.drop (m+1)) f w':=by
   intro f w' r j k hv U;refine ⟨y w' k,_,.bool r,G,.inl ⟨dN.wanted (o:=⟨some t,.pick (.tmp e) a b,ty,pos,af,g⟩) J j,λZ _=>?_⟩,h _ _ (by rw [<-U]; exact j.put K _) k⟩;have V:f.eval (.tmp e) = .bool c:=j.gv e _ q;simp only [execOp,V,asBool,Sem.run_bind,Sem.run_pure,Result.andThen_ok,hv]
 by_cases p:c=d
 · refine Oi (l:=(e,.bool d)::l) (W:=W) (dx:=dx) (x:=.bool x) (λf w' X=>?_) _ _ (O p z w (A.known (by rw [<-p]; exact q)) B)
   obtain ⟨⟨j,E⟩,k⟩:=X;refine D f w' x (j.yn (by rw [<-p]; exact q)) k ?_ ?_
   · subst p
     cases c
     · simp at i; obtain ⟨rfl,rfl⟩:=i; exact E
     · simp at i; obtain ⟨rfl,rfl⟩:=i; exact E
   · subst p; cases c<;>rfl
 · have u:c = !d:=by cases c<;>cases d<;>first | rfl | exact absurd rfl p
   refine WD.Bh H L I y (λf w' j k=>?_) z w (A.known (by rw [<-u]; exact q)) B;have Y:Ag n ds l f:=(j.ym m M N).yn (by rw [<-u]; exact q);refine D f w' c Y k ?_ ?_
   · subst u
     cases d
     · simp at i; obtain ⟨rfl,rfl⟩:=i; rfl
     · simp at i; obtain ⟨rfl,rfl⟩:=i; rfl
   · subst u; cases d<;>rfl
theorem WD.and (m:Nat) {ord:List (Nat×Bool)} {os:List Oper} {i d e dx:Nat} {c x:Bool} {a b:Operand} {ty:TypeId} {pos:String} {af:Array Edge} {g:Option (Nat×Bool)} {f:List (Nat×Value)}
   (j:ord[m]? = some (i,true)) (k:ops[i]? = some ⟨some e,.pick (.tmp d) a b,ty,pos,af,g⟩) (o:opsOf ops (ord.take m)=some os) (p:lk l d=some (.bool c)) (q:ph n os=true)
   (r:dN ops l g) (s:Nat.blt e n=true) (t:∀w,W w->C w) (u:(a,b)=(Operand.tmp dx,Operand.const (.bool false)))
   (v:bP ops ((d,.bool false)::l) os=some f) (y:f.drop m=(d,.bool false)::l) (z:nL (f.take m) ((d,.bool false)::l)=true)
   (A:c=true->WD P ops C (pj Q n ds ((d,.bool true)::l) W dx (.bool x)) n ds ((d,.bool true)::l) W (ord.take m))
   (h:WD P ops C Q n ds ((e,.bool (c&&x))::l) W (ord.drop (m+1))):WD P ops C Q n ds l W ord:=
 WD.wa m true j k o p q r s t u v y z A h
theorem WD.or (m:Nat) {ord:List (Nat×Bool)} {os:List Oper} {i d e dx:Nat} {c x:Bool} {a b:Operand} {ty:TypeId} {pos:String} {af:Array Edge} {g:Option (Nat×Bool)} {f:List (Nat×Value)}
   (j:ord[m]? = some (i,true)) (k:ops[i]? = some ⟨some e,.pick (.tmp d) a b,ty,pos,af,g⟩) (o:opsOf ops (ord.take m)=some os) (p:lk l d=some (.bool c)) (q:ph n os=true)
   (r:dN ops l g) (s:Nat.blt e n=true) (t:∀w,W w->C w) (u:(a,b)=(Operand.const (.bool true),Operand.tmp dx))
   (v:bP ops ((d,.bool true)::l) os=some f) (y:f.drop m=(d,.bool true)::l) (z:nL (f.take m) ((d,.bool true)::l)=true)
   (A:c=false->WD P ops C (pj Q n ds ((d,.bool false)::l) W dx (.bool x)) n ds ((d,.bool false)::l) W (ord.take m))
   (h:WD P ops C Q n ds ((e,.bool (c||x))::l) W (ord.drop (m+1))):WD P ops C Q n ds l W ord:=
 WD.wa m false j k o p q r s t u v y z A h
end
section
variable {P:Program} {l:List (Nat×Value)} {W:World->Prop} {d:Option Tmp} {ty:TypeId} {pos:String} {af:Array Edge} {g:Option (Nat×Bool)}
theorem ki {t u:TypeId} {x y:Operand} {k:IntKind} {a b:Int} (c:bn l x=some (.int k a)) (e:bn l y=some (.int k b)) (h:a=b):Yl P l W ⟨d,.binOp .neq t x y u,ty,pos,af,g⟩ (.bool false):=by
 subst h;have:=fz (P:=P) (W:=W) (d:=d) (ty:=ty) (pos:=pos) (af:=af) (g:=g) (t:=t) (u:=u) c e
 rwa [show (a != a)=false by simp] at this
theorem BZ {t u:TypeId} {x y:Operand} {a b:List UInt8} (c:bn l x=some (st a)) (e:bn l y=some (st b)) (h:a=b):Yl P l W ⟨d,.binOp .neq t x y u,ty,pos,af,g⟩ (.bool false):=by
 subst h;have:=v7 (P:=P) (W:=W) (d:=d) (ty:=ty) (pos:=pos) (af:=af) (g:=g) (t:=t) (u:=u) c e
 rwa [show (!(a==a))=false by simp] at this
theorem Oj {t u:TypeId} {x y:Operand} {a b:List UInt8} (c:bn l x=some (st a)) (e:bn l y=some (st b)) (h:a=b):Yl P l W ⟨d,.binOp .eql t x y u,ty,pos,af,g⟩ (.bool true):=by
 subst h;have:=qq (P:=P) (W:=W) (d:=d) (ty:=ty) (pos:=pos) (af:=af) (g:=g) (t:=t) (u:=u) c e
 rwa [show (a==a)=true by simp] at this
theorem pw {t u:TypeId} {x y:Operand} {k:IntKind} {a b:Int} (c:bn l x=some (.int k a)) (e:bn l y=some (.int k b)) (h:a=b):Yl P l W ⟨d,.binOp .eql t x y u,ty,pos,af,g⟩ (.bool true):=by
 subst h;have:=bY (P:=P) (W:=W) (d:=d) (ty:=ty) (pos:=pos) (af:=af) (g:=g) (t:=t) (u:=u) c e
 rwa [show (a==a)=true by simp] at this
theorem Ok:∀(ks:List Nat) (xs:List Value),(bC ks xs xs).isSome=true->bC ks xs xs=some true:=by
 intro ks
 induction ks with
 | nil=>intro xs h; cases xs with
   | nil=>rfl
   | cons x xs=>exact absurd h (by unfold bC; simp)
 | cons k ks n=>
   intro xs h
   cases xs with
   | nil=>exact absurd h (by unfold bC; simp)
   | cons x xs=>
     have hi:=n xs;unfold bC at h ⊢
     split at h
     · simp_all
     · rename_i d e f
       injection d with g i
       injection e with b j
       injection f with c l
       subst i j;subst l;rw [b] at c
       injection c with m o
       subst m o;subst g b
       cases a:bC ks xs xs with
       | none=>simp [a] at h
       | some r=>have:=hi (by rw [a]; rfl); rw [a] at this; injection this with this; subst this; simp
     · rename_i d e f
       injection d with g i
       injection e with b j
       injection f with c l
       subst i j;subst l;rw [b] at c
       injection c with m
       subst m;subst g b
       cases a:bC ks xs xs with
       | none=>simp [a] at h
       | some r=>have:=hi (by rw [a]; rfl); rw [a] at this; injection this with this; subst this; simp
     · rename_i d e f
       injection d with g i
       injection e with b j
       injection f with c l
       subst i j;subst l;rw [b] at c
       injection c with m
       subst m;subst g b
       cases a:bC ks xs xs with
       | none=>simp [a] at h
       | some r=>have:=hi (by rw [a]; rfl); rw [a] at this; injection this with this; subst this; simp
     · simp at h
theorem Ol {t u:TypeId} {x y:Operand} {ks:List Nat} {xs ys:List Value} (a:we P t=some ks) (b:bn l x=some (.agg xs.toArray)) (c:bn l y=some (.agg ys.toArray)) (h:xs=ys) (e:(bC ks xs xs).isSome=true) :
   Yl P l W ⟨d,.binOp .neq t x y u,ty,pos,af,g⟩ (.bool false):=by
 subst h;exact M' a b c (Ok ks xs e)
theorem WD.wk {ops:Array Oper} {C:World->Prop} {Q:Exit->Act->World->Prop} {n:Nat} {ds:List Deferred} {W':World->Prop} {rest:List (Nat×Bool)} (b:∀w,W w->W' w) (h:WD P ops C Q n ds l W' rest):WD P ops C Q n ds l W rest:=λa w c d=>h a w c (b w d)
end
open Go.ChangeShapes Go.WideShapes Go.ChangeAt Go.RowKit Go.Joins Go.Deep
structure wB (H:Type) where
 B:DataW H->Nat
 BA:List (DataW H)->Nat
 str:∀l:List UInt8,B (.lit (.string l))=l.length+1
 agg:∀l,B (.agg l)=BA l+1
 sl:∀l r,BA l+1<=B (.slice l r)
 nil:BA []=0
 cons:∀d r,BA (d::r)=B d+BA r
theorem wB.at_ {a:Type} (b:wB a) {l:List (DataW a)}:∀{i:Nat} {d:DataW a},l[i]? = some d->b.B d<=b.BA l:=by
 induction l with
 | nil=>intro i d h; cases h
 | cons y r c=>
   intro i d h;rw [b.cons]
   cases i with
   | zero=>simp at h; subst h; omega
   | succ i=>have:=c (i:=i) (by simpa using h); omega
section
variable {P:Program} {H:Type} {enc:TypeId×Value->H} {w:World} {base:Nat} {spare:Nat->Bool} {held:Bool} (K:wB H)
theorem On {t:TypeId} {fuel:Nat} {v:Value} {x:DataW H×List MemPlace} (a:P.underlying t=some .string) (h:DataW.trod enc P w base spare held fuel t [v]=some x):∃l:List UInt8,v=st l/\K.B x.1=l.length+1:=by
 obtain ⟨s,e,b,_⟩:=DataW.trod_string a h
 injection e with e _
 subst e;exact ⟨s.data.toList,by simp [st],by rw [b]; exact K.str _⟩
theorem Oo {α:Type} {rd:View->Nat->Nat->α->Prop} (E:α->Nat) (A:List α->Nat) (M:A []=0) (Y:∀x r,A (x::r)=E x+A r) {ts e:TypeId} {k fuel:Nat} {v:Value} {x:DataW H×List MemPlace} (Z:P.underlying ts=some (.slice e)) (G:P.cellsOf e=k) (N:0<k) (aa:∀b,spare b=true)
   (ab:∀(n:Nat) (f:List Value) (y:DataW H×List MemPlace),n<fuel->DataW.trod enc P w base spare held n e f=some y->f.length=k->∃d:α,(∀b o,bR (hv w) b o f->rd (hv w) b o d)/\E d<=K.B y.1)
   (h:DataW.trod enc P w base spare held fuel ts [v]=some x):∃(a:Option Addr) (c:Nat) (xs:List α),v = .slice a xs.length c/\Sl rd k (hv w) a c xs/\A xs<=K.B x.1:=by
 rcases DataW.trod_slice Z h with ⟨q,_⟩ | ⟨a,len,cap,C,rest,n,av,q,ac,aw,ax,ad,ay,Q,ae,_⟩
 · injection q with q _
   exact ⟨none,0,[],q,Sl.nil,by rw [M]; exact cq _⟩
 · injection q with q _
   have R:0<cap->a.spot=none:=by
     intro az
     rcases kY 0 len with S | S
     · have g:=Q 0 S
       obtain ⟨y,z⟩:∃y,C[0]? = some y:=⟨_,dL (by omega)⟩;rw [z] at g;obtain ⟨f,m,_⟩:=b'.1 g;rw [G] at m;obtain ⟨_,I,D⟩:=World.cells?_some m;obtain ⟨u,J⟩:∃u,f[0]? = some u:=⟨_,dL (by omega)⟩;have:=D 0 N;rw [J] at this
       simpa [Addr.add] using World.cell?_spot this
     · obtain ⟨aA,af⟩:=ae (aa _)
       have ag:len=0:=by omega
       have g:=af 0 (by omega);rw [ag] at g;obtain ⟨y,z⟩:∃y,rest[0]? = some y:=⟨_,dL (by omega)⟩;rw [z] at g;obtain ⟨f,m,_⟩:=b'.1 g;rw [G] at m;obtain ⟨_,I,D⟩:=World.cells?_some m;obtain ⟨u,J⟩:∃u,f[0]? = some u:=⟨_,dL (by omega)⟩;have:=D 0 N;rw [J] at this
       simpa [Addr.add] using World.cell?_spot this
   obtain ⟨xs,ah,T⟩:=F5 (λi (d:α)=>(∀b o,a=⟨b,o,none⟩->rd (hv w) b (o+i*k) d)/\∃y:DataW H×List MemPlace,C[i]? = some y/\E d<=K.B y.1) len (λi hi=>by
     have g:=Q i hi;obtain ⟨y,z⟩:∃y,C[i]? = some y:=⟨_,dL (by omega)⟩;rw [z] at g;obtain ⟨f,m,ai⟩:=b'.1 g;rw [G] at m;obtain ⟨_,I,D⟩:=World.cells?_some m;obtain ⟨d,aj,ak⟩:=ab n f y (by omega) ai I;refine ⟨d,λb o al=>aj _ _ λj v U=>?_,y,z,ak⟩;subst al
     have am:j<k:=by have:=(cf.1 U).1; omega
     have:=D j am;rw [U] at this;rw [m_,m_] at this
     exact Bz this)
   have an:∀(l:List α) (es:List (DataW H×List MemPlace)),l.length=es.length->(∀(i:Nat) (d:α),l[i]? = some d->∃y:DataW H×List MemPlace,es[i]? = some y/\E d<=K.B y.1)->A l<=K.BA (es.map (·.1)):=by
     intro l
     induction l with
     | nil=>intro es _ _; rw [M]; exact cq _
     | cons d l ao=>
       intro es V W
       cases es with
       | nil=>cases V
       | cons y es=>
         obtain ⟨X,F,t⟩:=W 0 d rfl;simp at F; subst F
         have:=ao es (by simpa using V) λi ap aq=>by
           obtain ⟨X,F,t⟩:=W (i+1) ap (by simpa using aq);exact ⟨X,by simpa using F,t⟩
         rw [Y,jT,K.cons];omega
   refine ⟨some a,cap,xs,by rw [q,ah],⟨by omega,by unfold maxLen at ad; omega,λp L ar=>by injection L with L; subst L; exact R ar,λi d t=>?_⟩,?_⟩
   · have hi:i<len:=by have:=(cf.1 t).1; omega
     have au:=R (by omega);obtain ⟨b,o,s⟩:=a;obtain rfl:s=none:=au;exact ⟨b,o,O,(T i d t).1 b o O⟩
   · have:=an xs C (by omega) λi d t=>(T i d t).2
     simp only [ac];have:=K.sl (C.map (·.1)) (rest.map (·.1));omega
structure Yp (P:Program) (tE tS tD tP tM yW uv B1 uw ea:TypeId) (e s d p m:Array Field) (tI tB tT:TypeId):Prop where
 uI:P.underlying tI=some (.int .i64)
 uB:P.underlying tB=some .bool
 uT:P.underlying tT=some .string
 cT:P.cellsOf tT=1
 uE:P.underlying tE=some (.struct e)
 rE:(nS P 0 e.toList&&Nat.beq (P.cellsOf tE) e.size)=true
 fE:e.map (·.type) = #[tI,tI,tT,tT,yW]
 XR:P.underlying yW=some (.slice tE)
 uS:P.underlying tS=some (.struct s)
 rS:(nS P 0 s.toList&&Nat.beq (P.cellsOf tS) s.size)=true
 fS:s.map (·.type) = #[tI,tT,tT,yW,uv,uv]
 Yt:P.underlying uv=some (.slice tS)
 uD:P.underlying tD=some (.struct d)
 rD:(nS P 0 d.toList&&Nat.beq (P.cellsOf tD) d.size)=true
 fD:d.map (·.type) = #[tI,tT,tB,tI]
 XY:P.underlying B1=some (.slice tD)
 uP:P.underlying tP=some (.struct p)
 rP:(nS P 0 p.toList&&Nat.beq (P.cellsOf tP) p.size)=true
 fP:p.map (·.type) = #[tT,tB,ea,ea,uv]
 Ow:P.underlying uw=some (.slice tP)
 Ox:P.underlying ea=some (.slice tT)
 uM:P.underlying tM=some (.struct m)
 rM:(nS P 0 m.toList&&Nat.beq (P.cellsOf tM) m.size)=true
 fM:m.map (·.type) = #[tT,ea,B1,uw,uv]
variable {tE tS tD tP tM yW uv B1 uw ea tI tB tT:TypeId} {e s d p m:Array Field}
end
end Go.Bw
end
section
namespace Go.Bw
open Go
structure bx where
 kind:Int
 n:Int
 pl:Int
 name:List UInt8
deriving DecidableEq
def bx.cells (x:bx):List Value:=[.int .i64 x.kind,.int .i64 x.n,.int .i64 x.pl,st x.name]
theorem bx.ck (x:bx):x.cells.length=4:=rfl
theorem bx.one (x:bx):x.cells.all (·.oneCell')=true:=rfl
def hQ (a:View) (b o:Nat) (x:bx):Prop:=bR a b o x.cells
theorem Oy {a c:View} (h:bF a c) (b o:Nat) (x:bx) (r:hQ a b o x):hQ c b o x:=bR.mono h r
def jF (x:bx):Bool:=!((((((((!(ep x.name)||!(dS x.kind 1 4))||!(dS x.n 0 1099511627775))||!(dS x.pl 0 320))||(x.kind==1&&x.pl != 0))||(x.kind==2&&x.n != 0))||(x.kind==3&&!(dS x.n 1 32)))||(x.kind==4&&decide (3<x.n))))
theorem yZ {x:bx} {lo hi a:Int} (h:(x.kind=1/\lo=0/\hi=1099511627775/\a=0)\/(x.kind=2/\lo=0/\hi=0/\a=320)\/(x.kind=3/\lo=1/\hi=32/\a=320)\/(x.kind=4/\lo=0/\hi=3/\a=320)) :
   ((((ep x.name&&decide (lo<=x.n))&&decide (x.n<=hi))&&decide (0<=x.pl))&&decide (x.pl<=a))=jF x:=by
 unfold jF
 generalize ep x.name=b
 rw [jz];cases b
 · simp
 · rcases h with ⟨h,rfl,rfl,rfl⟩ | ⟨h,rfl,rfl,rfl⟩ | ⟨h,rfl,rfl,rfl⟩ | ⟨h,rfl,rfl,rfl⟩<;>simp [dS,h]<;>omega
theorem Oz {x:bx} (a:x.kind≠1) (b:x.kind≠2) (c:x.kind≠3) (d:x.kind≠4):jF x=false:=by
 unfold jF
 have:dS x.kind 1 4=false:=by simp [dS]; omega
 simp [this]
def e6 (l:List (List UInt8)):Bool:=(List.range l.length).any λi=>(List.range i).any λj=>l[i]?.getD []==l[j]?.getD []
theorem OA {l:List (List UInt8)} {i j:Nat} (hi:i<l.length) (a:j<i) (h:(l[i]?.getD []==l[j]?.getD [])=true):e6 l=true:=by
 unfold e6;exact rr.2 ⟨i,by simpa using hi,rr.2 ⟨j,by simpa using a,h⟩⟩
theorem B3 {l:List (List UInt8)}:e6 l=true↔∃i j,i<l.length/\j<i/\l[i]? = l[j]?:=by
 constructor
 · intro h
   unfold e6 at h;obtain ⟨i,hi,h⟩:=rr.1 h;obtain ⟨j,a,h⟩:=rr.1 h
   have hi:i<l.length:=by simpa using hi
   have a:j<i:=by simpa using a
   refine ⟨i,j,hi,a,?_⟩;rw [dL hi,dL ae] at h ⊢
   simpa using h
 · rintro ⟨i,j,hi,a,h⟩
   exact OA hi a (by rw [h]; simp)
theorem jl {l:List (List UInt8)}:l.Nodup↔e6 l=false:=by
 constructor
 · intro h
   rw [qn];intro b;obtain ⟨i,j,hi,a,e⟩:=B3.1 b;have:=(ru hi h).1 e;omega
 · intro h
   show List.Pairwise _ l
   rw [x7];intro i j hi a c e;have:=B3.2 ⟨j,i,a,c,by rw [dL hi,dL a,e]⟩;rw [h] at this; cases this
def bp (name:List UInt8) (a:List bx):Int:=
 if 16<a.length then 2 else if (a.all jF&&(!(e6 (a.map (·.name))||!(ep name))))=true then 0 else 1
theorem Cy {a:List bx} (h:∀(j:Nat) (x:bx),a[j]? = some x->jF x=true):a.all jF=true:=by
 rw [fG];intro x b;obtain ⟨j,c⟩:=jA b;exact h j x c
theorem OB {a:List bx} {j:Nat} {x:bx} (b:a[j]? = some x) (h:jF x=false):a.all jF=false:=by
 rw [jH];exact ⟨x,ax b,by simp [h]⟩
def mG (at_:Int) (d:cQ):bx:=⟨d.kind,d.n,if d.kind=1 then 0 else at_,d.nm⟩
def iz (d:cQ):Int:=if d.kind=2 then 1 else if d.kind=3 then d.n else 0
def fo:List cQ->Int
 | []=>0
 | d::r=>iz d+fo r
def iT:List cQ->Int->List bx
 | [],_=>[]
 | d::r,a=>mG a d::iT r (a+iz d)
def wC (i:Nat) (p:ed):bx:=⟨4,(p.params.length:Int),(i:Int),p.nm⟩
def bO:List ed->Nat->List bx
 | [],_=>[]
 | p::r,i=>wC i p::bO r (i+1)
theorem CF:∀(l:List cQ) (d:cQ),fo (l++[d])=fo l+iz d
 | [],d=>by simp [fo]
 | x::l,d=>by simp only [fL,fo,CF l d]; omega
theorem GV:∀(l:List cQ) (d:cQ) (a:Int),iT (l++[d]) a=iT l a++[mG (a+fo l) d]
 | [],d,a=>by simp [iT,fo]
 | x::l,d,a=>by
   simp only [fL,iT,GV l d,fo];rw [show a+iz x+fo l=a+(iz x+fo l) by omega]
theorem GW:∀(l:List ed) (p:ed) (i:Nat),bO (l++[p]) i=bO l i++[wC (i+l.length) p]
 | [],p,i=>by simp [bO]
 | x::l,p,i=>by
   simp only [fL,bO,GW l p,du];rw [show i+1+l.length=i+(l.length+1) by omega]
theorem y0:∀(l:List cQ) (a:Int),(iT l a).length=l.length
 | [],_=>rfl
 | x::l,a=>by simp [iT,y0 l]
theorem B4:∀(l:List ed) (i:Nat),(bO l i).length=l.length
 | [],_=>rfl
 | x::l,i=>by simp [bO,B4 l]
def eQ (m:aX):List bx:=iT m.decls 0++bO m.procs 0
def k5 (m:aX):Int:=fo m.decls
def k6 (m:aX):List Bool:=m.decls.map (·.bG)++m.procs.map (·.bG)
theorem jZ (m:aX):(eQ m).length=m.decls.length+m.procs.length:=by simp [eQ,y0,B4]
theorem y1 (m:aX):(k6 m).length=m.decls.length+m.procs.length:=by simp [k6]
def iU:List bx->List Bool->List bx
 | x::l,p::ps=>(if p=true then [x] else [])++iU l ps
 | _,_=>[]
theorem CG:∀{l:List bx} {ps:List Bool} {x:bx} {p:Bool},l.length=ps.length->iU (l++[x]) (ps++[p])=iU l ps++(if p=true then [x] else [])
 | [],[],x,p,_=>by simp [iU]
 | y::l,q::ps,x,p,h=>by simp only [fL,iU,CG (l:=l) (ps:=ps) (by simpa using h),et]
 | [],q::ps,x,p,h=>by simp at h
 | y::l,[],x,p,h=>by simp at h
theorem OC {l:List bx} {ps:List Bool} {i:Nat} {x:bx} {p:Bool} (c:l.length=ps.length) (a:l[i]? = some x) (b:ps[i]? = some p):iU (l.take (i+1)) (ps.take (i+1))=iU (l.take i) (ps.take i)++(if p=true then [x] else []):=by
 rw [aZ,aZ,a,b];exact CG (by simp; omega)
theorem B5:∀(l:List bx) (ps:List Bool),(iU l ps).length<=l.length
 | [],_=>by simp [iU]
 | x::l,[]=>by simp [iU]
 | x::l,p::ps=>by
   have:=B5 l ps;simp only [iU,dG,du]
   split<;>simp<;>omega
def cn (m:aX):(List UInt8×List bx)×Int:=
 if gz m≠0 then (([],[]),gz m) else if (e6 ((eQ m).map (·.name))||e6 m.aq)=true then (([],[]),6) else ((m.nm,iU (eQ m) (k6 m)),0)
inductive aA where
 | mk (op n m pl:Int) (args:List aA)
inductive di where
 | mk (op n m pl:Int) (args:List aA) (body other:List di)
def aA.op:aA->Int | .mk o _ _ _ _=>o
def aA.n:aA->Int | .mk _ n _ _ _=>n
def aA.m:aA->Int | .mk _ _ m _ _=>m
def aA.pl:aA->Int | .mk _ _ _ p _=>p
def aA.args:aA->List aA | .mk _ _ _ _ a=>a
def di.op:di->Int | .mk o _ _ _ _ _ _=>o
def di.n:di->Int | .mk _ n _ _ _ _ _=>n
def di.m:di->Int | .mk _ _ m _ _ _ _=>m
def di.pl:di->Int | .mk _ _ _ p _ _ _=>p
def di.args:di->List aA | .mk _ _ _ _ a _ _=>a
def di.body:di->List di | .mk _ _ _ _ _ b _=>b
def di.other:di->List di | .mk _ _ _ _ _ _ o=>o
structure hR where
 params:Int
 locals:Int
 body:List di
structure cb where
 nm:List UInt8
 aq:List (List UInt8)
 data:Int
 parts:List hR
 main:List di
def jm:cb:=⟨[],[],0,[],[]⟩
def oE (e:aA) (a:Option Addr) (c:Nat):List Value:=[.int .i64 e.op,.int .i64 e.n,.int .i64 e.m,.int .i64 e.pl,.slice a e.args.length c]
def jn:Nat->View->Nat->Nat->aA->Prop
 | 0=>λ_ _ _ _=>False
 | k+1=>λd b o e=>∃a c,bR d b o (oE e a c)/\Sl (jn k) 5 d a c e.args
structure eU where
 s1:Option Addr×Nat
 s2:Option Addr×Nat
 s3:Option Addr×Nat
def qB (s:di) (r:eU):List Value:=[.int .i64 s.op,.int .i64 s.n,.int .i64 s.m,.int .i64 s.pl,.slice r.s1.1 s.args.length r.s1.2,.slice r.s2.1 s.body.length r.s2.2,.slice r.s3.1 s.other.length r.s3.2]
def hS (ke:Nat):Nat->View->Nat->Nat->di->Prop
 | 0=>λ_ _ _ _=>False
 | k+1=>λa b o s=>∃r:eU,bR a b o (qB s r)/\Sl (jn ke) 5 a r.s1.1 r.s1.2 s.args/\Sl (hS ke k) 7 a r.s2.1 r.s2.2 s.body/\Sl (hS ke k) 7 a r.s3.1 r.s3.2 s.other
def ux (p:hR) (r:Option Addr×Nat):List Value:=[.int .i64 p.params,.int .i64 p.locals,.slice r.1 p.body.length r.2]
def uy (ke ks:Nat) (a:View) (b o:Nat) (p:hR):Prop:=∃r:Option Addr×Nat,bR a b o (ux p r)/\Sl (hS ke ks) 7 a r.1 r.2 p.body
structure jG where
 s1:Option Addr×Nat
 s2:Option Addr×Nat
 s3:Option Addr×Nat
def fH (u:cb) (r:jG):List Value:=[st u.nm,.slice r.s1.1 u.aq.length r.s1.2,.int .i64 u.data,.slice r.s2.1 u.parts.length r.s2.2,.slice r.s3.1 u.main.length r.s3.2]
structure iV (ke ks:Nat) (H:View) (r:jG) (u:cb):Prop where
 aq:Sl rdStr 1 H r.s1.1 r.s1.2 u.aq
 parts:Sl (uy ke ks) 3 H r.s2.1 r.s2.2 u.parts
 main:Sl (hS ke ks) 7 H r.s3.1 r.s3.2 u.main
def k7:jG:=⟨(none,0),(none,0),(none,0)⟩
theorem uz {ke ks:Nat} (a:View):iV ke ks a k7 jm:=⟨Sl.nil,Sl.nil,Sl.nil⟩
theorem B6 {f g:View} (i:bF f g):∀{k d:Nat},k<=d->∀(b o:Nat) (e:aA),jn k f b o e->jn d g b o e
 | 0,_,_,_,_,_,h=>h.elim
 | k+1,0,j,_,_,_,_=>absurd j ae
 | k+1,d+1,j,b,o,e,h=>by
   obtain ⟨a,c,l,m⟩:=h;exact ⟨a,c,bR.mono i l,m.imp λb o x n=>B6 i ae b o x n⟩
theorem y2 {g i:View} (c:bF g i) {ke j:Nat} (d:ke<=j):∀{k f:Nat},k<=f->∀(b o:Nat) (e:di),hS ke k g b o e->hS j f i b o e
 | 0,_,_,_,_,_,h=>h.elim
 | k+1,0,l,_,_,_,_=>absurd l ae
 | k+1,f+1,l,b,o,e,h=>by
   obtain ⟨r,m,n,p,q⟩:=h;exact ⟨r,bR.mono c m,n.imp λb o x a=>B6 c d b o x a,p.imp λb o x a=>y2 c d ae b o x a,q.imp λb o x a=>y2 c d ae b o x a⟩
theorem OD {a c:View} (d:bF a c) {ke e ks f:Nat} (g:ke<=e) (i:ks<=f) (b o:Nat) (p:hR) (h:uy ke ks a b o p):uy e f c b o p:=by
 obtain ⟨r,j,k⟩:=h;exact ⟨r,bR.mono d j,k.imp λb o x l=>y2 d g i b o x l⟩
theorem y3 {d N:View} {k c:Nat} {a:Option Addr} {l:List aA} (h:Sl (jn k) 5 d a c l) (hv:bF d N):Sl (jn k) 5 N a c l:=h.imp λb o x e=>B6 hv (dp _) b o x e
theorem eV {d N:View} {ke k c:Nat} {a:Option Addr} {l:List di} (h:Sl (hS ke k) 7 d a c l) (hv:bF d N):Sl (hS ke k) 7 N a c l:=h.imp λb o x e=>y2 hv (dp _) (dp _) b o x e
theorem OE {d N:View} {ke k c:Nat} {a:Option Addr} {l:List hR} (h:Sl (uy ke k) 3 d a c l) (hv:bF d N):Sl (uy ke k) 3 N a c l:=h.imp λb o x e=>OD hv (dp _) (dp _) b o x e
theorem iV.mv {ke ks:Nat} {a N:View} {r:jG} {u:cb} (h:iV ke ks a r u) (hv:bF a N):iV ke ks N r u:=⟨h.aq.imp λb o x c=>um hv b o x c,OE h.parts hv,eV h.main hv⟩
def Xs {X:Type} (R:View->X->Prop) (J:View) (es:List X):Prop:=∀e ∈ es,R J e
theorem Xs.nil {X:Type} {R:View->X->Prop} (J:View):Xs R J []:=by intro e h; simp at h
theorem Xs.mono {X:Type} {R:View->X->Prop} (b:∀{A B:View} {x:X},bF A B->R A x->R B x) {J a:View} {es:List X} (h:Xs R J es) (hv:bF J a):Xs R a es:=λe c=>b hv (h e c)
theorem Xs.snoc {X:Type} {R:View->X->Prop} (c:∀{A B:View} {x:X},bF A B->R A x->R B x) {J d b:View} {es:List X} {e:X} (h:Xs R J es) (f:bF J b) (g:bF d b) (i:R d e):Xs R b (es++[e]):=by
 intro x a
 rcases dA.1 a with a | a
 · exact c f (h x a)
 · rw [az] at a
   subst a;exact c g i
theorem hT {X T:Type} {t:X->T} {d:View->Nat->Nat->X->Prop} {rd:View->Nat->Nat->T->Prop} {R:View->X->Prop} {k:Nat} {f J N:View} {c:Nat} {a:Option Addr} {es:List X} (h:Sl d k f a c es) (l:Xs R J es)
   (m:∀b o e,d f b o e->R J e->rd N b o (t e)):Sl rd k N a c (es.map t):=by
 refine ⟨by simpa using h.cap,h.max,h.spot,λi x g=>?_⟩;rw [eZ] at g;obtain ⟨e,j,rfl⟩:=dr.1 g;obtain ⟨b,o,n,p⟩:=h.bT i e j;exact ⟨b,o,n,m b _ e p (l e (ax j))⟩
abbrev XN:=aA×Option Addr×Nat
def XN.cells (e:XN):List Value:=oE e.1 e.2.1 e.2.2
theorem XN.ck (e:XN):(XN.cells e).length=5:=rfl
theorem XN.one (e:XN):(XN.cells e).all (·.oneCell')=true:=rfl
def GY (a:View) (b o:Nat) (e:XN):Prop:=bR a b o (XN.cells e)
def px (k:Nat) (J:View) (e:XN):Prop:=Sl (jn k) 5 J e.2.1 e.2.2 e.1.args
theorem px.mv {k:Nat} {A B:View} {e:XN} (hv:bF A B) (h:px k A e):px k B e:=y3 h hv
theorem OF {k:Nat} {d J N:View} {c:Nat} {a:Option Addr} {es:List XN} (h:Sl GY 5 d a c es) (hv:bF d N) (f:bF J N) (g:Xs (px k) J es):Sl (jn (k+1)) 5 N a c (es.map (·.1)):=
 hT h g λb o e i j=>⟨e.2.1,e.2.2,bR.mono hv i,px.mv f j⟩
abbrev XA:=di×eU
def XA.cells (e:XA):List Value:=qB e.1 e.2
theorem XA.ck (e:XA):(XA.cells e).length=7:=rfl
theorem XA.one (e:XA):(XA.cells e).all (·.oneCell')=true:=rfl
def GZ (a:View) (b o:Nat) (e:XA):Prop:=bR a b o (XA.cells e)
structure nU (ke k:Nat) (N:View) (e:XA):Prop where
 args:Sl (jn ke) 5 N e.2.s1.1 e.2.s1.2 e.1.args
 body:Sl (hS ke k) 7 N e.2.s2.1 e.2.s2.2 e.1.body
 other:Sl (hS ke k) 7 N e.2.s3.1 e.2.s3.2 e.1.other
theorem nU.mv {ke k:Nat} {A B:View} {e:XA} (hv:bF A B) (h:nU ke k A e):nU ke k B e:=⟨y3 h.args hv,eV h.body hv,eV h.other hv⟩
theorem OG {ke k:Nat} {g J N:View} {c:Nat} {a:Option Addr} {es:List XA} (h:Sl GZ 7 g a c es) (hv:bF g N) (d:bF J N) (i:Xs (nU ke k) J es):Sl (hS ke (k+1)) 7 N a c (es.map (·.1)):=
 hT h i λb o e j f=>⟨e.2,bR.mono hv j,(nU.mv d f).args,(nU.mv d f).body,(nU.mv d f).other⟩
abbrev XP:=hR×Option Addr×Nat
def XP.cells (e:XP):List Value:=ux e.1 e.2
theorem XP.ck (e:XP):(XP.cells e).length=3:=rfl
theorem XP.one (e:XP):(XP.cells e).all (·.oneCell')=true:=rfl
def G0 (a:View) (b o:Nat) (e:XP):Prop:=bR a b o (XP.cells e)
def rO (ke k:Nat) (J:View) (e:XP):Prop:=Sl (hS ke k) 7 J e.2.1 e.2.2 e.1.body
theorem rO.mv {ke k:Nat} {A B:View} {e:XP} (hv:bF A B) (h:rO ke k A e):rO ke k B e:=eV h hv
theorem OH {ke k:Nat} {d J N:View} {c:Nat} {a:Option Addr} {es:List XP} (h:Sl G0 3 d a c es) (hv:bF d N) (f:bF J N) (g:Xs (rO ke k) J es):Sl (uy ke k) 3 N a c (es.map (·.1)):=
 hT h g λb o e i j=>⟨e.2,bR.mono hv i,rO.mv f j⟩
open Go.ChangeShapes Go.WideShapes Go.ChangeAt Go.RowKit Go.Joins Go.Deep
structure X2 (P:Program) (tI tT tX G1 tF OI:TypeId) (x f:Array Field):Prop where
 uI:P.underlying tI=some (.int .i64)
 uT:P.underlying tT=some .string
 uX:P.underlying tX=some (.struct x)
 rX:(nS P 0 x.toList&&Nat.beq (P.cellsOf tX) x.size)=true
 fX:x.map (·.type) = #[tI,tI,tI,tT]
 X6:P.underlying G1=some (.slice tX)
 uF:P.underlying tF=some (.struct f)
 rF:(nS P 0 f.toList&&Nat.beq (P.cellsOf tF) f.size)=true
 fF:f.map (·.type) = #[tT,G1]
 X':P.underlying OI=some (.slice tF)
end Go.Bw
end
section
namespace Go.Bw
open Go
structure ei where
 aB:List (List UInt8)
 own:List bx
 aq:List (List UInt8)
 s5:List (List bx)
def idxOf (nm:List UInt8):List (List UInt8)->Nat->Option Nat
 | [],_=>none
 | s::r,i=>if s=nm then some i else idxOf nm r (i+1)
def gA (nm:List UInt8):List bx->Option bx
 | []=>none
 | x::r=>if x.name=nm then some x else gA nm r
def j0 (mod nm:List UInt8):List (List UInt8)->List (List bx)->Nat->Option (Int×bx)
 | u::us,f::fs,k=>if u=mod then (match gA nm f with | some x=>some (((k+1:Nat):Int),x) | none=>j0 mod nm us fs (k+1)) else j0 mod nm us fs (k+1)
 | _,_,_=>none
def B9 (i:Nat):bx:=⟨0,0,(i:Int),[]⟩
def aP (a:ei) (mod nm:List UInt8):Option (Int×bx):=
 if mod=[] then (match idxOf nm a.aB 0 with
   | some i=>some (-1,B9 i)
   | none=>(gA nm a.own).map λx=>(0,x))
 else j0 mod nm a.aq a.s5 0
def er (a b:Int):Int:=if a=0 then b else a
theorem k8 (b:Int):er 0 b=b:=rfl
theorem OJ (a:Int):er a 0=a:=by unfold er; split<;>simp_all
theorem OK (a b c:Int):er (er a b) c=er a (er b c):=by unfold er; split<;>simp_all
theorem j1 {a b:Int}:er a b=0↔a=0/\b=0:=by unfold er; split<;>simp_all
theorem py {a b:Int} (h:a≠0):er a b=a:=by unfold er; rw [if_neg h]
structure RN where
 op:Int
 n:Int
 m:Int
 pl:Int
 e:Int
def cV (a:ei) (op n:Int) (mod nm:List UInt8) (len:Nat):RN:=
 if dS op 3 5=true then (match aP a mod nm with
   | none=>⟨op,n,0,0,5⟩
   | some (m,it)=>
     if m = -1 then ⟨16,n,0,it.pl,if op=3 then 0 else 7⟩
     else if op=3/\it.kind=1 then ⟨1,it.n,0,0,0⟩
     else if op=3/\it.kind=2 then ⟨op,n,m,it.pl,0⟩
     else if op=4/\it.kind=3 then ⟨op,it.n,m,it.pl,0⟩
     else if op=5/\it.kind=4 then ⟨op,n,m,it.pl,if it.n=(len:Int) then 0 else 8⟩
     else ⟨op,n,0,0,7⟩)
 else ⟨op,n,0,0,0⟩
def de (a:ei) (op:Int) (mod nm:List UInt8) (len:Nat):RN:=
 if dS op 1 3=true then (match aP a mod nm with
   | none=>⟨op,0,0,0,5⟩
   | some (m,it)=>
     if op=1/\(m = -1\/it.kind=2) then ⟨op,0,m,it.pl,0⟩
     else if m = -1 then ⟨op,0,0,0,7⟩
     else if op=2/\it.kind=3 then ⟨op,it.n,m,it.pl,0⟩
     else if op=3/\it.kind=4 then ⟨op,0,m,it.pl,if it.n=(len:Int) then 0 else 8⟩
     else ⟨op,0,0,0,7⟩)
 else ⟨op,0,0,0,0⟩
mutual
def lA (a:ei):a8->aA
 | .mk op n mod nm args=>.mk (cV a op n mod nm args.length).op (cV a op n mod nm args.length).n (cV a op n mod nm args.length).m (cV a op n mod nm args.length).pl (fZ a args)
def fZ (a:ei):List a8->List aA
 | []=>[]
 | x::r=>lA a x::fZ a r
end
mutual
def jo (a:ei):a8->Int
 | .mk op n mod nm args=>er (cV a op n mod nm args.length).e (hj a args)
def hj (a:ei):List a8->Int
 | []=>0
 | x::r=>er (jo a x) (hj a r)
end
mutual
def lB (a:ei):bq->di
 | .mk op mod nm args body other=>.mk (de a op mod nm args.length).op (de a op mod nm args.length).n (de a op mod nm args.length).m (de a op mod nm args.length).pl (fZ a args) (eC a body) (eC a other)
def eC (a:ei):List bq->List di
 | []=>[]
 | x::r=>lB a x::eC a r
end
mutual
def iA (a:ei):bq->Int
 | .mk op mod nm args body other=>er (de a op mod nm args.length).e (er (hj a args) (er (e2 a body) (e2 a other)))
def e2 (a:ei):List bq->Int
 | []=>0
 | x::r=>er (iA a x) (e2 a r)
end
theorem B' (a:ei) (x:a8):lA a x = .mk (cV a x.op x.n x.mod x.nm x.args.length).op (cV a x.op x.n x.mod x.nm x.args.length).n (cV a x.op x.n x.mod x.nm x.args.length).m (cV a x.op x.n x.mod x.nm x.args.length).pl (fZ a x.args):=by
 cases x; rw [lA]; rfl
theorem eh (a:ei) (x:a8):jo a x=er (cV a x.op x.n x.mod x.nm x.args.length).e (hj a x.args):=by cases x; rw [jo]; rfl
theorem B_ (a:ei) (x:bq):lB a x = .mk (de a x.op x.mod x.nm x.args.length).op (de a x.op x.mod x.nm x.args.length).n (de a x.op x.mod x.nm x.args.length).m (de a x.op x.mod x.nm x.args.length).pl (fZ a x.args) (eC a x.body) (eC a x.other):=by
 cases x; rw [lB]; rfl
theorem pz (a:ei) (x:bq):iA a x=er (de a x.op x.mod x.nm x.args.length).e (er (hj a x.args) (er (e2 a x.body) (e2 a x.other))):=by cases x; rw [iA]; rfl
theorem h5 (a:ei):∀l,fZ a l=l.map (lA a)
 | []=>by rw [fZ]; rfl
 | x::r=>by rw [fZ,h5 a r]; rfl
theorem pA (a:ei):∀l,eC a l=l.map (lB a)
 | []=>by rw [eC]; rfl
 | x::r=>by rw [eC,pA a r]; rfl
def gk {α:Type} (f:α->Int):List α->Int
 | []=>0
 | x::r=>er (f x) (gk f r)
theorem Ca {α:Type} (f:α->Int):∀a b:List α,gk f (a++b)=er (gk f a) (gk f b)
 | [],b=>rfl
 | x::a,b=>by simp only [fL,gk,Ca f a b,OK]
theorem n8 {α:Type} (f:α->Int) {l:List α} {i:Nat} {x:α} (h:l[i]? = some x):gk f (l.take (i+1))=er (gk f (l.take i)) (f x):=by
 rw [aZ,h,Ca]
 show er _ (er (f x) 0)=_
 rw [OJ]
theorem uC {α:Type} (f:α->Int) {l:List α} {i:Nat} {x:α} (h:l[i]? = some x) (a:gk f (l.take i)=0) (b:f x≠0):gk f l=f x:=by
 have e:l=l.take i++l.drop i:=(ot i l).symm;rw [e,Ca,a,k8]
 have c:l.drop i=x::l.drop (i+1):=by
   obtain ⟨d,g⟩:=cf.1 h;rw [pf d,g]
 rw [c,gk,py b]
theorem oj (a:ei):∀l,hj a l=gk (jo a) l
 | []=>by rw [hj]; rfl
 | x::r=>by rw [hj,oj a r]; rfl
theorem Cd (a:ei):∀l,e2 a l=gk (iA a) l
 | []=>by rw [e2]; rfl
 | x::r=>by rw [e2,Cd a r]; rfl
def bZ (m:aX) (fs:List (List UInt8×List bx)) (aB:List (List UInt8)):ei:=⟨aB,eQ m,m.aq,fs.map (·.2)⟩
def nk (m:aX) (fs:List (List UInt8×List bx)) (p:ed):hR:=⟨(p.params.length:Int),(p.aB.length:Int),eC (bZ m fs (p.params++p.aB)) p.body⟩
def nV (m:aX) (fs:List (List UInt8×List bx)) (p:ed):Int:=er (if e6 (p.params++p.aB)=true then 6 else 0) (e2 (bZ m fs (p.params++p.aB)) p.body)
def dE (m:aX) (fs:List (List UInt8×List bx)):cb:=⟨m.nm,m.aq,k5 m,m.procs.map (nk m fs),eC (bZ m fs []) m.main⟩
def k9 (m:aX) (fs:List (List UInt8×List bx)):Int:=er (gk (nV m fs) m.procs) (e2 (bZ m fs []) m.main)
def mH:List (List UInt8)->List (List UInt8×List bx)->Bool
 | u::us,f::fs=>((bp f.1 f.2==0)&&(f.1==u))&&mH us fs
 | _,_=>true
def cL (m:aX) (fs:List (List UInt8×List bx)):cb×Int:=
 if (cn m).2≠0 then (jm,(cn m).2) else if fs.length≠m.aq.length then (jm,8) else if mH m.aq fs=false then (jm,1)
 else if k9 m fs≠0 then (jm,k9 m fs) else (dE m fs,0)
def h8 (l:List bx) (s:Nat):List (dP (List UInt8)):=match l with
 | []=>[]
 | x::r=>(x.name,.agg x.cells.toArray,s)::h8 r (s+1)
def hk (l:List (List UInt8)) (s:Nat):List (dP (List UInt8)):=match l with
 | []=>[]
 | x::r=>(x,.int .i64 ((s+1:Nat):Int),s)::hk r (s+1)
theorem G3:∀(l:List bx) (x:bx) (s:Nat),h8 (l++[x]) s=h8 l s++[(x.name,.agg x.cells.toArray,s+l.length)]
 | [],x,s=>rfl
 | y::r,x,s=>by
   rw [fL,h8,G3 r x,h8,fL,du,show s+1+r.length=s+(r.length+1) by omega]
theorem G4:∀(l:List (List UInt8)) (x:List UInt8) (s:Nat),hk (l++[x]) s=hk l s++[(x,.int .i64 ((s+l.length+1:Nat):Int),s+l.length)]
 | [],x,s=>rfl
 | y::r,x,s=>by
   rw [fL,hk,G4 r x,hk,fL,du,show s+1+r.length=s+(r.length+1) by omega]
theorem om (nm:List UInt8):∀(l:List bx) (s i:Nat),(cK nm (h8 l s) i).map (·.2)=(gA nm l).map λx=>.agg x.cells.toArray
 | [],_,_=>rfl
 | x::r,s,i=>by
   rw [h8,cK,gA]
   by_cases h:x.name=nm
   · simp [h]
   · rw [if_neg (by simpa using λe=>h e.symm),if_neg h]
     exact om nm r (s+1) (i+1)
theorem Cf (nm:List UInt8):∀(l:List (List UInt8)) (s i:Nat),(cK nm (hk l s) i).map (·.2)=(idxOf nm l s).map λk=>.int .i64 ((k+1:Nat):Int)
 | [],_,_=>rfl
 | x::r,s,i=>by
   rw [hk,cK,idxOf]
   by_cases h:x=nm
   · simp [h]
   · rw [if_neg (by simpa using λe=>h e.symm),if_neg h]
     exact Cf nm r (s+1) (i+1)
theorem G5 (nm:List UInt8) (l:List bx) (a:Value):aI nm (h8 l 0) a=(match gA nm l with | some x=>.agg x.cells.toArray | none=>a)/\cy nm (h8 l 0)=(gA nm l).isSome:=by
 have h:=om nm l 0 0;unfold aI cy
 cases b:cK nm (h8 l 0) 0 with
 | none=>rw [b] at h; cases hi:gA nm l with | none=>exact ⟨rfl,rfl⟩ | some x=>rw [hi] at h; cases h
 | some r=>rw [b] at h; cases hi:gA nm l with
   | none=>rw [hi] at h; cases h
   | some x=>rw [hi] at h; simp at h; exact ⟨by simp [h],rfl⟩
theorem OL (nm:List UInt8) (l:List (List UInt8)):aI nm (hk l 0) (.int .i64 0) = .int .i64 (match idxOf nm l 0 with | some k=>((k+1:Nat):Int) | none=>0):=by
 have h:=Cf nm l 0 0;unfold aI
 cases a:cK nm (hk l 0) 0 with
 | none=>rw [a] at h; cases hi:idxOf nm l 0 with | none=>rfl | some x=>rw [hi] at h; cases h
 | some r=>rw [a] at h; cases hi:idxOf nm l 0 with
   | none=>rw [hi] at h; cases h
   | some x=>rw [hi] at h; simp at h; simp [h]
theorem G6 {nm:List UInt8}:∀{l:List bx},gA nm l=none↔nm ∉ l.map (·.name)
 | []=>by simp [gA]
 | x::r=>by
   rw [gA]
   by_cases h:x.name=nm
   · simp [h]
   · rw [if_neg h,G6 (l:=r)]
     simp [vP h,eq_comm,h]
theorem rQ {nm:List UInt8}:∀{l:List (List UInt8)} {s:Nat},idxOf nm l s=none↔nm ∉ l
 | [],_=>by simp [idxOf]
 | x::r,s=>by
   rw [idxOf]
   by_cases h:x=nm
   · simp [h]
   · rw [if_neg h,rQ (l:=r)]
     simp only [dU,not_or];exact ⟨λa=>⟨λe=>h e.symm,a⟩,λa=>a.2⟩
theorem OM {l:List bx} {x:bx} (h:x.name ∉ l.map (·.name)):eJ x.name (.agg x.cells.toArray) (h8 l 0) l.length=h8 (l++[x]) 0/\hz x.name (h8 l 0) l.length=(l++[x]).length:=by
 have a:cK x.name (h8 l 0) 0=none:=by
   have:=om x.name l 0 0;rw [G6.2 h] at this
   simpa using this
 unfold eJ hz;rw [a,G3];simp
theorem G7 {l:List (List UInt8)} {x:List UInt8} (h:x ∉ l):eJ x (.int .i64 ((l.length+1:Nat):Int)) (hk l 0) l.length=hk (l++[x]) 0/\hz x (hk l 0) l.length=(l++[x]).length:=by
 have a:cK x (hk l 0) 0=none:=by
   have:=Cf x l 0 0;rw [rQ.2 h] at this
   simpa using this
 unfold eJ hz;rw [a,G4];simp
theorem s6 {nm:List UInt8}:∀{l:List (List UInt8)} {s k:Nat},idxOf nm l s=some k->s<=k/\l[k-s]? = some nm
 | [],_,_,h=>by cases h
 | x::r,s,k,h=>by
   rw [idxOf] at h
   split at h
   · rename_i a; injection h with h; subst h; simp [a]
   · obtain ⟨c,b⟩:=s6 h
     refine ⟨ae,?_⟩;rw [show k-s=(k-(s+1))+1 by omega]; simpa using b
theorem Cg {mod nm:List UInt8}:∀{us:List (List UInt8)} {fs:List (List bx)} {s:Nat},mod ∉ us->j0 mod nm us fs s=none
 | [],_,_,_=>by simp [j0]
 | u::us,[],_,_=>by simp [j0]
 | u::us,f::fs,s,h=>by
   rw [j0,if_neg (λe=>h (by simp [e])),Cg (λa=>h (bE _ a))]
theorem G8 {mod nm:List UInt8}:∀{us:List (List UInt8)} {fs:List (List bx)} {s:Nat},us.Nodup->us.length=fs.length->
   j0 mod nm us fs s=(idxOf mod us s).bind λk=>(fs[k-s]?).bind λf=>(gA nm f).map λx=>(((k+1:Nat):Int),x)
 | [],[],_,_,_=>by simp [j0,idxOf]
 | [],f::fs,_,_,h=>by simp at h
 | u::us,[],_,_,h=>by simp at h
 | u::us,f::fs,s,b,c=>by
   rw [j0,idxOf];have a:=qo.1 b
   by_cases h:u=mod
   · rw [if_pos h,if_pos h]
     simp only [bt,sF,kf]
     cases gA nm f with
     | none=>simp only [dB]; exact Cg (h▸a.1)
     | some x=>rfl
   · rw [if_neg h,if_neg h,G8 a.2 (by simpa using c)]
     cases hi:idxOf mod us (s+1) with
     | none=>rfl
     | some k=>
       have:=(s6 hi).1;simp only [bt];rw [show k-s=(k-(s+1))+1 by omega,lY]
end Go.Bw
end
section
namespace Go.Bw
open Go
structure cv where
 nW:Bool
 data:Int
 parts:List Int
def cv.cells (k:cv) (r:Option Addr×Nat):List Value:=[.bool k.nW,.int .i64 k.data,.slice r.1 k.parts.length r.2]
def e8 (x:Int):List Value:=[.int .i64 x]
theorem y4 (x:Int):(e8 x).length=1:=rfl
def qC (a:View) (b o:Nat) (x:Int):Prop:=bR a b o (e8 x)
def nX (a:View) (b o:Nat) (k:cv):Prop:=∃r:Option Addr×Nat,bR a b o (k.cells r)/\Sl qC 1 a r.1 r.2 k.parts
def aG (u:cb):cv:=⟨true,u.data,u.parts.map (·.params)⟩
def k':cv:=⟨false,0,[]⟩
def lC (ks:List cv) (m pl:Int):Bool:=((decide (m<0)||decide ((ks.length:Int)<=m))||decide (pl<0))||decide (512<pl)
def iB (ks:List cv) (m pl n:Int):Bool:=if lC ks m pl=true then false else match ks[m.toNat]? with
 | some k=>if k.nW=true then decide (pl+n<=k.data) else n==1||decide (pl+n<=512)
 | none=>false
def b5 (ks:List cv) (m pl:Int):Bool:=(decide (m<0)||decide ((ks.length:Int)<=m))||decide (pl<0)
def jq (ks:List cv) (m pl n:Int):Bool:=if b5 ks m pl=true then false else match ks[m.toNat]? with
 | some k=>if k.nW=true then decide (pl<(k.parts.length:Int))&&(k.parts[pl.toNat]?).getD 0==n else decide (pl<6)&&decide (n<=3)
 | none=>false
def qD (aB pl:Int):Bool:=decide (0<=pl)&&decide (pl<aB)
def oF (n:Int):Bool:=decide (1<=n)&&decide (n<=32)
theorem y5 {ks:List cv} {m pl:Int} (n:Int) (h:lC ks m pl=true):iB ks m pl n=false:=by rw [iB,if_pos h]
theorem y6 {ks:List cv} {m pl:Int} (h:lC ks m pl=false):(∃a:Nat,m=a/\a<ks.length)/\0<=pl/\pl<=512:=by
 unfold lC at h;simp only [hM,decide_eq_false_iff_not] at h;exact ⟨⟨m.toNat,ae,ae⟩,ae,ae⟩
theorem s7 {ks:List cv} {a:Nat} {pl n:Int} {k:cv} (h:lC ks a pl=false) (b:ks[a]? = some k):iB ks a pl n=if k.nW=true then decide (pl+n<=k.data) else n==1||decide (pl+n<=512):=by
 rw [iB,if_neg (by rw [h]; decide),mu,b]
theorem Ch {ks:List cv} {m pl:Int} (n:Int) (h:b5 ks m pl=true):jq ks m pl n=false:=by rw [jq,if_pos h]
theorem Ci {ks:List cv} {m pl:Int} (h:b5 ks m pl=false):(∃a:Nat,m=a/\a<ks.length)/\∃p:Nat,pl=p:=by
 unfold b5 at h;simp only [hM,decide_eq_false_iff_not] at h;exact ⟨⟨m.toNat,ae,ae⟩,pl.toNat,ae⟩
theorem rR {ks:List cv} {a:Nat} {pl n:Int} {k:cv} (h:b5 ks a pl=false) (b:ks[a]? = some k):jq ks a pl n=if k.nW=true then decide (pl<(k.parts.length:Int))&&(k.parts[pl.toNat]?).getD 0==n else decide (pl<6)&&decide (n<=3):=by
 rw [jq,if_neg (by rw [h]; decide),mu,b]
def node1 (ks:List cv) (aB op n m pl:Int) (len:Nat):Bool:=
 if op=1 then ((((m==0)&&(pl==0))&&((len:Int)==0))&&decide (0<=n))&&decide (n<=1099511627775)
 else if op=3 then ((n==0)&&((len:Int)==0))&&iB ks m pl 1
 else if op=4 then (oF n&&((len:Int)==1))&&iB ks m pl n
 else if op=5 then (n==0)&&jq ks m pl len
 else if op=16 then (((m==0)&&(n==0))&&((len:Int)==0))&&qD aB pl
 else if op=2 then (((m==0)&&(pl==0))&&(n==0))&&((len:Int)==0)
 else if op=6 then (((m==0)&&(pl==0))&&(n==0))&&((len:Int)==1)
 else if 7<=op/\op<=15 then (((m==0)&&(pl==0))&&(n==0))&&((len:Int)==2)
 else false
def fI (ks:List cv) (aB op n m pl:Int) (na b a:Nat):Bool:=
 if op=1 then (((((b:Int)+a==0)&&((na:Int)==1))&&(n==0))&&(((m==-1)&&qD aB pl)||iB ks m pl 1))
 else if op=2 then (((((b:Int)+a==0)&&((na:Int)==2))&&oF n)&&iB ks m pl n)
 else if op=3 then ((((b:Int)+a==0)&&(n==0))&&jq ks m pl na)
 else if op=4 then (((m==0)&&(pl==0))&&(n==0))&&((na:Int)==1)
 else if op=5 then ((((m==0)&&(pl==0))&&(n==0))&&((na:Int)==1))&&((a:Int)==0)
 else if op=6\/op=7 then ((((m==0)&&(pl==0))&&(n==0))&&((b:Int)+a==0))&&((na:Int)==1)
 else false
mutual
def kl (ks:List cv) (aB:Int):aA->Nat->Bool
 | .mk op n m pl args,d=>decide (d<=6)&&(node1 ks aB op n m pl args.length&&fT ks aB args (d+1))
def fT (ks:List cv) (aB:Int):List aA->Nat->Bool
 | [],_=>true
 | x::r,d=>kl ks aB x d&&fT ks aB r d
end
theorem Cj (ks:List cv) (aB:Int) (x:aA) (d:Nat):kl ks aB x d=(decide (d<=6)&&(node1 ks aB x.op x.n x.m x.pl x.args.length&&fT ks aB x.args (d+1))):=by cases x; rw [kl]; rfl
theorem y7 (ks:List cv) (aB:Int) (d:Nat):∀l,fT ks aB l d=l.all (kl ks aB · d)
 | []=>by rw [fT]; rfl
 | x::r=>by rw [fT,y7 ks aB d r]; rfl
def oG (op:Int):Bool:=(op==4)||(op==5)
mutual
def j3 (ks:List cv) (aB:Int):di->Nat->Bool
 | .mk op n m pl args body other,d=>fI ks aB op n m pl args.length body.length other.length&&(fT ks aB args 1&&((!(oG op)||(decide (d+1<=6)&&(decide (body.length<=10)&&bb ks aB body (d+1))))&&(!(decide (0<other.length))||(decide (d+1<=6)&&(decide (other.length<=10)&&bb ks aB other (d+1))))))
def bb (ks:List cv) (aB:Int):List di->Nat->Bool
 | [],_=>true
 | x::r,d=>j3 ks aB x d&&bb ks aB r d
end
def bf (ks:List cv) (aB:Int) (l:List di) (d:Nat):Bool:=decide (d<=6)&&(decide (l.length<=10)&&bb ks aB l d)
theorem oN (ks:List cv) (aB:Int) (x:di) (d:Nat):j3 ks aB x d=(fI ks aB x.op x.n x.m x.pl x.args.length x.body.length x.other.length&&(fT ks aB x.args 1&&((!(oG x.op)||bf ks aB x.body (d+1))&&(!(decide (0<x.other.length))||bf ks aB x.other (d+1))))):=by cases x; rw [j3]; rfl
theorem oO (ks:List cv) (aB:Int) (d:Nat):∀l,bb ks aB l d=l.all (j3 ks aB · d)
 | []=>by rw [bb]; rfl
 | x::r=>by rw [bb,oO ks aB d r]; rfl
theorem ON (ks:List cv) (aB:Int) (x:aA) (d:Nat):((decide (6<(d:Int))||!(node1 ks aB x.op x.n x.m x.pl x.args.length))||!(fT ks aB x.args (d+1))) = !(kl ks aB x d):=by
 rw [Cj,show decide (6<(d:Int)) = !(decide (d<=6)) by rw [jz]; simp; omega]
 cases decide (d<=6)<;>cases node1 ks aB x.op x.n x.m x.pl x.args.length<;>cases fT ks aB x.args (d+1)<;>rfl
theorem OO (ks:List cv) (aB:Int) (x:di) (d:Nat):(((!(fI ks aB x.op x.n x.m x.pl x.args.length x.body.length x.other.length)||!(fT ks aB x.args 1))||(((x.op==4)||(x.op==5))&&!(bf ks aB x.body (d+1))))||(decide (0<(x.other.length:Int))&&!(bf ks aB x.other (d+1)))) = !(j3 ks aB x d):=by
 rw [oN,show decide (0<(x.other.length:Int))=decide (0<x.other.length) by rw [jz]; simp];unfold oG
 cases fI ks aB x.op x.n x.m x.pl x.args.length x.body.length x.other.length<;>cases fT ks aB x.args 1<;>cases ((x.op==4)||(x.op==5))<;>cases bf ks aB x.body (d+1)<;>cases decide (0<x.other.length)<;>cases bf ks aB x.other (d+1)<;>rfl
theorem OP (ks:List cv) (aB:Int) (l:List di) (d:Nat):(decide (6<(d:Int))||decide (10<(l.length:Int)))=true->bf ks aB l d=false:=by
 intro h;unfold bf
 have b:¬(d<=6/\l.length<=10):=by simp at h; omega
 by_cases a:d<=6
 · rw [decide_eq_false (by omega:¬l.length<=10)]; simp
 · rw [decide_eq_false a]; simp
theorem OQ {l:List di} {d:Nat} (h:(decide (6<(d:Int))||decide (10<(l.length:Int)))=false):d<=6/\l.length<=10:=by simp at h; omega
theorem G9 (ks:List cv) (aB:Int) {l:List di} {d:Nat} (h:d<=6/\l.length<=10):bf ks aB l d=l.all (j3 ks aB · d):=by
 unfold bf; rw [decide_eq_true h.1,decide_eq_true h.2,oO]; rfl
theorem j2 {α:Type} {f:α->Bool} {l:List α} {i:Nat} {x:α} (h:l[i]? = some x) (a:f x=false):l.all f=false:=by
 cases b:l.all f with
 | false=>rfl
 | true=>rw [fG.1 b x (ax h)] at a; cases a
theorem wF {α:Type} {f:α->Bool} {l:List α} {i:Nat} {x:α} (h:l[i]? = some x) (a:(l.take i).all f=true) (b:f x=true):(l.take (i+1)).all f=true:=by
 rw [aZ,h,List.all_append,a];simp [b]
def j4 (ks:List cv) (p:hR):Bool:=!(((decide (p.params<0)||decide (3<p.params))||decide (p.locals<0))||decide (4<p.locals))&&bf ks (p.params+p.locals) p.body 1
def oH (nm:List UInt8) (us:List (List UInt8)):Bool:=!(e6 (nm::us))&&us.all ep
def nY (u:cb):Bool:=(((!(ep u.nm)||decide (3<(u.aq.length:Int)))||decide (u.data<0))||decide (512<u.data))||decide (6<(u.parts.length:Int))
def jI (u:cb) (kn:List cv):Bool:=oH u.nm u.aq&&(!(nY u)&&(u.parts.all (j4 (aG u::kn))&&bf (aG u::kn) 0 u.main 1))
def cA (l:List cb):List (List UInt8):=l.map (·.nm)
def h7 (l:List cb):Bool:=(List.range l.length).all λn=>((l[n]?.map (·.aq)).getD []).all λs=>((cA l).take n).contains s
def ej:List cb->Int->Bool
 | [],_=>true
 | u::r,room=>!(decide (u.data<0)||decide (room<u.data))&&ej r (room-u.data)
def lD (l:List cb) (u:cb):List cv:=u.aq.map λs=>match idxOf s (cA l) 0 with
 | some i=>(l[i]?.map aG).getD k'
 | none=>k'
def wG (l:List cb):Int:=
 if (decide ((l.length:Int)<1)||decide (4<(l.length:Int)))=true then 2 else if h7 l=false then 9 else if e6 (cA l)=true then 6
 else if ej l 512=false then 1 else if (l.all λu=>jI u (lD l u))=true then 0 else 1
end Go.Bw
end
section
namespace Go.Bw
open Go
def iW (x y:List UInt8):Bool:=Op.bytesLess x y
theorem G':∀x:List UInt8,iW x x=false
 | []=>rfl
 | a::x=>by
   have h:=G' x;unfold iW at h ⊢;simp only [Op.bytesLess,h,Bool.and_false,Bool.or_false];simp
theorem Cm (a b:UInt8) (x y:List UInt8):iW (a::x) (b::y)=(decide (a<b)||((a==b)&&iW x y)):=rfl
theorem G_:∀x y:List UInt8,x≠y->iW x y=true\/iW y x=true
 | [],[],h=>absurd rfl h
 | [],b::y,_=>.inl rfl
 | a::x,[],_=>.inr rfl
 | a::x,b::y,h=>by
   rw [Cm,Cm]
   by_cases e:a=b
   · subst e
     have:=G_ x y (λe=>h (by rw [e]))
     simpa using this
   · rcases Nat.lt_or_gt_of_ne (λd=>e (Fh.1 d)) with c | c
     · left; simp [A3,c]
     · right; simp [A3,c]
theorem Cn:∀x y f:List UInt8,iW x y=true->iW y f=true->iW x f=true
 | [],[],_,h,_=>by cases h
 | [],_::_,[],_,h=>by cases h
 | [],_::_,_::_,_,_=>rfl
 | _::_,[],_,h,_=>by cases h
 | _::_,_::_,[],_,h=>by cases h
 | a::x,b::y,c::f,e,d=>by
   rw [Cm] at e d ⊢;simp only [x5,cO,decide_eq_true_eq,beq_iff_eq,A3] at e d ⊢
   rcases e with e | ⟨rfl,e⟩
   · rcases d with d | ⟨rfl,d⟩
     · exact .inl ae
     · exact .inl e
   · rcases d with d | ⟨rfl,d⟩
     · exact .inl d
     · exact .inr ⟨O,Cn x y f e d⟩
theorem OR {x y:List UInt8} (h:iW x y=true):iW y x=false:=by
 rw [qn];intro a;have:=Cn x y x h a;rw [G'] at this; cases this
def gB (l:List aX):List (List UInt8):=l.map (·.nm)
def h9 (l:List aX) (s:List UInt8):Option Nat:=idxOf s (gB l) 0
def gC (l:List aX) (i:Nat):List UInt8:=(l[i]?.map (·.nm)).getD []
def oI (l:List aX) (i:Nat):List (List UInt8):=(l[i]?.map (·.aq)).getD []
def wH (l:List aX):Bool:=l.all λm=>m.aq.all λs=>(h9 l s).isSome
def h' (l:List aX):Int:=if 4<l.length then 2 else er (gk gz l) (if e6 (gB l)=true then 6 else if wH l=true then 0 else 5)
structure h_ (l:List aX):Prop where
 aH:l.length<=4
 qE:∀m ∈ l,gz m=0
 nd:(gB l).Nodup
 aq:∀m ∈ l,∀s ∈ m.aq,∃j,h9 l s=some j
theorem mI {α:Type} {f:α->Int}:∀{l:List α},gk f l=0↔∀x ∈ l,f x=0
 | []=>by simp [gk]
 | x::l=>by rw [gk,j1,mI (l:=l)]; simp
theorem Ha {l:List aX}:h' l=0↔h_ l:=by
 unfold h'
 constructor
 · intro h
   split at h
   · cases h
   · rename_i k
     obtain ⟨d,a⟩:=j1.1 h
     split at a
     · cases a
     · rename_i e
       split at a
       · rename_i f
         refine ⟨ae,mI.1 d,jl.2 (by simpa using e),λm b s c=>?_⟩;have:=fG.1 (fG.1 f m b) s c
         cases g:h9 l s with
         | none=>rw [g] at this; cases this
         | some j=>exact ⟨j,rfl⟩
       · cases a
 · intro h
   rw [if_neg (by have:=h.aH; omega),mI.2 h.qE,k8,if_neg (by rw [jl.1 h.nd]; decide),if_pos];refine fG.2 λm b=>fG.2 λs c=>?_;obtain ⟨j,i⟩:=h.aq m b s c;rw [i]; rfl
theorem Hb {l:List aX} {s:List UInt8} {j:Nat} (h:h9 l s=some j):j<l.length/\gC l j=s:=by
 have a:=(s6 h).2;rw [qj] at a;unfold gB at a;rw [eZ] at a;obtain ⟨m,b,e⟩:=dr.1 a;exact ⟨(cf.1 b).1,by rw [gC,b]; exact e⟩
theorem nZ {l:List aX} {i:Nat} {m:aX} (h:l[i]? = some m):gC l i=m.nm:=by rw [gC,h]; rfl
theorem Hc {l:List aX} {i:Nat} {m:aX} (h:l[i]? = some m):oI l i=m.aq:=by rw [oI,h]; rfl
theorem ig {l:List aX} {i:Nat} {m:aX} (h:l[i]? = some m):(gB l)[i]? = some m.nm:=by unfold gB; rw [eZ,h]; rfl
theorem rT (l:List aX):(gB l).length=l.length:=by simp [gB]
theorem wI {l:List aX} (b:(gB l).Nodup) {i j:Nat} (hi:i<l.length) (a:j<l.length) (h:gC l i=gC l j):i=j:=by
 have e:(gB l)[i]? = (gB l)[j]?:=by
   rw [ig (dL hi),ig (dL a),<-nZ (dL hi),<-nZ (dL a),h]
 exact (ru (by rw [rT]; exact hi) b).1 e
theorem OS {l:List aX} (b:(gB l).Nodup) {i:Nat} (hi:i<l.length):h9 l (gC l i)=some i:=by
 cases a:h9 l (gC l i) with
 | none=>
   refine absurd ?_ (rQ.1 a);rw [nZ (dL hi)];exact ax (ig (dL hi))
 | some j=>
   obtain ⟨c,d⟩:=Hb a;rw [wI b c hi d]
def j5 (l:List aX) (d:List Nat) (s:List UInt8):Bool:=match h9 l s with | some j=>d.contains j | none=>false
def lE (l:List aX) (d:List Nat) (i:Nat):Bool:=!d.contains i&&(oI l i).all (j5 l d)
structure uG (l:List aX) (d:List Nat) (b:Nat):Prop where
 lt:b<l.length
 ready:lE l d b=true
 least:∀i,i<l.length->lE l d i=true->i=b\/iW (gC l b) (gC l i)=true
inductive km (l:List aX):List Nat->Prop where
 | nil:km l []
 | snoc {d:List Nat} {b:Nat}:km l d->uG l d b->km l (d++[b])
def Co (l:List aX) (d:List Nat):Prop:=∀i,i<l.length->lE l d i=false
theorem OT {l:List aX} {d:List Nat} {a b:Nat} (e:uG l d a) (f:uG l d b):a=b:=by
 rcases e.least b f.lt f.ready with h | h
 · exact h.symm
 · rcases f.least a e.lt e.ready with c | c
   · exact c
   · rw [OR h] at c; cases c
theorem Cp {l:List aX} {d:List Nat} {b:Nat} (h:km l (d++[b])):km l d/\uG l d b:=by
 generalize c:d++[b]=e at h
 cases h with
 | nil=>simp at c
 | snoc f g=>
   obtain ⟨rfl,a⟩:=List.append_inj' c rfl
   injection a with a
   subst a;exact ⟨f,g⟩
theorem OU {l:List aX}:∀{d:List Nat},km l d->∀k,km l (d.take k):=by
 intro d h
 induction h with
 | nil=>intro k; simp; exact .nil
 | @snoc d b c e f=>
   intro k
   rcases kY d.length k with a | a
   · rw [kF (by simp; omega)]; exact .snoc c e
   · rw [AZ a]; exact f k
theorem Cq {l:List aX}:∀{n:Nat} {d e:List Nat},d.length=n->e.length=n->km l d->km l e->d=e
 | 0,d,e,c,f,_,_=>by rw [ou c,ou f]
 | n+1,d,e,c,f,i,he=>by
   obtain ⟨g,a,rfl⟩:∃g a,d=g++[a]:=⟨d.dropLast,d.getLast (by intro h; rw [h] at c; cases c),(Fi _).symm⟩;obtain ⟨p,b,rfl⟩:∃g a,e=g++[a]:=⟨e.dropLast,e.getLast (by intro h; rw [h] at f; cases f),(Fi _).symm⟩;obtain ⟨j,k⟩:=Cp i;obtain ⟨m,o⟩:=Cp he;have:=Cq (n:=n) (by simpa using c) (by simpa using f) j m;subst this;rw [OT k o]
theorem oP {l:List aX} {d e:List Nat} (c:km l d) (f:Co l d) (g:km l e):e.length<=d.length:=by
 rcases kY d.length e.length with h | h
 · have b:=OU g (d.length+1)
   have i:e.take (d.length+1)=e.take d.length++[e[d.length]]:=by rw [aZ,dL h]; rfl
   rw [i] at b;obtain ⟨j,a⟩:=Cp b;have k:=Cq (n:=d.length) rfl (by simp; omega) c j;rw [<-k] at a;have:=a.ready;rw [f _ a.lt] at this; cases this
 · exact h
def o3 (l:List aX) (d:List Nat):Prop:=km l d/\(d.length=l.length\/Co l d)
theorem pB {l:List aX} {d:List Nat} (h:km l d):(∀i ∈ d,i<l.length)/\d.Nodup:=by
 induction h with
 | nil=>simp
 | @snoc d b k c f=>
   refine ⟨λi hi=>?_,?_⟩
   · rcases dA.1 hi with hi | hi
     · exact f.1 i hi
     · rw [az] at hi; subst hi; exact c.lt
   · rw [jx]
     refine ⟨f.2,aj,λa j m g=>?_⟩;rw [az] at g; subst g;intro e; subst e;have:=c.ready;simp [lE,j] at this
theorem wJ:∀{n:Nat} {d:List Nat},d.Nodup->(∀i ∈ d,i<n)->d.length<=n
 | 0,[],_,_=>dp _
 | 0,x::_,_,h=>absurd (h x aj) ae
 | n+1,d,a,f=>by
   have b:(d.erase n).length<=n:=wJ (a.erase n) λi hi=>by
     have c:=(a.mem_erase_iff).1 hi;have:=f i c.2;have:=c.1;omega
   by_cases e:n ∈ d
   · rw [List.length_erase_of_mem e] at b; omega
   · rw [List.erase_of_not_mem e] at b; omega
theorem OV {l:List aX} {d e:List Nat} (b:o3 l d) (a:o3 l e):d=e:=by
 have g:=wJ (pB b.1).2 (pB b.1).1;have le:=wJ (pB a.1).2 (pB a.1).1
 have h:d.length=e.length:=by
   rcases b.2 with f | f
   · rcases a.2 with c | c
     · omega
     · have:=oP a.1 c b.1; omega
   · have i:=oP b.1 f a.1
     rcases a.2 with c | c
     · omega
     · have:=oP a.1 c b.1; omega
 exact Cq (n:=d.length) O h.symm b.1 a.1
def wK (l:List aX) (d:List Nat):List Nat×Int:=if d.length=l.length then (d,0) else ([],9)
def ey (l:List aX) (s:List UInt8):List (List UInt8):=match h9 l s with | some i=>oI l i | none=>[]
inductive Reach (l:List aX) (a:List UInt8):List UInt8->Prop where
 | base {s:List UInt8}:s ∈ ey l a->Reach l a s
 | step {b s:List UInt8}:Reach l a b->s ∈ ey l b->Reach l a s
structure Ct (l:List aX) (a:List UInt8) (S:List UInt8->Prop):Prop where
 base:∀s ∈ ey l a,S s
 step:∀b,S b->∀s ∈ ey l b,S s
 sound:∀s,S s->Reach l a s
theorem Ct.iff {l:List aX} {a:List UInt8} {S:List UInt8->Prop} (h:Ct l a S) (s:List UInt8):S s↔Reach l a s:=
 ⟨h.sound s,λc=>by
   induction c with
   | base b=>exact h.base _ b
   | step _ b d=>exact h.step _ d _ b⟩
def gH (l:List (List UInt8)) (s:Nat):List (dP (List UInt8)):=match l with
 | []=>[]
 | x::r=>(x,.int .i64 (s:Int),s)::gH r (s+1)
theorem Cu:∀(l:List (List UInt8)) (s:Nat),(gH l s).length=l.length
 | [],_=>rfl
 | x::r,s=>by rw [gH,du,Cu r,du]
theorem Cv:∀(l:List (List UInt8)) (x:List UInt8) (s:Nat),gH (l++[x]) s=gH l s++[(x,.int .i64 ((s+l.length:Nat):Int),s+l.length)]
 | [],x,s=>rfl
 | y::r,x,s=>by
   rw [fL,gH,Cv r x,gH,fL,du,show s+1+r.length=s+(r.length+1) by omega]
theorem y8 (nm:List UInt8):∀(l:List (List UInt8)) (s i:Nat),(cK nm (gH l s) i).map (·.2)=(idxOf nm l s).map λk=>.int .i64 (k:Int)
 | [],_,_=>rfl
 | x::r,s,i=>by
   rw [gH,cK,idxOf]
   by_cases h:x=nm
   · simp [h]
   · rw [if_neg (by simpa using λe=>h e.symm),if_neg h]
     exact y8 nm r (s+1) (i+1)
theorem wL (nm:List UInt8) (l:List (List UInt8)):aI nm (gH l 0) (.int .i64 0) = .int .i64 (((idxOf nm l 0).getD 0:Nat):Int)/\cy nm (gH l 0)=(idxOf nm l 0).isSome:=by
 have h:=y8 nm l 0 0;unfold aI cy
 cases a:cK nm (gH l 0) 0 with
 | none=>rw [a] at h; cases hi:idxOf nm l 0 with | none=>exact ⟨rfl,rfl⟩ | some x=>rw [hi] at h; cases h
 | some r=>rw [a] at h; cases hi:idxOf nm l 0 with
   | none=>rw [hi] at h; cases h
   | some x=>rw [hi] at h; simp at h; exact ⟨by simp [h],rfl⟩
theorem Cw {κ:Type} [BEq κ] (k:κ) (v:Value) (m:List (dP κ)) (c:Nat):(eJ k v m c).length<=m.length+1:=by
 unfold eJ
 split<;>simp
def Cx (ns:List (List UInt8)) (i:Nat) (M:List (dP (List UInt8))) (c:Nat):Prop:=((ns.take i).Nodup/\M=gH (ns.take i) 0/\c=i)\/(¬(ns.take i).Nodup/\M.length<i)
theorem OW {ns:List (List UInt8)} {i:Nat} {M:List (dP (List UInt8))} {c:Nat} {x:List UInt8} (h:Cx ns i M c) (n:ns[i]? = some x):Cx ns (i+1) (eJ x (.int .i64 (i:Int)) M c) (hz x M c):=by
 have v:=(cf.1 n).1
 have o:(ns.take i).length=i:=by simp; omega
 have j:ns.take (i+1)=ns.take i++[x]:=by rw [aZ,n]; rfl
 rcases h with ⟨m,rfl,s⟩ | ⟨m,w⟩
 · have t:=s.symm
   subst t;have f:=y8 x (ns.take i) 0 0
   by_cases l:x ∈ ns.take i
   · right
     refine ⟨λg=>?_,?_⟩
     · rw [j,jx] at g
       exact g.2.2 x l x aj O
     · have p:(cK x (gH (ns.take i) 0) 0).isSome=true:=by
         cases d:cK x (gH (ns.take i) 0) 0 with
         | some r=>rfl
         | none=>
           rw [d] at f
           have:idxOf x (ns.take i) 0=none:=by
             cases hi:idxOf x (ns.take i) 0 with
             | none=>rfl
             | some k=>rw [hi] at f; cases f
           exact absurd l (rQ.1 this)
       unfold eJ
       cases d:cK x (gH (ns.take i) 0) 0 with
       | none=>rw [d] at p; cases p
       | some r=>simp [Cu,o]
   · left
     have d:cK x (gH (ns.take i) 0) 0=none:=by
       rw [rQ.2 l] at f
       simpa using f
     refine ⟨?_,?_,?_⟩
     · rw [j,jx]
       exact ⟨m,aj,λa u b q e=>by rw [az] at q; subst q; subst e; exact l u⟩
     · unfold eJ
       rw [d,j,Cv,o];simp
     · unfold hz
       rw [d]
 · right
   refine ⟨λg=>m ?_,?_⟩
   · rw [j,jx] at g; exact g.1
   · have:=Cw x (.int .i64 (i:Int)) M c
     omega
end Go.Bw
end
section
namespace Go.Bw
open Go
def oJ (l:List aX) (a b:Nat):Prop:=iW (gC l a) (gC l b)=true
def mJ {α:Type} (R:α->α->Prop) (d:List α) (i:Nat):Prop:=∀(x y:Nat) (a b:α),x<y->y<i->d[x]? = some a->d[y]? = some b->R a b
structure s8 {α:Type} (R:α->α->Prop) (d0 d:List α) (i j:Nat):Prop where
 perm:d.Perm d0
 ji:j<=i
 il:i<d.length
 ord:∀(x y:Nat) (a b:α),x<y->y<=i->x≠j->y≠j->d[x]? = some a->d[y]? = some b->R a b
 up:∀(y:Nat) (a b:α),j<y->y<=i->d[j]? = some a->d[y]? = some b->R a b
theorem OX {α:Type} {R:α->α->Prop} {d0 d:List α} {i:Nat} (c:d.Perm d0) (hi:i<d.length) (h:mJ R d i):s8 R d0 d i i:=
 ⟨c,dp _,hi,λx y a b e l f g j k=>h x y a b e ae j k,λy a b f g=>by omega⟩
theorem OY {α:Type} {d:List α} {j:Nat} {a b:α} (f:d[j]? = some b) (g:d[j+1]? = some a):d=d.take j++b::a::d.drop (j+2)/\(d.set (j+1) b).set j a=d.take j++a::b::d.drop (j+2):=by
 obtain ⟨h,i⟩:=cf.1 f;obtain ⟨k,l⟩:=cf.1 g
 have e:d=d.take j++b::a::d.drop (j+2):=by
   conv=>lhs; rw [<-ot j d,pf h,i,pf k,l]
 refine ⟨e,?_⟩
 have c:(d.take j).length=j:=by simp; omega
 conv=>lhs; rw [e]
 rw [A4 _ _ ae,c,show j+1-j=1 by omega,A4 _ _ ae,c,sF]
 rfl
theorem OZ {α:Type} {R:α->α->Prop} {d0 d:List α} {i j:Nat} {a b:α} (h:s8 R d0 d i (j+1)) (p:d[j+1]? = some a) (l:d[j]? = some b) (r:R a b):s8 R d0 ((d.set (j+1) b).set j a) i j:=by
 obtain ⟨s,t⟩:=OY l p;have A:=h.ji;have w:=h.il
 have g:∀x,((d.set (j+1) b).set j a)[x]? = if x=j then some a else if x=j+1 then some b else d[x]?:=by
   intro x;rw [x8,x8];simp only [List.length_set]
   by_cases f:x=j
   · subst f; rw [if_pos rfl,if_pos ae,if_pos rfl]
   · rw [if_neg (λe=>f e.symm),if_neg f]
     by_cases m:x=j+1
     · subst m; rw [if_pos rfl,if_pos ae,if_pos rfl]
     · rw [if_neg (λe=>m e.symm),if_neg m]
 refine ⟨?_,ae,by simpa using w,?_,?_⟩
 · rw [t]
   refine List.Perm.trans ?_ h.perm
   conv=>rhs; rw [s]
   exact List.Perm.append_left _ (List.Perm.swap _ _ _)
 · intro x y u v z k q n c hv
   rw [g,if_neg q] at c;rw [g,if_neg n] at hv
   by_cases f:x=j+1
   · rw [if_pos f] at c
     injection c with c; subst c
     rw [if_neg ae] at hv;exact h.ord j y b v ae k ae ae l hv
   · rw [if_neg f] at c
     by_cases o:y=j+1
     · rw [if_pos o] at hv
       injection hv with hv; subst hv
       exact h.ord x j u b ae ae f ae c l
     · rw [if_neg o] at hv
       exact h.ord x y u v z k f o c hv
 · intro y u v q n c hv
   rw [g,if_pos rfl] at c
   injection c with c; subst c
   rw [g,if_neg ae] at hv
   by_cases k:y=j+1
   · rw [if_pos k] at hv
     injection hv with hv; subst hv
     exact r
   · rw [if_neg k] at hv
     exact h.up y a v ae n p hv
theorem O0 {α:Type} {R:α->α->Prop} {d0 d:List α} {i:Nat} (h:s8 R d0 d i 0):mJ R d (i+1):=by
 intro x y a b c j e f
 by_cases g:x=0
 · subst g; exact h.up y a b c ae e f
 · exact h.ord x y a b c ae g ae e f
theorem O1 {α:Type} {R:α->α->Prop} (n:∀a b c,R a b->R b c->R a c) {d0 d:List α} {i j:Nat} {a b:α} (h:s8 R d0 d i (j+1)) (o:d[j+1]? = some a) (g:d[j]? = some b) (k:R b a):mJ R d (i+1):=by
 intro x y u v l q e hv
 by_cases f:x=j+1
 · subst f; exact h.up y u v l ae e hv
 · by_cases m:y=j+1
   · subst m
     rw [o] at hv; injection hv with hv; subst hv
     by_cases p:x=j
     · subst p; rw [g] at e; injection e with e; subst e; exact k
     · exact n u b a (h.ord x j u b ae (by have:=h.ji; omega) f ae e g) k
   · exact h.ord x y u v l ae f m e hv
def oK (a b:List UInt8):Int:=if iW a b=true then -1 else if (!(iW a b||a==b))=true then 1 else 0
theorem He {a b:List UInt8}:oK a b<0↔iW a b=true:=by
 unfold oK
 by_cases h:iW a b=true
 · simp [h]
 · rw [if_neg h]
   constructor
   · intro c; split at c<;>omega
   · intro c; exact absurd c h
def kJ (d:List Nat) (s:Nat):List (dP Int):=match d with
 | []=>[]
 | i::r=>((i:Int),.int .i64 1,s)::kJ r (s+1)
theorem Hf:∀(d:List Nat) (i s:Nat),kJ (d++[i]) s=kJ d s++[((i:Int),.int .i64 1,s+d.length)]
 | [],i,s=>rfl
 | y::r,i,s=>by
   rw [fL,kJ,Hf r i,kJ,fL,du,show s+1+r.length=s+(r.length+1) by omega]
theorem Cz (i:Nat):∀(d:List Nat) (s k:Nat),(cK (i:Int) (kJ d s) k).map (·.2)=if d.contains i=true then some (.int .i64 1) else none
 | [],_,_=>rfl
 | x::r,s,k=>by
   rw [kJ,cK]
   by_cases h:i=x
   · subst h; simp
   · rw [if_neg (by simpa using λe:(i:Int)=(x:Int)=>h ae),Cz i r (s+1) (k+1)]
     simp [h]
theorem CA (i:Nat) (d:List Nat):aI (i:Int) (kJ d 0) (.int .i64 0) = .int .i64 (if d.contains i=true then 1 else 0):=by
 have h:=Cz i d 0 0;unfold aI
 cases a:cK (i:Int) (kJ d 0) 0 with
 | none=>rw [a] at h; split at h<;>simp_all
 | some r=>rw [a] at h; split at h<;>simp_all
theorem Hg {i:Nat} {d:List Nat} (h:d.contains i=false):eJ (i:Int) (.int .i64 1) (kJ d 0) d.length=kJ (d++[i]) 0/\hz (i:Int) (kJ d 0) d.length=(d++[i]).length:=by
 have a:=Cz i d 0 0;rw [h,if_neg aF] at a
 have a:cK (i:Int) (kJ d 0) 0=none:=by simpa using a
 unfold eJ hz;rw [a,Hf];simp
theorem O2 {l:List aX} {d out:List Nat} {k b:Nat} (f:d.Perm (List.range l.length)) (j:mJ (oJ l) d d.length) (e:d[k]? = some b) (m:lE l out b=true) (n:∀x c,x<k->d[x]? = some c->lE l out c=false):uG l out b:=by
 refine ⟨by simpa using f.subset (ax e),m,λi hi g=>?_⟩;have o:i ∈ d:=f.symm.subset (by simpa using hi);obtain ⟨y,a⟩:=jA o;have p:=(cf.1 a).1
 rcases Fb y k with h | h | h
 · rw [n y i h a] at g; cases g
 · subst h; rw [e] at a; injection a with a; exact .inl a.symm
 · exact .inr (j k y b i h p e a)
theorem O3 {l:List aX} {d out:List Nat} (a:d.Perm (List.range l.length)) (b:∀x c:Nat,d[x]? = some c->lE l out c=false):Co l out:=λi hi=>by
 have e:i ∈ d:=a.symm.subset (by simpa using hi);obtain ⟨y,f⟩:=jA e;exact b y i f
end Go.Bw
end
section
namespace Go.Bw
open Go Go.RowKit Go.Maps Go.Sort
open Go.WideElems (Fit rd rg pl rd_val rd_mk rg_of)
structure X_ (M:List (dP (List UInt8))) (c:Nat):Prop where
 nd:(M.map (·.1)).Nodup
 len:∀e ∈ M,e.1.length<=maxLen
 size:M.length<=maxLen
 born:M.map (·.2.2)=List.range M.length
 clock:c=M.length
end Go.Bw
end
section
namespace Go.Bw
open Go
section
variable {κ:Type} [BEq κ] [LawfulBEq κ]
theorem y9 (k:κ):∀(m:List (dP κ)) (i j:Nat) (v:Value),cK k m i=some (j,v)->i<=j/\∃b,m[j-i]? = some (k,v,b)
 | [],i,j,v,h=>by simp [cK] at h
 | e::r,i,j,v,h=>by
   simp only [cK] at h
   split at h
   · rename_i d
     have f:e.1=k:=(eq_of_beq d).symm
     injection h with h
     injection h with c a
     subst c a;exact ⟨dp _,e.2.2,by rw [sF,kf,<-f]⟩
   · obtain ⟨c,b,a⟩:=y9 k r (i+1) j v h
     refine ⟨ae,b,?_⟩;rw [show j-i=(j-(i+1))+1 by omega,lY];exact a
theorem Hh (k:κ):∀(m:List (dP κ)) (i:Nat),cK k m i=none↔k ∉ m.map (·.1)
 | [],i=>by simp [cK]
 | e::r,i=>by
   simp only [cK,jT,dU,not_or]
   split
   · rename_i a
     have b:e.1=k:=(eq_of_beq a).symm;exact ⟨λh=>(by cases h),λh=>absurd b.symm h.1⟩
   · rename_i a
     have b:¬k=e.1:=λc=>a (by simp [c]);rw [Hh k r (i+1)];exact ⟨λh=>⟨b,h⟩,λh=>h.2⟩
theorem O4 (k:κ) (v:Value) (m:List (dP κ)) (c:Nat):((k ∈ m.map (·.1))/\(eJ k v m c).map (·.1)=m.map (·.1)/\(eJ k v m c).map (·.2.2)=m.map (·.2.2)/\hz k m c=c)\/
   (k ∉ m.map (·.1)/\eJ k v m c=m++[(k,v,c)]/\hz k m c=c+1):=by
 unfold eJ hz
 cases d:cK k m 0 with
 | none=>exact .inr ⟨(Hh k m 0).1 d,rfl,rfl⟩
 | some r=>
   obtain ⟨j,u⟩:=r;obtain ⟨_,b,a⟩:=y9 k m 0 j u d;rw [qj] at a;refine .inl ⟨k0.2 ⟨_,ax a,O⟩,?_,?_,O⟩
   all_goals
     apply rp;intro i;simp only [eZ,rq]
     by_cases e:j=i
     · subst e; rw [a]; simp
     · simp [e]
theorem s9 (k:κ) (v:Value) (m:List (dP κ)) (c:Nat) (g:Value):aI k (eJ k v m c) g=v:=by
 have key:∃e,cK k (eJ k v m c) 0=some (e,v):=by
   unfold eJ
   cases f:cK k m 0 with
   | none=>
     have a:∀(m:List (dP κ)) (i:Nat),cK k m i=none->cK k (m++[(k,v,c)]) i=some (i+m.length,v):=by
       intro m
       induction m with
       | nil=>intro i _; simp [cK]
       | cons e r d=>
         intro i h;simp only [cK,fL] at h ⊢
         split at h
         · cases h
         · rename_i b
           rw [if_neg b,d _ h,du]
           congr 2
           omega
     exact ⟨_,a m 0 f⟩
   | some r=>
     obtain ⟨j,u⟩:=r
     have a:∀(m:List (dP κ)) (i:Nat),cK k m i=some (j,u)->cK k (m.modify (j-i) λe=>(k,v,e.2.2)) i=some (j,v):=by
       intro m
       induction m with
       | nil=>intro i h; simp [cK] at h
       | cons e r d=>
         intro i h;simp only [cK] at h
         split at h
         · injection h with h
           injection h with a l
           subst a;rw [sF];simp [cK]
         · rename_i b
           have n:=(y9 k r (i+1) j u h).1;rw [show j-i=(j-(i+1))+1 by omega,Fj,cK,if_neg b];exact d _ h
     exact ⟨_,a m 0 f⟩
 obtain ⟨e,b⟩:=key;unfold aI;rw [b]
end
structure CB (M:List (dP (List UInt8))) (c p:Nat):Prop where
 nd:(M.map (·.1)).Nodup
 born:M.map (·.2.2)=List.range M.length
 clock:c=M.length
 l_:∀x v,aI x M (.int .i64 0)=v->∃n:Nat,n<=p/\v = .int .i64 (n:Int)/\(n=0↔x ∉ M.map (·.1))
theorem j7 {κ:Type} [BEq κ] [LawfulBEq κ] {k a:κ} (v:Value) (m:List (dP κ)) (c:Nat) (n:Value) (h:a≠k):aI a (eJ k v m c) n=aI a m n:=by
 have p:∀(m:List (dP κ)) (i:Nat),(cK a (m++[(k,v,c)]) i).map (·.2)=(cK a m i).map (·.2):=by
   intro m
   induction m with
   | nil=>intro i; simp [cK,h]
   | cons e r l=>intro i; simp only [cK,fL]; split<;>simp [l]
 have s:∀(m:List (dP κ)) (i j:Nat),(m[j]?.map (·.1)=some k)->(cK a (m.modify j λe=>(k,v,e.2.2)) i).map (·.2)=(cK a m i).map (·.2):=by
   intro m
   induction m with
   | nil=>intro i j g; simp at g
   | cons e r l=>
     intro i j g
     cases j with
     | zero=>
       have t:e.1=k:=by simpa using g
       have w:¬(a==e.1)=true:=by rw [t]; simpa using h
       have x:¬(a==k)=true:=by simpa using h
       rw [List.modify_zero_cons,cK,cK,if_neg w,if_neg (show ¬(a==(k,v,e.2.2).1)=true from x)]
     | succ j=>
       rw [Fj,cK,cK]
       split
       · rfl
       · exact l _ _ (by simpa using g)
 have d:(cK a (eJ k v m c) 0).map (·.2)=(cK a m 0).map (·.2):=by
   unfold eJ
   cases y:cK k m 0 with
   | none=>exact p m 0
   | some r=>
     obtain ⟨j,u⟩:=r;obtain ⟨_,b,f⟩:=y9 k m 0 j u y;rw [qj] at f;exact s m 0 j (by rw [f]; rfl)
 unfold aI
 cases o:cK a (eJ k v m c) 0 with
 | none=>rw [o] at d; cases f:cK a m 0 with | none=>rfl | some r=>rw [f] at d; cases d
 | some q=>rw [o] at d; cases f:cK a m 0 with
   | none=>rw [f] at d; cases d
   | some r=>rw [f] at d; simp at d; simp [d]
theorem CB.put {M:List (dP (List UInt8))} {c p n:Nat} {x:List UInt8} (h:CB M c p) (w:n<=p) (j:n=0↔x ∉ M.map (·.1)) :
   CB (eJ x (.int .i64 ((n+1:Nat):Int)) M c) (hz x M c) (p+1)/\(eJ x (.int .i64 ((n+1:Nat):Int)) M c).map (·.1)=(if n=0 then M.map (·.1)++[x] else M.map (·.1)):=by
 have i:∀y v,aI y (eJ x (.int .i64 ((n+1:Nat):Int)) M c) (.int .i64 0)=v->∃k:Nat,k<=p+1/\v = .int .i64 (k:Int)/\(k=0↔y ∉ (if n=0 then M.map (·.1)++[x] else M.map (·.1))):=by
   intro y v hv
   by_cases l:y=x
   · subst l
     rw [s9] at hv;refine ⟨n+1,ae,hv.symm,?_⟩
     split
     · simp
     · rename_i m
       exact ⟨λh=>by omega,λd=>absurd (j.2 d) m⟩
   · rw [j7 _ _ _ _ l] at hv
     obtain ⟨k,f,d,g⟩:=h.l_ y v hv;refine ⟨k,ae,d,g.trans ?_⟩
     split
     · simp [l]
     · rfl
 rcases O4 x (.int .i64 ((n+1:Nat):Int)) M c with ⟨f,d,g,s⟩ | ⟨f,d,g⟩
 · have m:¬n=0:=λe=>j.1 e f
   rw [if_neg m] at i ⊢
   have q:(eJ x (.int .i64 ((n+1:Nat):Int)) M c).length=M.length:=by have:=congrArg List.length d; simpa using this
   exact ⟨⟨by rw [d]; exact h.nd,by rw [g,q]; exact h.born,by rw [s,q]; exact h.clock,λy v hv=>by rw [d]; exact i y v hv⟩,d⟩
 · have t:n=0:=j.2 f
   rw [if_pos t] at i ⊢
   have o:(eJ x (.int .i64 ((n+1:Nat):Int)) M c).map (·.1)=M.map (·.1)++[x]:=by rw [d]; simp
   refine ⟨⟨?_,?_,?_,λy v hv=>by rw [o]; exact i y v hv⟩,o⟩
   · rw [o,jx]
     exact ⟨h.nd,aj,λa u b r e=>by rw [az] at r; subst r; subst e; exact f u⟩
   · rw [d,nI,h.born,dG,gf,vT,h.clock]; rfl
   · rw [g,d,h.clock]; simp
structure kh (l:List aX) (nm:List UInt8) (ds nx:List (List UInt8)):Prop where
 base:∀s ∈ ey l nm,s ∈ ds\/s ∈ nx
 step:∀b ∈ ds,∀s ∈ ey l b,s ∈ ds\/s ∈ nx
 sound:∀s,s ∈ ds\/s ∈ nx->Reach l nm s
theorem kh.new {l:List aX} {nm x:List UInt8} {ds r:List (List UInt8)} (h:kh l nm ds (x::r)):kh l nm (ds++[x]) (r++ey l x):=by
 have key:∀s,s ∈ ds\/s ∈ x::r->s ∈ ds++[x]\/s ∈ r++ey l x:=λs a=>by
   rcases a with a | a
   · exact .inl (tV _ a)
   · rcases dU.1 a with e | a
     · subst e; exact .inl aj
     · exact .inr (tV _ a)
 refine ⟨λs a=>key s (h.base s a),λb c s a=>?_,λs a=>?_⟩
 · rcases dA.1 c with c | c
   · exact key s (h.step b c s a)
   · rw [az] at c; subst c
     exact .inr (qp _ a)
 · rcases a with a | a
   · rcases dA.1 a with a | a
     · exact h.sound s (.inl a)
     · rw [az] at a; subst a
       exact h.sound _ (.inr aj)
   · rcases dA.1 a with a | a
     · exact h.sound s (.inr (bE _ a))
     · exact .step (h.sound x (.inr aj)) a
theorem kh.fin {l:List aX} {nm:List UInt8} {ds:List (List UInt8)} (h:kh l nm ds []) (s:List UInt8):s ∈ ds↔Reach l nm s:=
 Ct.iff (S:=λs=>s ∈ ds) ⟨λs a=>(h.base s a).resolve_right aj,λb c s a=>(h.step b c s a).resolve_right aj,λs a=>h.sound s (.inl a)⟩ s
end Go.Bw
end
section
namespace Go.Bw
open Go
def b_ (l:List (List UInt8)) (s:Nat):List (dP (List UInt8)):=match l with
 | []=>[]
 | x::r=>(x,.int .i64 1,s)::b_ r (s+1)
theorem Hi:∀(l:List (List UInt8)) (x:List UInt8) (s:Nat),b_ (l++[x]) s=b_ l s++[(x,.int .i64 1,s+l.length)]
 | [],x,s=>rfl
 | y::r,x,s=>by
   rw [fL,b_,Hi r x,b_,fL,du,show s+1+r.length=s+(r.length+1) by omega]
theorem CD (nm:List UInt8):∀(l:List (List UInt8)) (s i:Nat),(cK nm (b_ l s) i).map (·.2)=if l.contains nm=true then some (.int .i64 1) else none
 | [],_,_=>rfl
 | x::r,s,i=>by
   rw [b_,cK]
   by_cases h:x=nm
   · subst h; simp
   · rw [if_neg (by simpa using λe=>h e.symm),CD nm r (s+1) (i+1)]
     have a:¬nm=x:=λe=>h e.symm;simp [a]
theorem O5 (nm:List UInt8) (l:List (List UInt8)):aI nm (b_ l 0) (.int .i64 0) = .int .i64 (if l.contains nm=true then 1 else 0):=by
 have h:=CD nm l 0 0;unfold aI
 cases a:cK nm (b_ l 0) 0 with
 | none=>rw [a] at h; split at h<;>simp_all
 | some r=>rw [a] at h; split at h<;>simp_all
theorem Hj {x:List UInt8} {l:List (List UInt8)} (h:l.contains x=false):eJ x (.int .i64 1) (b_ l 0) l.length=b_ (l++[x]) 0/\hz x (b_ l 0) l.length=(l++[x]).length:=by
 have a:=CD x l 0 0;rw [if_neg (by rw [h]; decide)] at a
 have b:cK x (b_ l 0) 0=none:=by cases c:cK x (b_ l 0) 0 with | none=>rfl | some r=>rw [c] at a; cases a
 unfold eJ hz;rw [b,Hi];simp
structure o8 (ns:List (List UInt8)) (i:Nat) (M:List (dP (List UInt8))) (c:Nat):Prop where
 mem:∀s,∃v:Nat,aI s M (.int .i64 0) = .int .i64 (v:Int)/\(v=0↔s ∉ ns.take i)
 BI:((ns.take i).Nodup/\M=hk (ns.take i) 0/\c=i)\/(¬(ns.take i).Nodup/\M.length<i)
theorem o8.new {ns:List (List UInt8)} {i c:Nat} {M:List (dP (List UInt8))} {x:List UInt8} (h:o8 ns i M c) (j:ns[i]? = some x) (k:x ∉ ns.take i):o8 ns (i+1) (eJ x (.int .i64 ((i+1:Nat):Int)) M c) (hz x M c):=by
 have d:ns.take (i+1)=ns.take i++[x]:=by rw [aZ,j]; rfl
 have r:=(cf.1 j).1
 have o:(ns.take i).length=i:=by simp; omega
 refine ⟨λs=>?_,?_⟩
 · by_cases e:s=x
   · subst e
     exact ⟨i+1,s9 s _ M c _,by rw [d]; simp⟩
   · obtain ⟨v,f,p⟩:=h.mem s
     refine ⟨v,by rw [j7 _ M c _ e]; exact f,p.trans ?_⟩;rw [d]; simp [e]
 · rcases h.BI with ⟨f,rfl,rfl⟩ | ⟨f,t⟩
   · left
     have g:=G7 (l:=ns.take c) (x:=x) k;rw [o] at g;refine ⟨?_,by rw [g.1,d],by rw [g.2]; simp; omega⟩;rw [d,jx];refine ⟨f,aj,λa q b m e=>?_⟩;rw [az] at m; subst m; subst e; exact k q
   · right
     refine ⟨λn=>f ?_,?_⟩
     · rw [d,jx] at n; exact n.1
     · have:=Cw x (.int .i64 ((i+1:Nat):Int)) M c
       omega
theorem O6 {nm s:List UInt8} {us:List (List UInt8)} {i:Nat} (h:us[i]? = some s) (a:(nm::us.take i).contains s=true\/ep s=false):oH nm us=false:=by
 unfold oH
 rcases a with a | a
 · have c:e6 (nm::us)=true:=by
     have b:¬(nm::us).Nodup:=λb=>by
       have e:nm::us=(nm::us.take i)++us.drop i:=aj
       rw [e,jx] at b;refine b.2.2 s (by simpa using a) s ?_ O
       have:us.drop i=s::us.drop (i+1):=by
         rw [pf (cf.1 h).1,(cf.1 h).2]
       rw [this]; simp
     rw [jl] at b
     simpa using b
   rw [c]; rfl
 · rw [j2 h a]; simp
theorem Hk {nm:List UInt8} {us:List (List UInt8)} (a:(nm::us).Nodup) (b:us.all ep=true):oH nm us=true:=by
 unfold oH; rw [jl.1 a,b]; rfl
end Go.Bw
end
section
namespace Go.Bw
open Go
structure Wm where
 data:List Int
 qF:List Int
 out:List Int
 bH:Nat
 calls:Nat
inductive Rz (σ α:Type) where
 | ok (a:α) (s:σ)
 | ov (e:Int) (w:Wm)
def Rz.bind {b α β:Type} (r:Rz b α) (f:α->b->Rz b β):Rz b β:=match r with
 | .ok a s=>f a s
 | .ov e w=>.ov e w
structure Fm where
 loc:List Int
 val:Int
 w:Wm
structure Env where
 l:List cb
 aq:List (List Nat)
 wO:List Nat
 k_:Nat
def Env.mod (P:Env) (u:Nat) (m:Int):Nat:=(((P.aq[u]?).getD [])[m.toNat]?).getD 0
def Env.at_ (P:Env) (u:Nat) (m pl:Int):Nat:=(P.wO[P.mod u m]?).getD 0+pl.toNat
def Hl (P:Env) (w:Wm):Rz Wm Unit:=if w.bH=P.k_ then .ov 3 w else .ok () { w with bH:=w.bH+1 }
abbrev Ev:=List Int->Wm->Rz Wm Int
abbrev Cl:=Nat->List Int->List di->Wm->Rz Wm Int
def Rz.fr {α:Type} (f:Fm) (r:Rz Wm α):Rz Fm α:=match r with
 | .ok a w=>.ok a { f with w:=w }
 | .ov e w=>.ov e w
def Hn:List cb->Nat->List Nat
 | [],_=>[]
 | u::r,s=>s::Hn r (s+u.data.toNat)
def O7 (l:List cb):List (List Nat):=(List.range l.length).map λn=>n::((l[n]?.map (·.aq)).getD []).map λs=>(idxOf s (cA l) 0).getD 0
structure Yy where
 fin:Int
 out:List Int
 data:List Int
 bH:Int
end Go.Bw
end
section
namespace Go.Bw
open Go
structure O8 (l:List cb):Prop where
 aH:1<=l.length/\l.length<=4
 ahead:h7 l=true
 nd:(cA l).Nodup
 data:ej l 512=true
 kj:∀u ∈ l,jI u (lD l u)=true
theorem wQ {u:cb} {kn:List cv} (h:jI u kn=true):(∀p ∈ u.parts,j4 (aG u::kn) p=true)/\bf (aG u::kn) 0 u.main 1=true/\nY u=false/\oH u.nm u.aq=true:=by
 unfold jI at h;obtain ⟨c,a⟩:=d'.1 h;obtain ⟨a,b⟩:=d'.1 a;obtain ⟨b,d⟩:=d'.1 b;exact ⟨λp e=>fG.1 b p e,d,by simpa using a,c⟩
theorem y' {kn:List cv} {p:hR} (h:j4 kn p=true):0<=p.params/\p.params<=3/\0<=p.locals/\p.locals<=4/\bf kn (p.params+p.locals) p.body 1=true:=by
 unfold j4 at h;obtain ⟨a,b⟩:=d'.1 h
 have a:(((decide (p.params<0)||decide (3<p.params))||decide (p.locals<0))||decide (4<p.locals))=false:=by simpa using a
 simp only [hM,decide_eq_false_iff_not] at a;exact ⟨ae,ae,ae,ae,b⟩
open Go.ChangeShapes Go.WideShapes Go.ChangeAt Go.RowKit Go.Joins Go.Deep
mutual
def eA:aA->Nat
 | .mk _ _ _ _ args=>1+gD args
def gD:List aA->Nat
 | []=>0
 | x::r=>eA x+gD r
end
mutual
def nn:di->Nat
 | .mk _ _ _ _ args body other=>1+gD args+fb body+fb other
def fb:List di->Nat
 | []=>0
 | x::r=>nn x+fb r
end
def uH (p:hR):Nat:=1+fb p.body
def ko:List hR->Nat
 | []=>0
 | p::r=>uH p+ko r
def qG (u:cb):Nat:=1+u.nm.length+wN u.aq+ko u.parts+fb u.main
def O9 (n:Nat) (a:View) (b o:Nat) (u:cb):Prop:=∃r:jG,bR a b o (fH u r)/\iV n n a r u
structure YA (P:Program) (tN tA tP tU CH wR uw ea:TypeId) (e s p m:Array Field) (tI tT:TypeId):Prop where
 uI:P.underlying tI=some (.int .i64)
 uT:P.underlying tT=some .string
 cT:P.cellsOf tT=1
 uN:P.underlying tN=some (.struct e)
 rN:(nS P 0 e.toList&&Nat.beq (P.cellsOf tN) e.size)=true
 fN:e.map (·.type) = #[tI,tI,tI,tI,CH]
 YE:P.underlying CH=some (.slice tN)
 uA:P.underlying tA=some (.struct s)
 rA:(nS P 0 s.toList&&Nat.beq (P.cellsOf tA) s.size)=true
 fA:s.map (·.type) = #[tI,tI,tI,tI,CH,wR,wR]
 Yj:P.underlying wR=some (.slice tA)
 uP:P.underlying tP=some (.struct p)
 rP:(nS P 0 p.toList&&Nat.beq (P.cellsOf tP) p.size)=true
 fP:p.map (·.type) = #[tI,tI,wR]
 Ow:P.underlying uw=some (.slice tP)
 Ox:P.underlying ea=some (.slice tT)
 uU:P.underlying tU=some (.struct m)
 rU:(nS P 0 m.toList&&Nat.beq (P.cellsOf tU) m.size)=true
 fU:m.map (·.type) = #[tT,ea,tI,uw,wR]
end Go.Bw
end
section
namespace Go.Bw
open Go
structure bA where
 op:Int
 a:Int
 b:Int
structure aD where
 at_:Int
 kind:Int
 m:Int
structure Gs where
 code:List bA
 fix:List aD
abbrev Gk:=Gs->Gs
def ah (l:List bA) (g:Gs):Gs:={ g with code:=g.code++l }
def aT (i:bA) (kind m:Int) (g:Gs):Gs:=⟨g.code++[i],g.fix++[⟨(g.code.length:Int),kind,m⟩]⟩
def c7 (n:Nat) (g:Gs):Gs:={ g with code:=g.code.modify n λi=>{ i with a:=(g.code.length:Int) } }
def gI (ks:List Gk) (i:Nat):Gk:=(ks[i]?).getD id
def mK (ks:List Gk) (g:Gs):Gs:=ks.foldl (λg k=>k g) g
def pC (c d:Gk) (g:Gs):Gs:=
 let a:=c g
 let b:=ah [⟨22,0,0⟩] (d (aT ⟨12,0,0⟩ 1 0 a))
 c7 b.code.length (ah [⟨1,0,0⟩] (c7 a.code.length (aT ⟨11,0,0⟩ 1 0 b)))
def pD (c d:Gk) (g:Gs):Gs:=
 let a:=c g
 let b:=ah [⟨1,1,0⟩] (aT ⟨12,0,0⟩ 1 0 a)
 c7 b.code.length (ah [⟨22,0,0⟩] (d (c7 a.code.length (aT ⟨11,0,0⟩ 1 0 b))))
def la (op n m pl:Int) (ks:List Gk) (g:Gs):Gs:=
 if op=1 then ah [⟨1,n,0⟩] g
 else if op=2 then ah [⟨18,0,0⟩] g
 else if op=16 then ah [⟨2,pl,0⟩] g
 else if op=3 then aT ⟨4,pl,0⟩ 3 m g
 else if op=4 then ah [⟨7,0,0⟩] (aT ⟨6,pl,n⟩ 3 m (gI ks 0 g))
 else if op=5 then aT ⟨13,pl,0⟩ 2 m (mK ks g)
 else if op=7 then pC (gI ks 0) (gI ks 1) g
 else if op=8 then pD (gI ks 0) (gI ks 1) g
 else if op=6 then ah [⟨9,0,0⟩] (mK ks g)
 else ah [⟨10,op,0⟩] (mK ks g)
mutual
def aK:aA->Gs->Gs
 | .mk op n m pl args,g=>la op n m pl (e3 args) g
def e3:List aA->List Gk
 | []=>[]
 | x::r=>(λg=>aK x g)::e3 r
end
theorem pE (x:aA) (g:Gs):aK x g=la x.op x.n x.m x.pl (e3 x.args) g:=by cases x; rw [aK]; rfl
theorem im:∀l,e3 l=l.map aK
 | []=>by rw [e3]; rfl
 | x::r=>by rw [e3,im r]; rfl
def aR (l:List aA) (g:Gs):Gs:=l.foldl (λg x=>aK x g) g
theorem kk (l:List aA) (g:Gs):mK (e3 l) g=aR l g:=by rw [im]; unfold mK aR; rw [List.foldl_map]
theorem O' {l:List aA} {i:Nat} {x:aA} (h:l[i]? = some x) (g:Gs):aR (l.take (i+1)) g=aK x (aR (l.take i) g):=by
 unfold aR; rw [aZ,h]; simp
def qH (c body other:Gk) (d:Nat) (g:Gs):Gs:=
 let a:=c g
 let b:=body (aT ⟨12,0,0⟩ 1 0 a)
 if 0<d then c7 b.code.length (other (c7 a.code.length (aT ⟨11,0,0⟩ 1 0 b))) else c7 a.code.length b
def s_ (b body:Gk) (g:Gs):Gs:=
 let a:=b g
 c7 a.code.length (aT ⟨11,(g.code.length:Int),0⟩ 1 0 (body (ah [⟨16,0,0⟩] (aT ⟨12,0,0⟩ 1 0 a))))
def j6 (op n m pl:Int) (ks:List Gk) (body other:Gk) (a:Nat) (g:Gs):Gs:=
 if op=1 then (if m<0 then ah [⟨3,pl,0⟩] (gI ks 0 g) else aT ⟨5,pl,0⟩ 3 m (gI ks 0 g))
 else if op=2 then ah [⟨8,0,0⟩] (gI ks 1 (aT ⟨6,pl,n⟩ 3 m (gI ks 0 g)))
 else if op=3 then ah [⟨17,0,0⟩] (aT ⟨13,pl,0⟩ 2 m (mK ks g))
 else if op=4 then qH (gI ks 0) body other a g
 else if op=5 then s_ (gI ks 0) body g
 else if op=6 then ah [⟨15,0,0⟩] (gI ks 0 g)
 else if op=7 then ah [⟨19,0,0⟩] (gI ks 0 g)
 else g
mutual
def iX:di->Gs->Gs
 | .mk op n m pl args body other,g=>j6 op n m pl (e3 args) (λg=>au body g) (λg=>au other g) other.length g
def au:List di->Gs->Gs
 | [],g=>g
 | x::r,g=>au r (iX x g)
end
theorem qI (x:di) (g:Gs):iX x g=j6 x.op x.n x.m x.pl (e3 x.args) (λg=>au x.body g) (λg=>au x.other g) x.other.length g:=by cases x; rw [iX]; rfl
theorem Hp:∀(a b:List di) (g:Gs),au (a++b) g=au b (au a g)
 | [],b,g=>by rw [au]; rfl
 | x::r,b,g=>by rw [fL,au,Hp r b,au]
theorem O_ {l:List di} {i:Nat} {x:di} (h:l[i]? = some x) (g:Gs):au (l.take (i+1)) g=iX x (au (l.take i) g):=by
 rw [aZ,h]
 show au (l.take i++[x]) g=_
 rw [Hp,au,au]
def ia (params locals:Int) (body:List di) (g:Gs):Gs:=ah [⟨1,0,0⟩,⟨15,0,0⟩] (au body (ah [⟨14,params,locals⟩] g))
def dj:List hR->Gs->List Nat×Gs
 | [],g=>([],g)
 | p::r,g=>(g.code.length::(dj r (ia p.params p.locals p.body g)).1,(dj r (ia p.params p.locals p.body g)).2)
theorem CI:∀(a:List hR) (p:hR) (g:Gs),dj (a++[p]) g=((dj a g).1++[(dj a g).2.code.length],ia p.params p.locals p.body (dj a g).2)
 | [],p,g=>rfl
 | x::r,p,g=>by rw [fL,dj,CI r p]; rfl
structure oL where
 nm:List UInt8
 aq:List (List UInt8)
 data:Int
 g:Gs
 aw:List Nat
 main:Nat
def wT:oL:=⟨[],[],0,⟨[],[]⟩,[],0⟩
def oM (u:cb):Bool:=jI u (List.replicate u.aq.length k')
def fV (u:cb):oL:=
 let r:=dj u.parts ⟨[],[]⟩
 ⟨u.nm,u.aq,u.data,ia 0 0 u.main r.2,r.1,r.2.code.length⟩
def fJ (u:cb):oL×Int:=if oM u=false then (wT,1) else if 2048<(fV u).g.code.length then (wT,2) else (fV u,0)
structure GL (c:Nat) (g g':Gs):Prop where
 lo:g.code.length<=g'.code.length
 hi:g'.code.length<=g.code.length+c
 CJ:g.fix.length<=g'.fix.length
 hd:g'.fix.length<=g.fix.length+c
theorem GL.refl (c:Nat) (g:Gs):GL c g g:=⟨dp _,A5 _ _,dp _,A5 _ _⟩
theorem GL.trans {a b:Nat} {g c d:Gs} (h:GL a g c) (k:GL b c d):GL (a+b) g d:=⟨kZ h.lo k.lo,by have:=h.hi; have:=k.hi; omega,kZ h.CJ k.CJ,by have:=h.hd; have:=k.hd; omega⟩
theorem GL.mono {a b:Nat} {g c:Gs} (h:GL a g c) (d:a<=b):GL b g c:=⟨h.lo,by have:=h.hi; omega,h.CJ,by have:=h.hd; omega⟩
theorem kK (l:List bA) (g:Gs):GL l.length g (ah l g):=⟨by simp [ah],by simp [ah],dp _,A5 _ _⟩
theorem mc (i:bA) (k m:Int) (g:Gs):GL 1 g (aT i k m g):=⟨by simp [aT],by simp [aT],by simp [aT],by simp [aT]⟩
theorem rV (n:Nat) (g:Gs):GL 0 g (c7 n g):=⟨by simp [c7],by simp [c7],dp _,dp _⟩
theorem pk {ks:List Gk} {cs:List Nat} (h:ks.length=cs.length) (d:∀(i:Nat) k c,ks[i]? = some k->cs[i]? = some c->∀g,GL c g (k g)):∀g,GL cs.sum g (mK ks g):=by
 induction ks generalizing cs with
 | nil=>intro g; cases cs with | nil=>exact .refl _ _ | cons c r=>cases h
 | cons k r e=>
   intro g
   cases cs with
   | nil=>cases h
   | cons c f=>
     have j:=d 0 k c rfl rfl g;have l:=e (cs:=f) (by simpa using h) (λi m n a b=>d (i+1) m n (by simpa using a) (by simpa using b)) (k g);exact j.trans l
theorem y_ {ks:List Gk} {cs:List Nat} (h:ks.length=cs.length) (b:∀(i:Nat) k c,ks[i]? = some k->cs[i]? = some c->∀g,GL c g (k g)) (i:Nat):∀g,GL ((cs[i]?).getD 0) g (gI ks i g):=λg=>by
 unfold gI
 cases hi:ks[i]? with
 | none=>exact .refl _ _
 | some k=>
   have d:=(cf.1 hi).1;obtain ⟨c,a⟩:∃c,cs[i]? = some c:=⟨_,dL (by omega)⟩;rw [a];exact b i k c hi a g
theorem Hq:∀(cs:List Nat),(cs[0]?).getD 0+(cs[1]?).getD 0<=cs.sum
 | []=>by simp
 | [a]=>by simp
 | a::b::r=>by simp only [kf,lY,mY,List.sum_cons]; omega
mutual
theorem lF:∀(x:aA) (g:Gs),GL (8*eA x) g (aK x g)
 | .mk op n m pl args,g=>by
   rw [aK];have b:=za args
   have c:(e3 args).length=(args.map λx=>8*eA x).length:=by rw [im]; simp
   have f:(args.map λx=>8*eA x).sum=8*gD args:=zb args;have a:=pk c b;have d:=y_ c b 0;have e:=y_ c b 1;have h:=Hq (args.map λx=>8*eA x);rw [f] at a h
   have i:eA (.mk op n m pl args)=1+gD args:=by rw [eA]
   rw [i];unfold la
   split
   · exact (kK _ g).mono (by simp only [du,eT]; omega)
   · split
     · exact (kK _ g).mono (by simp only [du,eT]; omega)
     · split
       · exact (kK _ g).mono (by simp only [du,eT]; omega)
       · split
         · exact (mc _ _ _ g).mono ae
         · split
           · exact (((d g).trans (mc _ _ _ _)).trans (kK _ _)).mono (by simp only [du,eT]; omega)
           · split
             · exact ((a g).trans (mc _ _ _ _)).mono ae
             · split
               · unfold pC
                 exact (((((((d g).trans (mc _ _ _ _)).trans (e _)).trans (kK _ _)).trans (mc _ _ _ _)).trans (rV _ _)).trans (kK _ _) |>.trans (rV _ _)).mono (by simp only [du,eT]; omega)
               · split
                 · unfold pD
                   exact (((((((d g).trans (mc _ _ _ _)).trans (kK _ _)).trans (mc _ _ _ _)).trans (rV _ _)).trans (e _)).trans (kK _ _) |>.trans (rV _ _)).mono (by simp only [du,eT]; omega)
                 · split
                   · exact ((a g).trans (kK _ _)).mono (by simp only [du,eT]; omega)
                   · exact ((a g).trans (kK _ _)).mono (by simp only [du,eT]; omega)
theorem za:∀(l:List aA) (i:Nat) k c,(e3 l)[i]? = some k->(l.map λx=>8*eA x)[i]? = some c->∀g,GL c g (k g)
 | [],i,k,c,h,_,g=>by rw [e3] at h; simp at h
 | x::r,0,k,c,h,a,g=>by
   rw [e3] at h;simp at h a;subst h a;exact lF x g
 | x::r,i+1,k,c,h,a,g=>by
   rw [e3] at h;exact za r i k c (by simpa using h) (by simpa using a) g
theorem zb:∀(l:List aA),(l.map λx=>8*eA x).sum=8*gD l
 | []=>by simp [gD]
 | x::r=>by rw [jT,List.sum_cons,zb r,gD]; omega
end
mutual
theorem Pa:∀(x:di) (g:Gs),GL (8*nn x) g (iX x g)
 | .mk op n m pl args body other,g=>by
   rw [iX];have b:=za args
   have c:(e3 args).length=(args.map λx=>8*eA x).length:=by rw [im]; simp
   have e:=pk c b;have a:=y_ c b 0;have f:=y_ c b 1;have h:=Hq (args.map λx=>8*eA x);rw [zb] at e h;have d:=qJ body;have i:=qJ other
   have j:nn (.mk op n m pl args body other)=1+gD args+fb body+fb other:=by rw [nn]
   rw [j];unfold j6
   split
   · split
     · exact ((a g).trans (kK _ _)).mono (by simp only [du,eT]; omega)
     · exact ((a g).trans (mc _ _ _ _)).mono ae
   · split
     · exact ((((a g).trans (mc _ _ _ _)).trans (f _)).trans (kK _ _)).mono (by simp only [du,eT]; omega)
     · split
       · exact (((e g).trans (mc _ _ _ _)).trans (kK _ _)).mono (by simp only [du,eT]; omega)
       · split
         · unfold qH
           dsimp only
           split
           · exact ((((((a g).trans (mc _ _ _ _)).trans (d _)).trans (mc _ _ _ _)).trans (rV _ _)).trans (i _) |>.trans (rV _ _)).mono ae
           · exact ((((a g).trans (mc _ _ _ _)).trans (d _)).trans (rV _ _)).mono ae
         · split
           · unfold s_
             exact ((((((a g).trans (mc _ _ _ _)).trans (kK _ _)).trans (d _)).trans (mc _ _ _ _)).trans (rV _ _)).mono (by simp only [du,eT]; omega)
           · split
             · exact ((a g).trans (kK _ _)).mono (by simp only [du,eT]; omega)
             · split
               · exact ((a g).trans (kK _ _)).mono (by simp only [du,eT]; omega)
               · exact .refl _ _
theorem qJ:∀(l:List di) (g:Gs),GL (8*fb l) g (au l g)
 | [],g=>by rw [au]; exact .refl _ _
 | x::r,g=>by
   rw [au,fb];exact ((Pa x g).trans (qJ r _)).mono ae
end
theorem Pb (pa lo:Int) (b:List di) (g:Gs):GL (8*(1+fb b)) g (ia pa lo b g):=by
 unfold ia;exact (((kK _ g).trans (qJ b _)).trans (kK _ _)).mono (by simp only [du,eT]; omega)
theorem zc:∀(l:List hR) (g:Gs),GL (8*ko l) g (dj l g).2/\(dj l g).1.length=l.length
 | [],g=>⟨.refl _ _,rfl⟩
 | p::r,g=>by
   have a:=zc r (ia p.params p.locals p.body g);refine ⟨?_,by simp [dj,a.2]⟩;rw [dj,ko];exact ((Pb p.params p.locals p.body g).trans a.1).mono (by unfold uH; omega)
section
variable {P:Program} {ops:Array Oper} {Q:Exit->Act->World->Prop} {n:Nat} {ds:List Deferred} {l:List (Nat×Value)} {w0:World} {F:List Nat} {L:List aW} {Vs:List View} {rest:List Oper}
 {ty:TypeId} {pos:String} {af:Array Edge} {g:Option (Nat×Bool)} {d:Nat}
theorem WL.rW {ι:Type} {f:FuncId} {c:Operand} {k:Array Value} {args:Array Operand} {ts:Array TypeId} {vs:List Value} (a L2:List aW) (m:dN ops l g) (o:Nat.blt d n=true) (p:Enters P f) (q:bn l c=some (.func (.func f) #[] k)) (r:iu l args.toList=some vs) (s:L=a++L2)
   (v:ι->Value) (b:ι->List aW) (R:ι->Prop) (b3:List View) (t:∀u ∈ b3,u ∈ Vs)
   (x:∀w,Ws w (a.flatMap aW.ids) a b3 w->Calls P f (vs.toArray++k) w λe w'=>∃i,e = .returned (v i)/\R i/\Ws w (a.flatMap aW.ids) (b i) b3 w')
   (y:∀i,R i->WL P ops Q n ds ((d,v i)::l) (Ws w0 F (b i++L2) Vs) rest) :
   WL P ops Q n ds l (Ws w0 F L Vs) (⟨some d,.call ⟨.value c,args,ts⟩,ty,pos,af,g⟩::rest):=
 WL.Br (κ:=Empty) a L2 m o p q r s v b R (λ_=>[]) (λ_=>[]) (λ_=>False) b3 t (λw z=>(x w z).mono λe w' h=>.inl h) (λj=>nomatch j) y
end
def bA.cells (x:bA):List Value:=[.int .i64 x.op,.int .i64 x.a,.int .i64 x.b]
theorem bA.ck (x:bA):x.cells.length=3:=rfl
theorem bA.one (x:bA):x.cells.all (·.oneCell')=true:=rfl
def gm (a:View) (b o:Nat) (x:bA):Prop:=bR a b o x.cells
def aD.cells (x:aD):List Value:=[.int .i64 x.at_,.int .i64 x.kind,.int .i64 x.m]
theorem aD.ck (x:aD):x.cells.length=3:=rfl
theorem aD.one (x:aD):x.cells.all (·.oneCell')=true:=rfl
def Hr (a:View) (b o:Nat) (x:aD):Prop:=bR a b o x.cells
structure hG where
 nm:List UInt8
 v1:Value
 data:Int
 v5:Value
 v6:Value
structure b9 where
 g:Gs
 ca:Option Addr×Nat
 fa:Option Addr×Nat
def pF (T:TypeId) (a:hG) (t:b9):Obj:=.cells #[st a.nm,a.v1,.int .i64 a.data,.slice t.ca.1 t.g.code.length t.ca.2,.slice t.fa.1 t.g.fix.length t.fa.2,a.v5,a.v6] T (0,0)
abbrev bW (T a b:TypeId) (c:Nat) (d:hG) (t:b9):List aW:=[ao c (pF T d t),bS a 3 bA.cells t.ca.1 t.ca.2 t.g.code,bS b 3 aD.cells t.fa.1 t.fa.2 t.g.fix]
theorem mL {l:List aA} {i:Nat} {y:aA} (h:l[i]? = some y):gI (e3 l) i=aK y:=by
 unfold gI; rw [im,eZ,h]; rfl
theorem uJ:∀{l:List aA} {i:Nat} {x:aA},l[i]? = some x->gD (l.take (i+1))=gD (l.take i)+eA x/\gD (l.take (i+1))<=gD l
 | [],_,_,h=>by simp at h
 | y::r,0,x,h=>by
   simp at h; subst h;simp [gD]
 | y::r,i+1,x,h=>by
   obtain ⟨a,b⟩:=uJ (l:=r) (i:=i) (by simpa using h);simp only [rn,gD];omega
theorem Hs:∀{l:List di} {i:Nat} {x:di},l[i]? = some x->fb (l.take (i+1))=fb (l.take i)+nn x/\fb (l.take (i+1))<=fb l
 | [],_,_,h=>by simp at h
 | y::r,0,x,h=>by
   simp at h; subst h;simp [fb]
 | y::r,i+1,x,h=>by
   obtain ⟨a,b⟩:=Hs (l:=r) (i:=i) (by simpa using h);simp only [rn,fb];omega
theorem zd (l:List aA) (g:Gs):GL (8*gD l) g (aR l g):=by
 have a:(e3 l).length=(l.map λx=>8*eA x).length:=by rw [im]; simp
 have h:=pk a (za l) g;rw [kk,zb] at h;exact h
theorem Pc (x:aA):eA x=1+gD x.args:=by cases x; rw [eA]; rfl
theorem Pd (x:di):nn x=1+gD x.args+fb x.body+fb x.other:=by cases x; rw [nn]; rfl
theorem Pe {l:List bA} {n:Nat} {x:bA} (f:bA->bA) (h:l[n]? = some x):l.modify n f=l.set n (f x):=by
 apply rp;intro i;rw [rq,x8]
 by_cases e:n=i
 · subst e
   obtain ⟨a,b⟩:=cf.1 h;simp [a,b]
 · simp [e]
theorem Pf {n:Nat} {g:Gs} {x:bA} (h:g.code[n]? = some x):c7 n g = { g with code:=g.code.set n ⟨x.op,(g.code.length:Int),x.b⟩ }:=by
 unfold c7; rw [Pe _ h]
theorem Pg {kn:List cv} {aB op n m pl:Int} {len:Nat} (h:node1 kn aB op n m pl len=true):(op=4\/op=6->len=1)/\(7<=op/\op<=15->len=2)/\1<=op/\op<=16:=by
 unfold node1 at h
 split at h
 · subst_vars; omega
 · split at h
   · subst_vars; omega
   · split at h
     · subst_vars; simp at h; omega
     · split at h
       · subst_vars; omega
       · split at h
         · subst_vars; omega
         · split at h
           · subst_vars; omega
           · split at h
             · subst_vars; simp at h; omega
             · split at h
               · simp at h; omega
               · cases h
theorem Ph {kn:List cv} {aB op n m pl:Int} {na a b:Nat} (h:fI kn aB op n m pl na a b=true):(op=1\/op=4\/op=5\/op=6\/op=7->na=1)/\(op=2->na=2)/\1<=op/\op<=7:=by
 unfold fI at h
 split at h
 · subst_vars; simp at h; omega
 · split at h
   · subst_vars; simp at h; omega
   · split at h
     · subst_vars; omega
     · split at h
       · subst_vars; simp at h; omega
       · split at h
         · subst_vars; simp at h; omega
         · split at h
           · simp at h; omega
           · cases h
def uK (x:aA):Prop:=∃kn aB d,kl kn aB x d=true
def uL (l:List aA):Prop:=∃kn aB d,fT kn aB l d=true
def ze (x:di):Prop:=∃kn aB d,j3 kn aB x d=true
def pG (l:List di):Prop:=∃kn aB d,bb kn aB l d=true
theorem uL.at_ {l:List aA} (h:uL l) {i:Nat} {x:aA} (a:l[i]? = some x):uK x:=by
 obtain ⟨kn,aB,d,h⟩:=h;rw [y7] at h;exact ⟨kn,aB,d,fG.1 h x (ax a)⟩
theorem uK.args {x:aA} (h:uK x):uL x.args/\(x.op=4\/x.op=6->x.args.length=1)/\(7<=x.op/\x.op<=15->x.args.length=2)/\1<=x.op/\x.op<=16:=by
 obtain ⟨kn,aB,d,h⟩:=h;rw [Cj] at h;obtain ⟨_,h⟩:=d'.1 h;obtain ⟨a,b⟩:=d'.1 h;exact ⟨⟨kn,aB,_,b⟩,Pg a⟩
theorem pG.at_ {l:List di} (h:pG l) {i:Nat} {x:di} (a:l[i]? = some x):ze x:=by
 obtain ⟨kn,aB,d,h⟩:=h;rw [oO] at h;exact ⟨kn,aB,d,fG.1 h x (ax a)⟩
theorem ze.parts {x:di} (h:ze x):uL x.args/\(x.op=4\/x.op=5->pG x.body)/\pG x.other/\(x.op=1\/x.op=4\/x.op=5\/x.op=6\/x.op=7->x.args.length=1)/\(x.op=2->x.args.length=2)/\1<=x.op/\x.op<=7:=by
 obtain ⟨kn,aB,d,h⟩:=h;rw [oN] at h;obtain ⟨e,h⟩:=d'.1 h;obtain ⟨f,h⟩:=d'.1 h;obtain ⟨b,c⟩:=d'.1 h;refine ⟨⟨kn,aB,_,f⟩,λg=>?_,?_,Ph e⟩
 · have:oG x.op=true:=by unfold oG; simpa using g
   rw [this] at b
   have a:bf kn aB x.body (d+1)=true:=by simpa using b
   unfold bf at a;exact ⟨kn,aB,d+1,(d'.1 (d'.1 a).2).2⟩
 · by_cases i:0<x.other.length
   · rw [decide_eq_true i] at c
     have a:bf kn aB x.other (d+1)=true:=by simpa using c
     unfold bf at a;exact ⟨kn,aB,d+1,(d'.1 (d'.1 a).2).2⟩
   · have:x.other=[]:=ou ae
     rw [this];exact ⟨kn,aB,d,by rw [bb]⟩
theorem Pj {α:Type} {f:α->List Value} {x:α} {zs:Array Value} (h:zs.toList=f x) (j:0<(f x).length) (k:Nat):madeCells zs (k*(f x).length)=((List.replicate k x).flatMap f).toArray:=by
 apply qk;simp only [madeCells]
 have l:zs.size=(f x).length:=by rw [<-h]; simp
 have c:((List.replicate k x).flatMap f).length=k*(f x).length:=by
   induction k with
   | zero=>simp
   | succ k b=>rw [Fk,gd,dG,b,A2]; omega
 apply List.ext_getElem
 · simp [c]
 · intro i n d
   simp
   have key:∀(k i:Nat) (hi:i<k*(f x).length),((List.replicate k x).flatMap f)[i]? = (f x)[i % (f x).length]?:=by
     intro k
     induction k with
     | zero=>intro i hi; omega
     | succ k b=>
       intro i hi;rw [Fk,gd,List.getElem?_append]
       split
       · rename_i m; rw [Nat.mod_eq_of_lt m]
       · rename_i o
         rw [A2] at hi;rw [b (i-(f x).length) ae,<-Nat.mod_eq_sub_mod ae]
   have hi:i<k*(f x).length:=by rw [<-c]; exact d
   have a:=key k i hi;have e:=AY i j;rw [dL d,dL e] at a
   injection a with a
   rw [a]
   have g:zs[i % zs.size]? = (f x)[i % (f x).length]?:=by rw [l,<-h]; simp
   rw [dL e] at g;rw [getElem!_def,g]
theorem cY:(∀i k m g,(aT i k m g).code.length=g.code.length+1)/\(∀i k m g,(aT i k m g).fix.length=g.fix.length+1)/\(∀l g,(ah l g).code.length=g.code.length+l.length)/\(∀l g,(ah l g).fix.length=g.fix.length)/\(∀n g,(c7 n g).code.length=g.code.length)/\(∀n g,(c7 n g).fix.length=g.fix.length)/\(∀(x:bA) l,(x::l).length=l.length+1)/\([]:List bA).length=0:=by
 refine ⟨λ_ _ _ _=>?_,λ_ _ _ _=>?_,λ_ _=>?_,λ_ _=>rfl,λ_ _=>?_,λ_ _=>rfl,λ_ _=>rfl,O⟩<;>simp [aT,ah,c7]
def n0 (x:Nat):List Value:=[.int .i64 (x:Int)]
theorem CL (x:Nat):(n0 x).length=1:=rfl
def pH (a:View) (b o:Nat) (x:Nat):Prop:=bR a b o (n0 x)
structure iZ where
 s1:Option Addr×Nat
 s2:Option Addr×Nat
 s3:Option Addr×Nat
 s4:Option Addr×Nat
def CM (o:oL) (q:iZ):List Value:=[st o.nm,.slice q.s1.1 o.aq.length q.s1.2,.int .i64 o.data,.slice q.s2.1 o.g.code.length q.s2.2,.slice q.s3.1 o.g.fix.length q.s3.2,.slice q.s4.1 o.aw.length q.s4.2,.int .i64 (o.main:Int)]
structure CN (H:View) (q:iZ) (o:oL):Prop where
 aq:Sl rdStr 1 H q.s1.1 q.s1.2 o.aq
 code:Sl gm 3 H q.s2.1 q.s2.2 o.g.code
 fix:Sl Hr 3 H q.s3.1 q.s3.2 o.g.fix
 aw:Sl pH 1 H q.s4.1 q.s4.2 o.aw
def CO:iZ:=⟨(none,0),(none,0),(none,0),(none,0)⟩
theorem Ht (a:View):CN a CO wT:=⟨Sl.nil,Sl.nil,Sl.nil,Sl.nil⟩
theorem Hu:∀{l:List hR} {i:Nat} {x:hR},l[i]? = some x->ko (l.take (i+1))=ko (l.take i)+uH x/\ko (l.take (i+1))<=ko l
 | [],_,_,h=>by simp at h
 | y::r,0,x,h=>by
   simp at h; subst h;simp [ko]
 | y::r,i+1,x,h=>by
   obtain ⟨a,b⟩:=Hu (l:=r) (i:=i) (by simpa using h);simp only [rn,ko];omega
theorem MK {l:List hR} {i:Nat} {x:hR} (h:l[i]? = some x) (g:Gs):dj (l.take (i+1)) g=((dj (l.take i) g).1++[(dj (l.take i) g).2.code.length],ia x.params x.locals x.body (dj (l.take i) g).2):=by
 rw [aZ,h];exact CI _ _ _
theorem Hv {kn:List cv} {aB:Int} {l:List di} (h:bf kn aB l 1=true):pG l:=by
 unfold bf at h;exact ⟨kn,aB,1,(d'.1 (d'.1 h).2).2⟩
theorem Hw:∀l:List hR,l.length<=ko l
 | []=>cq _
 | s::r=>by have:=Hw r; simp only [du,ko,uH]; omega
theorem MT (u:cb):qG u=1+u.nm.length+wN u.aq+ko u.parts+fb u.main:=rfl
theorem Pm {u:cb} (h:oM u=true):(∀p ∈ u.parts,pG p.body)/\pG u.main:=by
 obtain ⟨a,b,_,_⟩:=wQ h;exact ⟨λp c=>Hv (y' (a p c)).2.2.2.2,Hv b⟩
end Go.Bw
end
section
namespace Go.Bw
open Go
def Rz.all {b α:Type} (r:Rz b α) (p:α->b->Prop) (q:Wm->Prop):Prop:=match r with
 | .ok a s=>p a s
 | .ov _ w=>q w
theorem Rz.all_bind {b α β:Type} {r:Rz b α} {f:α->b->Rz b β} {p:β->b->Prop} {q:Wm->Prop} (h:r.all (λa s=>(f a s).all p q) q):(r.bind f).all p q:=by
 cases r with
 | ok a s=>exact h
 | ov e w=>exact h
theorem Rz.pI {b α:Type} {r:Rz b α} {p c:α->b->Prop} {q d:Wm->Prop} (h:r.all p q) (f:∀a s,p a s->c a s) (g:∀w,q w->d w):r.all c d:=by
 cases r with
 | ok a s=>exact f _ _ h
 | ov e w=>exact g _ h
theorem Rz.Hx {α:Type} {r:Rz Wm α} {f:Fm} {p:α->Fm->Prop} {q:Wm->Prop} (h:r.all (λa w=>p a { f with w:=w }) q):(Rz.fr f r).all p q:=by
 cases r with
 | ok a s=>exact h
 | ov e w=>exact h
structure Kw (P:Env) (w w':Wm):Prop where
 bH:w.bH<=w'.bH
 k_:w.bH<=P.k_->w'.bH<=P.k_
 len:w'.data.length=w.data.length
 out:w.out.length<=200->w'.out.length<=200
 pre:w.out <+: w'.out
structure Kp (P:Env) (w w':Wm):Prop extends Kw P w w' where
 calls:w'.calls=w.calls
section
variable {P:Env} {a b c:Wm}
theorem Kw.refl (P:Env) (a:Wm):Kw P a a:=⟨dp _,id,rfl,id,List.prefix_rfl⟩
theorem Kw.trans (h:Kw P a b) (k:Kw P b c):Kw P a c:=⟨kZ h.bH k.bH,λx=>k.k_ (h.k_ x),k.len.trans h.len,λx=>k.out (h.out x),h.pre.trans k.pre⟩
theorem Kp.refl (P:Env) (a:Wm):Kp P a a:=⟨Kw.refl P a,rfl⟩
theorem Kp.trans (h:Kp P a b) (k:Kp P b c):Kp P a c:=⟨h.toKw.trans k.toKw,k.calls.trans h.calls⟩
abbrev RK {α:Type} (P:Env) (w:Wm) (r:Rz Wm α):Prop:=r.all (λ_ w'=>Kp P w w') (Kw P w)
theorem RK.ok {α:Type} (v:α) (w:Wm):RK P w (.ok v w):=Kp.refl P w
theorem RK.ov {α:Type} (e:Int) (w:Wm):RK (α:=α) P w (.ov e w):=Kw.refl P w
theorem RK.bind {α β:Type} {w:Wm} {r:Rz Wm α} {f:α->Wm->Rz Wm β} (h:RK P w r) (k:∀v w',RK P w' (f v w')):RK P w (r.bind f):=
 Rz.all_bind (Rz.pI h (λv w' b=>Rz.pI (k v w') (λ_ _ a=>b.trans a) λ_ a=>b.toKw.trans a) λ_ h=>h)
abbrev EK (P:Env) (k:Ev):Prop:=∀loc w,RK P w (k loc w)
abbrev CK (P:Env) (call:Cl):Prop:=∀u loc body w,RK P w (call u loc body w)
abbrev FK {α:Type} (P:Env) (f:Fm) (r:Rz Fm α):Prop:=r.all (λ_ a=>Kp P f.w a.w/\a.loc.length=f.loc.length) (Kw P f.w)
theorem FK.ok {α:Type} (v:α) (f:Fm):FK P f (.ok v f):=⟨Kp.refl P f.w,rfl⟩
theorem FK.bind {α β:Type} {f:Fm} {r:Rz Fm α} {g:α->Fm->Rz Fm β} (h:FK P f r) (k:∀v a,FK P a (g v a)):FK P f (r.bind g):=
 Rz.all_bind (Rz.pI h (λv a c=>Rz.pI (k v a) (λ_ _ b=>⟨c.1.trans b.1,b.2.trans c.2⟩) λ_ b=>c.1.toKw.trans b) λ_ h=>h)
theorem FK.fr {α:Type} {f:Fm} {r:Rz Wm α} (h:RK P f.w r):FK P f (Rz.fr f r):=Rz.Hx (Rz.pI h (λ_ _ h=>⟨h,rfl⟩) λ_ h=>h)
end
end Go.Bw
end
section
namespace Go.Bw
open Go
theorem Hz {kn:List cv} {aB op n m pl:Int} {len:Nat} (h:node1 kn aB op n m pl len=true):(op=3->iB kn m pl 1=true)/\(op=4->(1<=n/\n<=32)/\iB kn m pl n=true)/\(op=5->jq kn m pl len=true)/\(op=16->0<=pl/\pl<aB):=by
 refine ⟨λe=>?_,λe=>?_,λe=>?_,λe=>?_⟩
 · subst e; rw [node1,if_neg aF,if_pos rfl] at h; exact (d'.1 h).2
 · subst e; rw [node1,if_neg aF,if_neg aF,if_pos rfl] at h
   obtain ⟨a,b⟩:=d'.1 h;exact ⟨by simpa [oF] using (d'.1 a).1,b⟩
 · subst e; rw [node1,if_neg aF,if_neg aF,if_neg aF,if_pos rfl] at h; exact (d'.1 h).2
 · subst e; rw [node1,if_neg aF,if_neg aF,if_neg aF,if_neg aF,if_pos rfl] at h
   simpa [qD] using (d'.1 h).2
theorem Po {kn:List cv} {m pl n:Int} (h:iB kn m pl n=true):0<=m:=by
 cases a:lC kn m pl with
 | true=>rw [y5 n a] at h; cases h
 | false=>obtain ⟨⟨b,e,_⟩,_⟩:=y6 a; omega
theorem HA {kn:List cv} {aB op n m pl:Int} {na f g:Nat} (h:fI kn aB op n m pl na f g=true):(op=1->(m<0->0<=pl/\pl<aB)/\(¬m<0->iB kn m pl 1=true))/\(op=2->(1<=n/\n<=32)/\iB kn m pl n=true)/\(op=3->jq kn m pl na=true):=by
 refine ⟨λe=>?_,λe=>?_,λe=>?_⟩
 · subst e; rw [fI,if_pos rfl] at h
   have b:=(d'.1 h).2
   rcases A6.1 b with a | a
   · obtain ⟨c,i⟩:=d'.1 a
     have c:m = -1:=by simpa using c
     exact ⟨λ_=>by simpa [qD] using i,λd=>absurd ae d⟩
   · have:=Po a
     exact ⟨λd=>absurd this ae,λ_=>a⟩
 · subst e; rw [fI,if_neg aF,if_pos rfl] at h
   obtain ⟨j,b⟩:=d'.1 h;exact ⟨by simpa [oF] using (d'.1 j).2,b⟩
 · subst e; rw [fI,if_neg aF,if_neg aF,if_pos rfl] at h; exact (d'.1 h).2
theorem HB {b α β:Type} {r:Rz b α} {f:α->b->Rz b β} {a:α} {s:b} (h:r = .ok a s):r.bind f=f a s:=by rw [h]; rfl
theorem CP {a α β:Type} {r:Rz a α} {f:α->a->Rz a β} {e:Int} {w:Wm} (h:r = .ov e w):r.bind f = .ov e w:=by rw [h]; rfl
theorem Pp {α:Type} {r:Rz Wm α} {f:Fm} {e:Int} {w:Wm} (h:r = .ov e w):Rz.fr f r = .ov e w:=by rw [h]; rfl
theorem HC {kn:List cv} {aB:Int} {x:aA} {d:Nat} (h:kl kn aB x d=true):node1 kn aB x.op x.n x.m x.pl x.args.length=true/\fT kn aB x.args (d+1)=true:=by
 rw [Cj] at h;exact d'.1 (d'.1 h).2
theorem ix {kn:List cv} {aB:Int} {l:List di} {d:Nat} (h:bf kn aB l d=true):bb kn aB l d=true:=by
 unfold bf at h; exact (d'.1 (d'.1 h).2).2
theorem HD {kn:List cv} {aB:Int} {x:di} {d:Nat} (h:j3 kn aB x d=true):fI kn aB x.op x.n x.m x.pl x.args.length x.body.length x.other.length=true/\fT kn aB x.args 1=true/\(x.op=4\/x.op=5->bb kn aB x.body (d+1)=true)/\bb kn aB x.other (d+1)=true:=by
 rw [oN] at h;obtain ⟨f,b⟩:=d'.1 h;obtain ⟨b,a⟩:=d'.1 b;obtain ⟨a,c⟩:=d'.1 a;refine ⟨f,b,λe=>?_,?_⟩
 · rw [show oG x.op=true from by unfold oG; rcases e with e | e<;>rw [e]<;>decide] at a
   exact ix (by simpa using a)
 · cases g:x.other with
   | nil=>rw [bb]
   | cons y r=>rw [g] at c; exact ix (by simpa using c)
end Go.Bw
end
section
namespace Go.Bw
open Go
theorem HE {l:List (List UInt8)} {x:List UInt8} {n:Nat} (h:x ∉ l) (a:l.length=n):eJ x (.int .i64 (n:Int)) (gH l 0) n=gH (l++[x]) 0/\hz x (gH l 0) n=n+1:=by
 subst a
 have b:cK x (gH l 0) 0=none:=by
   have:=y8 x l 0 0;rw [rQ.2 h] at this
   simpa using this
 unfold eJ hz;rw [b,Cv];simp
theorem Pq {ns:List (List UInt8)} {i:Nat} {x:List UInt8} (c:ns.Nodup) (b:ns[i]? = some x):x ∉ ns.take i:=λd=>by
 obtain ⟨j,a⟩:=jA d;rw [jy] at a
 split at a
 · rename_i e
   have hi:=(cf.1 b).1;have:=(ru hi c).1 (b.trans a.symm);omega
 · cases a
abbrev XI:=List Nat×(Option Addr×Nat)
def XI.cells (e:XI):List Value:=[.slice e.2.1 e.1.length e.2.2]
theorem XI.ck (e:XI):(XI.cells e).length=1:=rfl
structure KW where
 l:Option Addr×Nat
 u:Option Addr×Nat
 b:Option Addr×Nat
structure Ps where
 w:Wm
 i:Option Addr×Nat
 o:Option Addr×Nat
 d:Option Addr×Nat
def Pt (a:View) (b o:Nat) (x:List Nat):Prop:=∃r:Option Addr×Nat,bR a b o [.slice r.1 x.length r.2]/\Sl pH 1 a r.1 r.2 x
structure YF (H:View) (P:Env) (D C:Nat) (s:Ps):Prop where
 qF:Sl qC 1 H s.i.1 s.i.2 s.w.qF
 out:s.w.out.length<=200
 tk:s.w.bH<=P.k_
 YG:s.w.data.length=D
 cl:s.w.calls=C
structure Yq (H:View) (n:Nat) (K:KW) (l:List cb) (k_:Nat):Prop where
 ok:O8 l
 k_:k_<=2000
 Yr:Sl (O9 n) 5 H K.l.1 K.l.2 l
 aq:Sl Pt 1 H K.u.1 K.u.2 (O7 l)
 wO:Sl pH 1 H K.b.1 K.b.2 (Hn l 0)
theorem XI.one (e:XI):(XI.cells e).all (·.oneCell')=true:=rfl
def CQ (J:View) (e:XI):Prop:=Sl pH 1 J e.2.1 e.2.2 e.1
theorem Pv {a N:View} (hv:bF a N) (b o:Nat) (x:Nat) (h:pH a b o x):pH N b o x:=bR.mono hv h
theorem CQ.mv {A B:View} {e:XI} (hv:bF A B) (h:CQ A e):CQ B e:=Sl.imp (λb o x h=>Pv hv b o x h) h
structure Ys where
 i:Nat
 es:List XI
 ua:Option Addr×Nat
 ba:Option Addr×Nat
 J:View
end Go.Bw
end
section
namespace Go.Bw
open Go
def Sm {b α:Type} (g:b->b->Prop) (h:Wm->Wm->Prop) (X:Prop) (o:b->List Int) (i c:Rz b α):Prop:=match i with
 | .ok a s1=>∃s2,c = .ok a s2/\g s1 s2
 | .ov e d=>(∃f,c = .ov e f/\h d f)\/(X/\e=3/\c.all (λ_ s=>d.out <+: o s) (λw=>d.out <+: w.out))
def HF (w:Wm):Rz Wm Int:=match w.qF with | []=>.ok 0 w | x::r=>.ok x { w with qF:=r }
structure Pw (P1 P2:Env) (E G:Wm->Wm->Prop) (X:Prop):Prop where
 l:P1.l=P2.l
 aq:P1.aq=P2.aq
 wO:P1.wO=P2.wO
 eg:∀{a b},E a b->G a b
 data:∀{a b},E a b->a.data=b.data
 out:∀{a b},E a b->a.out=b.out
 calls:∀{a b},E a b->a.calls=b.calls
 tk:∀{a b},E a b->a.bH=b.bH/\a.bH<=P1.k_/\P1.k_<=P2.k_
 tick:∀{a b},E a b->Sm E G X (·.out) (Hl P1 a) (Hl P2 b)
 read:∀{a b},E a b->Sm E G X (·.out) (HF a) (HF b)
 Yu:∀{a b} d,E a b->E { a with data:=d } { b with data:=d }
 Yv:∀{a b} d,E a b->E { a with out:=d } { b with out:=d }
 Yw:∀{a b} d,E a b->E { a with calls:=d } { b with calls:=d }
section
variable {P1 P2:Env} {E G:Wm->Wm->Prop} {X:Prop}
abbrev SW {α:Type} (a b:Wm->Wm->Prop) (X:Prop) (c d:Rz Wm α):Prop:=Sm a b X (·.out) c d
structure EF (E:Wm->Wm->Prop) (f g:Fm):Prop where
 loc:f.loc=g.loc
 val:f.val=g.val
 w:E f.w g.w
abbrev SF {α:Type} (a b:Wm->Wm->Prop) (X:Prop) (c d:Rz Fm α):Prop:=Sm (EF a) b X (·.w.out) c d
theorem SW.bind (i:Env) {α β:Type} {b d:Rz Wm α} {f c:α->Wm->Rz Wm β} (h:SW E G X b d) (k:∀a s1 s2,E s1 s2->SW E G X (f a s1) (c a s2)) (m:∀a s,RK i s (c a s)):SW E G X (b.bind f) (d.bind c):=by
 cases b with
 | ok a s1=>obtain ⟨s2,rfl,j⟩:=h; exact k a s1 s2 j
 | ov e r=>
   rcases h with ⟨l,rfl,n⟩ | ⟨o,p,q⟩
   · exact .inl ⟨l,O,n⟩
   · refine .inr ⟨o,p,Rz.all_bind (Rz.pI q (λa s g=>?_) λ_ h=>h)⟩
     exact Rz.pI (m a s) (λ_ _ h=>g.trans h.pre) λ_ h=>g.trans h.pre
theorem SF.bind (i:Env) {α β:Type} {b c:Rz Fm α} {f d:α->Fm->Rz Fm β} (h:SF E G X b c) (k:∀a s1 s2,c = .ok a s2->EF E s1 s2->SF E G X (f a s1) (d a s2)) (m:∀a s,FK i s (d a s)):SF E G X (b.bind f) (c.bind d):=by
 cases b with
 | ok a s1=>obtain ⟨s2,rfl,j⟩:=h; exact k a s1 s2 rfl j
 | ov e r=>
   rcases h with ⟨l,rfl,n⟩ | ⟨o,p,q⟩
   · exact .inl ⟨l,O,n⟩
   · refine .inr ⟨o,p,Rz.all_bind (Rz.pI q (λa s g=>?_) λ_ h=>h)⟩
     exact Rz.pI (m a s) (λ_ _ h=>g.trans h.1.pre) λ_ h=>g.trans h.pre
theorem SF.fr {α:Type} {b c:Rz Wm α} {f g:Fm} (h:SW E G X b c) (d:EF E f g):SF E G X (Rz.fr f b) (Rz.fr g c):=by
 cases b with
 | ok a s1=>obtain ⟨s2,rfl,i⟩:=h; exact ⟨_,rfl,d.loc,d.val,i⟩
 | ov e o=>
   rcases h with ⟨j,rfl,k⟩ | ⟨l,m,n⟩
   · exact .inl ⟨j,O,k⟩
   · exact .inr ⟨l,m,Rz.Hx (Rz.pI n gO λ_ h=>h)⟩
theorem SW.ok {α:Type} (a:α) {s1 s2:Wm} (h:E s1 s2):SW E G X (.ok a s1) (.ok a s2):=⟨s2,rfl,h⟩
theorem SF.ok {α:Type} (a:α) {s1 s2:Fm} (h:EF E s1 s2):SF E G X (.ok a s1) (.ok a s2):=⟨s2,rfl,h⟩
theorem SW.ov {α:Type} (S:Pw P1 P2 E G X) (e:Int) {s1 s2:Wm} (h:E s1 s2):SW (α:=α) E G X (.ov e s1) (.ov e s2):=.inl ⟨s2,rfl,S.eg h⟩
structure EE (P2:Env) (E G:Wm->Wm->Prop) (X:Prop) (k1 k2:Ev):Prop where
 go:∀loc {a b},E a b->SW E G X (k1 loc a) (k2 loc b)
 kp:EK P2 k2
structure CC (P2:Env) (E G:Wm->Wm->Prop) (X:Prop) (c1 c2:Cl):Prop where
 go:∀u loc body {a b},E a b->SW E G X (c1 u loc body a) (c2 u loc body b)
 kp:CK P2 c2
inductive KE (P2:Env) (E G:Wm->Wm->Prop) (X:Prop):List Ev->List Ev->Prop where
 | nil:KE P2 E G X [] []
 | cons {x y:Ev} {r q:List Ev} (h:EE P2 E G X x y) (t:KE P2 E G X r q):KE P2 E G X (x::r) (y::q)
theorem KE.kp:∀{b a:List Ev},KE P2 E G X b a->∀k ∈ a,EK P2 k
 | _,_,.nil,k,h=>by simp at h
 | _,_,.cons c d,k,h=>by
   rcases dU.1 h with rfl | h
   · exact c.kp
   · exact KE.kp d k h
structure AA (P2:Env) (E G:Wm->Wm->Prop) (X:Prop) (b1 b2:Fm->Rz Fm Bool):Prop where
 go:∀{f g},EF E f g->SF E G X (b1 f) (b2 g)
 kp:∀f,FK P2 f (b2 f)
end
end Go.Bw
end
section
namespace Go.Bw
open Go
structure Yz (k_:Nat) (a b:Wm):Prop where
 data:a.data=b.data
 out:a.out=b.out
 bH:a.bH=b.bH
 calls:a.calls=b.calls
 tl:a.bH<=k_
 qF:b.qF=a.qF++[0]\/(a.qF=[]/\b.qF=[])
end Go.Bw
end
section
namespace Go.Bw
open Go
structure Ren (l l':List aX) (f:Nat->Nat):Prop where
 len:l'.length=l.length
 inv:∀k,f (f k)=k
 lt:∀k,k<l.length->f k<l.length
 get:∀k,k<l.length->l'[f k]? = l[k]?
theorem Ren.nm {l a:List aX} {f:Nat->Nat} (h:Ren l a f) {k:Nat} (b:k<l.length):gC a (f k)=gC l k:=by unfold gC; rw [h.get k b]
theorem Ren.us {l a:List aX} {f:Nat->Nat} (h:Ren l a f) {k:Nat} (b:k<l.length):oI a (f k)=oI l k:=by unfold oI; rw [h.get k b]
theorem Ren.back {l b:List aX} {f:Nat->Nat} (h:Ren l b f):Ren b l f:=⟨h.len.symm,h.inv,λk a=>by rw [h.len] at a ⊢; exact h.lt k a,λk a=>by
 rw [h.len] at a;have:=h.get (f k) (h.lt k a);rw [h.inv] at this
 exact this.symm⟩
theorem Ren.mem {l b:List aX} {f:Nat->Nat} (h:Ren l b f) {m:aX} (c:m ∈ l):m ∈ b:=by
 obtain ⟨k,a⟩:=jA c;have d:=(cf.1 a).1;rw [<-h.get k d] at a;exact ax a
theorem Ren.nodup {l b:List aX} {f:Nat->Nat} (h:Ren l b f) (m:(gB l).Nodup):(gB b).Nodup:=by
 unfold List.Nodup;rw [x7];intro i j hi a p e;rw [rT] at hi a
 have k:gC b i=gC b j:=by
   have c:=ig (dL hi);have d:=ig (dL a);rw [dL (by rw [rT]; exact hi)] at c;rw [dL (by rw [rT]; exact a)] at d
   injection c with c
   injection d with d
   rw [nZ (dL hi),nZ (dL a),<-c,<-d,e]
 have g:=h.back;rw [<-g.nm hi,<-g.nm a] at k;have n:=wI m (by have:=g.lt i hi; rw [h.len] at this; exact this) (by have:=g.lt j a; rw [h.len] at this; exact this) k;have o:=congrArg f n;rw [h.inv,h.inv] at o;omega
theorem Ren.place {l a:List aX} {f:Nat->Nat} (h:Ren l a f) (d:(gB l).Nodup) {s:List UInt8} {p:Nat} (e:h9 l s=some p):h9 a s=some (f p):=by
 obtain ⟨b,g⟩:=Hb e;have c:=OS (h.nodup d) (i:=f p) (by rw [h.len]; exact h.lt p b);rw [h.nm b,g] at c;exact c
theorem Ren.ok {l c:List aX} {f:Nat->Nat} (h:Ren l c f) (a:h_ l):h_ c:=
 ⟨by rw [h.len]; exact a.aH,λm b=>a.qE m (h.back.mem b),h.nodup a.nd,λm b s d=>by
   obtain ⟨p,e⟩:=a.aq m (h.back.mem b) s d
   exact ⟨f p,h.place a.nd e⟩⟩
theorem Ren.contains {l a:List aX} {f:Nat->Nat} (h:Ren l a f) (d:List Nat) (x:Nat):(d.map f).contains (f x)=d.contains x:=by
 rw [jz];simp only [x9,k0]
 constructor
 · rintro ⟨y,b,e⟩
   have:=congrArg f e;rw [h.inv,h.inv] at this;rw [<-this]; exact b
 · exact λc=>⟨x,c,O⟩
theorem Ren.ready {l b:List aX} {f:Nat->Nat} (h:Ren l b f) (e:h_ l) (d:List Nat) {x:Nat} (c:x<l.length):lE b (d.map f) (f x)=lE l d x:=by
 unfold lE;rw [h.contains,h.us c]
 congr 1
 have key:∀u:List (List UInt8),(∀s ∈ u,∃p,h9 l s=some p)->u.all (j5 b (d.map f))=u.all (j5 l d):=by
   intro u
   induction u with
   | nil=>intro _; rfl
   | cons s r j=>
     intro g;obtain ⟨p,i⟩:=g s aj;rw [sD,sD,j λs a=>g s (by simp [a])]
     congr 1
     unfold j5;rw [i,h.place e.nd i];exact h.contains d p
 refine key _ λs a=>?_;rw [Hc (dL c)] at a;exact e.aq _ (x6 c) s a
end Go.Bw
end
section
namespace Go.Bw
open Go
def nq (a b:List Bool):Prop:=∀j:Nat,a[j]? = some true->b[j]? = some true
theorem nq.refl (a:List Bool):nq a a:=λ_ h=>h
theorem nq.count:∀{a b:List Bool},a.length=b.length->nq a b->a.count true<=b.count true/\(b.count true<=a.count true->a=b)
 | [],[],_,_=>⟨dp _,λ_=>rfl⟩
 | [],_::_,h,_=>by cases h
 | _::_,[],h,_=>by cases h
 | x::a,y::b,h,c=>by
   obtain ⟨d,f⟩:=nq.count (a:=a) (b:=b) (by simpa using h) λj g=>by simpa using c (j+1) (by simpa using g)
   have i:x=true->y=true:=λe=>by simpa using c 0 (by simp [e])
   cases x<;>cases y<;>simp at i ⊢
   · exact ⟨d,f⟩
   · exact ⟨ae,ae⟩
   · exact ⟨d,f⟩
theorem nq.set (a:List Bool) (p:Nat):nq a (a.set p true):=λj h=>by
 have b:=(cf.1 h).1;rw [x8]
 by_cases e:p=j
 · subst e; simp [b]
 · rw [if_neg e]; exact h
theorem nq.trans {a b c:List Bool} (h:nq a b) (k:nq b c):nq a c:=λj d=>k j (h j d)
def CR (l:List aX) (nm:List UInt8) (S:List Bool) (j:Nat):Prop:=S[j]? = some true\/gC l j=nm
def uO (l:List aX) (S:List Bool) (s:List UInt8):Prop:=∃p,h9 l s=some p/\S[p]? = some true
theorem uO.sub {l:List aX} {a b:List Bool} {s:List UInt8} (h:uO l a s) (c:nq a b):uO l b s:=let ⟨p,d,e⟩:=h; ⟨p,d,c p e⟩
def PB (l:List aX) (nm:List UInt8) (S:List Bool):Prop:=∀j,j<l.length->CR l nm S j->∀s ∈ oI l j,uO l S s
structure PC (l:List aX) (nm:List UInt8) (S:List Bool):Prop where
 len:S.length=l.length
 sound:∀j,S[j]? = some true->Go.Bw.Reach l nm (gC l j)
structure CS (l:List aX) (nm:List UInt8) (S0 S:List Bool) (j:Nat):Prop where
 ok:PC l nm S
 sub:nq S0 S
 same:PB l nm S0->S=S0
 done:∀i,i<j->CR l nm S0 i->∀s ∈ oI l i,uO l S s
theorem CS.next {l:List aX} {nm:List UInt8} {a S:List Bool} {j:Nat} (h:CS l nm a S j) (d:CR l nm a j->∀s ∈ oI l j,uO l S s):CS l nm a S (j+1):=
 ⟨h.ok,h.sub,h.same,λi hi c=>by
   rcases mZ.1 hi with b | b
   · exact h.done i b c
   · subst b; exact d c⟩
def PD (a b:List UInt8):Prop:=iW a b=true
def PE (l:List aX) (S:List Bool) (i:Nat):List (List UInt8):=((List.range i).filter λj=>(S[j]?).getD false).map (gC l)
structure YB (l:List aX) (S:List Bool) (i:Nat) (out:List (List UInt8)):Prop where
 perm:out.Perm (PE l S i)
 up:mJ PD out out.length
open Go.ChangeShapes Go.WideShapes Go.ChangeAt Go.RowKit Go.Joins Go.Deep
theorem open_strs {P:Program} {e:Type} {enc:TypeId×Value->e} {w:World} {base:Nat} {i:Nat->Bool} {n:Bool} (j:wB e) {f g:TypeId} (uT:P.underlying f=some .string) (p:P.cellsOf f=1) (s:∀b,i b=true) (uS:P.underlying g=some (.slice f))
   {r:_root_.Go.Reach} {t:Nat} {v:Value} {x:DataW e} {pl:List MemPlace} (u:Value.okWide P w r t g v) (h:DataW.Trod enc P w base i n g v x pl):∃(a:Option Addr) (c:Nat) (l:List (List UInt8)),v = .slice a l.length c/\Sl rdStr 1 (hv w) a c l:=by
 obtain ⟨a,k,c,rfl⟩:=okWide_slice uS u;obtain ⟨fuel,h⟩:=h
 obtain ⟨a,c,l,z,A,_⟩:=Oo (rd:=rdStr) j (λ_=>0) (λ_=>0) rfl (λ_ _=>rfl) uS p ae s (λE m y F B C=>by
   obtain ⟨d,rfl⟩:∃d,m=[d]:=by
     match m,C with
     | [d],_=>exact ⟨d,rfl⟩
   obtain ⟨q,rfl,_⟩:=On j uT B
   exact ⟨q,λb o D=>D,cq _⟩) h
 exact ⟨a,c,l,z,A⟩
end Go.Bw
end
section
namespace Go.Bw
open Go
structure cN where
 w:Wm
 fin:Int
 i:Option Addr×Nat
 o:Option Addr×Nat
def jK {α:Type} (r:Rz Wm α) (v:α) (t:cN):Prop:=(t.fin=0/\r = .ok v t.w)\/(t.fin≠0/\∃c,r = .ov t.fin { t.w with calls:=c })
def PF {α:Type} (s:cN) (r:Rz Wm α) (v:α) (t:cN):Prop:=(s.fin≠0/\t=s)\/(s.fin=0/\jK r v t)
theorem jK.ok {α:Type} {r:Rz Wm α} {v:α} {t:cN} (a:t.fin=0) (h:r = .ok v t.w):jK r v t:=.inl ⟨a,h⟩
theorem jK.ov {α:Type} {r:Rz Wm α} {v:α} {t:cN} {c:Nat} (a:t.fin≠0) (h:r = .ov t.fin { t.w with calls:=c }):jK r v t:=.inr ⟨a,c,h⟩
theorem jK.get {α:Type} {r:Rz Wm α} {v:α} {t:cN} (h:jK r v t) (a:t.fin=0):r = .ok v t.w:=by
 rcases h with ⟨_,h⟩ | ⟨h,_⟩
 · exact h
 · exact absurd a h
theorem jK.out {α β:Type} {r:Rz Wm α} {v:α} {t:cN} (h:jK r v t) (a:t.fin≠0) (f:α->Wm->Rz Wm β) (b:β):jK (r.bind f) b t:=by
 rcases h with ⟨h,_⟩ | ⟨_,c,h⟩
 · exact absurd h a
 · exact .inr ⟨a,c,CP h⟩
theorem jK.same {α:Type} {r:Rz Wm α} {v b:α} {t:cN} (h:jK r v t) (a:t.fin≠0):jK r b t:=by
 rcases h with ⟨h,_⟩ | ⟨_,h⟩
 · exact absurd h a
 · exact .inr ⟨a,h⟩
theorem jK.then {α β:Type} {r:Rz Wm α} {v:α} {t c:cN} {f:α->Wm->Rz Wm β} {b:β} (h:jK r v t) (k:PF t (f v t.w) b c):jK (r.bind f) b c:=by
 rcases k with ⟨a,rfl⟩ | ⟨a,d⟩
 · exact h.out a f b
 · rw [HB (h.get a)]; exact d
theorem jK.map {α β:Type} {r:Rz Wm α} {v:α} {t:cN} (f:α->β) (h:jK r v t):jK (r.bind λv w=>.ok (f v) w) (f v) t:=by
 rcases h with ⟨a,h⟩ | ⟨a,c,h⟩
 · exact .inl ⟨a,HB h⟩
 · exact .inr ⟨a,c,CP h⟩
def PG (r:Rz Fm Bool) (d:Bool) (loc:List Int) (v:Int) (t:cN):Prop:=(t.fin=0/\r = .ok d ⟨loc,v,t.w⟩)\/(t.fin≠0/\∃c,r = .ov t.fin { t.w with calls:=c })
theorem jK.fr {α:Type} {r:Rz Wm α} {x:α} {t:cN} {loc:List Int} {v:Int} {w:Wm} {f:α->Fm->Rz Fm Bool} {d:Bool} {b:List Int} {e:Int} (h:jK r x t) (a:t.fin≠0):PG ((Rz.fr ⟨loc,v,w⟩ r).bind f) d b e t:=by
 rcases h with ⟨h,_⟩ | ⟨_,c,h⟩
 · exact absurd h a
 · exact .inr ⟨a,c,CP (Pp h)⟩
end Go.Bw
end
section
namespace Go.Bw
open Go
structure pL (ks HI:List cv):Prop where
 d:∀m pl n,iB ks m pl n=true->iB HI m pl n=true
 p:∀m pl n,jq ks m pl n=true->jq HI m pl n=true
theorem PH {ks e:List cv} (h:pL ks e) {aB op n m pl:Int} {len:Nat} (c:node1 ks aB op n m pl len=true):node1 e aB op n m pl len=true:=by
 unfold node1 at c ⊢
 by_cases f:op=1
 · rw [if_pos f] at c ⊢; exact c
 rw [if_neg f] at c ⊢
 by_cases g:op=3
 · rw [if_pos g] at c ⊢; obtain ⟨a,b⟩:=d'.1 c; exact d'.2 ⟨a,h.d _ _ _ b⟩
 rw [if_neg g] at c ⊢
 by_cases i:op=4
 · rw [if_pos i] at c ⊢; obtain ⟨a,b⟩:=d'.1 c; exact d'.2 ⟨a,h.d _ _ _ b⟩
 rw [if_neg i] at c ⊢
 by_cases j:op=5
 · rw [if_pos j] at c ⊢; obtain ⟨a,b⟩:=d'.1 c; exact d'.2 ⟨a,h.p _ _ _ b⟩
 rw [if_neg j] at c ⊢;exact c
theorem PI {ks e:List cv} (h:pL ks e) {aB op n m pl:Int} {na f g:Nat} (c:fI ks aB op n m pl na f g=true):fI e aB op n m pl na f g=true:=by
 unfold fI at c ⊢
 by_cases i:op=1
 · rw [if_pos i] at c ⊢; obtain ⟨a,b⟩:=d'.1 c; exact d'.2 ⟨a,A6.2 ((A6.1 b).imp id (h.d _ _ _))⟩
 rw [if_neg i] at c ⊢
 by_cases j:op=2
 · rw [if_pos j] at c ⊢; obtain ⟨a,b⟩:=d'.1 c; exact d'.2 ⟨a,h.d _ _ _ b⟩
 rw [if_neg j] at c ⊢
 by_cases k:op=3
 · rw [if_pos k] at c ⊢; obtain ⟨a,b⟩:=d'.1 c; exact d'.2 ⟨a,h.p _ _ _ b⟩
 rw [if_neg k] at c ⊢;exact c
mutual
theorem PJ {ks b:List cv} (h:pL ks b) (aB:Int):∀(x:aA) (d:Nat),kl ks aB x d=true->kl b aB x d=true
 | .mk op n m pl args,d,a=>by
   rw [kl] at a ⊢;simp only [cO] at a ⊢;exact ⟨a.1,PH h a.2.1,CT h aB args (d+1) a.2.2⟩
theorem CT {ks b:List cv} (h:pL ks b) (aB:Int):∀(l:List aA) (d:Nat),fT ks aB l d=true->fT b aB l d=true
 | [],d,_=>by rw [fT]
 | x::r,d,a=>by
   rw [fT] at a ⊢;simp only [cO] at a ⊢;exact ⟨PJ h aB x d a.1,CT h aB r d a.2⟩
end
mutual
theorem PK {ks c:List cv} (h:pL ks c) (aB:Int):∀(x:di) (d:Nat),j3 ks aB x d=true->j3 c aB x d=true
 | .mk op n m pl args body other,d,b=>by
   rw [j3] at b ⊢;simp only [cO,x5] at b ⊢;exact ⟨PI h b.1,CT h aB args 1 b.2.1,b.2.2.1.imp id λa=>⟨a.1,a.2.1,zi h aB body (d+1) a.2.2⟩,b.2.2.2.imp id λa=>⟨a.1,a.2.1,zi h aB other (d+1) a.2.2⟩⟩
theorem zi {ks b:List cv} (h:pL ks b) (aB:Int):∀(l:List di) (d:Nat),bb ks aB l d=true->bb b aB l d=true
 | [],d,_=>by rw [bb]
 | x::r,d,a=>by
   rw [bb] at a ⊢;simp only [cO] at a ⊢;exact ⟨PK h aB x d a.1,zi h aB r d a.2⟩
end
theorem HJ {ks b:List cv} (h:pL ks b) {aB:Int} {l:List di} {d:Nat} (a:bf ks aB l d=true):bf b aB l d=true:=by
 unfold bf at a ⊢;simp only [cO] at a ⊢;exact ⟨a.1,a.2.1,zi h aB l d a.2.2⟩
theorem PL {ks b:List cv} (h:pL ks b) {p:hR} (a:j4 ks p=true):j4 b p=true:=by
 unfold j4 at a ⊢;simp only [cO] at a ⊢;exact ⟨a.1,HJ h a.2⟩
theorem PM {u:cb} {kn b:List cv} (h:pL (aG u::kn) (aG u::b)) (a:jI u kn=true):jI u b=true:=by
 unfold jI at a ⊢;simp only [cO,fG] at a ⊢;exact ⟨a.1,a.2.1,λp c=>PL h (a.2.2.1 p c),HJ h a.2.2.2⟩
def pJ (k:cv):Prop:=k.nW=true->k.data<=512/\k.parts.length<=6/\∀x ∈ k.parts,x<=3
theorem PN {b:cv} {kn:List cv} (h:∀k ∈ kn,pJ k):pL (b::kn) (b::List.replicate kn.length k'):=by
 have r:(b::List.replicate kn.length k').length=(b::kn).length:=aj
 constructor
 · intro m pl n a
   have d:lC (b::kn) m pl=false:=by
     cases g:lC (b::kn) m pl with
     | false=>rfl
     | true=>rw [y5 n g] at a; cases a
   have f:lC (b::List.replicate kn.length k') m pl=false:=by unfold lC at d ⊢; rw [r]; exact d
   obtain ⟨⟨i,rfl,l⟩,_,_⟩:=y6 d;obtain ⟨k,c⟩:=cg l;rw [s7 d c] at a
   cases i with
   | zero=>
     have e:b=k:=by simpa using c
     subst e;rw [s7 f (k:=b) rfl]; exact a
   | succ j=>
     rw [lY] at c;have o:j<kn.length:=(cf.1 c).1;rw [s7 f (k:=k') (by rw [lY,Fl,if_pos o]),if_neg aF];have q:=h k (ax c)
     split at a
     · rename_i hi
       have:=(q hi).1;have a:=of_decide_eq_true a;rw [decide_eq_true (show pl+n<=512 by omega)]; simp
     · exact a
 · intro m pl n a
   have d:b5 (b::kn) m pl=false:=by
     cases g:b5 (b::kn) m pl with
     | false=>rfl
     | true=>rw [Ch n g] at a; cases a
   have f:b5 (b::List.replicate kn.length k') m pl=false:=by unfold b5 at d ⊢; rw [r]; exact d
   obtain ⟨⟨i,rfl,l⟩,p,rfl⟩:=Ci d;obtain ⟨k,c⟩:=cg l;rw [rR d c] at a
   cases i with
   | zero=>
     have e:b=k:=by simpa using c
     subst e;rw [rR f (k:=b) rfl]; exact a
   | succ j=>
     rw [lY] at c;have o:j<kn.length:=(cf.1 c).1;rw [rR f (k:=k') (by rw [lY,Fl,if_pos o]),if_neg aF];have q:=h k (ax c)
     split at a
     · rename_i hi
       obtain ⟨_,u,s⟩:=q hi;simp only [cO,decide_eq_true_eq,beq_iff_eq,mu] at a
       have t:p<k.parts.length:=ae
       have s:=s _ (x6 t);rw [dL t] at a;have e:=a.2;simp at e;simp only [cO,decide_eq_true_eq];omega
     · exact a
theorem CV {u:cb} {kn:List cv} (h:jI u kn=true):pJ (aG u):=by
 intro _;obtain ⟨b,e,a,f⟩:=wQ h;unfold nY at a;simp only [hM,decide_eq_false_iff_not] at a;refine ⟨by show u.data<=512; omega,by show (u.parts.map (·.params)).length<=6; rw [eo]; omega,λx c=>?_⟩;obtain ⟨p,d,rfl⟩:=k0.1 c;exact (y' (b p d)).2.1
end Go.Bw
end
section
namespace Go.Bw
open Go
def nr (i:bA):Prop:=1<=i.op/\i.op<=22
def HK (U:Nat) (Pk:Int->Int->Prop) (b:List Nat) (lo:Nat) (c:List bA) (f:aD):Prop:=
 ∃(p:Nat) (i:bA),f.at_=(p:Int)/\c[p]? = some i/\lo<=p/\
   ((f.kind=1/\f.m=0/\(p ∈ b\/((lo:Int)<=i.a/\i.a<=(c.length:Int))))\/((f.kind=2\/f.kind=3)/\p ∉ b/\0<=f.m/\f.m<=(U:Int)/\0<=i.a/\i.a<=2048/\(f.kind=2->Pk f.m i.a)))
structure Ap (U:Nat) (Pk:Int->Int->Prop) (pd:List Nat) (g g':Gs):Prop where
 zj:∀p ∈ pd,g.code.length<=p/\p<g'.code.length
 more:∃c fx,g'.code=g.code++c/\g'.fix=g.fix++fx/\(∀i ∈ c,nr i)/\(∀f ∈ fx,HK U Pk pd g.code.length g'.code f)/\fx.Pairwise λa b=>a.at_<b.at_
theorem Ap.refl (U:Nat) (Pk:Int->Int->Prop) (g:Gs):Ap U Pk [] g g:=⟨aj,[],[],aj,aj,aj,aj,.nil⟩
theorem Ap.lo {U:Nat} {Pk:Int->Int->Prop} {b:List Nat} {g a:Gs} (h:Ap U Pk b g a):g.code.length<=a.code.length:=by
 obtain ⟨c,fx,d,_⟩:=h.more;rw [d]; simp
theorem Ap.trans {U:Nat} {Pk:Int->Int->Prop} {pa pb:List Nat} {g r s:Gs} (h:Ap U Pk pa g r) (k:Ap U Pk pb r s):Ap U Pk (pa++pb) g s:=by
 have K:=h.lo;have L:=k.lo;have t:=h.zj;have u:=k.zj;obtain ⟨c,fx,z,A,B,v,C⟩:=h.more;obtain ⟨D,E,w,F,G,y,H⟩:=k.more;refine ⟨λp l=>?_,c++D,fx++E,by rw [w,z,et],by rw [F,A,et],?_,?_,?_⟩
 · rcases dA.1 l with l | l
   · have:=t p l; omega
   · have:=u p l; omega
 · intro i hi
   rcases dA.1 hi with hi | hi
   · exact B i hi
   · exact G i hi
 · intro f o
   rcases dA.1 o with o | o
   · obtain ⟨p,i,a1,a2,a3,a4⟩:=v f o
     have l:p<r.code.length:=(cf.1 a2).1;refine ⟨p,i,a1,by rw [w,ql l]; exact a2,a3,?_⟩
     rcases a4 with ⟨e,m,n⟩ | ⟨e,m,n⟩
     · exact .inl ⟨e,m,n.imp (λx=>tV _ x) λx=>⟨x.1,ae⟩⟩
     · refine .inr ⟨e,λd=>?_,n⟩
       rcases dA.1 d with d | d
       · exact m d
       · have:=(u p d).1; omega
   · obtain ⟨p,i,a1,a2,a3,a4⟩:=y f o
     refine ⟨p,i,a1,a2,ae,?_⟩
     rcases a4 with ⟨e,m,n⟩ | ⟨e,m,n⟩
     · exact .inl ⟨e,m,n.imp (λx=>qp _ x) λx=>⟨ae,x.2⟩⟩
     · refine .inr ⟨e,λd=>?_,n⟩
       rcases dA.1 d with d | d
       · have:=(t p d).2; omega
       · exact m d
 · refine A7.2 ⟨C,H,λa I b J=>?_⟩
   obtain ⟨p,i,a1,a2,a3,_⟩:=v a I;obtain ⟨q,j,e,m,n,_⟩:=y b J;have l:p<r.code.length:=(cf.1 a2).1;rw [a1,e]; omega
theorem HM (U:Nat) (Pk:Int->Int->Prop) (l:List bA) (g:Gs) (a:∀i ∈ l,nr i):Ap U Pk [] g (ah l g):=⟨aj,l,[],rfl,by simp [ah],a,aj,.nil⟩
theorem bX (U:Nat) (Pk:Int->Int->Prop) (i:bA) (g:Gs) (a:nr i):Ap U Pk [] g (ah [i] g):=HM U Pk [i] g (by simpa using a)
theorem cC (i:bA) (k m:Int) (g:Gs):(aT i k m g).code.length=g.code.length+1:=by simp [aT]
theorem ta (U:Nat) (Pk:Int->Int->Prop) (i:bA) (g:Gs) (hi:nr i):Ap U Pk [g.code.length] g (aT i 1 0 g):=by
 refine ⟨λp a=>?_,[i],[⟨(g.code.length:Int),1,0⟩],O,O,by simpa using hi,λf b=>?_,A8 _ _⟩
 · have:=az.1 a; subst this; rw [cC]; omega
 · have:=az.1 b; subst this
   exact ⟨g.code.length,i,O,by simp [aT],dp _,.inl ⟨O,O,.inl aj⟩⟩
theorem PO (U:Nat) (Pk:Int->Int->Prop) {i:bA} {l g:Gs} {q:List Nat} (h:Ap U Pk q l g) (hi:nr i) (B:i.a=(l.code.length:Int)):Ap U Pk q l (aT i 1 0 g):=by
 have s:=h.lo;have t:=h.zj;obtain ⟨c,fx,u,v,w,r,y⟩:=h.more;refine ⟨λp k=>?_,c++[i],fx++[⟨(g.code.length:Int),1,0⟩],by show g.code++[i]=_; rw [u,et],by show g.fix++_=_; rw [v,et],?_,λf d=>?_,?_⟩
 · rw [cC]; have:=t p k; omega
 · intro j e
   rcases dA.1 e with e | e
   · exact w j e
   · have:=az.1 e; subst this; exact hi
 · rcases dA.1 d with d | d
   · obtain ⟨p,j,a1,a2,a3,a4⟩:=r f d
     have k:p<g.code.length:=(cf.1 a2).1;refine ⟨p,j,a1,by show (g.code++[i])[p]? = _; rw [ql k]; exact a2,a3,?_⟩
     rcases a4 with ⟨m,n,o⟩ | ⟨m,n,o⟩
     · exact .inl ⟨m,n,o.imp id λx=>⟨x.1,by rw [cC]; omega⟩⟩
     · exact .inr ⟨m,n,o⟩
   · have:=az.1 d; subst this
     exact ⟨g.code.length,i,O,by simp [aT],s,.inl ⟨O,O,.inr ⟨ae,by rw [cC]; omega⟩⟩⟩
 · refine A7.2 ⟨y,A8 _ _,λa z b A=>?_⟩
   obtain ⟨p,j,a1,a2,a3,_⟩:=r a z;have k:p<g.code.length:=(cf.1 a2).1;have:=az.1 A; subst this;rw [a1]; show (p:Int)<(g.code.length:Int); omega
theorem iy {U:Nat} {Pk:Int->Int->Prop} {i:bA} {k m:Int} (g:Gs) (hi:nr i) (d:k=2\/k=3) (b:0<=m/\m<=(U:Int)) (c:0<=i.a/\i.a<=2048) (e:k=2->Pk m i.a):Ap U Pk [] g (aT i k m g):=by
 refine ⟨aj,[i],[⟨(g.code.length:Int),k,m⟩],O,O,by simpa using hi,λf h=>?_,A8 _ _⟩;have:=az.1 h; subst this;exact ⟨g.code.length,i,O,by simp [aT],dp _,.inr ⟨d,aj,b.1,b.2,c.1,c.2,e⟩⟩
theorem qL (n:Nat) (g:Gs):(c7 n g).code.length=g.code.length:=by simp [c7]
theorem rZ {U:Nat} {Pk:Int->Int->Prop} {pa pb:List Nat} {n:Nat} {g b:Gs} (h:Ap U Pk (pa++n::pb) g b):Ap U Pk (pa++pb) g (c7 n b):=by
 have D:=h.lo;have u:=h.zj;obtain ⟨c,fx,r,w,y,z,A⟩:=h.more;obtain ⟨E,F⟩:=u n aj
 have q (p:Nat):(c7 n b).code[p]? = if n=p then (b.code[p]?).map (λi=>{ i with a:=(b.code.length:Int) }) else b.code[p]?:=by
   show (b.code.modify n _)[p]? = _
   rw [rq]
   by_cases e:n=p
   · subst e; simp
   · rw [if_neg e]; simp [e]
 have s:(c7 n b).code.length=b.code.length:=qL n b
 have G:b.code.length=g.code.length+c.length:=by rw [r]; simp
 refine ⟨λp d=>?_,(c7 n b).code.drop g.code.length,fx,?_,w,?_,λf B=>?_,A⟩
 · have:p ∈ pa++n::pb:=by
     rcases dA.1 d with d | d
     · exact tV _ d
     · exact qp _ (bE _ d)
   rw [s]; exact u p this
 · have C:(c7 n b).code.take g.code.length=g.code:=by
     refine rp λp=>?_;rw [jy]
     split
     · rename_i d
       rw [q p,if_neg ae,r,ql d]
     · rename_i d
       rw [gN ae]
   rw [<-ot g.code.length (c7 n b).code,C];rw [Fe (dp _),sE,dv]
 · intro i hi
   obtain ⟨j,k⟩:=jA hi;rw [Fc,q] at k
   have v:∀x,b.code[g.code.length+j]? = some x->nr x:=λx m=>by
     rw [r,hD ae] at m;exact y x (ax m)
   split at k
   · cases m:b.code[g.code.length+j]? with
     | none=>rw [m] at k; cases k
     | some x=>rw [m] at k; simp at k; subst k; exact v x m
   · exact v i k
 · obtain ⟨p,i,a1,a2,a3,a4⟩:=z f B
   by_cases e:n=p
   · subst e
     refine ⟨n,{ i with a:=(b.code.length:Int) },a1,by rw [q,if_pos O,a2]; rfl,a3,?_⟩
     rcases a4 with ⟨o,l,_⟩ | ⟨_,l,_⟩
     · exact .inl ⟨o,l,.inr ⟨by show (g.code.length:Int)<=(b.code.length:Int); omega,by rw [s]; exact x' _⟩⟩
     · exact absurd aj l
   · refine ⟨p,i,a1,by rw [q,if_neg e]; exact a2,a3,?_⟩
     rw [s]
     rcases a4 with ⟨o,l,t⟩ | ⟨o,l,t⟩
     · refine .inl ⟨o,l,t.imp (λx=>?_) id⟩
       rcases dA.1 x with x | x
       · exact tV _ x
       · rcases dU.1 x with x | x
         · exact absurd x.symm e
         · exact qp _ x
     · refine .inr ⟨o,λx=>l ?_,t⟩
       rcases dA.1 x with x | x
       · exact tV _ x
       · exact qp _ (bE _ x)
end Go.Bw
end
section
namespace Go.Bw
open Go
theorem gE {k a b:Int} (c:1<=k) (d:k<=22):nr ⟨k,a,b⟩:=⟨c,d⟩
structure qM (U:Nat) (Pk:Int->Int->Prop) (ks:List cv):Prop where
 len:ks.length=U+1
 small:∀k ∈ ks,k.nW=true->k.parts.length<=2048
 call:∀m a n,jq ks m a n=true->Pk m a
theorem wV {U:Nat} {Pk:Int->Int->Prop} {ks:List cv} (b:qM U Pk ks) {m pl n:Int} (h:iB ks m pl n=true):(0<=m/\m<=(U:Int))/\0<=pl/\pl<=2048:=by
 cases a:lC ks m pl with
 | true=>rw [y5 n a] at h; cases h
 | false=>
   obtain ⟨⟨d,rfl,e⟩,c,f⟩:=y6 a;have:=b.len;exact ⟨⟨ae,ae⟩,c,ae⟩
theorem pK {U:Nat} {Pk:Int->Int->Prop} {ks:List cv} (b:qM U Pk ks) {m pl n:Int} (h:jq ks m pl n=true):(0<=m/\m<=(U:Int))/\0<=pl/\pl<=2048:=by
 cases a:b5 ks m pl with
 | true=>rw [Ch n a] at h; cases h
 | false=>
   obtain ⟨⟨e,rfl,d⟩,p,rfl⟩:=Ci a;have f:=b.len;obtain ⟨k,c⟩:=cg d;rw [rR a c] at h;refine ⟨⟨ae,ae⟩,ae,?_⟩
   split at h
   · rename_i hi
     have:=b.small k (ax c) hi;simp only [cO,decide_eq_true_eq] at h;omega
   · simp only [cO,decide_eq_true_eq] at h
     omega
theorem wW {U:Nat} {Pk:Int->Int->Prop}:∀{ks:List Gk} (h:∀(i:Nat) k,ks[i]? = some k->∀g,Ap U Pk [] g (k g)) (g:Gs),Ap U Pk [] g (mK ks g)
 | [],h,g=>.refl U Pk g
 | k::r,h,g=>(h 0 k rfl g).trans (wW (ks:=r) (λi a b=>h (i+1) a (by simpa using b)) (k g))
theorem nt {U:Nat} {Pk:Int->Int->Prop} {ks:List Gk} (h:∀(i:Nat) k,ks[i]? = some k->∀g,Ap U Pk [] g (k g)) (i:Nat) (g:Gs):Ap U Pk [] g (gI ks i g):=by
 unfold gI
 cases hi:ks[i]? with
 | none=>exact .refl U Pk g
 | some k=>exact h i k hi g
theorem PQ {U:Nat} {Pk:Int->Int->Prop} {c d:Gk} (e:∀g,Ap U Pk [] g (c g)) (f:∀g,Ap U Pk [] g (d g)) (g:Gs):Ap U Pk [] g (pC c d g):=by
 unfold pC;dsimp only
 generalize h:c g=a
 generalize i:ah [⟨22,0,0⟩] (d (aT ⟨12,0,0⟩ 1 0 a))=b
 have a1:Ap U Pk [] g a:=h▸e g;have a2:Ap U Pk [a.code.length] a b:=i▸((ta U Pk ⟨12,0,0⟩ a (gE aF aF)).trans (f _)).trans (bX U Pk ⟨22,0,0⟩ _ (gE aF aF));have a3:Ap U Pk [a.code.length,b.code.length] g (aT ⟨11,0,0⟩ 1 0 b):=(a1.trans a2).trans (ta U Pk ⟨11,0,0⟩ b (gE aF aF));have a4:Ap U Pk [b.code.length] g _:=rZ (pa:=[]) a3;have j:Ap U Pk [b.code.length] g _:=a4.trans (bX U Pk ⟨1,0,0⟩ _ (gE aF aF));exact rZ (pa:=[]) (pb:=[]) j
theorem PR {U:Nat} {Pk:Int->Int->Prop} {c d:Gk} (e:∀g,Ap U Pk [] g (c g)) (f:∀g,Ap U Pk [] g (d g)) (g:Gs):Ap U Pk [] g (pD c d g):=by
 unfold pD;dsimp only
 generalize h:c g=a
 generalize i:ah [⟨1,1,0⟩] (aT ⟨12,0,0⟩ 1 0 a)=b
 have a1:Ap U Pk [] g a:=h▸e g;have a2:Ap U Pk [a.code.length] a b:=i▸(ta U Pk ⟨12,0,0⟩ a (gE aF aF)).trans (bX U Pk ⟨1,1,0⟩ _ (gE aF aF));have a3:Ap U Pk [a.code.length,b.code.length] g (aT ⟨11,0,0⟩ 1 0 b):=(a1.trans a2).trans (ta U Pk ⟨11,0,0⟩ b (gE aF aF));have a4:Ap U Pk [b.code.length] g _:=rZ (pa:=[]) a3;have j:Ap U Pk [b.code.length] g _:=(a4.trans (f _)).trans (bX U Pk ⟨22,0,0⟩ _ (gE aF aF));exact rZ (pa:=[]) (pb:=[]) j
mutual
theorem PS {U:Nat} {Pk:Int->Int->Prop} {ks:List cv} (b:qM U Pk ks) (aB:Int):∀(x:aA) (d:Nat),kl ks aB x d=true->∀g,Ap U Pk [] g (aK x g)
 | .mk op n m pl args,d,h,g=>by
   obtain ⟨j,k⟩:=HC h;have a:=CX b aB args (d+1) k;have f:=Hz j;rw [aK];unfold la
   split
   · exact bX U Pk _ g (gE aF aF)
   · split
     · exact bX U Pk _ g (gE aF aF)
     · split
       · exact bX U Pk _ g (gE aF aF)
       · split
         · rename_i e
           obtain ⟨c,i⟩:=wV b (f.1 e);exact iy g (gE aF aF) (.inr O) c i (λe=>absurd e aF)
         · split
           · rename_i e
             obtain ⟨c,i⟩:=wV b (f.2.1 e).2;exact ((nt a 0 g).trans (iy _ (gE aF aF) (.inr O) c i (λe=>absurd e aF))).trans (bX U Pk _ _ (gE aF aF))
           · split
             · rename_i e
               obtain ⟨c,i⟩:=pK b (f.2.2.1 e);exact (wW a g).trans (iy _ (gE aF aF) Y c i (λ_=>b.call _ _ _ (f.2.2.1 e)))
             · split
               · exact PQ (nt a 0) (nt a 1) g
               · split
                 · exact PR (nt a 0) (nt a 1) g
                 · split
                   · exact (wW a g).trans (bX U Pk _ _ (gE aF aF))
                   · exact (wW a g).trans (bX U Pk _ _ (gE aF aF))
theorem CX {U:Nat} {Pk:Int->Int->Prop} {ks:List cv} (b:qM U Pk ks) (aB:Int):∀(l:List aA) (d:Nat),fT ks aB l d=true->∀(i:Nat) k,(e3 l)[i]? = some k->∀g,Ap U Pk [] g (k g)
 | [],d,_,i,k,h,g=>by rw [e3] at h; simp at h
 | x::r,d,a,0,k,h,g=>by
   rw [fT] at a;rw [e3] at h;simp at h;subst h;exact PS b aB x d (d'.1 a).1 g
 | x::r,d,a,i+1,k,h,g=>by
   rw [fT] at a;rw [e3] at h;exact CX b aB r d (d'.1 a).2 i k (by simpa using h) g
end
theorem PT {U:Nat} {Pk:Int->Int->Prop} {c body other:Gk} {d:Nat} (e:∀g,Ap U Pk [] g (c g)) (f:∀g,Ap U Pk [] g (body g)) (h:∀g,Ap U Pk [] g (other g)) (g:Gs):Ap U Pk [] g (qH c body other d g):=by
 unfold qH;dsimp only
 generalize i:c g=a
 generalize j:body (aT ⟨12,0,0⟩ 1 0 a)=b
 have a1:Ap U Pk [] g a:=i▸e g;have a2:Ap U Pk [a.code.length] a b:=j▸(ta U Pk ⟨12,0,0⟩ a (gE aF aF)).trans (f _)
 split
 · have a3:Ap U Pk [a.code.length,b.code.length] g (aT ⟨11,0,0⟩ 1 0 b):=(a1.trans a2).trans (ta U Pk ⟨11,0,0⟩ b (gE aF aF))
   have a4:Ap U Pk [b.code.length] g _:=rZ (pa:=[]) a3;have k:Ap U Pk [b.code.length] g _:=a4.trans (h _);exact rZ (pa:=[]) (pb:=[]) k
 · exact rZ (pa:=[]) (pb:=[]) (a1.trans a2)
theorem PU {U:Nat} {Pk:Int->Int->Prop} {a body:Gk} (c:∀g,Ap U Pk [] g (a g)) (d:∀g,Ap U Pk [] g (body g)) (g:Gs):Ap U Pk [] g (s_ a body g):=by
 unfold s_;dsimp only
 generalize e:a g=b
 have a1:Ap U Pk [] g b:=e▸c g;have a2:Ap U Pk [b.code.length] g _:=((a1.trans (ta U Pk ⟨12,0,0⟩ b (gE aF aF))).trans (bX U Pk ⟨16,0,0⟩ _ (gE aF aF))).trans (d _);exact rZ (pa:=[]) (pb:=[]) (PO U Pk a2 (i:=⟨11,(g.code.length:Int),0⟩) (gE aF aF) O)
mutual
theorem PV {U:Nat} {Pk:Int->Int->Prop} {ks:List cv} (b:qM U Pk ks) (aB:Int):∀(x:di) (d:Nat),j3 ks aB x d=true->∀g,Ap U Pk [] g (iX x g)
 | .mk op n m pl args body other,d,h,g=>by
   obtain ⟨k,l,j,o⟩:=HD h;have a:=CX b aB args 1 l;have f:=HA k;have p:=uQ b aB other (d+1) o;rw [iX];unfold j6
   split
   · rename_i e
     split
     · exact (nt a 0 g).trans (bX U Pk _ _ (gE aF aF))
     · rename_i c
       obtain ⟨c,i⟩:=wV b ((f.1 e).2 c);exact (nt a 0 g).trans (iy _ (gE aF aF) (.inr O) c i (λe=>absurd e aF))
   · split
     · rename_i e
       obtain ⟨c,i⟩:=wV b (f.2.1 e).2;exact (((nt a 0 g).trans (iy _ (gE aF aF) (.inr O) c i (λe=>absurd e aF))).trans (nt a 1 _)).trans (bX U Pk _ _ (gE aF aF))
     · split
       · rename_i e
         obtain ⟨c,i⟩:=pK b (f.2.2 e);exact ((wW a g).trans (iy _ (gE aF aF) Y c i (λ_=>b.call _ _ _ (f.2.2 e)))).trans (bX U Pk _ _ (gE aF aF))
       · split
         · rename_i e
           exact PT (nt a 0) (uQ b aB body (d+1) (j (.inl e))) p g
         · split
           · rename_i e
             exact PU (nt a 0) (uQ b aB body (d+1) (j (.inr e))) g
           · split
             · exact (nt a 0 g).trans (bX U Pk _ _ (gE aF aF))
             · split
               · exact (nt a 0 g).trans (bX U Pk _ _ (gE aF aF))
               · exact .refl U Pk g
theorem uQ {U:Nat} {Pk:Int->Int->Prop} {ks:List cv} (a:qM U Pk ks) (aB:Int):∀(l:List di) (d:Nat),bb ks aB l d=true->∀g,Ap U Pk [] g (au l g)
 | [],d,_,g=>by rw [au]; exact .refl U Pk g
 | x::r,d,h,g=>by
   rw [bb] at h;rw [au];exact (PV a aB x d (d'.1 h).1 g).trans (uQ a aB r d (d'.1 h).2 _)
end
def PW (lo hi:Nat) (c:List bA) (f:aD):Prop:=∀(p:Nat) i,f.kind=1->f.at_=(p:Int)->c[p]? = some i->lo<=p/\p<hi/\(lo:Int)<=i.a/\i.a<(hi:Int)
theorem MZ {U:Nat} {Pk:Int->Int->Prop} {ks:List cv} (l:qM U Pk ks) {aB:Int} {b:List di} {d:Nat} (h:bb ks aB b d=true) (pa lo:Int) (g:Gs) :
   Ap U Pk [] g (ia pa lo b g)/\g.code.length+3<=(ia pa lo b g).code.length/\∃fx,(ia pa lo b g).fix=g.fix++fx/\∀f ∈ fx,PW g.code.length (ia pa lo b g).code.length (ia pa lo b g).code f:=by
 have a1:Ap U Pk [] g (au b (ah [⟨14,pa,lo⟩] g)):=(bX U Pk ⟨14,pa,lo⟩ g (gE aF aF)).trans (uQ l aB b d h _);have m:=(uQ l aB b d h (ah [⟨14,pa,lo⟩] g)).lo;unfold ia
 generalize au b (ah [⟨14,pa,lo⟩] g)=a at a1 m
 have v:(ah [⟨14,pa,lo⟩] g).code.length=g.code.length+1:=by simp [ah]
 have n:(ah [⟨1,0,0⟩,⟨15,0,0⟩] a).code.length=a.code.length+2:=by simp [ah]
 refine ⟨a1.trans (HM U Pk _ a (by intro i hi; simp at hi; rcases hi with rfl | rfl<;>exact gE aF aF)),ae,?_⟩;obtain ⟨c,fx,w,o,y,q,z⟩:=a1.more;refine ⟨fx,o,λf r p i A B s=>?_⟩;obtain ⟨e,j,c1,c2,c3,c4⟩:=q f r
 have t:e=p:=ae
 subst t;have u:e<a.code.length:=(cf.1 c2).1
 have k:a.code[e]? = some i:=by
   have:(a.code++[⟨1,0,0⟩,⟨15,0,0⟩])[e]? = some i:=s
   rwa [ql u] at this
 rw [c2] at k
 injection k with k
 subst k;rw [n]
 rcases c4 with ⟨_,_,x | x⟩ | ⟨x,_⟩
 · cases x
 · exact ⟨c3,ae,x.1,ae⟩
 · omega
structure HN (g g':Gs) (S:List Nat):Prop where
 at_:∀s ∈ S,g.code.length<=s/\s<g'.code.length
 stay:∃fx,g'.fix=g.fix++fx/\∀f ∈ fx,∀(p:Nat) i,f.kind=1->f.at_=(p:Int)->g'.code[p]? = some i->g.code.length<=p/\(g.code.length:Int)<=i.a/\∀s ∈ S,(p<s->i.a<(s:Int))/\(s<=p->(s:Int)<=i.a)
theorem HO {U:Nat} {Pk:Int->Int->Prop} {ks:List cv} (w:qM U Pk ks):∀{l:List hR} (k:∀p ∈ l,∃aB d,bb ks aB p.body d=true) (g:Gs),Ap U Pk [] g (dj l g).2/\HN g (dj l g).2 (dj l g).1
 | [],k,g=>⟨.refl U Pk g,⟨(by intro s a; cases a),[],(by show g.fix=_; simp),(by intro f b; cases b)⟩⟩
 | q::r,k,g=>by
   obtain ⟨aB,d,h⟩:=k q aj;obtain ⟨a1,a2,fx,a3,a4⟩:=MZ w h q.params q.locals g;obtain ⟨o,x⟩:=HO w (l:=r) (λp t=>k p (by simp [t])) (ia q.params q.locals q.body g);obtain ⟨C,D,E⟩:=x.stay;have y:=x.at_;rw [dj];dsimp only
   generalize ia q.params q.locals q.body g=u at *
   generalize dj r u=N at *
   have O:=o.lo;obtain ⟨c,_,F,_⟩:=o.more;refine ⟨a1.trans o,λs a=>?_,fx++C,by rw [D,a3,et],λf b p i z A v=>?_⟩
   · rcases dU.1 a with rfl | a
     · omega
     · have:=y s a; omega
   · rcases dA.1 b with b | b
     · obtain ⟨_,G,P,H,Q,I,R⟩:=a1.more
       have e:G=fx:=List.append_cancel_left (H.symm.trans a3);subst e;obtain ⟨m,j,S,J,_⟩:=I f b
       have t:m=p:=ae
       subst t;have K:m<u.code.length:=(cf.1 J).1
       have L:u.code[m]? = some i:=by rw [F,ql K] at v; exact v
       obtain ⟨B,M,n,T⟩:=a4 f b m i z A L;refine ⟨B,n,λs a=>?_⟩
       rcases dU.1 a with rfl | a
       · exact ⟨λ_=>by omega,λ_=>n⟩
       · have:=y s a
         exact ⟨λ_=>by omega,λ_=>by omega⟩
     · obtain ⟨B,M,n⟩:=E f b p i z A v
       refine ⟨ae,ae,λs a=>?_⟩
       rcases dU.1 a with rfl | a
       · exact ⟨λ_=>by omega,λ_=>by omega⟩
       · exact n s a
structure HP (Pk:Int->Int->Prop) (u:cb) (o:oL):Prop where
 ap:Ap u.aq.length Pk [] ⟨[],[]⟩ o.g
 HQ:HN ⟨[],[]⟩ o.g (o.aw++[o.main])
 aH:o.aw.length=u.parts.length
theorem HR {u:cb} {gn:List cv} (h:jI u gn=true) (c:gn.length=u.aq.length) (d:∀k ∈ gn,k.nW=true->k.parts.length<=2048):qM u.aq.length (λm a=>∃n,jq (aG u::gn) m a n=true) (aG u::gn):=by
 refine ⟨by simp [c],λk b hi=>?_,λm a n e=>⟨n,e⟩⟩
 rcases dU.1 b with rfl | b
 · have:=(CV h hi).2.1
   omega
 · exact d k b hi
theorem PY {u:cb} {gn:List cv} (h:jI u gn=true) (e:gn.length=u.aq.length) (f:∀k ∈ gn,k.nW=true->k.parts.length<=2048):HP (λm a=>∃n,jq (aG u::gn) m a n=true) u (fV u):=by
 have g:=HR h e f;obtain ⟨i,j,l,o⟩:=wQ h
 have e:∀p ∈ u.parts++[(⟨0,0,u.main⟩:hR)],∃aB d,bb (aG u::gn) aB p.body d=true:=by
   intro p c
   rcases dA.1 c with c | c
   · exact ⟨_,1,ix (y' (i p c)).2.2.2.2⟩
   · have:=az.1 c; subst this
     exact ⟨_,1,ix j⟩
 obtain ⟨a,b⟩:=HO g e ⟨[],[]⟩;rw [CI] at a b;exact ⟨a,b,(zc u.parts ⟨[],[]⟩).2⟩
theorem PZ {u:cb} (h:oM u=true):HP (λm a=>∃n,jq (aG u::List.replicate u.aq.length k') m a n=true) u (fV u):=
 PY h aj λk b hi=>by rw [(xv.1 b).2] at hi; cases hi
end Go.Bw
end
section
namespace Go.Bw
open Go
structure bD where
 nm:List UInt8
 aq:List (List UInt8)
 data:Int
 code:List bA
 fix:List aD
 aw:List Int
 main:Int
def gS (o:bD) (q:iZ):List Value:=[st o.nm,.slice q.s1.1 o.aq.length q.s1.2,.int .i64 o.data,.slice q.s2.1 o.code.length q.s2.2,.slice q.s3.1 o.fix.length q.s3.2,.slice q.s4.1 o.aw.length q.s4.2,.int .i64 o.main]
structure ld (H:View) (q:iZ) (o:bD):Prop where
 aq:Sl rdStr 1 H q.s1.1 q.s1.2 o.aq
 code:Sl gm 3 H q.s2.1 q.s2.2 o.code
 fix:Sl Hr 3 H q.s3.1 q.s3.2 o.fix
 aw:Sl qC 1 H q.s4.1 q.s4.2 o.aw
def oL.to (o:oL):bD:=⟨o.nm,o.aq,o.data,o.g.code,o.g.fix,o.aw.map λn:Nat=>(n:Int),o.main⟩
theorem P0 (o:oL) (q:iZ):gS o.to q=CM o q:=by simp [gS,CM,oL.to]
theorem NJ {c:View} {q:iZ} {o:oL} (h:CN c q o):ld c q o.to:=by
 refine ⟨h.aq,h.code,h.fix,⟨?_,h.aw.max,h.aw.spot,λi x a=>?_⟩⟩
 · show (o.aw.map λn:Nat=>(n:Int)).length<=_
   rw [eo]; exact h.aw.cap
 · have a:(o.aw.map λn:Nat=>(n:Int))[i]? = some x:=a
   rw [eZ] at a
   cases b:o.aw[i]? with
   | none=>rw [b] at a; cases a
   | some n=>
     rw [b] at a
     injection a with a
     subst a;exact h.aw.bT i n b
def bg (n:Nat) (at_:Int):Bool:=decide (0<=at_)&&decide (at_<(n:Int))
def kL (seen:List (List UInt8)):List (List UInt8)->Bool->Bool
 | [],f=>f
 | s::r,f=>kL (seen++[s]) r ((f&&ep s)&&(((seen.count s:Nat):Int)+1==1))
def lH:List bA->Bool->Bool
 | [],f=>f
 | x::r,f=>lH r ((f&&decide (1<=x.op))&&decide (x.op<=22))
def mM (n:Nat):List Int->Bool->Bool
 | [],f=>f
 | x::r,f=>mM n r (f&&bg n x)
def j8 (c:List bA) (p:Int):Int:=((c[p.toNat]?).map (·.a)).getD 0
def i' (U n:Nat) (kind m a:Int):Bool:=
 if kind=1 then ((decide (0<=a)&&decide (a<=2048))&&(m==0))&&decide (a<=(n:Int))
 else if kind=2\/kind=3 then ((decide (0<=a)&&decide (a<=2048))&&decide (0<=m))&&decide (m<=(U:Int)) else false
def lf (U:Nat) (c:List bA):List aD->Int->Bool->Bool
 | [],_,f=>f
 | x::r,last,f=>if ((f&&decide (last<x.at_))&&bg c.length x.at_)=false then false else lf U c r x.at_ (i' U c.length x.kind x.m (j8 c x.at_))
def oQ (o:bD):Bool:=(ep o.nm&&decide (0<=o.data))&&decide (o.data<=512)
def r0 (o:bD):Bool:=lf o.aq.length o.code o.fix (-1) (mM o.code.length o.aw (lH o.code (kL [o.nm] o.aq (oQ o))))
def me (o:bD):Bool:=((decide (3<(o.aq.length:Int))||decide (6<(o.aw.length:Int)))||decide ((o.code.length:Int)<1))||decide (2048<(o.code.length:Int))
def fw (o:bD):Int:=if me o=true then 2 else if (!(r0 o)||!(bg o.code.length o.main))=true then 1 else 0
theorem pM {n:Nat} {x:Int} (h:bg n x=true):∃p:Nat,x=(p:Int)/\p<n:=by
 unfold bg at h;simp only [cO,decide_eq_true_eq] at h;exact ⟨x.toNat,ae,ae⟩
theorem CY {n p:Nat} (h:p<n):bg n (p:Int)=true:=by
 unfold bg;simp only [cO,decide_eq_true_eq];omega
theorem NL {seen us:List (List UInt8)} {i:Nat} {s:List UInt8} (h:us[i]? = some s) (f:Bool):kL (seen++us.take i) (us.drop i) f=kL (seen++us.take (i+1)) (us.drop (i+1)) ((f&&ep s)&&((((seen++us.take i).count s:Nat):Int)+1==1)):=by
 obtain ⟨a,b⟩:=cf.1 h;rw [pf a,b,kL,aZ,h,et]
 rfl
theorem P3 {l:List bA} {i:Nat} {x:bA} (h:l[i]? = some x) (f:Bool):lH (l.drop i) f=lH (l.drop (i+1)) ((f&&decide (1<=x.op))&&decide (x.op<=22)):=by
 obtain ⟨a,b⟩:=cf.1 h;rw [pf a,b,lH]
theorem P4 {n:Nat} {l:List Int} {i:Nat} {x:Int} (h:l[i]? = some x) (f:Bool):mM n (l.drop i) f=mM n (l.drop (i+1)) (f&&bg n x):=by
 obtain ⟨a,b⟩:=cf.1 h;rw [pf a,b,mM]
theorem P5 {U:Nat} {c:List bA} {l:List aD} {i:Nat} {x:aD} (h:l[i]? = some x) (a:Int) (f:Bool):lf U c (l.drop i) a f=if ((f&&decide (a<x.at_))&&bg c.length x.at_)=false then false else lf U c (l.drop (i+1)) x.at_ (i' U c.length x.kind x.m (j8 c x.at_)):=by
 obtain ⟨b,d⟩:=cf.1 h;rw [pf b,d,lf]
theorem Ez:∀{us seen:List (List UInt8)} (a:(seen++us).Nodup) (b:us.all ep=true),kL seen us true=true
 | [],_,_,_=>rfl
 | s::r,seen,a,b=>by
   rw [kL];rw [sD] at b;obtain ⟨c,d⟩:=d'.1 b
   have e:seen.count s=0:=by
     rw [Fo];intro f;exact (jx.1 a).2.2 s f s aj O
   rw [c,e];exact Ez (us:=r) (by rw [et]; exact a) d
theorem HT:∀{l:List bA} (h:∀i ∈ l,nr i),lH l true=true
 | [],_=>rfl
 | x::r,h=>by
   have:=h x aj;rw [lH,decide_eq_true this.1,decide_eq_true this.2];exact HT λi hi=>h i (by simp [hi])
theorem HU {n:Nat}:∀{l:List Nat} (h:∀s ∈ l,s<n),mM n (l.map λn:Nat=>(n:Int)) true=true
 | [],_=>rfl
 | x::r,h=>by
   rw [jT,mM,CY (h x aj)];exact HU λs a=>h s (by simp [a])
theorem HV {U:Nat} {Pk:Int->Int->Prop} {c:List bA} (o:c.length<=2048):∀{l:List aD} {g:Int} (h:∀f ∈ l,g<f.at_/\HK U Pk [] 0 c f) (d:l.Pairwise λa b=>a.at_<b.at_),lf U c l g true=true
 | [],_,_,_=>rfl
 | x::r,g,h,d=>by
   obtain ⟨t,p,i,a1,a2,a3,a4⟩:=h x aj;have q:p<c.length:=(cf.1 a2).1;rw [lf,a1,CY q,decide_eq_true ae];rw [if_neg aF]
   have s:j8 c (p:Int)=i.a:=by unfold j8; rw [mu,a2]; rfl
   have e:i' U c.length x.kind x.m (j8 c (p:Int))=true:=by
     rw [s];unfold i'
     rcases a4 with ⟨j,n,k | k⟩ | ⟨j,_,n,k,u,v,_⟩
     · cases k
     · rw [if_pos j,n,decide_eq_true (show 0<=i.a by omega),decide_eq_true (show i.a<=2048 by omega),decide_eq_true (show i.a<=(c.length:Int) by omega)]
       rfl
     · rw [if_neg ae,if_pos j]
       simp only [cO,decide_eq_true_eq];omega
   rw [e];rw [A9] at d;exact HV o (λf e=>⟨by have:=d.1 f e; omega,(h f (by simp [e])).2⟩) d.2
theorem P6 {u:cb} (h:oM u=true) (k:(fV u).g.code.length<=2048):fw (fV u).to=0:=by
 have b:=PZ h;obtain ⟨F,G,d,j⟩:=wQ h;unfold nY at d;simp only [hM,decide_eq_false_iff_not] at d
 have l:ep u.nm=true:=by simpa using d.1.1.1.1
 unfold oH at j;obtain ⟨o,q⟩:=d'.1 j;have r:(u.nm::u.aq).Nodup:=jl.2 (by simpa using o);have t:(fV u).main<(fV u).g.code.length:=(b.HQ.at_ _ aj).2;obtain ⟨c,fx,a1,a2,a3,a4,v⟩:=b.ap.more
 have a1:(fV u).g.code=c:=by simpa using a1
 have a2:(fV u).g.fix=fx:=by simpa using a2
 unfold fw
 have w:me (fV u).to=false:=by
   unfold me;simp only [hM,decide_eq_false_iff_not];refine ⟨⟨⟨?_,?_⟩,?_⟩,?_⟩
   · show ¬3<(u.aq.length:Int); omega
   · show ¬6<((((fV u).aw.map λn:Nat=>(n:Int)).length:Nat):Int)
     rw [eo,b.aH]; omega
   · show ¬(((fV u).g.code.length:Nat):Int)<1; omega
   · show ¬2048<(((fV u).g.code.length:Nat):Int); omega
 rw [w,if_neg aF]
 have x:oQ (fV u).to=true:=by
   unfold oQ;simp only [cO,decide_eq_true_eq];exact ⟨⟨l,by show 0<=u.data; omega⟩,by show u.data<=512; omega⟩
 have y:r0 (fV u).to=true:=by
   unfold r0;rw [x];have z:kL [(fV u).to.nm] (fV u).to.aq true=true:=Ez r q;have A:lH (fV u).to.code true=true:=HT (by show ∀i ∈ (fV u).g.code,nr i; rw [a1]; exact a3);have B:mM (fV u).to.code.length (fV u).to.aw true=true:=HU λs C=>(b.HQ.at_ s (by simp [C])).2;rw [z,A,B]
   show lf u.aq.length (fV u).g.code (fV u).g.fix (-1) true=true
   refine HV (Pk:=λm a=>∃n,jq (aG u::List.replicate u.aq.length k') m a n=true) k (λf e=>?_) (by rw [a2]; exact v);rw [a2] at e;have D:=a4 f e;obtain ⟨p,i,H,_⟩:=D;exact ⟨ae,a4 f e⟩
 rw [y];have E:bg (fV u).to.code.length (fV u).to.main=true:=CY t;rw [E]
 rfl
end Go.Bw
end
section
namespace Go.Bw
open Go
structure uR (o:bD):Prop where
 names:∀s ∈ o.nm::o.aq,ep s=true
 nd:(o.nm::o.aq).Nodup
 data:0<=o.data/\o.data<=512
 main:bg o.code.length o.main=true
 code:∀i ∈ o.code,nr i
 aw:∀e ∈ o.aw,bg o.code.length e=true
 fix:∀f ∈ o.fix,bg o.code.length f.at_=true/\i' o.aq.length o.code.length f.kind f.m (j8 o.code f.at_)=true
 up:o.fix.Pairwise λa b=>a.at_<b.at_
theorem HW:∀(us seen:List (List UInt8)) (f:Bool),kL seen us f=true↔f=true/\(∀s ∈ us,ep s=true)/\us.Nodup/\∀s ∈ us,s ∉ seen
 | [],seen,f=>by simp [kL]
 | s::r,seen,f=>by
   rw [kL,HW r]
   have j:((((seen.count s:Nat):Int)+1==1)=true)↔s ∉ seen:=by
     rw [beq_iff_eq,<-Fo];omega
   rw [cO,cO,j]
   have k:∀t,(t ∈ seen++[s])↔(t ∈ seen\/t=s):=λt=>by simp
   simp only [k,dU,qo,forall_eq_or_imp]
   constructor
   · rintro ⟨⟨⟨d,e⟩,g⟩,h,i,b⟩
     exact ⟨d,⟨e,h⟩,⟨λl=>b s l (.inr O),i⟩,g,λt c a=>b t c (.inl a)⟩
   · rintro ⟨d,⟨e,h⟩,⟨m,i⟩,g,b⟩
     refine ⟨⟨⟨d,e⟩,g⟩,h,i,λt c a=>?_⟩
     rcases a with a | a
     · exact b t c a
     · subst a; exact m c
theorem HX:∀(l:List bA) (f:Bool),lH l f=true↔f=true/\∀i ∈ l,nr i
 | [],f=>by simp [lH]
 | x::r,f=>by
   rw [lH,HX r];simp only [cO,decide_eq_true_eq,dU,forall_eq_or_imp,nr]
   constructor
   · rintro ⟨⟨⟨a,b⟩,c⟩,d⟩; exact ⟨a,⟨b,c⟩,d⟩
   · rintro ⟨a,⟨b,c⟩,d⟩; exact ⟨⟨⟨a,b⟩,c⟩,d⟩
theorem HY (n:Nat):∀(l:List Int) (f:Bool),mM n l f=true↔f=true/\∀e ∈ l,bg n e=true
 | [],f=>by simp [mM]
 | x::r,f=>by
   rw [mM,HY n r];simp only [cO,dU,forall_eq_or_imp]
   constructor
   · rintro ⟨⟨a,b⟩,c⟩; exact ⟨a,b,c⟩
   · rintro ⟨a,b,c⟩; exact ⟨⟨a,b⟩,c⟩
theorem HZ (U:Nat) (c:List bA):∀(l:List aD) (d:Int) (f:Bool),lf U c l d f=true↔f=true/\(∀x ∈ l,d<x.at_/\bg c.length x.at_=true/\i' U c.length x.kind x.m (j8 c x.at_)=true)/\l.Pairwise λa b=>a.at_<b.at_
 | [],d,f=>by simp [lf]
 | x::r,d,f=>by
   rw [lf]
   have q:((f&&decide (d<x.at_))&&bg c.length x.at_)=true↔f=true/\d<x.at_/\bg c.length x.at_=true:=by
     simp only [cO,decide_eq_true_eq,and_assoc]
   cases j:((f&&decide (d<x.at_))&&bg c.length x.at_) with
   | false=>
     rw [if_pos rfl];refine ⟨λh=>(by cases h),λ⟨k,n,_⟩=>?_⟩;have i:=n x aj;rw [q.2 ⟨k,i.1,i.2.1⟩] at j;cases j
   | true=>
     rw [if_neg aF,HZ U c r];obtain ⟨k,n,i⟩:=q.1 j;simp only [dU,forall_eq_or_imp,A9]
     constructor
     · rintro ⟨o,g,p⟩
       exact ⟨k,⟨⟨n,i,o⟩,λy e=>⟨by have:=(g y e).1; omega,(g y e).2⟩⟩,λy e=>(g y e).1,p⟩
     · rintro ⟨_,⟨⟨_,_,o⟩,g⟩,p,s⟩
       exact ⟨o,λy e=>⟨p y e,(g y e).2⟩,s⟩
theorem P7 (o:bD):(r0 o=true/\bg o.code.length o.main=true)↔uR o:=by
 unfold r0;rw [HZ,HY,HX,HW];unfold oQ;simp only [cO,decide_eq_true_eq]
 constructor
 · rintro ⟨⟨⟨⟨⟨⟨⟨e,g⟩,i⟩,j,k,l⟩,m⟩,n⟩,q,r⟩,t⟩
   refine ⟨λs a=>?_,?_,⟨g,i⟩,t,m,n,λf b=>(q f b).2,r⟩
   · rcases dU.1 a with rfl | a
     · exact e
     · exact j s a
   · rw [qo]
     exact ⟨λc=>l _ c aj,k⟩
 · intro h
   have d:=h.nd;rw [qo] at d;refine ⟨⟨⟨⟨⟨⟨⟨h.names _ aj,h.data.1⟩,h.data.2⟩,λs a=>h.names s (by simp [a]),d.2,λs a=>?_⟩,h.code⟩,h.aw⟩,λf b=>⟨?_,h.fix f b⟩,h.up⟩,h.main⟩
   · intro c
     rw [az] at c;subst c;exact d.1 a
   · obtain ⟨p,u,_⟩:=pM (h.fix f b).1
     omega
theorem P8 {o:bD} (h:me o=true):fw o=2:=by rw [fw,if_pos h]
theorem P9 {o:bD} (h:me o=false) (k:¬uR o):fw o=1:=by
 rw [fw,if_neg (by rw [h]; decide),if_pos]
 cases a:r0 o with
 | false=>rfl
 | true=>
   cases b:bg o.code.length o.main with
   | false=>rfl
   | true=>exact absurd ((P7 o).1 ⟨a,b⟩) k
end Go.Bw
end
section
namespace Go.Bw
open Go
def cZ (n:Int):UInt8:=UInt8.ofNat (n % 256).toNat
def bj (n:Int):List UInt8:=[cZ (n.fdiv (2 ^ 56)),cZ (n.fdiv (2 ^ 48)),cZ (n.fdiv (2 ^ 40)),cZ (n.fdiv (2 ^ 32)),cZ (n.fdiv (2 ^ 24)),cZ (n.fdiv (2 ^ 16)),cZ (n.fdiv (2 ^ 8)),cZ n]
def bM (s:List UInt8):List UInt8:=cZ s.length::s
def numOf (l:List UInt8):Int:=l.foldl (λn b=>IntKind.i64.wrap (n*256+(b.toNat:Nat))) 0
def j9 (s:List UInt8):Option (Int×List UInt8):=match s with | []=>none | x::r=>some ((x.toNat:Nat),r)
def ib (s:List UInt8):Option (List UInt8×List UInt8):=match s with | []=>none | x::r=>if r.length<x.toNat then none else some (r.take x.toNat,r.drop x.toNat)
def eR (s:List UInt8):Option (Int×List UInt8):=if s.length<8 then none else some (numOf (s.take 8),s.drop 8)
theorem H0 (x:UInt8):cZ ((x.toNat:Nat):Int)=x:=by
 unfold cZ;have:=x.toNat_lt;rw [show (((x.toNat:Nat):Int) % 256).toNat=x.toNat by omega];simp
def pN (a:Int) (l:List UInt8):Int:=l.foldl (λn b=>n*256+(b.toNat:Nat)) a
theorem P' (a:Int) (b:Int):IntKind.i64.wrap (IntKind.i64.wrap a*256+b)=IntKind.i64.wrap (a*256+b):=by
 apply Bv;rw [IntKind.wrap_i64]; omega
theorem H2:∀(l:List UInt8) (a:Int),l.foldl (λn b=>IntKind.i64.wrap (n*256+(b.toNat:Nat))) (IntKind.i64.wrap a)=IntKind.i64.wrap (pN a l)
 | [],a=>rfl
 | x::r,a=>by
   simp only [xZ,pN];rw [P',H2 r]
   rfl
theorem H3 (l:List UInt8):numOf l=IntKind.i64.wrap (pN 0 l):=by
 have:=H2 l 0;rw [show IntKind.i64.wrap 0=0 from rfl] at this;exact this
theorem r1 {n:Int} {x:UInt8} (h:n % 256=(x.toNat:Int)):cZ n=x:=by
 rw [<-H0 x];unfold cZ;rw [h];have:=x.toNat_lt
 congr 1
 omega
theorem byte_at {k:Int} (c:0<k) {A b L:Int} (d:0<=b/\b<256) (a:0<=L/\L<k) {N:Int} (h:N=k*(256*A+b)+L):N / k % 256=b:=by
 subst h;rw [Int.add_comm,Int.add_mul_ediv_left _ _ ae,Int.ediv_eq_zero_of_lt a.1 a.2];omega
theorem P_ {l:List UInt8} (h:l.length=8):bj (numOf l)=l:=by
 match l,h with
 | [a,b,c,d,j,f,g,i],_=>
   have e:pN 0 [a,b,c,d,j,f,g,i]=(a.toNat:Int)*72057594037927936+(b.toNat:Int)*281474976710656+(c.toNat:Int)*1099511627776+(d.toNat:Int)*4294967296+(j.toNat:Int)*16777216+(f.toNat:Int)*65536+(g.toNat:Int)*256+(i.toNat:Int)*1:=by
     simp only [pN,xZ,List.foldl_nil]; omega
   rw [H3]
   obtain ⟨q,m⟩:∃q:Int,IntKind.i64.wrap (pN 0 [a,b,c,d,j,f,g,i])=pN 0 [a,b,c,d,j,f,g,i]-18446744073709551616*q:=by
     rw [IntKind.wrap_i64]
     generalize pN 0 [a,b,c,d,j,f,g,i]=N
     exact ⟨(N+9223372036854775808) / 18446744073709551616,ae⟩
   rw [m,e];simp only [bj,mw _ (show (0:Int)<=2 ^ 56 by decide),mw _ (show (0:Int)<=2 ^ 48 by decide),mw _ (show (0:Int)<=2 ^ 40 by decide),mw _ (show (0:Int)<=2 ^ 32 by decide),mw _ (show (0:Int)<=2 ^ 24 by decide),mw _ (show (0:Int)<=2 ^ 16 by decide),mw _ (show (0:Int)<=2 ^ 8 by decide)]
   have n:(0:Int)<=a.toNat/\(a.toNat:Int)<256:=by have:=a.toNat_lt; omega
   have o:(0:Int)<=b.toNat/\(b.toNat:Int)<256:=by have:=b.toNat_lt; omega
   have p:(0:Int)<=c.toNat/\(c.toNat:Int)<256:=by have:=c.toNat_lt; omega
   have r:(0:Int)<=d.toNat/\(d.toNat:Int)<256:=by have:=d.toNat_lt; omega
   have s:(0:Int)<=j.toNat/\(j.toNat:Int)<256:=by have:=j.toNat_lt; omega
   have t:(0:Int)<=f.toNat/\(f.toNat:Int)<256:=by have:=f.toNat_lt; omega
   have u:(0:Int)<=g.toNat/\(g.toNat:Int)<256:=by have:=g.toNat_lt; omega
   have E:(0:Int)<=i.toNat/\(i.toNat:Int)<256:=by have:=i.toNat_lt; omega
   have v:=byte_at (k:=2 ^ 56) aF (A:=-q) (b:=a.toNat) (L:=b.toNat*281474976710656+c.toNat*1099511627776+d.toNat*4294967296+j.toNat*16777216+f.toNat*65536+g.toNat*256+i.toNat*1) n (by clear e m; omega) (N:=(a.toNat:Int)*72057594037927936+(b.toNat:Int)*281474976710656+(c.toNat:Int)*1099511627776+(d.toNat:Int)*4294967296+(j.toNat:Int)*16777216+(f.toNat:Int)*65536+(g.toNat:Int)*256+(i.toNat:Int)*1-18446744073709551616*q) (by clear e m; omega);have w:=byte_at (k:=2 ^ 48) aF (A:=-256*q+a.toNat*1) (b:=b.toNat) (L:=c.toNat*1099511627776+d.toNat*4294967296+j.toNat*16777216+f.toNat*65536+g.toNat*256+i.toNat*1) o (by clear e m; omega) (N:=(a.toNat:Int)*72057594037927936+(b.toNat:Int)*281474976710656+(c.toNat:Int)*1099511627776+(d.toNat:Int)*4294967296+(j.toNat:Int)*16777216+(f.toNat:Int)*65536+(g.toNat:Int)*256+(i.toNat:Int)*1-18446744073709551616*q) (by clear e m; omega);have y:=byte_at (k:=2 ^ 40) aF (A:=-65536*q+a.toNat*256+b.toNat*1) (b:=c.toNat) (L:=d.toNat*4294967296+j.toNat*16777216+f.toNat*65536+g.toNat*256+i.toNat*1) p (by clear e m; omega) (N:=(a.toNat:Int)*72057594037927936+(b.toNat:Int)*281474976710656+(c.toNat:Int)*1099511627776+(d.toNat:Int)*4294967296+(j.toNat:Int)*16777216+(f.toNat:Int)*65536+(g.toNat:Int)*256+(i.toNat:Int)*1-18446744073709551616*q) (by clear e m; omega);have z:=byte_at (k:=2 ^ 32) aF (A:=-16777216*q+a.toNat*65536+b.toNat*256+c.toNat*1) (b:=d.toNat) (L:=j.toNat*16777216+f.toNat*65536+g.toNat*256+i.toNat*1) r (by clear e m; omega) (N:=(a.toNat:Int)*72057594037927936+(b.toNat:Int)*281474976710656+(c.toNat:Int)*1099511627776+(d.toNat:Int)*4294967296+(j.toNat:Int)*16777216+(f.toNat:Int)*65536+(g.toNat:Int)*256+(i.toNat:Int)*1-18446744073709551616*q) (by clear e m; omega);have B:=byte_at (k:=2 ^ 24) aF (A:=-4294967296*q+a.toNat*16777216+b.toNat*65536+c.toNat*256+d.toNat*1) (b:=j.toNat) (L:=f.toNat*65536+g.toNat*256+i.toNat*1) s (by clear e m; omega) (N:=(a.toNat:Int)*72057594037927936+(b.toNat:Int)*281474976710656+(c.toNat:Int)*1099511627776+(d.toNat:Int)*4294967296+(j.toNat:Int)*16777216+(f.toNat:Int)*65536+(g.toNat:Int)*256+(i.toNat:Int)*1-18446744073709551616*q) (by clear e m; omega);have C:=byte_at (k:=2 ^ 16) aF (A:=-1099511627776*q+a.toNat*4294967296+b.toNat*16777216+c.toNat*65536+d.toNat*256+j.toNat*1) (b:=f.toNat) (L:=g.toNat*256+i.toNat*1) t (by clear e m; omega) (N:=(a.toNat:Int)*72057594037927936+(b.toNat:Int)*281474976710656+(c.toNat:Int)*1099511627776+(d.toNat:Int)*4294967296+(j.toNat:Int)*16777216+(f.toNat:Int)*65536+(g.toNat:Int)*256+(i.toNat:Int)*1-18446744073709551616*q) (by clear e m; omega);have D:=byte_at (k:=2 ^ 8) aF (A:=-281474976710656*q+a.toNat*1099511627776+b.toNat*4294967296+c.toNat*16777216+d.toNat*65536+j.toNat*256+f.toNat*1) (b:=g.toNat) (L:=i.toNat*1) u (by clear e m; omega) (N:=(a.toNat:Int)*72057594037927936+(b.toNat:Int)*281474976710656+(c.toNat:Int)*1099511627776+(d.toNat:Int)*4294967296+(j.toNat:Int)*16777216+(f.toNat:Int)*65536+(g.toNat:Int)*256+(i.toNat:Int)*1-18446744073709551616*q) (by clear e m; omega)
   rw [r1 (x:=a) v,r1 (x:=b) w,r1 (x:=c) y,r1 (x:=d) z,r1 (x:=j) B,r1 (x:=f) C,r1 (x:=g) D,r1 (x:=i) (by clear e m; omega)]
theorem toNat_byO (n:Int):((cZ n).toNat:Int)=n % 256:=by
 unfold cZ;simp;omega
theorem Qa {n:Int} (h : -9223372036854775808<=n/\n<=9223372036854775807):numOf (bj n)=n:=by
 rw [H3]
 have e:pN 0 (bj n) % 18446744073709551616=n % 18446744073709551616:=by
   simp only [pN,bj,xZ,List.foldl_nil,toNat_byO,mw _ (show (0:Int)<=2 ^ 56 by decide),mw _ (show (0:Int)<=2 ^ 48 by decide),mw _ (show (0:Int)<=2 ^ 40 by decide),mw _ (show (0:Int)<=2 ^ 32 by decide),mw _ (show (0:Int)<=2 ^ 24 by decide),mw _ (show (0:Int)<=2 ^ 16 by decide),mw _ (show (0:Int)<=2 ^ 8 by decide)];omega
 rw [Bv _ _ e,IntKind.wrap_i64]; omega
theorem H4 {s:List UInt8} {r:Int×List UInt8} (h:j9 s=some r):s=cZ r.1::r.2:=by
 cases s with
 | nil=>cases h
 | cons x q=>simp only [j9] at h; injection h with h; subst h; simp [H0]
theorem wX {s:List UInt8} {r:Int×List UInt8} (h:eR s=some r):s=bj r.1++r.2:=by
 unfold eR at h
 split at h
 · cases h
 · injection h with h; subst h
   simp only;rw [P_ (by simp; omega),ot]
theorem bI (n:Int):(bj n).length=8:=rfl
def r2 (n:Int):Prop:=-9223372036854775808<=n/\n<=9223372036854775807
theorem pO {n:Int} (h:r2 n) (r:List UInt8):eR (bj n++r)=some (n,r):=by
 unfold eR;rw [if_neg (by rw [dG,bI]; omega)]
 have a:(bj n++r).take 8=bj n:=by rw [<-bI n,List.take_left]
 have b:(bj n++r).drop 8=r:=by rw [<-bI n,List.drop_left]
 rw [a,b,Qa h]
theorem zk {n:Int} (h:0<=n/\n<=255) (r:List UInt8):j9 (cZ n::r)=some (n,r):=by
 show some ((((cZ n).toNat:Nat):Int),r)=_
 rw [toNat_byO]
 have:n % 256=n:=ae
 rw [this]
theorem zl {s:List UInt8} (h:s.length<=255) (r:List UInt8):ib (bM s++r)=some (s,r):=by
 show ib (cZ s.length::(s++r))=_
 have e:(cZ (s.length:Int)).toNat=s.length:=by
   have:=toNat_byO (s.length:Int);omega
 unfold ib;dsimp only;rw [e,if_neg (by rw [dG]; omega),List.take_left,List.drop_left]
def cX (s:List UInt8):Option (Nat×List UInt8):=(eR s).bind λp=>if p.1<0\/32768<p.1 then none else some (p.1.toNat,p.2)
def f' {α:Type} (one:List UInt8->Option (α×List UInt8)):Nat->List UInt8->Option (List α×List UInt8)
 | 0,s=>some ([],s)
 | k+1,s=>(one s).bind λp=>(f' one k p.2).bind λq=>some (p.1::q.1,q.2)
def fp {α:Type} (one:List UInt8->Option (α×List UInt8)) (s:List UInt8):Option (List α×List UInt8):=(cX s).bind λp=>f' one p.1 p.2
def oR {α:Type} (f:α->List UInt8) (l:List α):List UInt8:=bj l.length++l.flatMap f
theorem H5 {α:Type} {one:List UInt8->Option (α×List UInt8)} {f:α->List UInt8}:∀(l:List α) (r:List UInt8) (a:∀x ∈ l,∀r,one (f x++r)=some (x,r)),f' one l.length (l.flatMap f++r)=some (l,r)
 | [],r,a=>rfl
 | x::l,r,a=>by
   rw [du,f',gd,et,a x aj]
   show (f' one l.length (l.flatMap f++r)).bind _=_
   rw [H5 l r λy b=>a y (by simp [b])]
   rfl
theorem H6 {s r:List UInt8} {k:Nat} (h:cX s=some (k,r)):s=bj (k:Int)++r/\k<=32768:=by
 unfold cX at h;obtain ⟨⟨n,d⟩,f,h⟩:=b'.1 h
 split at h
 · cases h
 · rename_i b
   injection h with h
   injection h with c a
   have b:¬(n<0\/32768<n):=b;have c:n.toNat=k:=c;have a:d=r:=a;subst a
   have e:n=(k:Int):=ae
   subst e;exact ⟨wX f,ae⟩
theorem Qb {k:Nat} (h:k<=32768) (r:List UInt8):cX (bj (k:Int)++r)=some (k,r):=by
 unfold cX;rw [pO ⟨ae,ae⟩]
 show (if (k:Int)<0\/32768<(k:Int) then none else some ((k:Int).toNat,r))=_
 rw [if_neg ae]
 rfl
theorem zm {α:Type} {one:List UInt8->Option (α×List UInt8)} {f:α->List UInt8} {l:List α} (a:l.length<=32768) (b:∀x ∈ l,∀r,one (f x++r)=some (x,r)) (r:List UInt8):fp one (oR f l++r)=some (l,r):=by
 unfold fp oR;rw [et,Qb a];exact H5 l r b
def eY (i:bA):List UInt8:=cZ i.op::(bj i.a++bj i.b)
def f_ (f:aD):List UInt8:=bj f.at_++cZ f.kind::bj f.m
def jL (s:List UInt8):Option (bA×List UInt8):=(j9 s).bind λa=>(eR a.2).bind λb=>(eR b.2).bind λc=>some (⟨a.1,b.1,c.1⟩,c.2)
def j' (s:List UInt8):Option (aD×List UInt8):=(eR s).bind λa=>(j9 a.2).bind λb=>(eR b.2).bind λc=>some (⟨a.1,b.1,c.1⟩,c.2)
def kq (o:bD):List UInt8:=bM o.nm++(oR bM o.aq++(bj o.data++(oR eY o.code++(oR f_ o.fix++(oR bj o.aw++bj o.main)))))
def kM (s:List UInt8):Option (bD×List UInt8):=
 (ib s).bind λa=>(fp ib a.2).bind λb=>(eR b.2).bind λc=>(fp jL c.2).bind λd=>(fp j' d.2).bind λe=>(fp eR e.2).bind λf=>(eR f.2).bind λg=>some (⟨a.1,b.1,c.1,d.1,e.1,f.1,g.1⟩,g.2)
theorem Qc {s:List UInt8} {x:bA} {r:List UInt8} (h:jL s=some (x,r)):s=eY x++r:=by
 unfold jL at h;obtain ⟨a,d,h⟩:=b'.1 h;obtain ⟨b,e,h⟩:=b'.1 h;obtain ⟨c,f,h⟩:=b'.1 h
 injection h with h
 injection h with g i
 subst g; subst i;rw [H4 d,wX e,wX f];simp [eY]
theorem Qd {s:List UInt8} {x:aD} {r:List UInt8} (h:j' s=some (x,r)):s=f_ x++r:=by
 unfold j' at h;obtain ⟨a,d,h⟩:=b'.1 h;obtain ⟨b,e,h⟩:=b'.1 h;obtain ⟨c,f,h⟩:=b'.1 h
 injection h with h
 injection h with g i
 subst g; subst i;rw [wX d,H4 e,wX f];simp [f_]
structure CZ (o:bD):Prop where
 code:∀i ∈ o.code,r2 i.a/\r2 i.b
theorem Qe {o:bD} (h:uR o) (l:me o=false) (hi:CZ o) (q:∀s ∈ o.nm::o.aq,s.length<=255) (t:o.fix.length<=32768) (r:List UInt8):kM (kq o++r)=some (o,r):=by
 unfold me at l;simp only [hM,decide_eq_false_iff_not] at l
 have f:∀x,bg o.code.length x=true->r2 x:=λx c=>by
   obtain ⟨p,rfl,D⟩:=pM c;exact ⟨ae,ae⟩
 have u:∀r,ib (bM o.nm++r)=some (o.nm,r):=zl (q _ aj);have v:∀r,fp ib (oR bM o.aq++r)=some (o.aq,r):=zm ae λx c r=>zl (q x (by simp [c])) r;have w:∀r,eR (bj o.data++r)=some (o.data,r):=pO ⟨by have:=h.data; omega,by have:=h.data; omega⟩
 have y:∀r,fp jL (oR eY o.code++r)=some (o.code,r):=zm ae λx c r=>by
   have k:=h.code x c;have d:=hi.code x c
   show jL (cZ x.op::((bj x.a++bj x.b)++r))=_
   have g:=zk (n:=x.op) ⟨by have:=k.1; omega,by have:=k.2; omega⟩;have i:=pO d.1;have j:=pO d.2;unfold jL;simp only [et,g,i,j,bt]
 have z:∀r,fp j' (oR f_ o.fix++r)=some (o.fix,r):=zm t λx c r=>by
   obtain ⟨A,d⟩:=h.fix x c
   have E:(x.kind=1\/x.kind=2\/x.kind=3)/\0<=x.m/\x.m<=3:=by
     unfold i' at d
     split at d
     · rename_i e
       simp only [cO,decide_eq_true_eq,beq_iff_eq] at d;exact ⟨.inl e,ae,ae⟩
     · split at d
       · rename_i e
         simp only [cO,decide_eq_true_eq] at d;exact ⟨.inr e,ae,ae⟩
       · cases d
   have g:=pO (f _ A);have i:=zk (n:=x.kind) ⟨ae,ae⟩;have j:=pO (n:=x.m) ⟨ae,ae⟩;unfold j' f_;simp only [et,fL,g,i,j,bt]
 have B:∀r,fp eR (oR bj o.aw++r)=some (o.aw,r):=zm ae λx c r=>pO (f x (h.aw x c)) r;have C:∀r,eR (bj o.main++r)=some (o.main,r):=pO (f _ h.main);unfold kM kq;simp only [et,u,v,w,y,z,B,C,bt]
end Go.Bw
end
section
namespace Go.Bw
open Go
structure Ns {α:Type} (gl:List UInt8->Option (α×List UInt8)) (no:List UInt8×Bool->α×(List UInt8×Bool)):Prop where
 some_:∀s r,gl s=some r->no (s,false)=(r.1,(r.2,false))
 none_:∀s,gl s=none->(no (s,false)).2.2=true
 bad:∀p,p.2=true->(no p).2.2=true
theorem Ns.pure {α:Type} (x:α):Ns (λs=>some (x,s)) (λp=>(x,p)):=⟨λs r h=>by injection h with h; subst h; rfl,λs h=>(by cases h),λp h=>h⟩
theorem Ns.bind {α β:Type} {c:List UInt8->Option (α×List UInt8)} {n1:List UInt8×Bool->α×(List UInt8×Bool)} {f:α->List UInt8->Option (β×List UInt8)} {n2:α->List UInt8×Bool->β×(List UInt8×Bool)}
   (d:Ns c n1) (e:∀a,Ns (f a) (n2 a)):Ns (λs=>(c s).bind λp=>f p.1 p.2) (λp=>n2 (n1 p).1 (n1 p).2):=by
 refine ⟨λs r h=>?_,λs h=>?_,λp h=>(e _).bad _ (d.bad p h)⟩
 · obtain ⟨a,b,g⟩:=b'.1 h
   show n2 (n1 (s,false)).1 (n1 (s,false)).2=_
   rw [d.some_ s a b];exact (e _).some_ _ _ g
 · show (n2 (n1 (s,false)).1 (n1 (s,false)).2).2.2=true
   cases b:c s with
   | none=>exact (e _).bad _ (d.none_ s b)
   | some a=>
     have h:(c s).bind (λp=>f p.1 p.2)=none:=h;rw [b] at h;rw [d.some_ s a b];exact (e _).none_ _ h
def tb (s:List UInt8):Option bD:=(kM s).bind λp=>if p.2=[]/\fw p.1=0 then some p.1 else none
end Go.Bw
end
section
namespace Go.Bw
open Go
theorem H8 {n:Int}:∀(l:List aD) (lo:Int),lo<=n->(∀f ∈ l,lo<=f.at_/\f.at_<n)->(l.Pairwise λa b=>a.at_<b.at_)->(l.length:Int)<=n-lo
 | [],lo,h,_,_=>by simp; omega
 | x::r,lo,h,d,c=>by
   rw [A9] at c;have g:=d x aj;have i:=H8 r (x.at_+1) ae (λf e=>⟨by have:=c.1 f e; omega,(d f (by simp [e])).2⟩) c.2;simp only [du];omega
theorem H9 {o:bD} (h:uR o):o.fix.length<=o.code.length:=by
 have:=H8 (n:=(o.code.length:Int)) o.fix 0 ae (λf a=>by
   obtain ⟨p,b,c⟩:=pM (h.fix f a).1
   omega) h.up
 omega
theorem Qf {s:List UInt8} (h:ep s=true):s.length<=255:=by
 unfold ep at h;simp only [cO,decide_eq_true_eq] at h;omega
theorem tc {o:bD} (h:fw o=0):me o=false/\uR o:=by
 have a:me o=false:=by
   cases a:me o with
   | false=>rfl
   | true=>rw [P8 a] at h; cases h
 refine ⟨a,?_⟩;refine Classical.byContradiction λb=>?_;rw [P9 a b] at h;cases h
def kN (o:bD):List UInt8×Int:=if fw o=0 then (if 32768<(kq o).length then ([],2) else (kq o,0)) else ([],fw o)
theorem Qg {o:bD} (h:(kN o).2=0) (hi:CZ o):tb (kN o).1=some o:=by
 unfold kN at h ⊢
 split at h
 · rename_i a
   rw [if_pos a]
   split at h
   · cases h
   · rename_i f
     rw [if_neg f];obtain ⟨c,b⟩:=tc a;have i:=H9 b;have d:=c;unfold me at d;simp only [hM,decide_eq_false_iff_not] at d;have e:=Qe b c hi (λs g=>Qf (b.names s g)) ae [];rw [h3] at e
     show tb (kq o)=_
     unfold tb;rw [e]
     show (if ([]:List UInt8)=[]/\fw o=0 then some o else none)=some o
     rw [if_pos ⟨rfl,a⟩]
 · rename_i a
   exact absurd h a
end Go.Bw
end
section
namespace Go.Bw
open Go
theorem H' {α:Type} {f:α->List UInt8} {k:Nat}:∀(l:List α) (h:∀x ∈ l,(f x).length<=k),(l.flatMap f).length<=k*l.length
 | [],_=>by simp
 | x::r,h=>by
   have b:=h x aj;have c:=H' r λy a=>h y (by simp [a]);simp only [gd,dG,du];rw [Nat.mul_add];omega
theorem zn {α:Type} {f:α->List UInt8} {k:Nat} {l:List α} (h:∀x ∈ l,(f x).length<=k) (i:Nat):((l.take i).flatMap f).length<=k*l.length:=by
 have a:=H' (l.take i) λx b=>h x (x_ b)
 have c:(l.take i).length<=l.length:=by simp; omega
 exact kZ a (Nat.mul_le_mul_left _ c)
theorem Qh (i:bA):(eY i).length=17:=rfl
theorem Qi (f:aD):(f_ f).length=17:=rfl
theorem i_ (s:List UInt8):(bM s).length=s.length+1:=rfl
structure qN (o:bD):Prop where
 nm:o.nm.length<=8
 un:∀s ∈ o.aq,s.length<=8
 aq:o.aq.length<=3
 code:o.code.length<=2048
 aw:o.aw.length<=6
 fix:o.fix.length<=2048
theorem H_ {s:List UInt8} (h:ep s=true):s.length<=8:=by
 unfold ep at h;simp only [cO,decide_eq_true_eq] at h;omega
theorem iM {o:bD} (h:fw o=0):qN o:=by
 obtain ⟨b,a⟩:=tc h;have d:=H9 a;unfold me at b;simp only [hM,decide_eq_false_iff_not] at b;exact ⟨H_ (a.names _ aj),λs c=>H_ (a.names s (by simp [c])),ae,ae,ae,ae⟩
theorem qN.us {o:bD} (h:qN o) (i:Nat):((o.aq.take i).flatMap bM).length<=27:=by
 have b:=zn (f:=bM) (k:=9) (l:=o.aq) (λx a=>by have:=h.un x a; rw [i_]; omega) i;have:=h.aq;omega
theorem qN.co {o:bD} (h:qN o) (i:Nat):((o.code.take i).flatMap eY).length<=34816:=by
 have a:=zn (f:=eY) (k:=17) (l:=o.code) (λx b=>A' (Qh x)) i;have:=h.code;omega
theorem qN.fx {o:bD} (h:qN o) (i:Nat):((o.fix.take i).flatMap f_).length<=34816:=by
 have a:=zn (f:=f_) (k:=17) (l:=o.fix) (λx b=>A' (Qi x)) i;have:=h.fix;omega
theorem qN.en {o:bD} (h:qN o) (i:Nat):((o.aw.take i).flatMap bj).length<=48:=by
 have a:=zn (f:=bj) (k:=8) (l:=o.aw) (λx b=>A' (bI x)) i;have:=h.aw;omega
theorem Qk (n:Nat) (x:Int):dS x 0 ((n:Int)-1)=bg n x:=by
 unfold dS bg;rw [jz];simp;omega
theorem Ia {α:Type} {p:α->Prop} {l:List α} {i:Nat} {x:α} (h:l[i]? = some x) (b:∀y ∈ l.take i,p y) (c:p x):∀y ∈ l.take (i+1),p y:=λy a=>by
 rw [aZ,h] at a
 rcases dA.1 a with a | a
 · exact b y a
 · have a:y ∈ [x]:=a
   rw [az] at a;subst a;exact c
def Ib (o:bD) (i:Nat) (x:aD):Bool:=
 ((((!(dS x.at_ 0 ((o.code.length:Int)-1))||(decide ((0:Int)<(i:Int))&&decide (x.at_<=((o.fix[i-1]?).map (·.at_)).getD 0)))||!(dS x.kind 1 3))||!(dS x.m 0 (o.aq.length:Int)))||!(dS (j8 o.code x.at_) 0 2048))||(x.kind==1&&(!(x.m==0)||decide ((o.code.length:Int)<j8 o.code x.at_)))
theorem Ql (U n:Nat) (k m a:Int):(!(!(dS k 1 3))&&(!(!(dS m 0 (U:Int)))&&(!(!(dS a 0 2048))&&!(k==1&&(!(m==0)||decide ((n:Int)<a))))))=i' U n k m a:=by
 unfold i' dS
 by_cases b:k=1
 · subst b
   rw [if_pos rfl,jz]
   by_cases c:m=0
   · subst c
     simp
   · simp [c]
 · rw [if_neg b]
   by_cases d:k=2\/k=3
   · rw [if_pos d,jz]
     have e:(k==1)=false:=by simpa using b
     rw [e];simp;omega
   · rw [if_neg d,jz]
     simp;omega
theorem Qm {l:List aD} {i:Nat} {x:aD} (f:l[i]? = some x) (g:(l.take i).Pairwise λa b=>a.at_<b.at_) (c:0<i->((l[i-1]?).map (·.at_)).getD 0<x.at_):(l.take (i+1)).Pairwise λa b=>a.at_<b.at_:=by
 rw [aZ,f]
 show (l.take i++[x]).Pairwise _
 rw [A7];refine ⟨g,by simp,λy k m h=>?_⟩;rw [az] at h;subst h;obtain ⟨j,e⟩:=jA k
 have n:j<i:=by
   have:=(cf.1 e).1;simp at this;omega
 have o:l[j]? = some y:=by rw [Fp n] at e; exact e
 have w:i<l.length:=(cf.1 f).1;have c:=c (by omega);obtain ⟨u,d⟩:∃u,l[i-1]? = some u:=⟨_,dL (by omega)⟩;rw [d] at c;have c:u.at_<m.at_:=c
 by_cases p:j=i-1
 · subst p
   rw [o] at d
   injection d with d
   subst d;exact c
 · have q:(l.take i)[i-1]? = some u:=by rw [jy,if_pos (by omega)]; exact d
   obtain ⟨r,s⟩:=cf.1 e;obtain ⟨t,v⟩:=cf.1 q;have:=x7.1 g j (i-1) r t (by omega);rw [s,v] at this;omega
def wY (o:bD) (i:Nat):Prop:=(∀f ∈ o.fix.take i,bg o.code.length f.at_=true/\i' o.aq.length o.code.length f.kind f.m (j8 o.code f.at_)=true)/\(o.fix.take i).Pairwise λa b=>a.at_<b.at_
theorem wY.zero (o:bD):wY o 0:=⟨aj,aj⟩
theorem wY.next {o:bD} {i:Nat} {x:aD} (h:wY o i) (d:o.fix[i]? = some x) (c:Ib o i x=false):wY o (i+1):=by
 unfold Ib at c;simp only [hM] at c;obtain ⟨⟨⟨⟨⟨e,b⟩,g⟩,j⟩,k⟩,l⟩:=c;refine ⟨λf a=>?_,Qm d h.2 λm=>?_⟩
 · rw [aZ,d] at a
   rcases dA.1 a with a | a
   · exact h.1 f a
   · have a:f ∈ [x]:=a
     rw [az] at a;subst a;refine ⟨(Qk _ _).symm.trans (by simpa using e),?_⟩;rw [<-Ql,g,j,k,l]
     rfl
 · rw [decide_eq_true (show (0:Int)<(i:Int) by omega)] at b
   have b:decide (x.at_<=((o.fix[i-1]?).map (·.at_)).getD 0)=false:=b;have:=of_decide_eq_false b;omega
theorem zo {α:Type} {one:List UInt8->Option (α×List UInt8)} {k m:Nat} {a s:List UInt8} {b:List α} (h:f' one k a=(f' one (m+1) s).map λq=>(b++q.1,q.2)) (c:one s=none):f' one k a=none:=by
 rw [h,f',c]
 rfl
theorem zp {α:Type} {one:List UInt8->Option (α×List UInt8)} {k m:Nat} {b s a:List UInt8} {c:List α} {x:α} (h:f' one k b=(f' one (m+1) s).map λq=>(c++q.1,q.2)) (d:one s=some (x,a)):f' one k b=(f' one m a).map λq=>((c++[x])++q.1,q.2):=by
 rw [h,f',d]
 show ((f' one m a).bind λq=>some (x::q.1,q.2)).map _=_
 cases f' one m a with
 | none=>rfl
 | some q=>simp
theorem zq {α:Type} {one:List UInt8->Option (α×List UInt8)} {k:Nat} {a s:List UInt8} {b:List α} (h:f' one k a=(f' one 0 s).map λq=>(b++q.1,q.2)):f' one k a=some (b,s):=by
 rw [h,f'];simp
theorem zr {s:List UInt8} {r:Nat×List UInt8} (h:cX s=some r):r.1<=32768:=(H6 (s:=s) (r:=r.2) (k:=r.1) h).2
theorem cD {s:List UInt8} {r:Int×List UInt8} (h:eR s=some r):r.2.length<=s.length:=by
 unfold eR at h; split at h; cases h; injection h with h; subst h; simp
theorem qO {s:List UInt8} {r:Int×List UInt8} (h:j9 s=some r):r.2.length<=s.length:=by
 cases s with
 | nil=>cases h
 | cons x q=>simp only [j9] at h; injection h with h; subst h; simp
theorem kO {s:List UInt8} {r:List UInt8×List UInt8} (h:ib s=some r):r.2.length<=s.length:=by
 cases s with
 | nil=>cases h
 | cons x q=>simp only [ib] at h; split at h; cases h; injection h with h; subst h; simp; omega
theorem wZ {s:List UInt8} {r:Nat×List UInt8} (h:cX s=some r):r.2.length<=s.length:=by
 have:=(H6 (s:=s) (r:=r.2) (k:=r.1) h).1;rw [this];simp
theorem lG {s:List UInt8} {r:bA×List UInt8} (h:jL s=some r):r.2.length<=s.length:=by
 have:=Qc (x:=r.1) (r:=r.2) h;rw [this];simp
theorem C0 {s:List UInt8} {r:aD×List UInt8} (h:j' s=some r):r.2.length<=s.length:=by
 have:=Qd (x:=r.1) (r:=r.2) h;rw [this];simp
theorem Ic {α:Type} {one:List UInt8->Option (α×List UInt8)} (a:∀s r,one s=some r->r.2.length<=s.length):∀(k:Nat) {s:List UInt8} {r:List α×List UInt8},f' one k s=some r->r.2.length<=s.length
 | 0,s,r,h=>by injection h with h; subst h; exact dp _
 | k+1,s,r,h=>by
   rw [f'] at h;obtain ⟨p,b,h⟩:=b'.1 h;obtain ⟨q,c,h⟩:=b'.1 h
   injection h with h
   subst h;have d:=Ic a k c;have e:=a _ _ b;exact kZ d e
theorem oS {α:Type} {one:List UInt8->Option (α×List UInt8)} (a:∀s r,one s=some r->r.2.length<=s.length) {s:List UInt8} {r:List α×List UInt8} (h:fp one s=some r):r.2.length<=s.length:=by
 unfold fp at h;obtain ⟨p,b,h⟩:=b'.1 h;exact kZ (Ic a _ h) (wZ b)
end Go.Bw
end
section
namespace Go.Bw
open Go
def aO (l:List bD):List (List UInt8):=l.map (·.nm)
structure Pl where
 code:Int
 data:Int
 qE:List Nat
def qP (l:List bD):Nat:=(l.map (·.code.length)).sum
def eW (l:List bD):Int:=(l.map (·.data)).sum
def e9 (l:List bD) (k:Nat):Int:=((l.length+1+qP (l.take k):Nat):Int)
def gT (l:List bD) (k:Nat):Int:=eW (l.take k)
def r3 (ns:List (List UInt8)) (o:bD):Bool:=o.aq.all λs=>(idxOf s ns 0).isSome
def qQ (ns:List (List UInt8)) (s:List UInt8):Nat:=(idxOf s ns 0).getD 0
def c6 (l:List bD) (n:Nat) (o:bD):List Nat:=n::o.aq.map (qQ ((aO l).take n))
def oT (l:List bD) (n:Nat) (o:bD):Pl:=⟨e9 l n,gT l n,c6 l n o⟩
def mN (l:List bD):List Pl:=l.mapIdx λn o=>oT l n o
def pP (l:List bD):Pl:=⟨e9 l l.length,gT l l.length,[]⟩
def iS (l:List bD) (k:Nat):Nat:=((l[k]?).map (·.aw.length)).getD 0
def hU (l:List bD) (n:Nat) (o:bD) (m:Int):Nat:=((c6 l n o)[m.toNat]?).getD 0
def pQ (l:List bD) (n:Nat) (o:bD) (f:aD):Bool:=f.kind==2&&decide ((iS l (hU l n o f.m):Int)<=j8 o.code f.at_)
def qR (p:Nat->bD->Bool) (l:List bD):Bool:=(l.mapIdx p).any id
def iC (l:List bD):Int:=if l.length<1\/4<l.length then 2 else er (gk fw l) (if e6 (aO l)=true then 6 else if qR (λn o=>!(r3 ((aO l).take n) o)) l=true then 9 else if qR (λn o=>o.fix.any (pQ l n o)) l=true then 5 else 0)
theorem C1 {p:Nat->bD->Bool} {l:List bD} {n:Nat} {o:bD} (h:l[n]? = some o) (a:p n o=true):qR p l=true:=by
 unfold qR;rw [rr];exact ⟨true,ax (i:=n) (by rw [vU,h,da,a]),O⟩
theorem zt {p:Nat->bD->Bool} {l:List bD} (h:∀n o,l[n]? = some o->p n o=false):qR p l=false:=by
 unfold qR;rw [vR];intro x b;obtain ⟨n,a⟩:=jA b;rw [vU] at a;obtain ⟨o,c,rfl⟩:=dr.1 a;simp [h n o c]
theorem Ie {p:Nat->bD->Bool} {l:List bD} (h:qR p l=false) {n:Nat} {o:bD} (a:l[n]? = some o):p n o=false:=by
 cases b:p n o with
 | false=>rfl
 | true=>rw [C1 a b] at h; cases h
theorem uV (l:List bD):(aO l).length=l.length:=by simp [aO]
theorem Ig {l:List bD} {i:Nat} {o:bD} (h:l[i]? = some o):(aO l)[i]? = some o.nm:=by unfold aO; rw [eZ,h]; rfl
theorem Ih {l:List bD} (h:l.length<1\/4<l.length):iC l=2:=by rw [iC,if_pos h]
theorem Qn {l:List bD} {i:Nat} {o:bD} (a:¬(l.length<1\/4<l.length)) (hi:l[i]? = some o) (b:∀x ∈ l.take i,fw x=0) (h:¬fw o=0):iC l=fw o:=by
 rw [iC,if_neg a,uC fw hi (mI.2 b) h,py h]
theorem zu {l:List bD} (a:¬(l.length<1\/4<l.length)) (b:∀x ∈ l,fw x=0):iC l=if e6 (aO l)=true then 6 else if qR (λn o=>!(r3 ((aO l).take n) o)) l=true then 9 else if qR (λn o=>o.fix.any (pQ l n o)) l=true then 5 else 0:=by
 rw [iC,if_neg a,mI.2 b,k8]
structure Qo (l:List bD):Prop where
 aH:¬(l.length<1\/4<l.length)
 oU:∀o ∈ l,fw o=0
 nd:(aO l).Nodup
 known:∀n o,l[n]? = some o->r3 ((aO l).take n) o=true
 Ii:∀n o,l[n]? = some o->∀f ∈ o.fix,pQ l n o f=false
theorem Qp {l:List bD}:iC l=0↔Qo l:=by
 constructor
 · intro h
   have b:¬(l.length<1\/4<l.length):=λb=>by rw [Ih b] at h; cases h
   have d:∀x ∈ l,fw x=0:=by
     rw [iC,if_neg b,j1] at h;exact mI.1 h.1
   rw [zu b d] at h
   split at h
   · cases h
   · rename_i e
     split at h
     · cases h
     · rename_i g
       split at h
       · cases h
       · rename_i i
         refine ⟨b,d,jl.2 (by simpa using e),λn o a=>?_,λn o a f c=>?_⟩
         · have:=Ie (by simpa using g) a
           simpa using this
         · have:=Ie (p:=λn o=>o.fix.any (pQ l n o)) (by simpa using i) a
           rw [vR] at this
           simpa using this f c
 · intro h
   rw [zu h.aH h.oU,jl.1 h.nd,if_neg aF,zt (λn o a=>by rw [h.known n o a]; rfl),if_neg aF,zt (λn o a=>by rw [vR]; intro f c; rw [h.Ii n o a f c]; decide),if_neg aF]
theorem C2 {l:List bD} {i:Nat} {o:bD} (h:l[i]? = some o):qP (l.take (i+1))=qP (l.take i)+o.code.length:=by
 unfold qP;rw [aZ,h];simp
theorem Ij {l:List bD} {i:Nat} {o:bD} (h:l[i]? = some o):eW (l.take (i+1))=eW (l.take i)+o.data:=by
 unfold eW;rw [aZ,h];simp
theorem Ik {l:List bD} (h:∀o ∈ l,o.code.length<=2048):∀i,i<=l.length->qP (l.take i)<=2048*i
 | 0,_=>by simp [qP]
 | i+1,hi=>by
   obtain ⟨o,a⟩:∃o,l[i]? = some o:=⟨_,dL (by omega)⟩;have b:=Ik h i (by omega);have c:=h o (ax a);rw [C2 a];omega
theorem Il {l:List bD} (h:∀o ∈ l,0<=o.data/\o.data<=512):∀i,i<=l.length->0<=eW (l.take i)/\eW (l.take i)<=512*i
 | 0,_=>by simp [eW]
 | i+1,hi=>by
   obtain ⟨o,a⟩:∃o,l[i]? = some o:=⟨_,dL (by omega)⟩;have b:=Il h i (by omega);have c:=h o (ax a);rw [Ij a];omega
theorem Im {o:bD} (h:fw o=0):0<=o.data/\o.data<=512:=(tc h).2.data
theorem zv {l:List bD} (c:¬(l.length<1\/4<l.length)) (h:∀o ∈ l,fw o=0) {k:Nat} (a:k<=l.length):0<=e9 l k/\e9 l k<=9000:=by
 have d:=Ik (λo b=>(iM (h o b)).code) k a;unfold e9;omega
theorem zw {l:List bD} (c:¬(l.length<1\/4<l.length)) (h:∀o ∈ l,fw o=0) {k:Nat} (a:k<=l.length):0<=gT l k/\gT l k<=2048:=by
 have d:=Il (λo b=>Im (h o b)) k a;unfold gT;omega
theorem C3 {l:List bD} {i:Nat} {o:bD} (h:l[i]? = some o):e9 l (i+1)=e9 l i+(o.code.length:Int):=by
 unfold e9;rw [C2 h];omega
theorem Qq {l:List bD} {i:Nat} {o:bD} (h:l[i]? = some o):gT l (i+1)=gT l i+o.data:=by
 unfold gT;rw [Ij h]
theorem C4 {l:List bD} {i:Nat} {o:bD} (h:l[i]? = some o):(mN l)[i]? = some (oT l i o):=by unfold mN; rw [vU,h]; rfl
theorem r4 (l:List bD):(mN l).length=l.length:=by simp [mN]
theorem Qr {l:List bD} {i:Nat} {o:bD} (h:l[i]? = some o):(mN l).take (i+1)=(mN l).take i++[oT l i o]:=by rw [aZ,C4 h]; rfl
theorem C5 {l:List bD} {i:Nat} {o:bD} (h:l[i]? = some o):(mN l++[pP l])[i]? = some (oT l i o):=by
 have hi:=(cf.1 h).1;rw [ql (by rw [r4]; exact hi),C4 h]
theorem Qs (l:List bD):(mN l++[pP l])[l.length]? = some (pP l):=by
 rw [hD (by rw [r4]; exact dp _),r4,sF]
 rfl
theorem C6 (l:List bD) (n:Nat) (o:bD):(c6 l n o).length=o.aq.length+1:=by simp [c6]
theorem Qt {l:List bD} {n:Nat} {o:bD} (c:n<l.length) (d:r3 ((aO l).take n) o=true):∀k ∈ c6 l n o,k<l.length:=by
 intro k a;unfold c6 at a
 rcases dU.1 a with rfl | a
 · exact c
 · obtain ⟨s,e,rfl⟩:=k0.1 a
   have b:=fG.1 d s e;unfold qQ
   cases hi:idxOf s ((aO l).take n) 0 with
   | none=>rw [hi] at b; cases b
   | some k=>
     have:=(cf.1 (s6 hi).2).1;rw [jh,uV] at this
     show k<l.length
     omega
theorem Io {l:List bD} {n:Nat} {o:bD} (c:n<l.length) (d:r3 ((aO l).take n) o=true) {m:Int} (f:0<=m) (g:m<=(o.aq.length:Int)):(c6 l n o)[m.toNat]? = some (hU l n o m)/\hU l n o m<l.length:=by
 have a:m.toNat<(c6 l n o).length:=by rw [C6]; omega
 have b:(c6 l n o)[m.toNat]? = some (c6 l n o)[m.toNat]:=dL a
 have e:hU l n o m=(c6 l n o)[m.toNat]:=by unfold hU; rw [b]; rfl
 rw [e];exact ⟨b,Qt c d _ (x6 a)⟩
def oV (c:List bA) (p:Nat) (v:Int):List bA:=match c[p]? with | some x=>c.set p ⟨x.op,v,x.b⟩ | none=>c
def C7 (l:List bD) (k:Nat) (a:Int):Int:=((l[k]?).bind λo=>o.aw[a.toNat]?).getD 0
def pR (l:List bD) (n:Nat) (o:bD) (f:aD):Int:=
 if f.kind=1 then j8 o.code f.at_+e9 l n else if f.kind=2 then e9 l (hU l n o f.m)+C7 l (hU l n o f.m) (j8 o.code f.at_) else j8 o.code f.at_+gT l (hU l n o f.m)
def lg (l:List bD) (n:Nat) (o:bD) (c:List bA) (fs:List aD):List bA:=fs.foldl (λc f=>oV c f.at_.toNat (pR l n o f)) c
def n4 (l:List bD):List bA:=l.mapIdx λn o=>(⟨13,e9 l n+o.main,0⟩:bA)
def kr (l:List bD) (n:Nat) (o:bD):List bA:=lg l n o o.code o.fix
def uW (l:List bD) (n:Nat):List bA:=((l.mapIdx λn o=>kr l n o).take n).flatten
def gU (l:List bD) (n:Nat):List bA:=n4 l++[⟨20,0,0⟩]++uW l n
def Ip (l:List bD):List bA:=gU l l.length
def gV (l:List bD):(List bA×Int)×Int:=if iC l≠0 then (([],0),iC l) else if 2048<e9 l l.length\/512<gT l l.length then (([],0),2) else ((Ip l,gT l l.length),0)
theorem Qu (c:List bA) (p:Nat) (v:Int):(oV c p v).length=c.length:=by unfold oV; split<;>simp
theorem Qv {c:List bA} {p:Nat} {x:bA} (h:c[p]? = some x) (v:Int):oV c p v=c.set p ⟨x.op,v,x.b⟩:=by unfold oV; rw [h]
theorem Qw {c:List bA} {p q:Nat} (v:Int) (h:p≠q):(oV c p v)[q]? = c[q]?:=by
 unfold oV
 split
 · rw [Fq h]
 · rfl
theorem zx (l:List bD) (n:Nat) (o:bD):∀(fs:List aD) (c:List bA),(lg l n o c fs).length=c.length
 | [],c=>rfl
 | f::r,c=>by
   show (lg l n o (oV c f.at_.toNat (pR l n o f)) r).length=_
   rw [zx l n o r,Qu]
theorem C8 {l:List bD} {n:Nat} {o:bD} {c:List bA} {fs:List aD} {j:Nat} {f:aD} (h:fs[j]? = some f):lg l n o c (fs.take (j+1))=oV (lg l n o c (fs.take j)) f.at_.toNat (pR l n o f):=by
 unfold lg;rw [aZ,h];simp
theorem Iq {l:List bD} {n:Nat} {o:bD} {q:Nat}:∀(fs:List aD) (c:List bA),(∀f ∈ fs,f.at_.toNat≠q)->(lg l n o c fs)[q]? = c[q]?
 | [],c,_=>rfl
 | f::r,c,h=>by
   show (lg l n o (oV c f.at_.toNat (pR l n o f)) r)[q]? = _
   rw [Iq r _ λg a=>h g (by simp [a]),Qw _ (h f aj)]
theorem Qx {l:List bD} {n:Nat} {o:bD} (a:uR o) {j:Nat} {f:aD} (h:o.fix[j]? = some f):(lg l n o o.code (o.fix.take j))[f.at_.toNat]? = o.code[f.at_.toNat]?:=by
 refine Iq _ _ λg c e=>?_;obtain ⟨i,hi⟩:=jA c
 have b:i<j:=by
   have:=(cf.1 hi).1;rw [jh] at this;omega
 rw [Fp b] at hi;obtain ⟨a1,a2⟩:=cf.1 hi;obtain ⟨d,k⟩:=cf.1 h;have:=x7.1 a.up i j a1 d b;rw [a2,k] at this;obtain ⟨p,m,_⟩:=pM (a.fix g (ax hi)).1;obtain ⟨q,r,_⟩:=pM (a.fix f (ax h)).1;omega
theorem zy (l:List bD):(n4 l).length=l.length:=by simp [n4]
theorem Qy {l:List bD} {i:Nat} {o:bD} (h:l[i]? = some o):(n4 l).take (i+1)=(n4 l).take i++[⟨13,e9 l i+o.main,0⟩]:=by
 rw [aZ];unfold n4;rw [vU,h]
 rfl
theorem Ir (l:List bD):uW l 0=[]:=rfl
theorem Is {l:List bD} {i:Nat} {o:bD} (h:l[i]? = some o):uW l (i+1)=uW l i++kr l i o:=by
 unfold uW;rw [aZ,vU,h];simp
theorem It {l:List bD}:∀{i:Nat},i<=l.length->(uW l i).length=qP (l.take i)
 | 0,_=>by simp [Ir,qP]
 | i+1,hi=>by
   obtain ⟨o,a⟩:∃o,l[i]? = some o:=⟨_,dL (by omega)⟩;rw [Is a,dG,It (i:=i) (by omega),C2 a];unfold kr;rw [zx]
theorem Qz {l:List bD} {i:Nat} (hi:i<=l.length):((gU l i).length:Int)=e9 l i:=by
 unfold gU e9;rw [dG,dG,zy,It hi,gf]
theorem Iu {l:List bD} {i:Nat} {o:bD} (h:l[i]? = some o):gU l (i+1)=gU l i++kr l i o:=by
 unfold gU;rw [Is h,et,et,et]
theorem C9 {l:List bD} {n:Nat} {o:bD} {c:List bA} {p:Nat} {x:bA} (v:Int) (h:c[p]? = some x):(gU l n++c).set ((gU l n).length+p) ⟨x.op,v,x.b⟩=gU l n++oV c p v:=by
 rw [A4 _ _ ae,x2,Qv h]
theorem C' {k:List UInt8}:∀(m:List (dP (List UInt8))) (i:Nat),(cK k m i).isSome=true↔k ∈ m.map (·.1)
 | [],i=>by simp [cK]
 | e::r,i=>by
   rw [cK,jT,dU]
   by_cases h:k=e.1
   · simp [h]
   · rw [if_neg (by simpa using h),C' r (i+1)]
     simp [h]
theorem Iv {k:List UInt8} {v:Value} {m:List (dP (List UInt8))} {c:Nat}:(k ∈ m.map (·.1)->(eJ k v m c).length=m.length)/\(k ∉ m.map (·.1)->(eJ k v m c).map (·.1)=m.map (·.1)++[k]):=by
 constructor
 · intro h
   have a:=(C' m 0).2 h;unfold eJ
   cases b:cK k m 0 with
   | none=>rw [b] at a; cases a
   | some r=>simp
 · intro h
   have a:cK k m 0=none:=by
     cases b:cK k m 0 with
     | none=>rfl
     | some r=>exact absurd ((C' m 0).1 (by rw [b]; rfl)) h
   unfold eJ;rw [a];simp
def qS (ns:List (List UInt8)) (i:Nat) (M:List (dP (List UInt8))):Prop:=
 (∀s,aI s M (.int .i64 0) = .int .i64 (((ns.take i).count s:Nat):Int))/\(((ns.take i).Nodup/\M.map (·.1)=ns.take i)\/(¬(ns.take i).Nodup/\M.length<i))
theorem qS.zero (ns:List (List UInt8)):qS ns 0 []:=⟨λs=>by simp [aI,cK],.inl ⟨aj,aj⟩⟩
theorem qS.step {ns:List (List UInt8)} {i:Nat} {M:List (dP (List UInt8))} {x:List UInt8} (h:qS ns i M) (n:ns[i]? = some x) (c:Nat):qS ns (i+1) (eJ x (.int .i64 (((ns.take i).count x:Nat)+1)) M c):=by
 have t:=(cf.1 n).1
 have p:(ns.take i).length=i:=by simp; omega
 have d:ns.take (i+1)=ns.take i++[x]:=by rw [aZ,n]; rfl
 refine ⟨λs=>?_,?_⟩
 · by_cases e:s=x
   · subst e
     rw [s9,d,ya];simp
   · rw [j7 _ M c _ e,h.1 s,d,ya]
     have q:¬x=s:=λk=>e k.symm;simp [A_,q]
 · rcases h.2 with ⟨m,g⟩ | ⟨m,g⟩
   · by_cases l:x ∈ ns.take i
     · right
       refine ⟨λj=>?_,?_⟩
       · rw [d,jx] at j
         exact j.2.2 x l x aj O
       · rw [Iv.1 (by rw [g]; exact l),<-eo (f:=(·.1)),g,p]
         omega
     · left
       refine ⟨?_,?_⟩
       · rw [d,jx]
         exact ⟨m,aj,λa r b o e=>by rw [az] at o; subst o; subst e; exact l r⟩
       · rw [Iv.2 (by rw [g]; exact l),g,d]
   · right
     refine ⟨λj=>m ?_,?_⟩
     · rw [d,jx] at j; exact j.1
     · have:=Cw x (.int .i64 (((ns.take i).count x:Nat)+1)) M c
       omega
theorem qS.aH {ns:List (List UInt8)} {M:List (dP (List UInt8))} (h:qS ns ns.length M):M.length<ns.length↔e6 ns=true:=by
 have a:=h.2;rw [ew] at a
 rcases a with ⟨b,a⟩ | ⟨b,a⟩
 · rw [jl] at b
   have:M.length=ns.length:=by rw [<-eo (f:=(·.1)),a]
   rw [b]
   constructor
   · intro; omega
   · intro e; cases e
 · rw [jl] at b
   exact ⟨λ_=>by simpa using b,λ_=>a⟩
end Go.Bw
end
section
namespace Go.Bw
open Go
theorem Iw {α β:Type} {p:Nat->α->β->Prop}:∀(l:List α) (s:Nat),(∀i x,l[i]? = some x->∃r,p (s+i) x r)->∃ys:List (α×β),ys.map (·.1)=l/\∀(i:Nat) y,ys[i]? = some y->p (s+i) y.1 y.2
 | [],_,_=>⟨[],rfl,λi y h=>by simp at h⟩
 | x::l,s,h=>by
   obtain ⟨r,b⟩:=h 0 x rfl
   obtain ⟨ys,c,d⟩:=Iw l (s+1) λi y a=>by
     obtain ⟨r,b⟩:=h (i+1) y a;exact ⟨r,by rw [show s+1+i=s+(i+1) by omega]; exact b⟩
   refine ⟨(x,r)::ys,by simp [c],λi y a=>?_⟩
   cases i with
   | zero=>simp at a; subst a; exact b
   | succ i=>rw [show s+(i+1)=s+1+i by omega]; exact d i y (by simpa using a)
end Go.Bw
end
section
namespace Go.Bw
open Go
abbrev Tx:=List UInt8
def qT:List UInt8:=[109,111,100,117,108,101]
def n5:List UInt8:=[117,115,101]
def tf:List UInt8:=[112,117,98]
def ja:List UInt8:=[99,111,110,115,116]
def jb:List UInt8:=[118,97,114]
def jc:List UInt8:=[97,114,114,97,121]
def n6:List UInt8:=[112,114,111,99]
def oW:List UInt8:=[108,111,99,97,108]
def hl:List UInt8:=[109,97,105,110]
def fq:List UInt8:=[105,102]
def fe:List UInt8:=[101,108,115,101]
def aM:List UInt8:=[119,104,105,108,101]
def ff:List UInt8:=[114,101,116,117,114,110]
def fg:List UInt8:=[111,117,116]
def r5:List UInt8:=[105,110]
def J (l:List Tx):Tx:=Lib.join l [32]
def iD (mod nm:Tx):List Tx:=if (mod==[])=true then [nm] else [mod,[46],nm]
def opsL:List Tx:=[[38],[124],[43],[45],[42],[47],[37],[61],[60]]
def tg (op:Int):Tx:=(opsL[(op-7).toNat]?).getD []
def gW:List (List Tx)->List Tx
 | []=>[]
 | [x]=>x
 | x::y::r=>x++[[44]]++gW (y::r)
def pS (l:List (List Tx)):List Tx:=[[40]]++gW l++[[41]]
def at_ (l:List (List Tx)) (i:Nat):List Tx:=(l[i]?).getD []
def mO (op n:Int) (mod nm:Tx) (A:List (List Tx)):List Tx:=
 if op=1 then [Lib.itoa n] else if op=2 then [r5] else if op=3 then iD mod nm else if op=4 then iD mod nm++[[91]]++at_ A 0++[[93]] else if op=5 then iD mod nm++pS A
 else if op=6 then [[33]]++at_ A 0 else [[40]]++at_ A 0++[tg op]++at_ A 1++[[41]]
mutual
def fO:a8->List Tx
 | .mk op n mod nm args=>mO op n mod nm (eD args)
def eD:List a8->List (List Tx)
 | []=>[]
 | x::r=>fO x::eD r
end
def n7 (l:List Tx):List Tx:=[[123]]++l++[[125]]
def mf (op:Int) (mod nm:Tx) (A:List (List Tx)) (b:List Tx) (a:Nat) (o:List Tx):List Tx:=
 if op=4\/op=5 then [if op=5 then aM else fq]++at_ A 0++n7 b++(if 0<a then [fe]++n7 o else [])
 else (if op=6 then [ff]++at_ A 0 else if op=7 then [fg]++at_ A 0 else if op=3 then iD mod nm++pS A else if op=1 then iD mod nm++[[61]]++at_ A 0 else if op=2 then iD mod nm++[[91]]++at_ A 0++[[93],[61]]++at_ A 1 else [])++[[59]]
mutual
def lh:bq->List Tx
 | .mk op mod nm args body other=>mf op mod nm (eD args) (hH body) other.length (hH other)
def hH:List bq->List Tx
 | []=>[]
 | x::r=>lh x++hH r
end
def kP (l:List bq):List Tx:=n7 (hH l)
def r6 (b:Bool):List Tx:=if b=true then [tf] else []
def th (u:Tx):List Tx:=[n5,u,[59]]
def oX (u:Tx):List Tx:=[oW,u,[59]]
def pT (d:cQ):List Tx:=if d.kind=1 then [ja,d.nm,[61],Lib.itoa d.n] else if d.kind=2 then [jb,d.nm] else if d.kind=3 then [jc,d.nm,[91],Lib.itoa d.n,[93]] else []
def lI (d:cQ):List Tx:=r6 d.bG++pT d++[[59]]
def iE (p:ed):List Tx:=r6 p.bG++[n6,p.nm,[40]]++gW (p.params.map λs=>[s])++[[41]]++p.aB.flatMap oX++kP p.body
def nw (m:aX):List Tx:=[qT,m.nm,[123]]++m.aq.flatMap th++m.decls.flatMap lI++m.procs.flatMap iE++[hl]++kP m.main++[[125]]
theorem ga {a b:bs} (h:(a+b).bL=0):a.bL=0/\b.bL=0:=by
 rw [bs.ek] at h; omega
theorem pU {b:Bool} (h:(dK b).bL=0):b=false:=by cases b; rfl; cases h
theorem iY {b:Bool} (h:(cz b).bL=0):b=false:=by cases b; rfl; cases h
theorem Ix {b:Bool} (h:(dY b).bL=0):b=false:=by cases b; rfl; cases h
structure r7 (op n:Int) (mod nm:Tx) (args:List a8) (d:Nat):Prop where
 deep:d<=6
 kind:1<=op/\op<=15
 name:hN (dS op 3 5) mod nm=false
 oY:k4 (iw op) args.length=false
 aH:args.length<=3
 num:hB op n=false
 sub:(ay args (d+1)).bL=0
theorem w1 {op n:Int} {mod nm:Tx} {args:List a8} {d:Nat} (h:(gR (.mk op n mod nm args) d).bL=0):r7 op n mod nm args d:=by
 unfold gR at h
 split at h
 · cases h
 · rename_i o
   obtain ⟨h,c⟩:=ga h;obtain ⟨h,e⟩:=ga h;obtain ⟨f,a⟩:=ga h;have b:=Ix f;obtain ⟨g,i⟩:=N3 b;unfold ee at a;obtain ⟨a,j⟩:=ga a;obtain ⟨k,l⟩:=ga a;rw [Gy] at b;have m:=iY j;exact ⟨ae,by simp [dS] at b; omega,by rw [<-g]; exact pU k,by rw [<-i]; exact pU l,by simp at m; omega,pU e,c⟩
theorem Iy {x:a8} {r:List a8} {d:Nat} (h:(ay (x::r) d).bL=0):(gR x d).bL=0/\(ay r d).bL=0:=by
 unfold ay at h; exact ga h
theorem r7.Iz {op n:Int} {mod nm:Tx} {args:List a8} {d:Nat} (h:r7 op n mod nm args d) (a:op=4\/op=6):args.length=1:=by
 have:=h.oY
 rcases a with rfl | rfl<;>simp [k4,iw] at this<;>omega
theorem r7.QA {op n:Int} {mod nm:Tx} {args:List a8} {d:Nat} (h:r7 op n mod nm args d) (a:7<=op):args.length=2:=by
 have:=h.oY;unfold k4 iw at this;rw [if_neg ae,if_neg ae,if_neg ae] at this;simp at this; omega
theorem IA:∀l:List a8,(eD l).length=l.length
 | []=>rfl
 | x::r=>by unfold eD; simp [IA r]
theorem QB (mod nm:Tx):iD mod nm≠[]:=by unfold iD; split<;>simp
theorem IB:∀x:a8,fO x≠[]
 | .mk op n mod nm args=>by
   unfold fO mO pS;have:=QB mod nm
   repeat' split
   all_goals simp_all
theorem IC:∀(l:List a8),∀x ∈ eD l,x≠[]
 | [],_,h=>by simp [eD] at h
 | y::r,x,h=>by
   unfold eD at h
   rcases dU.1 h with rfl | h
   · exact IB y
   · exact IC r x h
structure pV (op:Int) (mod nm:Tx) (args:List a8) (body other:List bq) (d:Nat):Prop where
 kind:1<=op/\op<=7
 name:hN (dS op 1 3) mod nm=false
 oY:k4 (ng op) args.length=false
 aH:args.length<=3
 exprs:(ay args 1).bL=0
 form:bo op body.length other.length=false
 body:(inner op||decide (0<body.length))=true->(l8 (d+1) body.length (cS body (d+1))).bL=0
 other:0<other.length->(l8 (d+1) other.length (cS other (d+1))).bL=0
theorem w2 {op:Int} {mod nm:Tx} {args:List a8} {body other:List bq} {d:Nat} (h:(aL (.mk op mod nm args body other) d).bL=0):pV op mod nm args body other d:=by
 unfold aL at h;obtain ⟨h,e⟩:=ga h;obtain ⟨h,f⟩:=ga h;obtain ⟨h,g⟩:=ga h;obtain ⟨h,i⟩:=ga h;obtain ⟨j,a⟩:=ga h;have b:=Ix j;obtain ⟨k,l⟩:=N4 b;unfold ee at a;obtain ⟨a,m⟩:=ga a;obtain ⟨n,o⟩:=ga a;rw [Gz] at b;have p:=iY m;refine ⟨by simp [dS] at b; omega,by rw [<-k]; exact pU n,by rw [<-l]; exact pU o,by simp at p; omega,i,pU g,λc=>?_,λc=>?_⟩
 · rw [if_pos c] at f; exact f
 · rw [if_pos c] at e; exact e
theorem w3 {d len:Nat} {c:bs} (h:(l8 d len c).bL=0):d<=6/\len<=10/\c.bL=0:=by
 unfold l8 at h
 split at h
 · cases h
 · obtain ⟨a,b⟩:=ga h
   have:=iY a;simp at this;exact ⟨ae,ae,b⟩
theorem C_ {x:bq} {r:List bq} {d:Nat} (h:(cS (x::r) d).bL=0):(aL x d).bL=0/\(cS r d).bL=0:=by
 unfold cS at h; exact ga h
theorem pV.len {op:Int} {mod nm:Tx} {args:List a8} {body other:List bq} {d:Nat} (h:pV op mod nm args body other d) (b:op≠3):args.length=if op=2 then 2 else 1:=by
 have:=h.oY;unfold k4 ng at this
 by_cases a:op=2
 · rw [if_pos a] at this ⊢; simp at this; omega
 · rw [if_neg a,if_neg b] at this; rw [if_neg a]; simp at this; omega
theorem pV.QC {op:Int} {mod nm:Tx} {args:List a8} {body other:List bq} {d:Nat} (h:pV op mod nm args body other d):((op≠4/\op≠5)->body=[])/\(op≠4->other=[]):=by
 have:=h.form;unfold bo inner at this;rw [hM] at this;refine ⟨λ⟨a,b⟩=>?_,λa=>?_⟩
 · have c:=this.1
   simpa [a,b] using c
 · have c:=this.2
   simpa [a] using c
theorem ID:∀x:bq,lh x≠[]
 | .mk op mod nm args body other=>by
   unfold lh mf
   split<;>simp
theorem QD {d:cQ} (h:(bl d).bL=0):d.kind=1\/d.kind=2\/d.kind=3:=by
 unfold bl at h;obtain ⟨_,h⟩:=ga h
 by_cases a:d.kind=1
 · exact .inl a
 · rw [if_neg a] at h
   by_cases b:d.kind=2
   · exact .inr (.inl b)
   · rw [if_neg b] at h
     by_cases c:d.kind=3
     · exact .inr (.inr c)
     · rw [if_neg c] at h; cases h
theorem IE:∀{l:List cQ},(aE l).bL=0->∀d ∈ l,(bl d).bL=0
 | [],_,d,a=>by simp at a
 | x::r,h,d,a=>by
   unfold aE at h;obtain ⟨b,c⟩:=ga h
   rcases dU.1 a with rfl | a
   · exact b
   · exact IE c d a
theorem IF:∀{l:List ed},(eX l).bL=0->∀d ∈ l,(nf d).bL=0
 | [],_,d,a=>by simp at a
 | x::r,h,d,a=>by
   unfold eX at h;obtain ⟨b,c⟩:=ga h
   rcases dU.1 a with rfl | a
   · exact b
   · exact IF c d a
theorem QE {c:bs}:qA c=0↔c.bL=0:=by
 unfold qA bs.bL
 split
 · omega
 · split
   · omega
   · split<;>omega
end Go.Bw
end
section
namespace Go.Bw
open Go
def cw (s:Tx):Tok:=match Lib.atoiAll s with
 | .ok v=>⟨2,v,[]⟩
 | _=>if ep s=true then ⟨1,0,s⟩ else ⟨3,0,s⟩
def Da (t:Tok):Prop:=pv t=true/\jE t=true
theorem zz:∀u ∈ qy,cw [u]=⟨3,0,[u]⟩:=aF
theorem w4 {s:Tx} (h:ep s=true):cw s=⟨1,0,s⟩:=by
 cases s with
 | nil=>simp [ep] at h
 | cons c r=>
   have a:l5 (c.toNat:Int)=true:=by
     simp only [ep,cO] at h
     simpa using h.1.2
   have e:97<=c.toNat:=by simp [l5] at a; omega
   have b:∀v,Lib.atoiAll (c::r)≠.ok v:=by
     intro v hv;rw [Lib.atoiAll_plain c r ae ae] at hv;unfold Lib.parseMag Lib.parseUint10 at hv;rw [if_neg aj,if_neg ae] at hv;cases hv
   unfold cw
   cases d:Lib.atoiAll (c::r) with
   | ok v=>exact absurd d (b v)
   | _=>simp [h]
theorem w5 {n:Int} (a:0<=n) (b:n<=1099511627775):cw (Lib.itoa n)=⟨2,n,[]⟩:=by
 unfold cw;rw [BP a,zf ae];simp; omega
theorem lZ {t:Tok} (h:Da t):cw (mC t)=t:=by
 obtain ⟨b,a⟩:=h;obtain ⟨k,n,s⟩:=t
 have d:k=1\/k=2\/k=3:=by simp [pv] at b; omega
 rcases d with rfl | rfl | rfl
 · simp only [jE,if_pos,cO,beq_iff_eq] at a
   obtain ⟨rfl,e⟩:=a;exact w4 e
 · have:s=[]/\0<=n/\n<=1099511627775:=by simpa [jE] using a
   obtain ⟨rfl,f,g⟩:=this;exact w5 f g
 · have:n=0/\s.length=1/\l6 (s[0]?.getD 0)=true:=by simpa [jE] using a
   obtain ⟨rfl,i,j⟩:=this
   match s,i with
   | [c],_=>exact zz c (by simpa [l6] using j)
def gX (w:Tx):Prop:=Da (cw w)/\mC (cw w)=w
theorem hV {s:Tx} (h:ep s=true):gX s:=by
 unfold gX;rw [w4 h];exact ⟨⟨O,by simp [jE,h]⟩,O⟩
theorem gJ {u:UInt8} (h:u ∈ qy):gX [u]:=by
 unfold gX;rw [zz u h];exact ⟨⟨O,by simp [jE,l6,h]⟩,O⟩
theorem Db {n:Int} (a:0<=n) (b:n<=1099511627775):gX (Lib.itoa n):=by
 unfold gX;rw [w5 a b];exact ⟨⟨O,by simp [jE]; omega⟩,O⟩
theorem QF {l:List Tx} (h:∀w ∈ l,gX w):qz (l.map cw)=J l:=by
 unfold qz J
 congr 1
 rw [x3]
 conv=>rhs; rw [<-List.map_id l]
 exact x1 λw a=>(h w a).2
theorem bJ {s:Tx} (h:eP s=true):ep s=true:=by
 simp only [eP,cO] at h; exact h.1
theorem Dc {mod nm:Tx} (h:hN true mod nm=false):(mod=[]\/eP mod=true)/\eP nm=true:=by
 unfold hN at h
 cases a:(mod==[]) with
 | true=>simp [a] at h; simp at a; exact ⟨.inl a,by simpa using h⟩
 | false=>simp [a] at h; exact ⟨.inr h.1,h.2⟩
theorem IG {mod nm:Tx} (h:hN false mod nm=false):mod=[]/\nm=[]:=by
 unfold hN at h;rw [N2] at h
 simpa using h
theorem uY {mod nm:Tx} (h:hN true mod nm=false):∀w ∈ iD mod nm,gX w:=by
 obtain ⟨c,b⟩:=Dc h;intro w a;unfold iD at a
 split at a
 · rw [az] at a; subst a; exact hV (bJ b)
 · rename_i d
   have:eP mod=true:=c.resolve_left (by simpa using d);simp only [dU,cr,or_false] at a
   rcases a with rfl | rfl | rfl
   · exact hV (bJ this)
   · exact gJ aF
   · exact hV (bJ b)
theorem IH {l:List (List Tx)} (h:∀x ∈ l,∀w ∈ x,gX w):∀w ∈ gW l,gX w:=by
 induction l with
 | nil=>intro w a; simp [gW] at a
 | cons x r b=>
   cases r with
   | nil=>intro w a; exact h x aj w a
   | cons y r=>
     intro w a;simp only [gW,dA,az] at a
     rcases a with (a | rfl) | a
     · exact h x aj w a
     · exact gJ aF
     · exact b (λc d=>h c (bE _ d)) w a
theorem II {l:List (List Tx)} (h:∀x ∈ l,∀w ∈ x,gX w):∀w ∈ pS l,gX w:=by
 intro w a;simp only [pS,dA,az] at a
 rcases a with (rfl | a) | rfl
 · exact gJ aF
 · exact IH h w a
 · exact gJ aF
theorem at_mem {l:List (List Tx)} {i:Nat} {w:Tx} (h:w ∈ at_ l i):∃x ∈ l,w ∈ x:=by
 unfold at_ at h
 cases a:l[i]? with
 | none=>simp [a] at h
 | some x=>rw [a] at h; exact ⟨x,ax a,h⟩
theorem QG {op:Int} (h:7<=op/\op<=15):gX (tg op):=by
 have:op=7\/op=8\/op=9\/op=10\/op=11\/op=12\/op=13\/op=14\/op=15:=ae
 rcases this with rfl | rfl | rfl | rfl | rfl | rfl | rfl | rfl | rfl<;>exact gJ aF
theorem Dd {n:Int} (h:hB 1 n=false):0<=n/\n<=1099511627775:=by
 simp [hB] at h; omega
theorem QH {op n:Int} {mod nm:Tx} {args:List a8} {d:Nat} (h:r7 op n mod nm args d) (g:∀x ∈ eD args,∀w ∈ x,gX w):∀w ∈ mO op n mod nm (eD args),gX w:=by
 have q:=h.kind
 have e:∀i w,w ∈ at_ (eD args) i->gX w:=λi w c=>by
   obtain ⟨x,r,s⟩:=at_mem c;exact g x r w s
 intro w c;unfold mO at c;have f:=h.name
 by_cases j:op=1
 · subst j
   rw [if_pos rfl,az] at c;subst c;obtain ⟨a,b⟩:=Dd h.num;exact Db a b
 rw [if_neg j] at c
 by_cases k:op=2
 · rw [if_pos k,az] at c; subst c; exact hV aF
 rw [if_neg k] at c
 by_cases l:op=3
 · subst l; rw [if_pos rfl] at c; exact uY f w c
 rw [if_neg l] at c
 by_cases m:op=4
 · subst m
   rw [if_pos rfl] at c;simp only [dA,az] at c
   rcases c with ((c | rfl) | c) | rfl
   · exact uY f w c
   · exact gJ aF
   · exact e _ _ c
   · exact gJ aF
 rw [if_neg m] at c
 by_cases o:op=5
 · subst o
   rw [if_pos rfl,dA] at c
   rcases c with c | c
   · exact uY f w c
   · exact II g w c
 rw [if_neg o] at c
 by_cases p:op=6
 · rw [if_pos p,dA,az] at c
   rcases c with rfl | c
   · exact gJ aF
   · exact e _ _ c
 rw [if_neg p] at c;simp only [dA,az] at c
 rcases c with (((rfl | c) | rfl) | c) | rfl
 · exact gJ aF
 · exact e _ _ c
 · exact QG ⟨ae,q.2⟩
 · exact e _ _ c
 · exact gJ aF
mutual
theorem QI:∀(x:a8) (d:Nat),(gR x d).bL=0->∀w ∈ fO x,gX w
 | .mk op n mod nm args,d,h=>by
   have a:=w1 h;unfold fO;exact QH a (p7 args (d+1) a.sub)
theorem p7:∀(l:List a8) (d:Nat),(ay l d).bL=0->∀x ∈ eD l,∀w ∈ x,gX w
 | [],_,_=>by intro x a; simp [eD] at a
 | y::r,d,h=>by
   obtain ⟨b,c⟩:=Iy h;intro x a;unfold eD at a
   rcases dU.1 a with rfl | a
   · exact QI y d b
   · exact p7 r d c x a
end
theorem w6 {l:List Tx} (h:∀w ∈ l,gX w):∀w ∈ n7 l,gX w:=by
 intro w a;simp only [n7,dA,az] at a
 rcases a with (rfl | a) | rfl
 · exact gJ aF
 · exact h w a
 · exact gJ aF
theorem QJ {op:Int} {mod nm:Tx} {args:List a8} {body other:List bq} {d:Nat} (h:pV op mod nm args body other d) (e:∀w ∈ hH body,gX w) (f:∀w ∈ hH other,gX w) :
   ∀w ∈ mf op mod nm (eD args) (hH body) other.length (hH other),gX w:=by
 have l:=h.kind;have g:=p7 args 1 h.exprs
 have b:∀i w,w ∈ at_ (eD args) i->gX w:=λi w a=>by
   obtain ⟨x,j,k⟩:=at_mem a;exact g x j w k
 have c:=h.name;intro w a;unfold mf at a
 rcases (by omega:op=1\/op=2\/op=3\/op=4\/op=5\/op=6\/op=7) with rfl | rfl | rfl | rfl | rfl | rfl | rfl
 · simp only [if_true,if_false,reduceCtorEq,Int.reduceEq,or_self,dA,az] at a
   rcases a with ((a | rfl) | a) | rfl
   · exact uY c w a
   · exact gJ aF
   · exact b _ _ a
   · exact gJ aF
 · simp only [if_true,if_false,reduceCtorEq,Int.reduceEq,or_self,dA,az,dU,cr,or_false] at a
   rcases a with ((((a | rfl) | a) | (rfl | rfl)) | a) | rfl
   · exact uY c w a
   · exact gJ aF
   · exact b _ _ a
   · exact gJ aF
   · exact gJ aF
   · exact b _ _ a
   · exact gJ aF
 · simp only [if_true,if_false,reduceCtorEq,Int.reduceEq,or_self,dA,az] at a
   rcases a with (a | a) | rfl
   · exact uY c w a
   · exact II g w a
   · exact gJ aF
 · simp only [if_true,if_false,reduceCtorEq,Int.reduceEq,or_false,true_or,dA,az] at a
   rcases a with ((rfl | a) | a) | a
   · exact hV aF
   · exact b _ _ a
   · exact w6 e w a
   · split at a
     · simp only [dA,az] at a
       rcases a with rfl | a
       · exact hV aF
       · exact w6 f w a
     · simp at a
 · simp only [if_true,if_false,reduceCtorEq,Int.reduceEq,or_true,dA,az] at a
   rcases a with ((rfl | a) | a) | a
   · exact hV aF
   · exact b _ _ a
   · exact w6 e w a
   · split at a
     · simp only [dA,az] at a
       rcases a with rfl | a
       · exact hV aF
       · exact w6 f w a
     · simp at a
 · simp only [if_true,if_false,reduceCtorEq,Int.reduceEq,or_self,dA,az] at a
   rcases a with (rfl | a) | rfl
   · exact hV aF
   · exact b _ _ a
   · exact gJ aF
 · simp only [if_true,if_false,reduceCtorEq,Int.reduceEq,or_self,dA,az] at a
   rcases a with (rfl | a) | rfl
   · exact hV aF
   · exact b _ _ a
   · exact gJ aF
theorem pV.IJ {op:Int} {mod nm:Tx} {args:List a8} {body other:List bq} {d:Nat} (b:pV op mod nm args body other d):(cS body (d+1)).bL=0/\(cS other (d+1)).bL=0:=by
 constructor
 · by_cases a:(inner op||decide (0<body.length))=true
   · exact (w3 (b.body a)).2.2
   · have:body=[]:=by
       simp at a;exact a.2
     subst this; rfl
 · by_cases a:0<other.length
   · exact (w3 (b.other a)).2.2
   · have:other=[]:=ou ae
     subst this; rfl
mutual
theorem QK:∀(x:bq) (d:Nat),(aL x d).bL=0->∀w ∈ lh x,gX w
 | .mk op mod nm args body other,d,h=>by
   have a:=w2 h;unfold lh;exact QJ a (zB body (d+1) a.IJ.1) (zB other (d+1) a.IJ.2)
theorem zB:∀(l:List bq) (d:Nat),(cS l d).bL=0->∀w ∈ hH l,gX w
 | [],_,_=>by intro x b; simp [hH] at b
 | y::r,d,h=>by
   obtain ⟨c,e⟩:=C_ h;intro w a;unfold hH at a
   rcases dA.1 a with a | a
   · exact QK y d c w a
   · exact zB r d e w a
end
theorem ti:∀{l:List Tx},(bw l).bL=0->∀s ∈ l,eP s=true
 | [],_,s,a=>by simp at a
 | x::r,h,s,a=>by
   unfold bw at h;obtain ⟨b,c⟩:=ga h
   rcases dU.1 a with rfl | a
   · simpa using pU b
   · exact ti c s a
structure zC (d:cQ):Prop where
 name:eP d.nm=true
 kind:d.kind=1\/d.kind=2\/d.kind=3
 n1:d.kind=1->0<=d.n/\d.n<=1099511627775
 n2:d.kind=2->d.n=0
 n3:d.kind=3->1<=d.n/\d.n<=32
theorem tj {d:cQ} (h:(bl d).bL=0):zC d:=by
 have b:=QD h;unfold bl at h;obtain ⟨c,a⟩:=ga h;refine ⟨ti c d.nm aj,b,λe=>?_,λe=>?_,λe=>?_⟩
 · rw [if_pos e] at a
   have:=pU a;simp at this; omega
 · rw [if_neg ae,if_pos e] at a
   have:=pU a
   simpa using this
 · rw [if_neg ae,if_neg ae,if_pos e] at a
   have:=pU a;simp at this; omega
theorem QL {d:cQ} (h:(bl d).bL=0):∀w ∈ lI d,gX w:=by
 have f:=tj h;have g:=hV (bJ f.name);intro w c;simp only [lI,dA,az] at c
 rcases c with (c | c) | rfl
 · unfold r6 at c
   split at c
   · rw [az] at c; subst c; exact hV aF
   · simp at c
 · unfold pT at c
   rcases f.kind with e | e | e
   · obtain ⟨a,b⟩:=f.n1 e
     rw [if_pos e] at c;simp only [dU,cr,or_false] at c
     rcases c with rfl | rfl | rfl | rfl
     · exact hV aF
     · exact g
     · exact gJ aF
     · exact Db a b
   · rw [if_neg ae,if_pos e] at c
     simp only [dU,cr,or_false] at c
     rcases c with rfl | rfl
     · exact hV aF
     · exact g
   · obtain ⟨a,b⟩:=f.n3 e
     rw [if_neg ae,if_neg ae,if_pos e] at c;simp only [dU,cr,or_false] at c
     rcases c with rfl | rfl | rfl | rfl | rfl
     · exact hV aF
     · exact g
     · exact gJ aF
     · exact Db ae ae
     · exact gJ aF
 · exact gJ aF
structure IK (p:ed):Prop where
 name:eP p.nm=true
 params:∀s ∈ p.params,eP s=true
 aB:∀s ∈ p.aB,eP s=true
 aH:p.params.length<=3/\p.aB.length<=4
 body:(d_ p.body 1).bL=0
theorem e7 {p:ed} (h:(nf p).bL=0):IK p:=by
 unfold nf at h;obtain ⟨h,a⟩:=ga h;obtain ⟨h,b⟩:=ga h;obtain ⟨h,c⟩:=ga h;obtain ⟨d,e⟩:=ga h;have:=iY b;simp at this;exact ⟨ti d p.nm aj,ti e,ti c,ae,a⟩
theorem IL {l:List bq} {d:Nat} (h:(d_ l d).bL=0):∀w ∈ kP l,gX w:=by
 unfold d_ at h;exact w6 (zB l d (w3 h).2.2)
theorem QM {p:ed} (h:(nf p).bL=0):∀w ∈ iE p,gX w:=by
 have b:=e7 h;intro w a;simp only [iE,dA,az,dU,cr,or_false,lX] at a
 rcases a with ((((a | (rfl | rfl | rfl)) | a) | rfl) | ⟨s,c,a⟩) | a
 · unfold r6 at a
   split at a
   · rw [az] at a; subst a; exact hV aF
   · simp at a
 · exact hV aF
 · exact hV (bJ b.name)
 · exact gJ aF
 · refine IH (λx d w a=>?_) w a
   obtain ⟨s,c,rfl⟩:=k0.1 d;rw [az] at a;subst a;exact hV (bJ (b.params _ c))
 · exact gJ aF
 · simp only [oX,dU,cr,or_false] at a
   rcases a with rfl | rfl | rfl
   · exact hV aF
   · exact hV (bJ (b.aB _ c))
   · exact gJ aF
 · exact IL b.body w a
structure kt (m:aX):Prop where
 name:eP m.nm=true
 aq:∀s ∈ m.aq,eP s=true
 aH:m.aq.length<=3/\m.decls.length<=10/\m.procs.length<=6
 decls:∀d ∈ m.decls,(bl d).bL=0
 procs:∀p ∈ m.procs,(nf p).bL=0
 main:(d_ m.main 1).bL=0
theorem zD {m:aX} (h:(oC m).bL=0):kt m:=by
 unfold oC at h;obtain ⟨h,a⟩:=ga h;obtain ⟨h,b⟩:=ga h;obtain ⟨h,c⟩:=ga h;obtain ⟨h,d⟩:=ga h;obtain ⟨e,f⟩:=ga h;have:=iY d;simp at this;exact ⟨ti e m.nm aj,ti f,ae,IE c,IF b,a⟩
theorem IM {m:aX} (h:(oC m).bL=0):∀w ∈ nw m,gX w:=by
 have b:=zD h;intro w a;simp only [nw,dA,az,dU,cr,or_false,lX] at a
 rcases a with ((((((rfl | rfl | rfl) | ⟨s,c,a⟩) | ⟨d,e,a⟩) | ⟨p,f,a⟩) | rfl) | a) | rfl
 · exact hV aF
 · exact hV (bJ b.name)
 · exact gJ aF
 · simp only [th,dU,cr,or_false] at a
   rcases a with rfl | rfl | rfl
   · exact hV aF
   · exact hV (bJ (b.aq _ c))
   · exact gJ aF
 · exact QL (b.decls d e) w a
 · exact QM (b.procs p f) w a
 · exact hV aF
 · exact IL b.main w a
 · exact gJ aF
end Go.Bw
end
section
namespace Go.Bw
open Go
abbrev Tk:=List Tok
def aY (s:Tx):Tk->Option Tk
 | []=>none
 | t::r=>if (t.text==s)=true then some r else none
def ku (k:Int):Tk->Option (Tok×Tk)
 | []=>none
 | t::r=>if t.kind=k then some (t,r) else none
def eb (l:Tk):Option (Tx×Tk):=(ku 1 l).bind λp=>if eP p.1.text=true then some (p.1.text,p.2) else none
def jM (l:Tk):Option (Int×Tk):=(ku 2 l).map λp=>(p.1.n,p.2)
def jd (l:Tk):Option ((Tx×Tx)×Tk):=(eb l).bind λa=>match aY [46] a.2 with
 | some r=>(eb r).map λb=>((a.1,b.1),b.2)
 | none=>some (([],a.1),a.2)
def j_ (a:Tk->Option (a8×Tk)):Nat->Tk->Option (List a8×Tk)
 | 0,_=>none
 | n+1,l=>(a l).bind λx=>match aY [41] x.2 with
   | some r=>some ([x.1],r)
   | none=>match aY [44] x.2 with
     | some r=>(j_ a n r).map λq=>(x.1::q.1,q.2)
     | none=>none
def jN (a:Tk->Option (a8×Tk)) (l:Tk):Option (List a8×Tk):=match aY [41] l with
 | some r=>some ([],r)
 | none=>j_ a (l.length+1) l
def mg:List Tx->Nat->Tk->Option (Nat×Tk)
 | [],_,_=>none
 | w::ws,i,l=>match aY w l with
   | some r=>some (i,r)
   | none=>mg ws (i+1) l
def lj (c:Tk->Option (a8×Tk)) (l:Tk):Option (a8×Tk):=(c l).bind λa=>(mg opsL 0 a.2).bind λo=>(c o.2).bind λb=>(aY [41] b.2).map λr=>(a8.mk (7+(o.1:Int)) 0 [] [] [a.1,b.1],r)
def lJ (a:Tk->Option (a8×Tk)) (mod nm:Tx) (l:Tk):Option (a8×Tk):=match aY [91] l with
 | some r=>(a r).bind λx=>(aY [93] x.2).map λr=>(a8.mk 4 0 mod nm [x.1],r)
 | none=>match aY [40] l with
   | some r=>(jN a r).map λq=>(a8.mk 5 0 mod nm q.1,q.2)
   | none=>some (a8.mk 3 0 mod nm [],l)
def ka (a:Tk->Option (a8×Tk)) (l:Tk):Option (a8×Tk):=match aY r5 l with
 | some r=>some (a8.mk 2 0 [] [] [],r)
 | none=>match aY [33] l with
   | some r=>(a r).map λx=>(a8.mk 6 0 [] [] [x.1],x.2)
   | none=>match aY [40] l with
     | some r=>lj a r
     | none=>(jd l).bind λp=>lJ a p.1.1 p.1.2 p.2
def cR:Nat->Tk->Option (a8×Tk)
 | 0,_=>none
 | f+1,l=>match l with
   | []=>none
   | t::r=>if t.kind=2 then some (a8.mk 1 t.n [] [] [],r) else ka (cR f) (t::r)
def fh (l:Tk):Option (bq×Tk):=match aY ff l with
 | some r=>(cR 6 r).map λx=>(bq.mk 6 [] [] [x.1] [] [],x.2)
 | none=>match aY fg l with
   | some r=>(cR 6 r).map λx=>(bq.mk 7 [] [] [x.1] [] [],x.2)
   | none=>(jd l).bind λp=>match aY [40] p.2 with
     | some r=>(jN (cR 6) r).map λq=>(bq.mk 3 p.1.1 p.1.2 q.1 [] [],q.2)
     | none=>match aY [91] p.2 with
       | some r=>(cR 6 r).bind λi=>(aY [93] i.2).bind λr=>(aY [61] r).bind λr=>(cR 6 r).map λx=>(bq.mk 2 p.1.1 p.1.2 [i.1,x.1] [] [],x.2)
       | none=>(aY [61] p.2).bind λr=>(cR 6 r).map λx=>(bq.mk 1 p.1.1 p.1.2 [x.1] [] [],x.2)
def eO (pb:Tk->Option (List bq×Tk)) (l:Tk):Option (bq×Tk):=match aY fq l with
 | some r=>(cR 6 r).bind λx=>(pb x.2).bind λb=>match aY fe b.2 with
   | some r=>(pb r).bind λo=>if o.1.length=0 then none else some (bq.mk 4 [] [] [x.1] b.1 o.1,o.2)
   | none=>some (bq.mk 4 [] [] [x.1] b.1 [],b.2)
 | none=>match aY aM l with
   | some r=>(cR 6 r).bind λx=>(pb x.2).map λb=>(bq.mk 5 [] [] [x.1] b.1 [],b.2)
   | none=>(fh l).bind λs=>(aY [59] s.2).map λr=>(s.1,r)
def lK (ps:Tk->Option (bq×Tk)):Nat->Tk->Option (List bq×Tk)
 | 0,_=>none
 | n+1,l=>match aY [125] l with
   | some r=>some ([],r)
   | none=>(ps l).bind λs=>(lK ps n s.2).map λq=>(s.1::q.1,q.2)
def a':Nat->Tk->Option (List bq×Tk)
 | 0,_=>none
 | f+1,l=>(aY [123] l).bind λr=>lK (eO (a' f)) (r.length+1) r
def aN (bG:Bool) (l:Tk):Option (Option cQ×Tk):=match aY ja l with
 | some r=>(eb r).bind λa=>(aY [61] a.2).bind λr=>(jM r).bind λn=>(aY [59] n.2).map λr=>(some ⟨1,a.1,bG,n.1⟩,r)
 | none=>match aY jb l with
   | some r=>(eb r).bind λa=>(aY [59] a.2).map λr=>(some ⟨2,a.1,bG,0⟩,r)
   | none=>match aY jc l with
     | some r=>(eb r).bind λa=>(aY [91] a.2).bind λr=>(jM r).bind λn=>(aY [93] n.2).bind λr=>(aY [59] r).map λr=>(some ⟨3,a.1,bG,n.1⟩,r)
     | none=>some (none,l)
def eG (l:Tk):Bool×Tk:=((aY tf l).isSome,(aY tf l).getD l)
def kQ:Nat->Bool->Tk->Option ((List cQ×Bool)×Tk)
 | 0,_,_=>none
 | n+1,bG,l=>(aN bG l).bind λd=>match d.1 with
   | none=>some (([],bG),d.2)
   | some x=>(kQ n (eG d.2).1 (eG d.2).2).map λq=>((x::q.1.1,q.1.2),q.2)
def ic:Nat->Bool->Tk->Option (List Tx×Tk)
 | 0,_,_=>none
 | n+1,first,l=>match aY [41] l with
   | some r=>some ([],r)
   | none=>(if first=true then some l else aY [44] l).bind λl=>(eb l).bind λa=>(ic n false a.2).map λq=>(a.1::q.1,q.2)
def jr:Nat->Tk->Option (List Tx×Tk)
 | 0,_=>none
 | n+1,l=>match aY oW l with
   | some r=>(eb r).bind λa=>(aY [59] a.2).bind λr=>(jr n r).map λq=>(a.1::q.1,q.2)
   | none=>some ([],l)
def iF (bG:Bool) (l:Tk):Option (ed×Tk):=(eb l).bind λa=>(aY [40] a.2).bind λr=>(ic (r.length+1) true r).bind λps=>(jr (ps.2.length+1) ps.2).bind λc=>(a' 6 c.2).map λb=>(⟨a.1,bG,ps.1,c.1,b.1⟩,b.2)
def kR:Nat->Bool->Tk->Option ((List ed×Bool)×Tk)
 | 0,_,_=>none
 | n+1,bG,l=>match aY n6 l with
   | some r=>(iF bG r).bind λp=>(kR n (eG p.2).1 (eG p.2).2).map λq=>((p.1::q.1.1,q.1.2),q.2)
   | none=>some (([],bG),l)
def jO:Nat->Tk->Option (List Tx×Tk)
 | 0,_=>none
 | n+1,l=>match aY n5 l with
   | some r=>(eb r).bind λa=>(aY [59] a.2).bind λr=>(jO n r).map λq=>(a.1::q.1,q.2)
   | none=>some ([],l)
def kS (l:Tk):Option (aX×Tk):=(aY qT l).bind λr=>(eb r).bind λa=>(aY [123] a.2).bind λr=>(jO (r.length+1) r).bind λu=>
 (kQ ((eG u.2).2.length+1) (eG u.2).1 (eG u.2).2).bind λd=>(kR (d.2.length+1) d.1.2 d.2).bind λp=>if p.1.2=true then none else
 (aY hl p.2).bind λr=>(a' 6 r).bind λb=>(aY [125] b.2).map λr=>(⟨a.1,u.1,d.1.1,p.1.1,b.1⟩,r)
def hf (l:Tk):Prop:=∀t ∈ l,Da t
def bc (l:Tk) (a:List Tx) (r:Tk):Prop:=hf l/\l=a.map cw++r
theorem bc.ok {l r:Tk} {a:List Tx} (h:bc l a r):hf r:=λt b=>h.1 t (by rw [h.2]; exact qp _ b)
theorem bc.trans {l r q:Tk} {a b:List Tx} (h:bc l a r) (k:bc r b q):bc l (a++b) q:=⟨h.1,by rw [h.2,k.2]; simp⟩
theorem bc.nil {l:Tk} (h:hf l):bc l [] l:=⟨h,rfl⟩
theorem bc.cast {l r:Tk} {a b:List Tx} (h:bc l a r) (e:a=b):bc l b r:=e▸h
theorem fC {s:Tx} {l r:Tk} (b:hf l) (d:s≠[]) (h:aY s l=some r):bc l [s] r:=by
 cases l with
 | nil=>cases h
 | cons t q=>
   simp only [aY] at h
   split at h
   · rename_i a
     injection h with h
     subst h;simp only [beq_iff_eq] at a;refine ⟨b,?_⟩;have c:=b t aj
     have e:mC t=s:=by
       unfold mC;rw [if_neg]
       · exact a
       · intro f
         have:=c.2;unfold jE at this;rw [if_neg ae,if_pos f] at this;simp [a,d] at this
     simp [<-e,lZ c]
   · cases h
theorem pW {l r:Tk} {a:Tx} (b:hf l) (h:eb l=some (a,r)):bc l [a] r/\eP a=true:=by
 cases l with
 | nil=>cases h
 | cons t q=>
   unfold eb ku at h;dsimp only at h
   by_cases c:t.kind=1
   · rw [if_pos c] at h
     simp only [bt] at h
     split at h
     · rename_i d
       injection h with h
       injection h with f g
       subst f g;refine ⟨⟨b,?_⟩,d⟩;have i:=b t aj
       have e:mC t=t.text:=by rw [mC,if_neg ae]
       rw [<-e];simp [lZ i]
     · cases h
   · rw [if_neg c] at h; cases h
theorem Df {l r:Tk} {n:Int} (b:hf l) (h:jM l=some (n,r)):bc l [Lib.itoa n] r:=by
 cases l with
 | nil=>cases h
 | cons t q=>
   unfold jM ku at h;dsimp only at h
   by_cases a:t.kind=2
   · rw [if_pos a] at h
     simp only [da] at h
     injection h with h
     injection h with c d
     subst c d;refine ⟨b,?_⟩;have f:=b t aj
     have e:mC t=Lib.itoa t.n:=by rw [mC,if_pos a]
     rw [<-e];simp [lZ f]
   · rw [if_neg a] at h; cases h
theorem Dg {l r:Tk} {mod nm:Tx} (j:hf l) (h:jd l=some ((mod,nm),r)):bc l (iD mod nm) r:=by
 unfold jd at h;obtain ⟨⟨a,q⟩,k,c⟩:=b'.1 h;obtain ⟨d,n1⟩:=pW j k;simp only at c
 cases e:aY [46] q with
 | none=>
   rw [e] at c;simp only [e0,df] at c;obtain ⟨⟨rfl,rfl⟩,rfl⟩:=c;exact d
 | some o=>
   rw [e] at c;obtain ⟨⟨b,p⟩,m,f⟩:=dr.1 c;simp only [df] at f;obtain ⟨⟨rfl,rfl⟩,rfl⟩:=f;have g:=fC d.ok aj e;obtain ⟨n,n3⟩:=pW g.ok m;refine ((d.trans g).trans n).cast ?_;unfold iD;rw [if_neg]
   · rfl
   · intro i
     simp only [beq_iff_eq] at i;subst i;simp [eP,ep] at n1
def Sound (a:Tk->Option (a8×Tk)):Prop:=∀l x r,hf l->a l=some (x,r)->bc l (fO x) r
theorem Dh {g:Tk->Option (a8×Tk)} (i:Sound g):∀(n:Nat) (l:Tk) (xs:List a8) (r:Tk),hf l->j_ g n l=some (xs,r)->bc l (gW (eD xs)++[[41]]) r
 | 0,_,_,_,_,h=>by cases h
 | n+1,l,xs,r,o,h=>by
   unfold j_ at h;obtain ⟨⟨x,q⟩,p,a⟩:=b'.1 h;have c:=i l x q o p;simp only at a
   cases e:aY [41] q with
   | some j=>
     rw [e] at a;simp only [e0,df] at a;obtain ⟨rfl,rfl⟩:=a;exact c.trans (fC c.ok aj e)
   | none=>
     rw [e] at a;simp only at a
     cases f:aY [44] q with
     | none=>rw [f] at a; cases a
     | some j=>
       rw [f] at a;obtain ⟨⟨ys,s⟩,d,k⟩:=dr.1 a;simp only [df] at k;obtain ⟨rfl,rfl⟩:=k;have m:=fC c.ok aj f;have t:=Dh i n j ys s m.ok d;refine ((c.trans m).trans t).cast ?_
       cases ys with
       | nil=>exfalso; cases n with
         | zero=>cases d
         | succ n=>
           unfold j_ at d;obtain ⟨⟨y,v⟩,_,b⟩:=b'.1 d;simp only at b
           split at b
           · simp at b
           · split at b
             · obtain ⟨w,_,u⟩:=dr.1 b
               simp at u
             · cases b
       | cons y ys=>simp [eD,gW]
theorem IN {c:Tk->Option (a8×Tk)} (d:Sound c) {l r q:Tk} {xs:List a8} (e:hf l) (f:aY [40] l=some q) (h:jN c q=some (xs,r)):bc l (pS (eD xs)) r:=by
 have a:=fC e aj f;unfold jN at h
 cases b:aY [41] q with
 | some g=>
   rw [b] at h;simp only [e0,df] at h;obtain ⟨rfl,rfl⟩:=h;exact a.trans (fC a.ok aj b)
 | none=>
   rw [b] at h;exact (a.trans (Dh d _ q xs r a.ok h)).cast (by simp [pS])
theorem IP:∀(a:List Tx) (i:Nat) (l r:Tk) (k:Nat),hf l->(∀w ∈ a,w≠[])->mg a i l=some (k,r)->∃j,k=i+j/\∃w,a[j]? = some w/\bc l [w] r
 | [],_,_,_,_,_,_,h=>by cases h
 | w::a,i,l,r,k,c,hw,h=>by
   unfold mg at h
   cases b:aY w l with
   | some q=>
     rw [b] at h;simp only [e0,df] at h;obtain ⟨rfl,rfl⟩:=h;exact ⟨0,O,w,O,fC c (hw w aj) b⟩
   | none=>
     rw [b] at h;obtain ⟨j,f,v,d,e⟩:=IP a (i+1) l r k c (λv hv=>hw v (bE _ hv)) h;exact ⟨j+1,ae,v,by simpa using d,e⟩
theorem IQ (op n:Int) (mod nm:Tx) (args:List a8):fO (.mk op n mod nm args)=mO op n mod nm (eD args):=by rw [fO]
theorem QN {c:Tk->Option (a8×Tk)} (d:Sound c) {l r q:Tk} {x:a8} (s:hf l) (t:aY [40] l=some q) (h:lj c q=some (x,r)):bc l (fO x) r:=by
 have e:=fC s aj t;unfold lj at h;obtain ⟨⟨a,f⟩,u,v⟩:=b'.1 h;obtain ⟨⟨o,g⟩,y,z⟩:=b'.1 v;obtain ⟨⟨b,A⟩,B,C⟩:=b'.1 z;obtain ⟨G,D,i⟩:=dr.1 C;simp only [df] at i;obtain ⟨rfl,rfl⟩:=i;have k:=d q a f e.ok u;obtain ⟨j,H,w,m,n⟩:=IP opsL 0 f g o k.ok aF y;have p:=d g b A n.ok B;have E:=fC p.ok aj D;refine ((((e.trans k).trans n).trans p).trans E).cast ?_
 obtain rfl:o=j:=ae
 have I:o<9:=(cf.1 m).1
 have F:tg (7+(o:Int))=w:=by
   unfold tg;rw [show ((7+(o:Int))-7).toNat=o by omega,m]; rfl
 rw [IQ,mO,if_neg ae,if_neg ae,if_neg ae,if_neg ae,if_neg ae,if_neg ae,F];simp [eD,at_]
theorem QO {f:Tk->Option (a8×Tk)} (g:Sound f) {l i r:Tk} {mod nm:Tx} {x:a8} (a:bc i (iD mod nm) l) (h:lJ f mod nm l=some (x,r)):bc i (fO x) r:=by
 unfold lJ at h
 cases c:aY [91] l with
 | some q=>
   rw [c] at h;obtain ⟨⟨y,j⟩,d,b⟩:=b'.1 h;obtain ⟨s,o,k⟩:=dr.1 b;simp only [df] at k;obtain ⟨rfl,rfl⟩:=k;have m:=fC a.ok aj c;have n:=g q y j m.ok d;have p:=fC n.ok aj o;exact (((a.trans m).trans n).trans p).cast (by simp [fO,mO,eD,at_])
 | none=>
   rw [c] at h;simp only at h
   cases e:aY [40] l with
   | some q=>
     rw [e] at h;obtain ⟨⟨xs,j⟩,d,b⟩:=dr.1 h;simp only [df] at b;obtain ⟨rfl,rfl⟩:=b;exact (a.trans (IN g a.ok e d)).cast (by simp [fO,mO])
   | none=>
     rw [e] at h;simp only [e0,df] at h;obtain ⟨rfl,rfl⟩:=h;exact a.cast (by simp [fO,mO])
theorem QP {i:Tk->Option (a8×Tk)} (c:Sound i):Sound (ka i):=by
 intro l x r a h;unfold ka at h
 cases d:aY r5 l with
 | some q=>
   rw [d] at h;simp only [e0,df] at h;obtain ⟨rfl,rfl⟩:=h;exact (fC a aF d).cast (by simp [fO,mO])
 | none=>
   rw [d] at h;simp only at h
   cases e:aY [33] l with
   | some q=>
     rw [e] at h;obtain ⟨⟨y,k⟩,f,b⟩:=dr.1 h;simp only [df] at b;obtain ⟨rfl,rfl⟩:=b;have j:=fC a aj e;exact (j.trans (c q y k j.ok f)).cast (by simp [fO,mO,eD,at_])
   | none=>
     rw [e] at h;simp only at h
     cases g:aY [40] l with
     | some q=>rw [g] at h; exact QN c a g h
     | none=>
       rw [g] at h;obtain ⟨⟨⟨mod,nm⟩,q⟩,f,b⟩:=b'.1 h;exact QO c (Dg a f) b
theorem uZ:∀f,Sound (cR f)
 | 0=>λ_ _ _ _ h=>by cases h
 | f+1=>by
   intro l x r a h
   cases l with
   | nil=>cases h
   | cons t q=>
     unfold cR at h
     by_cases b:t.kind=2
     · simp only [if_pos b,e0,df] at h
       obtain ⟨rfl,rfl⟩:=h;refine ⟨a,?_⟩;have c:=a t aj
       have e:mC t=Lib.itoa t.n:=by rw [mC,if_pos b]
       have d:fO (a8.mk 1 t.n [] [] [])=[Lib.itoa t.n]:=by simp [fO,mO]
       rw [d,<-e];simp [lZ c]
     · simp only [if_neg b] at h
       exact QP (uZ f) _ x r a h
end Go.Bw
end
