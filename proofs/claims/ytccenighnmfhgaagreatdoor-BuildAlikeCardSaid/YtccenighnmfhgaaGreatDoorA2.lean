/- BuildAlike: Build tells the same image, in whatever order the texts are. -/
import Derived.Maps.Own
import Derived.Maps.Range
import Derived.Sort.KeysCollected
import Derived.Test.YtccenighnmfhgaaGreatDoorA1
set_option linter.unusedVariables false
set_option linter.unusedSimpArgs false
section
namespace Go.Bw
open Go Go.RowKit
section
variable {P:Program} {l:List (Nat×Value)} {W:World->Prop} {d:Option Tmp} {ty:TypeId} {pos:String} {af:Array Edge} {g:Option (Nat×Bool)}
theorem VR {t:TypeId} {parts:List (Nat×Operand)} {vs:List (Nat×Value)} {z:Value} {n s:Nat} {out:List Value} (hz:zeroOf P t=some z) (hp:zi P t=some (n,s))
   (hv:u9 l parts=some vs) (hf:sQ (λi=>some (i*s,s)) (dN z) vs=some out):Yl P l W ⟨d,.build t parts.toArray,ty,pos,af,g⟩ (.agg out.toArray):=by
 intro ρ w aC _
 have e1:((parts.toArray.map λ (i,x)=>(i,ρ x)):Array (Nat×Value)).toList=vs:=by simpa using IE aC parts vs hv
 unfold zi at hp
 cases hu:P.underlying t with
 | none=>simp [hu] at hp
 | some dd=>
   cases dd<;>simp [hu] at hp
   rename_i m e;obtain ⟨inf,hi,h2,h3⟩:=hp;subst h2 h3
   have e4:Instr.fill (λi=>some (i*inf.size,inf.size)) z.cells vs=some out.toArray:=by
     refine Ej _ vs z.cells out ?_;rw [xk]
     simpa using hf
   simp only [execOp,Instr.build,Sem.run_bind,y7 hz,Result.andThen_ok,run_underlying hu,e1,e4,sizeOf,typeInfo,hi,Sem.run_pure];simp [hi,e4]
end
section
variable {P:Program} {ops:Array Oper} {Q:Exit->Act->World->Prop} {n:Nat} {ds:List Deferred} {l:List (Nat×Value)} {w0:World} {F:List Nat} {L:List ao} {Vs:List View}
 {rest:List Oper} {d:Nat} {ty:TypeId} {pos:String} {af:Array Edge} {g:Option (Nat×Bool)}
theorem jc {ι κ:Type} {f:FuncId} {args:Array Operand} {ts:Array TypeId} {vs:List Value} (L1 L2:List ao) (hg:cF ops l g) (hn:Nat.blt d n=true) (hf:Enters P f) (ha:i_ l args.toList=some vs) (hL:L=L1++L2)
   (v:ι->Value) (eS:ι->List ao) (R:View->ι->Prop) (ch:κ->List PanicEntry) (Lp:κ->List ao) (Rp:κ->Prop) (a_:List View) (hV:∀H ∈ a_,H ∈ Vs)
   (Nx:∀i,∀k ∈ (eS i).flatMap ao.ids,k ∈ L1.flatMap ao.ids)
   (hC:∀w,Ws w (L1.flatMap ao.ids) L1 a_ w->Calls P f vs.toArray w λe w'=>(∃i,e = .returned (v i)/\R (nv w w') i/\Ws w (L1.flatMap ao.ids) (eS i) a_ w')\/(∃j,e = .panicked (ch j)/\Rp j/\Ws w (L1.flatMap ao.ids) (Lp j) a_ w'))
   (hp:∀j,Rp j->WE Q (.panic (ch j)) n ds l (Ws w0 F (Lp j++L2) Vs))
   (hr:∀H i,ew w0 H->R H i->WL P ops Q n ds ((d,v i)::l) (Ws w0 F (eS i++L2) (H::Vs)) rest) :
   WL P ops Q n ds l (Ws w0 F L Vs) (⟨some d,.call ⟨.value (.func f),args,ts⟩,ty,pos,af,g⟩::rest):=by
 subst hL;refine WL.Ek (ι:=View×ι) hg hn hf ha (λi=>v i.2) (λi w'=>(ew w0 i.1/\R i.1 i.2)/\Ws w0 F (eS i.2++L2) (i.1::Vs) w') (λc w'=>∃j,c=ch j/\Rp j/\Ws w0 F (Lp j++L2) Vs w') (λw hw=>(hC w (hw.self.bF hV)).mono λe w' he=>?_) (λi=>?_) (λc=>?_)
 · rcases he with ⟨i,rfl,hR,h⟩ | ⟨j,rfl,hR,h⟩
   · have hb:=hw.back h
     refine .inl ⟨(nv w w',i),O,⟨(Br w w').mono hw.fr.size,hR⟩,hb.fr,hb.kn,hb.nd,hb.own,λH hH=>?_,λH hH A hA k hk=>?_⟩
     · rcases List.mem_cons.1 hH with rfl | hH
       · exact Nv w w'
       · exact hb.vs H hH
     · rcases List.mem_cons.1 hH with rfl | hH
       · have av:k<w.heap.size:=by
           rcases List.mem_append.1 hA with hA | hA
           · have jB:=Nx i k (List.mem_flatMap.2 ⟨A,hA,hk⟩)
             obtain ⟨B,hB,hkB⟩:=List.mem_flatMap.1 jB;exact B.Ee w (hw.kn B (by simp [hB])) k hkB
           · exact A.Ee w (hw.kn A (by simp [hA])) k hk
         exact Br w w' k av
       · exact hb.off H hH A hA k hk
   · exact .inr ⟨_,O,j,O,hR,hw.back h⟩
 · intro a w cY dE
   exact hr i.1 i.2 dE.1.1 dE.1.2 a w cY dE.2
 · rintro a w cY ⟨j,rfl,hR,dE⟩
   exact hp j hR a w cY dE
end
def rv (A:ao) (w:World):View:=λb=>if b ∈ A.ids then w.heap[b]? else none
section
variable {w0 w:World} {F:List Nat} {L:List ao} {Vs:List View} {A:ao}
theorem ag2 (A:ao) (w:World):Le (rv A w) w:=λb o h=>by
 unfold rv at h
 split at h
 · exact h
 · cases h
theorem Ws.EV (h:Ws w0 F L Vs w) (i:Nat) (hL:L[i]? = some A):Ws w0 F (df i L) (rv A w::Vs) w:=by
 have h1:=h.perm (nU i L hL);have h2:Ws w0 F (df i L) Vs w:=Ws.drop (L:=[A]) h1;refine ⟨h2.fr,h2.kn,h2.nd,h2.own,λH hH=>?_,λH hH B hB k hk=>?_⟩
 · rcases List.mem_cons.1 hH with rfl | hH
   · exact ag2 A w
   · exact h2.vs H hH
 · rcases List.mem_cons.1 hH with rfl | hH
   · have nd:=h1.nd
     rw [List.flatMap_cons,List.nodup_append] at nd;unfold rv;rw [if_neg];intro e7;exact nd.2.2 k e7 k (List.mem_flatMap.2 ⟨B,hB,hk⟩) O
   · exact h2.off H hH B hB k hk
theorem Jg {α:Type} {rd:View->Nat->Nat->α->Prop} {f:α->List Value} {k e c:Nat} {a:Option Addr} {xs:List α} (h:(bt e k f a c xs).holds w)
   (hf:∀x,(f x).length=k) (d_:∀H b o x,aR H b o (f x)->rd H b o x):Sl rd k (rv (bt e k f a c xs) w) a c xs:=by
 obtain ⟨h1,h2⟩:=(h:w.ownsRow 0 e k _ xs.length (xs.flatMap f))
 rcases h2 with ⟨h3,h4⟩ | ⟨b,cap,cur,h5,_,hb,lR,hc,hs,ht⟩
 · injection h3 with ha hl hc
   subst ha hc;have:xs=[]:=List.eq_nil_of_length_eq_zero (by omega);subst this;exact Sl.nil
 · injection h5 with ha hl mZ
   subst ha mZ;refine ⟨lR,by unfold maxLen at hc; omega,by simp,λi x hx=>⟨b,0,O,d_ _ _ _ _ λj v hv=>?_⟩⟩
   have hj:j<k:=by have:=(List.getElem?_eq_some_iff.1 hv).1; rw [hf] at this; exact this
   have h6:(xs.flatMap f)[i*k+j]? = some v:=by rw [ve hf hx hj]; exact hv
   rw [<-ht,List.getElem?_take] at h6
   split at h6
   · have hr:rv (bt e k f (some ⟨b,0,none⟩) c xs) w b=some (.cells cur e (0,0)):=by
       unfold rv;rw [if_pos (by simp [aY,Value.ownBlock])];exact hb
     have h7:vc (rv (bt e k f (some ⟨b,0,none⟩) c xs) w) b (0+i*k+j)=fT (.cells cur e (0,0)) (0+i*k+j):=by unfold vc; rw [hr]; rfl
     rw [h7]
     simpa [fT] using h6
   · cases h6
end
section
variable {P:Program} {ops:Array Oper} {cd:Code} {Q:Exit->Act->World->Prop} {n:Nat} {ds:List Deferred} {l:List (Nat×Value)} {w0:World} {F:List Nat} {L:List ao} {Vs:List View} {rest:List Oper}
theorem WC.n5 {α:Type} {rd:View->Nat->Nat->α->Prop} {f:α->List Value} {k e c:Nat} {a:Option Addr} {xs:List α} (i:Nat) (hL:L[i]? = some (bt e k f a c xs))
   (hf:∀x,(f x).length=k) (d_:∀H b o x,aR H b o (f x)->rd H b o x) (h:∀H,Sl rd k H a c xs->WC P cd Q n ds l (Ws w0 F (df i L) (H::Vs))):WC P cd Q n ds l (Ws w0 F L Vs):=
 λac w ha hw=>h _ (Jg (hw.kn _ (dz hL)) hf d_) ac w ha (hw.EV i hL)
theorem fg {b:Nat} {ob:Obj} (i:Nat) (qZ:Obj) (hL:L[i]? = some (ah b ob)) (he:ob=qZ) (h:WC P cd Q n ds l (Ws w0 F (L.set i (ah b qZ)) Vs)):WC P cd Q n ds l (Ws w0 F L Vs):=
 WC.EJ i hL (by rw [he]) h
theorem WL.n5 {α:Type} {rd:View->Nat->Nat->α->Prop} {f:α->List Value} {k e c:Nat} {a:Option Addr} {xs:List α} (i:Nat) (hL:L[i]? = some (bt e k f a c xs))
   (hf:∀x,(f x).length=k) (d_:∀H b o x,aR H b o (f x)->rd H b o x) (h:∀H,Sl rd k H a c xs->WL P ops Q n ds l (Ws w0 F (df i L) (H::Vs)) rest):WL P ops Q n ds l (Ws w0 F L Vs) rest:=
 λac w ha hw=>h _ (Jg (hw.kn _ (dz hL)) hf d_) ac w ha (hw.EV i hL)
theorem WL.kq {α:Type} {rd:View->Nat->Nat->α->Prop} {f:α->List Value} {k T b m:Nat} {fz:Nat×Nat} {cur:Array Value} (i:Nat) (xs:List α) (hL:L[i]? = some (ah b (.cells cur T fz))) (hc:cur=(xs.flatMap f).toArray)
   (hf:∀x,(f x).length=k) (d_:∀H b o x,aR H b o (f x)->rd H b o x) (hn:xs.length<=m) (hm:m<=9223372036854775807)
   (h:∀H,Sl rd k H (some ⟨b,0,none⟩) m xs->WL P ops Q n ds l (Ws w0 F (df i L) (H::Vs)) rest):WL P ops Q n ds l (Ws w0 F L Vs) rest:=by
 subst hc
 have hb:bv b (.cells (xs.flatMap f).toArray T fz) b=some (.cells (xs.flatMap f).toArray T fz):=by simp [bv]
 exact WL.mu i hL (h _ (Ow (f:=f) hb hf d_ hn hm))
end
def Jh (P:Program) (t:TypeId) (f:Nat):Option Nat:=match P.underlying t with
 | some (.struct fs)=>match fs[f]? with
   | some x=>if dQ P x.type=true then some x.offset else none
   | none=>none
 | _=>none
section
variable {P:Program} {l:List (Nat×Value)} {W:World->Prop} {d:Option Tmp} {ty:TypeId} {pos:String} {af:Array Edge} {g:Option (Nat×Bool)}
theorem VS {t:TypeId} {x:Operand} {f k:Nat} {cs:Array Value} {v:Value} (hf:Jh P t f=some k) (hx:aB l x=some (.agg cs)) (hv:cs[k]? = some v):Yl P l W ⟨d,.field t x f,ty,pos,af,g⟩ v:=by
 intro ρ w aC _;unfold Jh at hf
 cases hu:P.underlying t with
 | none=>simp [hu] at hf
 | some dd=>
   cases dd<;>simp [hu] at hf
   rename_i fs
   cases sV:fs[f]? with
   | none=>simp [sV] at hf
   | some fd=>
     simp [sV] at hf;obtain ⟨h1,rfl⟩:=hf;have ha:=Iz h1 w
     have hp:(part fd.type cs fd.offset).run P w = .ok v w:=by simp [part,ha,hv]
     simp [execOp,aC x _ hx,Instr.field,run_underlying hu,sV,asAgg,hp]
end
abbrev v0:View:=λ_=>none
theorem pW (w:World):ew w v0:=λ_ _=>rfl
def vj (A B:View):View:=λb=>match A b with | some o=>some o | none=>B b
theorem VT (A B:View):aK A (vj A B):=λb o h=>by simp [vj,h]
theorem VU {A B:View} {w:World} (ha:Le A w) (hb:Le B w):aK B (vj A B):=λb o h=>by
 cases hA:A b with
 | none=>simp [vj,hA,h]
 | some o'=>
   have h1:=ha b o' hA;have h2:=hb b o h;rw [h1] at h2
   injection h2 with h2
   subst h2;simp [vj,hA]
theorem ag3 {A B:View} {w:World} (ha:Le A w) (hb:Le B w):Le (vj A B) w:=λb o h=>by
 unfold vj at h
 split at h
 · rename_i o' hA; injection h with h; subst h; exact ha b _ hA
 · exact hb b o h
theorem VV {A B:View} {w:World} (ha:ew w A) (hb:ew w B):ew w (vj A B):=λb h=>by simp [vj,ha b h,hb b h]
section
variable {w0 w:World} {F:List Nat} {L:List ao} {Vs:List View} {A:ao}
theorem Ws.v0 (h:Ws w0 F L Vs w):Ws w0 F L (v0::Vs) w:=
 ⟨h.fr,h.kn,h.nd,h.own,λH hH=>by
   rcases List.mem_cons.1 hH with rfl | hH
   · intro b o hb; cases hb
   · exact h.vs H hH,λH hH=>by
   rcases List.mem_cons.1 hH with rfl | hH
   · intro _ _ _ _; rfl
   · exact h.off H hH⟩
theorem Ws.jd {H1 H2:View} (h:Ws w0 F L (H1::H2::Vs) w):Ws w0 F L (vj H1 H2::Vs) w:=
 ⟨h.fr,h.kn,h.nd,h.own,λH hH=>by
   rcases List.mem_cons.1 hH with rfl | hH
   · exact ag3 (h.vs H1 (by simp)) (h.vs H2 (by simp))
   · exact h.vs H (by simp [hH]),λH hH A hA k hk=>by
   rcases List.mem_cons.1 hH with rfl | hH
   · simp [vj,h.off H1 (by simp) A hA k hk,h.off H2 (by simp) A hA k hk]
   · exact h.off H (by simp [hH]) A hA k hk⟩
theorem Ws.ag4 (h:Ws w0 F (A::L) Vs w) (hF:∀k ∈ F,k ∈ L.flatMap ao.ids):∀k ∈ A.ids,w0.heap.size<=k:=by
 intro k hk
 rcases h.own A (by simp) k hk with h1 | h1
 · have nd:=h.nd
   rw [List.flatMap_cons,List.nodup_append] at nd;exact absurd O (nd.2.2 k hk k (hF k h1))
 · exact h1
theorem Ox (h:Ws w0 F (A::L) Vs w) (hF:∀k ∈ F,k ∈ L.flatMap ao.ids):ew w0 (rv A w):=λb hb=>by
 unfold rv;rw [if_neg];intro hk;have:=h.ag4 hF b hk;omega
theorem bN {H:View} (h:Ws w0 F L Vs w) (hm:H ∈ Vs) (hf:ew w0 H):aK H (nv w0 w):=afb (h.vs H hm) hf
end
section
variable {P:Program} {ops:Array Oper} {cd:Code} {Q:Exit->Act->World->Prop} {n:Nat} {ds:List Deferred} {l:List (Nat×Value)} {w0:World} {F:List Nat} {L:List ao} {Vs:List View} {rest:List Oper}
theorem WL.v0 (h:WL P ops Q n ds l (Ws w0 F L (v0::Vs)) rest):WL P ops Q n ds l (Ws w0 F L Vs) rest:=LW (λ_ hw=>hw.v0) h
theorem WL.jd {H1 H2:View} (h:∀H,aK H1 H->aK H2 H->(∀u,ew u H1->ew u H2->ew u H)->WL P ops Q n ds l (Ws w0 F L (H::Vs)) rest):WL P ops Q n ds l (Ws w0 F L (H1::H2::Vs)) rest:=
 λa w ha hw=>h (vj H1 H2) (VT H1 H2) (VU (hw.vs H1 (by simp)) (hw.vs H2 (by simp))) (λu h1 h2=>VV h1 h2) a w ha hw.jd
theorem WC.jd {H1 H2:View} (h:∀H,aK H1 H->aK H2 H->(∀u,ew u H1->ew u H2->ew u H)->WC P cd Q n ds l (Ws w0 F L (H::Vs))):WC P cd Q n ds l (Ws w0 F L (H1::H2::Vs)):=
 λa w ha hw=>h (vj H1 H2) (VT H1 H2) (VU (hw.vs H1 (by simp)) (hw.vs H2 (by simp))) (λu h1 h2=>VV h1 h2) a w ha hw.jd
theorem WL.o3 {α:Type} {rd:View->Nat->Nat->α->Prop} {f:α->List Value} {k e c:Nat} {a:Option Addr} {xs:List α} (i:Nat) (hL:L[i]? = some (bt e k f a c xs)) (hF:∀k ∈ F,k ∈ (df i L).flatMap ao.ids)
   (hf:∀x,(f x).length=k) (d_:∀H b o x,aR H b o (f x)->rd H b o x) (h:∀H,ew w0 H->Sl rd k H a c xs->WL P ops Q n ds l (Ws w0 F (df i L) (H::Vs)) rest):WL P ops Q n ds l (Ws w0 F L Vs) rest:=
 λac w ha hw=>h _ (Ox (hw.perm (nU i L hL)) hF) (Jg (hw.kn _ (dz hL)) hf d_) ac w ha (hw.EV i hL)
theorem WC.o3 {α:Type} {rd:View->Nat->Nat->α->Prop} {f:α->List Value} {k e c:Nat} {a:Option Addr} {xs:List α} (i:Nat) (hL:L[i]? = some (bt e k f a c xs)) (hF:∀k ∈ F,k ∈ (df i L).flatMap ao.ids)
   (hf:∀x,(f x).length=k) (d_:∀H b o x,aR H b o (f x)->rd H b o x) (h:∀H,ew w0 H->Sl rd k H a c xs->WC P cd Q n ds l (Ws w0 F (df i L) (H::Vs))):WC P cd Q n ds l (Ws w0 F L Vs):=
 λac w ha hw=>h _ (Ox (hw.perm (nU i L hL)) hF) (Jg (hw.kn _ (dz hL)) hf d_) ac w ha (hw.EV i hL)
theorem LN {α:Type} {rd:View->Nat->Nat->α->Prop} {f:α->List Value} {k T b m:Nat} {fz:Nat×Nat} {cur:Array Value} (i:Nat) (xs:List α) (hL:L[i]? = some (ah b (.cells cur T fz))) (hc:cur=(xs.flatMap f).toArray) (hF:∀k ∈ F,k ∈ (df i L).flatMap ao.ids)
   (hf:∀x,(f x).length=k) (d_:∀H b o x,aR H b o (f x)->rd H b o x) (hn:xs.length<=m) (hm:m<=9223372036854775807)
   (h:∀H,ew w0 H->Sl rd k H (some ⟨b,0,none⟩) m xs->WL P ops Q n ds l (Ws w0 F (df i L) (H::Vs)) rest):WL P ops Q n ds l (Ws w0 F L Vs) rest:=by
 subst hc;intro ac w ha hw;have hb:w.heap[b]? = some (.cells (xs.flatMap f).toArray T fz):=hw.kn _ (dz hL)
 have hr:rv (ah b (.cells (xs.flatMap f).toArray T fz)) w b=some (.cells (xs.flatMap f).toArray T fz):=by
   unfold rv;rw [if_pos (by simp [ah])];exact hb
 exact h _ (Ox (hw.perm (nU i L hL)) hF) (Ow (f:=f) hr hf d_ hn hm) ac w ha (hw.EV i hL)
end
section
variable {κ:Type} [BEq κ] [LawfulBEq κ] {kd:TypeDesc} {kv:κ->Value}
variable {P:Program} {l:List (Nat×Value)} {w0:World} {F:List Nat} {L:List ao} {Vs:List View} {ty:TypeId} {pos:String} {af:Array Edge} {g:Option (Nat×Bool)}
theorem Ji {dd:Option Tmp} {t kt e:TypeId} {x y:Operand} {b c:Nat} {m:List (cD κ)} {k:κ} {z:Value} (i:Nat) {H:View} (hH:Vs[i]? = some H) (fe:rq kd kv) (ht:P.underlying t=some (.map kt e)) (hk:P.underlying kt=some kd) (hz:zeroOf P e=some z) (hx:aB l x=some (.map (some b))) (hy:aB l y=some (kv k)) (hb:H b=some (bh kv m c)) :
   Yl P l (Ws w0 F L Vs) ⟨dd,.lookup t x y false,ty,pos,af,g⟩ (dO k m z):=by
 intro ρ w aC hw;simp [execOp,aC x _ hx,aC y _ hy,I7 (P:=P) (k:=k) false fe ht hk hz (hw.vs H (dz hH) b _ hb:w.heap[b]? = some (bh kv m c))]
theorem VW {dd:Option Tmp} {t kt e:TypeId} {x y:Operand} {b c:Nat} {m:List (cD κ)} {k:κ} {z:Value} (i:Nat) {H:View} (hH:Vs[i]? = some H) (fe:rq kd kv) (ht:P.underlying t=some (.map kt e)) (hk:P.underlying kt=some kd) (hz:zeroOf P e=some z) (hx:aB l x=some (.map (some b))) (hy:aB l y=some (kv k)) (hb:H b=some (bh kv m c)) :
   Yl P l (Ws w0 F L Vs) ⟨dd,.lookup t x y true,ty,pos,af,g⟩ (.tuple #[dO k m z,.bool (oZ k m)]):=by
 intro ρ w aC hw;simp [execOp,aC x _ hx,aC y _ hy,I7 (P:=P) (k:=k) true fe ht hk hz (hw.vs H (dz hH) b _ hb:w.heap[b]? = some (bh kv m c))]
end
theorem Ws.VX {w0 w:World} {L:List ao} {Vs:List View} (h:Ws w0 [] L Vs w) (i:Nat) {b:Nat} {ob:Obj} (hL:L[i]? = some (ah b ob)):nv w0 w b=some ob:=by
 have hb:w.heap[b]? = some ob:=h.kn _ (dz hL)
 have hn:w0.heap.size<=b:=by
   rcases h.own _ (dz hL) b (by simp [ah]) with h' | h'
   · cases h'
   · exact h'
 unfold nv;rw [if_pos hn];exact hb
section
variable {Q:Exit->Act->World->Prop} {n:Nat} {ds:List Deferred} {l:List (Nat×Value)} {w0:World} {F:List Nat} {L:List ao} {Vs:List View}
theorem WE.n6 {e:Exit} {b:Nat} {ob:Obj} (i:Nat) (qZ:Obj) (hL:L[i]? = some (ah b ob)) (he:ob=qZ) (h:WE Q e n ds l (Ws w0 F (L.set i (ah b qZ)) Vs)):WE Q e n ds l (Ws w0 F L Vs):=by
 subst he
 have:L.set i (ah b ob)=L:=by
   obtain ⟨hi,he⟩:=List.getElem?_eq_some_iff.1 hL;rw [<-he];exact List.set_getElem_self hi
 rwa [this] at h
end
theorem Ws.n8 {w0 w:World} {F:List Nat} {L:List ao} {Vs:List View} (h:Ws w0 F L Vs w) (i:Nat) {b:Nat} {ob:Obj} (hL:L[i]? = some (ah b ob)):hv w b=some ob:=h.kn _ (dz hL)
theorem rH {H:View} {b k:Nat} {ob:Obj} {v:Value} (h:H b=some ob) (hc:fT ob k=some v):vc H b k=some v:=by
 unfold vc;rw [h];exact hc
section
variable {P:Program} {ops:Array Oper} {Q:Exit->Act->World->Prop} {n:Nat} {ds:List Deferred} {l:List (Nat×Value)} {w0:World} {F:List Nat} {L:List ao} {Vs:List View} {rest:List Oper} {d:Nat} {ty:TypeId} {pos:String} {af:Array Edge} {g:Option (Nat×Bool)}
theorem WL.mz {ι κ:Type} {f:FuncId} {args:Array Operand} {ts:Array TypeId} {vs:List Value} (hg:cF ops l g) (hn:Nat.blt d n=true) (hf:Enters P f) (ha:i_ l args.toList=some vs)
   (v:ι->Value) (R:ι->Prop) (ch:κ->List PanicEntry) (Rp:κ->Prop)
   (hC:∀w,Ws w0 F L Vs w->Calls P f vs.toArray w λe w'=>(∃i,e = .returned (v i)/\Ext w w'/\R i)\/(∃j,e = .panicked (ch j)/\Ext w w'/\Rp j))
   (hp:∀j,Rp j->WE Q (.panic (ch j)) n ds l (Ws w0 F L Vs))
   (hr:∀i,R i->WL P ops Q n ds ((d,v i)::l) (Ws w0 F L Vs) rest) :
   WL P ops Q n ds l (Ws w0 F L Vs) (⟨some d,.call ⟨.value (.func f),args,ts⟩,ty,pos,af,g⟩::rest):=
 WL.Ek hg hn hf ha v (λi w'=>R i/\Ws w0 F L Vs w') (λc w'=>∃j,c=ch j/\Rp j/\Ws w0 F L Vs w') (λw hw=>(hC w hw).mono λe w' h=>by
   rcases h with ⟨i,h1,h2,h3⟩ | ⟨j,h1,h2,h3⟩
   · exact .inl ⟨i,h1,h3,hw.ext h2⟩
   · exact .inr ⟨_,h1,j,O,h3,hw.ext h2⟩) (λi a w ha hw=>hr i hw.1 a w ha hw.2) (λc a w ha hw=>by
   obtain ⟨j,rfl,h1,h2⟩:=hw
   exact hp j h1 a w ha h2)
theorem WL.xD {ι κ:Type} {f:FuncId} {args:Array Operand} {ts:Array TypeId} {vs:List Value} (hg:cF ops l g) (hn:Nat.blt d n=true) (hf:Enters P f) (ha:i_ l args.toList=some vs)
   (v:ι->Value) (R:View->ι->Prop) (ch:κ->List PanicEntry) (Rp:κ->Prop)
   (hC:∀w,Ws w0 F L Vs w->Calls P f vs.toArray w λe w'=>(∃i,e = .returned (v i)/\Ext w w'/\R (nv w w') i)\/(∃j,e = .panicked (ch j)/\Ext w w'/\Rp j))
   (hp:∀j,Rp j->WE Q (.panic (ch j)) n ds l (Ws w0 F L Vs))
   (hr:∀H i,ew w0 H->R H i->WL P ops Q n ds ((d,v i)::l) (Ws w0 F L (H::Vs)) rest) :
   WL P ops Q n ds l (Ws w0 F L Vs) (⟨some d,.call ⟨.value (.func f),args,ts⟩,ty,pos,af,g⟩::rest):=
 WL.Ek (ι:=View×ι) hg hn hf ha (λi=>v i.2) (λi w'=>(ew w0 i.1/\R i.1 i.2)/\Ws w0 F L (i.1::Vs) w') (λc w'=>∃j,c=ch j/\Rp j/\Ws w0 F L Vs w') (λw hw=>(hC w hw).mono λe w' h=>by
   rcases h with ⟨i,h1,h2,h3⟩ | ⟨j,h1,h2,h3⟩
   · exact .inl ⟨(nv w w',i),h1,⟨(Br w w').mono hw.fr.size,h3⟩,hw.view h2 (Nv w w') (Br w w')⟩
   · exact .inr ⟨_,h1,j,O,h3,hw.ext h2⟩) (λi a w ha hw=>hr i.1 i.2 hw.1.1 hw.1.2 a w ha hw.2) (λc a w ha hw=>by
   obtain ⟨j,rfl,h1,h2⟩:=hw
   exact hp j h1 a w ha h2)
end
section
variable {P:Program} {l:List (Nat×Value)} {W:World->Prop} {ty:TypeId} {pos:String} {af:Array Edge} {g:Option (Nat×Bool)}
theorem ag5 {dd:Option Tmp} {x:Operand} {s xt:TypeId} {v:Value} {fs:Array Field} (hu:P.underlying s=some (.struct fs)) (hx:aB l x=some (.iface s v)):Yl P l W ⟨dd,.typeAssert x xt s true,ty,pos,af,g⟩ (.tuple #[v,.bool true]):=by
 intro ρ w aC _;simp [execOp,aC x _ hx,Instr.typeAssert,run_underlying hu]
theorem ag6 {dd:Option Tmp} {x:Operand} {s xt:TypeId} {z:Value} {fs:Array Field} (hu:P.underlying s=some (.struct fs)) (hz:zeroOf P s=some z) (hx:aB l x=some .nilIface):Yl P l W ⟨dd,.typeAssert x xt s true,ty,pos,af,g⟩ (.tuple #[z,.bool false]):=by
 intro ρ w aC _;simp [execOp,aC x _ hx,Instr.typeAssert,run_underlying hu,y7 hz]
end
def zw (b:Bool):List Value:=[.bool b]
def rdBool (H:View) (b o:Nat) (x:Bool):Prop:=aR H b o (zw x)
theorem ag7 (b:Bool):(zw b).length=1:=rfl
section
variable {P:Program} {ops:Array Oper} {C:World->Prop} {Q:Exit->Act->World->Prop} {n:Nat} {ds:List Deferred} {l:List (Nat×Value)} {W:World->Prop}
theorem ag8 {a:Act} {l2:List (Nat×Value)} {o:Oper} {r:List Oper} (hs:lT ops l (o::r)=some l2) (ha:Ag n ds l a) :
   ∃d,o.dst=some d/\Region.wanted o (yielded ops a.tmps)=false/\lT ops ((d,undef)::l) r=some l2:=by
 simp only [lT] at hs
 cases hg:o.guard with
 | none=>simp [hg] at hs
 | some jb=>
   obtain ⟨j,b⟩:=jb
   cases hd:o.dst with
   | none=>simp [hg,hd] at hs
   | some d=>
     simp only [hg,hd] at hs
     cases hj:(ops[j]?).bind (·.dst) with
     | none=>simp [hj] at hs
     | some dj=>
       simp only [hj] at hs
       cases hl:lk l dj with
       | none=>simp [hl] at hs
       | some v=>
         simp only [hl] at hs;have hv:=ha.fk dj v hl
         cases v with
         | bool b'=>
           cases hb:(b' != b) with
           | false=>simp [hb] at hs
           | true=>
             simp only [hb,cond_true] at hs;refine ⟨d,O,?_,hs⟩;have u7:=UB ha hl (.inl (by simp [undef]))
             have hy:yielded ops a.tmps j=some b':=by simp [yielded,hj,u7]
             simp only [Region.wanted,hg,hy]
             cases b<;>cases b'<;>first | rfl | (simp at hb)
         | tuple vs=>
           refine ⟨d,O,?_,hs⟩
           have hy:yielded ops a.tmps j=none:=by
             simp only [yielded,hj,Option.bind_some];rw [Array.getD_eq_getD_getElem?] at hv
             cases ht:a.tmps[dj]? with
             | none=>rfl
             | some u=>simp [ht] at hv; simp [hv]
           simp [Region.wanted,hg,hy]
         | _=>simp at hs
def opsOf (ops:Array Oper):List (Nat×Bool)->Option (List Oper)
 | []=>some []
 | (i,_)::r=>match ops[i]?,opsOf ops r with
   | some o,some t=>some (o::t)
   | _,_=>none
theorem WD.NB {gs rest:List (Nat×Bool)}:∀{os:List Oper} {l2 l:List (Nat×Value)},opsOf ops gs=some os->lT ops l os=some l2->sT n os=true->(∀w,W w->C w)->(∀a w,Ag n ds l2 a->W w->nW P ops C Q rest a w)->
   ∀a w,Ag n ds l a->W w->nW P ops C Q (gs++rest) a w:=by
 induction gs with
 | nil=>
   intro os l2 l ho hs _ _ h a w ha hw
   injection ho with ho
   subst ho;simp [lT] at hs; subst hs; exact h a w ha hw
 | cons p r ih=>
   obtain ⟨i,q⟩:=p;intro os l2 l ho hs iw hC h a w ha hw;unfold opsOf at ho
   cases hi:ops[i]? with
   | none=>rw [hi] at ho; cases ho
   | some o=>
     cases ht:opsOf ops r with
     | none=>rw [hi,ht] at ho; cases ho
     | some t=>
       rw [hi,ht] at ho
       injection ho with ho
       subst ho;obtain ⟨d,hd,Oy,IK⟩:=ag8 hs ha;simp only [sT,List.all_cons,Bool.and_eq_true] at iw
       have NC:Nat.blt d n=true:=by have:=iw.1; rw [hd] at this; exact this
       have pX:=ih ht IK iw.2 hC h (a.put (some d) undef) w (ha.put NC undef) hw
       cases q with
       | true=>exact ⟨hC w hw,o,undef,hi,.inr ⟨Oy,rfl⟩,by rw [hd]; exact pX⟩
       | false=>
         refine ⟨hC w hw,?_⟩;unfold wpOp;simp only [hi,Oy,Bool.false_eq_true,if_false];rw [hd];exact pX
theorem ag9 {i:Nat} {K K':Act->World->Prop} {Kx:Act->World->Prop} (hk:∀a w,K a w->K' a w) {a:Act} {w:World} (h:wpOp P ops (Exit.then Kx Q) i K a w):wpOp P ops Q i K' a w:=by
 unfold wpOp at h ⊢
 cases hi:ops[i]? with
 | none=>simp only [hi] at h ⊢; exact hk _ _ h
 | some o=>
   simp only [hi] at h ⊢
   split
   · rename_i hw
     rw [if_pos hw] at h
     rcases h with h | ⟨h1,a2,w2,h2⟩
     · left
       unfold Oper.wp at h ⊢;unfold Oper.upon at h ⊢
       split at h
       all_goals first
         | exact hk _ _ h
         | exact h
         | (refine h.mono λe w' he=>?_
            cases e with
            | returned v=>exact hk _ _ he
            | panicked ch=>exact he
            | outgrown=>obtain ⟨a3,w3,h3⟩:=he; exact ⟨a3,w3,h3⟩)
         | exact h.mono λv w' he=>hk _ _ he
     · exact .inr ⟨h1,a2,w2,h2⟩
   · rename_i hw
     rw [if_neg hw] at h;exact hk _ _ h
theorem Gi {l':List (Nat×Value)} {dx:Nat} {x:Value} (m:Nat) (hC:∀w,W w->C w) (hx:lk l' dx=some x) (hd:l'.drop m=l) (hf:pO (l'.take m) l=true):WD P ops C (sU Q n ds l W dx x) n ds l' W []:=
 λ_ w ha hw=>⟨hC w hw,⟨ha.IJ m hd hf,ha.fk _ _ hx⟩,hw⟩
theorem ag' {gs rest:List (Nat×Bool)} {dx:Nat} {x:Value} (hK:∀a w,(Ag n ds l a/\a.tmps.getD dx undef=x)/\W w->nW P ops C Q rest a w):∀(a:Act) (w:World),nW P ops C (sU Q n ds l W dx x) gs a w->nW P ops C Q (gs++rest) a w:=by
 induction gs with
 | nil=>intro a w h; exact hK a w h.2
 | cons p r ih=>
   obtain ⟨i,q⟩:=p;intro a w h
   cases q with
   | true=>obtain ⟨h1,o,v,h2,h3,h4⟩:=h; exact ⟨h1,o,v,h2,h3,ih _ _ h4⟩
   | false=>exact ⟨h.1,ag9 (λa w h=>ih a w h) h.2⟩
theorem WD.El (m:Nat) {ord:List (Nat×Bool)} {os:List Oper} {ip dj dp dx:Nat} (want:Bool) {c x:Bool} {a b:Operand} {ty:TypeId} {pos:String} {af:Array Edge} {g:Option (Nat×Bool)} {l2:List (Nat×Value)}
   (hm:ord[m]? = some (ip,true)) (hp:ops[ip]? = some ⟨some dp,.pick (.tmp dj) a b,ty,pos,af,g⟩) (y8:opsOf ops (ord.take m)=some os) (hb:lk l dj=some (.bool c)) (iw:sT n os=true)
   (hg:cF ops l g) (qW:Nat.blt dp n=true) (hC:∀w,W w->C w)
   (gB:(a,b)=(bif want then (Operand.tmp dx,Operand.const (.bool false)) else (Operand.const (.bool true),Operand.tmp dx)))
   (hF:lT ops ((dj,.bool (!want))::l) os=some l2) (qX:l2.drop m=(dj,.bool (!want))::l) (qY:pO (l2.take m) ((dj,.bool (!want))::l)=true)
   (hT:c=want->WD P ops C (sU Q n ds ((dj,.bool want)::l) W dx (.bool x)) n ds ((dj,.bool want)::l) W (ord.take m))
   (h:WD P ops C Q n ds ((dp,.bool (bif want then c&&x else c||x))::l) W (ord.drop (m+1))):WD P ops C Q n ds l W ord:=by
 intro a0 w ha hw
 have ag_:ord=ord.take m++(ip,true)::ord.drop (m+1):=by
   obtain ⟨av,he⟩:=List.getElem?_eq_some_iff.1 hm;rw [<-he,List.getElem_cons_drop av,List.take_append_drop]
 rw [ag_]
 have pick:∀(a':Act) (w':World) (r:Bool),Ag n ds l a'->W w'->(if c then a'.eval a else a'.eval b) = .bool r->r=(bif want then c&&x else c||x)->
     nW P ops C Q ((ip,true)::ord.drop (m+1)) a' w':=by
   intro a' w' r cY dE hv hr;refine ⟨hC w' dE,_,.bool r,hp,.inl ⟨cF.wanted (o:=⟨some dp,.pick (.tmp dj) a b,ty,pos,af,g⟩) hg cY,λw2 _=>?_⟩,h _ _ (by rw [<-hr]; exact cY.put qW _) dE⟩;have h1:a'.eval (.tmp dj) = .bool c:=cY.fk dj _ hb;simp only [execOp,h1,asBool,Sem.run_bind,Sem.run_pure,Result.andThen_ok,hv]
 by_cases hc:c=want
 · refine ag' (l:=(dj,.bool want)::l) (W:=W) (dx:=dx) (x:=.bool x) (λa' w' hq=>?_) _ _ (hT hc a0 w (ha.known (by rw [<-hc]; exact hb)) hw)
   obtain ⟨⟨cY,hx⟩,dE⟩:=hq;refine pick a' w' x (cY.IL (by rw [<-hc]; exact hb)) dE ?_ ?_
   · subst hc
     cases c
     · simp at gB; obtain ⟨rfl,rfl⟩:=gB; exact hx
     · simp at gB; obtain ⟨rfl,rfl⟩:=gB; exact hx
   · subst hc; cases c<;>rfl
 · have mZ:c = !want:=by cases c<;>cases want<;>first | rfl | exact absurd rfl hc
   refine WD.NB y8 hF iw hC (λa' w' cY dE=>?_) a0 w (ha.known (by rw [<-mZ]; exact hb)) hw;have gk:Ag n ds l a':=(cY.IJ m qX qY).IL (by rw [<-mZ]; exact hb);refine pick a' w' c gk dE ?_ ?_
   · subst mZ
     cases want
     · simp at gB; obtain ⟨rfl,rfl⟩:=gB; rfl
     · simp at gB; obtain ⟨rfl,rfl⟩:=gB; rfl
   · subst mZ; cases want<;>rfl
theorem WD.and (m:Nat) {ord:List (Nat×Bool)} {os:List Oper} {ip dj dp dx:Nat} {c x:Bool} {a b:Operand} {ty:TypeId} {pos:String} {af:Array Edge} {g:Option (Nat×Bool)} {l2:List (Nat×Value)}
   (hm:ord[m]? = some (ip,true)) (hp:ops[ip]? = some ⟨some dp,.pick (.tmp dj) a b,ty,pos,af,g⟩) (y8:opsOf ops (ord.take m)=some os) (hb:lk l dj=some (.bool c)) (iw:sT n os=true)
   (hg:cF ops l g) (qW:Nat.blt dp n=true) (hC:∀w,W w->C w) (gB:(a,b)=(Operand.tmp dx,Operand.const (.bool false)))
   (hF:lT ops ((dj,.bool false)::l) os=some l2) (qX:l2.drop m=(dj,.bool false)::l) (qY:pO (l2.take m) ((dj,.bool false)::l)=true)
   (hT:c=true->WD P ops C (sU Q n ds ((dj,.bool true)::l) W dx (.bool x)) n ds ((dj,.bool true)::l) W (ord.take m))
   (h:WD P ops C Q n ds ((dp,.bool (c&&x))::l) W (ord.drop (m+1))):WD P ops C Q n ds l W ord:=
 WD.El m true hm hp y8 hb iw hg qW hC gB hF qX qY hT h
theorem WD.or (m:Nat) {ord:List (Nat×Bool)} {os:List Oper} {ip dj dp dx:Nat} {c x:Bool} {a b:Operand} {ty:TypeId} {pos:String} {af:Array Edge} {g:Option (Nat×Bool)} {l2:List (Nat×Value)}
   (hm:ord[m]? = some (ip,true)) (hp:ops[ip]? = some ⟨some dp,.pick (.tmp dj) a b,ty,pos,af,g⟩) (y8:opsOf ops (ord.take m)=some os) (hb:lk l dj=some (.bool c)) (iw:sT n os=true)
   (hg:cF ops l g) (qW:Nat.blt dp n=true) (hC:∀w,W w->C w) (gB:(a,b)=(Operand.const (.bool true),Operand.tmp dx))
   (hF:lT ops ((dj,.bool true)::l) os=some l2) (qX:l2.drop m=(dj,.bool true)::l) (qY:pO (l2.take m) ((dj,.bool true)::l)=true)
   (hT:c=false->WD P ops C (sU Q n ds ((dj,.bool false)::l) W dx (.bool x)) n ds ((dj,.bool false)::l) W (ord.take m))
   (h:WD P ops C Q n ds ((dp,.bool (c||x))::l) W (ord.drop (m+1))):WD P ops C Q n ds l W ord:=
 WD.El m false hm hp y8 hb iw hg qW hC gB hF qX qY hT h
end
section
variable {P:Program} {l:List (Nat×Value)} {W:World->Prop} {d:Option Tmp} {ty:TypeId} {pos:String} {af:Array Edge} {g:Option (Nat×Bool)}
theorem mA {t u:TypeId} {x y:Operand} {k:IntKind} {a b:Int} (hx:aB l x=some (.int k a)) (hy:aB l y=some (.int k b)) (h:a=b):Yl P l W ⟨d,.binOp .neq t x y u,ty,pos,af,g⟩ (.bool false):=by
 subst h;have:=eL (P:=P) (W:=W) (d:=d) (ty:=ty) (pos:=pos) (af:=af) (g:=g) (t:=t) (u:=u) hx hy
 rwa [show (a != a)=false by simp] at this
theorem Oz {t u:TypeId} {x y:Operand} {a b:List UInt8} (hx:aB l x=some (st a)) (hy:aB l y=some (st b)) (h:a=b):Yl P l W ⟨d,.binOp .neq t x y u,ty,pos,af,g⟩ (.bool false):=by
 subst h;have:=IB (P:=P) (W:=W) (d:=d) (ty:=ty) (pos:=pos) (af:=af) (g:=g) (t:=t) (u:=u) hx hy
 rwa [show (!(a==a))=false by simp] at this
theorem aha {t u:TypeId} {x y:Operand} {a b:List UInt8} (hx:aB l x=some (st a)) (hy:aB l y=some (st b)) (h:a=b):Yl P l W ⟨d,.binOp .eql t x y u,ty,pos,af,g⟩ (.bool true):=by
 subst h;have:=y5 (P:=P) (W:=W) (d:=d) (ty:=ty) (pos:=pos) (af:=af) (g:=g) (t:=t) (u:=u) hx hy
 rwa [show (a==a)=true by simp] at this
theorem ta {t u:TypeId} {x y:Operand} {k:IntKind} {a b:Int} (hx:aB l x=some (.int k a)) (hy:aB l y=some (.int k b)) (h:a=b):Yl P l W ⟨d,.binOp .eql t x y u,ty,pos,af,g⟩ (.bool true):=by
 subst h;have:=aW (P:=P) (W:=W) (d:=d) (ty:=ty) (pos:=pos) (af:=af) (g:=g) (t:=t) (u:=u) hx hy
 rwa [show (a==a)=true by simp] at this
theorem ahb:∀(ks:List Nat) (xs:List Value),(jA ks xs xs).isSome=true->jA ks xs xs=some true:=by
 intro ks
 induction ks with
 | nil=>intro xs h; cases xs with
   | nil=>rfl
   | cons x xs=>exact absurd h (by unfold jA; simp)
 | cons k ks ih=>
   intro xs h
   cases xs with
   | nil=>exact absurd h (by unfold jA; simp)
   | cons x xs=>
     have hi:=ih xs;unfold jA at h ⊢
     split at h
     · simp_all
     · rename_i h1 h2 h3
       injection h1 with EW EX
       injection h2 with xE EY
       injection h3 with xF EZ
       subst EX EY;subst EZ;rw [xE] at xF
       injection xF with e1 e2
       subst e1 e2;subst EW xE
       cases hr:jA ks xs xs with
       | none=>simp [hr] at h
       | some r=>have:=hi (by rw [hr]; rfl); rw [hr] at this; injection this with this; subst this; simp
     · rename_i h1 h2 h3
       injection h1 with EW EX
       injection h2 with xE EY
       injection h3 with xF EZ
       subst EX EY;subst EZ;rw [xE] at xF
       injection xF with e1
       subst e1;subst EW xE
       cases hr:jA ks xs xs with
       | none=>simp [hr] at h
       | some r=>have:=hi (by rw [hr]; rfl); rw [hr] at this; injection this with this; subst this; simp
     · rename_i h1 h2 h3
       injection h1 with EW EX
       injection h2 with xE EY
       injection h3 with xF EZ
       subst EX EY;subst EZ;rw [xE] at xF
       injection xF with e1
       subst e1;subst EW xE
       cases hr:jA ks xs xs with
       | none=>simp [hr] at h
       | some r=>have:=hi (by rw [hr]; rfl); rw [hr] at this; injection this with this; subst this; simp
     · simp at h
theorem ahc {t u:TypeId} {x y:Operand} {ks:List Nat} {xs ys:List Value} (hf:EB P t=some ks) (hx:aB l x=some (.agg xs.toArray)) (hy:aB l y=some (.agg ys.toArray)) (h:xs=ys) (he:(jA ks xs xs).isSome=true) :
   Yl P l W ⟨d,.binOp .neq t x y u,ty,pos,af,g⟩ (.bool false):=by
 subst h;exact afC hf hx hy (ahb ks xs he)
theorem WD.wk {ops:Array Oper} {C:World->Prop} {Q:Exit->Act->World->Prop} {n:Nat} {ds:List Deferred} {W':World->Prop} {rest:List (Nat×Bool)} (hW:∀w,W w->W' w) (h:WD P ops C Q n ds l W' rest):WD P ops C Q n ds l W rest:=λa w ha hw=>h a w ha (hW w hw)
end
open Go.ChangeShapes Go.WideShapes Go.ChangeAt Go.RowKit Go.Joins Go.Deep
structure E1 (H:Type) where
 B:DataW H->Nat
 BA:List (DataW H)->Nat
 str:∀l:List UInt8,B (.lit (.string l))=l.length+1
 agg:∀l,B (.agg l)=BA l+1
 sl:∀l r,BA l+1<=B (.slice l r)
 nil:BA []=0
 cons:∀d r,BA (d::r)=B d+BA r
theorem E1.at_ {H:Type} (K:E1 H) {l:List (DataW H)}:∀{i:Nat} {d:DataW H},l[i]? = some d->K.B d<=K.BA l:=by
 induction l with
 | nil=>intro i d h; cases h
 | cons y r ih=>
   intro i d h;rw [K.cons]
   cases i with
   | zero=>simp at h; subst h; omega
   | succ i=>have:=ih (i:=i) (by simpa using h); omega
section
variable {P:Program} {H:Type} {enc:TypeId×Value->H} {w:World} {base:Nat} {spare:Nat->Bool} {held:Bool} (K:E1 H)
theorem ahd {t:TypeId} {fuel:Nat} {v:Value} {x:DataW H×List MemPlace} (hu:P.underlying t=some .string) (h:DataW.trod enc P w base spare held fuel t [v]=some x):∃l:List UInt8,v=st l/\K.B x.1=l.length+1:=by
 obtain ⟨s,e,hx,_⟩:=DataW.trod_string hu h
 injection e with e _
 subst e;exact ⟨s.data.toList,by simp [st],by rw [hx]; exact K.str _⟩
theorem ahe {α:Type} {rd:View->Nat->Nat->α->Prop} (wt:α->Nat) (ws:List α->Nat) (h0:ws []=0) (h1:∀x r,ws (x::r)=wt x+ws r) {ts e:TypeId} {k fuel:Nat} {v:Value} {x:DataW H×List MemPlace} (hu:P.underlying ts=some (.slice e)) (hc:P.cellsOf e=k) (hk:0<k) (mo:∀b,spare b=true)
   (ahf:∀(n:Nat) (pY:List Value) (y:DataW H×List MemPlace),n<fuel->DataW.trod enc P w base spare held n e pY=some y->pY.length=k->∃z:α,(∀b o,aR (hv w) b o pY->rd (hv w) b o z)/\wt z<=K.B y.1)
   (h:DataW.trod enc P w base spare held fuel ts [v]=some x):∃(a:Option Addr) (c:Nat) (xs:List α),v = .slice a xs.length c/\Sl rd k (hv w) a c xs/\ws xs<=K.B x.1:=by
 rcases DataW.trod_slice hu h with ⟨e1,_⟩ | ⟨a,len,cap,elems,rest,n,hn,e1,hx,hb,hl,hm,hlen,nq,ahg,_⟩
 · injection e1 with e1 _
   exact ⟨none,0,[],e1,Sl.nil,by rw [h0]; exact Nat.zero_le _⟩
 · injection e1 with e1 _
   have VY:0<cap->a.spot=none:=by
     intro dR
     rcases Nat.lt_or_ge 0 len with h2 | h2
     · have g:=nq 0 h2
       obtain ⟨y,hy⟩:∃y,elems[0]? = some y:=⟨_,List.getElem?_eq_getElem (by omega)⟩;rw [hy] at g;obtain ⟨pY,iO,_⟩:=Option.bind_eq_some_iff.1 g;rw [hc] at iO;obtain ⟨_,zm,ia⟩:=World.cells?_some iO;obtain ⟨u,Bx⟩:∃u,pY[0]? = some u:=⟨_,List.getElem?_eq_getElem (by omega)⟩;have:=ia 0 hk;rw [Bx] at this
       simpa [Addr.add] using World.cell?_spot this
     · obtain ⟨ez,eV⟩:=ahg (mo _)
       have E2:len=0:=by omega
       have g:=eV 0 (by omega);rw [E2] at g;obtain ⟨y,hy⟩:∃y,rest[0]? = some y:=⟨_,List.getElem?_eq_getElem (by omega)⟩;rw [hy] at g;obtain ⟨pY,iO,_⟩:=Option.bind_eq_some_iff.1 g;rw [hc] at iO;obtain ⟨_,zm,ia⟩:=World.cells?_some iO;obtain ⟨u,Bx⟩:∃u,pY[0]? = some u:=⟨_,List.getElem?_eq_getElem (by omega)⟩;have:=ia 0 hk;rw [Bx] at this
       simpa [Addr.add] using World.cell?_spot this
   obtain ⟨xs,ze,re⟩:=U7 (λi (z:α)=>(∀b o,a=⟨b,o,none⟩->rd (hv w) b (o+i*k) z)/\∃y:DataW H×List MemPlace,elems[i]? = some y/\wt z<=K.B y.1) len (λi hi=>by
     have g:=nq i hi;obtain ⟨y,hy⟩:∃y,elems[i]? = some y:=⟨_,List.getElem?_eq_getElem (by omega)⟩;rw [hy] at g;obtain ⟨pY,iO,ht⟩:=Option.bind_eq_some_iff.1 g;rw [hc] at iO;obtain ⟨_,zm,ia⟩:=World.cells?_some iO;obtain ⟨z,oX,rI⟩:=ahf n pY y (by omega) ht zm;refine ⟨z,λb o gB=>oX _ _ λj v hj=>?_,y,hy,rI⟩;subst gB
     have kQ:j<k:=by have:=(List.getElem?_eq_some_iff.1 hj).1; omega
     have:=ia j kQ;rw [hj] at this;rw [oQ,oQ] at this
     exact N4 this)
   have VZ:∀(l:List α) (es:List (DataW H×List MemPlace)),l.length=es.length->(∀(i:Nat) (z:α),l[i]? = some z->∃y:DataW H×List MemPlace,es[i]? = some y/\wt z<=K.B y.1)->ws l<=K.BA (es.map (·.1)):=by
     intro l
     induction l with
     | nil=>intro es _ _; rw [h0]; exact Nat.zero_le _
     | cons z l ih=>
       intro es hle hh
       cases es with
       | nil=>cases hle
       | cons y es=>
         obtain ⟨y',BK,hz⟩:=hh 0 z rfl;simp at BK; subst BK
         have:=ih es (by simpa using hle) λi z' hz'=>by
           obtain ⟨y',BK,hz⟩:=hh (i+1) z' (by simpa using hz');exact ⟨y',by simpa using BK,hz⟩
         rw [h1,List.map_cons,K.cons];omega
   refine ⟨some a,cap,xs,by rw [e1,ze],⟨by omega,by unfold maxLen at hm; omega,λp hp ai=>by injection hp with hp; subst hp; exact VY ai,λi z hz=>?_⟩,?_⟩
   · have hi:i<len:=by have:=(List.getElem?_eq_some_iff.1 hz).1; omega
     have OA:=VY (by omega);obtain ⟨b,o,s⟩:=a;obtain rfl:s=none:=OA;exact ⟨b,o,O,(re i z hz).1 b o O⟩
   · have:=VZ xs elems (by omega) λi z hz=>(re i z hz).2
     simp only [hx];have:=K.sl (elems.map (·.1)) (rest.map (·.1));omega
structure ayB (P:Program) (tE tS tD tP tM Jj BS OB BU xG:TypeId) (e s d p m:Array Field) (tI tB tT:TypeId):Prop where
 uI:P.underlying tI=some (.int .i64)
 uB:P.underlying tB=some .bool
 uT:P.underlying tT=some .string
 cT:P.cellsOf tT=1
 uE:P.underlying tE=some (.struct e)
 rE:(pV P 0 e.toList&&Nat.beq (P.cellsOf tE) e.size)=true
 fE:e.map (·.type) = #[tI,tI,tT,tT,Jj]
 uEs:P.underlying Jj=some (.slice tE)
 uS:P.underlying tS=some (.struct s)
 rS:(pV P 0 s.toList&&Nat.beq (P.cellsOf tS) s.size)=true
 fS:s.map (·.type) = #[tI,tT,tT,Jj,BS,BS]
 uSs:P.underlying BS=some (.slice tS)
 uD:P.underlying tD=some (.struct d)
 rD:(pV P 0 d.toList&&Nat.beq (P.cellsOf tD) d.size)=true
 fD:d.map (·.type) = #[tI,tT,tB,tI]
 uDs:P.underlying OB=some (.slice tD)
 uP:P.underlying tP=some (.struct p)
 rP:(pV P 0 p.toList&&Nat.beq (P.cellsOf tP) p.size)=true
 fP:p.map (·.type) = #[tT,tB,xG,xG,BS]
 uPs:P.underlying BU=some (.slice tP)
 uTs:P.underlying xG=some (.slice tT)
 uM:P.underlying tM=some (.struct m)
 rM:(pV P 0 m.toList&&Nat.beq (P.cellsOf tM) m.size)=true
 fM:m.map (·.type) = #[tT,xG,OB,BU,BS]
variable {tE tS tD tP tM Jj BS OB BU xG tI tB tT:TypeId} {e s d p m:Array Field}
end
end Go.Bw
end
section
namespace Go.Bw
open Go
structure aN where
 kind:Int
 n:Int
 pl:Int
 name:List UInt8
deriving DecidableEq
def aN.cells (x:aN):List Value:=[.int .i64 x.kind,.int .i64 x.n,.int .i64 x.pl,st x.name]
theorem aN.bq (x:aN):x.cells.length=4:=rfl
theorem aN.one (x:aN):x.cells.all (·.oneCell')=true:=rfl
def lp (H:View) (b o:Nat) (x:aN):Prop:=aR H b o x.cells
theorem ahk {H H':View} (h:aK H H') (b o:Nat) (x:aN) (r:lp H b o x):lp H' b o x:=aR.mono h r
def o4 (x:aN):Bool:=!((((((((!(dB x.name)||!(dG x.kind 1 4))||!(dG x.n 0 1099511627775))||!(dG x.pl 0 320))||(x.kind==1&&x.pl != 0))||(x.kind==2&&x.n != 0))||(x.kind==3&&!(dG x.n 1 32)))||(x.kind==4&&decide (3<x.n))))
theorem Jk {x:aN} {lo hi mx:Int} (h:(x.kind=1/\lo=0/\hi=1099511627775/\mx=0)\/(x.kind=2/\lo=0/\hi=0/\mx=320)\/(x.kind=3/\lo=1/\hi=32/\mx=320)\/(x.kind=4/\lo=0/\hi=3/\mx=320)) :
   ((((dB x.name&&decide (lo<=x.n))&&decide (x.n<=hi))&&decide (0<=x.pl))&&decide (x.pl<=mx))=o4 x:=by
 unfold o4
 generalize dB x.name=b
 rw [Bool.eq_iff_iff];cases b
 · simp
 · rcases h with ⟨h,rfl,rfl,rfl⟩ | ⟨h,rfl,rfl,rfl⟩ | ⟨h,rfl,rfl,rfl⟩ | ⟨h,rfl,rfl,rfl⟩<;>simp [dG,h]<;>omega
theorem ahl {x:aN} (h1:x.kind≠1) (h2:x.kind≠2) (h3:x.kind≠3) (h4:x.kind≠4):o4 x=false:=by
 unfold o4
 have:dG x.kind 1 4=false:=by simp [dG]; omega
 simp [this]
def et (l:List (List UInt8)):Bool:=(List.range l.length).any λi=>(List.range i).any λj=>l[i]?.getD []==l[j]?.getD []
theorem ahm {l:List (List UInt8)} {i j:Nat} (hi:i<l.length) (hj:j<i) (h:(l[i]?.getD []==l[j]?.getD [])=true):et l=true:=by
 unfold et;exact List.any_eq_true.2 ⟨i,by simpa using hi,List.any_eq_true.2 ⟨j,by simpa using hj,h⟩⟩
theorem OC {l:List (List UInt8)}:et l=true↔∃i j,i<l.length/\j<i/\l[i]? = l[j]?:=by
 constructor
 · intro h
   unfold et at h;obtain ⟨i,hi,h⟩:=List.any_eq_true.1 h;obtain ⟨j,hj,h⟩:=List.any_eq_true.1 h
   have hi:i<l.length:=by simpa using hi
   have hj:j<i:=by simpa using hj
   refine ⟨i,j,hi,hj,?_⟩;rw [List.getElem?_eq_getElem hi,List.getElem?_eq_getElem (by omega)] at h ⊢
   simpa using h
 · rintro ⟨i,j,hi,hj,h⟩
   exact ahm hi hj (by rw [h]; simp)
theorem nr {l:List (List UInt8)}:l.Nodup↔et l=false:=by
 constructor
 · intro h
   rw [Bool.eq_false_iff];intro ht;obtain ⟨i,j,hi,hj,e⟩:=OC.1 ht;have:=(List.getElem?_inj hi h).1 e;omega
 · intro h
   show List.Pairwise _ l
   rw [List.pairwise_iff_getElem];intro i j hi hj tc e;have:=OC.2 ⟨j,i,hj,tc,by rw [List.getElem?_eq_getElem hi,List.getElem?_eq_getElem hj,e]⟩;rw [h] at this; cases this
def lV (name:List UInt8) (items:List aN):Int:=
 if 16<items.length then 2 else if (items.all o4&&(!(et (items.map (·.name))||!(dB name))))=true then 0 else 1
theorem V1 {items:List aN} (h:∀(j:Nat) (x:aN),items[j]? = some x->o4 x=true):items.all o4=true:=by
 rw [List.all_eq_true];intro x hx;obtain ⟨j,hj⟩:=List.getElem?_of_mem hx;exact h j x hj
theorem ahn {items:List aN} {j:Nat} {x:aN} (hj:items[j]? = some x) (h:o4 x=false):items.all o4=false:=by
 rw [List.all_eq_false];exact ⟨x,List.mem_of_getElem? hj,by simp [h]⟩
def o5 (at_:Int) (d:bM):aN:=⟨d.kind,d.n,if d.kind=1 then 0 else at_,d.nm⟩
def nt (d:bM):Int:=if d.kind=2 then 1 else if d.kind=3 then d.n else 0
def fH:List bM->Int
 | []=>0
 | d::r=>nt d+fH r
def ku:List bM->Int->List aN
 | [],_=>[]
 | d::r,a=>o5 a d::ku r (a+nt d)
def E3 (i:Nat) (p:dh):aN:=⟨4,(p.params.length:Int),(i:Int),p.nm⟩
def nw:List dh->Nat->List aN
 | [],_=>[]
 | p::r,i=>E3 i p::nw r (i+1)
theorem V2:∀(l:List bM) (d:bM),fH (l++[d])=fH l+nt d
 | [],d=>by simp [fH]
 | x::l,d=>by simp only [List.cons_append,fH,V2 l d]; omega
theorem V3:∀(l:List bM) (d:bM) (a:Int),ku (l++[d]) a=ku l a++[o5 (a+fH l) d]
 | [],d,a=>by simp [ku,fH]
 | x::l,d,a=>by
   simp only [List.cons_append,ku,V3 l d,fH];rw [show a+nt x+fH l=a+(nt x+fH l) by omega]
theorem V4:∀(l:List dh) (p:dh) (i:Nat),nw (l++[p]) i=nw l i++[E3 (i+l.length) p]
 | [],p,i=>by simp [nw]
 | x::l,p,i=>by
   simp only [List.cons_append,nw,V4 l p,List.length_cons];rw [show i+1+l.length=i+(l.length+1) by omega]
theorem Jl:∀(l:List bM) (a:Int),(ku l a).length=l.length
 | [],_=>rfl
 | x::l,a=>by simp [ku,Jl l]
theorem OD:∀(l:List dh) (i:Nat),(nw l i).length=l.length
 | [],_=>rfl
 | x::l,i=>by simp [nw,OD l]
def ft (m:aD):List aN:=ku m.decls 0++nw m.procs 0
def Jm (m:aD):Int:=fH m.decls
def rJ (m:aD):List Bool:=m.decls.map (·.aL)++m.procs.map (·.aL)
theorem Jn (m:aD):(ft m).length=m.decls.length+m.procs.length:=by simp [ft,Jl,OD]
theorem Jo (m:aD):(rJ m).length=m.decls.length+m.procs.length:=by simp [rJ]
def mB:List aN->List Bool->List aN
 | x::l,p::ps=>(if p=true then [x] else [])++mB l ps
 | _,_=>[]
theorem V5:∀{l:List aN} {ps:List Bool} {x:aN} {p:Bool},l.length=ps.length->mB (l++[x]) (ps++[p])=mB l ps++(if p=true then [x] else [])
 | [],[],x,p,_=>by simp [mB]
 | y::l,q::ps,x,p,h=>by simp only [List.cons_append,mB,V5 (l:=l) (ps:=ps) (by simpa using h),List.append_assoc]
 | [],q::ps,x,p,h=>by simp at h
 | y::l,[],x,p,h=>by simp at h
theorem aho {l:List aN} {ps:List Bool} {i:Nat} {x:aN} {p:Bool} (hl:l.length=ps.length) (hx:l[i]? = some x) (hp:ps[i]? = some p):mB (l.take (i+1)) (ps.take (i+1))=mB (l.take i) (ps.take i)++(if p=true then [x] else []):=by
 rw [List.take_add_one,List.take_add_one,hx,hp];exact V5 (by simp; omega)
theorem V6:∀(l:List aN) (ps:List Bool),(mB l ps).length<=l.length
 | [],_=>by simp [mB]
 | x::l,[]=>by simp [mB]
 | x::l,p::ps=>by
   have:=V6 l ps;simp only [mB,List.length_append,List.length_cons]
   split<;>simp<;>omega
def cG (m:aD):(List UInt8×List aN)×Int:=
 if fG m≠0 then (([],[]),fG m) else if (et ((ft m).map (·.name))||et m.ag)=true then (([],[]),6) else ((m.nm,mB (ft m) (rJ m)),0)
inductive cH where
 | mk (op n m pl:Int) (args:List cH)
inductive cA where
 | mk (op n m pl:Int) (args:List cH) (body other:List cA)
def cH.op:cH->Int | .mk o _ _ _ _=>o
def cH.n:cH->Int | .mk _ n _ _ _=>n
def cH.m:cH->Int | .mk _ _ m _ _=>m
def cH.pl:cH->Int | .mk _ _ _ p _=>p
def cH.args:cH->List cH | .mk _ _ _ _ a=>a
def cA.op:cA->Int | .mk o _ _ _ _ _ _=>o
def cA.n:cA->Int | .mk _ n _ _ _ _ _=>n
def cA.m:cA->Int | .mk _ _ m _ _ _ _=>m
def cA.pl:cA->Int | .mk _ _ _ p _ _ _=>p
def cA.args:cA->List cH | .mk _ _ _ _ a _ _=>a
def cA.body:cA->List cA | .mk _ _ _ _ _ b _=>b
def cA.other:cA->List cA | .mk _ _ _ _ _ _ o=>o
structure jC where
 params:Int
 locals:Int
 body:List cA
structure b_ where
 nm:List UInt8
 ag:List (List UInt8)
 data:Int
 parts:List jC
 main:List cA
def jD:b_:=⟨[],[],0,[],[]⟩
def rK (e:cH) (a:Option Addr) (c:Nat):List Value:=[.int .i64 e.op,.int .i64 e.n,.int .i64 e.m,.int .i64 e.pl,.slice a e.args.length c]
def kx:Nat->View->Nat->Nat->cH->Prop
 | 0=>λ_ _ _ _=>False
 | k+1=>λH b o e=>∃a c,aR H b o (rK e a c)/\Sl (kx k) 5 H a c e.args
structure zx where
 s1:Option Addr×Nat
 s2:Option Addr×Nat
 s3:Option Addr×Nat
def vn (s:cA) (r:zx):List Value:=[.int .i64 s.op,.int .i64 s.n,.int .i64 s.m,.int .i64 s.pl,.slice r.s1.1 s.args.length r.s1.2,.slice r.s2.1 s.body.length r.s2.2,.slice r.s3.1 s.other.length r.s3.2]
def iP (ke:Nat):Nat->View->Nat->Nat->cA->Prop
 | 0=>λ_ _ _ _=>False
 | k+1=>λH b o s=>∃r:zx,aR H b o (vn s r)/\Sl (kx ke) 5 H r.s1.1 r.s1.2 s.args/\Sl (iP ke k) 7 H r.s2.1 r.s2.2 s.body/\Sl (iP ke k) 7 H r.s3.1 r.s3.2 s.other
def BV (p:jC) (r:Option Addr×Nat):List Value:=[.int .i64 p.params,.int .i64 p.locals,.slice r.1 p.body.length r.2]
def BW (ke ks:Nat) (H:View) (b o:Nat) (p:jC):Prop:=∃r:Option Addr×Nat,aR H b o (BV p r)/\Sl (iP ke ks) 7 H r.1 r.2 p.body
structure jW where
 s1:Option Addr×Nat
 s2:Option Addr×Nat
 s3:Option Addr×Nat
def eG (u:b_) (r:jW):List Value:=[st u.nm,.slice r.s1.1 u.ag.length r.s1.2,.int .i64 u.data,.slice r.s2.1 u.parts.length r.s2.2,.slice r.s3.1 u.main.length r.s3.2]
structure je (ke ks:Nat) (H:View) (r:jW) (u:b_):Prop where
 ag:Sl rdStr 1 H r.s1.1 r.s1.2 u.ag
 parts:Sl (BW ke ks) 3 H r.s2.1 r.s2.2 u.parts
 main:Sl (iP ke ks) 7 H r.s3.1 r.s3.2 u.main
def lW:jW:=⟨(none,0),(none,0),(none,0)⟩
theorem BX {ke ks:Nat} (H:View):je ke ks H lW jD:=⟨Sl.nil,Sl.nil,Sl.nil⟩
theorem OE {H H':View} (hH:aK H H'):∀{k k':Nat},k<=k'->∀(b o:Nat) (e:cH),kx k H b o e->kx k' H' b o e
 | 0,_,_,_,_,_,h=>h.elim
 | k+1,0,hk,_,_,_,_=>absurd hk (by omega)
 | k+1,k'+1,hk,b,o,e,h=>by
   obtain ⟨a,c,h1,h2⟩:=h;exact ⟨a,c,aR.mono hH h1,h2.imp λb o x hx=>OE hH (by omega) b o x hx⟩
theorem Jp {H H':View} (hH:aK H H') {ke np:Nat} (rG:ke<=np):∀{k k':Nat},k<=k'->∀(b o:Nat) (e:cA),iP ke k H b o e->iP np k' H' b o e
 | 0,_,_,_,_,_,h=>h.elim
 | k+1,0,hk,_,_,_,_=>absurd hk (by omega)
 | k+1,k'+1,hk,b,o,e,h=>by
   obtain ⟨r,h1,h2,h3,h4⟩:=h;exact ⟨r,aR.mono hH h1,h2.imp λb o x hx=>OE hH rG b o x hx,h3.imp λb o x hx=>Jp hH rG (by omega) b o x hx,h4.imp λb o x hx=>Jp hH rG (by omega) b o x hx⟩
theorem ahp {H H':View} (hH:aK H H') {ke np ks xC:Nat} (rG:ke<=np) (Oo:ks<=xC) (b o:Nat) (p:jC) (h:BW ke ks H b o p):BW np xC H' b o p:=by
 obtain ⟨r,h1,h2⟩:=h;exact ⟨r,aR.mono hH h1,h2.imp λb o x hx=>Jp hH rG Oo b o x hx⟩
theorem Jq {H N:View} {k c:Nat} {a:Option Addr} {l:List cH} (h:Sl (kx k) 5 H a c l) (hv:aK H N):Sl (kx k) 5 N a c l:=h.imp λb o x hx=>OE hv (Nat.le_refl _) b o x hx
theorem zy {H N:View} {ke k c:Nat} {a:Option Addr} {l:List cA} (h:Sl (iP ke k) 7 H a c l) (hv:aK H N):Sl (iP ke k) 7 N a c l:=h.imp λb o x hx=>Jp hv (Nat.le_refl _) (Nat.le_refl _) b o x hx
theorem ahq {H N:View} {ke k c:Nat} {a:Option Addr} {l:List jC} (h:Sl (BW ke k) 3 H a c l) (hv:aK H N):Sl (BW ke k) 3 N a c l:=h.imp λb o x hx=>ahp hv (Nat.le_refl _) (Nat.le_refl _) b o x hx
theorem je.mv {ke ks:Nat} {H N:View} {r:jW} {u:b_} (h:je ke ks H r u) (hv:aK H N):je ke ks N r u:=⟨h.ag.imp λb o x hx=>BN hv b o x hx,ahq h.parts hv,zy h.main hv⟩
def Xs {X:Type} (R:View->X->Prop) (J:View) (es:List X):Prop:=∀e ∈ es,R J e
theorem Xs.nil {X:Type} {R:View->X->Prop} (J:View):Xs R J []:=by intro e h; simp at h
theorem Xs.mono {X:Type} {R:View->X->Prop} (hm:∀{A B:View} {x:X},aK A B->R A x->R B x) {J J':View} {es:List X} (h:Xs R J es) (hv:aK J J'):Xs R J' es:=λe he=>hm hv (h e he)
theorem Xs.snoc {X:Type} {R:View->X->Prop} (hm:∀{A B:View} {x:X},aK A B->R A x->R B x) {J J1 J2:View} {es:List X} {e:X} (h:Xs R J es) (h1:aK J J2) (h2:aK J1 J2) (he:R J1 e):Xs R J2 (es++[e]):=by
 intro x hx
 rcases List.mem_append.1 hx with hx | hx
 · exact hm h1 (h x hx)
 · rw [List.mem_singleton] at hx
   subst hx;exact hm h2 he
theorem BY {X T:Type} {t:X->T} {V7:View->Nat->Nat->X->Prop} {rd:View->Nat->Nat->T->Prop} {R:View->X->Prop} {k:Nat} {H J N:View} {c:Nat} {a:Option Addr} {es:List X} (h:Sl V7 k H a c es) (fV:Xs R J es)
   (hj:∀b o e,V7 H b o e->R J e->rd N b o (t e)):Sl rd k N a c (es.map t):=by
 refine ⟨by simpa using h.cap,h.max,h.spot,λi x hx=>?_⟩;rw [List.getElem?_map] at hx;obtain ⟨e,he,rfl⟩:=Option.map_eq_some_iff.1 hx;obtain ⟨b,o,h1,h2⟩:=h.aS i e he;exact ⟨b,o,h1,hj b _ e h2 (fV e (List.mem_of_getElem? he))⟩
abbrev XN:=cH×Option Addr×Nat
def XN.cells (e:XN):List Value:=rK e.1 e.2.1 e.2.2
theorem XN.bq (e:XN):(XN.cells e).length=5:=rfl
theorem XN.one (e:XN):(XN.cells e).all (·.oneCell')=true:=rfl
def V8 (H:View) (b o:Nat) (e:XN):Prop:=aR H b o (XN.cells e)
def tf (k:Nat) (J:View) (e:XN):Prop:=Sl (kx k) 5 J e.2.1 e.2.2 e.1.args
theorem tf.mv {k:Nat} {A B:View} {e:XN} (hv:aK A B) (h:tf k A e):tf k B e:=Jq h hv
theorem ahr {k:Nat} {H J N:View} {c:Nat} {a:Option Addr} {es:List XN} (h:Sl V8 5 H a c es) (hv:aK H N) (hJ:aK J N) (fV:Xs (tf k) J es):Sl (kx (k+1)) 5 N a c (es.map (·.1)):=
 BY h fV λb o e h1 h2=>⟨e.2.1,e.2.2,aR.mono hv h1,tf.mv hJ h2⟩
abbrev XA:=cA×zx
def XA.cells (e:XA):List Value:=vn e.1 e.2
theorem XA.bq (e:XA):(XA.cells e).length=7:=rfl
theorem XA.one (e:XA):(XA.cells e).all (·.oneCell')=true:=rfl
def V9 (H:View) (b o:Nat) (e:XA):Prop:=aR H b o (XA.cells e)
structure pZ (ke k:Nat) (N:View) (e:XA):Prop where
 args:Sl (kx ke) 5 N e.2.s1.1 e.2.s1.2 e.1.args
 body:Sl (iP ke k) 7 N e.2.s2.1 e.2.s2.2 e.1.body
 other:Sl (iP ke k) 7 N e.2.s3.1 e.2.s3.2 e.1.other
theorem pZ.mv {ke k:Nat} {A B:View} {e:XA} (hv:aK A B) (h:pZ ke k A e):pZ ke k B e:=⟨Jq h.args hv,zy h.body hv,zy h.other hv⟩
theorem ahs {ke k:Nat} {H J N:View} {c:Nat} {a:Option Addr} {es:List XA} (h:Sl V9 7 H a c es) (hv:aK H N) (hJ:aK J N) (fV:Xs (pZ ke k) J es):Sl (iP ke (k+1)) 7 N a c (es.map (·.1)):=
 BY h fV λb o e h1 h2=>⟨e.2,aR.mono hv h1,(pZ.mv hJ h2).args,(pZ.mv hJ h2).body,(pZ.mv hJ h2).other⟩
abbrev XP:=jC×Option Addr×Nat
def XP.cells (e:XP):List Value:=BV e.1 e.2
theorem XP.bq (e:XP):(XP.cells e).length=3:=rfl
theorem XP.one (e:XP):(XP.cells e).all (·.oneCell')=true:=rfl
def V' (H:View) (b o:Nat) (e:XP):Prop:=aR H b o (XP.cells e)
def xH (ke k:Nat) (J:View) (e:XP):Prop:=Sl (iP ke k) 7 J e.2.1 e.2.2 e.1.body
theorem xH.mv {ke k:Nat} {A B:View} {e:XP} (hv:aK A B) (h:xH ke k A e):xH ke k B e:=zy h hv
theorem aht {ke k:Nat} {H J N:View} {c:Nat} {a:Option Addr} {es:List XP} (h:Sl V' 3 H a c es) (hv:aK H N) (hJ:aK J N) (fV:Xs (xH ke k) J es):Sl (BW ke k) 3 N a c (es.map (·.1)):=
 BY h fV λb o e h1 h2=>⟨e.2,aR.mono hv h1,xH.mv hJ h2⟩
open Go.ChangeShapes Go.WideShapes Go.ChangeAt Go.RowKit Go.Joins Go.Deep
structure ayF (P:Program) (tI tT tX V_ tF tFs:TypeId) (x f:Array Field):Prop where
 uI:P.underlying tI=some (.int .i64)
 uT:P.underlying tT=some .string
 uX:P.underlying tX=some (.struct x)
 rX:(pV P 0 x.toList&&Nat.beq (P.cellsOf tX) x.size)=true
 fX:x.map (·.type) = #[tI,tI,tI,tT]
 uXs:P.underlying V_=some (.slice tX)
 uF:P.underlying tF=some (.struct f)
 rF:(pV P 0 f.toList&&Nat.beq (P.cellsOf tF) f.size)=true
 fF:f.map (·.type) = #[tT,V_]
 uFs:P.underlying tFs=some (.slice tF)
end Go.Bw
end
section
namespace Go.Bw
open Go
structure cR where
 ay:List (List UInt8)
 own:List aN
 ag:List (List UInt8)
 xI:List (List aN)
def idxOf (nm:List UInt8):List (List UInt8)->Nat->Option Nat
 | [],_=>none
 | s::r,i=>if s=nm then some i else idxOf nm r (i+1)
def fW (nm:List UInt8):List aN->Option aN
 | []=>none
 | x::r=>if x.name=nm then some x else fW nm r
def n9 (mod nm:List UInt8):List (List UInt8)->List (List aN)->Nat->Option (Int×aN)
 | u::us,f::fs,k=>if u=mod then (match fW nm f with | some x=>some (((k+1:Nat):Int),x) | none=>n9 mod nm us fs (k+1)) else n9 mod nm us fs (k+1)
 | _,_,_=>none
def OF (i:Nat):aN:=⟨0,0,(i:Int),[]⟩
def fY (σ:cR) (mod nm:List UInt8):Option (Int×aN):=
 if mod=[] then (match idxOf nm σ.ay 0 with
   | some i=>some (-1,OF i)
   | none=>(fW nm σ.own).map λx=>(0,x))
 else n9 mod nm σ.ag σ.xI 0
def er (a b:Int):Int:=if a=0 then b else a
theorem lX (b:Int):er 0 b=b:=rfl
theorem ahv (a:Int):er a 0=a:=by unfold er; split<;>simp_all
theorem ahw (a b c:Int):er (er a b) c=er a (er b c):=by unfold er; split<;>simp_all
theorem OG {a b:Int}:er a b=0↔a=0/\b=0:=by unfold er; split<;>simp_all
theorem tg {a b:Int} (h:a≠0):er a b=a:=by unfold er; rw [if_neg h]
structure RN where
 op:Int
 n:Int
 m:Int
 pl:Int
 e:Int
def cL (σ:cR) (op n:Int) (mod nm:List UInt8) (len:Nat):RN:=
 if dG op 3 5=true then (match fY σ mod nm with
   | none=>⟨op,n,0,0,5⟩
   | some (m,it)=>
     if m = -1 then ⟨16,n,0,it.pl,if op=3 then 0 else 7⟩
     else if op=3/\it.kind=1 then ⟨1,it.n,0,0,0⟩
     else if op=3/\it.kind=2 then ⟨op,n,m,it.pl,0⟩
     else if op=4/\it.kind=3 then ⟨op,it.n,m,it.pl,0⟩
     else if op=5/\it.kind=4 then ⟨op,n,m,it.pl,if it.n=(len:Int) then 0 else 8⟩
     else ⟨op,n,0,0,7⟩)
 else ⟨op,n,0,0,0⟩
def dw (σ:cR) (op:Int) (mod nm:List UInt8) (len:Nat):RN:=
 if dG op 1 3=true then (match fY σ mod nm with
   | none=>⟨op,0,0,0,5⟩
   | some (m,it)=>
     if op=1/\(m = -1\/it.kind=2) then ⟨op,0,m,it.pl,0⟩
     else if m = -1 then ⟨op,0,0,0,7⟩
     else if op=2/\it.kind=3 then ⟨op,it.n,m,it.pl,0⟩
     else if op=3/\it.kind=4 then ⟨op,0,m,it.pl,if it.n=(len:Int) then 0 else 8⟩
     else ⟨op,0,0,0,7⟩)
 else ⟨op,0,0,0,0⟩
mutual
def n_ (σ:cR):az->cH
 | .mk op n mod nm args=>.mk (cL σ op n mod nm args.length).op (cL σ op n mod nm args.length).n (cL σ op n mod nm args.length).m (cL σ op n mod nm args.length).pl (oc σ args)
def oc (σ:cR):List az->List cH
 | []=>[]
 | x::r=>n_ σ x::oc σ r
end
mutual
def ky (σ:cR):az->Int
 | .mk op n mod nm args=>er (cL σ op n mod nm args.length).e (lq σ args)
def lq (σ:cR):List az->Int
 | []=>0
 | x::r=>er (ky σ x) (lq σ r)
end
mutual
def oe (σ:cR):aH->cA
 | .mk op mod nm args body other=>.mk (dw σ op mod nm args.length).op (dw σ op mod nm args.length).n (dw σ op mod nm args.length).m (dw σ op mod nm args.length).pl (oc σ args) (jX σ body) (jX σ other)
def jX (σ:cR):List aH->List cA
 | []=>[]
 | x::r=>oe σ x::jX σ r
end
mutual
def jE (σ:cR):aH->Int
 | .mk op mod nm args body other=>er (dw σ op mod nm args.length).e (er (lq σ args) (er (fh σ body) (fh σ other)))
def fh (σ:cR):List aH->Int
 | []=>0
 | x::r=>er (jE σ x) (fh σ r)
end
theorem ahx (σ:cR) (x:az):n_ σ x = .mk (cL σ x.op x.n x.mod x.nm x.args.length).op (cL σ x.op x.n x.mod x.nm x.args.length).n (cL σ x.op x.n x.mod x.nm x.args.length).m (cL σ x.op x.n x.mod x.nm x.args.length).pl (oc σ x.args):=by
 cases x; rw [n_]; rfl
theorem BZ (σ:cR) (x:az):ky σ x=er (cL σ x.op x.n x.mod x.nm x.args.length).e (lq σ x.args):=by cases x; rw [ky]; rfl
theorem ahy (σ:cR) (x:aH):oe σ x = .mk (dw σ x.op x.mod x.nm x.args.length).op (dw σ x.op x.mod x.nm x.args.length).n (dw σ x.op x.mod x.nm x.args.length).m (dw σ x.op x.mod x.nm x.args.length).pl (oc σ x.args) (jX σ x.body) (jX σ x.other):=by
 cases x; rw [oe]; rfl
theorem xJ (σ:cR) (x:aH):jE σ x=er (dw σ x.op x.mod x.nm x.args.length).e (er (lq σ x.args) (er (fh σ x.body) (fh σ x.other))):=by cases x; rw [jE]; rfl
theorem Wa (σ:cR):∀l,oc σ l=l.map (n_ σ)
 | []=>by rw [oc]; rfl
 | x::r=>by rw [oc,Wa σ r]; rfl
theorem Wb (σ:cR):∀l,jX σ l=l.map (oe σ)
 | []=>by rw [jX]; rfl
 | x::r=>by rw [jX,Wb σ r]; rfl
def fI {α:Type} (f:α->Int):List α->Int
 | []=>0
 | x::r=>er (f x) (fI f r)
theorem OH {α:Type} (f:α->Int):∀a b:List α,fI f (a++b)=er (fI f a) (fI f b)
 | [],b=>rfl
 | x::a,b=>by simp only [List.cons_append,fI,OH f a b,ahw]
theorem OI {α:Type} (f:α->Int) {l:List α} {i:Nat} {x:α} (h:l[i]? = some x):fI f (l.take (i+1))=er (fI f (l.take i)) (f x):=by
 rw [List.take_add_one,h,OH]
 show er _ (er (f x) 0)=_
 rw [ahv]
theorem B0 {α:Type} (f:α->Int) {l:List α} {i:Nat} {x:α} (h:l[i]? = some x) (h0:fI f (l.take i)=0) (hx:f x≠0):fI f l=f x:=by
 have e:l=l.take i++l.drop i:=(List.take_append_drop i l).symm;rw [e,OH,h0,lX]
 have hd:l.drop i=x::l.drop (i+1):=by
   obtain ⟨av,hx'⟩:=List.getElem?_eq_some_iff.1 h;rw [List.drop_eq_getElem_cons av,hx']
 rw [hd,fI,tg hx]
theorem OJ (σ:cR):∀l,lq σ l=fI (ky σ) l
 | []=>by rw [lq]; rfl
 | x::r=>by rw [lq,OJ σ r]; rfl
theorem OK (σ:cR):∀l,fh σ l=fI (jE σ) l
 | []=>by rw [fh]; rfl
 | x::r=>by rw [fh,OK σ r]; rfl
def gG (m:aD) (fs:List (List UInt8×List aN)) (ay:List (List UInt8)):cR:=⟨ay,ft m,m.ag,fs.map (·.2)⟩
def zz (m:aD) (fs:List (List UInt8×List aN)) (p:dh):jC:=⟨(p.params.length:Int),(p.ay.length:Int),jX (gG m fs (p.params++p.ay)) p.body⟩
def th (m:aD) (fs:List (List UInt8×List aN)) (p:dh):Int:=er (if et (p.params++p.ay)=true then 6 else 0) (fh (gG m fs (p.params++p.ay)) p.body)
def xK (m:aD) (fs:List (List UInt8×List aN)):b_:=⟨m.nm,m.ag,Jm m,m.procs.map (zz m fs),jX (gG m fs []) m.main⟩
def p3 (m:aD) (fs:List (List UInt8×List aN)):Int:=er (fI (th m fs) m.procs) (fh (gG m fs []) m.main)
def rL:List (List UInt8)->List (List UInt8×List aN)->Bool
 | u::us,f::fs=>((lV f.1 f.2==0)&&(f.1==u))&&rL us fs
 | _,_=>true
def bJ (m:aD) (fs:List (List UInt8×List aN)):b_×Int:=
 if (cG m).2≠0 then (jD,(cG m).2) else if fs.length≠m.ag.length then (jD,8) else if rL m.ag fs=false then (jD,1)
 else if p3 m fs≠0 then (jD,p3 m fs) else (xK m fs,0)
def jf (l:List aN) (s:Nat):List (cD (List UInt8)):=match l with
 | []=>[]
 | x::r=>(x.name,.agg x.cells.toArray,s)::jf r (s+1)
def gH (l:List (List UInt8)) (s:Nat):List (cD (List UInt8)):=match l with
 | []=>[]
 | x::r=>(x,.int .i64 ((s+1:Nat):Int),s)::gH r (s+1)
theorem Wc:∀(l:List aN) (x:aN) (s:Nat),jf (l++[x]) s=jf l s++[(x.name,.agg x.cells.toArray,s+l.length)]
 | [],x,s=>rfl
 | y::r,x,s=>by
   rw [List.cons_append,jf,Wc r x,jf,List.cons_append,List.length_cons,show s+1+r.length=s+(r.length+1) by omega]
theorem We:∀(l:List (List UInt8)) (x:List UInt8) (s:Nat),gH (l++[x]) s=gH l s++[(x,.int .i64 ((s+l.length+1:Nat):Int),s+l.length)]
 | [],x,s=>rfl
 | y::r,x,s=>by
   rw [List.cons_append,gH,We r x,gH,List.cons_append,List.length_cons,show s+1+r.length=s+(r.length+1) by omega]
theorem OL (nm:List UInt8):∀(l:List aN) (s i:Nat),(bB nm (jf l s) i).map (·.2)=(fW nm l).map λx=>.agg x.cells.toArray
 | [],_,_=>rfl
 | x::r,s,i=>by
   rw [jf,bB,fW]
   by_cases h:x.name=nm
   · simp [h]
   · rw [if_neg (by simpa using λe=>h e.symm),if_neg h]
     exact OL nm r (s+1) (i+1)
theorem OM (nm:List UInt8):∀(l:List (List UInt8)) (s i:Nat),(bB nm (gH l s) i).map (·.2)=(idxOf nm l s).map λk=>.int .i64 ((k+1:Nat):Int)
 | [],_,_=>rfl
 | x::r,s,i=>by
   rw [gH,bB,idxOf]
   by_cases h:x=nm
   · simp [h]
   · rw [if_neg (by simpa using λe=>h e.symm),if_neg h]
     exact OM nm r (s+1) (i+1)
theorem Wf (nm:List UInt8) (l:List aN) (z:Value):dO nm (jf l 0) z=(match fW nm l with | some x=>.agg x.cells.toArray | none=>z)/\oZ nm (jf l 0)=(fW nm l).isSome:=by
 have h:=OL nm l 0 0;unfold dO oZ
 cases hf:bB nm (jf l 0) 0 with
 | none=>rw [hf] at h; cases hi:fW nm l with | none=>exact ⟨rfl,rfl⟩ | some x=>rw [hi] at h; cases h
 | some r=>rw [hf] at h; cases hi:fW nm l with
   | none=>rw [hi] at h; cases h
   | some x=>rw [hi] at h; simp at h; exact ⟨by simp [h],rfl⟩
theorem ahA (nm:List UInt8) (l:List (List UInt8)):dO nm (gH l 0) (.int .i64 0) = .int .i64 (match idxOf nm l 0 with | some k=>((k+1:Nat):Int) | none=>0):=by
 have h:=OM nm l 0 0;unfold dO
 cases hf:bB nm (gH l 0) 0 with
 | none=>rw [hf] at h; cases hi:idxOf nm l 0 with | none=>rfl | some x=>rw [hi] at h; cases h
 | some r=>rw [hf] at h; cases hi:idxOf nm l 0 with
   | none=>rw [hi] at h; cases h
   | some x=>rw [hi] at h; simp at h; simp [h]
theorem Wg {nm:List UInt8}:∀{l:List aN},fW nm l=none↔nm ∉ l.map (·.name)
 | []=>by simp [fW]
 | x::r=>by
   rw [fW]
   by_cases h:x.name=nm
   · simp [h]
   · rw [if_neg h,Wg (l:=r)]
     simp [Ne.symm h,eq_comm,h]
theorem xL {nm:List UInt8}:∀{l:List (List UInt8)} {s:Nat},idxOf nm l s=none↔nm ∉ l
 | [],_=>by simp [idxOf]
 | x::r,s=>by
   rw [idxOf]
   by_cases h:x=nm
   · simp [h]
   · rw [if_neg h,xL (l:=r)]
     simp only [List.mem_cons,not_or];exact ⟨λhr=>⟨λe=>h e.symm,hr⟩,λhr=>hr.2⟩
theorem ahB {l:List aN} {x:aN} (h:x.name ∉ l.map (·.name)):dv x.name (.agg x.cells.toArray) (jf l 0) l.length=jf (l++[x]) 0/\gS x.name (jf l 0) l.length=(l++[x]).length:=by
 have hf:bB x.name (jf l 0) 0=none:=by
   have:=OL x.name l 0 0;rw [Wg.2 h] at this
   simpa using this
 unfold dv gS;rw [hf,Wc];simp
theorem Wh {l:List (List UInt8)} {x:List UInt8} (h:x ∉ l):dv x (.int .i64 ((l.length+1:Nat):Int)) (gH l 0) l.length=gH (l++[x]) 0/\gS x (gH l 0) l.length=(l++[x]).length:=by
 have hf:bB x (gH l 0) 0=none:=by
   have:=OM x l 0 0;rw [xL.2 h] at this
   simpa using this
 unfold dv gS;rw [hf,We];simp
theorem B1 {nm:List UInt8}:∀{l:List (List UInt8)} {s k:Nat},idxOf nm l s=some k->s<=k/\l[k-s]? = some nm
 | [],_,_,h=>by cases h
 | x::r,s,k,h=>by
   rw [idxOf] at h
   split at h
   · rename_i hx; injection h with h; subst h; simp [hx]
   · obtain ⟨h1,h2⟩:=B1 h
     refine ⟨by omega,?_⟩;rw [show k-s=(k-(s+1))+1 by omega]; simpa using h2
theorem ON {mod nm:List UInt8}:∀{us:List (List UInt8)} {fs:List (List aN)} {s:Nat},mod ∉ us->n9 mod nm us fs s=none
 | [],_,_,_=>by simp [n9]
 | u::us,[],_,_=>by simp [n9]
 | u::us,f::fs,s,h=>by
   rw [n9,if_neg (λe=>h (by simp [e])),ON (λhm=>h (List.mem_cons_of_mem _ hm))]
theorem Wj {mod nm:List UInt8}:∀{us:List (List UInt8)} {fs:List (List aN)} {s:Nat},us.Nodup->us.length=fs.length->
   n9 mod nm us fs s=(idxOf mod us s).bind λk=>(fs[k-s]?).bind λf=>(fW nm f).map λx=>(((k+1:Nat):Int),x)
 | [],[],_,_,_=>by simp [n9,idxOf]
 | [],f::fs,_,_,h=>by simp at h
 | u::us,[],_,_,h=>by simp at h
 | u::us,f::fs,s,hn,hl=>by
   rw [n9,idxOf];have sR:=List.nodup_cons.1 hn
   by_cases h:u=mod
   · rw [if_pos h,if_pos h]
     simp only [Option.bind_some,Nat.sub_self,List.getElem?_cons_zero]
     cases fW nm f with
     | none=>simp only [Option.map_none]; exact ON (h▸sR.1)
     | some x=>rfl
   · rw [if_neg h,if_neg h,Wj sR.2 (by simpa using hl)]
     cases hi:idxOf mod us (s+1) with
     | none=>rfl
     | some k=>
       have:=(B1 hi).1;simp only [Option.bind_some];rw [show k-s=(k-(s+1))+1 by omega,List.getElem?_cons_succ]
end Go.Bw
end
section
namespace Go.Bw
open Go
structure cS where
 B2:Bool
 data:Int
 parts:List Int
def cS.cells (k:cS) (r:Option Addr×Nat):List Value:=[.bool k.B2,.int .i64 k.data,.slice r.1 k.parts.length r.2]
def eH (x:Int):List Value:=[.int .i64 x]
theorem Wk (x:Int):(eH x).length=1:=rfl
def xM (H:View) (b o:Nat) (x:Int):Prop:=aR H b o (eH x)
def p4 (H:View) (b o:Nat) (k:cS):Prop:=∃r:Option Addr×Nat,aR H b o (k.cells r)/\Sl xM 1 H r.1 r.2 k.parts
def iz (u:b_):cS:=⟨true,u.data,u.parts.map (·.params)⟩
def zA:cS:=⟨false,0,[]⟩
def B3 (ks:List cS) (m pl:Int):Bool:=((decide (m<0)||decide ((ks.length:Int)<=m))||decide (pl<0))||decide (512<pl)
def rO (ks:List cS) (m pl n:Int):Bool:=if B3 ks m pl=true then false else match ks[m.toNat]? with
 | some k=>if k.B2=true then decide (pl+n<=k.data) else n==1||decide (pl+n<=512)
 | none=>false
def B4 (ks:List cS) (m pl:Int):Bool:=(decide (m<0)||decide ((ks.length:Int)<=m))||decide (pl<0)
def ti (ks:List cS) (m pl n:Int):Bool:=if B4 ks m pl=true then false else match ks[m.toNat]? with
 | some k=>if k.B2=true then decide (pl<(k.parts.length:Int))&&(k.parts[pl.toNat]?).getD 0==n else decide (pl<6)&&decide (n<=3)
 | none=>false
def OO (ay pl:Int):Bool:=decide (0<=pl)&&decide (pl<ay)
def E4 (n:Int):Bool:=decide (1<=n)&&decide (n<=32)
theorem ahC {ks:List cS} {m pl:Int} (n:Int) (h:B3 ks m pl=true):rO ks m pl n=false:=by rw [rO,if_pos h]
theorem ahD {ks:List cS} {m pl:Int} (h:B3 ks m pl=false):(∃mi:Nat,m=mi/\mi<ks.length)/\0<=pl/\pl<=512:=by
 unfold B3 at h;simp only [Bool.or_eq_false_iff,decide_eq_false_iff_not] at h;exact ⟨⟨m.toNat,by omega,by omega⟩,by omega,by omega⟩
theorem Wl {ks:List cS} {mi:Nat} {pl n:Int} {k:cS} (h:B3 ks mi pl=false) (hk:ks[mi]? = some k):rO ks mi pl n=if k.B2=true then decide (pl+n<=k.data) else n==1||decide (pl+n<=512):=by
 rw [rO,if_neg (by rw [h]; decide),Int.toNat_natCast,hk]
theorem ahE {ks:List cS} {m pl:Int} (n:Int) (h:B4 ks m pl=true):ti ks m pl n=false:=by rw [ti,if_pos h]
theorem ahF {ks:List cS} {m pl:Int} (h:B4 ks m pl=false):(∃mi:Nat,m=mi/\mi<ks.length)/\∃p:Nat,pl=p:=by
 unfold B4 at h;simp only [Bool.or_eq_false_iff,decide_eq_false_iff_not] at h;exact ⟨⟨m.toNat,by omega,by omega⟩,pl.toNat,by omega⟩
theorem Wn {ks:List cS} {mi:Nat} {pl n:Int} {k:cS} (h:B4 ks mi pl=false) (hk:ks[mi]? = some k):ti ks mi pl n=if k.B2=true then decide (pl<(k.parts.length:Int))&&(k.parts[pl.toNat]?).getD 0==n else decide (pl<6)&&decide (n<=3):=by
 rw [ti,if_neg (by rw [h]; decide),Int.toNat_natCast,hk]
def node1 (ks:List cS) (ay op n m pl:Int) (len:Nat):Bool:=
 if op=1 then ((((m==0)&&(pl==0))&&((len:Int)==0))&&decide (0<=n))&&decide (n<=1099511627775)
 else if op=3 then ((n==0)&&((len:Int)==0))&&rO ks m pl 1
 else if op=4 then (E4 n&&((len:Int)==1))&&rO ks m pl n
 else if op=5 then (n==0)&&ti ks m pl len
 else if op=16 then (((m==0)&&(n==0))&&((len:Int)==0))&&OO ay pl
 else if op=2 then (((m==0)&&(pl==0))&&(n==0))&&((len:Int)==0)
 else if op=6 then (((m==0)&&(pl==0))&&(n==0))&&((len:Int)==1)
 else if 7<=op/\op<=15 then (((m==0)&&(pl==0))&&(n==0))&&((len:Int)==2)
 else false
def og (ks:List cS) (ay op n m pl:Int) (na nb no:Nat):Bool:=
 if op=1 then (((((nb:Int)+no==0)&&((na:Int)==1))&&(n==0))&&(((m==-1)&&OO ay pl)||rO ks m pl 1))
 else if op=2 then (((((nb:Int)+no==0)&&((na:Int)==2))&&E4 n)&&rO ks m pl n)
 else if op=3 then ((((nb:Int)+no==0)&&(n==0))&&ti ks m pl na)
 else if op=4 then (((m==0)&&(pl==0))&&(n==0))&&((na:Int)==1)
 else if op=5 then ((((m==0)&&(pl==0))&&(n==0))&&((na:Int)==1))&&((no:Int)==0)
 else if op=6\/op=7 then ((((m==0)&&(pl==0))&&(n==0))&&((nb:Int)+no==0))&&((na:Int)==1)
 else false
mutual
def vo (ks:List cS) (ay:Int):cH->Nat->Bool
 | .mk op n m pl args,d=>decide (d<=6)&&(node1 ks ay op n m pl args.length&&oh ks ay args (d+1))
def oh (ks:List cS) (ay:Int):List cH->Nat->Bool
 | [],_=>true
 | x::r,d=>vo ks ay x d&&oh ks ay r d
end
theorem Wq (ks:List cS) (ay:Int) (x:cH) (d:Nat):vo ks ay x d=(decide (d<=6)&&(node1 ks ay x.op x.n x.m x.pl x.args.length&&oh ks ay x.args (d+1))):=by cases x; rw [vo]; rfl
theorem Jr (ks:List cS) (ay:Int) (d:Nat):∀l,oh ks ay l d=l.all (vo ks ay · d)
 | []=>by rw [oh]; rfl
 | x::r=>by rw [oh,Jr ks ay d r]; rfl
def E5 (op:Int):Bool:=(op==4)||(op==5)
mutual
def tj (ks:List cS) (ay:Int):cA->Nat->Bool
 | .mk op n m pl args body other,d=>og ks ay op n m pl args.length body.length other.length&&(oh ks ay args 1&&((!(E5 op)||(decide (d+1<=6)&&(decide (body.length<=10)&&vp ks ay body (d+1))))&&(!(decide (0<other.length))||(decide (d+1<=6)&&(decide (other.length<=10)&&vp ks ay other (d+1))))))
def vp (ks:List cS) (ay:Int):List cA->Nat->Bool
 | [],_=>true
 | x::r,d=>tj ks ay x d&&vp ks ay r d
end
def jF (ks:List cS) (ay:Int) (l:List cA) (d:Nat):Bool:=decide (d<=6)&&(decide (l.length<=10)&&vp ks ay l d)
theorem Wr (ks:List cS) (ay:Int) (x:cA) (d:Nat):tj ks ay x d=(og ks ay x.op x.n x.m x.pl x.args.length x.body.length x.other.length&&(oh ks ay x.args 1&&((!(E5 x.op)||jF ks ay x.body (d+1))&&(!(decide (0<x.other.length))||jF ks ay x.other (d+1))))):=by cases x; rw [tj]; rfl
theorem OP (ks:List cS) (ay:Int) (d:Nat):∀l,vp ks ay l d=l.all (tj ks ay · d)
 | []=>by rw [vp]; rfl
 | x::r=>by rw [vp,OP ks ay d r]; rfl
theorem ahG (ks:List cS) (ay:Int) (x:cH) (d:Nat):((decide (6<(d:Int))||!(node1 ks ay x.op x.n x.m x.pl x.args.length))||!(oh ks ay x.args (d+1))) = !(vo ks ay x d):=by
 rw [Wq,show decide (6<(d:Int)) = !(decide (d<=6)) by rw [Bool.eq_iff_iff]; simp; omega]
 cases decide (d<=6)<;>cases node1 ks ay x.op x.n x.m x.pl x.args.length<;>cases oh ks ay x.args (d+1)<;>rfl
theorem ahH (ks:List cS) (ay:Int) (x:cA) (d:Nat):(((!(og ks ay x.op x.n x.m x.pl x.args.length x.body.length x.other.length)||!(oh ks ay x.args 1))||(((x.op==4)||(x.op==5))&&!(jF ks ay x.body (d+1))))||(decide (0<(x.other.length:Int))&&!(jF ks ay x.other (d+1)))) = !(tj ks ay x d):=by
 rw [Wr,show decide (0<(x.other.length:Int))=decide (0<x.other.length) by rw [Bool.eq_iff_iff]; simp];unfold E5
 cases og ks ay x.op x.n x.m x.pl x.args.length x.body.length x.other.length<;>cases oh ks ay x.args 1<;>cases ((x.op==4)||(x.op==5))<;>cases jF ks ay x.body (d+1)<;>cases decide (0<x.other.length)<;>cases jF ks ay x.other (d+1)<;>rfl
theorem ahI (ks:List cS) (ay:Int) (l:List cA) (d:Nat):(decide (6<(d:Int))||decide (10<(l.length:Int)))=true->jF ks ay l d=false:=by
 intro h;unfold jF
 have h2:¬(d<=6/\l.length<=10):=by simp at h; omega
 by_cases h3:d<=6
 · rw [decide_eq_false (by omega:¬l.length<=10)]; simp
 · rw [decide_eq_false h3]; simp
theorem ahJ {l:List cA} {d:Nat} (h:(decide (6<(d:Int))||decide (10<(l.length:Int)))=false):d<=6/\l.length<=10:=by simp at h; omega
theorem Wu (ks:List cS) (ay:Int) {l:List cA} {d:Nat} (h:d<=6/\l.length<=10):jF ks ay l d=l.all (tj ks ay · d):=by
 unfold jF; rw [decide_eq_true h.1,decide_eq_true h.2,OP]; rfl
theorem E6 {α:Type} {f:α->Bool} {l:List α} {i:Nat} {x:α} (h:l[i]? = some x) (hx:f x=false):l.all f=false:=by
 cases he:l.all f with
 | false=>rfl
 | true=>rw [List.all_eq_true.1 he x (List.mem_of_getElem? h)] at hx; cases hx
theorem E7 {α:Type} {f:α->Bool} {l:List α} {i:Nat} {x:α} (h:l[i]? = some x) (ha:(l.take i).all f=true) (hx:f x=true):(l.take (i+1)).all f=true:=by
 rw [List.take_add_one,h,List.all_append,ha];simp [hx]
def p5 (ks:List cS) (p:jC):Bool:=!(((decide (p.params<0)||decide (3<p.params))||decide (p.locals<0))||decide (4<p.locals))&&jF ks (p.params+p.locals) p.body 1
def B5 (nm:List UInt8) (us:List (List UInt8)):Bool:=!(et (nm::us))&&us.all dB
def B6 (u:b_):Bool:=(((!(dB u.nm)||decide (3<(u.ag.length:Int)))||decide (u.data<0))||decide (512<u.data))||decide (6<(u.parts.length:Int))
def tm (u:b_) (kn:List cS):Bool:=B5 u.nm u.ag&&(!(B6 u)&&(u.parts.all (p5 (iz u::kn))&&jF (iz u::kn) 0 u.main 1))
def Js (l:List b_):List (List UInt8):=l.map (·.nm)
def ahK (l:List b_):Bool:=(List.range l.length).all λn=>((l[n]?.map (·.ag)).getD []).all λs=>((Js l).take n).contains s
def Ww:List b_->Int->Bool
 | [],_=>true
 | u::r,room=>!(decide (u.data<0)||decide (room<u.data))&&Ww r (room-u.data)
def ahL (l:List b_) (u:b_):List cS:=u.ag.map λs=>match idxOf s (Js l) 0 with
 | some i=>(l[i]?.map iz).getD zA
 | none=>zA
end Go.Bw
end
section
namespace Go.Bw
open Go
def jg (x y:List UInt8):Bool:=Op.bytesLess x y
theorem Wx:∀x:List UInt8,jg x x=false
 | []=>rfl
 | a::x=>by
   have h:=Wx x;unfold jg at h ⊢;simp only [Op.bytesLess,h,Bool.and_false,Bool.or_false];simp
theorem OQ (a b:UInt8) (x y:List UInt8):jg (a::x) (b::y)=(decide (a<b)||((a==b)&&jg x y)):=rfl
theorem Wy:∀x y:List UInt8,x≠y->jg x y=true\/jg y x=true
 | [],[],h=>absurd rfl h
 | [],b::y,_=>.inl rfl
 | a::x,[],_=>.inr rfl
 | a::x,b::y,h=>by
   rw [OQ,OQ]
   by_cases e:a=b
   · subst e
     have:=Wy x y (λe=>h (by rw [e]))
     simpa using this
   · rcases Nat.lt_or_gt_of_ne (λhh=>e (UInt8.toNat_inj.1 hh)) with h1 | h1
     · left; simp [UInt8.lt_iff_toNat_lt,h1]
     · right; simp [UInt8.lt_iff_toNat_lt,h1]
theorem OR:∀x y z:List UInt8,jg x y=true->jg y z=true->jg x z=true
 | [],[],_,h,_=>by cases h
 | [],_::_,[],_,h=>by cases h
 | [],_::_,_::_,_,_=>rfl
 | _::_,[],_,h,_=>by cases h
 | _::_,_::_,[],_,h=>by cases h
 | a::x,b::y,c::z,h1,h2=>by
   rw [OQ] at h1 h2 ⊢;simp only [Bool.or_eq_true,Bool.and_eq_true,decide_eq_true_eq,beq_iff_eq,UInt8.lt_iff_toNat_lt] at h1 h2 ⊢
   rcases h1 with h1 | ⟨rfl,h1⟩
   · rcases h2 with h2 | ⟨rfl,h2⟩
     · exact .inl (by omega)
     · exact .inl h1
   · rcases h2 with h2 | ⟨rfl,h2⟩
     · exact .inl h2
     · exact .inr ⟨O,OR x y z h1 h2⟩
theorem ahM {x y:List UInt8} (h:jg x y=true):jg y x=false:=by
 rw [Bool.eq_false_iff];intro h2;have:=OR x y x h h2;rw [Wx] at this; cases this
def fZ (l:List aD):List (List UInt8):=l.map (·.nm)
def iA (l:List aD) (s:List UInt8):Option Nat:=idxOf s (fZ l) 0
def fu (l:List aD) (i:Nat):List UInt8:=(l[i]?.map (·.nm)).getD []
def rQ (l:List aD) (i:Nat):List (List UInt8):=(l[i]?.map (·.ag)).getD []
def E8 (l:List aD):Bool:=l.all λm=>m.ag.all λs=>(iA l s).isSome
def jG (l:List aD):Int:=if 4<l.length then 2 else er (fI fG l) (if et (fZ l)=true then 6 else if E8 l=true then 0 else 5)
structure vq (l:List aD):Prop where
 eA:l.length<=4
 vr:∀m ∈ l,fG m=0
 nd:(fZ l).Nodup
 ag:∀m ∈ l,∀s ∈ m.ag,∃j,iA l s=some j
theorem p6 {α:Type} {f:α->Int}:∀{l:List α},fI f l=0↔∀x ∈ l,f x=0
 | []=>by simp [fI]
 | x::l=>by rw [fI,OG,p6 (l:=l)]; simp
theorem OS {l:List aD}:jG l=0↔vq l:=by
 unfold jG
 constructor
 · intro h
   split at h
   · cases h
   · rename_i h4
     obtain ⟨h1,h2⟩:=OG.1 h
     split at h2
     · cases h2
     · rename_i ht
       split at h2
       · rename_i hu
         refine ⟨by omega,p6.1 h1,nr.2 (by simpa using ht),λm hm s hs=>?_⟩;have:=List.all_eq_true.1 (List.all_eq_true.1 hu m hm) s hs
         cases hp:iA l s with
         | none=>rw [hp] at this; cases this
         | some j=>exact ⟨j,rfl⟩
       · cases h2
 · intro h
   rw [if_neg (by have:=h.eA; omega),p6.2 h.vr,lX,if_neg (by rw [nr.1 h.nd]; decide),if_pos];refine List.all_eq_true.2 λm hm=>List.all_eq_true.2 λs hs=>?_;obtain ⟨j,hj⟩:=h.ag m hm s hs;rw [hj]; rfl
theorem Wz {l:List aD} {s:List UInt8} {j:Nat} (h:iA l s=some j):j<l.length/\fu l j=s:=by
 have h2:=(B1 h).2;rw [Nat.sub_zero] at h2;unfold fZ at h2;rw [List.getElem?_map] at h2;obtain ⟨m,hm,e⟩:=Option.map_eq_some_iff.1 h2;exact ⟨(List.getElem?_eq_some_iff.1 hm).1,by rw [fu,hm]; exact e⟩
theorem xN {l:List aD} {i:Nat} {m:aD} (h:l[i]? = some m):fu l i=m.nm:=by rw [fu,h]; rfl
theorem WA {l:List aD} {i:Nat} {m:aD} (h:l[i]? = some m):rQ l i=m.ag:=by rw [rQ,h]; rfl
theorem B7 {l:List aD} {i:Nat} {m:aD} (h:l[i]? = some m):(fZ l)[i]? = some m.nm:=by unfold fZ; rw [List.getElem?_map,h]; rfl
theorem xO (l:List aD):(fZ l).length=l.length:=by simp [fZ]
theorem OT {l:List aD} (hn:(fZ l).Nodup) {i j:Nat} (hi:i<l.length) (hj:j<l.length) (h:fu l i=fu l j):i=j:=by
 have e:(fZ l)[i]? = (fZ l)[j]?:=by
   rw [B7 (List.getElem?_eq_getElem hi),B7 (List.getElem?_eq_getElem hj),<-xN (List.getElem?_eq_getElem hi),<-xN (List.getElem?_eq_getElem hj),h]
 exact (List.getElem?_inj (by rw [xO]; exact hi) hn).1 e
theorem ahN {l:List aD} (hn:(fZ l).Nodup) {i:Nat} (hi:i<l.length):iA l (fu l i)=some i:=by
 cases hp:iA l (fu l i) with
 | none=>
   refine absurd ?_ (xL.1 hp);rw [xN (List.getElem?_eq_getElem hi)];exact List.mem_of_getElem? (B7 (List.getElem?_eq_getElem hi))
 | some j=>
   obtain ⟨h1,h2⟩:=Wz hp;rw [OT hn h1 hi h2]
def kz (l:List aD) (d:List Nat) (s:List UInt8):Bool:=match iA l s with | some j=>d.contains j | none=>false
def mC (l:List aD) (d:List Nat) (i:Nat):Bool:=!d.contains i&&(rQ l i).all (kz l d)
structure B8 (l:List aD) (d:List Nat) (b:Nat):Prop where
 lt:b<l.length
 ready:mC l d b=true
 least:∀i,i<l.length->mC l d i=true->i=b\/jg (fu l b) (fu l i)=true
inductive jh (l:List aD):List Nat->Prop where
 | nil:jh l []
 | snoc {d:List Nat} {b:Nat}:jh l d->B8 l d b->jh l (d++[b])
def OU (l:List aD) (d:List Nat):Prop:=∀i,i<l.length->mC l d i=false
theorem ahO {l:List aD} {d:List Nat} {a b:Nat} (ha:B8 l d a) (hb:B8 l d b):a=b:=by
 rcases ha.least b hb.lt hb.ready with h | h
 · exact h.symm
 · rcases hb.least a ha.lt ha.ready with h2 | h2
   · exact h2
   · rw [ahM h] at h2; cases h2
theorem OV {l:List aD} {d:List Nat} {b:Nat} (h:jh l (d++[b])):jh l d/\B8 l d b:=by
 generalize he:d++[b]=e at h
 cases h with
 | nil=>simp at he
 | snoc h1 h2=>
   obtain ⟨rfl,e2⟩:=List.append_inj' he rfl
   injection e2 with e2
   subst e2;exact ⟨h1,h2⟩
theorem ahP {l:List aD}:∀{d:List Nat},jh l d->∀k,jh l (d.take k):=by
 intro d h
 induction h with
 | nil=>intro k; simp; exact .nil
 | @snoc d b h1 h2 ih=>
   intro k
   rcases Nat.lt_or_ge d.length k with hk | hk
   · rw [List.take_of_length_le (by simp; omega)]; exact .snoc h1 h2
   · rw [List.take_append_of_le_length hk]; exact ih k
theorem OW {l:List aD}:∀{n:Nat} {d e:List Nat},d.length=n->e.length=n->jh l d->jh l e->d=e
 | 0,d,e,h1,h2,_,_=>by rw [List.eq_nil_of_length_eq_zero h1,List.eq_nil_of_length_eq_zero h2]
 | n+1,d,e,h1,h2,hd,he=>by
   obtain ⟨d',a,rfl⟩:∃d' a,d=d'++[a]:=⟨d.dropLast,d.getLast (by intro h; rw [h] at h1; cases h1),(List.dropLast_concat_getLast _).symm⟩;obtain ⟨e',b,rfl⟩:∃d' a,e=d'++[a]:=⟨e.dropLast,e.getLast (by intro h; rw [h] at h2; cases h2),(List.dropLast_concat_getLast _).symm⟩;obtain ⟨k1,k2⟩:=OV hd;obtain ⟨k3,k4⟩:=OV he;have:=OW (n:=n) (by simpa using h1) (by simpa using h2) k1 k3;subst this;rw [ahO k2 k4]
theorem OX {l:List aD} {d e:List Nat} (hd:jh l d) (hn:OU l d) (he:jh l e):e.length<=d.length:=by
 rcases Nat.lt_or_ge d.length e.length with h | h
 · have h1:=ahP he (d.length+1)
   have h2:e.take (d.length+1)=e.take d.length++[e[d.length]]:=by rw [List.take_add_one,List.getElem?_eq_getElem h]; rfl
   rw [h2] at h1;obtain ⟨k1,k2⟩:=OV h1;have e1:=OW (n:=d.length) rfl (by simp; omega) hd k1;rw [<-e1] at k2;have:=k2.ready;rw [hn _ k2.lt] at this; cases this
 · exact h
def Jt (l:List aD) (d:List Nat):Prop:=jh l d/\(d.length=l.length\/OU l d)
theorem tp {l:List aD} {d:List Nat} (h:jh l d):(∀i ∈ d,i<l.length)/\d.Nodup:=by
 induction h with
 | nil=>simp
 | @snoc d b h1 h2 ih=>
   refine ⟨λi hi=>?_,?_⟩
   · rcases List.mem_append.1 hi with hi | hi
     · exact ih.1 i hi
     · rw [List.mem_singleton] at hi; subst hi; exact h2.lt
   · rw [List.nodup_append]
     refine ⟨ih.2,by simp,λa ha b' sS=>?_⟩;rw [List.mem_singleton] at sS; subst sS;intro e; subst e;have:=h2.ready;simp [mC,ha] at this
theorem E9:∀{n:Nat} {d:List Nat},d.Nodup->(∀i ∈ d,i<n)->d.length<=n
 | 0,[],_,_=>Nat.le_refl _
 | 0,x::_,_,h=>absurd (h x (by simp)) (by omega)
 | n+1,d,hd,hb=>by
   have h1:(d.erase n).length<=n:=E9 (hd.erase n) λi hi=>by
     have h2:=(hd.mem_erase_iff).1 hi;have:=hb i h2.2;have:=h2.1;omega
   by_cases hm:n ∈ d
   · rw [List.length_erase_of_mem hm] at h1; omega
   · rw [List.erase_of_not_mem hm] at h1; omega
theorem WG {l:List aD} {d e:List Nat} (hd:Jt l d) (he:Jt l e):d=e:=by
 have ld:=E9 (tp hd.1).2 (tp hd.1).1;have le:=E9 (tp he.1).2 (tp he.1).1
 have h:d.length=e.length:=by
   rcases hd.2 with h1 | h1
   · rcases he.2 with h2 | h2
     · omega
     · have:=OX he.1 h2 hd.1; omega
   · have h3:=OX hd.1 h1 he.1
     rcases he.2 with h2 | h2
     · omega
     · have:=OX he.1 h2 hd.1; omega
 exact OW (n:=d.length) O h.symm hd.1 he.1
def B9 (l:List aD) (d:List Nat):List Nat×Int:=if d.length=l.length then (d,0) else ([],9)
def xP (l:List aD) (s:List UInt8):List (List UInt8):=match iA l s with | some i=>rQ l i | none=>[]
inductive Reach (l:List aD) (a:List UInt8):List UInt8->Prop where
 | base {s:List UInt8}:s ∈ xP l a->Reach l a s
 | step {b s:List UInt8}:Reach l a b->s ∈ xP l b->Reach l a s
structure OY (l:List aD) (a:List UInt8) (S:List UInt8->Prop):Prop where
 base:∀s ∈ xP l a,S s
 step:∀b,S b->∀s ∈ xP l b,S s
 sound:∀s,S s->Reach l a s
theorem OY.iff {l:List aD} {a:List UInt8} {S:List UInt8->Prop} (h:OY l a S) (s:List UInt8):S s↔Reach l a s:=
 ⟨h.sound s,λhr=>by
   induction hr with
   | base h1=>exact h.base _ h1
   | step _ h1 ih=>exact h.step _ ih _ h1⟩
def f_ (l:List (List UInt8)) (s:Nat):List (cD (List UInt8)):=match l with
 | []=>[]
 | x::r=>(x,.int .i64 (s:Int),s)::f_ r (s+1)
theorem OZ:∀(l:List (List UInt8)) (s:Nat),(f_ l s).length=l.length
 | [],_=>rfl
 | x::r,s=>by rw [f_,List.length_cons,OZ r,List.length_cons]
theorem O0:∀(l:List (List UInt8)) (x:List UInt8) (s:Nat),f_ (l++[x]) s=f_ l s++[(x,.int .i64 ((s+l.length:Nat):Int),s+l.length)]
 | [],x,s=>rfl
 | y::r,x,s=>by
   rw [List.cons_append,f_,O0 r x,f_,List.cons_append,List.length_cons,show s+1+r.length=s+(r.length+1) by omega]
theorem Ju (nm:List UInt8):∀(l:List (List UInt8)) (s i:Nat),(bB nm (f_ l s) i).map (·.2)=(idxOf nm l s).map λk=>.int .i64 (k:Int)
 | [],_,_=>rfl
 | x::r,s,i=>by
   rw [f_,bB,idxOf]
   by_cases h:x=nm
   · simp [h]
   · rw [if_neg (by simpa using λe=>h e.symm),if_neg h]
     exact Ju nm r (s+1) (i+1)
theorem E' (nm:List UInt8) (l:List (List UInt8)):dO nm (f_ l 0) (.int .i64 0) = .int .i64 (((idxOf nm l 0).getD 0:Nat):Int)/\oZ nm (f_ l 0)=(idxOf nm l 0).isSome:=by
 have h:=Ju nm l 0 0;unfold dO oZ
 cases hf:bB nm (f_ l 0) 0 with
 | none=>rw [hf] at h; cases hi:idxOf nm l 0 with | none=>exact ⟨rfl,rfl⟩ | some x=>rw [hi] at h; cases h
 | some r=>rw [hf] at h; cases hi:idxOf nm l 0 with
   | none=>rw [hi] at h; cases h
   | some x=>rw [hi] at h; simp at h; exact ⟨by simp [h],rfl⟩
theorem O1 {κ:Type} [BEq κ] (k:κ) (v:Value) (m:List (cD κ)) (c:Nat):(dv k v m c).length<=m.length+1:=by
 unfold dv
 split<;>simp
def O2 (ns:List (List UInt8)) (i:Nat) (M:List (cD (List UInt8))) (c:Nat):Prop:=((ns.take i).Nodup/\M=f_ (ns.take i) 0/\c=i)\/(¬(ns.take i).Nodup/\M.length<i)
theorem ahQ {ns:List (List UInt8)} {i:Nat} {M:List (cD (List UInt8))} {c:Nat} {x:List UInt8} (h:O2 ns i M c) (hx:ns[i]? = some x):O2 ns (i+1) (dv x (.int .i64 (i:Int)) M c) (gS x M c):=by
 have av:=(List.getElem?_eq_some_iff.1 hx).1
 have hl:(ns.take i).length=i:=by simp; omega
 have hT:ns.take (i+1)=ns.take i++[x]:=by rw [List.take_add_one,hx]; rfl
 rcases h with ⟨h1,rfl,hc⟩ | ⟨h1,h2⟩
 · have mZ:=hc.symm
   subst mZ;have hf:=Ju x (ns.take i) 0 0
   by_cases hm:x ∈ ns.take i
   · right
     refine ⟨λhn=>?_,?_⟩
     · rw [hT,List.nodup_append] at hn
       exact hn.2.2 x hm x (by simp) O
     · have hs:(bB x (f_ (ns.take i) 0) 0).isSome=true:=by
         cases hg:bB x (f_ (ns.take i) 0) 0 with
         | some r=>rfl
         | none=>
           rw [hg] at hf
           have:idxOf x (ns.take i) 0=none:=by
             cases hi:idxOf x (ns.take i) 0 with
             | none=>rfl
             | some k=>rw [hi] at hf; cases hf
           exact absurd hm (xL.1 this)
       unfold dv
       cases hg:bB x (f_ (ns.take i) 0) 0 with
       | none=>rw [hg] at hs; cases hs
       | some r=>simp [OZ,hl]
   · left
     have hg:bB x (f_ (ns.take i) 0) 0=none:=by
       rw [xL.2 hm] at hf
       simpa using hf
     refine ⟨?_,?_,?_⟩
     · rw [hT,List.nodup_append]
       exact ⟨h1,by simp,λa ha b hb e=>by rw [List.mem_singleton] at hb; subst hb; subst e; exact hm ha⟩
     · unfold dv
       rw [hg,hT,O0,hl];simp
     · unfold gS
       rw [hg]
 · right
   refine ⟨λhn=>h1 ?_,?_⟩
   · rw [hT,List.nodup_append] at hn; exact hn.1
   · have:=O1 x (.int .i64 (i:Int)) M c
     omega
end Go.Bw
end
section
namespace Go.Bw
open Go
def rR (l:List aD) (a b:Nat):Prop:=jg (fu l a) (fu l b)=true
def om {α:Type} (R:α->α->Prop) (d:List α) (i:Nat):Prop:=∀(x y:Nat) (a b:α),x<y->y<i->d[x]? = some a->d[y]? = some b->R a b
structure zB {α:Type} (R:α->α->Prop) (d0 d:List α) (i j:Nat):Prop where
 perm:d.Perm d0
 ji:j<=i
 il:i<d.length
 ord:∀(x y:Nat) (a b:α),x<y->y<=i->x≠j->y≠j->d[x]? = some a->d[y]? = some b->R a b
 up:∀(y:Nat) (a b:α),j<y->y<=i->d[j]? = some a->d[y]? = some b->R a b
theorem ahR {α:Type} {R:α->α->Prop} {d0 d:List α} {i:Nat} (hp:d.Perm d0) (hi:i<d.length) (h:om R d i):zB R d0 d i i:=
 ⟨hp,Nat.le_refl _,hi,λx y a b vt hy h1 h2 ha hb=>h x y a b vt (by omega) ha hb,λy a b h1 h2=>by omega⟩
theorem ahS {α:Type} {d:List α} {j:Nat} {a b:α} (hb:d[j]? = some b) (ha:d[j+1]? = some a):d=d.take j++b::a::d.drop (j+2)/\(d.set (j+1) b).set j a=d.take j++a::b::d.drop (j+2):=by
 obtain ⟨h1,h2⟩:=List.getElem?_eq_some_iff.1 hb;obtain ⟨h3,h4⟩:=List.getElem?_eq_some_iff.1 ha
 have e:d=d.take j++b::a::d.drop (j+2):=by
   conv=>lhs; rw [<-List.take_append_drop j d,List.drop_eq_getElem_cons h1,h2,List.drop_eq_getElem_cons h3,h4]
 refine ⟨e,?_⟩
 have hl:(d.take j).length=j:=by simp; omega
 conv=>lhs; rw [e]
 rw [List.set_append_right _ _ (by omega),hl,show j+1-j=1 by omega,List.set_append_right _ _ (by omega),hl,Nat.sub_self]
 rfl
theorem ahT {α:Type} {R:α->α->Prop} {d0 d:List α} {i j:Nat} {a b:α} (h:zB R d0 d i (j+1)) (ha:d[j+1]? = some a) (hb:d[j]? = some b) (hr:R a b):zB R d0 ((d.set (j+1) b).set j a) i j:=by
 obtain ⟨e1,e2⟩:=ahS hb ha;have hj:=h.ji;have I2:=h.il
 have g:∀x,((d.set (j+1) b).set j a)[x]? = if x=j then some a else if x=j+1 then some b else d[x]?:=by
   intro x;rw [List.getElem?_set,List.getElem?_set];simp only [List.length_set]
   by_cases hx:x=j
   · subst hx; rw [if_pos rfl,if_pos (by omega),if_pos rfl]
   · rw [if_neg (λe=>hx e.symm),if_neg hx]
     by_cases xQ:x=j+1
     · subst xQ; rw [if_pos rfl,if_pos (by omega),if_pos rfl]
     · rw [if_neg (λe=>xQ e.symm),if_neg xQ]
 refine ⟨?_,by omega,by simpa using I2,?_,?_⟩
 · rw [e2]
   refine List.Perm.trans ?_ h.perm
   conv=>rhs; rw [e1]
   exact List.Perm.append_left _ (List.Perm.swap _ _ _)
 · intro x y u v vt hy h1 h2 hu hv
   rw [g,if_neg h1] at hu;rw [g,if_neg h2] at hv
   by_cases hx:x=j+1
   · rw [if_pos hx] at hu
     injection hu with hu; subst hu
     rw [if_neg (by omega)] at hv;exact h.ord j y b v (by omega) hy (by omega) (by omega) hb hv
   · rw [if_neg hx] at hu
     by_cases zC:y=j+1
     · rw [if_pos zC] at hv
       injection hv with hv; subst hv
       exact h.ord x j u b (by omega) (by omega) hx (by omega) hu hb
     · rw [if_neg zC] at hv
       exact h.ord x y u v vt hy hx zC hu hv
 · intro y u v h1 h2 hu hv
   rw [g,if_pos rfl] at hu
   injection hu with hu; subst hu
   rw [g,if_neg (by omega)] at hv
   by_cases hy:y=j+1
   · rw [if_pos hy] at hv
     injection hv with hv; subst hv
     exact hr
   · rw [if_neg hy] at hv
     exact h.up y a v (by omega) h2 ha hv
theorem ahU {α:Type} {R:α->α->Prop} {d0 d:List α} {i:Nat} (h:zB R d0 d i 0):om R d (i+1):=by
 intro x y a b vt hy ha hb
 by_cases hx:x=0
 · subst hx; exact h.up y a b vt (by omega) ha hb
 · exact h.ord x y a b vt (by omega) hx (by omega) ha hb
theorem ahV {α:Type} {R:α->α->Prop} (ht:∀a b c,R a b->R b c->R a c) {d0 d:List α} {i j:Nat} {a b:α} (h:zB R d0 d i (j+1)) (ha:d[j+1]? = some a) (hb:d[j]? = some b) (hr:R b a):om R d (i+1):=by
 intro x y u v vt hy hu hv
 by_cases hx:x=j+1
 · subst hx; exact h.up y u v vt (by omega) hu hv
 · by_cases zC:y=j+1
   · subst zC
     rw [ha] at hv; injection hv with hv; subst hv
     by_cases xQ:x=j
     · subst xQ; rw [hb] at hu; injection hu with hu; subst hu; exact hr
     · exact ht u b a (h.ord x j u b (by omega) (by have:=h.ji; omega) hx (by omega) hu hb) hr
   · exact h.ord x y u v vt (by omega) hx zC hu hv
def rT (a b:List UInt8):Int:=if jg a b=true then -1 else if (!(jg a b||a==b))=true then 1 else 0
theorem WH {a b:List UInt8}:rT a b<0↔jg a b=true:=by
 unfold rT
 by_cases h:jg a b=true
 · simp [h]
 · rw [if_neg h]
   constructor
   · intro h2; split at h2<;>omega
   · intro h2; exact absurd h2 h
def lr (d:List Nat) (s:Nat):List (cD Int):=match d with
 | []=>[]
 | i::r=>((i:Int),.int .i64 1,s)::lr r (s+1)
theorem WI:∀(d:List Nat) (i s:Nat),lr (d++[i]) s=lr d s++[((i:Int),.int .i64 1,s+d.length)]
 | [],i,s=>rfl
 | y::r,i,s=>by
   rw [List.cons_append,lr,WI r i,lr,List.cons_append,List.length_cons,show s+1+r.length=s+(r.length+1) by omega]
theorem O3 (i:Nat):∀(d:List Nat) (s k:Nat),(bB (i:Int) (lr d s) k).map (·.2)=if d.contains i=true then some (.int .i64 1) else none
 | [],_,_=>rfl
 | x::r,s,k=>by
   rw [lr,bB]
   by_cases h:i=x
   · subst h; simp
   · rw [if_neg (by simpa using λe:(i:Int)=(x:Int)=>h (by omega)),O3 i r (s+1) (k+1)]
     simp [h]
theorem O4 (i:Nat) (d:List Nat):dO (i:Int) (lr d 0) (.int .i64 0) = .int .i64 (if d.contains i=true then 1 else 0):=by
 have h:=O3 i d 0 0;unfold dO
 cases hf:bB (i:Int) (lr d 0) 0 with
 | none=>rw [hf] at h; split at h<;>simp_all
 | some r=>rw [hf] at h; split at h<;>simp_all
theorem WJ {i:Nat} {d:List Nat} (h:d.contains i=false):dv (i:Int) (.int .i64 1) (lr d 0) d.length=lr (d++[i]) 0/\gS (i:Int) (lr d 0) d.length=(d++[i]).length:=by
 have hf:=O3 i d 0 0;rw [h,if_neg (by decide)] at hf
 have hf:bB (i:Int) (lr d 0) 0=none:=by simpa using hf
 unfold dv gS;rw [hf,WI];simp
theorem ahW {l:List aD} {d out:List Nat} {k b:Nat} (hp:d.Perm (List.range l.length)) (hs:om (rR l) d d.length) (hk:d[k]? = some b) (hr:mC l out b=true) (e_:∀x c,x<k->d[x]? = some c->mC l out c=false):B8 l out b:=by
 refine ⟨by simpa using hp.subset (List.mem_of_getElem? hk),hr,λi hi WK=>?_⟩;have hm:i ∈ d:=hp.symm.subset (by simpa using hi);obtain ⟨y,hy⟩:=List.getElem?_of_mem hm;have Jv:=(List.getElem?_eq_some_iff.1 hy).1
 rcases Nat.lt_trichotomy y k with h | h | h
 · rw [e_ y i h hy] at WK; cases WK
 · subst h; rw [hk] at hy; injection hy with hy; exact .inl hy.symm
 · exact .inr (hs k y b i h Jv hk hy)
theorem ahX {l:List aD} {d out:List Nat} (hp:d.Perm (List.range l.length)) (e_:∀x c:Nat,d[x]? = some c->mC l out c=false):OU l out:=λi hi=>by
 have hm:i ∈ d:=hp.symm.subset (by simpa using hi);obtain ⟨y,hy⟩:=List.getElem?_of_mem hm;exact e_ y i hy
end Go.Bw
end
section
namespace Go.Bw
open Go Go.RowKit Go.Maps Go.Sort
open Go.WideElems (Fit rd rg pl rd_val rd_mk rg_of)
structure ayI (M:List (cD (List UInt8))) (c:Nat):Prop where
 nd:(M.map (·.1)).Nodup
 len:∀e ∈ M,e.1.length<=maxLen
 size:M.length<=maxLen
 born:M.map (·.2.2)=List.range M.length
 clock:c=M.length
end Go.Bw
end
section
namespace Go.Bw
open Go
section
variable {κ:Type} [BEq κ] [LawfulBEq κ]
theorem Jw (k:κ):∀(m:List (cD κ)) (i j:Nat) (v:Value),bB k m i=some (j,v)->i<=j/\∃b,m[j-i]? = some (k,v,b)
 | [],i,j,v,h=>by simp [bB] at h
 | e::r,i,j,v,h=>by
   simp only [bB] at h
   split at h
   · rename_i he
     have B':e.1=k:=(eq_of_beq he).symm
     injection h with h
     injection h with h1 h2
     subst h1 h2;exact ⟨Nat.le_refl _,e.2.2,by rw [Nat.sub_self,List.getElem?_cons_zero,<-B']⟩
   · obtain ⟨h1,b,h2⟩:=Jw k r (i+1) j v h
     refine ⟨by omega,b,?_⟩;rw [show j-i=(j-(i+1))+1 by omega,List.getElem?_cons_succ];exact h2
theorem WM (k:κ):∀(m:List (cD κ)) (i:Nat),bB k m i=none↔k ∉ m.map (·.1)
 | [],i=>by simp [bB]
 | e::r,i=>by
   simp only [bB,List.map_cons,List.mem_cons,not_or]
   split
   · rename_i he
     have B':e.1=k:=(eq_of_beq he).symm;exact ⟨λh=>(by cases h),λh=>absurd B'.symm h.1⟩
   · rename_i he
     have B':¬k=e.1:=λe2=>he (by simp [e2]);rw [WM k r (i+1)];exact ⟨λh=>⟨B',h⟩,λh=>h.2⟩
theorem ahY (k:κ) (v:Value) (m:List (cD κ)) (c:Nat):((k ∈ m.map (·.1))/\(dv k v m c).map (·.1)=m.map (·.1)/\(dv k v m c).map (·.2.2)=m.map (·.2.2)/\gS k m c=c)\/
   (k ∉ m.map (·.1)/\dv k v m c=m++[(k,v,c)]/\gS k m c=c+1):=by
 unfold dv gS
 cases hf:bB k m 0 with
 | none=>exact .inr ⟨(WM k m 0).1 hf,rfl,rfl⟩
 | some r=>
   obtain ⟨j,u⟩:=r;obtain ⟨_,b,hb⟩:=Jw k m 0 j u hf;rw [Nat.sub_zero] at hb;refine .inl ⟨List.mem_map.2 ⟨_,List.mem_of_getElem? hb,O⟩,?_,?_,O⟩
   all_goals
     apply List.ext_getElem?;intro i;simp only [List.getElem?_map,List.getElem?_modify]
     by_cases tc:j=i
     · subst tc; rw [hb]; simp
     · simp [tc]
theorem zD (k:κ) (v:Value) (m:List (cD κ)) (c:Nat) (z:Value):dO k (dv k v m c) z=v:=by
 have key:∃e,bB k (dv k v m c) 0=some (e,v):=by
   unfold dv
   cases hf:bB k m 0 with
   | none=>
     have h1:∀(m:List (cD κ)) (i:Nat),bB k m i=none->bB k (m++[(k,v,c)]) i=some (i+m.length,v):=by
       intro m
       induction m with
       | nil=>intro i _; simp [bB]
       | cons e r ih=>
         intro i h;simp only [bB,List.cons_append] at h ⊢
         split at h
         · cases h
         · rename_i he
           rw [if_neg he,ih _ h,List.length_cons]
           congr 2
           omega
     exact ⟨_,h1 m 0 hf⟩
   | some r=>
     obtain ⟨j,u⟩:=r
     have h1:∀(m:List (cD κ)) (i:Nat),bB k m i=some (j,u)->bB k (m.modify (j-i) λe=>(k,v,e.2.2)) i=some (j,v):=by
       intro m
       induction m with
       | nil=>intro i h; simp [bB] at h
       | cons e r ih=>
         intro i h;simp only [bB] at h
         split at h
         · injection h with h
           injection h with h1 h2
           subst h1;rw [Nat.sub_self];simp [bB]
         · rename_i he
           have hle:=(Jw k r (i+1) j u h).1;rw [show j-i=(j-(i+1))+1 by omega,List.modify_succ_cons,bB,if_neg he];exact ih _ h
     exact ⟨_,h1 m 0 hf⟩
 obtain ⟨e,he⟩:=key;unfold dO;rw [he]
end
structure O5 (M:List (cD (List UInt8))) (c p:Nat):Prop where
 nd:(M.map (·.1)).Nodup
 born:M.map (·.2.2)=List.range M.length
 clock:c=M.length
 ny:∀x v,dO x M (.int .i64 0)=v->∃n:Nat,n<=p/\v = .int .i64 (n:Int)/\(n=0↔x ∉ M.map (·.1))
theorem E_ {κ:Type} [BEq κ] [LawfulBEq κ] {k k':κ} (v:Value) (m:List (cD κ)) (c:Nat) (z:Value) (h:k'≠k):dO k' (dv k v m c) z=dO k' m z:=by
 have h1:∀(m:List (cD κ)) (i:Nat),(bB k' (m++[(k,v,c)]) i).map (·.2)=(bB k' m i).map (·.2):=by
   intro m
   induction m with
   | nil=>intro i; simp [bB,h]
   | cons e r ih=>intro i; simp only [bB,List.cons_append]; split<;>simp [ih]
 have h2:∀(m:List (cD κ)) (i j:Nat),(m[j]?.map (·.1)=some k)->(bB k' (m.modify j λe=>(k,v,e.2.2)) i).map (·.2)=(bB k' m i).map (·.2):=by
   intro m
   induction m with
   | nil=>intro i j hj; simp at hj
   | cons e r ih=>
     intro i j hj
     cases j with
     | zero=>
       have O6:e.1=k:=by simpa using hj
       have de:¬(k'==e.1)=true:=by rw [O6]; simpa using h
       have ahZ:¬(k'==k)=true:=by simpa using h
       rw [List.modify_zero_cons,bB,bB,if_neg de,if_neg (show ¬(k'==(k,v,e.2.2).1)=true from ahZ)]
     | succ j=>
       rw [List.modify_succ_cons,bB,bB]
       split
       · rfl
       · exact ih _ _ (by simpa using hj)
 have h3:(bB k' (dv k v m c) 0).map (·.2)=(bB k' m 0).map (·.2):=by
   unfold dv
   cases hf:bB k m 0 with
   | none=>exact h1 m 0
   | some r=>
     obtain ⟨j,u⟩:=r;obtain ⟨_,b,hb⟩:=Jw k m 0 j u hf;rw [Nat.sub_zero] at hb;exact h2 m 0 j (by rw [hb]; rfl)
 unfold dO
 cases ha:bB k' (dv k v m c) 0 with
 | none=>rw [ha] at h3; cases hb:bB k' m 0 with | none=>rfl | some r=>rw [hb] at h3; cases h3
 | some q=>rw [ha] at h3; cases hb:bB k' m 0 with
   | none=>rw [hb] at h3; cases h3
   | some r=>rw [hb] at h3; simp at h3; simp [h3]
theorem O5.put {M:List (cD (List UInt8))} {c p n:Nat} {x:List UInt8} (h:O5 M c p) (hn:n<=p) (h0:n=0↔x ∉ M.map (·.1)) :
   O5 (dv x (.int .i64 ((n+1:Nat):Int)) M c) (gS x M c) (p+1)/\(dv x (.int .i64 ((n+1:Nat):Int)) M c).map (·.1)=(if n=0 then M.map (·.1)++[x] else M.map (·.1)):=by
 have tq:∀y v,dO y (dv x (.int .i64 ((n+1:Nat):Int)) M c) (.int .i64 0)=v->∃k:Nat,k<=p+1/\v = .int .i64 (k:Int)/\(k=0↔y ∉ (if n=0 then M.map (·.1)++[x] else M.map (·.1))):=by
   intro y v hv
   by_cases hy:y=x
   · subst hy
     rw [zD] at hv;refine ⟨n+1,by omega,hv.symm,?_⟩
     split
     · simp
     · rename_i de
       exact ⟨λh=>by omega,λh2=>absurd (h0.2 h2) de⟩
   · rw [E_ _ _ _ _ hy] at hv
     obtain ⟨k,h1,h2,h3⟩:=h.ny y v hv;refine ⟨k,by omega,h2,h3.trans ?_⟩
     split
     · simp [hy]
     · rfl
 rcases ahY x (.int .i64 ((n+1:Nat):Int)) M c with ⟨h1,h2,h3,h4⟩ | ⟨h1,h2,h3⟩
 · have de:¬n=0:=λe=>h0.1 e h1
   rw [if_neg de] at tq ⊢
   have hlen:(dv x (.int .i64 ((n+1:Nat):Int)) M c).length=M.length:=by have:=congrArg List.length h2; simpa using this
   exact ⟨⟨by rw [h2]; exact h.nd,by rw [h3,hlen]; exact h.born,by rw [h4,hlen]; exact h.clock,λy v hv=>by rw [h2]; exact tq y v hv⟩,h2⟩
 · have he:n=0:=h0.2 h1
   rw [if_pos he] at tq ⊢
   have hk:(dv x (.int .i64 ((n+1:Nat):Int)) M c).map (·.1)=M.map (·.1)++[x]:=by rw [h2]; simp
   refine ⟨⟨?_,?_,?_,λy v hv=>by rw [hk]; exact tq y v hv⟩,hk⟩
   · rw [hk,List.nodup_append]
     exact ⟨h.nd,by simp,λa ha b hb e=>by rw [List.mem_singleton] at hb; subst hb; subst e; exact h1 ha⟩
   · rw [h2,List.map_append,h.born,List.length_append,List.length_singleton,List.range_succ,h.clock]; rfl
   · rw [h3,h2,h.clock]; simp
structure Fa (l:List aD) (nm:List UInt8) (ds nx:List (List UInt8)):Prop where
 base:∀s ∈ xP l nm,s ∈ ds\/s ∈ nx
 step:∀b ∈ ds,∀s ∈ xP l b,s ∈ ds\/s ∈ nx
 sound:∀s,s ∈ ds\/s ∈ nx->Reach l nm s
theorem Fa.new {l:List aD} {nm x:List UInt8} {ds r:List (List UInt8)} (h:Fa l nm ds (x::r)):Fa l nm (ds++[x]) (r++xP l x):=by
 have key:∀s,s ∈ ds\/s ∈ x::r->s ∈ ds++[x]\/s ∈ r++xP l x:=λs hs=>by
   rcases hs with hs | hs
   · exact .inl (List.mem_append_left _ hs)
   · rcases List.mem_cons.1 hs with e | hs
     · subst e; exact .inl (by simp)
     · exact .inr (List.mem_append_left _ hs)
 refine ⟨λs hs=>key s (h.base s hs),λb hb s hs=>?_,λs hs=>?_⟩
 · rcases List.mem_append.1 hb with hb | hb
   · exact key s (h.step b hb s hs)
   · rw [List.mem_singleton] at hb; subst hb
     exact .inr (List.mem_append_right _ hs)
 · rcases hs with hs | hs
   · rcases List.mem_append.1 hs with hs | hs
     · exact h.sound s (.inl hs)
     · rw [List.mem_singleton] at hs; subst hs
       exact h.sound _ (.inr (by simp))
   · rcases List.mem_append.1 hs with hs | hs
     · exact h.sound s (.inr (List.mem_cons_of_mem _ hs))
     · exact .step (h.sound x (.inr (by simp))) hs
theorem Fa.fin {l:List aD} {nm:List UInt8} {ds:List (List UInt8)} (h:Fa l nm ds []) (s:List UInt8):s ∈ ds↔Reach l nm s:=
 OY.iff (S:=λs=>s ∈ ds) ⟨λs hs=>(h.base s hs).resolve_right (by simp),λb hb s hs=>(h.step b hb s hs).resolve_right (by simp),λs hs=>h.sound s (.inl hs)⟩ s
end Go.Bw
end
section
namespace Go.Bw
open Go
def nz (l:List (List UInt8)) (s:Nat):List (cD (List UInt8)):=match l with
 | []=>[]
 | x::r=>(x,.int .i64 1,s)::nz r (s+1)
theorem WN:∀(l:List (List UInt8)) (x:List UInt8) (s:Nat),nz (l++[x]) s=nz l s++[(x,.int .i64 1,s+l.length)]
 | [],x,s=>rfl
 | y::r,x,s=>by
   rw [List.cons_append,nz,WN r x,nz,List.cons_append,List.length_cons,show s+1+r.length=s+(r.length+1) by omega]
theorem O7 (nm:List UInt8):∀(l:List (List UInt8)) (s i:Nat),(bB nm (nz l s) i).map (·.2)=if l.contains nm=true then some (.int .i64 1) else none
 | [],_,_=>rfl
 | x::r,s,i=>by
   rw [nz,bB]
   by_cases h:x=nm
   · subst h; simp
   · rw [if_neg (by simpa using λe=>h e.symm),O7 nm r (s+1) (i+1)]
     have h2:¬nm=x:=λe=>h e.symm;simp [h2]
theorem ah0 (nm:List UInt8) (l:List (List UInt8)):dO nm (nz l 0) (.int .i64 0) = .int .i64 (if l.contains nm=true then 1 else 0):=by
 have h:=O7 nm l 0 0;unfold dO
 cases hf:bB nm (nz l 0) 0 with
 | none=>rw [hf] at h; split at h<;>simp_all
 | some r=>rw [hf] at h; split at h<;>simp_all
theorem WO {x:List UInt8} {l:List (List UInt8)} (h:l.contains x=false):dv x (.int .i64 1) (nz l 0) l.length=nz (l++[x]) 0/\gS x (nz l 0) l.length=(l++[x]).length:=by
 have hf:=O7 x l 0 0;rw [if_neg (by rw [h]; decide)] at hf
 have h0:bB x (nz l 0) 0=none:=by cases hg:bB x (nz l 0) 0 with | none=>rfl | some r=>rw [hg] at hf; cases hf
 unfold dv gS;rw [h0,WN];simp
structure O8 (ns:List (List UInt8)) (i:Nat) (M:List (cD (List UInt8))) (c:Nat):Prop where
 mem:∀s,∃v:Nat,dO s M (.int .i64 0) = .int .i64 (v:Int)/\(v=0↔s ∉ ns.take i)
 Ob:((ns.take i).Nodup/\M=gH (ns.take i) 0/\c=i)\/(¬(ns.take i).Nodup/\M.length<i)
theorem O8.new {ns:List (List UInt8)} {i c:Nat} {M:List (cD (List UInt8))} {x:List UInt8} (h:O8 ns i M c) (hx:ns[i]? = some x) (hm:x ∉ ns.take i):O8 ns (i+1) (dv x (.int .i64 ((i+1:Nat):Int)) M c) (gS x M c):=by
 have hT:ns.take (i+1)=ns.take i++[x]:=by rw [List.take_add_one,hx]; rfl
 have av:=(List.getElem?_eq_some_iff.1 hx).1
 have hl:(ns.take i).length=i:=by simp; omega
 refine ⟨λs=>?_,?_⟩
 · by_cases e:s=x
   · subst e
     exact ⟨i+1,zD s _ M c _,by rw [hT]; simp⟩
   · obtain ⟨v,h1,h2⟩:=h.mem s
     refine ⟨v,by rw [E_ _ M c _ e]; exact h1,h2.trans ?_⟩;rw [hT]; simp [e]
 · rcases h.Ob with ⟨h1,rfl,rfl⟩ | ⟨h1,h3⟩
   · left
     have hp:=Wh (l:=ns.take c) (x:=x) hm;rw [hl] at hp;refine ⟨?_,by rw [hp.1,hT],by rw [hp.2]; simp; omega⟩;rw [hT,List.nodup_append];refine ⟨h1,by simp,λa ha b hb e=>?_⟩;rw [List.mem_singleton] at hb; subst hb; subst e; exact hm ha
   · right
     refine ⟨λhn=>h1 ?_,?_⟩
     · rw [hT,List.nodup_append] at hn; exact hn.1
     · have:=O1 x (.int .i64 ((i+1:Nat):Int)) M c
       omega
theorem ah1 {nm s:List UInt8} {us:List (List UInt8)} {i:Nat} (h:us[i]? = some s) (hx:(nm::us.take i).contains s=true\/dB s=false):B5 nm us=false:=by
 unfold B5
 rcases hx with hx | hx
 · have h2:et (nm::us)=true:=by
     have hn:¬(nm::us).Nodup:=λhn=>by
       have e:nm::us=(nm::us.take i)++us.drop i:=by simp
       rw [e,List.nodup_append] at hn;refine hn.2.2 s (by simpa using hx) s ?_ O
       have:us.drop i=s::us.drop (i+1):=by
         rw [List.drop_eq_getElem_cons (List.getElem?_eq_some_iff.1 h).1,(List.getElem?_eq_some_iff.1 h).2]
       rw [this]; simp
     rw [nr] at hn
     simpa using hn
   rw [h2]; rfl
 · rw [E6 h hx]; simp
theorem ah2 {nm:List UInt8} {us:List (List UInt8)} (h1:(nm::us).Nodup) (h2:us.all dB=true):B5 nm us=true:=by
 unfold B5; rw [nr.1 h1,h2]; rfl
end Go.Bw
end
section
namespace Go.Bw
open Go
structure Wm where
 data:List Int
 vu:List Int
 out:List Int
 kU:Nat
 calls:Nat
inductive Rz (σ α:Type) where
 | ok (a:α) (s:σ)
 | ov (e:Int) (w:Wm)
def Rz.bind {σ α β:Type} (r:Rz σ α) (f:α->σ->Rz σ β):Rz σ β:=match r with
 | .ok a s=>f a s
 | .ov e w=>.ov e w
structure Fm where
 loc:List Int
 val:Int
 w:Wm
structure Env where
 l:List b_
 ag:List (List Nat)
 Fb:List Nat
 lY:Nat
def Env.mod (P:Env) (u:Nat) (m:Int):Nat:=(((P.ag[u]?).getD [])[m.toNat]?).getD 0
def Env.at_ (P:Env) (u:Nat) (m pl:Int):Nat:=(P.Fb[P.mod u m]?).getD 0+pl.toNat
def WQ (P:Env) (w:Wm):Rz Wm Unit:=if w.kU=P.lY then .ov 3 w else .ok () { w with kU:=w.kU+1 }
abbrev Ev:=List Int->Wm->Rz Wm Int
abbrev Cl:=Nat->List Int->List cA->Wm->Rz Wm Int
def Rz.fr {α:Type} (f:Fm) (r:Rz Wm α):Rz Fm α:=match r with
 | .ok a w=>.ok a { f with w:=w }
 | .ov e w=>.ov e w
def WR:List b_->Nat->List Nat
 | [],_=>[]
 | u::r,s=>s::WR r (s+u.data.toNat)
def ah3 (l:List b_):List (List Nat):=(List.range l.length).map λn=>n::((l[n]?.map (·.ag)).getD []).map λs=>(idxOf s (Js l) 0).getD 0
structure Res where
 fin:Int
 out:List Int
 data:List Int
 kU:Int
end Go.Bw
end
section
namespace Go.Bw
open Go
structure ah4 (l:List b_):Prop where
 eA:1<=l.length/\l.length<=4
 ahead:ahK l=true
 nd:(Js l).Nodup
 data:Ww l 512=true
 ayK:∀u ∈ l,tm u (ahL l u)=true
theorem ah5 {u:b_} {kn:List cS} (h:tm u kn=true):(∀p ∈ u.parts,p5 (iz u::kn) p=true)/\jF (iz u::kn) 0 u.main 1=true/\B6 u=false/\B5 u.nm u.ag=true:=by
 unfold tm at h;obtain ⟨h1,h2⟩:=Bool.and_eq_true_iff.1 h;obtain ⟨h2,h3⟩:=Bool.and_eq_true_iff.1 h2;obtain ⟨h3,h4⟩:=Bool.and_eq_true_iff.1 h3;exact ⟨λp hp=>List.all_eq_true.1 h3 p hp,h4,by simpa using h2,h1⟩
theorem ah6 {kn:List cS} {p:jC} (h:p5 kn p=true):0<=p.params/\p.params<=3/\0<=p.locals/\p.locals<=4/\jF kn (p.params+p.locals) p.body 1=true:=by
 unfold p5 at h;obtain ⟨h1,h2⟩:=Bool.and_eq_true_iff.1 h
 have h1:(((decide (p.params<0)||decide (3<p.params))||decide (p.locals<0))||decide (4<p.locals))=false:=by simpa using h1
 simp only [Bool.or_eq_false_iff,decide_eq_false_iff_not] at h1;exact ⟨by omega,by omega,by omega,by omega,h2⟩
open Go.ChangeShapes Go.WideShapes Go.ChangeAt Go.RowKit Go.Joins Go.Deep
mutual
def dm:cH->Nat
 | .mk _ _ _ _ args=>1+fw args
def fw:List cH->Nat
 | []=>0
 | x::r=>dm x+fw r
end
mutual
def o6:cA->Nat
 | .mk _ _ _ _ args body other=>1+fw args+dP body+dP other
def dP:List cA->Nat
 | []=>0
 | x::r=>o6 x+dP r
end
def B_ (p:jC):Nat:=1+dP p.body
def kV:List jC->Nat
 | []=>0
 | p::r=>B_ p+kV r
def vv (u:b_):Nat:=1+u.nm.length+wN u.ag+kV u.parts+dP u.main
def ah7 (n:Nat) (H:View) (b o:Nat) (u:b_):Prop:=∃r:jW,aR H b o (eG u r)/\je n n H r u
structure ayL (P:Program) (tN tA tP tU O9 Fc BU xG:TypeId) (e s p m:Array Field) (tI tT:TypeId):Prop where
 uI:P.underlying tI=some (.int .i64)
 uT:P.underlying tT=some .string
 cT:P.cellsOf tT=1
 uN:P.underlying tN=some (.struct e)
 rN:(pV P 0 e.toList&&Nat.beq (P.cellsOf tN) e.size)=true
 fN:e.map (·.type) = #[tI,tI,tI,tI,O9]
 uNs:P.underlying O9=some (.slice tN)
 uA:P.underlying tA=some (.struct s)
 rA:(pV P 0 s.toList&&Nat.beq (P.cellsOf tA) s.size)=true
 fA:s.map (·.type) = #[tI,tI,tI,tI,O9,Fc,Fc]
 uAs:P.underlying Fc=some (.slice tA)
 uP:P.underlying tP=some (.struct p)
 rP:(pV P 0 p.toList&&Nat.beq (P.cellsOf tP) p.size)=true
 fP:p.map (·.type) = #[tI,tI,Fc]
 uPs:P.underlying BU=some (.slice tP)
 uTs:P.underlying xG=some (.slice tT)
 uU:P.underlying tU=some (.struct m)
 rU:(pV P 0 m.toList&&Nat.beq (P.cellsOf tU) m.size)=true
 fU:m.map (·.type) = #[tT,xG,tI,BU,Fc]
end Go.Bw
end
section
namespace Go.Bw
open Go
structure aU where
 op:Int
 a:Int
 b:Int
structure eB where
 at_:Int
 kind:Int
 m:Int
structure Gs where
 code:List aU
 fix:List eB
abbrev Gk:=Gs->Gs
def aM (l:List aU) (g:Gs):Gs:={ g with code:=g.code++l }
def aq (i:aU) (kind m:Int) (g:Gs):Gs:=⟨g.code++[i],g.fix++[⟨(g.code.length:Int),kind,m⟩]⟩
def ct (n:Nat) (g:Gs):Gs:={ g with code:=g.code.modify n λi=>{ i with a:=(g.code.length:Int) } }
def lZ (ks:List Gk) (i:Nat):Gk:=(ks[i]?).getD id
def zE (ks:List Gk) (g:Gs):Gs:=ks.foldl (λg k=>k g) g
def O' (k0 k1:Gk) (g:Gs):Gs:=
 let g1:=k0 g
 let g3:=aM [⟨22,0,0⟩] (k1 (aq ⟨12,0,0⟩ 1 0 g1))
 ct g3.code.length (aM [⟨1,0,0⟩] (ct g1.code.length (aq ⟨11,0,0⟩ 1 0 g3)))
def O_ (k0 k1:Gk) (g:Gs):Gs:=
 let g1:=k0 g
 let g3:=aM [⟨1,1,0⟩] (aq ⟨12,0,0⟩ 1 0 g1)
 ct g3.code.length (aM [⟨22,0,0⟩] (k1 (ct g1.code.length (aq ⟨11,0,0⟩ 1 0 g3))))
def o7 (op n m pl:Int) (ks:List Gk) (g:Gs):Gs:=
 if op=1 then aM [⟨1,n,0⟩] g
 else if op=2 then aM [⟨18,0,0⟩] g
 else if op=16 then aM [⟨2,pl,0⟩] g
 else if op=3 then aq ⟨4,pl,0⟩ 3 m g
 else if op=4 then aM [⟨7,0,0⟩] (aq ⟨6,pl,n⟩ 3 m (lZ ks 0 g))
 else if op=5 then aq ⟨13,pl,0⟩ 2 m (zE ks g)
 else if op=7 then O' (lZ ks 0) (lZ ks 1) g
 else if op=8 then O_ (lZ ks 0) (lZ ks 1) g
 else if op=6 then aM [⟨9,0,0⟩] (zE ks g)
 else aM [⟨10,op,0⟩] (zE ks g)
mutual
def aj:cH->Gs->Gs
 | .mk op n m pl args,g=>o7 op n m pl (l3 args) g
def l3:List cH->List Gk
 | []=>[]
 | x::r=>(λg=>aj x g)::l3 r
end
theorem tr (x:cH) (g:Gs):aj x g=o7 x.op x.n x.m x.pl (l3 x.args) g:=by cases x; rw [aj]; rfl
theorem Ca:∀l,l3 l=l.map aj
 | []=>by rw [l3]; rfl
 | x::r=>by rw [l3,Ca r]; rfl
def eC (l:List cH) (g:Gs):Gs:=l.foldl (λg x=>aj x g) g
theorem Fe (l:List cH) (g:Gs):zE (l3 l) g=eC l g:=by rw [Ca]; unfold zE eC; rw [List.foldl_map]
theorem ah8 {l:List cH} {i:Nat} {x:cH} (h:l[i]? = some x) (g:Gs):eC (l.take (i+1)) g=aj x (eC (l.take i) g):=by
 unfold eC; rw [List.take_add_one,h]; simp
def Jy (k0 body other:Gk) (ol:Nat) (g:Gs):Gs:=
 let g1:=k0 g
 let g3:=body (aq ⟨12,0,0⟩ 1 0 g1)
 if 0<ol then ct g3.code.length (other (ct g1.code.length (aq ⟨11,0,0⟩ 1 0 g3))) else ct g1.code.length g3
def WW (k0 body:Gk) (g:Gs):Gs:=
 let g1:=k0 g
 ct g1.code.length (aq ⟨11,(g.code.length:Int),0⟩ 1 0 (body (aM [⟨16,0,0⟩] (aq ⟨12,0,0⟩ 1 0 g1))))
def p7 (op n m pl:Int) (ks:List Gk) (body other:Gk) (ol:Nat) (g:Gs):Gs:=
 if op=1 then (if m<0 then aM [⟨3,pl,0⟩] (lZ ks 0 g) else aq ⟨5,pl,0⟩ 3 m (lZ ks 0 g))
 else if op=2 then aM [⟨8,0,0⟩] (lZ ks 1 (aq ⟨6,pl,n⟩ 3 m (lZ ks 0 g)))
 else if op=3 then aM [⟨17,0,0⟩] (aq ⟨13,pl,0⟩ 2 m (zE ks g))
 else if op=4 then Jy (lZ ks 0) body other ol g
 else if op=5 then WW (lZ ks 0) body g
 else if op=6 then aM [⟨15,0,0⟩] (lZ ks 0 g)
 else if op=7 then aM [⟨19,0,0⟩] (lZ ks 0 g)
 else g
mutual
def l4:cA->Gs->Gs
 | .mk op n m pl args body other,g=>p7 op n m pl (l3 args) (λg=>bG body g) (λg=>bG other g) other.length g
def bG:List cA->Gs->Gs
 | [],g=>g
 | x::r,g=>bG r (l4 x g)
end
theorem vw (x:cA) (g:Gs):l4 x g=p7 x.op x.n x.m x.pl (l3 x.args) (λg=>bG x.body g) (λg=>bG x.other g) x.other.length g:=by cases x; rw [l4]; rfl
theorem WX:∀(a b:List cA) (g:Gs),bG (a++b) g=bG b (bG a g)
 | [],b,g=>by rw [bG]; rfl
 | x::r,b,g=>by rw [List.cons_append,bG,WX r b,bG]
theorem ah9 {l:List cA} {i:Nat} {x:cA} (h:l[i]? = some x) (g:Gs):bG (l.take (i+1)) g=l4 x (bG (l.take i) g):=by
 rw [List.take_add_one,h]
 show bG (l.take i++[x]) g=_
 rw [WX,bG,bG]
def mD (params locals:Int) (body:List cA) (g:Gs):Gs:=aM [⟨1,0,0⟩,⟨15,0,0⟩] (bG body (aM [⟨14,params,locals⟩] g))
def cv:List jC->Gs->List Nat×Gs
 | [],g=>([],g)
 | p::r,g=>(g.code.length::(cv r (mD p.params p.locals p.body g)).1,(cv r (mD p.params p.locals p.body g)).2)
theorem WY:∀(a:List jC) (p:jC) (g:Gs),cv (a++[p]) g=((cv a g).1++[(cv a g).2.code.length],mD p.params p.locals p.body (cv a g).2)
 | [],p,g=>rfl
 | x::r,p,g=>by rw [List.cons_append,cv,WY r p]; rfl
structure rV where
 nm:List UInt8
 ag:List (List UInt8)
 data:Int
 g:Gs
 bU:List Nat
 main:Nat
def Ff:rV:=⟨[],[],0,⟨[],[]⟩,[],0⟩
def Fg (u:b_):Bool:=tm u (List.replicate u.ag.length zA)
def Fh (u:b_):rV:=
 let r:=cv u.parts ⟨[],[]⟩
 ⟨u.nm,u.ag,u.data,mD 0 0 u.main r.2,r.1,r.2.code.length⟩
def fJ (u:b_):rV×Int:=if Fg u=false then (Ff,1) else if 2048<(Fh u).g.code.length then (Ff,2) else (Fh u,0)
structure GL (c:Nat) (g g':Gs):Prop where
 lo:g.code.length<=g'.code.length
 hi:g'.code.length<=g.code.length+c
 Pa:g.fix.length<=g'.fix.length
 gu:g'.fix.length<=g.fix.length+c
theorem GL.refl (c:Nat) (g:Gs):GL c g g:=⟨Nat.le_refl _,Nat.le_add_right _ _,Nat.le_refl _,Nat.le_add_right _ _⟩
theorem GL.trans {a b:Nat} {g g' Fi:Gs} (h:GL a g g') (k:GL b g' Fi):GL (a+b) g Fi:=⟨Nat.le_trans h.lo k.lo,by have:=h.hi; have:=k.hi; omega,Nat.le_trans h.Pa k.Pa,by have:=h.gu; have:=k.gu; omega⟩
theorem GL.mono {a b:Nat} {g g':Gs} (h:GL a g g') (gB:a<=b):GL b g g':=⟨h.lo,by have:=h.hi; omega,h.Pa,by have:=h.gu; omega⟩
theorem lu (l:List aU) (g:Gs):GL l.length g (aM l g):=⟨by simp [aM],by simp [aM],Nat.le_refl _,Nat.le_add_right _ _⟩
theorem nA (i:aU) (k m:Int) (g:Gs):GL 1 g (aq i k m g):=⟨by simp [aq],by simp [aq],by simp [aq],by simp [aq]⟩
theorem xR (n:Nat) (g:Gs):GL 0 g (ct n g):=⟨by simp [ct],by simp [ct],Nat.le_refl _,Nat.le_refl _⟩
theorem Pb {ks:List Gk} {cs:List Nat} (h:ks.length=cs.length) (hk:∀(i:Nat) k c,ks[i]? = some k->cs[i]? = some c->∀g,GL c g (k g)):∀g,GL cs.sum g (zE ks g):=by
 induction ks generalizing cs with
 | nil=>intro g; cases cs with | nil=>exact .refl _ _ | cons c r=>cases h
 | cons k r ih=>
   intro g
   cases cs with
   | nil=>cases h
   | cons c cr=>
     have h1:=hk 0 k c rfl rfl g;have h2:=ih (cs:=cr) (by simpa using h) (λi k' c' a b=>hk (i+1) k' c' (by simpa using a) (by simpa using b)) (k g);exact h1.trans h2
theorem Jz {ks:List Gk} {cs:List Nat} (h:ks.length=cs.length) (hk:∀(i:Nat) k c,ks[i]? = some k->cs[i]? = some c->∀g,GL c g (k g)) (i:Nat):∀g,GL ((cs[i]?).getD 0) g (lZ ks i g):=λg=>by
 unfold lZ
 cases hi:ks[i]? with
 | none=>exact .refl _ _
 | some k=>
   have av:=(List.getElem?_eq_some_iff.1 hi).1;obtain ⟨c,hc⟩:∃c,cs[i]? = some c:=⟨_,List.getElem?_eq_getElem (by omega)⟩;rw [hc];exact hk i k c hi hc g
theorem WZ:∀(cs:List Nat),(cs[0]?).getD 0+(cs[1]?).getD 0<=cs.sum
 | []=>by simp
 | [a]=>by simp
 | a::b::r=>by simp only [List.getElem?_cons_zero,List.getElem?_cons_succ,Option.getD_some,List.sum_cons]; omega
mutual
theorem mE:∀(x:cH) (g:Gs),GL (8*dm x) g (aj x g)
 | .mk op n m pl args,g=>by
   rw [aj];have hk:=JA args
   have hl:(l3 args).length=(args.map λx=>8*dm x).length:=by rw [Ca]; simp
   have hs:(args.map λx=>8*dm x).sum=8*fw args:=JB args;have ha:=Pb hl hk;have h0:=Jz hl hk 0;have h1:=Jz hl hk 1;have h2:=WZ (args.map λx=>8*dm x);rw [hs] at ha h2
   have hw:dm (.mk op n m pl args)=1+fw args:=by rw [dm]
   rw [hw];unfold o7
   split
   · exact (lu _ g).mono (by simp only [List.length_cons,List.length_nil]; omega)
   · split
     · exact (lu _ g).mono (by simp only [List.length_cons,List.length_nil]; omega)
     · split
       · exact (lu _ g).mono (by simp only [List.length_cons,List.length_nil]; omega)
       · split
         · exact (nA _ _ _ g).mono (by omega)
         · split
           · exact (((h0 g).trans (nA _ _ _ _)).trans (lu _ _)).mono (by simp only [List.length_cons,List.length_nil]; omega)
           · split
             · exact ((ha g).trans (nA _ _ _ _)).mono (by omega)
             · split
               · unfold O'
                 exact (((((((h0 g).trans (nA _ _ _ _)).trans (h1 _)).trans (lu _ _)).trans (nA _ _ _ _)).trans (xR _ _)).trans (lu _ _) |>.trans (xR _ _)).mono (by simp only [List.length_cons,List.length_nil]; omega)
               · split
                 · unfold O_
                   exact (((((((h0 g).trans (nA _ _ _ _)).trans (lu _ _)).trans (nA _ _ _ _)).trans (xR _ _)).trans (h1 _)).trans (lu _ _) |>.trans (xR _ _)).mono (by simp only [List.length_cons,List.length_nil]; omega)
                 · split
                   · exact ((ha g).trans (lu _ _)).mono (by simp only [List.length_cons,List.length_nil]; omega)
                   · exact ((ha g).trans (lu _ _)).mono (by simp only [List.length_cons,List.length_nil]; omega)
theorem JA:∀(l:List cH) (i:Nat) k c,(l3 l)[i]? = some k->(l.map λx=>8*dm x)[i]? = some c->∀g,GL c g (k g)
 | [],i,k,c,h,_,g=>by rw [l3] at h; simp at h
 | x::r,0,k,c,h,hc,g=>by
   rw [l3] at h;simp at h hc;subst h hc;exact mE x g
 | x::r,i+1,k,c,h,hc,g=>by
   rw [l3] at h;exact JA r i k c (by simpa using h) (by simpa using hc) g
theorem JB:∀(l:List cH),(l.map λx=>8*dm x).sum=8*fw l
 | []=>by simp [fw]
 | x::r=>by rw [List.map_cons,List.sum_cons,JB r,fw]; omega
end
mutual
theorem ah':∀(x:cA) (g:Gs),GL (8*o6 x) g (l4 x g)
 | .mk op n m pl args body other,g=>by
   rw [l4];have hk:=JA args
   have hl:(l3 args).length=(args.map λx=>8*dm x).length:=by rw [Ca]; simp
   have ha:=Pb hl hk;have h0:=Jz hl hk 0;have h1:=Jz hl hk 1;have h2:=WZ (args.map λx=>8*dm x);rw [JB] at ha h2;have hb:=vx body;have ho:=vx other
   have hw:o6 (.mk op n m pl args body other)=1+fw args+dP body+dP other:=by rw [o6]
   rw [hw];unfold p7
   split
   · split
     · exact ((h0 g).trans (lu _ _)).mono (by simp only [List.length_cons,List.length_nil]; omega)
     · exact ((h0 g).trans (nA _ _ _ _)).mono (by omega)
   · split
     · exact ((((h0 g).trans (nA _ _ _ _)).trans (h1 _)).trans (lu _ _)).mono (by simp only [List.length_cons,List.length_nil]; omega)
     · split
       · exact (((ha g).trans (nA _ _ _ _)).trans (lu _ _)).mono (by simp only [List.length_cons,List.length_nil]; omega)
       · split
         · unfold Jy
           dsimp only
           split
           · exact ((((((h0 g).trans (nA _ _ _ _)).trans (hb _)).trans (nA _ _ _ _)).trans (xR _ _)).trans (ho _) |>.trans (xR _ _)).mono (by omega)
           · exact ((((h0 g).trans (nA _ _ _ _)).trans (hb _)).trans (xR _ _)).mono (by omega)
         · split
           · unfold WW
             exact ((((((h0 g).trans (nA _ _ _ _)).trans (lu _ _)).trans (hb _)).trans (nA _ _ _ _)).trans (xR _ _)).mono (by simp only [List.length_cons,List.length_nil]; omega)
           · split
             · exact ((h0 g).trans (lu _ _)).mono (by simp only [List.length_cons,List.length_nil]; omega)
             · split
               · exact ((h0 g).trans (lu _ _)).mono (by simp only [List.length_cons,List.length_nil]; omega)
               · exact .refl _ _
theorem vx:∀(l:List cA) (g:Gs),GL (8*dP l) g (bG l g)
 | [],g=>by rw [bG]; exact .refl _ _
 | x::r,g=>by
   rw [bG,dP];exact ((ah' x g).trans (vx r _)).mono (by omega)
end
theorem ah_ (pa lo:Int) (b:List cA) (g:Gs):GL (8*(1+dP b)) g (mD pa lo b g):=by
 unfold mD;exact (((lu _ g).trans (vx b _)).trans (lu _ _)).mono (by simp only [List.length_cons,List.length_nil]; omega)
theorem Pc:∀(l:List jC) (g:Gs),GL (8*kV l) g (cv l g).2/\(cv l g).1.length=l.length
 | [],g=>⟨.refl _ _,rfl⟩
 | p::r,g=>by
   have ih:=Pc r (mD p.params p.locals p.body g);refine ⟨?_,by simp [cv,ih.2]⟩;rw [cv,kV];exact ((ah_ p.params p.locals p.body g).trans ih.1).mono (by unfold B_; omega)
section
variable {P:Program} {ops:Array Oper} {Q:Exit->Act->World->Prop} {n:Nat} {ds:List Deferred} {l:List (Nat×Value)} {w0:World} {F:List Nat} {L:List ao} {Vs:List View} {rest:List Oper}
 {ty:TypeId} {pos:String} {af:Array Edge} {g:Option (Nat×Bool)} {d:Nat}
theorem WL.xS {ι:Type} {f:FuncId} {cx:Operand} {eY:Array Value} {args:Array Operand} {ts:Array TypeId} {vs:List Value} (L1 L2:List ao) (hg:cF ops l g) (hn:Nat.blt d n=true) (hf:Enters P f) (rb:aB l cx=some (.func (.func f) #[] eY)) (ha:i_ l args.toList=some vs) (hL:L=L1++L2)
   (v:ι->Value) (eS:ι->List ao) (R:ι->Prop) (a_:List View) (hV:∀H ∈ a_,H ∈ Vs)
   (hC:∀w,Ws w (L1.flatMap ao.ids) L1 a_ w->Calls P f (vs.toArray++eY) w λe w'=>∃i,e = .returned (v i)/\R i/\Ws w (L1.flatMap ao.ids) (eS i) a_ w')
   (hr:∀i,R i->WL P ops Q n ds ((d,v i)::l) (Ws w0 F (eS i++L2) Vs) rest) :
   WL P ops Q n ds l (Ws w0 F L Vs) (⟨some d,.call ⟨.value cx,args,ts⟩,ty,pos,af,g⟩::rest):=
 WL.UZ (κ:=Empty) L1 L2 hg hn hf rb ha hL v eS R (λ_=>[]) (λ_=>[]) (λ_=>False) a_ hV (λw hw=>(hC w hw).mono λe w' h=>.inl h) (λj=>nomatch j) hr
end
def aU.cells (x:aU):List Value:=[.int .i64 x.op,.int .i64 x.a,.int .i64 x.b]
theorem aU.bq (x:aU):x.cells.length=3:=rfl
theorem aU.one (x:aU):x.cells.all (·.oneCell')=true:=rfl
def fK (H:View) (b o:Nat) (x:aU):Prop:=aR H b o x.cells
def eB.cells (x:eB):List Value:=[.int .i64 x.at_,.int .i64 x.kind,.int .i64 x.m]
theorem eB.bq (x:eB):x.cells.length=3:=rfl
theorem eB.one (x:eB):x.cells.all (·.oneCell')=true:=rfl
def W0 (H:View) (b o:Nat) (x:eB):Prop:=aR H b o x.cells
structure gV where
 nm:List UInt8
 v1:Value
 data:Int
 v5:Value
 v6:Value
structure a8 where
 g:Gs
 ca:Option Addr×Nat
 fa:Option Addr×Nat
def tt (T:TypeId) (K:gV) (t:a8):Obj:=.cells #[st K.nm,K.v1,.int .i64 K.data,.slice t.ca.1 t.g.code.length t.ca.2,.slice t.fa.1 t.g.fix.length t.fa.2,K.v5,K.v6] T (0,0)
abbrev aV (T tI tF:TypeId) (sb:Nat) (K:gV) (t:a8):List ao:=[ah sb (tt T K t),bt tI 3 aU.cells t.ca.1 t.ca.2 t.g.code,bt tF 3 eB.cells t.fa.1 t.fa.2 t.g.fix]
theorem oo {l:List cH} {i:Nat} {y:cH} (h:l[i]? = some y):lZ (l3 l) i=aj y:=by
 unfold lZ; rw [Ca,List.getElem?_map,h]; rfl
theorem Cd:∀{l:List cH} {i:Nat} {x:cH},l[i]? = some x->fw (l.take (i+1))=fw (l.take i)+dm x/\fw (l.take (i+1))<=fw l
 | [],_,_,h=>by simp at h
 | y::r,0,x,h=>by
   simp at h; subst h;simp [fw]
 | y::r,i+1,x,h=>by
   obtain ⟨h1,h2⟩:=Cd (l:=r) (i:=i) (by simpa using h);simp only [List.take_succ_cons,fw];omega
theorem W1:∀{l:List cA} {i:Nat} {x:cA},l[i]? = some x->dP (l.take (i+1))=dP (l.take i)+o6 x/\dP (l.take (i+1))<=dP l
 | [],_,_,h=>by simp at h
 | y::r,0,x,h=>by
   simp at h; subst h;simp [dP]
 | y::r,i+1,x,h=>by
   obtain ⟨h1,h2⟩:=W1 (l:=r) (i:=i) (by simpa using h);simp only [List.take_succ_cons,dP];omega
theorem JC (l:List cH) (g:Gs):GL (8*fw l) g (eC l g):=by
 have hl:(l3 l).length=(l.map λx=>8*dm x).length:=by rw [Ca]; simp
 have h:=Pb hl (JA l) g;rw [Fe,JB] at h;exact h
theorem aia (x:cH):dm x=1+fw x.args:=by cases x; rw [dm]; rfl
theorem aib (x:cA):o6 x=1+fw x.args+dP x.body+dP x.other:=by cases x; rw [o6]; rfl
theorem aic {l:List aU} {n:Nat} {x:aU} (f:aU->aU) (h:l[n]? = some x):l.modify n f=l.set n (f x):=by
 apply List.ext_getElem?;intro i;rw [List.getElem?_modify,List.getElem?_set]
 by_cases e:n=i
 · subst e
   obtain ⟨h1,h2⟩:=List.getElem?_eq_some_iff.1 h;simp [h1,h2]
 · simp [e]
theorem aid {n:Nat} {g:Gs} {x:aU} (h:g.code[n]? = some x):ct n g = { g with code:=g.code.set n ⟨x.op,(g.code.length:Int),x.b⟩ }:=by
 unfold ct; rw [aic _ h]
theorem aie {kn:List cS} {ay op n m pl:Int} {len:Nat} (h:node1 kn ay op n m pl len=true):(op=4\/op=6->len=1)/\(7<=op/\op<=15->len=2)/\1<=op/\op<=16:=by
 unfold node1 at h
 split at h
 · subst_vars; omega
 · split at h
   · subst_vars; omega
   · split at h
     · subst_vars; simp at h; omega
     · split at h
       · subst_vars; omega
       · split at h
         · subst_vars; omega
         · split at h
           · subst_vars; omega
           · split at h
             · subst_vars; simp at h; omega
             · split at h
               · simp at h; omega
               · cases h
theorem aif {kn:List cS} {ay op n m pl:Int} {na nb no:Nat} (h:og kn ay op n m pl na nb no=true):(op=1\/op=4\/op=5\/op=6\/op=7->na=1)/\(op=2->na=2)/\1<=op/\op<=7:=by
 unfold og at h
 split at h
 · subst_vars; simp at h; omega
 · split at h
   · subst_vars; simp at h; omega
   · split at h
     · subst_vars; omega
     · split at h
       · subst_vars; simp at h; omega
       · split at h
         · subst_vars; simp at h; omega
         · split at h
           · simp at h; omega
           · cases h
def Cf (x:cH):Prop:=∃kn ay d,vo kn ay x d=true
def Cg (l:List cH):Prop:=∃kn ay d,oh kn ay l d=true
def JD (x:cA):Prop:=∃kn ay d,tj kn ay x d=true
def tv (l:List cA):Prop:=∃kn ay d,vp kn ay l d=true
theorem Cg.at_ {l:List cH} (h:Cg l) {i:Nat} {x:cH} (hx:l[i]? = some x):Cf x:=by
 obtain ⟨kn,ay,d,h⟩:=h;rw [Jr] at h;exact ⟨kn,ay,d,List.all_eq_true.1 h x (List.mem_of_getElem? hx)⟩
theorem Cf.args {x:cH} (h:Cf x):Cg x.args/\(x.op=4\/x.op=6->x.args.length=1)/\(7<=x.op/\x.op<=15->x.args.length=2)/\1<=x.op/\x.op<=16:=by
 obtain ⟨kn,ay,d,h⟩:=h;rw [Wq] at h;obtain ⟨_,h⟩:=Bool.and_eq_true_iff.1 h;obtain ⟨h1,h2⟩:=Bool.and_eq_true_iff.1 h;exact ⟨⟨kn,ay,_,h2⟩,aie h1⟩
theorem tv.at_ {l:List cA} (h:tv l) {i:Nat} {x:cA} (hx:l[i]? = some x):JD x:=by
 obtain ⟨kn,ay,d,h⟩:=h;rw [OP] at h;exact ⟨kn,ay,d,List.all_eq_true.1 h x (List.mem_of_getElem? hx)⟩
theorem JD.parts {x:cA} (h:JD x):Cg x.args/\(x.op=4\/x.op=5->tv x.body)/\tv x.other/\(x.op=1\/x.op=4\/x.op=5\/x.op=6\/x.op=7->x.args.length=1)/\(x.op=2->x.args.length=2)/\1<=x.op/\x.op<=7:=by
 obtain ⟨kn,ay,d,h⟩:=h;rw [Wr] at h;obtain ⟨h1,h⟩:=Bool.and_eq_true_iff.1 h;obtain ⟨h2,h⟩:=Bool.and_eq_true_iff.1 h;obtain ⟨h3,h4⟩:=Bool.and_eq_true_iff.1 h;refine ⟨⟨kn,ay,_,h2⟩,λhw=>?_,?_,aif h1⟩
 · have:E5 x.op=true:=by unfold E5; simpa using hw
   rw [this] at h3
   have h5:jF kn ay x.body (d+1)=true:=by simpa using h3
   unfold jF at h5;exact ⟨kn,ay,d+1,(Bool.and_eq_true_iff.1 (Bool.and_eq_true_iff.1 h5).2).2⟩
 · by_cases h0:0<x.other.length
   · rw [decide_eq_true h0] at h4
     have h5:jF kn ay x.other (d+1)=true:=by simpa using h4
     unfold jF at h5;exact ⟨kn,ay,d+1,(Bool.and_eq_true_iff.1 (Bool.and_eq_true_iff.1 h5).2).2⟩
   · have:x.other=[]:=List.eq_nil_of_length_eq_zero (by omega)
     rw [this];exact ⟨kn,ay,d,by rw [vp]⟩
theorem aih {α:Type} {f:α->List Value} {x:α} {zs:Array Value} (h:zs.toList=f x) (s7:0<(f x).length) (k:Nat):madeCells zs (k*(f x).length)=((List.replicate k x).flatMap f).toArray:=by
 apply Array.ext';simp only [madeCells]
 have hs:zs.size=(f x).length:=by rw [<-h]; simp
 have hl:((List.replicate k x).flatMap f).length=k*(f x).length:=by
   induction k with
   | zero=>simp
   | succ k ih=>rw [List.replicate_succ,List.flatMap_cons,List.length_append,ih,Nat.succ_mul]; omega
 apply List.ext_getElem
 · simp [hl]
 · intro i h1 h2
   simp
   have key:∀(k i:Nat) (hi:i<k*(f x).length),((List.replicate k x).flatMap f)[i]? = (f x)[i % (f x).length]?:=by
     intro k
     induction k with
     | zero=>intro i hi; omega
     | succ k ih=>
       intro i hi;rw [List.replicate_succ,List.flatMap_cons,List.getElem?_append]
       split
       · rename_i av; rw [Nat.mod_eq_of_lt av]
       · rename_i bP
         rw [Nat.succ_mul] at hi;rw [ih (i-(f x).length) (by omega),<-Nat.mod_eq_sub_mod (by omega)]
   have hi:i<k*(f x).length:=by rw [<-hl]; exact h2
   have h3:=key k i hi;have hm:=Nat.mod_lt i s7;rw [List.getElem?_eq_getElem h2,List.getElem?_eq_getElem hm] at h3
   injection h3 with h3
   rw [h3]
   have hz:zs[i % zs.size]? = (f x)[i % (f x).length]?:=by rw [hs,<-h]; simp
   rw [List.getElem?_eq_getElem hm] at hz;rw [getElem!_def,hz]
theorem bO:(∀i k m g,(aq i k m g).code.length=g.code.length+1)/\(∀i k m g,(aq i k m g).fix.length=g.fix.length+1)/\(∀l g,(aM l g).code.length=g.code.length+l.length)/\(∀l g,(aM l g).fix.length=g.fix.length)/\(∀n g,(ct n g).code.length=g.code.length)/\(∀n g,(ct n g).fix.length=g.fix.length)/\(∀(x:aU) l,(x::l).length=l.length+1)/\([]:List aU).length=0:=by
 refine ⟨λ_ _ _ _=>?_,λ_ _ _ _=>?_,λ_ _=>?_,λ_ _=>rfl,λ_ _=>?_,λ_ _=>rfl,λ_ _=>rfl,O⟩<;>simp [aq,aM,ct]
def p8 (x:Nat):List Value:=[.int .i64 (x:Int)]
theorem Pd (x:Nat):(p8 x).length=1:=rfl
def tw (H:View) (b o:Nat) (x:Nat):Prop:=aR H b o (p8 x)
structure oq where
 s1:Option Addr×Nat
 s2:Option Addr×Nat
 s3:Option Addr×Nat
 s4:Option Addr×Nat
def Pe (o:rV) (q:oq):List Value:=[st o.nm,.slice q.s1.1 o.ag.length q.s1.2,.int .i64 o.data,.slice q.s2.1 o.g.code.length q.s2.2,.slice q.s3.1 o.g.fix.length q.s3.2,.slice q.s4.1 o.bU.length q.s4.2,.int .i64 (o.main:Int)]
structure Pf (H:View) (q:oq) (o:rV):Prop where
 ag:Sl rdStr 1 H q.s1.1 q.s1.2 o.ag
 code:Sl fK 3 H q.s2.1 q.s2.2 o.g.code
 fix:Sl W0 3 H q.s3.1 q.s3.2 o.g.fix
 bU:Sl tw 1 H q.s4.1 q.s4.2 o.bU
def Pg:oq:=⟨(none,0),(none,0),(none,0),(none,0)⟩
theorem W2 (H:View):Pf H Pg Ff:=⟨Sl.nil,Sl.nil,Sl.nil,Sl.nil⟩
theorem W3:∀{l:List jC} {i:Nat} {x:jC},l[i]? = some x->kV (l.take (i+1))=kV (l.take i)+B_ x/\kV (l.take (i+1))<=kV l
 | [],_,_,h=>by simp at h
 | y::r,0,x,h=>by
   simp at h; subst h;simp [kV]
 | y::r,i+1,x,h=>by
   obtain ⟨h1,h2⟩:=W3 (l:=r) (i:=i) (by simpa using h);simp only [List.take_succ_cons,kV];omega
theorem aii {l:List jC} {i:Nat} {x:jC} (h:l[i]? = some x) (g:Gs):cv (l.take (i+1)) g=((cv (l.take i) g).1++[(cv (l.take i) g).2.code.length],mD x.params x.locals x.body (cv (l.take i) g).2):=by
 rw [List.take_add_one,h];exact WY _ _ _
theorem W4 {kn:List cS} {ay:Int} {l:List cA} (h:jF kn ay l 1=true):tv l:=by
 unfold jF at h;exact ⟨kn,ay,1,(Bool.and_eq_true_iff.1 (Bool.and_eq_true_iff.1 h).2).2⟩
theorem W5:∀l:List jC,l.length<=kV l
 | []=>Nat.zero_le _
 | s::r=>by have:=W5 r; simp only [List.length_cons,kV,B_]; omega
theorem aij (u:b_):vv u=1+u.nm.length+wN u.ag+kV u.parts+dP u.main:=rfl
theorem aik {u:b_} (h:Fg u=true):(∀p ∈ u.parts,tv p.body)/\tv u.main:=by
 obtain ⟨h1,h2,_,_⟩:=ah5 h;exact ⟨λp hp=>W4 (ah6 (h1 p hp)).2.2.2.2,W4 h2⟩
end Go.Bw
end
section
namespace Go.Bw
open Go
def Rz.all {σ α:Type} (r:Rz σ α) (p:α->σ->Prop) (q:Wm->Prop):Prop:=match r with
 | .ok a s=>p a s
 | .ov _ w=>q w
theorem Rz.all_bind {σ α β:Type} {r:Rz σ α} {f:α->σ->Rz σ β} {p:β->σ->Prop} {q:Wm->Prop} (h:r.all (λa s=>(f a s).all p q) q):(r.bind f).all p q:=by
 cases r with
 | ok a s=>exact h
 | ov e w=>exact h
theorem Rz.tx {σ α:Type} {r:Rz σ α} {p p':α->σ->Prop} {q q':Wm->Prop} (h:r.all p q) (hp:∀a s,p a s->p' a s) (hq:∀w,q w->q' w):r.all p' q':=by
 cases r with
 | ok a s=>exact hp _ _ h
 | ov e w=>exact hq _ h
theorem Rz.W6 {α:Type} {r:Rz Wm α} {f:Fm} {p:α->Fm->Prop} {q:Wm->Prop} (h:r.all (λa w=>p a { f with w:=w }) q):(Rz.fr f r).all p q:=by
 cases r with
 | ok a s=>exact h
 | ov e w=>exact h
structure Kw (P:Env) (w w':Wm):Prop where
 kU:w.kU<=w'.kU
 lY:w.kU<=P.lY->w'.kU<=P.lY
 len:w'.data.length=w.data.length
 out:w.out.length<=200->w'.out.length<=200
 pre:w.out <+: w'.out
structure Kp (P:Env) (w w':Wm):Prop extends Kw P w w' where
 calls:w'.calls=w.calls
section
variable {P:Env} {a b c:Wm}
theorem Kw.refl (P:Env) (a:Wm):Kw P a a:=⟨Nat.le_refl _,id,rfl,id,List.prefix_rfl⟩
theorem Kw.trans (h:Kw P a b) (k:Kw P b c):Kw P a c:=⟨Nat.le_trans h.kU k.kU,λx=>k.lY (h.lY x),k.len.trans h.len,λx=>k.out (h.out x),h.pre.trans k.pre⟩
theorem Kp.refl (P:Env) (a:Wm):Kp P a a:=⟨Kw.refl P a,rfl⟩
theorem Kp.trans (h:Kp P a b) (k:Kp P b c):Kp P a c:=⟨h.toKw.trans k.toKw,k.calls.trans h.calls⟩
abbrev RK {α:Type} (P:Env) (w:Wm) (r:Rz Wm α):Prop:=r.all (λ_ w'=>Kp P w w') (Kw P w)
theorem RK.ok {α:Type} (v:α) (w:Wm):RK P w (.ok v w):=Kp.refl P w
theorem RK.ov {α:Type} (e:Int) (w:Wm):RK (α:=α) P w (.ov e w):=Kw.refl P w
theorem RK.bind {α β:Type} {w:Wm} {r:Rz Wm α} {f:α->Wm->Rz Wm β} (h:RK P w r) (k:∀v w',RK P w' (f v w')):RK P w (r.bind f):=
 Rz.all_bind (Rz.tx h (λv w' hw=>Rz.tx (k v w') (λ_ _ h2=>hw.trans h2) λ_ h2=>hw.toKw.trans h2) λ_ h=>h)
abbrev EK (P:Env) (k:Ev):Prop:=∀loc w,RK P w (k loc w)
abbrev CK (P:Env) (call:Cl):Prop:=∀u loc body w,RK P w (call u loc body w)
abbrev FK {α:Type} (P:Env) (f:Fm) (r:Rz Fm α):Prop:=r.all (λ_ f'=>Kp P f.w f'.w/\f'.loc.length=f.loc.length) (Kw P f.w)
theorem FK.ok {α:Type} (v:α) (f:Fm):FK P f (.ok v f):=⟨Kp.refl P f.w,rfl⟩
theorem FK.bind {α β:Type} {f:Fm} {r:Rz Fm α} {g:α->Fm->Rz Fm β} (h:FK P f r) (k:∀v f',FK P f' (g v f')):FK P f (r.bind g):=
 Rz.all_bind (Rz.tx h (λv f' hw=>Rz.tx (k v f') (λ_ _ h2=>⟨hw.1.trans h2.1,h2.2.trans hw.2⟩) λ_ h2=>hw.1.toKw.trans h2) λ_ h=>h)
theorem FK.fr {α:Type} {f:Fm} {r:Rz Wm α} (h:RK P f.w r):FK P f (Rz.fr f r):=Rz.W6 (Rz.tx h (λ_ _ h=>⟨h,rfl⟩) λ_ h=>h)
end
end Go.Bw
end
section
namespace Go.Bw
open Go
theorem W7 {σ α β:Type} {r:Rz σ α} {f:α->σ->Rz σ β} {a:α} {s:σ} (h:r = .ok a s):r.bind f=f a s:=by rw [h]; rfl
theorem Ph {σ α β:Type} {r:Rz σ α} {f:α->σ->Rz σ β} {e:Int} {w:Wm} (h:r = .ov e w):r.bind f = .ov e w:=by rw [h]; rfl
theorem ail {α:Type} {r:Rz Wm α} {f:Fm} {e:Int} {w:Wm} (h:r = .ov e w):Rz.fr f r = .ov e w:=by rw [h]; rfl
end Go.Bw
end
section
namespace Go.Bw
open Go
theorem W8 {l:List (List UInt8)} {x:List UInt8} {n:Nat} (h:x ∉ l) (hn:l.length=n):dv x (.int .i64 (n:Int)) (f_ l 0) n=f_ (l++[x]) 0/\gS x (f_ l 0) n=n+1:=by
 subst hn
 have hf:bB x (f_ l 0) 0=none:=by
   have:=Ju x l 0 0;rw [xL.2 h] at this
   simpa using this
 unfold dv gS;rw [hf,O0];simp
theorem aim {ns:List (List UInt8)} {i:Nat} {x:List UInt8} (hn:ns.Nodup) (hx:ns[i]? = some x):x ∉ ns.take i:=λhm=>by
 obtain ⟨j,hj⟩:=List.getElem?_of_mem hm;rw [List.getElem?_take] at hj
 split at hj
 · rename_i av
   have hi:=(List.getElem?_eq_some_iff.1 hx).1;have:=(List.getElem?_inj hi hn).1 (hx.trans hj.symm);omega
 · cases hj
abbrev XI:=List Nat×(Option Addr×Nat)
def XI.cells (e:XI):List Value:=[.slice e.2.1 e.1.length e.2.2]
theorem XI.bq (e:XI):(XI.cells e).length=1:=rfl
structure KW where
 l:Option Addr×Nat
 u:Option Addr×Nat
 b:Option Addr×Nat
structure WSt where
 w:Wm
 i:Option Addr×Nat
 o:Option Addr×Nat
 d:Option Addr×Nat
def aio (H:View) (b o:Nat) (x:List Nat):Prop:=∃r:Option Addr×Nat,aR H b o [.slice r.1 x.length r.2]/\Sl tw 1 H r.1 r.2 x
structure ayO (H:View) (P:Env) (D C:Nat) (s:WSt):Prop where
 vu:Sl xM 1 H s.i.1 s.i.2 s.w.vu
 out:s.w.out.length<=200
 tk:s.w.kU<=P.lY
 dat:s.w.data.length=D
 cl:s.w.calls=C
structure ayQ (H:View) (n:Nat) (K:KW) (l:List b_) (lY:Nat):Prop where
 ok:ah4 l
 lY:lY<=2000
 ayR:Sl (ah7 n) 5 H K.l.1 K.l.2 l
 ag:Sl aio 1 H K.u.1 K.u.2 (ah3 l)
 Fb:Sl tw 1 H K.b.1 K.b.2 (WR l 0)
theorem XI.one (e:XI):(XI.cells e).all (·.oneCell')=true:=rfl
def Pj (J:View) (e:XI):Prop:=Sl tw 1 J e.2.1 e.2.2 e.1
theorem aip {H N:View} (hv:aK H N) (b o:Nat) (x:Nat) (h:tw H b o x):tw N b o x:=aR.mono hv h
theorem Pj.mv {A B:View} {e:XI} (hv:aK A B) (h:Pj A e):Pj B e:=Sl.imp (λb o x h=>aip hv b o x h) h
structure RGh where
 i:Nat
 es:List XI
 ua:Option Addr×Nat
 ba:Option Addr×Nat
 J:View
end Go.Bw
end
section
namespace Go.Bw
open Go
def Sm {σ α:Type} (E:σ->σ->Prop) (G:Wm->Wm->Prop) (X:Prop) (o:σ->List Int) (r1 r2:Rz σ α):Prop:=match r1 with
 | .ok a s1=>∃s2,r2 = .ok a s2/\E s1 s2
 | .ov e w1=>(∃w2,r2 = .ov e w2/\G w1 w2)\/(X/\e=3/\r2.all (λ_ s=>w1.out <+: o s) (λw=>w1.out <+: w.out))
def W9 (w:Wm):Rz Wm Int:=match w.vu with | []=>.ok 0 w | x::r=>.ok x { w with vu:=r }
structure Sim (P1 P2:Env) (E G:Wm->Wm->Prop) (X:Prop):Prop where
 l:P1.l=P2.l
 ag:P1.ag=P2.ag
 Fb:P1.Fb=P2.Fb
 eg:∀{a b},E a b->G a b
 data:∀{a b},E a b->a.data=b.data
 out:∀{a b},E a b->a.out=b.out
 calls:∀{a b},E a b->a.calls=b.calls
 tk:∀{a b},E a b->a.kU=b.kU/\a.kU<=P1.lY/\P1.lY<=P2.lY
 tick:∀{a b},E a b->Sm E G X (·.out) (WQ P1 a) (WQ P2 b)
 read:∀{a b},E a b->Sm E G X (·.out) (W9 a) (W9 b)
 ayT:∀{a b} d,E a b->E { a with data:=d } { b with data:=d }
 ayU:∀{a b} d,E a b->E { a with out:=d } { b with out:=d }
 ayV:∀{a b} d,E a b->E { a with calls:=d } { b with calls:=d }
section
variable {P1 P2:Env} {E G:Wm->Wm->Prop} {X:Prop}
abbrev SW {α:Type} (E G:Wm->Wm->Prop) (X:Prop) (r1 r2:Rz Wm α):Prop:=Sm E G X (·.out) r1 r2
structure EF (E:Wm->Wm->Prop) (f g:Fm):Prop where
 loc:f.loc=g.loc
 val:f.val=g.val
 w:E f.w g.w
abbrev SF {α:Type} (E G:Wm->Wm->Prop) (X:Prop) (r1 r2:Rz Fm α):Prop:=Sm (EF E) G X (·.w.out) r1 r2
theorem SW.bind (P2:Env) {α β:Type} {r1 r2:Rz Wm α} {f1 f2:α->Wm->Rz Wm β} (h:SW E G X r1 r2) (k:∀a s1 s2,E s1 s2->SW E G X (f1 a s1) (f2 a s2)) (m:∀a s,RK P2 s (f2 a s)):SW E G X (r1.bind f1) (r2.bind f2):=by
 cases r1 with
 | ok a s1=>obtain ⟨s2,rfl,he⟩:=h; exact k a s1 s2 he
 | ov e w1=>
   rcases h with ⟨w2,rfl,hg⟩ | ⟨hx,h3,ha⟩
   · exact .inl ⟨w2,O,hg⟩
   · refine .inr ⟨hx,h3,Rz.all_bind (Rz.tx ha (λa s hs=>?_) λ_ h=>h)⟩
     exact Rz.tx (m a s) (λ_ _ h=>hs.trans h.pre) λ_ h=>hs.trans h.pre
theorem SF.bind (P2:Env) {α β:Type} {r1 r2:Rz Fm α} {f1 f2:α->Fm->Rz Fm β} (h:SF E G X r1 r2) (k:∀a s1 s2,r2 = .ok a s2->EF E s1 s2->SF E G X (f1 a s1) (f2 a s2)) (m:∀a s,FK P2 s (f2 a s)):SF E G X (r1.bind f1) (r2.bind f2):=by
 cases r1 with
 | ok a s1=>obtain ⟨s2,rfl,he⟩:=h; exact k a s1 s2 rfl he
 | ov e w1=>
   rcases h with ⟨w2,rfl,hg⟩ | ⟨hx,h3,ha⟩
   · exact .inl ⟨w2,O,hg⟩
   · refine .inr ⟨hx,h3,Rz.all_bind (Rz.tx ha (λa s hs=>?_) λ_ h=>h)⟩
     exact Rz.tx (m a s) (λ_ _ h=>hs.trans h.1.pre) λ_ h=>hs.trans h.pre
theorem SF.fr {α:Type} {r1 r2:Rz Wm α} {f g:Fm} (h:SW E G X r1 r2) (he:EF E f g):SF E G X (Rz.fr f r1) (Rz.fr g r2):=by
 cases r1 with
 | ok a s1=>obtain ⟨s2,rfl,h2⟩:=h; exact ⟨_,rfl,he.loc,he.val,h2⟩
 | ov e w1=>
   rcases h with ⟨w2,rfl,hg⟩ | ⟨hx,h3,ha⟩
   · exact .inl ⟨w2,O,hg⟩
   · exact .inr ⟨hx,h3,Rz.W6 (Rz.tx ha (λ_ _ h=>h) λ_ h=>h)⟩
theorem SW.ok {α:Type} (a:α) {s1 s2:Wm} (h:E s1 s2):SW E G X (.ok a s1) (.ok a s2):=⟨s2,rfl,h⟩
theorem SF.ok {α:Type} (a:α) {s1 s2:Fm} (h:EF E s1 s2):SF E G X (.ok a s1) (.ok a s2):=⟨s2,rfl,h⟩
theorem SW.ov {α:Type} (S:Sim P1 P2 E G X) (e:Int) {s1 s2:Wm} (h:E s1 s2):SW (α:=α) E G X (.ov e s1) (.ov e s2):=.inl ⟨s2,rfl,S.eg h⟩
structure EE (P2:Env) (E G:Wm->Wm->Prop) (X:Prop) (k1 k2:Ev):Prop where
 go:∀loc {a b},E a b->SW E G X (k1 loc a) (k2 loc b)
 kp:EK P2 k2
structure CC (P2:Env) (E G:Wm->Wm->Prop) (X:Prop) (c1 c2:Cl):Prop where
 go:∀u loc body {a b},E a b->SW E G X (c1 u loc body a) (c2 u loc body b)
 kp:CK P2 c2
inductive KE (P2:Env) (E G:Wm->Wm->Prop) (X:Prop):List Ev->List Ev->Prop where
 | nil:KE P2 E G X [] []
 | cons {x y:Ev} {r q:List Ev} (h:EE P2 E G X x y) (t:KE P2 E G X r q):KE P2 E G X (x::r) (y::q)
theorem KE.kp:∀{k1 k2:List Ev},KE P2 E G X k1 k2->∀k ∈ k2,EK P2 k
 | _,_,.nil,k,h=>by simp at h
 | _,_,.cons h1 h2,k,h=>by
   rcases List.mem_cons.1 h with rfl | h
   · exact h1.kp
   · exact KE.kp h2 k h
structure AA (P2:Env) (E G:Wm->Wm->Prop) (X:Prop) (b1 b2:Fm->Rz Fm Bool):Prop where
 go:∀{f g},EF E f g->SF E G X (b1 f) (b2 g)
 kp:∀f,FK P2 f (b2 f)
end
end Go.Bw
end
section
namespace Go.Bw
open Go
structure ayW (lY:Nat) (a b:Wm):Prop where
 data:a.data=b.data
 out:a.out=b.out
 kU:a.kU=b.kU
 calls:a.calls=b.calls
 tl:a.kU<=lY
 vu:b.vu=a.vu++[0]\/(a.vu=[]/\b.vu=[])
end Go.Bw
end
section
namespace Go.Bw
open Go
structure Ren (l l':List aD) (f:Nat->Nat):Prop where
 len:l'.length=l.length
 inv:∀k,f (f k)=k
 lt:∀k,k<l.length->f k<l.length
 get:∀k,k<l.length->l'[f k]? = l[k]?
theorem Ren.nm {l l':List aD} {f:Nat->Nat} (h:Ren l l' f) {k:Nat} (hk:k<l.length):fu l' (f k)=fu l k:=by unfold fu; rw [h.get k hk]
theorem Ren.us {l l':List aD} {f:Nat->Nat} (h:Ren l l' f) {k:Nat} (hk:k<l.length):rQ l' (f k)=rQ l k:=by unfold rQ; rw [h.get k hk]
theorem Ren.back {l l':List aD} {f:Nat->Nat} (h:Ren l l' f):Ren l' l f:=⟨h.len.symm,h.inv,λk hk=>by rw [h.len] at hk ⊢; exact h.lt k hk,λk hk=>by
 rw [h.len] at hk;have:=h.get (f k) (h.lt k hk);rw [h.inv] at this
 exact this.symm⟩
theorem Ren.mem {l l':List aD} {f:Nat->Nat} (h:Ren l l' f) {m:aD} (hm:m ∈ l):m ∈ l':=by
 obtain ⟨k,hk⟩:=List.getElem?_of_mem hm;have av:=(List.getElem?_eq_some_iff.1 hk).1;rw [<-h.get k av] at hk;exact List.mem_of_getElem? hk
theorem Ren.nodup {l l':List aD} {f:Nat->Nat} (h:Ren l l' f) (hn:(fZ l).Nodup):(fZ l').Nodup:=by
 unfold List.Nodup;rw [List.pairwise_iff_getElem];intro i j hi hj tc e;rw [xO] at hi hj
 have h1:fu l' i=fu l' j:=by
   have e1:=B7 (List.getElem?_eq_getElem hi);have e2:=B7 (List.getElem?_eq_getElem hj);rw [List.getElem?_eq_getElem (by rw [xO]; exact hi)] at e1;rw [List.getElem?_eq_getElem (by rw [xO]; exact hj)] at e2
   injection e1 with e1
   injection e2 with e2
   rw [xN (List.getElem?_eq_getElem hi),xN (List.getElem?_eq_getElem hj),<-e1,<-e2,e]
 have hb:=h.back;rw [<-hb.nm hi,<-hb.nm hj] at h1;have h2:=OT hn (by have:=hb.lt i hi; rw [h.len] at this; exact this) (by have:=hb.lt j hj; rw [h.len] at this; exact this) h1;have h3:=congrArg f h2;rw [h.inv,h.inv] at h3;omega
theorem Ren.place {l l':List aD} {f:Nat->Nat} (h:Ren l l' f) (hn:(fZ l).Nodup) {s:List UInt8} {p:Nat} (hp:iA l s=some p):iA l' s=some (f p):=by
 obtain ⟨h1,h2⟩:=Wz hp;have h3:=ahN (h.nodup hn) (i:=f p) (by rw [h.len]; exact h.lt p h1);rw [h.nm h1,h2] at h3;exact h3
theorem Ren.ok {l l':List aD} {f:Nat->Nat} (h:Ren l l' f) (ho:vq l):vq l':=
 ⟨by rw [h.len]; exact ho.eA,λm hm=>ho.vr m (h.back.mem hm),h.nodup ho.nd,λm hm s hs=>by
   obtain ⟨p,hp⟩:=ho.ag m (h.back.mem hm) s hs
   exact ⟨f p,h.place ho.nd hp⟩⟩
theorem Ren.contains {l l':List aD} {f:Nat->Nat} (h:Ren l l' f) (d:List Nat) (x:Nat):(d.map f).contains (f x)=d.contains x:=by
 rw [Bool.eq_iff_iff];simp only [List.contains_iff_mem,List.mem_map]
 constructor
 · rintro ⟨y,hy,e⟩
   have:=congrArg f e;rw [h.inv,h.inv] at this;rw [<-this]; exact hy
 · exact λhx=>⟨x,hx,O⟩
theorem Ren.ready {l l':List aD} {f:Nat->Nat} (h:Ren l l' f) (ho:vq l) (d:List Nat) {x:Nat} (hx:x<l.length):mC l' (d.map f) (f x)=mC l d x:=by
 unfold mC;rw [h.contains,h.us hx]
 congr 1
 have key:∀u:List (List UInt8),(∀s ∈ u,∃p,iA l s=some p)->u.all (kz l' (d.map f))=u.all (kz l d):=by
   intro u
   induction u with
   | nil=>intro _; rfl
   | cons s r ih=>
     intro hu;obtain ⟨p,hp⟩:=hu s (by simp);rw [List.all_cons,List.all_cons,ih λs hs=>hu s (by simp [hs])]
     congr 1
     unfold kz;rw [hp,h.place ho.nd hp];exact h.contains d p
 refine key _ λs hs=>?_;rw [WA (List.getElem?_eq_getElem hx)] at hs;exact ho.ag _ (List.getElem_mem hx) s hs
theorem Ren.air {l l':List aD} {f:Nat->Nat} (h:Ren l l' f) (ho:vq l) {d:List Nat} (hd:jh l d):jh l' (d.map f):=by
 induction hd with
 | nil=>exact .nil
 | @snoc d b h1 h2 ih=>
   rw [List.map_append];refine .snoc ih ⟨by rw [h.len]; exact h.lt b h2.lt,by rw [h.ready ho d h2.lt]; exact h2.ready,λi hi hr=>?_⟩;rw [h.len] at hi;have xT:=h.lt i hi;have e:f (f i)=i:=h.inv i;rw [<-e,h.ready ho d xT] at hr
   rcases h2.least (f i) xT hr with h3 | h3
   · left; rw [<-e,h3]
   · right
     rw [h.nm h2.lt,<-e,h.nm xT];exact h3
def swp (i j k:Nat):Nat:=if k=i then j else if k=j then i else k
theorem ais {l:List aD} {i j:Nat} {x y:aD} (hi:l[i]? = some x) (hj:l[j]? = some y):Ren l ((l.set i y).set j x) (swp i j):=by
 have W_:=(List.getElem?_eq_some_iff.1 hi).1;have Xa:=(List.getElem?_eq_some_iff.1 hj).1;refine ⟨by simp,λk=>?_,λk hk=>?_,λk hk=>?_⟩
 · unfold swp
   by_cases h1:k=i
   · subst h1
     by_cases h2:j=k
     · subst h2; simp
     · simp [h2]
   · by_cases h2:k=j
     · subst h2; simp [h1]
     · simp [h1,h2]
 · unfold swp
   split
   · exact Xa
   · split
     · exact W_
     · exact hk
 · unfold swp
   rw [List.getElem?_set]
   by_cases h1:k=i
   · subst h1
     rw [if_pos rfl,if_pos rfl];simp [Xa,hi]
   · rw [if_neg h1]
     by_cases h2:k=j
     · subst h2
       rw [if_pos rfl,if_neg h1,List.getElem?_set];simp [W_,hj]
     · rw [if_neg h2,if_neg (λe=>h2 e.symm),List.getElem?_set,if_neg (λe=>h1 e.symm)]
end Go.Bw
end
section
namespace Go.Bw
open Go
def o8 (a b:List Bool):Prop:=∀j:Nat,a[j]? = some true->b[j]? = some true
theorem o8.refl (a:List Bool):o8 a a:=λ_ h=>h
theorem o8.count:∀{a b:List Bool},a.length=b.length->o8 a b->a.count true<=b.count true/\(b.count true<=a.count true->a=b)
 | [],[],_,_=>⟨Nat.le_refl _,λ_=>rfl⟩
 | [],_::_,h,_=>by cases h
 | _::_,[],h,_=>by cases h
 | x::a,y::b,h,hs=>by
   obtain ⟨h1,h2⟩:=o8.count (a:=a) (b:=b) (by simpa using h) λj hj=>by simpa using hs (j+1) (by simpa using hj)
   have h0:x=true->y=true:=λe=>by simpa using hs 0 (by simp [e])
   cases x<;>cases y<;>simp at h0 ⊢
   · exact ⟨h1,h2⟩
   · exact ⟨by omega,by omega⟩
   · exact ⟨h1,h2⟩
theorem o8.set (a:List Bool) (p:Nat):o8 a (a.set p true):=λj h=>by
 have av:=(List.getElem?_eq_some_iff.1 h).1;rw [List.getElem?_set]
 by_cases e:p=j
 · subst e; simp [av]
 · rw [if_neg e]; exact h
theorem o8.trans {a b c:List Bool} (h:o8 a b) (k:o8 b c):o8 a c:=λj hj=>k j (h j hj)
def Pm (l:List aD) (nm:List UInt8) (S:List Bool) (j:Nat):Prop:=S[j]? = some true\/fu l j=nm
def Ch (l:List aD) (S:List Bool) (s:List UInt8):Prop:=∃p,iA l s=some p/\S[p]? = some true
theorem Ch.sub {l:List aD} {a b:List Bool} {s:List UInt8} (h:Ch l a s) (hs:o8 a b):Ch l b s:=let ⟨p,h1,h2⟩:=h; ⟨p,h1,hs p h2⟩
def ait (l:List aD) (nm:List UInt8) (S:List Bool):Prop:=∀j,j<l.length->Pm l nm S j->∀s ∈ rQ l j,Ch l S s
structure aiu (l:List aD) (nm:List UInt8) (S:List Bool):Prop where
 len:S.length=l.length
 sound:∀j,S[j]? = some true->Go.Bw.Reach l nm (fu l j)
structure Po (l:List aD) (nm:List UInt8) (S0 S:List Bool) (j:Nat):Prop where
 ok:aiu l nm S
 sub:o8 S0 S
 same:ait l nm S0->S=S0
 done:∀i,i<j->Pm l nm S0 i->∀s ∈ rQ l i,Ch l S s
theorem Po.next {l:List aD} {nm:List UInt8} {S0 S:List Bool} {j:Nat} (h:Po l nm S0 S j) (hj:Pm l nm S0 j->∀s ∈ rQ l j,Ch l S s):Po l nm S0 S (j+1):=
 ⟨h.ok,h.sub,h.same,λi hi Xb=>by
   rcases Nat.lt_succ_iff_lt_or_eq.1 hi with h2 | h2
   · exact h.done i h2 Xb
   · subst h2; exact hj Xb⟩
def ltR (a b:List UInt8):Prop:=jg a b=true
def aiw (l:List aD) (S:List Bool) (i:Nat):List (List UInt8):=((List.range i).filter λj=>(S[j]?).getD false).map (fu l)
structure ayX (l:List aD) (S:List Bool) (i:Nat) (out:List (List UInt8)):Prop where
 perm:out.Perm (aiw l S i)
 up:om ltR out out.length
end Go.Bw
end
section
namespace Go.Bw
open Go
def xU (n m:Int):Int:=(if n<0 then IntKind.i64.wrap (-(IntKind.i64.wrap (n+1))) else n).tmod m
theorem aix {n m:Int} (h : -9223372036854775808<=n) (h2:n<=9223372036854775807) (hm:0<m):0<=xU n m/\xU n m<m:=by
 unfold xU
 by_cases hn:n<0
 · rw [if_pos hn,Bs (n:=n+1) (by omega),Bs (by omega)]
   exact ⟨Int.tmod_nonneg _ (by omega),Int.tmod_lt_of_pos _ (by omega)⟩
 · rw [if_neg hn]
   exact ⟨Int.tmod_nonneg _ (by omega),Int.tmod_lt_of_pos _ (by omega)⟩
theorem Xc {n:Int} {k:Nat} (h : -9223372036854775808<=n/\n<=9223372036854775807) (hk:0<k):∃j:Nat,j<k/\xU n (k:Int)=(j:Int):=by
 obtain ⟨h1,h2⟩:=aix h.1 h.2 (m:=(k:Int)) (by omega);exact ⟨(xU n (k:Int)).toNat,by omega,by omega⟩
open Go.ChangeShapes Go.WideShapes Go.ChangeAt Go.RowKit Go.Joins Go.Deep
theorem open_strs {P:Program} {H:Type} {enc:TypeId×Value->H} {w:World} {base:Nat} {spare:Nat->Bool} {held:Bool} (K:E1 H) {tT tS:TypeId} (uT:P.underlying tT=some .string) (hc:P.cellsOf tT=1) (mo:∀b,spare b=true) (uS:P.underlying tS=some (.slice tT))
   {r:_root_.Go.Reach} {b0:Nat} {v:Value} {x:DataW H} {pl:List MemPlace} (xw:Value.okWide P w r b0 tS v) (h:DataW.Trod enc P w base spare held tS v x pl):∃(a:Option Addr) (c:Nat) (l:List (List UInt8)),v = .slice a l.length c/\Sl rdStr 1 (hv w) a c l:=by
 obtain ⟨a,k,c,rfl⟩:=okWide_slice uS xw;obtain ⟨fuel,h⟩:=h
 obtain ⟨a,c,l,h1,h2,_⟩:=ahe (rd:=rdStr) K (λ_=>0) (λ_=>0) rfl (λ_ _=>rfl) uS hc (by omega) mo (λn' pY y sR ht hl=>by
   obtain ⟨z,rfl⟩:∃z,pY=[z]:=by
     match pY,hl with
     | [z],_=>exact ⟨z,rfl⟩
   obtain ⟨q,rfl,_⟩:=ahd K uT ht
   exact ⟨q,λb o hr=>hr,Nat.zero_le _⟩) h
 exact ⟨a,c,l,h1,h2⟩
end Go.Bw
end
section
namespace Go.Bw
open Go
structure p_ where
 w:Wm
 fin:Int
 i:Option Addr×Nat
 o:Option Addr×Nat
def jY {α:Type} (r:Rz Wm α) (v:α) (t:p_):Prop:=(t.fin=0/\r = .ok v t.w)\/(t.fin≠0/\∃c,r = .ov t.fin { t.w with calls:=c })
def Stq {α:Type} (s:p_) (r:Rz Wm α) (v:α) (t:p_):Prop:=(s.fin≠0/\t=s)\/(s.fin=0/\jY r v t)
theorem jY.ok {α:Type} {r:Rz Wm α} {v:α} {t:p_} (h0:t.fin=0) (h:r = .ok v t.w):jY r v t:=.inl ⟨h0,h⟩
theorem jY.ov {α:Type} {r:Rz Wm α} {v:α} {t:p_} {c:Nat} (h0:t.fin≠0) (h:r = .ov t.fin { t.w with calls:=c }):jY r v t:=.inr ⟨h0,c,h⟩
theorem jY.get {α:Type} {r:Rz Wm α} {v:α} {t:p_} (h:jY r v t) (h0:t.fin=0):r = .ok v t.w:=by
 rcases h with ⟨_,h⟩ | ⟨h,_⟩
 · exact h
 · exact absurd h0 h
theorem jY.out {α β:Type} {r:Rz Wm α} {v:α} {t:p_} (h:jY r v t) (h0:t.fin≠0) (f:α->Wm->Rz Wm β) (b:β):jY (r.bind f) b t:=by
 rcases h with ⟨h,_⟩ | ⟨_,c,h⟩
 · exact absurd h h0
 · exact .inr ⟨h0,c,Ph h⟩
theorem jY.same {α:Type} {r:Rz Wm α} {v b:α} {t:p_} (h:jY r v t) (h0:t.fin≠0):jY r b t:=by
 rcases h with ⟨h,_⟩ | ⟨_,h⟩
 · exact absurd h h0
 · exact .inr ⟨h0,h⟩
theorem jY.then {α β:Type} {r:Rz Wm α} {v:α} {t t2:p_} {f:α->Wm->Rz Wm β} {b:β} (h:jY r v t) (k:Stq t (f v t.w) b t2):jY (r.bind f) b t2:=by
 rcases k with ⟨h0,rfl⟩ | ⟨h0,h2⟩
 · exact h.out h0 f b
 · rw [W7 (h.get h0)]; exact h2
theorem jY.map {α β:Type} {r:Rz Wm α} {v:α} {t:p_} (f:α->β) (h:jY r v t):jY (r.bind λv w=>.ok (f v) w) (f v) t:=by
 rcases h with ⟨h0,h⟩ | ⟨h0,c,h⟩
 · exact .inl ⟨h0,W7 h⟩
 · exact .inr ⟨h0,c,Ph h⟩
def Stf (r:Rz Fm Bool) (d:Bool) (loc:List Int) (v:Int) (t:p_):Prop:=(t.fin=0/\r = .ok d ⟨loc,v,t.w⟩)\/(t.fin≠0/\∃c,r = .ov t.fin { t.w with calls:=c })
theorem jY.fr {α:Type} {r:Rz Wm α} {x:α} {t:p_} {loc:List Int} {v:Int} {w:Wm} {f:α->Fm->Rz Fm Bool} {d:Bool} {aiA:List Int} {v2:Int} (h:jY r x t) (h0:t.fin≠0):Stf ((Rz.fr ⟨loc,v,w⟩ r).bind f) d aiA v2 t:=by
 rcases h with ⟨h,_⟩ | ⟨_,c,h⟩
 · exact absurd h h0
 · exact .inr ⟨h0,c,Ph (ail h)⟩
end Go.Bw
end
section
namespace Go.Bw
open Go
structure ayY (ks xC:List cS):Prop where
 d:∀m pl n,rO ks m pl n=true->rO xC m pl n=true
 p:∀m pl n,ti ks m pl n=true->ti xC m pl n=true
end Go.Bw
end
section
namespace Go.Bw
open Go
def JE (i:aU):Prop:=1<=i.op/\i.op<=22
def Jok (U:Nat) (Pk:Int->Int->Prop) (pd:List Nat) (lo:Nat) (c:List aU) (f:eB):Prop:=
 ∃(p:Nat) (i:aU),f.at_=(p:Int)/\c[p]? = some i/\lo<=p/\
   ((f.kind=1/\f.m=0/\(p ∈ pd\/((lo:Int)<=i.a/\i.a<=(c.length:Int))))\/((f.kind=2\/f.kind=3)/\p ∉ pd/\0<=f.m/\f.m<=(U:Int)/\0<=i.a/\i.a<=2048/\(f.kind=2->Pk f.m i.a)))
structure Ap (U:Nat) (Pk:Int->Int->Prop) (pd:List Nat) (g g':Gs):Prop where
 Xd:∀p ∈ pd,g.code.length<=p/\p<g'.code.length
 more:∃c fx,g'.code=g.code++c/\g'.fix=g.fix++fx/\(∀i ∈ c,JE i)/\(∀f ∈ fx,Jok U Pk pd g.code.length g'.code f)/\fx.Pairwise λa b=>a.at_<b.at_
theorem Ap.refl (U:Nat) (Pk:Int->Int->Prop) (g:Gs):Ap U Pk [] g g:=⟨by simp,[],[],by simp,by simp,by simp,by simp,.nil⟩
theorem Ap.lo {U:Nat} {Pk:Int->Int->Prop} {pd:List Nat} {g g':Gs} (h:Ap U Pk pd g g'):g.code.length<=g'.code.length:=by
 obtain ⟨c,fx,h1,_⟩:=h.more;rw [h1]; simp
theorem Ap.trans {U:Nat} {Pk:Int->Int->Prop} {pa pb:List Nat} {g g' Fi:Gs} (h:Ap U Pk pa g g') (k:Ap U Pk pb g' Fi):Ap U Pk (pa++pb) g Fi:=by
 have Xe:=h.lo;have klo:=k.lo;have Xf:=h.Xd;have Xg:=k.Xd;obtain ⟨c,fx,h1,h2,h3,h4,h5⟩:=h.more;obtain ⟨c',fx',k1,k2,k3,k4,k5⟩:=k.more;refine ⟨λp hp=>?_,c++c',fx++fx',by rw [k1,h1,List.append_assoc],by rw [k2,h2,List.append_assoc],?_,?_,?_⟩
 · rcases List.mem_append.1 hp with hp | hp
   · have:=Xf p hp; omega
   · have:=Xg p hp; omega
 · intro i hi
   rcases List.mem_append.1 hi with hi | hi
   · exact h3 i hi
   · exact k3 i hi
 · intro f hf
   rcases List.mem_append.1 hf with hf | hf
   · obtain ⟨p,i,a1,a2,a3,a4⟩:=h4 f hf
     have hp:p<g'.code.length:=(List.getElem?_eq_some_iff.1 a2).1;refine ⟨p,i,a1,by rw [k1,List.getElem?_append_left hp]; exact a2,a3,?_⟩
     rcases a4 with ⟨b1,b2,b3⟩ | ⟨b1,b2,b3⟩
     · exact .inl ⟨b1,b2,b3.imp (λx=>List.mem_append_left _ x) λx=>⟨x.1,by omega⟩⟩
     · refine .inr ⟨b1,λhm=>?_,b3⟩
       rcases List.mem_append.1 hm with hm | hm
       · exact b2 hm
       · have:=(Xg p hm).1; omega
   · obtain ⟨p,i,a1,a2,a3,a4⟩:=k4 f hf
     refine ⟨p,i,a1,a2,by omega,?_⟩
     rcases a4 with ⟨b1,b2,b3⟩ | ⟨b1,b2,b3⟩
     · exact .inl ⟨b1,b2,b3.imp (λx=>List.mem_append_right _ x) λx=>⟨by omega,x.2⟩⟩
     · refine .inr ⟨b1,λhm=>?_,b3⟩
       rcases List.mem_append.1 hm with hm | hm
       · have:=(Xf p hm).2; omega
       · exact b2 hm
 · refine List.pairwise_append.2 ⟨h5,k5,λa ha b hb=>?_⟩
   obtain ⟨p,i,a1,a2,a3,_⟩:=h4 a ha;obtain ⟨q,j,b1,b2,b3,_⟩:=k4 b hb;have hp:p<g'.code.length:=(List.getElem?_eq_some_iff.1 a2).1;rw [a1,b1]; omega
end Go.Bw
end
section
namespace Go.Bw
open Go
structure ay0 (U:Nat) (Pk:Int->Int->Prop) (ks:List cS):Prop where
 len:ks.length=U+1
 small:∀k ∈ ks,k.B2=true->k.parts.length<=2048
 call:∀m a n,ti ks m a n=true->Pk m a
structure aiD (g g':Gs) (S:List Nat):Prop where
 at_:∀s ∈ S,g.code.length<=s/\s<g'.code.length
 stay:∃fx,g'.fix=g.fix++fx/\∀f ∈ fx,∀(p:Nat) i,f.kind=1->f.at_=(p:Int)->g'.code[p]? = some i->g.code.length<=p/\(g.code.length:Int)<=i.a/\∀s ∈ S,(p<s->i.a<(s:Int))/\(s<=p->(s:Int)<=i.a)
structure ay1 (Pk:Int->Int->Prop) (u:b_) (o:rV):Prop where
 ap:Ap u.ag.length Pk [] ⟨[],[]⟩ o.g
 pts:aiD ⟨[],[]⟩ o.g (o.bU++[o.main])
 eA:o.bU.length=u.parts.length
end Go.Bw
end
section
namespace Go.Bw
open Go
structure aP where
 nm:List UInt8
 ag:List (List UInt8)
 data:Int
 code:List aU
 fix:List eB
 bU:List Int
 main:Int
def jj (o:aP) (q:oq):List Value:=[st o.nm,.slice q.s1.1 o.ag.length q.s1.2,.int .i64 o.data,.slice q.s2.1 o.code.length q.s2.2,.slice q.s3.1 o.fix.length q.s3.2,.slice q.s4.1 o.bU.length q.s4.2,.int .i64 o.main]
structure rW (H:View) (q:oq) (o:aP):Prop where
 ag:Sl rdStr 1 H q.s1.1 q.s1.2 o.ag
 code:Sl fK 3 H q.s2.1 q.s2.2 o.code
 fix:Sl W0 3 H q.s3.1 q.s3.2 o.fix
 bU:Sl xM 1 H q.s4.1 q.s4.2 o.bU
def rV.to (o:rV):aP:=⟨o.nm,o.ag,o.data,o.g.code,o.g.fix,o.bU.map λn:Nat=>(n:Int),o.main⟩
theorem aiE (o:rV) (q:oq):jj o.to q=Pe o q:=by simp [jj,Pe,rV.to]
theorem aiF {H:View} {q:oq} {o:rV} (h:Pf H q o):rW H q o.to:=by
 refine ⟨h.ag,h.code,h.fix,⟨?_,h.bU.max,h.bU.spot,λi x hx=>?_⟩⟩
 · show (o.bU.map λn:Nat=>(n:Int)).length<=_
   rw [List.length_map]; exact h.bU.cap
 · have hx:(o.bU.map λn:Nat=>(n:Int))[i]? = some x:=hx
   rw [List.getElem?_map] at hx
   cases he:o.bU[i]? with
   | none=>rw [he] at hx; cases hx
   | some n=>
     rw [he] at hx
     injection hx with hx
     subst hx;exact h.bU.aS i n he
def gv (n:Nat) (at_:Int):Bool:=decide (0<=at_)&&decide (at_<(n:Int))
def nB (seen:List (List UInt8)):List (List UInt8)->Bool->Bool
 | [],f=>f
 | s::r,f=>nB (seen++[s]) r ((f&&dB s)&&(((seen.count s:Nat):Int)+1==1))
def o_:List aU->Bool->Bool
 | [],f=>f
 | x::r,f=>o_ r ((f&&decide (1<=x.op))&&decide (x.op<=22))
def rY (n:Nat):List Int->Bool->Bool
 | [],f=>f
 | x::r,f=>rY n r (f&&gv n x)
def l5 (c:List aU) (p:Int):Int:=((c[p.toNat]?).map (·.a)).getD 0
def kA (U n:Nat) (kind m a:Int):Bool:=
 if kind=1 then ((decide (0<=a)&&decide (a<=2048))&&(m==0))&&decide (a<=(n:Int))
 else if kind=2\/kind=3 then ((decide (0<=a)&&decide (a<=2048))&&decide (0<=m))&&decide (m<=(U:Int)) else false
def ot (U:Nat) (c:List aU):List eB->Int->Bool->Bool
 | [],_,f=>f
 | x::r,last,f=>if ((f&&decide (last<x.at_))&&gv c.length x.at_)=false then false else ot U c r x.at_ (kA U c.length x.kind x.m (l5 c x.at_))
def vy (o:aP):Bool:=(dB o.nm&&decide (0<=o.data))&&decide (o.data<=512)
def Cj (o:aP):Bool:=ot o.ag.length o.code o.fix (-1) (rY o.code.length o.bU (o_ o.code (nB [o.nm] o.ag (vy o))))
def tz (o:aP):Bool:=((decide (3<(o.ag.length:Int))||decide (6<(o.bU.length:Int)))||decide ((o.code.length:Int)<1))||decide (2048<(o.code.length:Int))
def gw (o:aP):Int:=if tz o=true then 2 else if (!(Cj o)||!(gv o.code.length o.main))=true then 1 else 0
theorem vz {n:Nat} {x:Int} (h:gv n x=true):∃p:Nat,x=(p:Int)/\p<n:=by
 unfold gv at h;simp only [Bool.and_eq_true,decide_eq_true_eq] at h;exact ⟨x.toNat,by omega,by omega⟩
theorem aiG {seen us:List (List UInt8)} {i:Nat} {s:List UInt8} (h:us[i]? = some s) (f:Bool):nB (seen++us.take i) (us.drop i) f=nB (seen++us.take (i+1)) (us.drop (i+1)) ((f&&dB s)&&((((seen++us.take i).count s:Nat):Int)+1==1)):=by
 obtain ⟨h1,h2⟩:=List.getElem?_eq_some_iff.1 h;rw [List.drop_eq_getElem_cons h1,h2,nB,List.take_add_one,h,List.append_assoc]
 rfl
theorem aiH {l:List aU} {i:Nat} {x:aU} (h:l[i]? = some x) (f:Bool):o_ (l.drop i) f=o_ (l.drop (i+1)) ((f&&decide (1<=x.op))&&decide (x.op<=22)):=by
 obtain ⟨h1,h2⟩:=List.getElem?_eq_some_iff.1 h;rw [List.drop_eq_getElem_cons h1,h2,o_]
theorem aiI {n:Nat} {l:List Int} {i:Nat} {x:Int} (h:l[i]? = some x) (f:Bool):rY n (l.drop i) f=rY n (l.drop (i+1)) (f&&gv n x):=by
 obtain ⟨h1,h2⟩:=List.getElem?_eq_some_iff.1 h;rw [List.drop_eq_getElem_cons h1,h2,rY]
theorem aiJ {U:Nat} {c:List aU} {l:List eB} {i:Nat} {x:eB} (h:l[i]? = some x) (last:Int) (f:Bool):ot U c (l.drop i) last f=if ((f&&decide (last<x.at_))&&gv c.length x.at_)=false then false else ot U c (l.drop (i+1)) x.at_ (kA U c.length x.kind x.m (l5 c x.at_)):=by
 obtain ⟨h1,h2⟩:=List.getElem?_eq_some_iff.1 h;rw [List.drop_eq_getElem_cons h1,h2,ot]
end Go.Bw
end
section
namespace Go.Bw
open Go
structure Fj (o:aP):Prop where
 names:∀s ∈ o.nm::o.ag,dB s=true
 nd:(o.nm::o.ag).Nodup
 data:0<=o.data/\o.data<=512
 main:gv o.code.length o.main=true
 code:∀i ∈ o.code,JE i
 bU:∀e ∈ o.bU,gv o.code.length e=true
 fix:∀f ∈ o.fix,gv o.code.length f.at_=true/\kA o.ag.length o.code.length f.kind f.m (l5 o.code f.at_)=true
 up:o.fix.Pairwise λa b=>a.at_<b.at_
theorem Xh:∀(us seen:List (List UInt8)) (f:Bool),nB seen us f=true↔f=true/\(∀s ∈ us,dB s=true)/\us.Nodup/\∀s ∈ us,s ∉ seen
 | [],seen,f=>by simp [nB]
 | s::r,seen,f=>by
   rw [nB,Xh r]
   have hc:((((seen.count s:Nat):Int)+1==1)=true)↔s ∉ seen:=by
     rw [beq_iff_eq,<-List.count_eq_zero];omega
   rw [Bool.and_eq_true,Bool.and_eq_true,hc]
   have iB:∀t,(t ∈ seen++[s])↔(t ∈ seen\/t=s):=λt=>by simp
   simp only [iB,List.mem_cons,List.nodup_cons,forall_eq_or_imp]
   constructor
   · rintro ⟨⟨⟨h1,h2⟩,h3⟩,h4,h5,h6⟩
     exact ⟨h1,⟨h2,h4⟩,⟨λhm=>h6 s hm (.inr O),h5⟩,h3,λt ht hs=>h6 t ht (.inl hs)⟩
   · rintro ⟨h1,⟨h2,h4⟩,⟨h7,h5⟩,h3,h6⟩
     refine ⟨⟨⟨h1,h2⟩,h3⟩,h4,h5,λt ht hs=>?_⟩
     rcases hs with hs | hs
     · exact h6 t ht hs
     · subst hs; exact h7 ht
theorem Xi:∀(l:List aU) (f:Bool),o_ l f=true↔f=true/\∀i ∈ l,JE i
 | [],f=>by simp [o_]
 | x::r,f=>by
   rw [o_,Xi r];simp only [Bool.and_eq_true,decide_eq_true_eq,List.mem_cons,forall_eq_or_imp,JE]
   constructor
   · rintro ⟨⟨⟨h1,h2⟩,h3⟩,h4⟩; exact ⟨h1,⟨h2,h3⟩,h4⟩
   · rintro ⟨h1,⟨h2,h3⟩,h4⟩; exact ⟨⟨⟨h1,h2⟩,h3⟩,h4⟩
theorem Xj (n:Nat):∀(l:List Int) (f:Bool),rY n l f=true↔f=true/\∀e ∈ l,gv n e=true
 | [],f=>by simp [rY]
 | x::r,f=>by
   rw [rY,Xj n r];simp only [Bool.and_eq_true,List.mem_cons,forall_eq_or_imp]
   constructor
   · rintro ⟨⟨h1,h2⟩,h3⟩; exact ⟨h1,h2,h3⟩
   · rintro ⟨h1,h2,h3⟩; exact ⟨⟨h1,h2⟩,h3⟩
theorem Xk (U:Nat) (c:List aU):∀(l:List eB) (last:Int) (f:Bool),ot U c l last f=true↔f=true/\(∀x ∈ l,last<x.at_/\gv c.length x.at_=true/\kA U c.length x.kind x.m (l5 c x.at_)=true)/\l.Pairwise λa b=>a.at_<b.at_
 | [],last,f=>by simp [ot]
 | x::r,last,f=>by
   rw [ot]
   have hx:((f&&decide (last<x.at_))&&gv c.length x.at_)=true↔f=true/\last<x.at_/\gv c.length x.at_=true:=by
     simp only [Bool.and_eq_true,decide_eq_true_eq,and_assoc]
   cases hb:((f&&decide (last<x.at_))&&gv c.length x.at_) with
   | false=>
     rw [if_pos rfl];refine ⟨λh=>(by cases h),λ⟨h1,h2,_⟩=>?_⟩;have h3:=h2 x (by simp);rw [hx.2 ⟨h1,h3.1,h3.2.1⟩] at hb;cases hb
   | true=>
     rw [if_neg (by decide),Xk U c r];obtain ⟨h1,h2,h3⟩:=hx.1 hb;simp only [List.mem_cons,forall_eq_or_imp,List.pairwise_cons]
     constructor
     · rintro ⟨k1,k2,k3⟩
       exact ⟨h1,⟨⟨h2,h3,k1⟩,λy hy=>⟨by have:=(k2 y hy).1; omega,(k2 y hy).2⟩⟩,λy hy=>(k2 y hy).1,k3⟩
     · rintro ⟨_,⟨⟨_,_,k1⟩,k2⟩,k3,k4⟩
       exact ⟨k1,λy hy=>⟨k3 y hy,(k2 y hy).2⟩,k4⟩
theorem aiK (o:aP):(Cj o=true/\gv o.code.length o.main=true)↔Fj o:=by
 unfold Cj;rw [Xk,Xj,Xi,Xh];unfold vy;simp only [Bool.and_eq_true,decide_eq_true_eq]
 constructor
 · rintro ⟨⟨⟨⟨⟨⟨⟨h1,h2⟩,h3⟩,h4,h5,h6⟩,h7⟩,h8⟩,h9,gF⟩,qa⟩
   refine ⟨λs hs=>?_,?_,⟨h2,h3⟩,qa,h7,h8,λf hf=>(h9 f hf).2,gF⟩
   · rcases List.mem_cons.1 hs with rfl | hs
     · exact h1
     · exact h4 s hs
   · rw [List.nodup_cons]
     exact ⟨λhm=>h6 _ hm (by simp),h5⟩
 · intro h
   have hn:=h.nd;rw [List.nodup_cons] at hn;refine ⟨⟨⟨⟨⟨⟨⟨h.names _ (by simp),h.data.1⟩,h.data.2⟩,λs hs=>h.names s (by simp [hs]),hn.2,λs hs=>?_⟩,h.code⟩,h.bU⟩,λf hf=>⟨?_,h.fix f hf⟩,h.up⟩,h.main⟩
   · intro hm
     rw [List.mem_singleton] at hm;subst hm;exact hn.1 hs
   · obtain ⟨p,hp,_⟩:=vz (h.fix f hf).1
     omega
theorem aiL {o:aP} (h:tz o=true):gw o=2:=by rw [gw,if_pos h]
theorem aiM {o:aP} (h:tz o=false) (k:¬Fj o):gw o=1:=by
 rw [gw,if_neg (by rw [h]; decide),if_pos]
 cases h1:Cj o with
 | false=>rfl
 | true=>
   cases h2:gv o.code.length o.main with
   | false=>rfl
   | true=>exact absurd ((aiK o).1 ⟨h1,h2⟩) k
end Go.Bw
end
section
namespace Go.Bw
open Go
def cy (n:Int):UInt8:=UInt8.ofNat (n % 256).toNat
def aF (n:Int):List UInt8:=[cy (n.fdiv (2 ^ 56)),cy (n.fdiv (2 ^ 48)),cy (n.fdiv (2 ^ 40)),cy (n.fdiv (2 ^ 32)),cy (n.fdiv (2 ^ 24)),cy (n.fdiv (2 ^ 16)),cy (n.fdiv (2 ^ 8)),cy n]
def aQ (s:List UInt8):List UInt8:=cy s.length::s
def numOf (l:List UInt8):Int:=l.foldl (λn b=>IntKind.i64.wrap (n*256+(b.toNat:Nat))) 0
def pc (s:List UInt8):Option (Int×List UInt8):=match s with | []=>none | x::r=>some ((x.toNat:Nat),r)
def tC (s:List UInt8):Option (List UInt8×List UInt8):=match s with | []=>none | x::r=>if r.length<x.toNat then none else some (r.take x.toNat,r.drop x.toNat)
def ou (s:List UInt8):Option (Int×List UInt8):=if s.length<8 then none else some (numOf (s.take 8),s.drop 8)
theorem mF (n:Int):(aF n).length=8:=rfl
def Xl (n:Int):Prop:=-9223372036854775808<=n/\n<=9223372036854775807
def Fk {α:Type} (f:α->List UInt8) (l:List α):List UInt8:=aF l.length++l.flatMap f
def dM (i:aU):List UInt8:=cy i.op::(aF i.a++aF i.b)
def ga (f:eB):List UInt8:=aF f.at_++cy f.kind::aF f.m
def pf (o:aP):List UInt8:=aQ o.nm++(Fk aQ o.ag++(aF o.data++(Fk dM o.code++(Fk ga o.fix++(Fk aF o.bU++aF o.main)))))
structure ObI (o:aP):Prop where
 code:∀i ∈ o.code,Xl i.a/\Xl i.b
end Go.Bw
end
section
namespace Go.Bw
open Go
structure Ns {α:Type} (gl:List UInt8->Option (α×List UInt8)) (no:List UInt8×Bool->α×(List UInt8×Bool)):Prop where
 some_:∀s r,gl s=some r->no (s,false)=(r.1,(r.2,false))
 none_:∀s,gl s=none->(no (s,false)).2.2=true
 bad:∀p,p.2=true->(no p).2.2=true
theorem Ns.pure {α:Type} (x:α):Ns (λs=>some (x,s)) (λp=>(x,p)):=⟨λs r h=>by injection h with h; subst h; rfl,λs h=>(by cases h),λp h=>h⟩
theorem Ns.bind {α β:Type} {g1:List UInt8->Option (α×List UInt8)} {n1:List UInt8×Bool->α×(List UInt8×Bool)} {g2:α->List UInt8->Option (β×List UInt8)} {n2:α->List UInt8×Bool->β×(List UInt8×Bool)}
   (h1:Ns g1 n1) (h2:∀a,Ns (g2 a) (n2 a)):Ns (λs=>(g1 s).bind λp=>g2 p.1 p.2) (λp=>n2 (n1 p).1 (n1 p).2):=by
 refine ⟨λs r h=>?_,λs h=>?_,λp h=>(h2 _).bad _ (h1.bad p h)⟩
 · obtain ⟨a,e1,e2⟩:=Option.bind_eq_some_iff.1 h
   show n2 (n1 (s,false)).1 (n1 (s,false)).2=_
   rw [h1.some_ s a e1];exact (h2 _).some_ _ _ e2
 · show (n2 (n1 (s,false)).1 (n1 (s,false)).2).2.2=true
   cases e1:g1 s with
   | none=>exact (h2 _).bad _ (h1.none_ s e1)
   | some a=>
     have h:(g1 s).bind (λp=>g2 p.1 p.2)=none:=h;rw [e1] at h;rw [h1.some_ s a e1];exact (h2 _).none_ _ h
end Go.Bw
end
section
namespace Go.Bw
open Go
theorem Xm {n:Int}:∀(l:List eB) (lo:Int),lo<=n->(∀f ∈ l,lo<=f.at_/\f.at_<n)->(l.Pairwise λa b=>a.at_<b.at_)->(l.length:Int)<=n-lo
 | [],lo,h,_,_=>by simp; omega
 | x::r,lo,h,h1,h2=>by
   rw [List.pairwise_cons] at h2;have hx:=h1 x (by simp);have ih:=Xm r (x.at_+1) (by omega) (λf hf=>⟨by have:=h2.1 f hf; omega,(h1 f (by simp [hf])).2⟩) h2.2;simp only [List.length_cons];omega
theorem aiN {o:aP} (h:Fj o):o.fix.length<=o.code.length:=by
 have:=Xm (n:=(o.code.length:Int)) o.fix 0 (by omega) (λf hf=>by
   obtain ⟨p,h1,h2⟩:=vz (h.fix f hf).1
   omega) h.up
 omega
theorem Cm {o:aP} (h:gw o=0):tz o=false/\Fj o:=by
 have hm:tz o=false:=by
   cases hm:tz o with
   | false=>rfl
   | true=>rw [aiL hm] at h; cases h
 refine ⟨hm,?_⟩;refine Classical.byContradiction λhk=>?_;rw [aiM hm hk] at h;cases h
def tG (o:aP):List UInt8×Int:=if gw o=0 then (if 32768<(pf o).length then ([],2) else (pf o,0)) else ([],gw o)
end Go.Bw
end
section
namespace Go.Bw
open Go
theorem Xn {α:Type} {f:α->List UInt8} {k:Nat}:∀(l:List α) (h:∀x ∈ l,(f x).length<=k),(l.flatMap f).length<=k*l.length
 | [],_=>by simp
 | x::r,h=>by
   have h1:=h x (by simp);have h2:=Xn r λy hy=>h y (by simp [hy]);simp only [List.flatMap_cons,List.length_append,List.length_cons];rw [Nat.mul_add];omega
theorem JG {α:Type} {f:α->List UInt8} {k:Nat} {l:List α} (h:∀x ∈ l,(f x).length<=k) (i:Nat):((l.take i).flatMap f).length<=k*l.length:=by
 have h1:=Xn (l.take i) λx hx=>h x (List.mem_of_mem_take hx)
 have h2:(l.take i).length<=l.length:=by simp; omega
 exact Nat.le_trans h1 (Nat.mul_le_mul_left _ h2)
theorem aiO (i:aU):(dM i).length=17:=rfl
theorem aiP (f:eB):(ga f).length=17:=rfl
theorem jH (s:List UInt8):(aQ s).length=s.length+1:=rfl
structure vA (o:aP):Prop where
 nm:o.nm.length<=8
 un:∀s ∈ o.ag,s.length<=8
 ag:o.ag.length<=3
 code:o.code.length<=2048
 bU:o.bU.length<=6
 fix:o.fix.length<=2048
theorem Xo {s:List UInt8} (h:dB s=true):s.length<=8:=by
 unfold dB at h;simp only [Bool.and_eq_true,decide_eq_true_eq] at h;omega
theorem Cn {o:aP} (h:gw o=0):vA o:=by
 obtain ⟨hm,hk⟩:=Cm h;have hf:=aiN hk;unfold tz at hm;simp only [Bool.or_eq_false_iff,decide_eq_false_iff_not] at hm;exact ⟨Xo (hk.names _ (by simp)),λs hs=>Xo (hk.names s (by simp [hs])),by omega,by omega,by omega,by omega⟩
theorem vA.us {o:aP} (h:vA o) (i:Nat):((o.ag.take i).flatMap aQ).length<=27:=by
 have h1:=JG (f:=aQ) (k:=9) (l:=o.ag) (λx hx=>by have:=h.un x hx; rw [jH]; omega) i;have:=h.ag;omega
theorem vA.co {o:aP} (h:vA o) (i:Nat):((o.code.take i).flatMap dM).length<=34816:=by
 have h1:=JG (f:=dM) (k:=17) (l:=o.code) (λx hx=>Nat.le_of_eq (aiO x)) i;have:=h.code;omega
theorem vA.fx {o:aP} (h:vA o) (i:Nat):((o.fix.take i).flatMap ga).length<=34816:=by
 have h1:=JG (f:=ga) (k:=17) (l:=o.fix) (λx hx=>Nat.le_of_eq (aiP x)) i;have:=h.fix;omega
theorem vA.en {o:aP} (h:vA o) (i:Nat):((o.bU.take i).flatMap aF).length<=48:=by
 have h1:=JG (f:=aF) (k:=8) (l:=o.bU) (λx hx=>Nat.le_of_eq (mF x)) i;have:=h.bU;omega
theorem aiQ (n:Nat) (x:Int):dG x 0 ((n:Int)-1)=gv n x:=by
 unfold dG gv;rw [Bool.eq_iff_iff];simp;omega
theorem Xp {α:Type} {p:α->Prop} {l:List α} {i:Nat} {x:α} (h:l[i]? = some x) (ha:∀y ∈ l.take i,p y) (hx:p x):∀y ∈ l.take (i+1),p y:=λy hy=>by
 rw [List.take_add_one,h] at hy
 rcases List.mem_append.1 hy with hy | hy
 · exact ha y hy
 · have hy:y ∈ [x]:=hy
   rw [List.mem_singleton] at hy;subst hy;exact hx
def Xq (o:aP) (i:Nat) (x:eB):Bool:=
 ((((!(dG x.at_ 0 ((o.code.length:Int)-1))||(decide ((0:Int)<(i:Int))&&decide (x.at_<=((o.fix[i-1]?).map (·.at_)).getD 0)))||!(dG x.kind 1 3))||!(dG x.m 0 (o.ag.length:Int)))||!(dG (l5 o.code x.at_) 0 2048))||(x.kind==1&&(!(x.m==0)||decide ((o.code.length:Int)<l5 o.code x.at_)))
theorem aiR (U n:Nat) (k m a:Int):(!(!(dG k 1 3))&&(!(!(dG m 0 (U:Int)))&&(!(!(dG a 0 2048))&&!(k==1&&(!(m==0)||decide ((n:Int)<a))))))=kA U n k m a:=by
 unfold kA dG
 by_cases h1:k=1
 · subst h1
   rw [if_pos rfl,Bool.eq_iff_iff]
   by_cases hm:m=0
   · subst hm
     simp
   · simp [hm]
 · rw [if_neg h1]
   by_cases h2:k=2\/k=3
   · rw [if_pos h2,Bool.eq_iff_iff]
     have e:(k==1)=false:=by simpa using h1
     rw [e];simp;omega
   · rw [if_neg h2,Bool.eq_iff_iff]
     simp;omega
theorem aiS {l:List eB} {i:Nat} {x:eB} (hx:l[i]? = some x) (hp:(l.take i).Pairwise λa b=>a.at_<b.at_) (hn:0<i->((l[i-1]?).map (·.at_)).getD 0<x.at_):(l.take (i+1)).Pairwise λa b=>a.at_<b.at_:=by
 rw [List.take_add_one,hx]
 show (l.take i++[x]).Pairwise _
 rw [List.pairwise_append];refine ⟨hp,by simp,λy hy z hz=>?_⟩;rw [List.mem_singleton] at hz;subst hz;obtain ⟨j,hj⟩:=List.getElem?_of_mem hy
 have jz:j<i:=by
   have:=(List.getElem?_eq_some_iff.1 hj).1;simp at this;omega
 have Pp:l[j]? = some y:=by rw [List.getElem?_take_of_lt jz] at hj; exact hj
 have I2:i<l.length:=(List.getElem?_eq_some_iff.1 hx).1;have hn:=hn (by omega);obtain ⟨u,hu⟩:∃u,l[i-1]? = some u:=⟨_,List.getElem?_eq_getElem (by omega)⟩;rw [hu] at hn;have hn:u.at_<z.at_:=hn
 by_cases he:j=i-1
 · subst he
   rw [Pp] at hu
   injection hu with hu
   subst hu;exact hn
 · have h1:(l.take i)[i-1]? = some u:=by rw [List.getElem?_take,if_pos (by omega)]; exact hu
   obtain ⟨h2,h3⟩:=List.getElem?_eq_some_iff.1 hj;obtain ⟨h4,h5⟩:=List.getElem?_eq_some_iff.1 h1;have:=List.pairwise_iff_getElem.1 hp j (i-1) h2 h4 (by omega);rw [h3,h5] at this;omega
def Fl (o:aP) (i:Nat):Prop:=(∀f ∈ o.fix.take i,gv o.code.length f.at_=true/\kA o.ag.length o.code.length f.kind f.m (l5 o.code f.at_)=true)/\(o.fix.take i).Pairwise λa b=>a.at_<b.at_
theorem Fl.zero (o:aP):Fl o 0:=⟨by simp,by simp⟩
theorem Fl.next {o:aP} {i:Nat} {x:eB} (h:Fl o i) (hx:o.fix[i]? = some x) (hw:Xq o i x=false):Fl o (i+1):=by
 unfold Xq at hw;simp only [Bool.or_eq_false_iff] at hw;obtain ⟨⟨⟨⟨⟨h1,h2⟩,h3⟩,h4⟩,h5⟩,h6⟩:=hw;refine ⟨λf hf=>?_,aiS hx h.2 λh0=>?_⟩
 · rw [List.take_add_one,hx] at hf
   rcases List.mem_append.1 hf with hf | hf
   · exact h.1 f hf
   · have hf:f ∈ [x]:=hf
     rw [List.mem_singleton] at hf;subst hf;refine ⟨(aiQ _ _).symm.trans (by simpa using h1),?_⟩;rw [<-aiR,h3,h4,h5,h6]
     rfl
 · rw [decide_eq_true (show (0:Int)<(i:Int) by omega)] at h2
   have h2:decide (x.at_<=((o.fix[i-1]?).map (·.at_)).getD 0)=false:=h2;have:=of_decide_eq_false h2;omega
theorem JH {s:List UInt8} {r:Int×List UInt8} (h:ou s=some r):r.2.length<=s.length:=by
 unfold ou at h; split at h; cases h; injection h with h; subst h; simp
theorem Co {s:List UInt8} {r:Int×List UInt8} (h:pc s=some r):r.2.length<=s.length:=by
 cases s with
 | nil=>cases h
 | cons x q=>simp only [pc] at h; injection h with h; subst h; simp
theorem Cp {s:List UInt8} {r:List UInt8×List UInt8} (h:tC s=some r):r.2.length<=s.length:=by
 cases s with
 | nil=>cases h
 | cons x q=>simp only [tC] at h; split at h; cases h; injection h with h; subst h; simp; omega
end Go.Bw
end
section
namespace Go.Bw
open Go
def eu (l:List aP):List (List UInt8):=l.map (·.nm)
structure Pl where
 code:Int
 data:Int
 vr:List Nat
def vB (l:List aP):Nat:=(l.map (·.code.length)).sum
def zF (l:List aP):Int:=(l.map (·.data)).sum
def dI (l:List aP) (k:Nat):Int:=((l.length+1+vB (l.take k):Nat):Int)
def gd (l:List aP) (k:Nat):Int:=zF (l.take k)
def xV (ns:List (List UInt8)) (o:aP):Bool:=o.ag.all λs=>(idxOf s ns 0).isSome
def vC (ns:List (List UInt8)) (s:List UInt8):Nat:=(idxOf s ns 0).getD 0
def qc (l:List aP) (n:Nat) (o:aP):List Nat:=n::o.ag.map (vC ((eu l).take n))
def rZ (l:List aP) (n:Nat) (o:aP):Pl:=⟨dI l n,gd l n,qc l n o⟩
def ow (l:List aP):List Pl:=l.mapIdx λn o=>rZ l n o
def tH (l:List aP):Pl:=⟨dI l l.length,gd l l.length,[]⟩
def Cq (l:List aP) (k:Nat):Nat:=((l[k]?).map (·.bU.length)).getD 0
def gI (l:List aP) (n:Nat) (o:aP) (m:Int):Nat:=((qc l n o)[m.toNat]?).getD 0
def tJ (l:List aP) (n:Nat) (o:aP) (f:eB):Bool:=f.kind==2&&decide ((Cq l (gI l n o f.m):Int)<=l5 o.code f.at_)
def vD (p:Nat->aP->Bool) (l:List aP):Bool:=(l.mapIdx p).any id
def jk (l:List aP):Int:=if l.length<1\/4<l.length then 2 else er (fI gw l) (if et (eu l)=true then 6 else if vD (λn o=>!(xV ((eu l).take n) o)) l=true then 9 else if vD (λn o=>o.fix.any (tJ l n o)) l=true then 5 else 0)
theorem Pq {p:Nat->aP->Bool} {l:List aP} {n:Nat} {o:aP} (h:l[n]? = some o) (hp:p n o=true):vD p l=true:=by
 unfold vD;rw [List.any_eq_true];exact ⟨true,List.mem_of_getElem? (i:=n) (by rw [List.getElem?_mapIdx,h,Option.map_some,hp]),O⟩
theorem JI {p:Nat->aP->Bool} {l:List aP} (h:∀n o,l[n]? = some o->p n o=false):vD p l=false:=by
 unfold vD;rw [List.any_eq_false];intro x hx;obtain ⟨n,hn⟩:=List.getElem?_of_mem hx;rw [List.getElem?_mapIdx] at hn;obtain ⟨o,ho,rfl⟩:=Option.map_eq_some_iff.1 hn;simp [h n o ho]
theorem Xr {p:Nat->aP->Bool} {l:List aP} (h:vD p l=false) {n:Nat} {o:aP} (hn:l[n]? = some o):p n o=false:=by
 cases hp:p n o with
 | false=>rfl
 | true=>rw [Pq hn hp] at h; cases h
theorem Ct (l:List aP):(eu l).length=l.length:=by simp [eu]
theorem Xt {l:List aP} {i:Nat} {o:aP} (h:l[i]? = some o):(eu l)[i]? = some o.nm:=by unfold eu; rw [List.getElem?_map,h]; rfl
theorem Xu {l:List aP} (h:l.length<1\/4<l.length):jk l=2:=by rw [jk,if_pos h]
theorem aiT {l:List aP} {i:Nat} {o:aP} (h4:¬(l.length<1\/4<l.length)) (hi:l[i]? = some o) (h0:∀x ∈ l.take i,gw x=0) (h:¬gw o=0):jk l=gw o:=by
 rw [jk,if_neg h4,B0 gw hi (p6.2 h0) h,tg h]
theorem JJ {l:List aP} (h4:¬(l.length<1\/4<l.length)) (h0:∀x ∈ l,gw x=0):jk l=if et (eu l)=true then 6 else if vD (λn o=>!(xV ((eu l).take n) o)) l=true then 9 else if vD (λn o=>o.fix.any (tJ l n o)) l=true then 5 else 0:=by
 rw [jk,if_neg h4,p6.2 h0,lX]
structure aiU (l:List aP):Prop where
 eA:¬(l.length<1\/4<l.length)
 r3:∀o ∈ l,gw o=0
 nd:(eu l).Nodup
 known:∀n o,l[n]? = some o->xV ((eu l).take n) o=true
 Xv:∀n o,l[n]? = some o->∀f ∈ o.fix,tJ l n o f=false
theorem aiV {l:List aP}:jk l=0↔aiU l:=by
 constructor
 · intro h
   have h4:¬(l.length<1\/4<l.length):=λh4=>by rw [Xu h4] at h; cases h
   have h0:∀x ∈ l,gw x=0:=by
     rw [jk,if_neg h4,OG] at h;exact p6.1 h.1
   rw [JJ h4 h0] at h
   split at h
   · cases h
   · rename_i h1
     split at h
     · cases h
     · rename_i h2
       split at h
       · cases h
       · rename_i h3
         refine ⟨h4,h0,nr.2 (by simpa using h1),λn o hn=>?_,λn o hn f hf=>?_⟩
         · have:=Xr (by simpa using h2) hn
           simpa using this
         · have:=Xr (p:=λn o=>o.fix.any (tJ l n o)) (by simpa using h3) hn
           rw [List.any_eq_false] at this
           simpa using this f hf
 · intro h
   rw [JJ h.eA h.r3,nr.1 h.nd,if_neg (by decide),JI (λn o hn=>by rw [h.known n o hn]; rfl),if_neg (by decide),JI (λn o hn=>by rw [List.any_eq_false]; intro f hf; rw [h.Xv n o hn f hf]; decide),if_neg (by decide)]
theorem Pr {l:List aP} {i:Nat} {o:aP} (h:l[i]? = some o):vB (l.take (i+1))=vB (l.take i)+o.code.length:=by
 unfold vB;rw [List.take_add_one,h];simp
theorem Xw {l:List aP} {i:Nat} {o:aP} (h:l[i]? = some o):zF (l.take (i+1))=zF (l.take i)+o.data:=by
 unfold zF;rw [List.take_add_one,h];simp
theorem Xx {l:List aP} (h:∀o ∈ l,o.code.length<=2048):∀i,i<=l.length->vB (l.take i)<=2048*i
 | 0,_=>by simp [vB]
 | i+1,hi=>by
   obtain ⟨o,ho⟩:∃o,l[i]? = some o:=⟨_,List.getElem?_eq_getElem (by omega)⟩;have h1:=Xx h i (by omega);have h2:=h o (List.mem_of_getElem? ho);rw [Pr ho];omega
theorem Xy {l:List aP} (h:∀o ∈ l,0<=o.data/\o.data<=512):∀i,i<=l.length->0<=zF (l.take i)/\zF (l.take i)<=512*i
 | 0,_=>by simp [zF]
 | i+1,hi=>by
   obtain ⟨o,ho⟩:∃o,l[i]? = some o:=⟨_,List.getElem?_eq_getElem (by omega)⟩;have h1:=Xy h i (by omega);have h2:=h o (List.mem_of_getElem? ho);rw [Xw ho];omega
theorem Xz {o:aP} (h:gw o=0):0<=o.data/\o.data<=512:=(Cm h).2.data
theorem JK {l:List aP} (h4:¬(l.length<1\/4<l.length)) (h:∀o ∈ l,gw o=0) {k:Nat} (hk:k<=l.length):0<=dI l k/\dI l k<=9000:=by
 have h1:=Xx (λo ho=>(Cn (h o ho)).code) k hk;unfold dI;omega
theorem JL {l:List aP} (h4:¬(l.length<1\/4<l.length)) (h:∀o ∈ l,gw o=0) {k:Nat} (hk:k<=l.length):0<=gd l k/\gd l k<=2048:=by
 have h1:=Xy (λo ho=>Xz (h o ho)) k hk;unfold gd;omega
theorem Ps {l:List aP} {i:Nat} {o:aP} (h:l[i]? = some o):dI l (i+1)=dI l i+(o.code.length:Int):=by
 unfold dI;rw [Pr h];omega
theorem aiW {l:List aP} {i:Nat} {o:aP} (h:l[i]? = some o):gd l (i+1)=gd l i+o.data:=by
 unfold gd;rw [Xw h]
theorem Pt {l:List aP} {i:Nat} {o:aP} (h:l[i]? = some o):(ow l)[i]? = some (rZ l i o):=by unfold ow; rw [List.getElem?_mapIdx,h]; rfl
theorem xW (l:List aP):(ow l).length=l.length:=by simp [ow]
theorem aiX {l:List aP} {i:Nat} {o:aP} (h:l[i]? = some o):(ow l).take (i+1)=(ow l).take i++[rZ l i o]:=by rw [List.take_add_one,Pt h]; rfl
theorem Pu {l:List aP} {i:Nat} {o:aP} (h:l[i]? = some o):(ow l++[tH l])[i]? = some (rZ l i o):=by
 have hi:=(List.getElem?_eq_some_iff.1 h).1;rw [List.getElem?_append_left (by rw [xW]; exact hi),Pt h]
theorem aiY (l:List aP):(ow l++[tH l])[l.length]? = some (tH l):=by
 rw [List.getElem?_append_right (by rw [xW]; exact Nat.le_refl _),xW,Nat.sub_self]
 rfl
theorem Pv (l:List aP) (n:Nat) (o:aP):(qc l n o).length=o.ag.length+1:=by simp [qc]
theorem aiZ {l:List aP} {n:Nat} {o:aP} (hn:n<l.length) (hk:xV ((eu l).take n) o=true):∀k ∈ qc l n o,k<l.length:=by
 intro k hm;unfold qc at hm
 rcases List.mem_cons.1 hm with rfl | hm
 · exact hn
 · obtain ⟨s,hs,rfl⟩:=List.mem_map.1 hm
   have h1:=List.all_eq_true.1 hk s hs;unfold vC
   cases hi:idxOf s ((eu l).take n) 0 with
   | none=>rw [hi] at h1; cases h1
   | some k=>
     have:=(List.getElem?_eq_some_iff.1 (B1 hi).2).1;rw [List.length_take,Ct] at this
     show k<l.length
     omega
theorem XB {l:List aP} {n:Nat} {o:aP} (hn:n<l.length) (hk:xV ((eu l).take n) o=true) {m:Int} (h0:0<=m) (h1:m<=(o.ag.length:Int)):(qc l n o)[m.toNat]? = some (gI l n o m)/\gI l n o m<l.length:=by
 have hl:m.toNat<(qc l n o).length:=by rw [Pv]; omega
 have h2:(qc l n o)[m.toNat]? = some (qc l n o)[m.toNat]:=List.getElem?_eq_getElem hl
 have h3:gI l n o m=(qc l n o)[m.toNat]:=by unfold gI; rw [h2]; rfl
 rw [h3];exact ⟨h2,aiZ hn hk _ (List.getElem_mem hl)⟩
def r_ (c:List aU) (p:Nat) (v:Int):List aU:=match c[p]? with | some x=>c.set p ⟨x.op,v,x.b⟩ | none=>c
def Pw (l:List aP) (k:Nat) (a:Int):Int:=((l[k]?).bind λo=>o.bU[a.toNat]?).getD 0
def tK (l:List aP) (n:Nat) (o:aP) (f:eB):Int:=
 if f.kind=1 then l5 o.code f.at_+dI l n else if f.kind=2 then dI l (gI l n o f.m)+Pw l (gI l n o f.m) (l5 o.code f.at_) else l5 o.code f.at_+gd l (gI l n o f.m)
def l6 (l:List aP) (n:Nat) (o:aP) (c:List aU) (fs:List eB):List aU:=fs.foldl (λc f=>r_ c f.at_.toNat (tK l n o f)) c
def qd (l:List aP):List aU:=l.mapIdx λn o=>(⟨13,dI l n+o.main,0⟩:aU)
def Fo (l:List aP) (n:Nat) (o:aP):List aU:=l6 l n o o.code o.fix
def Cu (l:List aP) (n:Nat):List aU:=((l.mapIdx λn o=>Fo l n o).take n).flatten
def gf (l:List aP) (n:Nat):List aU:=qd l++[⟨20,0,0⟩]++Cu l n
def XC (l:List aP):List aU:=gf l l.length
def qf (l:List aP):(List aU×Int)×Int:=if jk l≠0 then (([],0),jk l) else if 2048<dI l l.length\/512<gd l l.length then (([],0),2) else ((XC l,gd l l.length),0)
theorem ai0 (c:List aU) (p:Nat) (v:Int):(r_ c p v).length=c.length:=by unfold r_; split<;>simp
theorem ai1 {c:List aU} {p:Nat} {x:aU} (h:c[p]? = some x) (v:Int):r_ c p v=c.set p ⟨x.op,v,x.b⟩:=by unfold r_; rw [h]
theorem ai2 {c:List aU} {p q:Nat} (v:Int) (h:p≠q):(r_ c p v)[q]? = c[q]?:=by
 unfold r_
 split
 · rw [List.getElem?_set_ne h]
 · rfl
theorem JN (l:List aP) (n:Nat) (o:aP):∀(fs:List eB) (c:List aU),(l6 l n o c fs).length=c.length
 | [],c=>rfl
 | f::r,c=>by
   show (l6 l n o (r_ c f.at_.toNat (tK l n o f)) r).length=_
   rw [JN l n o r,ai0]
theorem Px {l:List aP} {n:Nat} {o:aP} {c:List aU} {fs:List eB} {j:Nat} {f:eB} (h:fs[j]? = some f):l6 l n o c (fs.take (j+1))=r_ (l6 l n o c (fs.take j)) f.at_.toNat (tK l n o f):=by
 unfold l6;rw [List.take_add_one,h];simp
theorem XD {l:List aP} {n:Nat} {o:aP} {q:Nat}:∀(fs:List eB) (c:List aU),(∀f ∈ fs,f.at_.toNat≠q)->(l6 l n o c fs)[q]? = c[q]?
 | [],c,_=>rfl
 | f::r,c,h=>by
   show (l6 l n o (r_ c f.at_.toNat (tK l n o f)) r)[q]? = _
   rw [XD r _ λg hg=>h g (by simp [hg]),ai2 _ (h f (by simp))]
theorem ai3 {l:List aP} {n:Nat} {o:aP} (hk:Fj o) {j:Nat} {f:eB} (h:o.fix[j]? = some f):(l6 l n o o.code (o.fix.take j))[f.at_.toNat]? = o.code[f.at_.toNat]?:=by
 refine XD _ _ λg hg e=>?_;obtain ⟨i,hi⟩:=List.getElem?_of_mem hg
 have tc:i<j:=by
   have:=(List.getElem?_eq_some_iff.1 hi).1;rw [List.length_take] at this;omega
 rw [List.getElem?_take_of_lt tc] at hi;obtain ⟨a1,a2⟩:=List.getElem?_eq_some_iff.1 hi;obtain ⟨b1,b2⟩:=List.getElem?_eq_some_iff.1 h;have:=List.pairwise_iff_getElem.1 hk.up i j a1 b1 tc;rw [a2,b2] at this;obtain ⟨p,hp,_⟩:=vz (hk.fix g (List.mem_of_getElem? hi)).1;obtain ⟨p2,Py,_⟩:=vz (hk.fix f (List.mem_of_getElem? h)).1;omega
theorem JP (l:List aP):(qd l).length=l.length:=by simp [qd]
theorem ai4 {l:List aP} {i:Nat} {o:aP} (h:l[i]? = some o):(qd l).take (i+1)=(qd l).take i++[⟨13,dI l i+o.main,0⟩]:=by
 rw [List.take_add_one];unfold qd;rw [List.getElem?_mapIdx,h]
 rfl
theorem XF (l:List aP):Cu l 0=[]:=rfl
theorem XG {l:List aP} {i:Nat} {o:aP} (h:l[i]? = some o):Cu l (i+1)=Cu l i++Fo l i o:=by
 unfold Cu;rw [List.take_add_one,List.getElem?_mapIdx,h];simp
theorem XH {l:List aP}:∀{i:Nat},i<=l.length->(Cu l i).length=vB (l.take i)
 | 0,_=>by simp [XF,vB]
 | i+1,hi=>by
   obtain ⟨o,ho⟩:∃o,l[i]? = some o:=⟨_,List.getElem?_eq_getElem (by omega)⟩;rw [XG ho,List.length_append,XH (i:=i) (by omega),Pr ho];unfold Fo;rw [JN]
theorem ai5 {l:List aP} {i:Nat} (hi:i<=l.length):((gf l i).length:Int)=dI l i:=by
 unfold gf dI;rw [List.length_append,List.length_append,JP,XH hi,List.length_singleton]
theorem XJ {l:List aP} {i:Nat} {o:aP} (h:l[i]? = some o):gf l (i+1)=gf l i++Fo l i o:=by
 unfold gf;rw [XG h,List.append_assoc,List.append_assoc,List.append_assoc]
theorem Pz {l:List aP} {n:Nat} {o:aP} {c:List aU} {p:Nat} {x:aU} (v:Int) (h:c[p]? = some x):(gf l n++c).set ((gf l n).length+p) ⟨x.op,v,x.b⟩=gf l n++r_ c p v:=by
 rw [List.set_append_right _ _ (by omega),Nat.add_sub_cancel_left,ai1 h]
theorem PA {k:List UInt8}:∀(m:List (cD (List UInt8))) (i:Nat),(bB k m i).isSome=true↔k ∈ m.map (·.1)
 | [],i=>by simp [bB]
 | e::r,i=>by
   rw [bB,List.map_cons,List.mem_cons]
   by_cases h:k=e.1
   · simp [h]
   · rw [if_neg (by simpa using h),PA r (i+1)]
     simp [h]
theorem XL {k:List UInt8} {v:Value} {m:List (cD (List UInt8))} {c:Nat}:(k ∈ m.map (·.1)->(dv k v m c).length=m.length)/\(k ∉ m.map (·.1)->(dv k v m c).map (·.1)=m.map (·.1)++[k]):=by
 constructor
 · intro h
   have h2:=(PA m 0).2 h;unfold dv
   cases hg:bB k m 0 with
   | none=>rw [hg] at h2; cases h2
   | some r=>simp
 · intro h
   have h2:bB k m 0=none:=by
     cases hg:bB k m 0 with
     | none=>rfl
     | some r=>exact absurd ((PA m 0).1 (by rw [hg]; rfl)) h
   unfold dv;rw [h2];simp
def vE (ns:List (List UInt8)) (i:Nat) (M:List (cD (List UInt8))):Prop:=
 (∀s,dO s M (.int .i64 0) = .int .i64 (((ns.take i).count s:Nat):Int))/\(((ns.take i).Nodup/\M.map (·.1)=ns.take i)\/(¬(ns.take i).Nodup/\M.length<i))
theorem vE.zero (ns:List (List UInt8)):vE ns 0 []:=⟨λs=>by simp [dO,bB],.inl ⟨by simp,by simp⟩⟩
theorem vE.step {ns:List (List UInt8)} {i:Nat} {M:List (cD (List UInt8))} {x:List UInt8} (h:vE ns i M) (hx:ns[i]? = some x) (c:Nat):vE ns (i+1) (dv x (.int .i64 (((ns.take i).count x:Nat)+1)) M c):=by
 have av:=(List.getElem?_eq_some_iff.1 hx).1
 have hl:(ns.take i).length=i:=by simp; omega
 have hT:ns.take (i+1)=ns.take i++[x]:=by rw [List.take_add_one,hx]; rfl
 refine ⟨λs=>?_,?_⟩
 · by_cases e:s=x
   · subst e
     rw [zD,hT,List.count_append];simp
   · rw [E_ _ M c _ e,h.1 s,hT,List.count_append]
     have e2:¬x=s:=λk=>e k.symm;simp [List.count_cons,e2]
 · rcases h.2 with ⟨h1,h2⟩ | ⟨h1,h2⟩
   · by_cases hm:x ∈ ns.take i
     · right
       refine ⟨λhn=>?_,?_⟩
       · rw [hT,List.nodup_append] at hn
         exact hn.2.2 x hm x (by simp) O
       · rw [XL.1 (by rw [h2]; exact hm),<-List.length_map (f:=(·.1)),h2,hl]
         omega
     · left
       refine ⟨?_,?_⟩
       · rw [hT,List.nodup_append]
         exact ⟨h1,by simp,λa ha b hb e=>by rw [List.mem_singleton] at hb; subst hb; subst e; exact hm ha⟩
       · rw [XL.2 (by rw [h2]; exact hm),h2,hT]
   · right
     refine ⟨λhn=>h1 ?_,?_⟩
     · rw [hT,List.nodup_append] at hn; exact hn.1
     · have:=O1 x (.int .i64 (((ns.take i).count x:Nat)+1)) M c
       omega
theorem vE.eA {ns:List (List UInt8)} {M:List (cD (List UInt8))} (h:vE ns ns.length M):M.length<ns.length↔et ns=true:=by
 have h2:=h.2;rw [List.take_length] at h2
 rcases h2 with ⟨h1,h2⟩ | ⟨h1,h2⟩
 · rw [nr] at h1
   have:M.length=ns.length:=by rw [<-List.length_map (f:=(·.1)),h2]
   rw [h1]
   constructor
   · intro; omega
   · intro e; cases e
 · rw [nr] at h1
   exact ⟨λ_=>by simpa using h1,λ_=>h2⟩
end Go.Bw
end
section
namespace Go.Bw
open Go
theorem ai6 {l l':List aD} {f:Nat->Nat} (h:Ren l l' f) (ho:vq l) {d:List Nat} (hd:jh l d) (hl:d.length=l.length):Jt l' (d.map f):=
 ⟨h.air ho hd,.inl (by rw [List.length_map,hl,h.len])⟩
theorem XQ {α β:Type} {p:Nat->α->β->Prop}:∀(l:List α) (s:Nat),(∀i x,l[i]? = some x->∃r,p (s+i) x r)->∃ys:List (α×β),ys.map (·.1)=l/\∀(i:Nat) y,ys[i]? = some y->p (s+i) y.1 y.2
 | [],_,_=>⟨[],rfl,λi y h=>by simp at h⟩
 | x::l,s,h=>by
   obtain ⟨r,hr⟩:=h 0 x rfl
   obtain ⟨ys,h1,h2⟩:=XQ l (s+1) λi y hy=>by
     obtain ⟨r,hr⟩:=h (i+1) y hy;exact ⟨r,by rw [show s+1+i=s+(i+1) by omega]; exact hr⟩
   refine ⟨(x,r)::ys,by simp [h1],λi y hy=>?_⟩
   cases i with
   | zero=>simp at hy; subst hy; exact hr
   | succ i=>rw [show s+(i+1)=s+1+i by omega]; exact h2 i y (by simpa using hy)
end Go.Bw
end
section
namespace Go.Bw
open Go
abbrev Tx:=List UInt8
def vF:List UInt8:=[109,111,100,117,108,101]
def qg:List UInt8:=[117,115,101]
def zG:List UInt8:=[112,117,98]
def jl:List UInt8:=[99,111,110,115,116]
def jm:List UInt8:=[118,97,114]
def jn:List UInt8:=[97,114,114,97,121]
def qh:List UInt8:=[112,114,111,99]
def sa:List UInt8:=[108,111,99,97,108]
def gJ:List UInt8:=[109,97,105,110]
def ed:List UInt8:=[105,102]
def dS:List UInt8:=[101,108,115,101]
def ee:List UInt8:=[119,104,105,108,101]
def dT:List UInt8:=[114,101,116,117,114,110]
def dU:List UInt8:=[111,117,116]
def xX:List UInt8:=[105,110]
def J (l:List Tx):Tx:=Lib.join l [32]
def iQ (mod nm:Tx):List Tx:=if (mod==[])=true then [nm] else [mod,[46],nm]
def opsL:List Tx:=[[38],[124],[43],[45],[42],[47],[37],[61],[60]]
def zH (op:Int):Tx:=(opsL[(op-7).toNat]?).getD []
def gg:List (List Tx)->List Tx
 | []=>[]
 | [x]=>x
 | x::y::r=>x++[[44]]++gg (y::r)
def tL (l:List (List Tx)):List Tx:=[[40]]++gg l++[[41]]
def at_ (l:List (List Tx)) (i:Nat):List Tx:=(l[i]?).getD []
def ox (op n:Int) (mod nm:Tx) (A:List (List Tx)):List Tx:=
 if op=1 then [Lib.itoa n] else if op=2 then [xX] else if op=3 then iQ mod nm else if op=4 then iQ mod nm++[[91]]++at_ A 0++[[93]] else if op=5 then iQ mod nm++tL A
 else if op=6 then [[33]]++at_ A 0 else [[40]]++at_ A 0++[zH op]++at_ A 1++[[41]]
mutual
def eO:az->List Tx
 | .mk op n mod nm args=>ox op n mod nm (dn args)
def dn:List az->List (List Tx)
 | []=>[]
 | x::r=>eO x::dn r
end
def qi (l:List Tx):List Tx:=[[123]]++l++[[125]]
def nC (op:Int) (mod nm:Tx) (A:List (List Tx)) (b:List Tx) (ol:Nat) (o:List Tx):List Tx:=
 if op=4\/op=5 then [if op=5 then ee else ed]++at_ A 0++qi b++(if 0<ol then [dS]++qi o else [])
 else (if op=6 then [dT]++at_ A 0 else if op=7 then [dU]++at_ A 0 else if op=3 then iQ mod nm++tL A else if op=1 then iQ mod nm++[[61]]++at_ A 0 else if op=2 then iQ mod nm++[[91]]++at_ A 0++[[93],[61]]++at_ A 1 else [])++[[59]]
mutual
def l7:aH->List Tx
 | .mk op mod nm args body other=>nC op mod nm (dn args) (gW body) other.length (gW other)
def gW:List aH->List Tx
 | []=>[]
 | x::r=>l7 x++gW r
end
def lv (l:List aH):List Tx:=qi (gW l)
def xY (b:Bool):List Tx:=if b=true then [zG] else []
def zI (u:Tx):List Tx:=[qg,u,[59]]
def sd (u:Tx):List Tx:=[sa,u,[59]]
def tO (d:bM):List Tx:=if d.kind=1 then [jl,d.nm,[61],Lib.itoa d.n] else if d.kind=2 then [jm,d.nm] else if d.kind=3 then [jn,d.nm,[91],Lib.itoa d.n,[93]] else []
def mG (d:bM):List Tx:=xY d.aL++tO d++[[59]]
def iR (p:dh):List Tx:=xY p.aL++[qh,p.nm,[40]]++gg (p.params.map λs=>[s])++[[41]]++p.ay.flatMap sd++lv p.body
def pg (m:aD):List Tx:=[vF,m.nm,[123]]++m.ag.flatMap zI++m.decls.flatMap mG++m.procs.flatMap iR++[gJ]++lv m.main++[[125]]
theorem gx {a b:aG} (h:(a+b).aT=0):a.aT=0/\b.aT=0:=by
 rw [aG.cX] at h; omega
theorem tQ {b:Bool} (h:(cB b).aT=0):b=false:=by cases b; rfl; cases h
theorem Fp {b:Bool} (h:(bu b).aT=0):b=false:=by cases b; rfl; cases h
theorem XR {b:Bool} (h:(cK b).aT=0):b=false:=by cases b; rfl; cases h
structure Cv (op n:Int) (mod nm:Tx) (args:List az) (d:Nat):Prop where
 deep:d<=6
 kind:1<=op/\op<=15
 name:hY (dG op 3 5) mod nm=false
 zJ:nn (xB op) args.length=false
 eA:args.length<=3
 num:jU op n=false
 sub:(bY args (d+1)).aT=0
theorem PB {op n:Int} {mod nm:Tx} {args:List az} {d:Nat} (h:(gE (.mk op n mod nm args) d).aT=0):Cv op n mod nm args d:=by
 unfold gE at h
 split at h
 · cases h
 · rename_i hd
   obtain ⟨h,h4⟩:=gx h;obtain ⟨h,h3⟩:=gx h;obtain ⟨h1,h2⟩:=gx h;have hk:=XR h1;obtain ⟨e1,e2⟩:=agS hk;unfold cO at h2;obtain ⟨h2,h5⟩:=gx h2;obtain ⟨h6,h7⟩:=gx h2;rw [VF] at hk;have se:=Fp h5;exact ⟨by omega,by simp [dG] at hk; omega,by rw [<-e1]; exact tQ h6,by rw [<-e2]; exact tQ h7,by simp at se; omega,tQ h3,h4⟩
theorem XS {x:az} {r:List az} {d:Nat} (h:(bY (x::r) d).aT=0):(gE x d).aT=0/\(bY r d).aT=0:=by
 unfold bY at h; exact gx h
theorem Cv.XT {op n:Int} {mod nm:Tx} {args:List az} {d:Nat} (h:Cv op n mod nm args d) (ho:op=4\/op=6):args.length=1:=by
 have:=h.zJ
 rcases ho with rfl | rfl<;>simp [nn,xB] at this<;>omega
theorem Cv.ai7 {op n:Int} {mod nm:Tx} {args:List az} {d:Nat} (h:Cv op n mod nm args d) (ho:7<=op):args.length=2:=by
 have:=h.zJ;unfold nn xB at this;rw [if_neg (by omega),if_neg (by omega),if_neg (by omega)] at this;simp at this; omega
theorem XV:∀l:List az,(dn l).length=l.length
 | []=>rfl
 | x::r=>by unfold dn; simp [XV r]
theorem ai8 (mod nm:Tx):iQ mod nm≠[]:=by unfold iQ; split<;>simp
theorem XW:∀x:az,eO x≠[]
 | .mk op n mod nm args=>by
   unfold eO ox tL;have:=ai8 mod nm
   repeat' split
   all_goals simp_all
theorem XX:∀(l:List az),∀x ∈ dn l,x≠[]
 | [],_,h=>by simp [dn] at h
 | y::r,x,h=>by
   unfold dn at h
   rcases List.mem_cons.1 h with rfl | h
   · exact XW y
   · exact XX r x h
structure xZ (op:Int) (mod nm:Tx) (args:List az) (body other:List aH) (d:Nat):Prop where
 kind:1<=op/\op<=7
 name:hY (dG op 1 3) mod nm=false
 zJ:nn (Om op) args.length=false
 eA:args.length<=3
 exprs:(bY args 1).aT=0
 form:h_ op body.length other.length=false
 body:(inner op||decide (0<body.length))=true->(o0 (d+1) body.length (bS body (d+1))).aT=0
 other:0<other.length->(o0 (d+1) other.length (bS other (d+1))).aT=0
theorem PC {op:Int} {mod nm:Tx} {args:List az} {body other:List aH} {d:Nat} (h:(ey (.mk op mod nm args body other) d).aT=0):xZ op mod nm args body other d:=by
 unfold ey at h;obtain ⟨h,h6⟩:=gx h;obtain ⟨h,h5⟩:=gx h;obtain ⟨h,h4⟩:=gx h;obtain ⟨h,h3⟩:=gx h;obtain ⟨h1,h2⟩:=gx h;have hk:=XR h1;obtain ⟨e1,e2⟩:=agT hk;unfold cO at h2;obtain ⟨h2,h7⟩:=gx h2;obtain ⟨h8,h9⟩:=gx h2;rw [VG] at hk;have se:=Fp h7;refine ⟨by simp [dG] at hk; omega,by rw [<-e1]; exact tQ h8,by rw [<-e2]; exact tQ h9,by simp at se; omega,h3,tQ h4,λhb=>?_,λhb=>?_⟩
 · rw [if_pos hb] at h5; exact h5
 · rw [if_pos hb] at h6; exact h6
theorem Fq {d len:Nat} {c:aG} (h:(o0 d len c).aT=0):d<=6/\len<=10/\c.aT=0:=by
 unfold o0 at h
 split at h
 · cases h
 · obtain ⟨h1,h2⟩:=gx h
   have:=Fp h1;simp at this;exact ⟨by omega,by omega,h2⟩
theorem PD {x:aH} {r:List aH} {d:Nat} (h:(bS (x::r) d).aT=0):(ey x d).aT=0/\(bS r d).aT=0:=by
 unfold bS at h; exact gx h
theorem xZ.len {op:Int} {mod nm:Tx} {args:List az} {body other:List aH} {d:Nat} (h:xZ op mod nm args body other d) (ho:op≠3):args.length=if op=2 then 2 else 1:=by
 have:=h.zJ;unfold nn Om at this
 by_cases h2:op=2
 · rw [if_pos h2] at this ⊢; simp at this; omega
 · rw [if_neg h2,if_neg ho] at this; rw [if_neg h2]; simp at this; omega
theorem xZ.ai9 {op:Int} {mod nm:Tx} {args:List az} {body other:List aH} {d:Nat} (h:xZ op mod nm args body other d):((op≠4/\op≠5)->body=[])/\(op≠4->other=[]):=by
 have:=h.form;unfold h_ inner at this;rw [Bool.or_eq_false_iff] at this;refine ⟨λ⟨a,b⟩=>?_,λa=>?_⟩
 · have h1:=this.1
   simpa [a,b] using h1
 · have h1:=this.2
   simpa [a] using h1
theorem XY:∀x:aH,l7 x≠[]
 | .mk op mod nm args body other=>by
   unfold l7 nC
   split<;>simp
theorem ai' {d:bM} (h:(gU d).aT=0):d.kind=1\/d.kind=2\/d.kind=3:=by
 unfold gU at h;obtain ⟨_,h⟩:=gx h
 by_cases h1:d.kind=1
 · exact .inl h1
 · rw [if_neg h1] at h
   by_cases h2:d.kind=2
   · exact .inr (.inl h2)
   · rw [if_neg h2] at h
     by_cases h3:d.kind=3
     · exact .inr (.inr h3)
     · rw [if_neg h3] at h; cases h
theorem XZ:∀{l:List bM},(c_ l).aT=0->∀d ∈ l,(gU d).aT=0
 | [],_,d,hd=>by simp at hd
 | x::r,h,d,hd=>by
   unfold c_ at h;obtain ⟨h1,h2⟩:=gx h
   rcases List.mem_cons.1 hd with rfl | hd
   · exact h1
   · exact XZ h2 d hd
theorem X0:∀{l:List dh},(dF l).aT=0->∀d ∈ l,(o1 d).aT=0
 | [],_,d,hd=>by simp at hd
 | x::r,h,d,hd=>by
   unfold dF at h;obtain ⟨h1,h2⟩:=gx h
   rcases List.mem_cons.1 hd with rfl | hd
   · exact h1
   · exact X0 h2 d hd
theorem ai_ {c:aG}:vm c=0↔c.aT=0:=by
 unfold vm aG.aT
 split
 · omega
 · split
   · omega
   · split<;>omega
end Go.Bw
end
section
namespace Go.Bw
open Go
def bl (s:Tx):Tok:=match Lib.atoiAll s with
 | .ok v=>⟨2,v,[]⟩
 | _=>if dB s=true then ⟨1,0,s⟩ else ⟨3,0,s⟩
def PE (t:Tok):Prop:=s_ t=true/\jT t=true
theorem JQ:∀u ∈ vi,bl [u]=⟨3,0,[u]⟩:=by decide
theorem Fs {s:Tx} (h:dB s=true):bl s=⟨1,0,s⟩:=by
 cases s with
 | nil=>simp [dB] at h
 | cons c r=>
   have hl:ni (c.toNat:Int)=true:=by
     simp only [dB,Bool.and_eq_true] at h
     simpa using h.1.2
   have hc:97<=c.toNat:=by simp [ni] at hl; omega
   have ha:∀v,Lib.atoiAll (c::r)≠.ok v:=by
     intro v hv;rw [Lib.atoiAll_plain c r (by omega) (by omega)] at hv;unfold Lib.parseMag Lib.parseUint10 at hv;rw [if_neg (by simp),if_neg (by omega)] at hv;cases hv
   unfold bl
   cases hs:Lib.atoiAll (c::r) with
   | ok v=>exact absurd hs (ha v)
   | _=>simp [h]
theorem Ft {n:Int} (h0:0<=n) (h1:n<=1099511627775):bl (Lib.itoa n)=⟨2,n,[]⟩:=by
 unfold bl;rw [Ok h0,Vz (by omega)];simp; omega
theorem JR {t:Tok} (h:PE t):bl (n0 t)=t:=by
 obtain ⟨hk,ht⟩:=h;obtain ⟨k,n,s⟩:=t
 have BL:k=1\/k=2\/k=3:=by simp [s_] at hk; omega
 rcases BL with rfl | rfl | rfl
 · simp only [jT,if_pos,Bool.and_eq_true,beq_iff_eq] at ht
   obtain ⟨rfl,hn⟩:=ht;exact Fs hn
 · have:s=[]/\0<=n/\n<=1099511627775:=by simpa [jT] using ht
   obtain ⟨rfl,h0,h1⟩:=this;exact Ft h0 h1
 · have:n=0/\s.length=1/\nj (s[0]?.getD 0)=true:=by simpa [jT] using ht
   obtain ⟨rfl,hl,hs⟩:=this
   match s,hl with
   | [c],_=>exact JQ c (by simpa [nj] using hs)
def gh (w:Tx):Prop:=PE (bl w)/\n0 (bl w)=w
theorem ib {s:Tx} (h:dB s=true):gh s:=by
 unfold gh;rw [Fs h];exact ⟨⟨O,by simp [jT,h]⟩,O⟩
theorem fL {u:UInt8} (h:u ∈ vi):gh [u]:=by
 unfold gh;rw [JQ u h];exact ⟨⟨O,by simp [jT,nj,h]⟩,O⟩
theorem PF {n:Int} (h0:0<=n) (h1:n<=1099511627775):gh (Lib.itoa n):=by
 unfold gh;rw [Ft h0 h1];exact ⟨⟨O,by simp [jT]; omega⟩,O⟩
theorem aja {l:List Tx} (h:∀w ∈ l,gh w):vk (l.map bl)=J l:=by
 unfold vk J
 congr 1
 rw [List.map_map]
 conv=>rhs; rw [<-List.map_id l]
 exact List.map_congr_left λw hw=>(h w hw).2
theorem oy {s:Tx} (h:dL s=true):dB s=true:=by
 simp only [dL,Bool.and_eq_true] at h; exact h.1
theorem PG {mod nm:Tx} (h:hY true mod nm=false):(mod=[]\/dL mod=true)/\dL nm=true:=by
 unfold hY at h
 cases hm:(mod==[]) with
 | true=>simp [hm] at h; simp at hm; exact ⟨.inl hm,by simpa using h⟩
 | false=>simp [hm] at h; exact ⟨.inr h.1,h.2⟩
theorem X1 {mod nm:Tx} (h:hY false mod nm=false):mod=[]/\nm=[]:=by
 unfold hY at h;rw [agR] at h
 simpa using h
theorem Cw {mod nm:Tx} (h:hY true mod nm=false):∀w ∈ iQ mod nm,gh w:=by
 obtain ⟨h1,h2⟩:=PG h;intro w hw;unfold iQ at hw
 split at hw
 · rw [List.mem_singleton] at hw; subst hw; exact ib (oy h2)
 · rename_i hm
   have:dL mod=true:=h1.resolve_left (by simpa using hm);simp only [List.mem_cons,List.not_mem_nil,or_false] at hw
   rcases hw with rfl | rfl | rfl
   · exact ib (oy this)
   · exact fL (by decide)
   · exact ib (oy h2)
theorem X2 {l:List (List Tx)} (h:∀x ∈ l,∀w ∈ x,gh w):∀w ∈ gg l,gh w:=by
 induction l with
 | nil=>intro w hw; simp [gg] at hw
 | cons x r ih=>
   cases r with
   | nil=>intro w hw; exact h x (by simp) w hw
   | cons y r=>
     intro w hw;simp only [gg,List.mem_append,List.mem_singleton] at hw
     rcases hw with (hw | rfl) | hw
     · exact h x (by simp) w hw
     · exact fL (by decide)
     · exact ih (λz hz=>h z (List.mem_cons_of_mem _ hz)) w hw
theorem X3 {l:List (List Tx)} (h:∀x ∈ l,∀w ∈ x,gh w):∀w ∈ tL l,gh w:=by
 intro w hw;simp only [tL,List.mem_append,List.mem_singleton] at hw
 rcases hw with (rfl | hw) | rfl
 · exact fL (by decide)
 · exact X2 h w hw
 · exact fL (by decide)
theorem at_mem {l:List (List Tx)} {i:Nat} {w:Tx} (h:w ∈ at_ l i):∃x ∈ l,w ∈ x:=by
 unfold at_ at h
 cases hx:l[i]? with
 | none=>simp [hx] at h
 | some x=>rw [hx] at h; exact ⟨x,List.mem_of_getElem? hx,h⟩
theorem ajb {op:Int} (h:7<=op/\op<=15):gh (zH op):=by
 have:op=7\/op=8\/op=9\/op=10\/op=11\/op=12\/op=13\/op=14\/op=15:=by omega
 rcases this with rfl | rfl | rfl | rfl | rfl | rfl | rfl | rfl | rfl<;>exact fL (by decide)
theorem PH {n:Int} (h:jU 1 n=false):0<=n/\n<=1099511627775:=by
 simp [jU] at h; omega
theorem ajc {op n:Int} {mod nm:Tx} {args:List az} {d:Nat} (h:Cv op n mod nm args d) (hA:∀x ∈ dn args,∀w ∈ x,gh w):∀w ∈ ox op n mod nm (dn args),gh w:=by
 have hk:=h.kind
 have ia:∀i w,w ∈ at_ (dn args) i->gh w:=λi w hw=>by
   obtain ⟨x,hx,JS⟩:=at_mem hw;exact hA x hx w JS
 intro w hw;unfold ox at hw;have hn:=h.name
 by_cases h1:op=1
 · subst h1
   rw [if_pos rfl,List.mem_singleton] at hw;subst hw;obtain ⟨a,b⟩:=PH h.num;exact PF a b
 rw [if_neg h1] at hw
 by_cases h2:op=2
 · rw [if_pos h2,List.mem_singleton] at hw; subst hw; exact ib (by decide)
 rw [if_neg h2] at hw
 by_cases h3:op=3
 · subst h3; rw [if_pos rfl] at hw; exact Cw hn w hw
 rw [if_neg h3] at hw
 by_cases h4:op=4
 · subst h4
   rw [if_pos rfl] at hw;simp only [List.mem_append,List.mem_singleton] at hw
   rcases hw with ((hw | rfl) | hw) | rfl
   · exact Cw hn w hw
   · exact fL (by decide)
   · exact ia _ _ hw
   · exact fL (by decide)
 rw [if_neg h4] at hw
 by_cases h5:op=5
 · subst h5
   rw [if_pos rfl,List.mem_append] at hw
   rcases hw with hw | hw
   · exact Cw hn w hw
   · exact X3 hA w hw
 rw [if_neg h5] at hw
 by_cases h6:op=6
 · rw [if_pos h6,List.mem_append,List.mem_singleton] at hw
   rcases hw with rfl | hw
   · exact fL (by decide)
   · exact ia _ _ hw
 rw [if_neg h6] at hw;simp only [List.mem_append,List.mem_singleton] at hw
 rcases hw with (((rfl | hw) | rfl) | hw) | rfl
 · exact fL (by decide)
 · exact ia _ _ hw
 · exact ajb ⟨by omega,hk.2⟩
 · exact ia _ _ hw
 · exact fL (by decide)
mutual
theorem ajd:∀(x:az) (d:Nat),(gE x d).aT=0->∀w ∈ eO x,gh w
 | .mk op n mod nm args,d,h=>by
   have ho:=PB h;unfold eO;exact ajc ho (PI args (d+1) ho.sub)
theorem PI:∀(l:List az) (d:Nat),(bY l d).aT=0->∀x ∈ dn l,∀w ∈ x,gh w
 | [],_,_=>by intro x hx; simp [dn] at hx
 | y::r,d,h=>by
   obtain ⟨h1,h2⟩:=XS h;intro x hx;unfold dn at hx
   rcases List.mem_cons.1 hx with rfl | hx
   · exact ajd y d h1
   · exact PI r d h2 x hx
end
theorem Fu {l:List Tx} (h:∀w ∈ l,gh w):∀w ∈ qi l,gh w:=by
 intro w hw;simp only [qi,List.mem_append,List.mem_singleton] at hw
 rcases hw with (rfl | hw) | rfl
 · exact fL (by decide)
 · exact h w hw
 · exact fL (by decide)
theorem aje {op:Int} {mod nm:Tx} {args:List az} {body other:List aH} {d:Nat} (h:xZ op mod nm args body other d) (hb:∀w ∈ gW body,gh w) (ho:∀w ∈ gW other,gh w) :
   ∀w ∈ nC op mod nm (dn args) (gW body) other.length (gW other),gh w:=by
 have hk:=h.kind;have hA:=PI args 1 h.exprs
 have ia:∀i w,w ∈ at_ (dn args) i->gh w:=λi w hw=>by
   obtain ⟨x,hx,JS⟩:=at_mem hw;exact hA x hx w JS
 have hn:=h.name;intro w hw;unfold nC at hw
 rcases (by omega:op=1\/op=2\/op=3\/op=4\/op=5\/op=6\/op=7) with rfl | rfl | rfl | rfl | rfl | rfl | rfl
 · simp only [if_true,if_false,reduceCtorEq,Int.reduceEq,or_self,List.mem_append,List.mem_singleton] at hw
   rcases hw with ((hw | rfl) | hw) | rfl
   · exact Cw hn w hw
   · exact fL (by decide)
   · exact ia _ _ hw
   · exact fL (by decide)
 · simp only [if_true,if_false,reduceCtorEq,Int.reduceEq,or_self,List.mem_append,List.mem_singleton,List.mem_cons,List.not_mem_nil,or_false] at hw
   rcases hw with ((((hw | rfl) | hw) | (rfl | rfl)) | hw) | rfl
   · exact Cw hn w hw
   · exact fL (by decide)
   · exact ia _ _ hw
   · exact fL (by decide)
   · exact fL (by decide)
   · exact ia _ _ hw
   · exact fL (by decide)
 · simp only [if_true,if_false,reduceCtorEq,Int.reduceEq,or_self,List.mem_append,List.mem_singleton] at hw
   rcases hw with (hw | hw) | rfl
   · exact Cw hn w hw
   · exact X3 hA w hw
   · exact fL (by decide)
 · simp only [if_true,if_false,reduceCtorEq,Int.reduceEq,or_false,true_or,List.mem_append,List.mem_singleton] at hw
   rcases hw with ((rfl | hw) | hw) | hw
   · exact ib (by decide)
   · exact ia _ _ hw
   · exact Fu hb w hw
   · split at hw
     · simp only [List.mem_append,List.mem_singleton] at hw
       rcases hw with rfl | hw
       · exact ib (by decide)
       · exact Fu ho w hw
     · simp at hw
 · simp only [if_true,if_false,reduceCtorEq,Int.reduceEq,or_true,List.mem_append,List.mem_singleton] at hw
   rcases hw with ((rfl | hw) | hw) | hw
   · exact ib (by decide)
   · exact ia _ _ hw
   · exact Fu hb w hw
   · split at hw
     · simp only [List.mem_append,List.mem_singleton] at hw
       rcases hw with rfl | hw
       · exact ib (by decide)
       · exact Fu ho w hw
     · simp at hw
 · simp only [if_true,if_false,reduceCtorEq,Int.reduceEq,or_self,List.mem_append,List.mem_singleton] at hw
   rcases hw with (rfl | hw) | rfl
   · exact ib (by decide)
   · exact ia _ _ hw
   · exact fL (by decide)
 · simp only [if_true,if_false,reduceCtorEq,Int.reduceEq,or_self,List.mem_append,List.mem_singleton] at hw
   rcases hw with (rfl | hw) | rfl
   · exact ib (by decide)
   · exact ia _ _ hw
   · exact fL (by decide)
theorem xZ.X4 {op:Int} {mod nm:Tx} {args:List az} {body other:List aH} {d:Nat} (ho:xZ op mod nm args body other d):(bS body (d+1)).aT=0/\(bS other (d+1)).aT=0:=by
 constructor
 · by_cases hb:(inner op||decide (0<body.length))=true
   · exact (Fq (ho.body hb)).2.2
   · have:body=[]:=by
       simp at hb;exact hb.2
     subst this; rfl
 · by_cases hb:0<other.length
   · exact (Fq (ho.other hb)).2.2
   · have:other=[]:=List.eq_nil_of_length_eq_zero (by omega)
     subst this; rfl
mutual
theorem ajf:∀(x:aH) (d:Nat),(ey x d).aT=0->∀w ∈ l7 x,gh w
 | .mk op mod nm args body other,d,h=>by
   have ho:=PC h;unfold l7;exact aje ho (JT body (d+1) ho.X4.1) (JT other (d+1) ho.X4.2)
theorem JT:∀(l:List aH) (d:Nat),(bS l d).aT=0->∀w ∈ gW l,gh w
 | [],_,_=>by intro x hx; simp [gW] at hx
 | y::r,d,h=>by
   obtain ⟨h1,h2⟩:=PD h;intro w hw;unfold gW at hw
   rcases List.mem_append.1 hw with hw | hw
   · exact ajf y d h1 w hw
   · exact JT r d h2 w hw
end
theorem zK:∀{l:List Tx},(aI l).aT=0->∀s ∈ l,dL s=true
 | [],_,s,hs=>by simp at hs
 | x::r,h,s,hs=>by
   unfold aI at h;obtain ⟨h1,h2⟩:=gx h
   rcases List.mem_cons.1 hs with rfl | hs
   · simpa using tQ h1
   · exact zK h2 s hs
structure JU (d:bM):Prop where
 name:dL d.nm=true
 kind:d.kind=1\/d.kind=2\/d.kind=3
 n1:d.kind=1->0<=d.n/\d.n<=1099511627775
 n2:d.kind=2->d.n=0
 n3:d.kind=3->1<=d.n/\d.n<=32
theorem Fv {d:bM} (h:(gU d).aT=0):JU d:=by
 have hk:=ai' h;unfold gU at h;obtain ⟨h1,h2⟩:=gx h;refine ⟨zK h1 d.nm (by simp),hk,λe=>?_,λe=>?_,λe=>?_⟩
 · rw [if_pos e] at h2
   have:=tQ h2;simp at this; omega
 · rw [if_neg (by omega),if_pos e] at h2
   have:=tQ h2
   simpa using this
 · rw [if_neg (by omega),if_neg (by omega),if_pos e] at h2
   have:=tQ h2;simp at this; omega
theorem ajg {d:bM} (h:(gU d).aT=0):∀w ∈ mG d,gh w:=by
 have ho:=Fv h;have Cx:=ib (oy ho.name);intro w hw;simp only [mG,List.mem_append,List.mem_singleton] at hw
 rcases hw with (hw | hw) | rfl
 · unfold xY at hw
   split at hw
   · rw [List.mem_singleton] at hw; subst hw; exact ib (by decide)
   · simp at hw
 · unfold tO at hw
   rcases ho.kind with e | e | e
   · obtain ⟨a,b⟩:=ho.n1 e
     rw [if_pos e] at hw;simp only [List.mem_cons,List.not_mem_nil,or_false] at hw
     rcases hw with rfl | rfl | rfl | rfl
     · exact ib (by decide)
     · exact Cx
     · exact fL (by decide)
     · exact PF a b
   · rw [if_neg (by omega),if_pos e] at hw
     simp only [List.mem_cons,List.not_mem_nil,or_false] at hw
     rcases hw with rfl | rfl
     · exact ib (by decide)
     · exact Cx
   · obtain ⟨a,b⟩:=ho.n3 e
     rw [if_neg (by omega),if_neg (by omega),if_pos e] at hw;simp only [List.mem_cons,List.not_mem_nil,or_false] at hw
     rcases hw with rfl | rfl | rfl | rfl | rfl
     · exact ib (by decide)
     · exact Cx
     · exact fL (by decide)
     · exact PF (by omega) (by omega)
     · exact fL (by decide)
 · exact fL (by decide)
structure X5 (p:dh):Prop where
 name:dL p.nm=true
 params:∀s ∈ p.params,dL s=true
 ay:∀s ∈ p.ay,dL s=true
 eA:p.params.length<=3/\p.ay.length<=4
 body:(cQ p.body 1).aT=0
theorem PJ {p:dh} (h:(o1 p).aT=0):X5 p:=by
 unfold o1 at h;obtain ⟨h,h5⟩:=gx h;obtain ⟨h,h4⟩:=gx h;obtain ⟨h,h3⟩:=gx h;obtain ⟨h1,h2⟩:=gx h;have:=Fp h4;simp at this;exact ⟨zK h1 p.nm (by simp),zK h2,zK h3,by omega,h5⟩
theorem X6 {l:List aH} {d:Nat} (h:(cQ l d).aT=0):∀w ∈ lv l,gh w:=by
 unfold cQ at h;exact Fu (JT l d (Fq h).2.2)
theorem ajh {p:dh} (h:(o1 p).aT=0):∀w ∈ iR p,gh w:=by
 have ho:=PJ h;intro w hw;simp only [iR,List.mem_append,List.mem_singleton,List.mem_cons,List.not_mem_nil,or_false,List.mem_flatMap] at hw
 rcases hw with ((((hw | (rfl | rfl | rfl)) | hw) | rfl) | ⟨s,hs,hw⟩) | hw
 · unfold xY at hw
   split at hw
   · rw [List.mem_singleton] at hw; subst hw; exact ib (by decide)
   · simp at hw
 · exact ib (by decide)
 · exact ib (oy ho.name)
 · exact fL (by decide)
 · refine X2 (λx hx w hw=>?_) w hw
   obtain ⟨s,hs,rfl⟩:=List.mem_map.1 hx;rw [List.mem_singleton] at hw;subst hw;exact ib (oy (ho.params _ hs))
 · exact fL (by decide)
 · simp only [sd,List.mem_cons,List.not_mem_nil,or_false] at hw
   rcases hw with rfl | rfl | rfl
   · exact ib (by decide)
   · exact ib (oy (ho.ay _ hs))
   · exact fL (by decide)
 · exact X6 ho.body w hw
structure Fw (m:aD):Prop where
 name:dL m.nm=true
 ag:∀s ∈ m.ag,dL s=true
 eA:m.ag.length<=3/\m.decls.length<=10/\m.procs.length<=6
 decls:∀d ∈ m.decls,(gU d).aT=0
 procs:∀p ∈ m.procs,(o1 p).aT=0
 main:(cQ m.main 1).aT=0
theorem PK {m:aD} (h:(rC m).aT=0):Fw m:=by
 unfold rC at h;obtain ⟨h,h6⟩:=gx h;obtain ⟨h,h5⟩:=gx h;obtain ⟨h,h4⟩:=gx h;obtain ⟨h,h3⟩:=gx h;obtain ⟨h1,h2⟩:=gx h;have:=Fp h3;simp at this;exact ⟨zK h1 m.nm (by simp),zK h2,by omega,XZ h4,X0 h5,h6⟩
theorem X7 {m:aD} (h:(rC m).aT=0):∀w ∈ pg m,gh w:=by
 have ho:=PK h;intro w hw;simp only [pg,List.mem_append,List.mem_singleton,List.mem_cons,List.not_mem_nil,or_false,List.mem_flatMap] at hw
 rcases hw with ((((((rfl | rfl | rfl) | ⟨s,hs,hw⟩) | ⟨d,hd,hw⟩) | ⟨p,hp,hw⟩) | rfl) | hw) | rfl
 · exact ib (by decide)
 · exact ib (oy ho.name)
 · exact fL (by decide)
 · simp only [zI,List.mem_cons,List.not_mem_nil,or_false] at hw
   rcases hw with rfl | rfl | rfl
   · exact ib (by decide)
   · exact ib (oy (ho.ag _ hs))
   · exact fL (by decide)
 · exact ajg (ho.decls d hd) w hw
 · exact ajh (ho.procs p hp) w hw
 · exact ib (by decide)
 · exact X6 ho.main w hw
 · exact fL (by decide)
end Go.Bw
end
section
namespace Go.Bw
open Go
abbrev Tk:=List Tok
def au (s:Tx):Tk->Option Tk
 | []=>none
 | t::r=>if (t.text==s)=true then some r else none
def kW (k:Int):Tk->Option (Tok×Tk)
 | []=>none
 | t::r=>if t.kind=k then some (t,r) else none
def cN (l:Tk):Option (Tx×Tk):=(kW 1 l).bind λp=>if dL p.1.text=true then some (p.1.text,p.2) else none
def jZ (l:Tk):Option (Int×Tk):=(kW 2 l).map λp=>(p.1.n,p.2)
def jo (l:Tk):Option ((Tx×Tx)×Tk):=(cN l).bind λa=>match au [46] a.2 with
 | some r=>(cN r).map λb=>((a.1,b.1),b.2)
 | none=>some (([],a.1),a.2)
def kB (pe:Tk->Option (az×Tk)):Nat->Tk->Option (List az×Tk)
 | 0,_=>none
 | n+1,l=>(pe l).bind λx=>match au [41] x.2 with
   | some r=>some ([x.1],r)
   | none=>match au [44] x.2 with
     | some r=>(kB pe n r).map λq=>(x.1::q.1,q.2)
     | none=>none
def j0 (pe:Tk->Option (az×Tk)) (l:Tk):Option (List az×Tk):=match au [41] l with
 | some r=>some ([],r)
 | none=>kB pe (l.length+1) l
def nD:List Tx->Nat->Tk->Option (Nat×Tk)
 | [],_,_=>none
 | w::ws,i,l=>match au w l with
   | some r=>some (i,r)
   | none=>nD ws (i+1) l
def l8 (pe:Tk->Option (az×Tk)) (l:Tk):Option (az×Tk):=(pe l).bind λa=>(nD opsL 0 a.2).bind λo=>(pe o.2).bind λb=>(au [41] b.2).map λr=>(az.mk (7+(o.1:Int)) 0 [] [] [a.1,b.1],r)
def mH (pe:Tk->Option (az×Tk)) (mod nm:Tx) (l:Tk):Option (az×Tk):=match au [91] l with
 | some r=>(pe r).bind λx=>(au [93] x.2).map λr=>(az.mk 4 0 mod nm [x.1],r)
 | none=>match au [40] l with
   | some r=>(j0 pe r).map λq=>(az.mk 5 0 mod nm q.1,q.2)
   | none=>some (az.mk 3 0 mod nm [],l)
def kC (pe:Tk->Option (az×Tk)) (l:Tk):Option (az×Tk):=match au xX l with
 | some r=>some (az.mk 2 0 [] [] [],r)
 | none=>match au [33] l with
   | some r=>(pe r).map λx=>(az.mk 6 0 [] [] [x.1],x.2)
   | none=>match au [40] l with
     | some r=>l8 pe r
     | none=>(jo l).bind λp=>mH pe p.1.1 p.1.2 p.2
def bI:Nat->Tk->Option (az×Tk)
 | 0,_=>none
 | f+1,l=>match l with
   | []=>none
   | t::r=>if t.kind=2 then some (az.mk 1 t.n [] [] [],r) else kC (bI f) (t::r)
def dV (l:Tk):Option (aH×Tk):=match au dT l with
 | some r=>(bI 6 r).map λx=>(aH.mk 6 [] [] [x.1] [] [],x.2)
 | none=>match au dU l with
   | some r=>(bI 6 r).map λx=>(aH.mk 7 [] [] [x.1] [] [],x.2)
   | none=>(jo l).bind λp=>match au [40] p.2 with
     | some r=>(j0 (bI 6) r).map λq=>(aH.mk 3 p.1.1 p.1.2 q.1 [] [],q.2)
     | none=>match au [91] p.2 with
       | some r=>(bI 6 r).bind λi=>(au [93] i.2).bind λr=>(au [61] r).bind λr=>(bI 6 r).map λx=>(aH.mk 2 p.1.1 p.1.2 [i.1,x.1] [] [],x.2)
       | none=>(au [61] p.2).bind λr=>(bI 6 r).map λx=>(aH.mk 1 p.1.1 p.1.2 [x.1] [] [],x.2)
def dC (pb:Tk->Option (List aH×Tk)) (l:Tk):Option (aH×Tk):=match au ed l with
 | some r=>(bI 6 r).bind λx=>(pb x.2).bind λb=>match au dS b.2 with
   | some r=>(pb r).bind λo=>if o.1.length=0 then none else some (aH.mk 4 [] [] [x.1] b.1 o.1,o.2)
   | none=>some (aH.mk 4 [] [] [x.1] b.1 [],b.2)
 | none=>match au ee l with
   | some r=>(bI 6 r).bind λx=>(pb x.2).map λb=>(aH.mk 5 [] [] [x.1] b.1 [],b.2)
   | none=>(dV l).bind λs=>(au [59] s.2).map λr=>(s.1,r)
def mI (ps:Tk->Option (aH×Tk)):Nat->Tk->Option (List aH×Tk)
 | 0,_=>none
 | n+1,l=>match au [125] l with
   | some r=>some ([],r)
   | none=>(ps l).bind λs=>(mI ps n s.2).map λq=>(s.1::q.1,q.2)
def eP:Nat->Tk->Option (List aH×Tk)
 | 0,_=>none
 | f+1,l=>(au [123] l).bind λr=>mI (dC (eP f)) (r.length+1) r
def ef (aL:Bool) (l:Tk):Option (Option bM×Tk):=match au jl l with
 | some r=>(cN r).bind λa=>(au [61] a.2).bind λr=>(jZ r).bind λn=>(au [59] n.2).map λr=>(some ⟨1,a.1,aL,n.1⟩,r)
 | none=>match au jm l with
   | some r=>(cN r).bind λa=>(au [59] a.2).map λr=>(some ⟨2,a.1,aL,0⟩,r)
   | none=>match au jn l with
     | some r=>(cN r).bind λa=>(au [91] a.2).bind λr=>(jZ r).bind λn=>(au [93] n.2).bind λr=>(au [59] r).map λr=>(some ⟨3,a.1,aL,n.1⟩,r)
     | none=>some (none,l)
def dt (l:Tk):Bool×Tk:=((au zG l).isSome,(au zG l).getD l)
def lx:Nat->Bool->Tk->Option ((List bM×Bool)×Tk)
 | 0,_,_=>none
 | n+1,aL,l=>(ef aL l).bind λd=>match d.1 with
   | none=>some (([],aL),d.2)
   | some x=>(lx n (dt d.2).1 (dt d.2).2).map λq=>((x::q.1.1,q.1.2),q.2)
def iC:Nat->Bool->Tk->Option (List Tx×Tk)
 | 0,_,_=>none
 | n+1,first,l=>match au [41] l with
   | some r=>some ([],r)
   | none=>(if first=true then some l else au [44] l).bind λl=>(cN l).bind λa=>(iC n false a.2).map λq=>(a.1::q.1,q.2)
def jI:Nat->Tk->Option (List Tx×Tk)
 | 0,_=>none
 | n+1,l=>match au sa l with
   | some r=>(cN r).bind λa=>(au [59] a.2).bind λr=>(jI n r).map λq=>(a.1::q.1,q.2)
   | none=>some ([],l)
def iS (aL:Bool) (l:Tk):Option (dh×Tk):=(cN l).bind λa=>(au [40] a.2).bind λr=>(iC (r.length+1) true r).bind λps=>(jI (ps.2.length+1) ps.2).bind λls=>(eP 6 ls.2).map λb=>(⟨a.1,aL,ps.1,ls.1,b.1⟩,b.2)
def ly:Nat->Bool->Tk->Option ((List dh×Bool)×Tk)
 | 0,_,_=>none
 | n+1,aL,l=>match au qh l with
   | some r=>(iS aL r).bind λp=>(ly n (dt p.2).1 (dt p.2).2).map λq=>((p.1::q.1.1,q.1.2),q.2)
   | none=>some (([],aL),l)
def j1:Nat->Tk->Option (List Tx×Tk)
 | 0,_=>none
 | n+1,l=>match au qg l with
   | some r=>(cN r).bind λa=>(au [59] a.2).bind λr=>(j1 n r).map λq=>(a.1::q.1,q.2)
   | none=>some ([],l)
def lz (l:Tk):Option (aD×Tk):=(au vF l).bind λr=>(cN r).bind λa=>(au [123] a.2).bind λr=>(j1 (r.length+1) r).bind λu=>
 (lx ((dt u.2).2.length+1) (dt u.2).1 (dt u.2).2).bind λd=>(ly (d.2.length+1) d.1.2 d.2).bind λp=>if p.1.2=true then none else
 (au gJ p.2).bind λr=>(eP 6 r).bind λb=>(au [125] b.2).map λr=>(⟨a.1,u.1,d.1.1,p.1.1,b.1⟩,r)
def gy (l:Tk):Prop:=∀t ∈ l,PE t
def eW (l:Tk) (ws:List Tx) (r:Tk):Prop:=gy l/\l=ws.map bl++r
theorem eW.ok {l r:Tk} {ws:List Tx} (h:eW l ws r):gy r:=λt ht=>h.1 t (by rw [h.2]; exact List.mem_append_right _ ht)
theorem eW.trans {l r q:Tk} {a b:List Tx} (h:eW l a r) (k:eW r b q):eW l (a++b) q:=⟨h.1,by rw [h.2,k.2]; simp⟩
theorem eW.nil {l:Tk} (h:gy l):eW l [] l:=⟨h,rfl⟩
theorem eW.cast {l r:Tk} {a b:List Tx} (h:eW l a r) (e:a=b):eW l b r:=e▸h
theorem eD {s:Tx} {l r:Tk} (hl:gy l) (hs:s≠[]) (h:au s l=some r):eW l [s] r:=by
 cases l with
 | nil=>cases h
 | cons t q=>
   simp only [au] at h
   split at h
   · rename_i ht
     injection h with h
     subst h;simp only [beq_iff_eq] at ht;refine ⟨hl,?_⟩;have aJ:=hl t (by simp)
     have e:n0 t=s:=by
       unfold n0;rw [if_neg]
       · exact ht
       · intro hk
         have:=aJ.2;unfold jT at this;rw [if_neg (by omega),if_pos hk] at this;simp [ht,hs] at this
     simp [<-e,JR aJ]
   · cases h
theorem tR {l r:Tk} {a:Tx} (hl:gy l) (h:cN l=some (a,r)):eW l [a] r/\dL a=true:=by
 cases l with
 | nil=>cases h
 | cons t q=>
   unfold cN kW at h;dsimp only at h
   by_cases hk:t.kind=1
   · rw [if_pos hk] at h
     simp only [Option.bind_some] at h
     split at h
     · rename_i hn
       injection h with h
       injection h with h1 h2
       subst h1 h2;refine ⟨⟨hl,?_⟩,hn⟩;have aJ:=hl t (by simp)
       have e:n0 t=t.text:=by rw [n0,if_neg (by omega)]
       rw [<-e];simp [JR aJ]
     · cases h
   · rw [if_neg hk] at h; cases h
theorem PL {l r:Tk} {n:Int} (hl:gy l) (h:jZ l=some (n,r)):eW l [Lib.itoa n] r:=by
 cases l with
 | nil=>cases h
 | cons t q=>
   unfold jZ kW at h;dsimp only at h
   by_cases hk:t.kind=2
   · rw [if_pos hk] at h
     simp only [Option.map_some] at h
     injection h with h
     injection h with h1 h2
     subst h1 h2;refine ⟨hl,?_⟩;have aJ:=hl t (by simp)
     have e:n0 t=Lib.itoa t.n:=by rw [n0,if_pos hk]
     rw [<-e];simp [JR aJ]
   · rw [if_neg hk] at h; cases h
theorem PM {l r:Tk} {mod nm:Tx} (hl:gy l) (h:jo l=some ((mod,nm),r)):eW l (iQ mod nm) r:=by
 unfold jo at h;obtain ⟨⟨a,q⟩,h1,h2⟩:=Option.bind_eq_some_iff.1 h;obtain ⟨e1,n1⟩:=tR hl h1;simp only at h2
 cases hd:au [46] q with
 | none=>
   rw [hd] at h2;simp only [Option.some.injEq,Prod.mk.injEq] at h2;obtain ⟨⟨rfl,rfl⟩,rfl⟩:=h2;exact e1
 | some q2=>
   rw [hd] at h2;obtain ⟨⟨b,q3⟩,h3,h4⟩:=Option.map_eq_some_iff.1 h2;simp only [Prod.mk.injEq] at h4;obtain ⟨⟨rfl,rfl⟩,rfl⟩:=h4;have e2:=eD e1.ok (by simp) hd;obtain ⟨e3,n3⟩:=tR e2.ok h3;refine ((e1.trans e2).trans e3).cast ?_;unfold iQ;rw [if_neg]
   · rfl
   · intro hm
     simp only [beq_iff_eq] at hm;subst hm;simp [dL,dB] at n1
def Sound (pe:Tk->Option (az×Tk)):Prop:=∀l x r,gy l->pe l=some (x,r)->eW l (eO x) r
theorem PN {pe:Tk->Option (az×Tk)} (hp:Sound pe):∀(n:Nat) (l:Tk) (xs:List az) (r:Tk),gy l->kB pe n l=some (xs,r)->eW l (gg (dn xs)++[[41]]) r
 | 0,_,_,_,_,h=>by cases h
 | n+1,l,xs,r,hl,h=>by
   unfold kB at h;obtain ⟨⟨x,q⟩,h1,h2⟩:=Option.bind_eq_some_iff.1 h;have e1:=hp l x q hl h1;simp only at h2
   cases hd:au [41] q with
   | some q2=>
     rw [hd] at h2;simp only [Option.some.injEq,Prod.mk.injEq] at h2;obtain ⟨rfl,rfl⟩:=h2;exact e1.trans (eD e1.ok (by simp) hd)
   | none=>
     rw [hd] at h2;simp only at h2
     cases hc:au [44] q with
     | none=>rw [hc] at h2; cases h2
     | some q2=>
       rw [hc] at h2;obtain ⟨⟨ys,q3⟩,h3,h4⟩:=Option.map_eq_some_iff.1 h2;simp only [Prod.mk.injEq] at h4;obtain ⟨rfl,rfl⟩:=h4;have e2:=eD e1.ok (by simp) hc;have e3:=PN hp n q2 ys q3 e2.ok h3;refine ((e1.trans e2).trans e3).cast ?_
       cases ys with
       | nil=>exfalso; cases n with
         | zero=>cases h3
         | succ n=>
           unfold kB at h3;obtain ⟨⟨y,q4⟩,_,h5⟩:=Option.bind_eq_some_iff.1 h3;simp only at h5
           split at h5
           · simp at h5
           · split at h5
             · obtain ⟨z,_,h6⟩:=Option.map_eq_some_iff.1 h5
               simp at h6
             · cases h5
       | cons y ys=>simp [dn,gg]
theorem X8 {pe:Tk->Option (az×Tk)} (hp:Sound pe) {l r q:Tk} {xs:List az} (hl:gy l) (hq:au [40] l=some q) (h:j0 pe q=some (xs,r)):eW l (tL (dn xs)) r:=by
 have e0:=eD hl (by simp) hq;unfold j0 at h
 cases hd:au [41] q with
 | some q2=>
   rw [hd] at h;simp only [Option.some.injEq,Prod.mk.injEq] at h;obtain ⟨rfl,rfl⟩:=h;exact e0.trans (eD e0.ok (by simp) hd)
 | none=>
   rw [hd] at h;exact (e0.trans (PN hp _ q xs r e0.ok h)).cast (by simp [tL])
theorem X9:∀(ws:List Tx) (i:Nat) (l r:Tk) (k:Nat),gy l->(∀w ∈ ws,w≠[])->nD ws i l=some (k,r)->∃j,k=i+j/\∃w,ws[j]? = some w/\eW l [w] r
 | [],_,_,_,_,_,_,h=>by cases h
 | w::ws,i,l,r,k,hl,hw,h=>by
   unfold nD at h
   cases hd:au w l with
   | some q=>
     rw [hd] at h;simp only [Option.some.injEq,Prod.mk.injEq] at h;obtain ⟨rfl,rfl⟩:=h;exact ⟨0,O,w,O,eD hl (hw w (by simp)) hd⟩
   | none=>
     rw [hd] at h;obtain ⟨j,h1,v,h2,h3⟩:=X9 ws (i+1) l r k hl (λv hv=>hw v (List.mem_cons_of_mem _ hv)) h;exact ⟨j+1,by omega,v,by simpa using h2,h3⟩
theorem X' (op n:Int) (mod nm:Tx) (args:List az):eO (.mk op n mod nm args)=ox op n mod nm (dn args):=by rw [eO]
theorem aji {pe:Tk->Option (az×Tk)} (hp:Sound pe) {l r q:Tk} {x:az} (hl:gy l) (hq:au [40] l=some q) (h:l8 pe q=some (x,r)):eW l (eO x) r:=by
 have e0:=eD hl (by simp) hq;unfold l8 at h;obtain ⟨⟨a,q1⟩,h1,h2⟩:=Option.bind_eq_some_iff.1 h;obtain ⟨⟨o,q2⟩,h3,h4⟩:=Option.bind_eq_some_iff.1 h2;obtain ⟨⟨b,q3⟩,h5,h6⟩:=Option.bind_eq_some_iff.1 h4;obtain ⟨q4,h7,h8⟩:=Option.map_eq_some_iff.1 h6;simp only [Prod.mk.injEq] at h8;obtain ⟨rfl,rfl⟩:=h8;have e1:=hp q a q1 e0.ok h1;obtain ⟨j,hj,w,hw,e2⟩:=X9 opsL 0 q1 q2 o e1.ok (by decide) h3;have e3:=hp q2 b q3 e2.ok h5;have e4:=eD e3.ok (by simp) h7;refine ((((e0.trans e1).trans e2).trans e3).trans e4).cast ?_
 obtain rfl:o=j:=by omega
 have av:o<9:=(List.getElem?_eq_some_iff.1 hw).1
 have gD:zH (7+(o:Int))=w:=by
   unfold zH;rw [show ((7+(o:Int))-7).toNat=o by omega,hw]; rfl
 rw [X',ox,if_neg (by omega),if_neg (by omega),if_neg (by omega),if_neg (by omega),if_neg (by omega),if_neg (by omega),gD];simp [dn,at_]
theorem ajj {pe:Tk->Option (az×Tk)} (hp:Sound pe) {l l0 r:Tk} {mod nm:Tx} {x:az} (h0:eW l0 (iQ mod nm) l) (h:mH pe mod nm l=some (x,r)):eW l0 (eO x) r:=by
 unfold mH at h
 cases hd:au [91] l with
 | some q=>
   rw [hd] at h;obtain ⟨⟨y,q1⟩,h1,h2⟩:=Option.bind_eq_some_iff.1 h;obtain ⟨q2,h3,h4⟩:=Option.map_eq_some_iff.1 h2;simp only [Prod.mk.injEq] at h4;obtain ⟨rfl,rfl⟩:=h4;have e1:=eD h0.ok (by simp) hd;have e2:=hp q y q1 e1.ok h1;have e3:=eD e2.ok (by simp) h3;exact (((h0.trans e1).trans e2).trans e3).cast (by simp [eO,ox,dn,at_])
 | none=>
   rw [hd] at h;simp only at h
   cases hc:au [40] l with
   | some q=>
     rw [hc] at h;obtain ⟨⟨xs,q1⟩,h1,h2⟩:=Option.map_eq_some_iff.1 h;simp only [Prod.mk.injEq] at h2;obtain ⟨rfl,rfl⟩:=h2;exact (h0.trans (X8 hp h0.ok hc h1)).cast (by simp [eO,ox])
   | none=>
     rw [hc] at h;simp only [Option.some.injEq,Prod.mk.injEq] at h;obtain ⟨rfl,rfl⟩:=h;exact h0.cast (by simp [eO,ox])
theorem ajk {pe:Tk->Option (az×Tk)} (hp:Sound pe):Sound (kC pe):=by
 intro l x r hl h;unfold kC at h
 cases hd:au xX l with
 | some q=>
   rw [hd] at h;simp only [Option.some.injEq,Prod.mk.injEq] at h;obtain ⟨rfl,rfl⟩:=h;exact (eD hl (by decide) hd).cast (by simp [eO,ox])
 | none=>
   rw [hd] at h;simp only at h
   cases hn:au [33] l with
   | some q=>
     rw [hn] at h;obtain ⟨⟨y,q1⟩,h1,h2⟩:=Option.map_eq_some_iff.1 h;simp only [Prod.mk.injEq] at h2;obtain ⟨rfl,rfl⟩:=h2;have e1:=eD hl (by simp) hn;exact (e1.trans (hp q y q1 e1.ok h1)).cast (by simp [eO,ox,dn,at_])
   | none=>
     rw [hn] at h;simp only at h
     cases hc:au [40] l with
     | some q=>rw [hc] at h; exact aji hp hl hc h
     | none=>
       rw [hc] at h;obtain ⟨⟨⟨mod,nm⟩,q⟩,h1,h2⟩:=Option.bind_eq_some_iff.1 h;exact ajj hp (PM hl h1) h2
theorem Cy:∀f,Sound (bI f)
 | 0=>λ_ _ _ _ h=>by cases h
 | f+1=>by
   intro l x r hl h
   cases l with
   | nil=>cases h
   | cons t q=>
     unfold bI at h
     by_cases hk:t.kind=2
     · simp only [if_pos hk,Option.some.injEq,Prod.mk.injEq] at h
       obtain ⟨rfl,rfl⟩:=h;refine ⟨hl,?_⟩;have aJ:=hl t (by simp)
       have e:n0 t=Lib.itoa t.n:=by rw [n0,if_pos hk]
       have e2:eO (az.mk 1 t.n [] [] [])=[Lib.itoa t.n]:=by simp [eO,ox]
       rw [e2,<-e];simp [JR aJ]
     · simp only [if_neg hk] at h
       exact ajk (Cy f) _ x r hl h
end Go.Bw
end
section
namespace Go.Bw
open Go
theorem tV (op:Int) (mod nm:Tx) (args:List az) (body other:List aH):l7 (.mk op mod nm args body other)=nC op mod nm (dn args) (gW body) other.length (gW other):=by rw [l7]
theorem ajl {l r:Tk} {s:aH} (hl:gy l) (h:dV l=some (s,r)):∃ws,l7 s=ws++[[59]]/\eW l ws r:=by
 have hp:=Cy 6;unfold dV at h
 cases h1:au dT l with
 | some q=>
   rw [h1] at h;obtain ⟨⟨x,q1⟩,h2,h3⟩:=Option.map_eq_some_iff.1 h;simp only [Prod.mk.injEq] at h3;obtain ⟨rfl,rfl⟩:=h3;have e1:=eD hl (by decide) h1;exact ⟨[dT]++eO x,by simp [tV,nC,dn,at_],e1.trans (hp q x q1 e1.ok h2)⟩
 | none=>
   rw [h1] at h;simp only at h
   cases h2:au dU l with
   | some q=>
     rw [h2] at h;obtain ⟨⟨x,q1⟩,h3,h4⟩:=Option.map_eq_some_iff.1 h;simp only [Prod.mk.injEq] at h4;obtain ⟨rfl,rfl⟩:=h4;have e1:=eD hl (by decide) h2;exact ⟨[dU]++eO x,by simp [tV,nC,dn,at_],e1.trans (hp q x q1 e1.ok h3)⟩
   | none=>
     rw [h2] at h;obtain ⟨⟨⟨mod,nm⟩,q⟩,h3,h4⟩:=Option.bind_eq_some_iff.1 h;have e0:=PM hl h3;simp only at h4
     cases h5:au [40] q with
     | some q1=>
       rw [h5] at h4;obtain ⟨⟨xs,q2⟩,h6,h7⟩:=Option.map_eq_some_iff.1 h4;simp only [Prod.mk.injEq] at h7;obtain ⟨rfl,rfl⟩:=h7;exact ⟨iQ mod nm++tL (dn xs),by simp [tV,nC],e0.trans (X8 hp e0.ok h5 h6)⟩
     | none=>
       rw [h5] at h4;simp only at h4
       cases h6:au [91] q with
       | some q1=>
         rw [h6] at h4;obtain ⟨⟨i,q2⟩,h7,h8⟩:=Option.bind_eq_some_iff.1 h4;obtain ⟨q3,h9,gF⟩:=Option.bind_eq_some_iff.1 h8;obtain ⟨q4,qa,qj⟩:=Option.bind_eq_some_iff.1 gF;obtain ⟨⟨x,q5⟩,jq,ph⟩:=Option.map_eq_some_iff.1 qj;simp only [Prod.mk.injEq] at ph;obtain ⟨rfl,rfl⟩:=ph;have e1:=eD e0.ok (by simp) h6;have e2:=hp _ _ _ e1.ok h7;have e3:=eD e2.ok (by simp) h9;have e4:=eD e3.ok (by simp) qa;have e5:=hp _ _ _ e4.ok jq;exact ⟨iQ mod nm++[[91]]++eO i++[[93],[61]]++eO x,by simp [tV,nC,dn,at_],(((((e0.trans e1).trans e2).trans e3).trans e4).trans e5).cast (by simp)⟩
       | none=>
         rw [h6] at h4;obtain ⟨q1,h7,h8⟩:=Option.bind_eq_some_iff.1 h4;obtain ⟨⟨x,q2⟩,h9,gF⟩:=Option.map_eq_some_iff.1 h8;simp only [Prod.mk.injEq] at gF;obtain ⟨rfl,rfl⟩:=gF;have e1:=eD e0.ok (by simp) h7;have e2:=hp _ _ _ e1.ok h9;exact ⟨iQ mod nm++[[61]]++eO x,by simp [tV,nC,dn,at_],(e0.trans e1).trans e2⟩
def PO (pb:Tk->Option (List aH×Tk)):Prop:=∀l x r,gy l->pb l=some (x,r)->eW l (lv x) r
theorem PQ {pb:Tk->Option (List aH×Tk)} (hb:PO pb) {l r:Tk} {s:aH} (hl:gy l) (h:dC pb l=some (s,r)):eW l (l7 s) r:=by
 have hp:=Cy 6;unfold dC at h
 cases h1:au ed l with
 | some q=>
   rw [h1] at h;obtain ⟨⟨x,q1⟩,h2,h3⟩:=Option.bind_eq_some_iff.1 h;obtain ⟨⟨b,q2⟩,h4,h5⟩:=Option.bind_eq_some_iff.1 h3;have e1:=eD hl (by decide) h1;have e2:=hp _ _ _ e1.ok h2;have e3:=hb _ _ _ e2.ok h4;simp only at h5
   cases h6:au dS q2 with
   | some q3=>
     rw [h6] at h5;obtain ⟨⟨o,q4⟩,h7,h8⟩:=Option.bind_eq_some_iff.1 h5;simp only at h8
     split at h8
     · cases h8
     · rename_i ho
       simp only [Option.some.injEq,Prod.mk.injEq] at h8;obtain ⟨rfl,rfl⟩:=h8;have e4:=eD e3.ok (by decide) h6;have e5:=hb _ _ _ e4.ok h7;refine ((((e1.trans e2).trans e3).trans e4).trans e5).cast ?_;rw [tV];simp only [nC,Int.reduceEq,or_false,true_or,if_true,if_false];rw [if_pos (by omega)];simp [dn,at_,lv]
   | none=>
     rw [h6] at h5;simp only [Option.some.injEq,Prod.mk.injEq] at h5;obtain ⟨rfl,rfl⟩:=h5;exact ((e1.trans e2).trans e3).cast (by simp [tV,nC,dn,at_,lv])
 | none=>
   rw [h1] at h;simp only at h
   cases h2:au ee l with
   | some q=>
     rw [h2] at h;obtain ⟨⟨x,q1⟩,h3,h4⟩:=Option.bind_eq_some_iff.1 h;obtain ⟨⟨b,q2⟩,h5,h6⟩:=Option.map_eq_some_iff.1 h4;simp only [Prod.mk.injEq] at h6;obtain ⟨rfl,rfl⟩:=h6;have e1:=eD hl (by decide) h2;have e2:=hp _ _ _ e1.ok h3;have e3:=hb _ _ _ e2.ok h5;exact ((e1.trans e2).trans e3).cast (by simp [tV,nC,dn,at_,lv])
   | none=>
     rw [h2] at h;obtain ⟨⟨s',q⟩,h3,h4⟩:=Option.bind_eq_some_iff.1 h;obtain ⟨q1,h5,h6⟩:=Option.map_eq_some_iff.1 h4;simp only [Prod.mk.injEq] at h6;obtain ⟨rfl,rfl⟩:=h6;obtain ⟨ws,e1,e2⟩:=ajl hl h3;exact (e2.trans (eD e2.ok (by simp) h5)).cast e1.symm
theorem X_ {ps:Tk->Option (aH×Tk)} (hp:∀l x r,gy l->ps l=some (x,r)->eW l (l7 x) r):∀(n:Nat) (l:Tk) (xs:List aH) (r:Tk),gy l->mI ps n l=some (xs,r)->eW l (gW xs++[[125]]) r
 | 0,_,_,_,_,h=>by cases h
 | n+1,l,xs,r,hl,h=>by
   unfold mI at h
   cases hd:au [125] l with
   | some q=>
     rw [hd] at h;simp only [Option.some.injEq,Prod.mk.injEq] at h;obtain ⟨rfl,rfl⟩:=h;exact (eD hl (by simp) hd).cast (by simp [gW])
   | none=>
     rw [hd] at h;obtain ⟨⟨s,q⟩,h1,h2⟩:=Option.bind_eq_some_iff.1 h;obtain ⟨⟨ys,q1⟩,h3,h4⟩:=Option.map_eq_some_iff.1 h2;simp only [Prod.mk.injEq] at h4;obtain ⟨rfl,rfl⟩:=h4;have e1:=hp l s q hl h1;exact (e1.trans (X_ hp n q ys q1 e1.ok h3)).cast (by simp [gW])
theorem Fx:∀f,PO (eP f)
 | 0=>λ_ _ _ _ h=>by cases h
 | f+1=>by
   intro l x r hl h;unfold eP at h;obtain ⟨q,h1,h2⟩:=Option.bind_eq_some_iff.1 h;have e1:=eD hl (by simp) h1;exact (e1.trans (X_ (λl x r hl h=>PQ (Fx f) hl h) _ q x r e1.ok h2)).cast (by simp [lv,qi])
def sf (d:bM):List Tx:=tO d++[[59]]
theorem Yc {aL:Bool} {l r:Tk} {d:bM} (hl:gy l) (h:ef aL l=some (some d,r)):eW l (sf d) r/\d.aL=aL:=by
 unfold ef at h
 cases h1:au jl l with
 | some q=>
   rw [h1] at h;obtain ⟨⟨a,q1⟩,h2,h3⟩:=Option.bind_eq_some_iff.1 h;obtain ⟨q2,h4,h5⟩:=Option.bind_eq_some_iff.1 h3;obtain ⟨⟨n,q3⟩,h6,h7⟩:=Option.bind_eq_some_iff.1 h5;obtain ⟨q4,h8,h9⟩:=Option.map_eq_some_iff.1 h7;simp only [Prod.mk.injEq,Option.some.injEq] at h9;obtain ⟨rfl,rfl⟩:=h9;have e1:=eD hl (by decide) h1;have e2:=(tR e1.ok h2).1;have e3:=eD e2.ok (by simp) h4;have e4:=PL e3.ok h6;have e5:=eD e4.ok (by simp) h8;exact ⟨((((e1.trans e2).trans e3).trans e4).trans e5).cast (by simp [sf,tO]),O⟩
 | none=>
   rw [h1] at h;simp only at h
   cases h2:au jm l with
   | some q=>
     rw [h2] at h;obtain ⟨⟨a,q1⟩,h3,h4⟩:=Option.bind_eq_some_iff.1 h;obtain ⟨q2,h5,h6⟩:=Option.map_eq_some_iff.1 h4;simp only [Prod.mk.injEq,Option.some.injEq] at h6;obtain ⟨rfl,rfl⟩:=h6;have e1:=eD hl (by decide) h2;have e2:=(tR e1.ok h3).1;have e3:=eD e2.ok (by simp) h5;exact ⟨((e1.trans e2).trans e3).cast (by simp [sf,tO]),O⟩
   | none=>
     rw [h2] at h;simp only at h
     cases h3:au jn l with
     | some q=>
       rw [h3] at h;obtain ⟨⟨a,q1⟩,h4,h5⟩:=Option.bind_eq_some_iff.1 h;obtain ⟨q2,h6,h7⟩:=Option.bind_eq_some_iff.1 h5;obtain ⟨⟨n,q3⟩,h8,h9⟩:=Option.bind_eq_some_iff.1 h7;obtain ⟨q4,gF,qa⟩:=Option.bind_eq_some_iff.1 h9;obtain ⟨q5,qj,jq⟩:=Option.map_eq_some_iff.1 qa;simp only [Prod.mk.injEq,Option.some.injEq] at jq;obtain ⟨rfl,rfl⟩:=jq;have e1:=eD hl (by decide) h3;have e2:=(tR e1.ok h4).1;have e3:=eD e2.ok (by simp) h6;have e4:=PL e3.ok h8;have e5:=eD e4.ok (by simp) gF;have e6:=eD e5.ok (by simp) qj;exact ⟨(((((e1.trans e2).trans e3).trans e4).trans e5).trans e6).cast (by simp [sf,tO]),O⟩
     | none=>
       rw [h3] at h;simp at h
theorem PR {aL:Bool} {l r:Tk} (h:ef aL l=some (none,r)):r=l:=by
 unfold ef at h
 split at h
 · obtain ⟨_,_,h⟩:=Option.bind_eq_some_iff.1 h
   obtain ⟨_,_,h⟩:=Option.bind_eq_some_iff.1 h;obtain ⟨_,_,h⟩:=Option.bind_eq_some_iff.1 h;obtain ⟨_,_,h⟩:=Option.map_eq_some_iff.1 h;simp at h
 · split at h
   · obtain ⟨_,_,h⟩:=Option.bind_eq_some_iff.1 h
     obtain ⟨_,_,h⟩:=Option.map_eq_some_iff.1 h;simp at h
   · split at h
     · obtain ⟨_,_,h⟩:=Option.bind_eq_some_iff.1 h
       obtain ⟨_,_,h⟩:=Option.bind_eq_some_iff.1 h;obtain ⟨_,_,h⟩:=Option.bind_eq_some_iff.1 h;obtain ⟨_,_,h⟩:=Option.bind_eq_some_iff.1 h;obtain ⟨_,_,h⟩:=Option.map_eq_some_iff.1 h;simp at h
     · simp at h; exact h.symm
theorem Ye:∀(n:Nat) (first:Bool) (l:Tk) (xs:List Tx) (r:Tk),gy l->iC n first l=some (xs,r)->eW l ((if first=true\/xs=[] then [] else [[44]])++gg (xs.map λs=>[s])++[[41]]) r
 | 0,_,_,_,_,_,h=>by cases h
 | n+1,first,l,xs,r,hl,h=>by
   unfold iC at h
   cases hd:au [41] l with
   | some q=>
     rw [hd] at h;simp only [Option.some.injEq,Prod.mk.injEq] at h;obtain ⟨rfl,rfl⟩:=h;exact (eD hl (by simp) hd).cast (by simp [gg])
   | none=>
     rw [hd] at h;obtain ⟨l1,h1,h2⟩:=Option.bind_eq_some_iff.1 h;obtain ⟨⟨a,q⟩,h3,h4⟩:=Option.bind_eq_some_iff.1 h2;obtain ⟨⟨ys,q1⟩,h5,h6⟩:=Option.map_eq_some_iff.1 h4;simp only [Prod.mk.injEq] at h6;obtain ⟨rfl,rfl⟩:=h6
     have e0:eW l (if first=true then [] else [[44]]) l1:=by
       cases first with
       | true=>
         simp only [if_true,Option.some.injEq] at h1;subst h1; exact eW.nil hl
       | false=>exact eD hl (by simp) h1
     have e1:=(tR e0.ok h3).1;have e2:=Ye n false q ys q1 e1.ok h5;refine ((e0.trans e1).trans e2).cast ?_
     cases ys with
     | nil=>cases first<;>simp [gg]
     | cons y ys=>cases first<;>simp [gg]
theorem Yg:∀(n:Nat) (l:Tk) (xs:List Tx) (r:Tk),gy l->jI n l=some (xs,r)->eW l (xs.flatMap sd) r
 | 0,_,_,_,_,h=>by cases h
 | n+1,l,xs,r,hl,h=>by
   unfold jI at h
   cases hd:au sa l with
   | none=>
     rw [hd] at h;simp only [Option.some.injEq,Prod.mk.injEq] at h;obtain ⟨rfl,rfl⟩:=h;exact eW.nil hl
   | some q=>
     rw [hd] at h;obtain ⟨⟨a,q1⟩,h1,h2⟩:=Option.bind_eq_some_iff.1 h;obtain ⟨q2,h3,h4⟩:=Option.bind_eq_some_iff.1 h2;obtain ⟨⟨ys,q3⟩,h5,h6⟩:=Option.map_eq_some_iff.1 h4;simp only [Prod.mk.injEq] at h6;obtain ⟨rfl,rfl⟩:=h6;have e1:=eD hl (by decide) hd;have e2:=(tR e1.ok h1).1;have e3:=eD e2.ok (by simp) h3;exact (((e1.trans e2).trans e3).trans (Yg n q2 ys q3 e3.ok h5)).cast (by simp [sd])
def vG (p:dh):List Tx:=[p.nm,[40]]++gg (p.params.map λs=>[s])++[[41]]++p.ay.flatMap sd++lv p.body
theorem Yh {aL:Bool} {l r:Tk} {p:dh} (hl:gy l) (h:iS aL l=some (p,r)):eW l (vG p) r/\p.aL=aL:=by
 unfold iS at h;obtain ⟨⟨a,q1⟩,h1,h2⟩:=Option.bind_eq_some_iff.1 h;obtain ⟨q2,h3,h4⟩:=Option.bind_eq_some_iff.1 h2;obtain ⟨⟨ps,q3⟩,h5,h6⟩:=Option.bind_eq_some_iff.1 h4;obtain ⟨⟨ls,q4⟩,h7,h8⟩:=Option.bind_eq_some_iff.1 h6;obtain ⟨⟨b,q5⟩,h9,gF⟩:=Option.map_eq_some_iff.1 h8;simp only [Prod.mk.injEq] at gF;obtain ⟨rfl,rfl⟩:=gF;have e1:=(tR hl h1).1;have e2:=eD e1.ok (by simp) h3;have e3:=Ye _ _ _ _ _ e2.ok h5;have e4:=Yg _ _ _ _ e3.ok h7;have e5:=Fx 6 _ _ _ e4.ok h9;exact ⟨((((e1.trans e2).trans e3).trans e4).trans e5).cast (by simp [vG]),O⟩
end Go.Bw
end
