/- LinkRight: what is linked is a right image, as long as all its objects and one more for each, and one. -/
import Derived.Ground.Names2Prog
import Derived.Ground.SlgnProg
import Derived.Lib.AtoiErrMem
import Derived.Maps.Own
import Derived.Maps.Range
import Derived.Shelf.LaysC
import Derived.Shelf.LaysM
import Derived.Shelf.Slices.Clone
import Derived.Shelf.SlicesE.Clone
import Derived.Shelf.Small.Strs
import Derived.Shelf.Strconv.Atoi
import Derived.Shelf.Strconv.AtoiAll
import Derived.Shelf.Strconv.AtoiErrFast
import Derived.Shelf.Strconv.AtoiFail
import Derived.Shelf.Strconv.AtoiInnerAll
import Derived.Shelf.Strconv.AtoiLong
import Derived.Shelf.Strconv.Clone
import Derived.Shelf.Strconv.Itoa0
import Derived.Shelf.Strconv.Itoa1
import Derived.Shelf.Strconv.Itoa2
import Derived.Shelf.Strconv.Itoa3
import Derived.Shelf.Strconv.Lower
import Derived.Shelf.Strconv.ParseInt10
import Derived.Shelf.Strconv.ParseIntEmpty
import Derived.Shelf.Strconv.ParseUint10
import Derived.Shelf.Strconv.ParseUint10Any
import Derived.Shelf.Strconv.ParseUint10Empty
import Derived.Shelf.Strconv.RangeError
import Derived.Shelf.Strconv.SyntaxError
import Derived.Shelf.Strconv.ToError
import Derived.Shelf.Strconv.ToErrorRange
import Derived.Shelf.Strings.Builder1
import Derived.Shelf.Strings.Search1
import Derived.Sort.KeysCollected
import Derived.Test.YtplfmnkmlaolpaaGreatDoorProg
import Derived.Test.YtplfmnkmlaolpaaGreatDoorRows
import Derived.Test.YtplfmnkmlaolpaaGreatDoorR1
set_option linter.unusedVariables false
set_option linter.unusedSimpArgs false
section
namespace Go.Bw
open Go Go.RowKit
section
variable {P:Program} {ops:Array Oper} {C:World->Prop} {Q:Exit->Act->World->Prop} {n:Nat} {ds:List Deferred} {l:List (Nat×Value)} {W:World->Prop}
theorem adU {a:Act} {l2:List (Nat×Value)} {o:Oper} {r:List Oper} (hs:kZ ops l (o::r)=some l2) (ha:Ag n ds l a) :
   ∃d,o.dst=some d/\Region.wanted o (yielded ops a.tmps)=false/\kZ ops ((d,undef)::l) r=some l2:=by
 simp only [kZ] at hs
 cases hg:o.guard with
 | none=>simp [hg] at hs
 | some jb=>
   obtain ⟨j,b⟩:=jb
   cases hd:o.dst with
   | none=>simp [hg,hd] at hs
   | some d=>
     simp only [hg,hd] at hs
     cases hj:(ops[j]?).bind (·.dst) with
     | none=>simp [hj] at hs
     | some dj=>
       simp only [hj] at hs
       cases hl:lk l dj with
       | none=>simp [hl] at hs
       | some v=>
         simp only [hl] at hs;have hv:=ha.fy dj v hl
         cases v with
         | bool b'=>
           cases hb:(b' != b) with
           | false=>simp [hb] at hs
           | true=>
             simp only [hb,cond_true] at hs;refine ⟨d,O,?_,hs⟩;have tV:=S3 ha hl (.inl (by simp [undef]))
             have hy:yielded ops a.tmps j=some b':=by simp [yielded,hj,tV]
             simp only [Region.wanted,hg,hy]
             cases b<;>cases b'<;>first | rfl | (simp at hb)
         | tuple vs=>
           refine ⟨d,O,?_,hs⟩
           have hy:yielded ops a.tmps j=none:=by
             simp only [yielded,hj,Option.bind_some];rw [Array.getD_eq_getD_getElem?] at hv
             cases ht:a.tmps[dj]? with
             | none=>rfl
             | some u=>simp [ht] at hv; simp [hv]
           simp [Region.wanted,hg,hy]
         | _=>simp at hs
def opsOf (ops:Array Oper):List (Nat×Bool)->Option (List Oper)
 | []=>some []
 | (i,_)::r=>match ops[i]?,opsOf ops r with
   | some o,some t=>some (o::t)
   | _,_=>none
theorem WD.Mg {gs rest:List (Nat×Bool)}:∀{os:List Oper} {l2 l:List (Nat×Value)},opsOf ops gs=some os->kZ ops l os=some l2->sj n os=true->(∀w,W w->C w)->(∀a w,Ag n ds l2 a->W w->np P ops C Q rest a w)->
   ∀a w,Ag n ds l a->W w->np P ops C Q (gs++rest) a w:=by
 induction gs with
 | nil=>
   intro os l2 l ho hs _ _ h a w ha hw
   injection ho with ho
   subst ho;simp [kZ] at hs; subst hs; exact h a w ha hw
 | cons p r ih=>
   obtain ⟨i,q⟩:=p;intro os l2 l ho hs eZ hC h a w ha hw;unfold opsOf at ho
   cases hi:ops[i]? with
   | none=>rw [hi] at ho; cases ho
   | some o=>
     cases ht:opsOf ops r with
     | none=>rw [hi,ht] at ho; cases ho
     | some t=>
       rw [hi,ht] at ho
       injection ho with ho
       subst ho;obtain ⟨d,hd,M0,Hg⟩:=adU hs ha;simp only [sj,List.all_cons,Bool.and_eq_true] at eZ
       have Mh:Nat.blt d n=true:=by have:=eZ.1; rw [hd] at this; exact this
       have we:=ih ht Hg eZ.2 hC h (a.put (some d) undef) w (ha.put Mh undef) hw
       cases q with
       | true=>exact ⟨hC w hw,o,undef,hi,.inr ⟨M0,rfl⟩,by rw [hd]; exact we⟩
       | false=>
         refine ⟨hC w hw,?_⟩;unfold wpOp;simp only [hi,M0,Bool.false_eq_true,if_false];rw [hd];exact we
theorem adV {i:Nat} {K K':Act->World->Prop} {Kx:Act->World->Prop} (hk:∀a w,K a w->K' a w) {a:Act} {w:World} (h:wpOp P ops (Exit.then Kx Q) i K a w):wpOp P ops Q i K' a w:=by
 unfold wpOp at h ⊢
 cases hi:ops[i]? with
 | none=>simp only [hi] at h ⊢; exact hk _ _ h
 | some o=>
   simp only [hi] at h ⊢
   split
   · rename_i hw
     rw [if_pos hw] at h
     rcases h with h | ⟨h1,a2,w2,h2⟩
     · left
       unfold Oper.wp at h ⊢;unfold Oper.upon at h ⊢
       split at h
       all_goals first
         | exact hk _ _ h
         | exact h
         | (refine h.mono λe w' he=>?_
            cases e with
            | returned v=>exact hk _ _ he
            | panicked ch=>exact he
            | outgrown=>obtain ⟨a3,w3,h3⟩:=he; exact ⟨a3,w3,h3⟩)
         | exact h.mono λv w' he=>hk _ _ he
     · exact .inr ⟨h1,a2,w2,h2⟩
   · rename_i hw
     rw [if_neg hw] at h;exact hk _ _ h
theorem Gi {l':List (Nat×Value)} {dx:Nat} {x:Value} (m:Nat) (hC:∀w,W w->C w) (hx:lk l' dx=some x) (hd:l'.drop m=l) (hf:pg (l'.take m) l=true):WD P ops C (sk Q n ds l W dx x) n ds l' W []:=
 λ_ w ha hw=>⟨hC w hw,⟨ha.Hf m hd hf,ha.fy _ _ hx⟩,hw⟩
theorem adW {gs rest:List (Nat×Bool)} {dx:Nat} {x:Value} (hK:∀a w,(Ag n ds l a/\a.tmps.getD dx undef=x)/\W w->np P ops C Q rest a w):∀(a:Act) (w:World),np P ops C (sk Q n ds l W dx x) gs a w->np P ops C Q (gs++rest) a w:=by
 induction gs with
 | nil=>intro a w h; exact hK a w h.2
 | cons p r ih=>
   obtain ⟨i,q⟩:=p;intro a w h
   cases q with
   | true=>obtain ⟨h1,o,v,h2,h3,h4⟩:=h; exact ⟨h1,o,v,h2,h3,ih _ _ h4⟩
   | false=>exact ⟨h.1,adV (λa w h=>ih a w h) h.2⟩
theorem WD.C1 (m:Nat) {ord:List (Nat×Bool)} {os:List Oper} {ip dj dp dx:Nat} (want:Bool) {c x:Bool} {a b:Operand} {ty:TypeId} {pos:String} {af:Array Edge} {g:Option (Nat×Bool)} {l2:List (Nat×Value)}
   (hm:ord[m]? = some (ip,true)) (hp:ops[ip]? = some ⟨some dp,.pick (.tmp dj) a b,ty,pos,af,g⟩) (xT:opsOf ops (ord.take m)=some os) (hb:lk l dj=some (.bool c)) (eZ:sj n os=true)
   (hg:cB ops l g) (qx:Nat.blt dp n=true) (hC:∀w,W w->C w)
   (fK:(a,b)=(bif want then (Operand.tmp dx,Operand.const (.bool false)) else (Operand.const (.bool true),Operand.tmp dx)))
   (hF:kZ ops ((dj,.bool (!want))::l) os=some l2) (qy:l2.drop m=(dj,.bool (!want))::l) (qz:pg (l2.take m) ((dj,.bool (!want))::l)=true)
   (hT:c=want->WD P ops C (sk Q n ds ((dj,.bool want)::l) W dx (.bool x)) n ds ((dj,.bool want)::l) W (ord.take m))
   (h:WD P ops C Q n ds ((dp,.bool (bif want then c&&x else c||x))::l) W (ord.drop (m+1))):WD P ops C Q n ds l W ord:=by
 intro a0 w ha hw
 have adX:ord=ord.take m++(ip,true)::ord.drop (m+1):=by
   obtain ⟨aw,he⟩:=List.getElem?_eq_some_iff.1 hm;rw [<-he,List.getElem_cons_drop aw,List.take_append_drop]
 rw [adX]
 have pick:∀(a':Act) (w':World) (r:Bool),Ag n ds l a'->W w'->(if c then a'.eval a else a'.eval b) = .bool r->r=(bif want then c&&x else c||x)->
     np P ops C Q ((ip,true)::ord.drop (m+1)) a' w':=by
   intro a' w' r cN dE hv hr;refine ⟨hC w' dE,_,.bool r,hp,.inl ⟨cB.wanted (o:=⟨some dp,.pick (.tmp dj) a b,ty,pos,af,g⟩) hg cN,λw2 _=>?_⟩,h _ _ (by rw [<-hr]; exact cN.put qx _) dE⟩;have h1:a'.eval (.tmp dj) = .bool c:=cN.fy dj _ hb;simp only [execOp,h1,asBool,Sem.run_bind,Sem.run_pure,Result.andThen_ok,hv]
 by_cases hc:c=want
 · refine adW (l:=(dj,.bool want)::l) (W:=W) (dx:=dx) (x:=.bool x) (λa' w' hq=>?_) _ _ (hT hc a0 w (ha.known (by rw [<-hc]; exact hb)) hw)
   obtain ⟨⟨cN,hx⟩,dE⟩:=hq;refine pick a' w' x (cN.Hh (by rw [<-hc]; exact hb)) dE ?_ ?_
   · subst hc
     cases c
     · simp at fK; obtain ⟨rfl,rfl⟩:=fK; exact hx
     · simp at fK; obtain ⟨rfl,rfl⟩:=fK; exact hx
   · subst hc; cases c<;>rfl
 · have mj:c = !want:=by cases c<;>cases want<;>first | rfl | exact absurd rfl hc
   refine WD.Mg xT hF eZ hC (λa' w' cN dE=>?_) a0 w (ha.known (by rw [<-mj]; exact hb)) hw;have t_:Ag n ds l a':=(cN.Hf m qy qz).Hh (by rw [<-mj]; exact hb);refine pick a' w' c t_ dE ?_ ?_
   · subst mj
     cases want
     · simp at fK; obtain ⟨rfl,rfl⟩:=fK; rfl
     · simp at fK; obtain ⟨rfl,rfl⟩:=fK; rfl
   · subst mj; cases want<;>rfl
theorem WD.and (m:Nat) {ord:List (Nat×Bool)} {os:List Oper} {ip dj dp dx:Nat} {c x:Bool} {a b:Operand} {ty:TypeId} {pos:String} {af:Array Edge} {g:Option (Nat×Bool)} {l2:List (Nat×Value)}
   (hm:ord[m]? = some (ip,true)) (hp:ops[ip]? = some ⟨some dp,.pick (.tmp dj) a b,ty,pos,af,g⟩) (xT:opsOf ops (ord.take m)=some os) (hb:lk l dj=some (.bool c)) (eZ:sj n os=true)
   (hg:cB ops l g) (qx:Nat.blt dp n=true) (hC:∀w,W w->C w) (fK:(a,b)=(Operand.tmp dx,Operand.const (.bool false)))
   (hF:kZ ops ((dj,.bool false)::l) os=some l2) (qy:l2.drop m=(dj,.bool false)::l) (qz:pg (l2.take m) ((dj,.bool false)::l)=true)
   (hT:c=true->WD P ops C (sk Q n ds ((dj,.bool true)::l) W dx (.bool x)) n ds ((dj,.bool true)::l) W (ord.take m))
   (h:WD P ops C Q n ds ((dp,.bool (c&&x))::l) W (ord.drop (m+1))):WD P ops C Q n ds l W ord:=
 WD.C1 m true hm hp xT hb eZ hg qx hC fK hF qy qz hT h
theorem WD.or (m:Nat) {ord:List (Nat×Bool)} {os:List Oper} {ip dj dp dx:Nat} {c x:Bool} {a b:Operand} {ty:TypeId} {pos:String} {af:Array Edge} {g:Option (Nat×Bool)} {l2:List (Nat×Value)}
   (hm:ord[m]? = some (ip,true)) (hp:ops[ip]? = some ⟨some dp,.pick (.tmp dj) a b,ty,pos,af,g⟩) (xT:opsOf ops (ord.take m)=some os) (hb:lk l dj=some (.bool c)) (eZ:sj n os=true)
   (hg:cB ops l g) (qx:Nat.blt dp n=true) (hC:∀w,W w->C w) (fK:(a,b)=(Operand.const (.bool true),Operand.tmp dx))
   (hF:kZ ops ((dj,.bool true)::l) os=some l2) (qy:l2.drop m=(dj,.bool true)::l) (qz:pg (l2.take m) ((dj,.bool true)::l)=true)
   (hT:c=false->WD P ops C (sk Q n ds ((dj,.bool false)::l) W dx (.bool x)) n ds ((dj,.bool false)::l) W (ord.take m))
   (h:WD P ops C Q n ds ((dp,.bool (c||x))::l) W (ord.drop (m+1))):WD P ops C Q n ds l W ord:=
 WD.C1 m false hm hp xT hb eZ hg qx hC fK hF qy qz hT h
end
section
variable {P:Program} {l:List (Nat×Value)} {W:World->Prop} {d:Option Tmp} {ty:TypeId} {pos:String} {af:Array Edge} {g:Option (Nat×Bool)}
theorem Ug {t u:TypeId} {x y:Operand} {k:IntKind} {a b:Int} (hx:aB l x=some (.int k a)) (hy:aB l y=some (.int k b)) (h:a=b):Yl P l W ⟨d,.binOp .neq t x y u,ty,pos,af,g⟩ (.bool false):=by
 subst h;have:=jq (P:=P) (W:=W) (d:=d) (ty:=ty) (pos:=pos) (af:=af) (g:=g) (t:=t) (u:=u) hx hy
 rwa [show (a != a)=false by simp] at this
theorem sw {t u:TypeId} {x y:Operand} {k:IntKind} {a b:Int} (hx:aB l x=some (.int k a)) (hy:aB l y=some (.int k b)) (h:a=b):Yl P l W ⟨d,.binOp .eql t x y u,ty,pos,af,g⟩ (.bool true):=by
 subst h;have:=aG (P:=P) (W:=W) (d:=d) (ty:=ty) (pos:=pos) (af:=af) (g:=g) (t:=t) (u:=u) hx hy
 rwa [show (a==a)=true by simp] at this
theorem WD.wk {ops:Array Oper} {C:World->Prop} {Q:Exit->Act->World->Prop} {n:Nat} {ds:List Deferred} {W':World->Prop} {rest:List (Nat×Bool)} (hW:∀w,W w->W' w) (h:WD P ops C Q n ds l W' rest):WD P ops C Q n ds l W rest:=λa w ha hw=>h a w ha (hW w hw)
end
open Go.ChangeShapes Go.WideShapes Go.ChangeAt Go.RowKit Go.Joins Go.Deep
structure AO (H:Type) where
 B:DataW H->Nat
 BA:List (DataW H)->Nat
 str:∀l:List UInt8,B (.lit (.string l))=l.length+1
 agg:∀l,B (.agg l)=BA l+1
 sl:∀l r,BA l+1<=B (.slice l r)
 nil:BA []=0
 cons:∀d r,BA (d::r)=B d+BA r
theorem AO.at_ {H:Type} (K:AO H) {l:List (DataW H)}:∀{i:Nat} {d:DataW H},l[i]? = some d->K.B d<=K.BA l:=by
 induction l with
 | nil=>intro i d h; cases h
 | cons y r ih=>
   intro i d h;rw [K.cons]
   cases i with
   | zero=>simp at h; subst h; omega
   | succ i=>have:=ih (i:=i) (by simpa using h); omega
section
variable {P:Program} {H:Type} {enc:TypeId×Value->H} {w:World} {base:Nat} {spare:Nat->Bool} {held:Bool} (K:AO H)
theorem M1 {t:TypeId} {fs:Array Field} {fuel:Nat} {cs:List Value} {x:DataW H×List MemPlace} (hu:P.underlying t=some (.struct fs)) (hr:(jt P 0 fs.toList&&Nat.beq (P.cellsOf t) fs.size)=true) (h:DataW.trod enc P w base spare held fuel t cs=some x) :
   cs.length=fs.size/\∃(ys:List (DataW H×List MemPlace)) (n:Nat),fuel=n+1/\x.1 = .agg (ys.map (·.1))/\ys.length=fs.size/\∀(j:Nat) (f:Field),fs[j]? = some f->∃v y,cs[j]? = some v/\ys[j]? = some y/\DataW.trod enc P w base spare held n f.type [v]=some y:=by
 simp only [Bool.and_eq_true] at hr;obtain ⟨ys,n,hn,hx,hlen,yf,hf⟩:=DataW.trod_struct hu h;have hl:cs.length=fs.size:=hlen.trans (Nat.eq_of_beq_eq_true hr.2);refine ⟨hl,ys,n,hn,by rw [hx],yf,λj f hj=>?_⟩;have aw:j<fs.size:=(Array.getElem?_eq_some_iff.1 hj).1;obtain ⟨h1,h2⟩:=Ts 0 fs.toList j f hr.1 (by simpa using hj);have g:=hf j f hj;have e1:cs[j]? = some cs[j]:=List.getElem?_eq_getElem (by omega);have e2:ys[j]? = some ys[j]:=List.getElem?_eq_getElem (by omega);rw [h1,h2,Nat.zero_add,e2,List.drop_eq_getElem_cons (by omega)] at g;exact ⟨_,_,e1,e2,by simpa only [List.take_succ_cons,List.take_zero] using g⟩
theorem Uh {t:TypeId} {fuel:Nat} {v:Value} {x:DataW H×List MemPlace} (hu:P.underlying t=some .string) (h:DataW.trod enc P w base spare held fuel t [v]=some x):∃l:List UInt8,v=st l/\K.B x.1=l.length+1:=by
 obtain ⟨s,e,hx,_⟩:=DataW.trod_string hu h
 injection e with e _
 subst e;exact ⟨s.data.toList,by simp [st],by rw [hx]; exact K.str _⟩
theorem Dn {α:Type} {rd:View->Nat->Nat->α->Prop} (wt:α->Nat) (ws:List α->Nat) (h0:ws []=0) (h1:∀x r,ws (x::r)=wt x+ws r) {ts e:TypeId} {k fuel:Nat} {v:Value} {x:DataW H×List MemPlace} (hu:P.underlying ts=some (.slice e)) (hc:P.cellsOf e=k) (hk:0<k) (jP:∀b,spare b=true)
   (adY:∀(n:Nat) (lO:List Value) (y:DataW H×List MemPlace),n<fuel->DataW.trod enc P w base spare held n e lO=some y->lO.length=k->∃z:α,(∀b o,aT (hv w) b o lO->rd (hv w) b o z)/\wt z<=K.B y.1)
   (h:DataW.trod enc P w base spare held fuel ts [v]=some x):∃(a:Option Addr) (c:Nat) (xs:List α),v = .slice a xs.length c/\Sl rd k (hv w) a c xs/\ws xs<=K.B x.1:=by
 rcases DataW.trod_slice hu h with ⟨e1,_⟩ | ⟨a,len,cap,elems,rest,n,hn,e1,hx,hb,hl,hm,hlen,wg,adZ,_⟩
 · injection e1 with e1 _
   exact ⟨none,0,[],e1,Sl.nil,by rw [h0]; exact Nat.zero_le _⟩
 · injection e1 with e1 _
   have Ui:0<cap->a.spot=none:=by
     intro dQ
     rcases Nat.lt_or_ge 0 len with h2 | h2
     · have g:=wg 0 h2
       obtain ⟨y,hy⟩:∃y,elems[0]? = some y:=⟨_,List.getElem?_eq_getElem (by omega)⟩;rw [hy] at g;obtain ⟨lO,im,_⟩:=Option.bind_eq_some_iff.1 g;rw [hc] at im;obtain ⟨_,x6,oA⟩:=World.cells?_some im;obtain ⟨u,At⟩:∃u,lO[0]? = some u:=⟨_,List.getElem?_eq_getElem (by omega)⟩;have:=oA 0 hk;rw [At] at this
       simpa [Addr.add] using World.cell?_spot this
     · obtain ⟨wh,Dp⟩:=adZ (jP _)
       have M3:len=0:=by omega
       have g:=Dp 0 (by omega);rw [M3] at g;obtain ⟨y,hy⟩:∃y,rest[0]? = some y:=⟨_,List.getElem?_eq_getElem (by omega)⟩;rw [hy] at g;obtain ⟨lO,im,_⟩:=Option.bind_eq_some_iff.1 g;rw [hc] at im;obtain ⟨_,x6,oA⟩:=World.cells?_some im;obtain ⟨u,At⟩:∃u,lO[0]? = some u:=⟨_,List.getElem?_eq_getElem (by omega)⟩;have:=oA 0 hk;rw [At] at this
       simpa [Addr.add] using World.cell?_spot this
   obtain ⟨xs,hxl,nt⟩:=Tr (λi (z:α)=>(∀b o,a=⟨b,o,none⟩->rd (hv w) b (o+i*k) z)/\∃y:DataW H×List MemPlace,elems[i]? = some y/\wt z<=K.B y.1) len (λi hi=>by
     have g:=wg i hi;obtain ⟨y,hy⟩:∃y,elems[i]? = some y:=⟨_,List.getElem?_eq_getElem (by omega)⟩;rw [hy] at g;obtain ⟨lO,im,ht⟩:=Option.bind_eq_some_iff.1 g;rw [hc] at im;obtain ⟨_,x6,oA⟩:=World.cells?_some im;obtain ⟨z,uf,yg⟩:=adY n lO y (by omega) ht x6;refine ⟨z,λb o fK=>uf _ _ λj v hj=>?_,y,hy,yg⟩;subst fK
     have jQ:j<k:=by have:=(List.getElem?_eq_some_iff.1 hj).1; omega
     have:=oA j jQ;rw [hj] at this;rw [qv,qv] at this
     exact My this)
   have Uj:∀(l:List α) (es:List (DataW H×List MemPlace)),l.length=es.length->(∀(i:Nat) (z:α),l[i]? = some z->∃y:DataW H×List MemPlace,es[i]? = some y/\wt z<=K.B y.1)->ws l<=K.BA (es.map (·.1)):=by
     intro l
     induction l with
     | nil=>intro es _ _; rw [h0]; exact Nat.zero_le _
     | cons z l ih=>
       intro es hle hh
       cases es with
       | nil=>cases hle
       | cons y es=>
         obtain ⟨y',AG,hz⟩:=hh 0 z rfl;simp at AG; subst AG
         have:=ih es (by simpa using hle) λi z' hz'=>by
           obtain ⟨y',AG,hz⟩:=hh (i+1) z' (by simpa using hz');exact ⟨y',by simpa using AG,hz⟩
         rw [h1,List.map_cons,K.cons];omega
   refine ⟨some a,cap,xs,by rw [e1,hxl],⟨by omega,by unfold maxLen at hm; omega,λp hp ad=>by injection hp with hp; subst hp; exact Ui ad,λi z hz=>?_⟩,?_⟩
   · have hi:i<len:=by have:=(List.getElem?_eq_some_iff.1 hz).1; omega
     have hsn:=Ui (by omega);obtain ⟨b,o,s⟩:=a;obtain rfl:s=none:=hsn;exact ⟨b,o,O,(nt i z hz).1 b o O⟩
   · have:=Uj xs elems (by omega) λi z hz=>(nt i z hz).2
     simp only [hx];have:=K.sl (elems.map (·.1)) (rest.map (·.1));omega
structure as0 (P:Program) (tE tS tD tP tM H3 AP M4 AQ lP:TypeId) (e s d p m:Array Field) (tI tB tT:TypeId):Prop where
 uI:P.underlying tI=some (.int .i64)
 uB:P.underlying tB=some .bool
 uT:P.underlying tT=some .string
 cT:P.cellsOf tT=1
 uE:P.underlying tE=some (.struct e)
 rE:(jt P 0 e.toList&&Nat.beq (P.cellsOf tE) e.size)=true
 fE:e.map (·.type) = #[tI,tI,tT,tT,H3]
 uEs:P.underlying H3=some (.slice tE)
 uS:P.underlying tS=some (.struct s)
 rS:(jt P 0 s.toList&&Nat.beq (P.cellsOf tS) s.size)=true
 fS:s.map (·.type) = #[tI,tT,tT,H3,AP,AP]
 uSs:P.underlying AP=some (.slice tS)
 uD:P.underlying tD=some (.struct d)
 rD:(jt P 0 d.toList&&Nat.beq (P.cellsOf tD) d.size)=true
 fD:d.map (·.type) = #[tI,tT,tB,tI]
 uDs:P.underlying M4=some (.slice tD)
 uP:P.underlying tP=some (.struct p)
 rP:(jt P 0 p.toList&&Nat.beq (P.cellsOf tP) p.size)=true
 fP:p.map (·.type) = #[tT,tB,lP,lP,AP]
 uPs:P.underlying AQ=some (.slice tP)
 M5:P.underlying lP=some (.slice tT)
 uM:P.underlying tM=some (.struct m)
 rM:(jt P 0 m.toList&&Nat.beq (P.cellsOf tM) m.size)=true
 fM:m.map (·.type) = #[tT,lP,M4,AQ,AP]
theorem oB {fs:Array Field} {ts:Array TypeId} (h:fs.map (·.type)=ts) {j:Nat} {t:TypeId} (ht:ts[j]? = some t):∃f,fs[j]? = some f/\f.type=t:=by
 rw [<-h,Array.getElem?_map] at ht;obtain ⟨f,h1,h2⟩:=Option.map_eq_some_iff.1 ht;exact ⟨f,h1,h2⟩
variable {tE tS tD tP tM H3 AP M4 AQ lP tI tB tT:TypeId} {e s d p m:Array Field}
theorem M6 {t:TypeId} {fs:Array Field} (hr:(jt P 0 fs.toList&&Nat.beq (P.cellsOf t) fs.size)=true):P.cellsOf t=fs.size:=by
 simp only [Bool.and_eq_true] at hr;exact Nat.eq_of_beq_eq_true hr.2
theorem AR {fs:Array Field} {ts:Array TypeId} (h:fs.map (·.type)=ts):fs.size=ts.size:=by rw [<-h]; simp
end
end Go.Bw
end
section
namespace Go.Bw
open Go
structure aV where
 kind:Int
 n:Int
 pl:Int
 name:List UInt8
deriving DecidableEq
def aV.cells (x:aV):List Value:=[.int .i64 x.kind,.int .i64 x.n,.int .i64 x.pl,st x.name]
theorem aV.a8 (x:aV):x.cells.length=4:=rfl
theorem aV.one (x:aV):x.cells.all (·.oneCell')=true:=rfl
def lQ (H:View) (b o:Nat) (x:aV):Prop:=aT H b o x.cells
theorem ad4 {H H':View} (h:aL H H') (b o:Nat) (x:aV) (r:lQ H b o x):lQ H' b o x:=aT.mono h r
def pA (x:aV):Bool:=!((((((((!(dZ x.name)||!(gP x.kind 1 4))||!(gP x.n 0 1099511627775))||!(gP x.pl 0 320))||(x.kind==1&&x.pl != 0))||(x.kind==2&&x.n != 0))||(x.kind==3&&!(gP x.n 1 32)))||(x.kind==4&&decide (3<x.n))))
theorem H9 {x:aV} {lo hi mx:Int} (h:(x.kind=1/\lo=0/\hi=1099511627775/\mx=0)\/(x.kind=2/\lo=0/\hi=0/\mx=320)\/(x.kind=3/\lo=1/\hi=32/\mx=320)\/(x.kind=4/\lo=0/\hi=3/\mx=320)) :
   ((((dZ x.name&&decide (lo<=x.n))&&decide (x.n<=hi))&&decide (0<=x.pl))&&decide (x.pl<=mx))=pA x:=by
 unfold pA
 generalize dZ x.name=b
 rw [Bool.eq_iff_iff];cases b
 · simp
 · rcases h with ⟨h,rfl,rfl,rfl⟩ | ⟨h,rfl,rfl,rfl⟩ | ⟨h,rfl,rfl,rfl⟩ | ⟨h,rfl,rfl,rfl⟩<;>simp [gP,h]<;>omega
theorem ad5 {x:aV} (h1:x.kind≠1) (h2:x.kind≠2) (h3:x.kind≠3) (h4:x.kind≠4):pA x=false:=by
 unfold pA
 have:gP x.kind 1 4=false:=by simp [gP]; omega
 simp [this]
def eo (l:List (List UInt8)):Bool:=(List.range l.length).any λi=>(List.range i).any λj=>l[i]?.getD []==l[j]?.getD []
theorem ad6 {l:List (List UInt8)} {i j:Nat} (hi:i<l.length) (hj:j<i) (h:(l[i]?.getD []==l[j]?.getD [])=true):eo l=true:=by
 unfold eo;exact List.any_eq_true.2 ⟨i,by simpa using hi,List.any_eq_true.2 ⟨j,by simpa using hj,h⟩⟩
theorem M7 {l:List (List UInt8)}:eo l=true↔∃i j,i<l.length/\j<i/\l[i]? = l[j]?:=by
 constructor
 · intro h
   unfold eo at h;obtain ⟨i,hi,h⟩:=List.any_eq_true.1 h;obtain ⟨j,hj,h⟩:=List.any_eq_true.1 h
   have hi:i<l.length:=by simpa using hi
   have hj:j<i:=by simpa using hj
   refine ⟨i,j,hi,hj,?_⟩;rw [List.getElem?_eq_getElem hi,List.getElem?_eq_getElem (by omega)] at h ⊢
   simpa using h
 · rintro ⟨i,j,hi,hj,h⟩
   exact ad6 hi hj (by rw [h]; simp)
theorem qM {l:List (List UInt8)}:l.Nodup↔eo l=false:=by
 constructor
 · intro h
   rw [Bool.eq_false_iff];intro ht;obtain ⟨i,j,hi,hj,e⟩:=M7.1 ht;have:=(List.getElem?_inj hi h).1 e;omega
 · intro h
   show List.Pairwise _ l
   rw [List.pairwise_iff_getElem];intro i j hi hj wi e;have:=M7.2 ⟨j,i,hj,wi,by rw [List.getElem?_eq_getElem hi,List.getElem?_eq_getElem hj,e]⟩;rw [h] at this; cases this
def uk (name:List UInt8) (items:List aV):Int:=
 if 16<items.length then 2 else if (items.all pA&&(!(eo (items.map (·.name))||!(dZ name))))=true then 0 else 1
theorem Uk {items:List aV} (h:∀(j:Nat) (x:aV),items[j]? = some x->pA x=true):items.all pA=true:=by
 rw [List.all_eq_true];intro x hx;obtain ⟨j,hj⟩:=List.getElem?_of_mem hx;exact h j x hj
theorem ad7 {items:List aV} {j:Nat} {x:aV} (hj:items[j]? = some x) (h:pA x=false):items.all pA=false:=by
 rw [List.all_eq_false];exact ⟨x,List.mem_of_getElem? hj,by simp [h]⟩
def oC (at_:Int) (d:bI):aV:=⟨d.kind,d.n,if d.kind=1 then 0 else at_,d.nm⟩
def mz (d:bI):Int:=if d.kind=2 then 1 else if d.kind=3 then d.n else 0
def e9:List bI->Int
 | []=>0
 | d::r=>mz d+e9 r
def jz:List bI->Int->List aV
 | [],_=>[]
 | d::r,a=>oC a d::jz r (a+mz d)
def Dr (i:Nat) (p:dC):aV:=⟨4,(p.params.length:Int),(i:Int),p.nm⟩
def mA:List dC->Nat->List aV
 | [],_=>[]
 | p::r,i=>Dr i p::mA r (i+1)
theorem Ul:∀(l:List bI) (d:bI),e9 (l++[d])=e9 l+mz d
 | [],d=>by simp [e9]
 | x::l,d=>by simp only [List.cons_append,e9,Ul l d]; omega
theorem Um:∀(l:List bI) (d:bI) (a:Int),jz (l++[d]) a=jz l a++[oC (a+e9 l) d]
 | [],d,a=>by simp [jz,e9]
 | x::l,d,a=>by
   simp only [List.cons_append,jz,Um l d,e9];rw [show a+mz x+e9 l=a+(mz x+e9 l) by omega]
theorem Un:∀(l:List dC) (p:dC) (i:Nat),mA (l++[p]) i=mA l i++[Dr (i+l.length) p]
 | [],p,i=>by simp [mA]
 | x::l,p,i=>by
   simp only [List.cons_append,mA,Un l p,List.length_cons];rw [show i+1+l.length=i+(l.length+1) by omega]
theorem H_:∀(l:List bI) (a:Int),(jz l a).length=l.length
 | [],_=>rfl
 | x::l,a=>by simp [jz,H_ l]
theorem M8:∀(l:List dC) (i:Nat),(mA l i).length=l.length
 | [],_=>rfl
 | x::l,i=>by simp [mA,M8 l]
def ec (m:bc):List aV:=jz m.decls 0++mA m.procs 0
def AS (m:bc):Int:=e9 m.decls
def oD (m:bc):List Bool:=m.decls.map (·.aR)++m.procs.map (·.aR)
theorem Ia (m:bc):(ec m).length=m.decls.length+m.procs.length:=by simp [ec,H_,M8]
theorem Ib (m:bc):(oD m).length=m.decls.length+m.procs.length:=by simp [oD]
def lR:List aV->List Bool->List aV
 | x::l,p::ps=>(if p=true then [x] else [])++lR l ps
 | _,_=>[]
theorem Uo:∀{l:List aV} {ps:List Bool} {x:aV} {p:Bool},l.length=ps.length->lR (l++[x]) (ps++[p])=lR l ps++(if p=true then [x] else [])
 | [],[],x,p,_=>by simp [lR]
 | y::l,q::ps,x,p,h=>by simp only [List.cons_append,lR,Uo (l:=l) (ps:=ps) (by simpa using h),List.append_assoc]
 | [],q::ps,x,p,h=>by simp at h
 | y::l,[],x,p,h=>by simp at h
theorem ad8 {l:List aV} {ps:List Bool} {i:Nat} {x:aV} {p:Bool} (hl:l.length=ps.length) (hx:l[i]? = some x) (hp:ps[i]? = some p):lR (l.take (i+1)) (ps.take (i+1))=lR (l.take i) (ps.take i)++(if p=true then [x] else []):=by
 rw [List.take_add_one,List.take_add_one,hx,hp];exact Uo (by simp; omega)
theorem Up:∀(l:List aV) (ps:List Bool),(lR l ps).length<=l.length
 | [],_=>by simp [lR]
 | x::l,[]=>by simp [lR]
 | x::l,p::ps=>by
   have:=Up l ps;simp only [lR,List.length_append,List.length_cons]
   split<;>simp<;>omega
def gQ (m:bc):(List UInt8×List aV)×Int:=
 if jw m≠0 then (([],[]),jw m) else if (eo ((ec m).map (·.name))||eo m.ae)=true then (([],[]),6) else ((m.nm,lR (ec m) (oD m)),0)
inductive cv where
 | mk (op n m pl:Int) (args:List cv)
inductive ck where
 | mk (op n m pl:Int) (args:List cv) (body other:List ck)
def cv.op:cv->Int | .mk o _ _ _ _=>o
def cv.n:cv->Int | .mk _ n _ _ _=>n
def cv.m:cv->Int | .mk _ _ m _ _=>m
def cv.pl:cv->Int | .mk _ _ _ p _=>p
def cv.args:cv->List cv | .mk _ _ _ _ a=>a
def ck.op:ck->Int | .mk o _ _ _ _ _ _=>o
def ck.n:ck->Int | .mk _ n _ _ _ _ _=>n
def ck.m:ck->Int | .mk _ _ m _ _ _ _=>m
def ck.pl:ck->Int | .mk _ _ _ p _ _ _=>p
def ck.args:ck->List cv | .mk _ _ _ _ a _ _=>a
def ck.body:ck->List ck | .mk _ _ _ _ _ b _=>b
def ck.other:ck->List ck | .mk _ _ _ _ _ _ o=>o
structure iJ where
 params:Int
 locals:Int
 body:List ck
structure ed where
 nm:List UInt8
 ae:List (List UInt8)
 data:Int
 parts:List iJ
 main:List ck
def jS:ed:=⟨[],[],0,[],[]⟩
def qN (e:cv) (a:Option Addr) (c:Nat):List Value:=[.int .i64 e.op,.int .i64 e.n,.int .i64 e.m,.int .i64 e.pl,.slice a e.args.length c]
def jA:Nat->View->Nat->Nat->cv->Prop
 | 0=>λ_ _ _ _=>False
 | k+1=>λH b o e=>∃a c,aT H b o (qN e a c)/\Sl (jA k) 5 H a c e.args
structure yh where
 s1:Option Addr×Nat
 s2:Option Addr×Nat
 s3:Option Addr×Nat
def um (s:ck) (r:yh):List Value:=[.int .i64 s.op,.int .i64 s.n,.int .i64 s.m,.int .i64 s.pl,.slice r.s1.1 s.args.length r.s1.2,.slice r.s2.1 s.body.length r.s2.2,.slice r.s3.1 s.other.length r.s3.2]
def gZ (ke:Nat):Nat->View->Nat->Nat->ck->Prop
 | 0=>λ_ _ _ _=>False
 | k+1=>λH b o s=>∃r:yh,aT H b o (um s r)/\Sl (jA ke) 5 H r.s1.1 r.s1.2 s.args/\Sl (gZ ke k) 7 H r.s2.1 r.s2.2 s.body/\Sl (gZ ke k) 7 H r.s3.1 r.s3.2 s.other
def AT (p:iJ) (r:Option Addr×Nat):List Value:=[.int .i64 p.params,.int .i64 p.locals,.slice r.1 p.body.length r.2]
def AU (ke ks:Nat) (H:View) (b o:Nat) (p:iJ):Prop:=∃r:Option Addr×Nat,aT H b o (AT p r)/\Sl (gZ ke ks) 7 H r.1 r.2 p.body
structure kz where
 s1:Option Addr×Nat
 s2:Option Addr×Nat
 s3:Option Addr×Nat
def eV (u:ed) (r:kz):List Value:=[st u.nm,.slice r.s1.1 u.ae.length r.s1.2,.int .i64 u.data,.slice r.s2.1 u.parts.length r.s2.2,.slice r.s3.1 u.main.length r.s3.2]
structure kA (ke ks:Nat) (H:View) (r:kz) (u:ed):Prop where
 ae:Sl rdStr 1 H r.s1.1 r.s1.2 u.ae
 parts:Sl (AU ke ks) 3 H r.s2.1 r.s2.2 u.parts
 main:Sl (gZ ke ks) 7 H r.s3.1 r.s3.2 u.main
def k8:kz:=⟨(none,0),(none,0),(none,0)⟩
theorem AV {ke ks:Nat} (H:View):kA ke ks H k8 jS:=⟨Sl.nil,Sl.nil,Sl.nil⟩
theorem M9 {H H':View} (hH:aL H H'):∀{k k':Nat},k<=k'->∀(b o:Nat) (e:cv),jA k H b o e->jA k' H' b o e
 | 0,_,_,_,_,_,h=>h.elim
 | k+1,0,hk,_,_,_,_=>absurd hk (by omega)
 | k+1,k'+1,hk,b,o,e,h=>by
   obtain ⟨a,c,h1,h2⟩:=h;exact ⟨a,c,aT.mono hH h1,h2.imp λb o x hx=>M9 hH (by omega) b o x hx⟩
theorem Ic {H H':View} (hH:aL H H') {ke my:Nat} (qL:ke<=my):∀{k k':Nat},k<=k'->∀(b o:Nat) (e:ck),gZ ke k H b o e->gZ my k' H' b o e
 | 0,_,_,_,_,_,h=>h.elim
 | k+1,0,hk,_,_,_,_=>absurd hk (by omega)
 | k+1,k'+1,hk,b,o,e,h=>by
   obtain ⟨r,h1,h2,h3,h4⟩:=h;exact ⟨r,aT.mono hH h1,h2.imp λb o x hx=>M9 hH qL b o x hx,h3.imp λb o x hx=>Ic hH qL (by omega) b o x hx,h4.imp λb o x hx=>Ic hH qL (by omega) b o x hx⟩
theorem ad9 {H H':View} (hH:aL H H') {ke my ks v8:Nat} (qL:ke<=my) (MT:ks<=v8) (b o:Nat) (p:iJ) (h:AU ke ks H b o p):AU my v8 H' b o p:=by
 obtain ⟨r,h1,h2⟩:=h;exact ⟨r,aT.mono hH h1,h2.imp λb o x hx=>Ic hH qL MT b o x hx⟩
theorem Ie {H N:View} {k c:Nat} {a:Option Addr} {l:List cv} (h:Sl (jA k) 5 H a c l) (hv:aL H N):Sl (jA k) 5 N a c l:=h.imp λb o x hx=>M9 hv (Nat.le_refl _) b o x hx
theorem yi {H N:View} {ke k c:Nat} {a:Option Addr} {l:List ck} (h:Sl (gZ ke k) 7 H a c l) (hv:aL H N):Sl (gZ ke k) 7 N a c l:=h.imp λb o x hx=>Ic hv (Nat.le_refl _) (Nat.le_refl _) b o x hx
theorem ad' {H N:View} {ke k c:Nat} {a:Option Addr} {l:List iJ} (h:Sl (AU ke k) 3 H a c l) (hv:aL H N):Sl (AU ke k) 3 N a c l:=h.imp λb o x hx=>ad9 hv (Nat.le_refl _) (Nat.le_refl _) b o x hx
theorem kA.mv {ke ks:Nat} {H N:View} {r:kz} {u:ed} (h:kA ke ks H r u) (hv:aL H N):kA ke ks N r u:=⟨h.ae.imp λb o x hx=>AJ hv b o x hx,ad' h.parts hv,yi h.main hv⟩
def Xs {X:Type} (R:View->X->Prop) (J:View) (es:List X):Prop:=∀e ∈ es,R J e
theorem Xs.nil {X:Type} {R:View->X->Prop} (J:View):Xs R J []:=by intro e h; simp at h
theorem Xs.mono {X:Type} {R:View->X->Prop} (hm:∀{A B:View} {x:X},aL A B->R A x->R B x) {J J':View} {es:List X} (h:Xs R J es) (hv:aL J J'):Xs R J' es:=λe he=>hm hv (h e he)
theorem Xs.snoc {X:Type} {R:View->X->Prop} (hm:∀{A B:View} {x:X},aL A B->R A x->R B x) {J J1 J2:View} {es:List X} {e:X} (h:Xs R J es) (h1:aL J J2) (h2:aL J1 J2) (he:R J1 e):Xs R J2 (es++[e]):=by
 intro x hx
 rcases List.mem_append.1 hx with hx | hx
 · exact hm h1 (h x hx)
 · rw [List.mem_singleton] at hx
   subst hx;exact hm h2 he
theorem AW {X T:Type} {t:X->T} {Ur:View->Nat->Nat->X->Prop} {rd:View->Nat->Nat->T->Prop} {R:View->X->Prop} {k:Nat} {H J N:View} {c:Nat} {a:Option Addr} {es:List X} (h:Sl Ur k H a c es) (mB:Xs R J es)
   (hj:∀b o e,Ur H b o e->R J e->rd N b o (t e)):Sl rd k N a c (es.map t):=by
 refine ⟨by simpa using h.cap,h.max,h.spot,λi x hx=>?_⟩;rw [List.getElem?_map] at hx;obtain ⟨e,he,rfl⟩:=Option.map_eq_some_iff.1 hx;obtain ⟨b,o,h1,h2⟩:=h.aZ i e he;exact ⟨b,o,h1,hj b _ e h2 (mB e (List.mem_of_getElem? he))⟩
abbrev XN:=cv×Option Addr×Nat
def XN.cells (e:XN):List Value:=qN e.1 e.2.1 e.2.2
theorem XN.a8 (e:XN):(XN.cells e).length=5:=rfl
theorem XN.one (e:XN):(XN.cells e).all (·.oneCell')=true:=rfl
def Us (H:View) (b o:Nat) (e:XN):Prop:=aT H b o (XN.cells e)
def sx (k:Nat) (J:View) (e:XN):Prop:=Sl (jA k) 5 J e.2.1 e.2.2 e.1.args
theorem sx.mv {k:Nat} {A B:View} {e:XN} (hv:aL A B) (h:sx k A e):sx k B e:=Ie h hv
theorem ad_ {k:Nat} {H J N:View} {c:Nat} {a:Option Addr} {es:List XN} (h:Sl Us 5 H a c es) (hv:aL H N) (hJ:aL J N) (mB:Xs (sx k) J es):Sl (jA (k+1)) 5 N a c (es.map (·.1)):=
 AW h mB λb o e h1 h2=>⟨e.2.1,e.2.2,aT.mono hv h1,sx.mv hJ h2⟩
abbrev XA:=ck×yh
def XA.cells (e:XA):List Value:=um e.1 e.2
theorem XA.a8 (e:XA):(XA.cells e).length=7:=rfl
theorem XA.one (e:XA):(XA.cells e).all (·.oneCell')=true:=rfl
def Ut (H:View) (b o:Nat) (e:XA):Prop:=aT H b o (XA.cells e)
structure pB (ke k:Nat) (N:View) (e:XA):Prop where
 args:Sl (jA ke) 5 N e.2.s1.1 e.2.s1.2 e.1.args
 body:Sl (gZ ke k) 7 N e.2.s2.1 e.2.s2.2 e.1.body
 other:Sl (gZ ke k) 7 N e.2.s3.1 e.2.s3.2 e.1.other
theorem pB.mv {ke k:Nat} {A B:View} {e:XA} (hv:aL A B) (h:pB ke k A e):pB ke k B e:=⟨Ie h.args hv,yi h.body hv,yi h.other hv⟩
theorem aea {ke k:Nat} {H J N:View} {c:Nat} {a:Option Addr} {es:List XA} (h:Sl Ut 7 H a c es) (hv:aL H N) (hJ:aL J N) (mB:Xs (pB ke k) J es):Sl (gZ ke (k+1)) 7 N a c (es.map (·.1)):=
 AW h mB λb o e h1 h2=>⟨e.2,aT.mono hv h1,(pB.mv hJ h2).args,(pB.mv hJ h2).body,(pB.mv hJ h2).other⟩
abbrev XP:=iJ×Option Addr×Nat
def XP.cells (e:XP):List Value:=AT e.1 e.2
theorem XP.a8 (e:XP):(XP.cells e).length=3:=rfl
theorem XP.one (e:XP):(XP.cells e).all (·.oneCell')=true:=rfl
def Uu (H:View) (b o:Nat) (e:XP):Prop:=aT H b o (XP.cells e)
def wj (ke k:Nat) (J:View) (e:XP):Prop:=Sl (gZ ke k) 7 J e.2.1 e.2.2 e.1.body
theorem wj.mv {ke k:Nat} {A B:View} {e:XP} (hv:aL A B) (h:wj ke k A e):wj ke k B e:=yi h hv
theorem aeb {ke k:Nat} {H J N:View} {c:Nat} {a:Option Addr} {es:List XP} (h:Sl Uu 3 H a c es) (hv:aL H N) (hJ:aL J N) (mB:Xs (wj ke k) J es):Sl (AU ke k) 3 N a c (es.map (·.1)):=
 AW h mB λb o e h1 h2=>⟨e.2,aT.mono hv h1,wj.mv hJ h2⟩
open Go.ChangeShapes Go.WideShapes Go.ChangeAt Go.RowKit Go.Joins Go.Deep
structure as4 (P:Program) (tI tT tX Uv tF uo:TypeId) (x f:Array Field):Prop where
 uI:P.underlying tI=some (.int .i64)
 uT:P.underlying tT=some .string
 uX:P.underlying tX=some (.struct x)
 rX:(jt P 0 x.toList&&Nat.beq (P.cellsOf tX) x.size)=true
 fX:x.map (·.type) = #[tI,tI,tI,tT]
 uXs:P.underlying Uv=some (.slice tX)
 uF:P.underlying tF=some (.struct f)
 rF:(jt P 0 f.toList&&Nat.beq (P.cellsOf tF) f.size)=true
 fF:f.map (·.type) = #[tT,Uv]
 Uw:P.underlying uo=some (.slice tF)
end Go.Bw
end
section
namespace Go.Bw
open Go
structure cW where
 av:List (List UInt8)
 own:List aV
 ae:List (List UInt8)
 wm:List (List aV)
def idxOf (nm:List UInt8):List (List UInt8)->Nat->Option Nat
 | [],_=>none
 | s::r,i=>if s=nm then some i else idxOf nm r (i+1)
def fp (nm:List UInt8):List aV->Option aV
 | []=>none
 | x::r=>if x.name=nm then some x else fp nm r
def nD (mod nm:List UInt8):List (List UInt8)->List (List aV)->Nat->Option (Int×aV)
 | u::us,f::fs,k=>if u=mod then (match fp nm f with | some x=>some (((k+1:Nat):Int),x) | none=>nD mod nm us fs (k+1)) else nD mod nm us fs (k+1)
 | _,_,_=>none
def M' (i:Nat):aV:=⟨0,0,(i:Int),[]⟩
def fq (σ:cW) (mod nm:List UInt8):Option (Int×aV):=
 if mod=[] then (match idxOf nm σ.av 0 with
   | some i=>some (-1,M' i)
   | none=>(fp nm σ.own).map λx=>(0,x))
 else nD mod nm σ.ae σ.wm 0
def er (a b:Int):Int:=if a=0 then b else a
theorem mC (b:Int):er 0 b=b:=rfl
theorem aec (a:Int):er a 0=a:=by unfold er; split<;>simp_all
theorem aed (a b c:Int):er (er a b) c=er a (er b c):=by unfold er; split<;>simp_all
theorem Ux {a b:Int}:er a b=0↔a=0/\b=0:=by unfold er; split<;>simp_all
theorem uq {a b:Int} (h:a≠0):er a b=a:=by unfold er; rw [if_neg h]
structure RN where
 op:Int
 n:Int
 m:Int
 pl:Int
 e:Int
def cw (σ:cW) (op n:Int) (mod nm:List UInt8) (len:Nat):RN:=
 if gP op 3 5=true then (match fq σ mod nm with
   | none=>⟨op,n,0,0,5⟩
   | some (m,it)=>
     if m = -1 then ⟨16,n,0,it.pl,if op=3 then 0 else 7⟩
     else if op=3/\it.kind=1 then ⟨1,it.n,0,0,0⟩
     else if op=3/\it.kind=2 then ⟨op,n,m,it.pl,0⟩
     else if op=4/\it.kind=3 then ⟨op,it.n,m,it.pl,0⟩
     else if op=5/\it.kind=4 then ⟨op,n,m,it.pl,if it.n=(len:Int) then 0 else 8⟩
     else ⟨op,n,0,0,7⟩)
 else ⟨op,n,0,0,0⟩
def dh (σ:cW) (op:Int) (mod nm:List UInt8) (len:Nat):RN:=
 if gP op 1 3=true then (match fq σ mod nm with
   | none=>⟨op,0,0,0,5⟩
   | some (m,it)=>
     if op=1/\(m = -1\/it.kind=2) then ⟨op,0,m,it.pl,0⟩
     else if m = -1 then ⟨op,0,0,0,7⟩
     else if op=2/\it.kind=3 then ⟨op,it.n,m,it.pl,0⟩
     else if op=3/\it.kind=4 then ⟨op,0,m,it.pl,if it.n=(len:Int) then 0 else 8⟩
     else ⟨op,0,0,0,7⟩)
 else ⟨op,0,0,0,0⟩
mutual
def pC (σ:cW):ax->cv
 | .mk op n mod nm args=>.mk (cw σ op n mod nm args.length).op (cw σ op n mod nm args.length).n (cw σ op n mod nm args.length).m (cw σ op n mod nm args.length).pl (lS σ args)
def lS (σ:cW):List ax->List cv
 | []=>[]
 | x::r=>pC σ x::lS σ r
end
mutual
def jB (σ:cW):ax->Int
 | .mk op n mod nm args=>er (cw σ op n mod nm args.length).e (g_ σ args)
def g_ (σ:cW):List ax->Int
 | []=>0
 | x::r=>er (jB σ x) (g_ σ r)
end
mutual
def pD (σ:cW):aP->ck
 | .mk op mod nm args body other=>.mk (dh σ op mod nm args.length).op (dh σ op mod nm args.length).n (dh σ op mod nm args.length).m (dh σ op mod nm args.length).pl (lS σ args) (iw σ body) (iw σ other)
def iw (σ:cW):List aP->List ck
 | []=>[]
 | x::r=>pD σ x::iw σ r
end
mutual
def iK (σ:cW):aP->Int
 | .mk op mod nm args body other=>er (dh σ op mod nm args.length).e (er (g_ σ args) (er (dV σ body) (dV σ other)))
def dV (σ:cW):List aP->Int
 | []=>0
 | x::r=>er (iK σ x) (dV σ r)
end
theorem aee (σ:cW) (x:ax):pC σ x = .mk (cw σ x.op x.n x.mod x.nm x.args.length).op (cw σ x.op x.n x.mod x.nm x.args.length).n (cw σ x.op x.n x.mod x.nm x.args.length).m (cw σ x.op x.n x.mod x.nm x.args.length).pl (lS σ x.args):=by
 cases x; rw [pC]; rfl
theorem AX (σ:cW) (x:ax):jB σ x=er (cw σ x.op x.n x.mod x.nm x.args.length).e (g_ σ x.args):=by cases x; rw [jB]; rfl
theorem aef (σ:cW) (x:aP):pD σ x = .mk (dh σ x.op x.mod x.nm x.args.length).op (dh σ x.op x.mod x.nm x.args.length).n (dh σ x.op x.mod x.nm x.args.length).m (dh σ x.op x.mod x.nm x.args.length).pl (lS σ x.args) (iw σ x.body) (iw σ x.other):=by
 cases x; rw [pD]; rfl
theorem wo (σ:cW) (x:aP):iK σ x=er (dh σ x.op x.mod x.nm x.args.length).e (er (g_ σ x.args) (er (dV σ x.body) (dV σ x.other))):=by cases x; rw [iK]; rfl
theorem Uy (σ:cW):∀l,lS σ l=l.map (pC σ)
 | []=>by rw [lS]; rfl
 | x::r=>by rw [lS,Uy σ r]; rfl
theorem Uz (σ:cW):∀l,iw σ l=l.map (pD σ)
 | []=>by rw [iw]; rfl
 | x::r=>by rw [iw,Uz σ r]; rfl
def hP {α:Type} (f:α->Int):List α->Int
 | []=>0
 | x::r=>er (f x) (hP f r)
theorem M_ {α:Type} (f:α->Int):∀a b:List α,hP f (a++b)=er (hP f a) (hP f b)
 | [],b=>rfl
 | x::a,b=>by simp only [List.cons_append,hP,M_ f a b,aed]
theorem Na {α:Type} (f:α->Int) {l:List α} {i:Nat} {x:α} (h:l[i]? = some x):hP f (l.take (i+1))=er (hP f (l.take i)) (f x):=by
 rw [List.take_add_one,h,M_]
 show er _ (er (f x) 0)=_
 rw [aec]
theorem Ds {α:Type} (f:α->Int) {l:List α} {i:Nat} {x:α} (h:l[i]? = some x) (h0:hP f (l.take i)=0) (hx:f x≠0):hP f l=f x:=by
 have e:l=l.take i++l.drop i:=(List.take_append_drop i l).symm;rw [e,M_,h0,mC]
 have hd:l.drop i=x::l.drop (i+1):=by
   obtain ⟨aw,hx'⟩:=List.getElem?_eq_some_iff.1 h;rw [List.drop_eq_getElem_cons aw,hx']
 rw [hd,hP,uq hx]
theorem Nb (σ:cW):∀l,g_ σ l=hP (jB σ) l
 | []=>by rw [g_]; rfl
 | x::r=>by rw [g_,Nb σ r]; rfl
theorem Nc (σ:cW):∀l,dV σ l=hP (iK σ) l
 | []=>by rw [dV]; rfl
 | x::r=>by rw [dV,Nc σ r]; rfl
def gx (m:bc) (fs:List (List UInt8×List aV)) (av:List (List UInt8)):cW:=⟨av,ec m,m.ae,fs.map (·.2)⟩
def Dt (m:bc) (fs:List (List UInt8×List aV)) (p:dC):iJ:=⟨(p.params.length:Int),(p.av.length:Int),iw (gx m fs (p.params++p.av)) p.body⟩
def sy (m:bc) (fs:List (List UInt8×List aV)) (p:dC):Int:=er (if eo (p.params++p.av)=true then 6 else 0) (dV (gx m fs (p.params++p.av)) p.body)
def AY (m:bc) (fs:List (List UInt8×List aV)):ed:=⟨m.nm,m.ae,AS m,m.procs.map (Dt m fs),iw (gx m fs []) m.main⟩
def pE (m:bc) (fs:List (List UInt8×List aV)):Int:=er (hP (sy m fs) m.procs) (dV (gx m fs []) m.main)
def qO:List (List UInt8)->List (List UInt8×List aV)->Bool
 | u::us,f::fs=>((uk f.1 f.2==0)&&(f.1==u))&&qO us fs
 | _,_=>true
def cD (m:bc) (fs:List (List UInt8×List aV)):ed×Int:=
 if (gQ m).2≠0 then (jS,(gQ m).2) else if fs.length≠m.ae.length then (jS,8) else if qO m.ae fs=false then (jS,1)
 else if pE m fs≠0 then (jS,pE m fs) else (AY m fs,0)
def gR (l:List aV) (s:Nat):List (cV (List UInt8)):=match l with
 | []=>[]
 | x::r=>(x.name,.agg x.cells.toArray,s)::gR r (s+1)
def fQ (l:List (List UInt8)) (s:Nat):List (cV (List UInt8)):=match l with
 | []=>[]
 | x::r=>(x,.int .i64 ((s+1:Nat):Int),s)::fQ r (s+1)
theorem UA:∀(l:List aV) (x:aV) (s:Nat),gR (l++[x]) s=gR l s++[(x.name,.agg x.cells.toArray,s+l.length)]
 | [],x,s=>rfl
 | y::r,x,s=>by
   rw [List.cons_append,gR,UA r x,gR,List.cons_append,List.length_cons,show s+1+r.length=s+(r.length+1) by omega]
theorem UB:∀(l:List (List UInt8)) (x:List UInt8) (s:Nat),fQ (l++[x]) s=fQ l s++[(x,.int .i64 ((s+l.length+1:Nat):Int),s+l.length)]
 | [],x,s=>rfl
 | y::r,x,s=>by
   rw [List.cons_append,fQ,UB r x,fQ,List.cons_append,List.length_cons,show s+1+r.length=s+(r.length+1) by omega]
theorem Nd (nm:List UInt8):∀(l:List aV) (s i:Nat),(bG nm (gR l s) i).map (·.2)=(fp nm l).map λx=>.agg x.cells.toArray
 | [],_,_=>rfl
 | x::r,s,i=>by
   rw [gR,bG,fp]
   by_cases h:x.name=nm
   · simp [h]
   · rw [if_neg (by simpa using λe=>h e.symm),if_neg h]
     exact Nd nm r (s+1) (i+1)
theorem Nf (nm:List UInt8):∀(l:List (List UInt8)) (s i:Nat),(bG nm (fQ l s) i).map (·.2)=(idxOf nm l s).map λk=>.int .i64 ((k+1:Nat):Int)
 | [],_,_=>rfl
 | x::r,s,i=>by
   rw [fQ,bG,idxOf]
   by_cases h:x=nm
   · simp [h]
   · rw [if_neg (by simpa using λe=>h e.symm),if_neg h]
     exact Nf nm r (s+1) (i+1)
theorem UC (nm:List UInt8) (l:List aV) (z:Value):dU nm (gR l 0) z=(match fp nm l with | some x=>.agg x.cells.toArray | none=>z)/\ow nm (gR l 0)=(fp nm l).isSome:=by
 have h:=Nd nm l 0 0;unfold dU ow
 cases hf:bG nm (gR l 0) 0 with
 | none=>rw [hf] at h; cases hi:fp nm l with | none=>exact ⟨rfl,rfl⟩ | some x=>rw [hi] at h; cases h
 | some r=>rw [hf] at h; cases hi:fp nm l with
   | none=>rw [hi] at h; cases h
   | some x=>rw [hi] at h; simp at h; exact ⟨by simp [h],rfl⟩
theorem aeh (nm:List UInt8) (l:List (List UInt8)):dU nm (fQ l 0) (.int .i64 0) = .int .i64 (match idxOf nm l 0 with | some k=>((k+1:Nat):Int) | none=>0):=by
 have h:=Nf nm l 0 0;unfold dU
 cases hf:bG nm (fQ l 0) 0 with
 | none=>rw [hf] at h; cases hi:idxOf nm l 0 with | none=>rfl | some x=>rw [hi] at h; cases h
 | some r=>rw [hf] at h; cases hi:idxOf nm l 0 with
   | none=>rw [hi] at h; cases h
   | some x=>rw [hi] at h; simp at h; simp [h]
theorem UD {nm:List UInt8}:∀{l:List aV},fp nm l=none↔nm ∉ l.map (·.name)
 | []=>by simp [fp]
 | x::r=>by
   rw [fp]
   by_cases h:x.name=nm
   · simp [h]
   · rw [if_neg h,UD (l:=r)]
     simp [Ne.symm h,eq_comm,h]
theorem AZ {nm:List UInt8}:∀{l:List (List UInt8)} {s:Nat},idxOf nm l s=none↔nm ∉ l
 | [],_=>by simp [idxOf]
 | x::r,s=>by
   rw [idxOf]
   by_cases h:x=nm
   · simp [h]
   · rw [if_neg h,AZ (l:=r)]
     simp only [List.mem_cons,not_or];exact ⟨λhr=>⟨λe=>h e.symm,hr⟩,λhr=>hr.2⟩
theorem aei {l:List aV} {x:aV} (h:x.name ∉ l.map (·.name)):dN x.name (.agg x.cells.toArray) (gR l 0) l.length=gR (l++[x]) 0/\jc x.name (gR l 0) l.length=(l++[x]).length:=by
 have hf:bG x.name (gR l 0) 0=none:=by
   have:=Nd x.name l 0 0;rw [UD.2 h] at this
   simpa using this
 unfold dN jc;rw [hf,UA];simp
theorem UE {l:List (List UInt8)} {x:List UInt8} (h:x ∉ l):dN x (.int .i64 ((l.length+1:Nat):Int)) (fQ l 0) l.length=fQ (l++[x]) 0/\jc x (fQ l 0) l.length=(l++[x]).length:=by
 have hf:bG x (fQ l 0) 0=none:=by
   have:=Nf x l 0 0;rw [AZ.2 h] at this
   simpa using this
 unfold dN jc;rw [hf,UB];simp
theorem A0 {nm:List UInt8}:∀{l:List (List UInt8)} {s k:Nat},idxOf nm l s=some k->s<=k/\l[k-s]? = some nm
 | [],_,_,h=>by cases h
 | x::r,s,k,h=>by
   rw [idxOf] at h
   split at h
   · rename_i hx; injection h with h; subst h; simp [hx]
   · obtain ⟨h1,h2⟩:=A0 h
     refine ⟨by omega,?_⟩;rw [show k-s=(k-(s+1))+1 by omega]; simpa using h2
theorem Ng {mod nm:List UInt8}:∀{us:List (List UInt8)} {fs:List (List aV)} {s:Nat},mod ∉ us->nD mod nm us fs s=none
 | [],_,_,_=>by simp [nD]
 | u::us,[],_,_=>by simp [nD]
 | u::us,f::fs,s,h=>by
   rw [nD,if_neg (λe=>h (by simp [e])),Ng (λhm=>h (List.mem_cons_of_mem _ hm))]
theorem UF {mod nm:List UInt8}:∀{us:List (List UInt8)} {fs:List (List aV)} {s:Nat},us.Nodup->us.length=fs.length->
   nD mod nm us fs s=(idxOf mod us s).bind λk=>(fs[k-s]?).bind λf=>(fp nm f).map λx=>(((k+1:Nat):Int),x)
 | [],[],_,_,_=>by simp [nD,idxOf]
 | [],f::fs,_,_,h=>by simp at h
 | u::us,[],_,_,h=>by simp at h
 | u::us,f::fs,s,hn,hl=>by
   rw [nD,idxOf];have tZ:=List.nodup_cons.1 hn
   by_cases h:u=mod
   · rw [if_pos h,if_pos h]
     simp only [Option.bind_some,Nat.sub_self,List.getElem?_cons_zero]
     cases fp nm f with
     | none=>simp only [Option.map_none]; exact Ng (h▸tZ.1)
     | some x=>rfl
   · rw [if_neg h,if_neg h,UF tZ.2 (by simpa using hl)]
     cases hi:idxOf mod us (s+1) with
     | none=>rfl
     | some k=>
       have:=(A0 hi).1;simp only [Option.bind_some];rw [show k-s=(k-(s+1))+1 by omega,List.getElem?_cons_succ]
end Go.Bw
end
section
namespace Go.Bw
open Go
structure cF where
 A1:Bool
 data:Int
 parts:List Int
def cF.cells (k:cF) (r:Option Addr×Nat):List Value:=[.bool k.A1,.int .i64 k.data,.slice r.1 k.parts.length r.2]
def mD (x:Int):List Value:=[.int .i64 x]
theorem yj (x:Int):(mD x).length=1:=rfl
def jd (H:View) (b o:Nat) (x:Int):Prop:=aT H b o (mD x)
def pF (H:View) (b o:Nat) (k:cF):Prop:=∃r:Option Addr×Nat,aT H b o (k.cells r)/\Sl jd 1 H r.1 r.2 k.parts
def gh (u:ed):cF:=⟨true,u.data,u.parts.map (·.params)⟩
def yk:cF:=⟨false,0,[]⟩
def A2 (ks:List cF) (m pl:Int):Bool:=((decide (m<0)||decide ((ks.length:Int)<=m))||decide (pl<0))||decide (512<pl)
def qP (ks:List cF) (m pl n:Int):Bool:=if A2 ks m pl=true then false else match ks[m.toNat]? with
 | some k=>if k.A1=true then decide (pl+n<=k.data) else n==1||decide (pl+n<=512)
 | none=>false
def A3 (ks:List cF) (m pl:Int):Bool:=(decide (m<0)||decide ((ks.length:Int)<=m))||decide (pl<0)
def ur (ks:List cF) (m pl n:Int):Bool:=if A3 ks m pl=true then false else match ks[m.toNat]? with
 | some k=>if k.A1=true then decide (pl<(k.parts.length:Int))&&(k.parts[pl.toNat]?).getD 0==n else decide (pl<6)&&decide (n<=3)
 | none=>false
def Nh (av pl:Int):Bool:=decide (0<=pl)&&decide (pl<av)
def Du (n:Int):Bool:=decide (1<=n)&&decide (n<=32)
theorem aej {ks:List cF} {m pl:Int} (n:Int) (h:A2 ks m pl=true):qP ks m pl n=false:=by rw [qP,if_pos h]
theorem aek {ks:List cF} {m pl:Int} (h:A2 ks m pl=false):(∃mi:Nat,m=mi/\mi<ks.length)/\0<=pl/\pl<=512:=by
 unfold A2 at h;simp only [Bool.or_eq_false_iff,decide_eq_false_iff_not] at h;exact ⟨⟨m.toNat,by omega,by omega⟩,by omega,by omega⟩
theorem UG {ks:List cF} {mi:Nat} {pl n:Int} {k:cF} (h:A2 ks mi pl=false) (hk:ks[mi]? = some k):qP ks mi pl n=if k.A1=true then decide (pl+n<=k.data) else n==1||decide (pl+n<=512):=by
 rw [qP,if_neg (by rw [h]; decide),Int.toNat_natCast,hk]
theorem ael {ks:List cF} {m pl:Int} (n:Int) (h:A3 ks m pl=true):ur ks m pl n=false:=by rw [ur,if_pos h]
theorem aem {ks:List cF} {m pl:Int} (h:A3 ks m pl=false):(∃mi:Nat,m=mi/\mi<ks.length)/\∃p:Nat,pl=p:=by
 unfold A3 at h;simp only [Bool.or_eq_false_iff,decide_eq_false_iff_not] at h;exact ⟨⟨m.toNat,by omega,by omega⟩,pl.toNat,by omega⟩
theorem UH {ks:List cF} {mi:Nat} {pl n:Int} {k:cF} (h:A3 ks mi pl=false) (hk:ks[mi]? = some k):ur ks mi pl n=if k.A1=true then decide (pl<(k.parts.length:Int))&&(k.parts[pl.toNat]?).getD 0==n else decide (pl<6)&&decide (n<=3):=by
 rw [ur,if_neg (by rw [h]; decide),Int.toNat_natCast,hk]
def node1 (ks:List cF) (av op n m pl:Int) (len:Nat):Bool:=
 if op=1 then ((((m==0)&&(pl==0))&&((len:Int)==0))&&decide (0<=n))&&decide (n<=1099511627775)
 else if op=3 then ((n==0)&&((len:Int)==0))&&qP ks m pl 1
 else if op=4 then (Du n&&((len:Int)==1))&&qP ks m pl n
 else if op=5 then (n==0)&&ur ks m pl len
 else if op=16 then (((m==0)&&(n==0))&&((len:Int)==0))&&Nh av pl
 else if op=2 then (((m==0)&&(pl==0))&&(n==0))&&((len:Int)==0)
 else if op=6 then (((m==0)&&(pl==0))&&(n==0))&&((len:Int)==1)
 else if 7<=op/\op<=15 then (((m==0)&&(pl==0))&&(n==0))&&((len:Int)==2)
 else false
def nE (ks:List cF) (av op n m pl:Int) (na nb no:Nat):Bool:=
 if op=1 then (((((nb:Int)+no==0)&&((na:Int)==1))&&(n==0))&&(((m==-1)&&Nh av pl)||qP ks m pl 1))
 else if op=2 then (((((nb:Int)+no==0)&&((na:Int)==2))&&Du n)&&qP ks m pl n)
 else if op=3 then ((((nb:Int)+no==0)&&(n==0))&&ur ks m pl na)
 else if op=4 then (((m==0)&&(pl==0))&&(n==0))&&((na:Int)==1)
 else if op=5 then ((((m==0)&&(pl==0))&&(n==0))&&((na:Int)==1))&&((no:Int)==0)
 else if op=6\/op=7 then ((((m==0)&&(pl==0))&&(n==0))&&((nb:Int)+no==0))&&((na:Int)==1)
 else false
mutual
def uu (ks:List cF) (av:Int):cv->Nat->Bool
 | .mk op n m pl args,d=>decide (d<=6)&&(node1 ks av op n m pl args.length&&nF ks av args (d+1))
def nF (ks:List cF) (av:Int):List cv->Nat->Bool
 | [],_=>true
 | x::r,d=>uu ks av x d&&nF ks av r d
end
theorem UI (ks:List cF) (av:Int) (x:cv) (d:Nat):uu ks av x d=(decide (d<=6)&&(node1 ks av x.op x.n x.m x.pl x.args.length&&nF ks av x.args (d+1))):=by cases x; rw [uu]; rfl
theorem Ig (ks:List cF) (av:Int) (d:Nat):∀l,nF ks av l d=l.all (uu ks av · d)
 | []=>by rw [nF]; rfl
 | x::r=>by rw [nF,Ig ks av d r]; rfl
def Dv (op:Int):Bool:=(op==4)||(op==5)
mutual
def sz (ks:List cF) (av:Int):ck->Nat->Bool
 | .mk op n m pl args body other,d=>nE ks av op n m pl args.length body.length other.length&&(nF ks av args 1&&((!(Dv op)||(decide (d+1<=6)&&(decide (body.length<=10)&&uv ks av body (d+1))))&&(!(decide (0<other.length))||(decide (d+1<=6)&&(decide (other.length<=10)&&uv ks av other (d+1))))))
def uv (ks:List cF) (av:Int):List ck->Nat->Bool
 | [],_=>true
 | x::r,d=>sz ks av x d&&uv ks av r d
end
def iL (ks:List cF) (av:Int) (l:List ck) (d:Nat):Bool:=decide (d<=6)&&(decide (l.length<=10)&&uv ks av l d)
theorem UJ (ks:List cF) (av:Int) (x:ck) (d:Nat):sz ks av x d=(nE ks av x.op x.n x.m x.pl x.args.length x.body.length x.other.length&&(nF ks av x.args 1&&((!(Dv x.op)||iL ks av x.body (d+1))&&(!(decide (0<x.other.length))||iL ks av x.other (d+1))))):=by cases x; rw [sz]; rfl
theorem Ni (ks:List cF) (av:Int) (d:Nat):∀l,uv ks av l d=l.all (sz ks av · d)
 | []=>by rw [uv]; rfl
 | x::r=>by rw [uv,Ni ks av d r]; rfl
theorem aen (ks:List cF) (av:Int) (x:cv) (d:Nat):((decide (6<(d:Int))||!(node1 ks av x.op x.n x.m x.pl x.args.length))||!(nF ks av x.args (d+1))) = !(uu ks av x d):=by
 rw [UI,show decide (6<(d:Int)) = !(decide (d<=6)) by rw [Bool.eq_iff_iff]; simp; omega]
 cases decide (d<=6)<;>cases node1 ks av x.op x.n x.m x.pl x.args.length<;>cases nF ks av x.args (d+1)<;>rfl
theorem aeo (ks:List cF) (av:Int) (x:ck) (d:Nat):(((!(nE ks av x.op x.n x.m x.pl x.args.length x.body.length x.other.length)||!(nF ks av x.args 1))||(((x.op==4)||(x.op==5))&&!(iL ks av x.body (d+1))))||(decide (0<(x.other.length:Int))&&!(iL ks av x.other (d+1)))) = !(sz ks av x d):=by
 rw [UJ,show decide (0<(x.other.length:Int))=decide (0<x.other.length) by rw [Bool.eq_iff_iff]; simp];unfold Dv
 cases nE ks av x.op x.n x.m x.pl x.args.length x.body.length x.other.length<;>cases nF ks av x.args 1<;>cases ((x.op==4)||(x.op==5))<;>cases iL ks av x.body (d+1)<;>cases decide (0<x.other.length)<;>cases iL ks av x.other (d+1)<;>rfl
theorem aep (ks:List cF) (av:Int) (l:List ck) (d:Nat):(decide (6<(d:Int))||decide (10<(l.length:Int)))=true->iL ks av l d=false:=by
 intro h;unfold iL
 have h2:¬(d<=6/\l.length<=10):=by simp at h; omega
 by_cases h3:d<=6
 · rw [decide_eq_false (by omega:¬l.length<=10)]; simp
 · rw [decide_eq_false h3]; simp
theorem aeq {l:List ck} {d:Nat} (h:(decide (6<(d:Int))||decide (10<(l.length:Int)))=false):d<=6/\l.length<=10:=by simp at h; omega
theorem UK (ks:List cF) (av:Int) {l:List ck} {d:Nat} (h:d<=6/\l.length<=10):iL ks av l d=l.all (sz ks av · d):=by
 unfold iL; rw [decide_eq_true h.1,decide_eq_true h.2,Ni]; rfl
theorem Dw {α:Type} {f:α->Bool} {l:List α} {i:Nat} {x:α} (h:l[i]? = some x) (hx:f x=false):l.all f=false:=by
 cases he:l.all f with
 | false=>rfl
 | true=>rw [List.all_eq_true.1 he x (List.mem_of_getElem? h)] at hx; cases hx
theorem Dx {α:Type} {f:α->Bool} {l:List α} {i:Nat} {x:α} (h:l[i]? = some x) (ha:(l.take i).all f=true) (hx:f x=true):(l.take (i+1)).all f=true:=by
 rw [List.take_add_one,h,List.all_append,ha];simp [hx]
def pG (ks:List cF) (p:iJ):Bool:=!(((decide (p.params<0)||decide (3<p.params))||decide (p.locals<0))||decide (4<p.locals))&&iL ks (p.params+p.locals) p.body 1
def A4 (nm:List UInt8) (us:List (List UInt8)):Bool:=!(eo (nm::us))&&us.all dZ
def A5 (u:ed):Bool:=(((!(dZ u.nm)||decide (3<(u.ae.length:Int)))||decide (u.data<0))||decide (512<u.data))||decide (6<(u.parts.length:Int))
def sA (u:ed) (kn:List cF):Bool:=A4 u.nm u.ae&&(!(A5 u)&&(u.parts.all (pG (gh u::kn))&&iL (gh u::kn) 0 u.main 1))
def Ih (l:List ed):List (List UInt8):=l.map (·.nm)
def aer (l:List ed):Bool:=(List.range l.length).all λn=>((l[n]?.map (·.ae)).getD []).all λs=>((Ih l).take n).contains s
def UL:List ed->Int->Bool
 | [],_=>true
 | u::r,room=>!(decide (u.data<0)||decide (room<u.data))&&UL r (room-u.data)
def aes (l:List ed) (u:ed):List cF:=u.ae.map λs=>match idxOf s (Ih l) 0 with
 | some i=>(l[i]?.map gh).getD yk
 | none=>yk
end Go.Bw
end
section
namespace Go.Bw
open Go
def UM (x y:List UInt8):Bool:=Op.bytesLess x y
def nG (l:List bc):List (List UInt8):=l.map (·.nm)
def sB (l:List bc) (s:List UInt8):Option Nat:=idxOf s (nG l) 0
def kB (l:List bc) (i:Nat):List UInt8:=(l[i]?.map (·.nm)).getD []
def sC (l:List bc) (i:Nat):List (List UInt8):=(l[i]?.map (·.ae)).getD []
structure Nj (l:List bc):Prop where
 ep:l.length<=4
 yl:∀m ∈ l,jw m=0
 nd:(nG l).Nodup
 ae:∀m ∈ l,∀s ∈ m.ae,∃j,sB l s=some j
theorem Ii {α:Type} {f:α->Int}:∀{l:List α},hP f l=0↔∀x ∈ l,f x=0
 | []=>by simp [hP]
 | x::l=>by rw [hP,Ux,Ii (l:=l)]; simp
theorem UN {l:List bc} {s:List UInt8} {j:Nat} (h:sB l s=some j):j<l.length/\kB l j=s:=by
 have h2:=(A0 h).2;rw [Nat.sub_zero] at h2;unfold nG at h2;rw [List.getElem?_map] at h2;obtain ⟨m,hm,e⟩:=Option.map_eq_some_iff.1 h2;exact ⟨(List.getElem?_eq_some_iff.1 hm).1,by rw [kB,hm]; exact e⟩
theorem Dy {l:List bc} {i:Nat} {m:bc} (h:l[i]? = some m):kB l i=m.nm:=by rw [kB,h]; rfl
theorem aet {l:List bc} {i:Nat} {m:bc} (h:l[i]? = some m):sC l i=m.ae:=by rw [sC,h]; rfl
theorem Dz {l:List bc} {i:Nat} {m:bc} (h:l[i]? = some m):(nG l)[i]? = some m.nm:=by unfold nG; rw [List.getElem?_map,h]; rfl
theorem Ij (l:List bc):(nG l).length=l.length:=by simp [nG]
theorem UO {l:List bc} (hn:(nG l).Nodup) {i j:Nat} (hi:i<l.length) (hj:j<l.length) (h:kB l i=kB l j):i=j:=by
 have e:(nG l)[i]? = (nG l)[j]?:=by
   rw [Dz (List.getElem?_eq_getElem hi),Dz (List.getElem?_eq_getElem hj),<-Dy (List.getElem?_eq_getElem hi),<-Dy (List.getElem?_eq_getElem hj),h]
 exact (List.getElem?_inj (by rw [Ij]; exact hi) hn).1 e
theorem aeu {l:List bc} (hn:(nG l).Nodup) {i:Nat} (hi:i<l.length):sB l (kB l i)=some i:=by
 cases hp:sB l (kB l i) with
 | none=>
   refine absurd ?_ (AZ.1 hp);rw [Dy (List.getElem?_eq_getElem hi)];exact List.mem_of_getElem? (Dz (List.getElem?_eq_getElem hi))
 | some j=>
   obtain ⟨h1,h2⟩:=UN hp;rw [UO hn h1 hi h2]
def Ik (l:List bc) (d:List Nat) (s:List UInt8):Bool:=match sB l s with | some j=>d.contains j | none=>false
def DA (l:List bc) (d:List Nat) (i:Nat):Bool:=!d.contains i&&(sC l i).all (Ik l d)
structure aev (l:List bc) (d:List Nat) (b:Nat):Prop where
 lt:b<l.length
 ready:DA l d b=true
 least:∀i,i<l.length->DA l d i=true->i=b\/UM (kB l b) (kB l i)=true
inductive Nk (l:List bc):List Nat->Prop where
 | nil:Nk l []
 | snoc {d:List Nat} {b:Nat}:Nk l d->aev l d b->Nk l (d++[b])
def wq (l:List bc) (s:List UInt8):List (List UInt8):=match sB l s with | some i=>sC l i | none=>[]
inductive Reach (l:List bc) (a:List UInt8):List UInt8->Prop where
 | base {s:List UInt8}:s ∈ wq l a->Reach l a s
 | step {b s:List UInt8}:Reach l a b->s ∈ wq l b->Reach l a s
structure Nl (l:List bc) (a:List UInt8) (S:List UInt8->Prop):Prop where
 base:∀s ∈ wq l a,S s
 step:∀b,S b->∀s ∈ wq l b,S s
 sound:∀s,S s->Reach l a s
theorem Nl.iff {l:List bc} {a:List UInt8} {S:List UInt8->Prop} (h:Nl l a S) (s:List UInt8):S s↔Reach l a s:=
 ⟨h.sound s,λhr=>by
   induction hr with
   | base h1=>exact h.base _ h1
   | step _ h1 ih=>exact h.step _ ih _ h1⟩
def kC (l:List (List UInt8)) (s:Nat):List (cV (List UInt8)):=match l with
 | []=>[]
 | x::r=>(x,.int .i64 (s:Int),s)::kC r (s+1)
theorem UP:∀(l:List (List UInt8)) (x:List UInt8) (s:Nat),kC (l++[x]) s=kC l s++[(x,.int .i64 ((s+l.length:Nat):Int),s+l.length)]
 | [],x,s=>rfl
 | y::r,x,s=>by
   rw [List.cons_append,kC,UP r x,kC,List.cons_append,List.length_cons,show s+1+r.length=s+(r.length+1) by omega]
theorem Nn (nm:List UInt8):∀(l:List (List UInt8)) (s i:Nat),(bG nm (kC l s) i).map (·.2)=(idxOf nm l s).map λk=>.int .i64 (k:Int)
 | [],_,_=>rfl
 | x::r,s,i=>by
   rw [kC,bG,idxOf]
   by_cases h:x=nm
   · simp [h]
   · rw [if_neg (by simpa using λe=>h e.symm),if_neg h]
     exact Nn nm r (s+1) (i+1)
theorem UQ (nm:List UInt8) (l:List (List UInt8)):dU nm (kC l 0) (.int .i64 0) = .int .i64 (((idxOf nm l 0).getD 0:Nat):Int)/\ow nm (kC l 0)=(idxOf nm l 0).isSome:=by
 have h:=Nn nm l 0 0;unfold dU ow
 cases hf:bG nm (kC l 0) 0 with
 | none=>rw [hf] at h; cases hi:idxOf nm l 0 with | none=>exact ⟨rfl,rfl⟩ | some x=>rw [hi] at h; cases h
 | some r=>rw [hf] at h; cases hi:idxOf nm l 0 with
   | none=>rw [hi] at h; cases h
   | some x=>rw [hi] at h; simp at h; exact ⟨by simp [h],rfl⟩
theorem UR {κ:Type} [BEq κ] (k:κ) (v:Value) (m:List (cV κ)) (c:Nat):(dN k v m c).length<=m.length+1:=by
 unfold dN
 split<;>simp
end Go.Bw
end
section
namespace Go.Bw
open Go
def aew {α:Type} (R:α->α->Prop) (d:List α) (i:Nat):Prop:=∀(x y:Nat) (a b:α),x<y->y<i->d[x]? = some a->d[y]? = some b->R a b
structure as6 {α:Type} (R:α->α->Prop) (d0 d:List α) (i j:Nat):Prop where
 perm:d.Perm d0
 ji:j<=i
 il:i<d.length
 ord:∀(x y:Nat) (a b:α),x<y->y<=i->x≠j->y≠j->d[x]? = some a->d[y]? = some b->R a b
 up:∀(y:Nat) (a b:α),j<y->y<=i->d[j]? = some a->d[y]? = some b->R a b
end Go.Bw
end
section
namespace Go.Bw
open Go Go.RowKit Go.Maps Go.Sort
open Go.WideElems (Fit rd rg pl rd_val rd_mk rg_of)
structure as7 (M:List (cV (List UInt8))) (c:Nat):Prop where
 nd:(M.map (·.1)).Nodup
 len:∀e ∈ M,e.1.length<=maxLen
 size:M.length<=maxLen
 born:M.map (·.2.2)=List.range M.length
 clock:c=M.length
end Go.Bw
end
section
namespace Go.Bw
open Go
section
variable {κ:Type} [BEq κ] [LawfulBEq κ]
theorem Il (k:κ):∀(m:List (cV κ)) (i j:Nat) (v:Value),bG k m i=some (j,v)->i<=j/\∃b,m[j-i]? = some (k,v,b)
 | [],i,j,v,h=>by simp [bG] at h
 | e::r,i,j,v,h=>by
   simp only [bG] at h
   split at h
   · rename_i he
     have A6:e.1=k:=(eq_of_beq he).symm
     injection h with h
     injection h with h1 h2
     subst h1 h2;exact ⟨Nat.le_refl _,e.2.2,by rw [Nat.sub_self,List.getElem?_cons_zero,<-A6]⟩
   · obtain ⟨h1,b,h2⟩:=Il k r (i+1) j v h
     refine ⟨by omega,b,?_⟩;rw [show j-i=(j-(i+1))+1 by omega,List.getElem?_cons_succ];exact h2
theorem US (k:κ):∀(m:List (cV κ)) (i:Nat),bG k m i=none↔k ∉ m.map (·.1)
 | [],i=>by simp [bG]
 | e::r,i=>by
   simp only [bG,List.map_cons,List.mem_cons,not_or]
   split
   · rename_i he
     have A6:e.1=k:=(eq_of_beq he).symm;exact ⟨λh=>(by cases h),λh=>absurd A6.symm h.1⟩
   · rename_i he
     have A6:¬k=e.1:=λe2=>he (by simp [e2]);rw [US k r (i+1)];exact ⟨λh=>⟨A6,h⟩,λh=>h.2⟩
theorem aex (k:κ) (v:Value) (m:List (cV κ)) (c:Nat):((k ∈ m.map (·.1))/\(dN k v m c).map (·.1)=m.map (·.1)/\(dN k v m c).map (·.2.2)=m.map (·.2.2)/\jc k m c=c)\/
   (k ∉ m.map (·.1)/\dN k v m c=m++[(k,v,c)]/\jc k m c=c+1):=by
 unfold dN jc
 cases hf:bG k m 0 with
 | none=>exact .inr ⟨(US k m 0).1 hf,rfl,rfl⟩
 | some r=>
   obtain ⟨j,u⟩:=r;obtain ⟨_,b,hb⟩:=Il k m 0 j u hf;rw [Nat.sub_zero] at hb;refine .inl ⟨List.mem_map.2 ⟨_,List.mem_of_getElem? hb,O⟩,?_,?_,O⟩
   all_goals
     apply List.ext_getElem?;intro i;simp only [List.getElem?_map,List.getElem?_modify]
     by_cases wi:j=i
     · subst wi; rw [hb]; simp
     · simp [wi]
theorem A7 (k:κ) (v:Value) (m:List (cV κ)) (c:Nat) (z:Value):dU k (dN k v m c) z=v:=by
 have key:∃e,bG k (dN k v m c) 0=some (e,v):=by
   unfold dN
   cases hf:bG k m 0 with
   | none=>
     have h1:∀(m:List (cV κ)) (i:Nat),bG k m i=none->bG k (m++[(k,v,c)]) i=some (i+m.length,v):=by
       intro m
       induction m with
       | nil=>intro i _; simp [bG]
       | cons e r ih=>
         intro i h;simp only [bG,List.cons_append] at h ⊢
         split at h
         · cases h
         · rename_i he
           rw [if_neg he,ih _ h,List.length_cons]
           congr 2
           omega
     exact ⟨_,h1 m 0 hf⟩
   | some r=>
     obtain ⟨j,u⟩:=r
     have h1:∀(m:List (cV κ)) (i:Nat),bG k m i=some (j,u)->bG k (m.modify (j-i) λe=>(k,v,e.2.2)) i=some (j,v):=by
       intro m
       induction m with
       | nil=>intro i h; simp [bG] at h
       | cons e r ih=>
         intro i h;simp only [bG] at h
         split at h
         · injection h with h
           injection h with h1 h2
           subst h1;rw [Nat.sub_self];simp [bG]
         · rename_i he
           have hle:=(Il k r (i+1) j u h).1;rw [show j-i=(j-(i+1))+1 by omega,List.modify_succ_cons,bG,if_neg he];exact ih _ h
     exact ⟨_,h1 m 0 hf⟩
 obtain ⟨e,he⟩:=key;unfold dU;rw [he]
end
structure No (M:List (cV (List UInt8))) (c p:Nat):Prop where
 nd:(M.map (·.1)).Nodup
 born:M.map (·.2.2)=List.range M.length
 clock:c=M.length
 DB:∀x v,dU x M (.int .i64 0)=v->∃n:Nat,n<=p/\v = .int .i64 (n:Int)/\(n=0↔x ∉ M.map (·.1))
theorem Im {κ:Type} [BEq κ] [LawfulBEq κ] {k k':κ} (v:Value) (m:List (cV κ)) (c:Nat) (z:Value) (h:k'≠k):dU k' (dN k v m c) z=dU k' m z:=by
 have h1:∀(m:List (cV κ)) (i:Nat),(bG k' (m++[(k,v,c)]) i).map (·.2)=(bG k' m i).map (·.2):=by
   intro m
   induction m with
   | nil=>intro i; simp [bG,h]
   | cons e r ih=>intro i; simp only [bG,List.cons_append]; split<;>simp [ih]
 have h2:∀(m:List (cV κ)) (i j:Nat),(m[j]?.map (·.1)=some k)->(bG k' (m.modify j λe=>(k,v,e.2.2)) i).map (·.2)=(bG k' m i).map (·.2):=by
   intro m
   induction m with
   | nil=>intro i j hj; simp at hj
   | cons e r ih=>
     intro i j hj
     cases j with
     | zero=>
       have hj2:e.1=k:=by simpa using hj
       have dt:¬(k'==e.1)=true:=by rw [hj2]; simpa using h
       have aez:¬(k'==k)=true:=by simpa using h
       rw [List.modify_zero_cons,bG,bG,if_neg dt,if_neg (show ¬(k'==(k,v,e.2.2).1)=true from aez)]
     | succ j=>
       rw [List.modify_succ_cons,bG,bG]
       split
       · rfl
       · exact ih _ _ (by simpa using hj)
 have h3:(bG k' (dN k v m c) 0).map (·.2)=(bG k' m 0).map (·.2):=by
   unfold dN
   cases hf:bG k m 0 with
   | none=>exact h1 m 0
   | some r=>
     obtain ⟨j,u⟩:=r;obtain ⟨_,b,hb⟩:=Il k m 0 j u hf;rw [Nat.sub_zero] at hb;exact h2 m 0 j (by rw [hb]; rfl)
 unfold dU
 cases ha:bG k' (dN k v m c) 0 with
 | none=>rw [ha] at h3; cases hb:bG k' m 0 with | none=>rfl | some r=>rw [hb] at h3; cases h3
 | some q=>rw [ha] at h3; cases hb:bG k' m 0 with
   | none=>rw [hb] at h3; cases h3
   | some r=>rw [hb] at h3; simp at h3; simp [h3]
theorem No.put {M:List (cV (List UInt8))} {c p n:Nat} {x:List UInt8} (h:No M c p) (hn:n<=p) (h0:n=0↔x ∉ M.map (·.1)) :
   No (dN x (.int .i64 ((n+1:Nat):Int)) M c) (jc x M c) (p+1)/\(dN x (.int .i64 ((n+1:Nat):Int)) M c).map (·.1)=(if n=0 then M.map (·.1)++[x] else M.map (·.1)):=by
 have A8:∀y v,dU y (dN x (.int .i64 ((n+1:Nat):Int)) M c) (.int .i64 0)=v->∃k:Nat,k<=p+1/\v = .int .i64 (k:Int)/\(k=0↔y ∉ (if n=0 then M.map (·.1)++[x] else M.map (·.1))):=by
   intro y v hv
   by_cases hy:y=x
   · subst hy
     rw [A7] at hv;refine ⟨n+1,by omega,hv.symm,?_⟩
     split
     · simp
     · rename_i dt
       exact ⟨λh=>by omega,λh2=>absurd (h0.2 h2) dt⟩
   · rw [Im _ _ _ _ hy] at hv
     obtain ⟨k,h1,h2,h3⟩:=h.DB y v hv;refine ⟨k,by omega,h2,h3.trans ?_⟩
     split
     · simp [hy]
     · rfl
 rcases aex x (.int .i64 ((n+1:Nat):Int)) M c with ⟨h1,h2,h3,h4⟩ | ⟨h1,h2,h3⟩
 · have dt:¬n=0:=λe=>h0.1 e h1
   rw [if_neg dt] at A8 ⊢
   have hlen:(dN x (.int .i64 ((n+1:Nat):Int)) M c).length=M.length:=by have:=congrArg List.length h2; simpa using this
   exact ⟨⟨by rw [h2]; exact h.nd,by rw [h3,hlen]; exact h.born,by rw [h4,hlen]; exact h.clock,λy v hv=>by rw [h2]; exact A8 y v hv⟩,h2⟩
 · have he:n=0:=h0.2 h1
   rw [if_pos he] at A8 ⊢
   have hk:(dN x (.int .i64 ((n+1:Nat):Int)) M c).map (·.1)=M.map (·.1)++[x]:=by rw [h2]; simp
   refine ⟨⟨?_,?_,?_,λy v hv=>by rw [hk]; exact A8 y v hv⟩,hk⟩
   · rw [hk,List.nodup_append]
     exact ⟨h.nd,by simp,λa ha b hb e=>by rw [List.mem_singleton] at hb; subst hb; subst e; exact h1 ha⟩
   · rw [h2,List.map_append,h.born,List.length_append,List.length_singleton,List.range_succ,h.clock]; rfl
   · rw [h3,h2,h.clock]; simp
structure DC (l:List bc) (nm:List UInt8) (ds nx:List (List UInt8)):Prop where
 base:∀s ∈ wq l nm,s ∈ ds\/s ∈ nx
 step:∀b ∈ ds,∀s ∈ wq l b,s ∈ ds\/s ∈ nx
 sound:∀s,s ∈ ds\/s ∈ nx->Reach l nm s
theorem DC.new {l:List bc} {nm x:List UInt8} {ds r:List (List UInt8)} (h:DC l nm ds (x::r)):DC l nm (ds++[x]) (r++wq l x):=by
 have key:∀s,s ∈ ds\/s ∈ x::r->s ∈ ds++[x]\/s ∈ r++wq l x:=λs hs=>by
   rcases hs with hs | hs
   · exact .inl (List.mem_append_left _ hs)
   · rcases List.mem_cons.1 hs with e | hs
     · subst e; exact .inl (by simp)
     · exact .inr (List.mem_append_left _ hs)
 refine ⟨λs hs=>key s (h.base s hs),λb hb s hs=>?_,λs hs=>?_⟩
 · rcases List.mem_append.1 hb with hb | hb
   · exact key s (h.step b hb s hs)
   · rw [List.mem_singleton] at hb; subst hb
     exact .inr (List.mem_append_right _ hs)
 · rcases hs with hs | hs
   · rcases List.mem_append.1 hs with hs | hs
     · exact h.sound s (.inl hs)
     · rw [List.mem_singleton] at hs; subst hs
       exact h.sound _ (.inr (by simp))
   · rcases List.mem_append.1 hs with hs | hs
     · exact h.sound s (.inr (List.mem_cons_of_mem _ hs))
     · exact .step (h.sound x (.inr (by simp))) hs
theorem DC.fin {l:List bc} {nm:List UInt8} {ds:List (List UInt8)} (h:DC l nm ds []) (s:List UInt8):s ∈ ds↔Reach l nm s:=
 Nl.iff (S:=λs=>s ∈ ds) ⟨λs hs=>(h.base s hs).resolve_right (by simp),λb hb s hs=>(h.step b hb s hs).resolve_right (by simp),λs hs=>h.sound s (.inl hs)⟩ s
end Go.Bw
end
section
namespace Go.Bw
open Go
def mE (l:List (List UInt8)) (s:Nat):List (cV (List UInt8)):=match l with
 | []=>[]
 | x::r=>(x,.int .i64 1,s)::mE r (s+1)
theorem UT:∀(l:List (List UInt8)) (x:List UInt8) (s:Nat),mE (l++[x]) s=mE l s++[(x,.int .i64 1,s+l.length)]
 | [],x,s=>rfl
 | y::r,x,s=>by
   rw [List.cons_append,mE,UT r x,mE,List.cons_append,List.length_cons,show s+1+r.length=s+(r.length+1) by omega]
theorem Np (nm:List UInt8):∀(l:List (List UInt8)) (s i:Nat),(bG nm (mE l s) i).map (·.2)=if l.contains nm=true then some (.int .i64 1) else none
 | [],_,_=>rfl
 | x::r,s,i=>by
   rw [mE,bG]
   by_cases h:x=nm
   · subst h; simp
   · rw [if_neg (by simpa using λe=>h e.symm),Np nm r (s+1) (i+1)]
     have h2:¬nm=x:=λe=>h e.symm;simp [h2]
theorem aeA (nm:List UInt8) (l:List (List UInt8)):dU nm (mE l 0) (.int .i64 0) = .int .i64 (if l.contains nm=true then 1 else 0):=by
 have h:=Np nm l 0 0;unfold dU
 cases hf:bG nm (mE l 0) 0 with
 | none=>rw [hf] at h; split at h<;>simp_all
 | some r=>rw [hf] at h; split at h<;>simp_all
theorem UU {x:List UInt8} {l:List (List UInt8)} (h:l.contains x=false):dN x (.int .i64 1) (mE l 0) l.length=mE (l++[x]) 0/\jc x (mE l 0) l.length=(l++[x]).length:=by
 have hf:=Np x l 0 0;rw [if_neg (by rw [h]; decide)] at hf
 have h0:bG x (mE l 0) 0=none:=by cases hg:bG x (mE l 0) 0 with | none=>rfl | some r=>rw [hg] at hf; cases hf
 unfold dN jc;rw [h0,UT];simp
structure Nq (ns:List (List UInt8)) (i:Nat) (M:List (cV (List UInt8))) (c:Nat):Prop where
 mem:∀s,∃v:Nat,dU s M (.int .i64 0) = .int .i64 (v:Int)/\(v=0↔s ∉ ns.take i)
 MJ:((ns.take i).Nodup/\M=fQ (ns.take i) 0/\c=i)\/(¬(ns.take i).Nodup/\M.length<i)
theorem Nq.new {ns:List (List UInt8)} {i c:Nat} {M:List (cV (List UInt8))} {x:List UInt8} (h:Nq ns i M c) (hx:ns[i]? = some x) (hm:x ∉ ns.take i):Nq ns (i+1) (dN x (.int .i64 ((i+1:Nat):Int)) M c) (jc x M c):=by
 have hT:ns.take (i+1)=ns.take i++[x]:=by rw [List.take_add_one,hx]; rfl
 have aw:=(List.getElem?_eq_some_iff.1 hx).1
 have hl:(ns.take i).length=i:=by simp; omega
 refine ⟨λs=>?_,?_⟩
 · by_cases e:s=x
   · subst e
     exact ⟨i+1,A7 s _ M c _,by rw [hT]; simp⟩
   · obtain ⟨v,h1,h2⟩:=h.mem s
     refine ⟨v,by rw [Im _ M c _ e]; exact h1,h2.trans ?_⟩;rw [hT]; simp [e]
 · rcases h.MJ with ⟨h1,rfl,rfl⟩ | ⟨h1,h3⟩
   · left
     have hp:=UE (l:=ns.take c) (x:=x) hm;rw [hl] at hp;refine ⟨?_,by rw [hp.1,hT],by rw [hp.2]; simp; omega⟩;rw [hT,List.nodup_append];refine ⟨h1,by simp,λa ha b hb e=>?_⟩;rw [List.mem_singleton] at hb; subst hb; subst e; exact hm ha
   · right
     refine ⟨λhn=>h1 ?_,?_⟩
     · rw [hT,List.nodup_append] at hn; exact hn.1
     · have:=UR x (.int .i64 ((i+1:Nat):Int)) M c
       omega
theorem aeB {nm s:List UInt8} {us:List (List UInt8)} {i:Nat} (h:us[i]? = some s) (hx:(nm::us.take i).contains s=true\/dZ s=false):A4 nm us=false:=by
 unfold A4
 rcases hx with hx | hx
 · have h2:eo (nm::us)=true:=by
     have hn:¬(nm::us).Nodup:=λhn=>by
       have e:nm::us=(nm::us.take i)++us.drop i:=by simp
       rw [e,List.nodup_append] at hn;refine hn.2.2 s (by simpa using hx) s ?_ O
       have:us.drop i=s::us.drop (i+1):=by
         rw [List.drop_eq_getElem_cons (List.getElem?_eq_some_iff.1 h).1,(List.getElem?_eq_some_iff.1 h).2]
       rw [this]; simp
     rw [qM] at hn
     simpa using hn
   rw [h2]; rfl
 · rw [Dw h hx]; simp
theorem aeC {nm:List UInt8} {us:List (List UInt8)} (h1:(nm::us).Nodup) (h2:us.all dZ=true):A4 nm us=true:=by
 unfold A4; rw [qM.1 h1,h2]; rfl
end Go.Bw
end
section
namespace Go.Bw
open Go
structure Wm where
 data:List Int
 bh:List Int
 out:List Int
 bu:Nat
 calls:Nat
inductive Rz (σ α:Type) where
 | ok (a:α) (s:σ)
 | ov (e:Int) (w:Wm)
def Rz.bind {σ α β:Type} (r:Rz σ α) (f:α->σ->Rz σ β):Rz σ β:=match r with
 | .ok a s=>f a s
 | .ov e w=>.ov e w
structure Fm where
 loc:List Int
 val:Int
 w:Wm
structure Env where
 l:List ed
 ae:List (List Nat)
 DD:List Nat
 eW:Nat
def Env.mod (P:Env) (u:Nat) (m:Int):Nat:=(((P.ae[u]?).getD [])[m.toNat]?).getD 0
def Env.at_ (P:Env) (u:Nat) (m pl:Int):Nat:=(P.DD[P.mod u m]?).getD 0+pl.toNat
def UW (P:Env) (w:Wm):Rz Wm Unit:=if w.bu=P.eW then .ov 3 w else .ok () { w with bu:=w.bu+1 }
abbrev Ev:=List Int->Wm->Rz Wm Int
abbrev Cl:=Nat->List Int->List ck->Wm->Rz Wm Int
def Rz.fr {α:Type} (f:Fm) (r:Rz Wm α):Rz Fm α:=match r with
 | .ok a w=>.ok a { f with w:=w }
 | .ov e w=>.ov e w
def UX:List ed->Nat->List Nat
 | [],_=>[]
 | u::r,s=>s::UX r (s+u.data.toNat)
def aeD (l:List ed):List (List Nat):=(List.range l.length).map λn=>n::((l[n]?.map (·.ae)).getD []).map λs=>(idxOf s (Ih l) 0).getD 0
structure oE where
 fin:Int
 out:List Int
 data:List Int
 bu:Int
end Go.Bw
end
section
namespace Go.Bw
open Go
structure aeE (l:List ed):Prop where
 ep:1<=l.length/\l.length<=4
 ahead:aer l=true
 nd:(Ih l).Nodup
 data:UL l 512=true
 as8:∀u ∈ l,sA u (aes l u)=true
theorem aeF {u:ed} {kn:List cF} (h:sA u kn=true):(∀p ∈ u.parts,pG (gh u::kn) p=true)/\iL (gh u::kn) 0 u.main 1=true/\A5 u=false/\A4 u.nm u.ae=true:=by
 unfold sA at h;obtain ⟨h1,h2⟩:=Bool.and_eq_true_iff.1 h;obtain ⟨h2,h3⟩:=Bool.and_eq_true_iff.1 h2;obtain ⟨h3,h4⟩:=Bool.and_eq_true_iff.1 h3;exact ⟨λp hp=>List.all_eq_true.1 h3 p hp,h4,by simpa using h2,h1⟩
theorem aeG {kn:List cF} {p:iJ} (h:pG kn p=true):0<=p.params/\p.params<=3/\0<=p.locals/\p.locals<=4/\iL kn (p.params+p.locals) p.body 1=true:=by
 unfold pG at h;obtain ⟨h1,h2⟩:=Bool.and_eq_true_iff.1 h
 have h1:(((decide (p.params<0)||decide (3<p.params))||decide (p.locals<0))||decide (4<p.locals))=false:=by simpa using h1
 simp only [Bool.or_eq_false_iff,decide_eq_false_iff_not] at h1;exact ⟨by omega,by omega,by omega,by omega,h2⟩
open Go.ChangeShapes Go.WideShapes Go.ChangeAt Go.RowKit Go.Joins Go.Deep
mutual
def db:cv->Nat
 | .mk _ _ _ _ args=>1+ft args
def ft:List cv->Nat
 | []=>0
 | x::r=>db x+ft r
end
mutual
def qQ:ck->Nat
 | .mk _ _ _ _ args body other=>1+ft args+dR body+dR other
def dR:List ck->Nat
 | []=>0
 | x::r=>qQ x+dR r
end
def DE (p:iJ):Nat:=1+dR p.body
def k9:List iJ->Nat
 | []=>0
 | p::r=>DE p+k9 r
def DF (u:ed):Nat:=1+u.nm.length+wN u.ae+k9 u.parts+dR u.main
def aeH (n:Nat) (H:View) (b o:Nat) (u:ed):Prop:=∃r:kz,aT H b o (eV u r)/\kA n n H r u
structure as9 (P:Program) (tN tA tP tU qR DG AQ lP:TypeId) (e s p m:Array Field) (tI tT:TypeId):Prop where
 uI:P.underlying tI=some (.int .i64)
 uT:P.underlying tT=some .string
 cT:P.cellsOf tT=1
 uN:P.underlying tN=some (.struct e)
 rN:(jt P 0 e.toList&&Nat.beq (P.cellsOf tN) e.size)=true
 fN:e.map (·.type) = #[tI,tI,tI,tI,qR]
 UY:P.underlying qR=some (.slice tN)
 uA:P.underlying tA=some (.struct s)
 rA:(jt P 0 s.toList&&Nat.beq (P.cellsOf tA) s.size)=true
 fA:s.map (·.type) = #[tI,tI,tI,tI,qR,DG,DG]
 uAs:P.underlying DG=some (.slice tA)
 uP:P.underlying tP=some (.struct p)
 rP:(jt P 0 p.toList&&Nat.beq (P.cellsOf tP) p.size)=true
 fP:p.map (·.type) = #[tI,tI,DG]
 uPs:P.underlying AQ=some (.slice tP)
 M5:P.underlying lP=some (.slice tT)
 uU:P.underlying tU=some (.struct m)
 rU:(jt P 0 m.toList&&Nat.beq (P.cellsOf tU) m.size)=true
 fU:m.map (·.type) = #[tT,lP,tI,AQ,DG]
end Go.Bw
end
section
namespace Go.Bw
open Go
structure aN where
 op:Int
 a:Int
 b:Int
structure dS where
 at_:Int
 kind:Int
 m:Int
structure Gs where
 code:List aN
 fix:List dS
abbrev Gk:=Gs->Gs
def aK (l:List aN) (g:Gs):Gs:={ g with code:=g.code++l }
def au (i:aN) (kind m:Int) (g:Gs):Gs:=⟨g.code++[i],g.fix++[⟨(g.code.length:Int),kind,m⟩]⟩
def bU (n:Nat) (g:Gs):Gs:={ g with code:=g.code.modify n λi=>{ i with a:=(g.code.length:Int) } }
def k_ (ks:List Gk) (i:Nat):Gk:=(ks[i]?).getD id
def ym (ks:List Gk) (g:Gs):Gs:=ks.foldl (λg k=>k g) g
def Nr (k0 k1:Gk) (g:Gs):Gs:=
 let g1:=k0 g
 let g3:=aK [⟨22,0,0⟩] (k1 (au ⟨12,0,0⟩ 1 0 g1))
 bU g3.code.length (aK [⟨1,0,0⟩] (bU g1.code.length (au ⟨11,0,0⟩ 1 0 g3)))
def Nt (k0 k1:Gk) (g:Gs):Gs:=
 let g1:=k0 g
 let g3:=aK [⟨1,1,0⟩] (au ⟨12,0,0⟩ 1 0 g1)
 bU g3.code.length (aK [⟨22,0,0⟩] (k1 (bU g1.code.length (au ⟨11,0,0⟩ 1 0 g3))))
def oF (op n m pl:Int) (ks:List Gk) (g:Gs):Gs:=
 if op=1 then aK [⟨1,n,0⟩] g
 else if op=2 then aK [⟨18,0,0⟩] g
 else if op=16 then aK [⟨2,pl,0⟩] g
 else if op=3 then au ⟨4,pl,0⟩ 3 m g
 else if op=4 then aK [⟨7,0,0⟩] (au ⟨6,pl,n⟩ 3 m (k_ ks 0 g))
 else if op=5 then au ⟨13,pl,0⟩ 2 m (ym ks g)
 else if op=7 then Nr (k_ ks 0) (k_ ks 1) g
 else if op=8 then Nt (k_ ks 0) (k_ ks 1) g
 else if op=6 then aK [⟨9,0,0⟩] (ym ks g)
 else aK [⟨10,op,0⟩] (ym ks g)
mutual
def ag:cv->Gs->Gs
 | .mk op n m pl args,g=>oF op n m pl (ld args) g
def ld:List cv->List Gk
 | []=>[]
 | x::r=>(λg=>ag x g)::ld r
end
theorem sD (x:cv) (g:Gs):ag x g=oF x.op x.n x.m x.pl (ld x.args) g:=by cases x; rw [ag]; rfl
theorem A9:∀l,ld l=l.map ag
 | []=>by rw [ld]; rfl
 | x::r=>by rw [ld,A9 r]; rfl
def ee (l:List cv) (g:Gs):Gs:=l.foldl (λg x=>ag x g) g
theorem DH (l:List cv) (g:Gs):ym (ld l) g=ee l g:=by rw [A9]; unfold ym ee; rw [List.foldl_map]
theorem aeI {l:List cv} {i:Nat} {x:cv} (h:l[i]? = some x) (g:Gs):ee (l.take (i+1)) g=ag x (ee (l.take i) g):=by
 unfold ee; rw [List.take_add_one,h]; simp
def Io (k0 body other:Gk) (ol:Nat) (g:Gs):Gs:=
 let g1:=k0 g
 let g3:=body (au ⟨12,0,0⟩ 1 0 g1)
 if 0<ol then bU g3.code.length (other (bU g1.code.length (au ⟨11,0,0⟩ 1 0 g3))) else bU g1.code.length g3
def UZ (k0 body:Gk) (g:Gs):Gs:=
 let g1:=k0 g
 bU g1.code.length (au ⟨11,(g.code.length:Int),0⟩ 1 0 (body (aK [⟨16,0,0⟩] (au ⟨12,0,0⟩ 1 0 g1))))
def pH (op n m pl:Int) (ks:List Gk) (body other:Gk) (ol:Nat) (g:Gs):Gs:=
 if op=1 then (if m<0 then aK [⟨3,pl,0⟩] (k_ ks 0 g) else au ⟨5,pl,0⟩ 3 m (k_ ks 0 g))
 else if op=2 then aK [⟨8,0,0⟩] (k_ ks 1 (au ⟨6,pl,n⟩ 3 m (k_ ks 0 g)))
 else if op=3 then aK [⟨17,0,0⟩] (au ⟨13,pl,0⟩ 2 m (ym ks g))
 else if op=4 then Io (k_ ks 0) body other ol g
 else if op=5 then UZ (k_ ks 0) body g
 else if op=6 then aK [⟨15,0,0⟩] (k_ ks 0 g)
 else if op=7 then aK [⟨19,0,0⟩] (k_ ks 0 g)
 else g
mutual
def lf:ck->Gs->Gs
 | .mk op n m pl args body other,g=>pH op n m pl (ld args) (λg=>bx body g) (λg=>bx other g) other.length g
def bx:List ck->Gs->Gs
 | [],g=>g
 | x::r,g=>bx r (lf x g)
end
theorem uw (x:ck) (g:Gs):lf x g=pH x.op x.n x.m x.pl (ld x.args) (λg=>bx x.body g) (λg=>bx x.other g) x.other.length g:=by cases x; rw [lf]; rfl
theorem U1:∀(a b:List ck) (g:Gs),bx (a++b) g=bx b (bx a g)
 | [],b,g=>by rw [bx]; rfl
 | x::r,b,g=>by rw [List.cons_append,bx,U1 r b,bx]
theorem aeJ {l:List ck} {i:Nat} {x:ck} (h:l[i]? = some x) (g:Gs):bx (l.take (i+1)) g=lf x (bx (l.take i) g):=by
 rw [List.take_add_one,h]
 show bx (l.take i++[x]) g=_
 rw [U1,bx,bx]
def lT (params locals:Int) (body:List ck) (g:Gs):Gs:=aK [⟨1,0,0⟩,⟨15,0,0⟩] (bx body (aK [⟨14,params,locals⟩] g))
def bV:List iJ->Gs->List Nat×Gs
 | [],g=>([],g)
 | p::r,g=>(g.code.length::(bV r (lT p.params p.locals p.body g)).1,(bV r (lT p.params p.locals p.body g)).2)
theorem U2:∀(a:List iJ) (p:iJ) (g:Gs),bV (a++[p]) g=((bV a g).1++[(bV a g).2.code.length],lT p.params p.locals p.body (bV a g).2)
 | [],p,g=>rfl
 | x::r,p,g=>by rw [List.cons_append,bV,U2 r p]; rfl
structure qS where
 nm:List UInt8
 ae:List (List UInt8)
 data:Int
 g:Gs
 di:List Nat
 main:Nat
def DI:qS:=⟨[],[],0,⟨[],[]⟩,[],0⟩
def DJ (u:ed):Bool:=sA u (List.replicate u.ae.length yk)
def DK (u:ed):qS:=
 let r:=bV u.parts ⟨[],[]⟩
 ⟨u.nm,u.ae,u.data,lT 0 0 u.main r.2,r.1,r.2.code.length⟩
def kD (u:ed):qS×Int:=if DJ u=false then (DI,1) else if 2048<(DK u).g.code.length then (DI,2) else (DK u,0)
structure GL (c:Nat) (g g':Gs):Prop where
 lo:g.code.length<=g'.code.length
 hi:g'.code.length<=g.code.length+c
 Nu:g.fix.length<=g'.fix.length
 fG:g'.fix.length<=g.fix.length+c
theorem GL.refl (c:Nat) (g:Gs):GL c g g:=⟨Nat.le_refl _,Nat.le_add_right _ _,Nat.le_refl _,Nat.le_add_right _ _⟩
theorem GL.trans {a b:Nat} {g g' DL:Gs} (h:GL a g g') (k:GL b g' DL):GL (a+b) g DL:=⟨Nat.le_trans h.lo k.lo,by have:=h.hi; have:=k.hi; omega,Nat.le_trans h.Nu k.Nu,by have:=h.fG; have:=k.fG; omega⟩
theorem GL.mono {a b:Nat} {g g':Gs} (h:GL a g g') (fK:a<=b):GL b g g':=⟨h.lo,by have:=h.hi; omega,h.Nu,by have:=h.fG; omega⟩
theorem kE (l:List aN) (g:Gs):GL l.length g (aK l g):=⟨by simp [aK],by simp [aK],Nat.le_refl _,Nat.le_add_right _ _⟩
theorem mF (i:aN) (k m:Int) (g:Gs):GL 1 g (au i k m g):=⟨by simp [au],by simp [au],by simp [au],by simp [au]⟩
theorem wu (n:Nat) (g:Gs):GL 0 g (bU n g):=⟨by simp [bU],by simp [bU],Nat.le_refl _,Nat.le_refl _⟩
theorem Nv {ks:List Gk} {cs:List Nat} (h:ks.length=cs.length) (hk:∀(i:Nat) k c,ks[i]? = some k->cs[i]? = some c->∀g,GL c g (k g)):∀g,GL cs.sum g (ym ks g):=by
 induction ks generalizing cs with
 | nil=>intro g; cases cs with | nil=>exact .refl _ _ | cons c r=>cases h
 | cons k r ih=>
   intro g
   cases cs with
   | nil=>cases h
   | cons c cr=>
     have h1:=hk 0 k c rfl rfl g;have h2:=ih (cs:=cr) (by simpa using h) (λi k' c' a b=>hk (i+1) k' c' (by simpa using a) (by simpa using b)) (k g);exact h1.trans h2
theorem Ip {ks:List Gk} {cs:List Nat} (h:ks.length=cs.length) (hk:∀(i:Nat) k c,ks[i]? = some k->cs[i]? = some c->∀g,GL c g (k g)) (i:Nat):∀g,GL ((cs[i]?).getD 0) g (k_ ks i g):=λg=>by
 unfold k_
 cases hi:ks[i]? with
 | none=>exact .refl _ _
 | some k=>
   have aw:=(List.getElem?_eq_some_iff.1 hi).1;obtain ⟨c,hc⟩:∃c,cs[i]? = some c:=⟨_,List.getElem?_eq_getElem (by omega)⟩;rw [hc];exact hk i k c hi hc g
theorem U3:∀(cs:List Nat),(cs[0]?).getD 0+(cs[1]?).getD 0<=cs.sum
 | []=>by simp
 | [a]=>by simp
 | a::b::r=>by simp only [List.getElem?_cons_zero,List.getElem?_cons_succ,Option.getD_some,List.sum_cons]; omega
mutual
theorem lU:∀(x:cv) (g:Gs),GL (8*db x) g (ag x g)
 | .mk op n m pl args,g=>by
   rw [ag];have hk:=Iq args
   have hl:(ld args).length=(args.map λx=>8*db x).length:=by rw [A9]; simp
   have hs:(args.map λx=>8*db x).sum=8*ft args:=Ir args;have ha:=Nv hl hk;have h0:=Ip hl hk 0;have h1:=Ip hl hk 1;have h2:=U3 (args.map λx=>8*db x);rw [hs] at ha h2
   have hw:db (.mk op n m pl args)=1+ft args:=by rw [db]
   rw [hw];unfold oF
   split
   · exact (kE _ g).mono (by simp only [List.length_cons,List.length_nil]; omega)
   · split
     · exact (kE _ g).mono (by simp only [List.length_cons,List.length_nil]; omega)
     · split
       · exact (kE _ g).mono (by simp only [List.length_cons,List.length_nil]; omega)
       · split
         · exact (mF _ _ _ g).mono (by omega)
         · split
           · exact (((h0 g).trans (mF _ _ _ _)).trans (kE _ _)).mono (by simp only [List.length_cons,List.length_nil]; omega)
           · split
             · exact ((ha g).trans (mF _ _ _ _)).mono (by omega)
             · split
               · unfold Nr
                 exact (((((((h0 g).trans (mF _ _ _ _)).trans (h1 _)).trans (kE _ _)).trans (mF _ _ _ _)).trans (wu _ _)).trans (kE _ _) |>.trans (wu _ _)).mono (by simp only [List.length_cons,List.length_nil]; omega)
               · split
                 · unfold Nt
                   exact (((((((h0 g).trans (mF _ _ _ _)).trans (kE _ _)).trans (mF _ _ _ _)).trans (wu _ _)).trans (h1 _)).trans (kE _ _) |>.trans (wu _ _)).mono (by simp only [List.length_cons,List.length_nil]; omega)
                 · split
                   · exact ((ha g).trans (kE _ _)).mono (by simp only [List.length_cons,List.length_nil]; omega)
                   · exact ((ha g).trans (kE _ _)).mono (by simp only [List.length_cons,List.length_nil]; omega)
theorem Iq:∀(l:List cv) (i:Nat) k c,(ld l)[i]? = some k->(l.map λx=>8*db x)[i]? = some c->∀g,GL c g (k g)
 | [],i,k,c,h,_,g=>by rw [ld] at h; simp at h
 | x::r,0,k,c,h,hc,g=>by
   rw [ld] at h;simp at h hc;subst h hc;exact lU x g
 | x::r,i+1,k,c,h,hc,g=>by
   rw [ld] at h;exact Iq r i k c (by simpa using h) (by simpa using hc) g
theorem Ir:∀(l:List cv),(l.map λx=>8*db x).sum=8*ft l
 | []=>by simp [ft]
 | x::r=>by rw [List.map_cons,List.sum_cons,Ir r,ft]; omega
end
mutual
theorem aeK:∀(x:ck) (g:Gs),GL (8*qQ x) g (lf x g)
 | .mk op n m pl args body other,g=>by
   rw [lf];have hk:=Iq args
   have hl:(ld args).length=(args.map λx=>8*db x).length:=by rw [A9]; simp
   have ha:=Nv hl hk;have h0:=Ip hl hk 0;have h1:=Ip hl hk 1;have h2:=U3 (args.map λx=>8*db x);rw [Ir] at ha h2;have hb:=ux body;have ho:=ux other
   have hw:qQ (.mk op n m pl args body other)=1+ft args+dR body+dR other:=by rw [qQ]
   rw [hw];unfold pH
   split
   · split
     · exact ((h0 g).trans (kE _ _)).mono (by simp only [List.length_cons,List.length_nil]; omega)
     · exact ((h0 g).trans (mF _ _ _ _)).mono (by omega)
   · split
     · exact ((((h0 g).trans (mF _ _ _ _)).trans (h1 _)).trans (kE _ _)).mono (by simp only [List.length_cons,List.length_nil]; omega)
     · split
       · exact (((ha g).trans (mF _ _ _ _)).trans (kE _ _)).mono (by simp only [List.length_cons,List.length_nil]; omega)
       · split
         · unfold Io
           dsimp only
           split
           · exact ((((((h0 g).trans (mF _ _ _ _)).trans (hb _)).trans (mF _ _ _ _)).trans (wu _ _)).trans (ho _) |>.trans (wu _ _)).mono (by omega)
           · exact ((((h0 g).trans (mF _ _ _ _)).trans (hb _)).trans (wu _ _)).mono (by omega)
         · split
           · unfold UZ
             exact ((((((h0 g).trans (mF _ _ _ _)).trans (kE _ _)).trans (hb _)).trans (mF _ _ _ _)).trans (wu _ _)).mono (by simp only [List.length_cons,List.length_nil]; omega)
           · split
             · exact ((h0 g).trans (kE _ _)).mono (by simp only [List.length_cons,List.length_nil]; omega)
             · split
               · exact ((h0 g).trans (kE _ _)).mono (by simp only [List.length_cons,List.length_nil]; omega)
               · exact .refl _ _
theorem ux:∀(l:List ck) (g:Gs),GL (8*dR l) g (bx l g)
 | [],g=>by rw [bx]; exact .refl _ _
 | x::r,g=>by
   rw [bx,dR];exact ((aeK x g).trans (ux r _)).mono (by omega)
end
theorem aeL (pa lo:Int) (b:List ck) (g:Gs):GL (8*(1+dR b)) g (lT pa lo b g):=by
 unfold lT;exact (((kE _ g).trans (ux b _)).trans (kE _ _)).mono (by simp only [List.length_cons,List.length_nil]; omega)
theorem Nw:∀(l:List iJ) (g:Gs),GL (8*k9 l) g (bV l g).2/\(bV l g).1.length=l.length
 | [],g=>⟨.refl _ _,rfl⟩
 | p::r,g=>by
   have ih:=Nw r (lT p.params p.locals p.body g);refine ⟨?_,by simp [bV,ih.2]⟩;rw [bV,k9];exact ((aeL p.params p.locals p.body g).trans ih.1).mono (by unfold DE; omega)
section
variable {P:Program} {ops:Array Oper} {Q:Exit->Act->World->Prop} {n:Nat} {ds:List Deferred} {l:List (Nat×Value)} {w0:World} {F:List Nat} {L:List ak} {Vs:List View} {rest:List Oper}
 {ty:TypeId} {pos:String} {af:Array Edge} {g:Option (Nat×Bool)} {d:Nat}
theorem WL.wv {ι:Type} {f:FuncId} {cx:Operand} {eF:Array Value} {args:Array Operand} {ts:Array TypeId} {vs:List Value} (L1 L2:List ak) (hg:cB ops l g) (hn:Nat.blt d n=true) (hf:Enters P f) (qC:aB l cx=some (.func (.func f) #[] eF)) (ha:ik l args.toList=some vs) (hL:L=L1++L2)
   (v:ι->Value) (ew:ι->List ak) (R:ι->Prop) (a_:List View) (hV:∀H ∈ a_,H ∈ Vs)
   (hC:∀w,Ws w (L1.flatMap ak.ids) L1 a_ w->Calls P f (vs.toArray++eF) w λe w'=>∃i,e = .returned (v i)/\R i/\Ws w (L1.flatMap ak.ids) (ew i) a_ w')
   (hr:∀i,R i->WL P ops Q n ds ((d,v i)::l) (Ws w0 F (ew i++L2) Vs) rest) :
   WL P ops Q n ds l (Ws w0 F L Vs) (⟨some d,.call ⟨.value cx,args,ts⟩,ty,pos,af,g⟩::rest):=
 WL.acO (κ:=Empty) L1 L2 hg hn hf qC ha hL v ew R (λ_=>[]) (λ_=>[]) (λ_=>False) a_ hV (λw hw=>(hC w hw).mono λe w' h=>.inl h) (λj=>nomatch j) hr
end
def aN.cells (x:aN):List Value:=[.int .i64 x.op,.int .i64 x.a,.int .i64 x.b]
theorem aN.a8 (x:aN):x.cells.length=3:=rfl
theorem aN.one (x:aN):x.cells.all (·.oneCell')=true:=rfl
def fH (H:View) (b o:Nat) (x:aN):Prop:=aT H b o x.cells
def dS.cells (x:dS):List Value:=[.int .i64 x.at_,.int .i64 x.kind,.int .i64 x.m]
theorem dS.a8 (x:dS):x.cells.length=3:=rfl
theorem dS.one (x:dS):x.cells.all (·.oneCell')=true:=rfl
def Nx (H:View) (b o:Nat) (x:dS):Prop:=aT H b o x.cells
structure gi where
 nm:List UInt8
 v1:Value
 data:Int
 v5:Value
 v6:Value
structure a6 where
 g:Gs
 ca:Option Addr×Nat
 fa:Option Addr×Nat
def sE (T:TypeId) (K:gi) (t:a6):Obj:=.cells #[st K.nm,K.v1,.int .i64 K.data,.slice t.ca.1 t.g.code.length t.ca.2,.slice t.fa.1 t.g.fix.length t.fa.2,K.v5,K.v6] T (0,0)
abbrev aS (T tI tF:TypeId) (sb:Nat) (K:gi) (t:a6):List ak:=[ab sb (sE T K t),bo tI 3 aN.cells t.ca.1 t.ca.2 t.g.code,bo tF 3 dS.cells t.fa.1 t.fa.2 t.g.fix]
theorem nH {l:List cv} {i:Nat} {y:cv} (h:l[i]? = some y):k_ (ld l) i=ag y:=by
 unfold k_; rw [A9,List.getElem?_map,h]; rfl
theorem A_:∀{l:List cv} {i:Nat} {x:cv},l[i]? = some x->ft (l.take (i+1))=ft (l.take i)+db x/\ft (l.take (i+1))<=ft l
 | [],_,_,h=>by simp at h
 | y::r,0,x,h=>by
   simp at h; subst h;simp [ft]
 | y::r,i+1,x,h=>by
   obtain ⟨h1,h2⟩:=A_ (l:=r) (i:=i) (by simpa using h);simp only [List.take_succ_cons,ft];omega
theorem U4:∀{l:List ck} {i:Nat} {x:ck},l[i]? = some x->dR (l.take (i+1))=dR (l.take i)+qQ x/\dR (l.take (i+1))<=dR l
 | [],_,_,h=>by simp at h
 | y::r,0,x,h=>by
   simp at h; subst h;simp [dR]
 | y::r,i+1,x,h=>by
   obtain ⟨h1,h2⟩:=U4 (l:=r) (i:=i) (by simpa using h);simp only [List.take_succ_cons,dR];omega
theorem Is (l:List cv) (g:Gs):GL (8*ft l) g (ee l g):=by
 have hl:(ld l).length=(l.map λx=>8*db x).length:=by rw [A9]; simp
 have h:=Nv hl (Iq l) g;rw [DH,Ir] at h;exact h
theorem aeM (x:cv):db x=1+ft x.args:=by cases x; rw [db]; rfl
theorem aeN (x:ck):qQ x=1+ft x.args+dR x.body+dR x.other:=by cases x; rw [qQ]; rfl
theorem aeO {l:List aN} {n:Nat} {x:aN} (f:aN->aN) (h:l[n]? = some x):l.modify n f=l.set n (f x):=by
 apply List.ext_getElem?;intro i;rw [List.getElem?_modify,List.getElem?_set]
 by_cases e:n=i
 · subst e
   obtain ⟨h1,h2⟩:=List.getElem?_eq_some_iff.1 h;simp [h1,h2]
 · simp [e]
theorem aeP {n:Nat} {g:Gs} {x:aN} (h:g.code[n]? = some x):bU n g = { g with code:=g.code.set n ⟨x.op,(g.code.length:Int),x.b⟩ }:=by
 unfold bU; rw [aeO _ h]
theorem aeQ {kn:List cF} {av op n m pl:Int} {len:Nat} (h:node1 kn av op n m pl len=true):(op=4\/op=6->len=1)/\(7<=op/\op<=15->len=2)/\1<=op/\op<=16:=by
 unfold node1 at h
 split at h
 · subst_vars; omega
 · split at h
   · subst_vars; omega
   · split at h
     · subst_vars; simp at h; omega
     · split at h
       · subst_vars; omega
       · split at h
         · subst_vars; omega
         · split at h
           · subst_vars; omega
           · split at h
             · subst_vars; simp at h; omega
             · split at h
               · simp at h; omega
               · cases h
theorem aeR {kn:List cF} {av op n m pl:Int} {na nb no:Nat} (h:nE kn av op n m pl na nb no=true):(op=1\/op=4\/op=5\/op=6\/op=7->na=1)/\(op=2->na=2)/\1<=op/\op<=7:=by
 unfold nE at h
 split at h
 · subst_vars; simp at h; omega
 · split at h
   · subst_vars; simp at h; omega
   · split at h
     · subst_vars; omega
     · split at h
       · subst_vars; simp at h; omega
       · split at h
         · subst_vars; simp at h; omega
         · split at h
           · simp at h; omega
           · cases h
def Ba (x:cv):Prop:=∃kn av d,uu kn av x d=true
def Bb (l:List cv):Prop:=∃kn av d,nF kn av l d=true
def It (x:ck):Prop:=∃kn av d,sz kn av x d=true
def sF (l:List ck):Prop:=∃kn av d,uv kn av l d=true
theorem Bb.at_ {l:List cv} (h:Bb l) {i:Nat} {x:cv} (hx:l[i]? = some x):Ba x:=by
 obtain ⟨kn,av,d,h⟩:=h;rw [Ig] at h;exact ⟨kn,av,d,List.all_eq_true.1 h x (List.mem_of_getElem? hx)⟩
theorem Ba.args {x:cv} (h:Ba x):Bb x.args/\(x.op=4\/x.op=6->x.args.length=1)/\(7<=x.op/\x.op<=15->x.args.length=2)/\1<=x.op/\x.op<=16:=by
 obtain ⟨kn,av,d,h⟩:=h;rw [UI] at h;obtain ⟨_,h⟩:=Bool.and_eq_true_iff.1 h;obtain ⟨h1,h2⟩:=Bool.and_eq_true_iff.1 h;exact ⟨⟨kn,av,_,h2⟩,aeQ h1⟩
theorem sF.at_ {l:List ck} (h:sF l) {i:Nat} {x:ck} (hx:l[i]? = some x):It x:=by
 obtain ⟨kn,av,d,h⟩:=h;rw [Ni] at h;exact ⟨kn,av,d,List.all_eq_true.1 h x (List.mem_of_getElem? hx)⟩
theorem It.parts {x:ck} (h:It x):Bb x.args/\(x.op=4\/x.op=5->sF x.body)/\sF x.other/\(x.op=1\/x.op=4\/x.op=5\/x.op=6\/x.op=7->x.args.length=1)/\(x.op=2->x.args.length=2)/\1<=x.op/\x.op<=7:=by
 obtain ⟨kn,av,d,h⟩:=h;rw [UJ] at h;obtain ⟨h1,h⟩:=Bool.and_eq_true_iff.1 h;obtain ⟨h2,h⟩:=Bool.and_eq_true_iff.1 h;obtain ⟨h3,h4⟩:=Bool.and_eq_true_iff.1 h;refine ⟨⟨kn,av,_,h2⟩,λhw=>?_,?_,aeR h1⟩
 · have:Dv x.op=true:=by unfold Dv; simpa using hw
   rw [this] at h3
   have h5:iL kn av x.body (d+1)=true:=by simpa using h3
   unfold iL at h5;exact ⟨kn,av,d+1,(Bool.and_eq_true_iff.1 (Bool.and_eq_true_iff.1 h5).2).2⟩
 · by_cases h0:0<x.other.length
   · rw [decide_eq_true h0] at h4
     have h5:iL kn av x.other (d+1)=true:=by simpa using h4
     unfold iL at h5;exact ⟨kn,av,d+1,(Bool.and_eq_true_iff.1 (Bool.and_eq_true_iff.1 h5).2).2⟩
   · have:x.other=[]:=List.eq_nil_of_length_eq_zero (by omega)
     rw [this];exact ⟨kn,av,d,by rw [uv]⟩
theorem aeS {α:Type} {f:α->List Value} {x:α} {zs:Array Value} (h:zs.toList=f x) (Dd:0<(f x).length) (k:Nat):madeCells zs (k*(f x).length)=((List.replicate k x).flatMap f).toArray:=by
 apply Array.ext';simp only [madeCells]
 have hs:zs.size=(f x).length:=by rw [<-h]; simp
 have hl:((List.replicate k x).flatMap f).length=k*(f x).length:=by
   induction k with
   | zero=>simp
   | succ k ih=>rw [List.replicate_succ,List.flatMap_cons,List.length_append,ih,Nat.succ_mul]; omega
 apply List.ext_getElem
 · simp [hl]
 · intro i h1 h2
   simp
   have key:∀(k i:Nat) (hi:i<k*(f x).length),((List.replicate k x).flatMap f)[i]? = (f x)[i % (f x).length]?:=by
     intro k
     induction k with
     | zero=>intro i hi; omega
     | succ k ih=>
       intro i hi;rw [List.replicate_succ,List.flatMap_cons,List.getElem?_append]
       split
       · rename_i aw; rw [Nat.mod_eq_of_lt aw]
       · rename_i cz
         rw [Nat.succ_mul] at hi;rw [ih (i-(f x).length) (by omega),<-Nat.mod_eq_sub_mod (by omega)]
   have hi:i<k*(f x).length:=by rw [<-hl]; exact h2
   have h3:=key k i hi;have hm:=Nat.mod_lt i Dd;rw [List.getElem?_eq_getElem h2,List.getElem?_eq_getElem hm] at h3
   injection h3 with h3
   rw [h3]
   have hz:zs[i % zs.size]? = (f x)[i % (f x).length]?:=by rw [hs,<-h]; simp
   rw [List.getElem?_eq_getElem hm] at hz;rw [getElem!_def,hz]
theorem bE:(∀i k m g,(au i k m g).code.length=g.code.length+1)/\(∀i k m g,(au i k m g).fix.length=g.fix.length+1)/\(∀l g,(aK l g).code.length=g.code.length+l.length)/\(∀l g,(aK l g).fix.length=g.fix.length)/\(∀n g,(bU n g).code.length=g.code.length)/\(∀n g,(bU n g).fix.length=g.fix.length)/\(∀(x:aN) l,(x::l).length=l.length+1)/\([]:List aN).length=0:=by
 refine ⟨λ_ _ _ _=>?_,λ_ _ _ _=>?_,λ_ _=>?_,λ_ _=>rfl,λ_ _=>?_,λ_ _=>rfl,λ_ _=>rfl,O⟩<;>simp [au,aK,bU]
def pI (x:Nat):List Value:=[.int .i64 (x:Int)]
theorem Ny (x:Nat):(pI x).length=1:=rfl
def sG (H:View) (b o:Nat) (x:Nat):Prop:=aT H b o (pI x)
structure mG where
 s1:Option Addr×Nat
 s2:Option Addr×Nat
 s3:Option Addr×Nat
 s4:Option Addr×Nat
def Nz (o:qS) (q:mG):List Value:=[st o.nm,.slice q.s1.1 o.ae.length q.s1.2,.int .i64 o.data,.slice q.s2.1 o.g.code.length q.s2.2,.slice q.s3.1 o.g.fix.length q.s3.2,.slice q.s4.1 o.di.length q.s4.2,.int .i64 (o.main:Int)]
structure NA (H:View) (q:mG) (o:qS):Prop where
 ae:Sl rdStr 1 H q.s1.1 q.s1.2 o.ae
 code:Sl fH 3 H q.s2.1 q.s2.2 o.g.code
 fix:Sl Nx 3 H q.s3.1 q.s3.2 o.g.fix
 di:Sl sG 1 H q.s4.1 q.s4.2 o.di
def NB:mG:=⟨(none,0),(none,0),(none,0),(none,0)⟩
theorem U5 (H:View):NA H NB DI:=⟨Sl.nil,Sl.nil,Sl.nil,Sl.nil⟩
theorem U6:∀{l:List iJ} {i:Nat} {x:iJ},l[i]? = some x->k9 (l.take (i+1))=k9 (l.take i)+DE x/\k9 (l.take (i+1))<=k9 l
 | [],_,_,h=>by simp at h
 | y::r,0,x,h=>by
   simp at h; subst h;simp [k9]
 | y::r,i+1,x,h=>by
   obtain ⟨h1,h2⟩:=U6 (l:=r) (i:=i) (by simpa using h);simp only [List.take_succ_cons,k9];omega
theorem aeT {l:List iJ} {i:Nat} {x:iJ} (h:l[i]? = some x) (g:Gs):bV (l.take (i+1)) g=((bV (l.take i) g).1++[(bV (l.take i) g).2.code.length],lT x.params x.locals x.body (bV (l.take i) g).2):=by
 rw [List.take_add_one,h];exact U2 _ _ _
theorem U7 {kn:List cF} {av:Int} {l:List ck} (h:iL kn av l 1=true):sF l:=by
 unfold iL at h;exact ⟨kn,av,1,(Bool.and_eq_true_iff.1 (Bool.and_eq_true_iff.1 h).2).2⟩
theorem U8:∀l:List iJ,l.length<=k9 l
 | []=>Nat.zero_le _
 | s::r=>by have:=U8 r; simp only [List.length_cons,k9,DE]; omega
theorem aeU (u:ed):DF u=1+u.nm.length+wN u.ae+k9 u.parts+dR u.main:=rfl
theorem aeV {u:ed} (h:DJ u=true):(∀p ∈ u.parts,sF p.body)/\sF u.main:=by
 obtain ⟨h1,h2,_,_⟩:=aeF h;exact ⟨λp hp=>U7 (aeG (h1 p hp)).2.2.2.2,U7 h2⟩
end Go.Bw
end
section
namespace Go.Bw
open Go
def Rz.all {σ α:Type} (r:Rz σ α) (p:α->σ->Prop) (q:Wm->Prop):Prop:=match r with
 | .ok a s=>p a s
 | .ov _ w=>q w
theorem Rz.all_bind {σ α β:Type} {r:Rz σ α} {f:α->σ->Rz σ β} {p:β->σ->Prop} {q:Wm->Prop} (h:r.all (λa s=>(f a s).all p q) q):(r.bind f).all p q:=by
 cases r with
 | ok a s=>exact h
 | ov e w=>exact h
theorem Rz.sH {σ α:Type} {r:Rz σ α} {p p':α->σ->Prop} {q q':Wm->Prop} (h:r.all p q) (hp:∀a s,p a s->p' a s) (hq:∀w,q w->q' w):r.all p' q':=by
 cases r with
 | ok a s=>exact hp _ _ h
 | ov e w=>exact hq _ h
theorem Rz.U9 {α:Type} {r:Rz Wm α} {f:Fm} {p:α->Fm->Prop} {q:Wm->Prop} (h:r.all (λa w=>p a { f with w:=w }) q):(Rz.fr f r).all p q:=by
 cases r with
 | ok a s=>exact h
 | ov e w=>exact h
structure Kw (P:Env) (w w':Wm):Prop where
 bu:w.bu<=w'.bu
 eW:w.bu<=P.eW->w'.bu<=P.eW
 len:w'.data.length=w.data.length
 out:w.out.length<=200->w'.out.length<=200
 pre:w.out <+: w'.out
structure Kp (P:Env) (w w':Wm):Prop extends Kw P w w' where
 calls:w'.calls=w.calls
section
variable {P:Env} {a b c:Wm}
theorem Kw.refl (P:Env) (a:Wm):Kw P a a:=⟨Nat.le_refl _,id,rfl,id,List.prefix_rfl⟩
theorem Kw.trans (h:Kw P a b) (k:Kw P b c):Kw P a c:=⟨Nat.le_trans h.bu k.bu,λx=>k.eW (h.eW x),k.len.trans h.len,λx=>k.out (h.out x),h.pre.trans k.pre⟩
theorem Kp.refl (P:Env) (a:Wm):Kp P a a:=⟨Kw.refl P a,rfl⟩
theorem Kp.trans (h:Kp P a b) (k:Kp P b c):Kp P a c:=⟨h.toKw.trans k.toKw,k.calls.trans h.calls⟩
abbrev RK {α:Type} (P:Env) (w:Wm) (r:Rz Wm α):Prop:=r.all (λ_ w'=>Kp P w w') (Kw P w)
theorem RK.ok {α:Type} (v:α) (w:Wm):RK P w (.ok v w):=Kp.refl P w
theorem RK.ov {α:Type} (e:Int) (w:Wm):RK (α:=α) P w (.ov e w):=Kw.refl P w
theorem RK.bind {α β:Type} {w:Wm} {r:Rz Wm α} {f:α->Wm->Rz Wm β} (h:RK P w r) (k:∀v w',RK P w' (f v w')):RK P w (r.bind f):=
 Rz.all_bind (Rz.sH h (λv w' hw=>Rz.sH (k v w') (λ_ _ h2=>hw.trans h2) λ_ h2=>hw.toKw.trans h2) λ_ h=>h)
abbrev EK (P:Env) (k:Ev):Prop:=∀loc w,RK P w (k loc w)
abbrev CK (P:Env) (call:Cl):Prop:=∀u loc body w,RK P w (call u loc body w)
abbrev FK {α:Type} (P:Env) (f:Fm) (r:Rz Fm α):Prop:=r.all (λ_ f'=>Kp P f.w f'.w/\f'.loc.length=f.loc.length) (Kw P f.w)
theorem FK.ok {α:Type} (v:α) (f:Fm):FK P f (.ok v f):=⟨Kp.refl P f.w,rfl⟩
theorem FK.bind {α β:Type} {f:Fm} {r:Rz Fm α} {g:α->Fm->Rz Fm β} (h:FK P f r) (k:∀v f',FK P f' (g v f')):FK P f (r.bind g):=
 Rz.all_bind (Rz.sH h (λv f' hw=>Rz.sH (k v f') (λ_ _ h2=>⟨hw.1.trans h2.1,h2.2.trans hw.2⟩) λ_ h2=>hw.1.toKw.trans h2) λ_ h=>h)
theorem FK.fr {α:Type} {f:Fm} {r:Rz Wm α} (h:RK P f.w r):FK P f (Rz.fr f r):=Rz.U9 (Rz.sH h (λ_ _ h=>⟨h,rfl⟩) λ_ h=>h)
end
end Go.Bw
end
section
namespace Go.Bw
open Go
theorem U' {σ α β:Type} {r:Rz σ α} {f:α->σ->Rz σ β} {a:α} {s:σ} (h:r = .ok a s):r.bind f=f a s:=by rw [h]; rfl
theorem NC {σ α β:Type} {r:Rz σ α} {f:α->σ->Rz σ β} {e:Int} {w:Wm} (h:r = .ov e w):r.bind f = .ov e w:=by rw [h]; rfl
theorem aeW {α:Type} {r:Rz Wm α} {f:Fm} {e:Int} {w:Wm} (h:r = .ov e w):Rz.fr f r = .ov e w:=by rw [h]; rfl
end Go.Bw
end
section
namespace Go.Bw
open Go
theorem U_ {l:List (List UInt8)} {x:List UInt8} {n:Nat} (h:x ∉ l) (hn:l.length=n):dN x (.int .i64 (n:Int)) (kC l 0) n=kC (l++[x]) 0/\jc x (kC l 0) n=n+1:=by
 subst hn
 have hf:bG x (kC l 0) 0=none:=by
   have:=Nn x l 0 0;rw [AZ.2 h] at this
   simpa using this
 unfold dN jc;rw [hf,UP];simp
theorem aeX {ns:List (List UInt8)} {i:Nat} {x:List UInt8} (hn:ns.Nodup) (hx:ns[i]? = some x):x ∉ ns.take i:=λhm=>by
 obtain ⟨j,hj⟩:=List.getElem?_of_mem hm;rw [List.getElem?_take] at hj
 split at hj
 · rename_i aw
   have hi:=(List.getElem?_eq_some_iff.1 hx).1;have:=(List.getElem?_inj hi hn).1 (hx.trans hj.symm);omega
 · cases hj
abbrev XI:=List Nat×(Option Addr×Nat)
def XI.cells (e:XI):List Value:=[.slice e.2.1 e.1.length e.2.2]
theorem XI.a8 (e:XI):(XI.cells e).length=1:=rfl
structure KW where
 l:Option Addr×Nat
 u:Option Addr×Nat
 b:Option Addr×Nat
structure WSt where
 w:Wm
 i:Option Addr×Nat
 o:Option Addr×Nat
 d:Option Addr×Nat
def aeZ (H:View) (b o:Nat) (x:List Nat):Prop:=∃r:Option Addr×Nat,aT H b o [.slice r.1 x.length r.2]/\Sl sG 1 H r.1 r.2 x
structure as_ (H:View) (P:Env) (D C:Nat) (s:WSt):Prop where
 bh:Sl jd 1 H s.i.1 s.i.2 s.w.bh
 out:s.w.out.length<=200
 tk:s.w.bu<=P.eW
 ix:s.w.data.length=D
 cl:s.w.calls=C
structure ata (H:View) (n:Nat) (K:KW) (l:List ed) (eW:Nat):Prop where
 ok:aeE l
 eW:eW<=2000
 atb:Sl (aeH n) 5 H K.l.1 K.l.2 l
 ae:Sl aeZ 1 H K.u.1 K.u.2 (aeD l)
 DD:Sl sG 1 H K.b.1 K.b.2 (UX l 0)
theorem XI.one (e:XI):(XI.cells e).all (·.oneCell')=true:=rfl
def ND (J:View) (e:XI):Prop:=Sl sG 1 J e.2.1 e.2.2 e.1
theorem ae0 {H N:View} (hv:aL H N) (b o:Nat) (x:Nat) (h:sG H b o x):sG N b o x:=aT.mono hv h
theorem ND.mv {A B:View} {e:XI} (hv:aL A B) (h:ND A e):ND B e:=Sl.imp (λb o x h=>ae0 hv b o x h) h
structure RGh where
 i:Nat
 es:List XI
 ua:Option Addr×Nat
 ba:Option Addr×Nat
 J:View
end Go.Bw
end
section
namespace Go.Bw
open Go
def Sm {σ α:Type} (E:σ->σ->Prop) (G:Wm->Wm->Prop) (X:Prop) (o:σ->List Int) (r1 r2:Rz σ α):Prop:=match r1 with
 | .ok a s1=>∃s2,r2 = .ok a s2/\E s1 s2
 | .ov e w1=>(∃w2,r2 = .ov e w2/\G w1 w2)\/(X/\e=3/\r2.all (λ_ s=>w1.out <+: o s) (λw=>w1.out <+: w.out))
def Va (w:Wm):Rz Wm Int:=match w.bh with | []=>.ok 0 w | x::r=>.ok x { w with bh:=r }
structure Sim (P1 P2:Env) (E G:Wm->Wm->Prop) (X:Prop):Prop where
 l:P1.l=P2.l
 ae:P1.ae=P2.ae
 DD:P1.DD=P2.DD
 eg:∀{a b},E a b->G a b
 data:∀{a b},E a b->a.data=b.data
 out:∀{a b},E a b->a.out=b.out
 calls:∀{a b},E a b->a.calls=b.calls
 tk:∀{a b},E a b->a.bu=b.bu/\a.bu<=P1.eW/\P1.eW<=P2.eW
 tick:∀{a b},E a b->Sm E G X (·.out) (UW P1 a) (UW P2 b)
 read:∀{a b},E a b->Sm E G X (·.out) (Va a) (Va b)
 atd:∀{a b} d,E a b->E { a with data:=d } { b with data:=d }
 ate:∀{a b} d,E a b->E { a with out:=d } { b with out:=d }
 atf:∀{a b} d,E a b->E { a with calls:=d } { b with calls:=d }
section
variable {P1 P2:Env} {E G:Wm->Wm->Prop} {X:Prop}
abbrev SW {α:Type} (E G:Wm->Wm->Prop) (X:Prop) (r1 r2:Rz Wm α):Prop:=Sm E G X (·.out) r1 r2
structure EF (E:Wm->Wm->Prop) (f g:Fm):Prop where
 loc:f.loc=g.loc
 val:f.val=g.val
 w:E f.w g.w
abbrev SF {α:Type} (E G:Wm->Wm->Prop) (X:Prop) (r1 r2:Rz Fm α):Prop:=Sm (EF E) G X (·.w.out) r1 r2
theorem SW.bind (P2:Env) {α β:Type} {r1 r2:Rz Wm α} {f1 f2:α->Wm->Rz Wm β} (h:SW E G X r1 r2) (k:∀a s1 s2,E s1 s2->SW E G X (f1 a s1) (f2 a s2)) (m:∀a s,RK P2 s (f2 a s)):SW E G X (r1.bind f1) (r2.bind f2):=by
 cases r1 with
 | ok a s1=>obtain ⟨s2,rfl,he⟩:=h; exact k a s1 s2 he
 | ov e w1=>
   rcases h with ⟨w2,rfl,hg⟩ | ⟨hx,h3,ha⟩
   · exact .inl ⟨w2,O,hg⟩
   · refine .inr ⟨hx,h3,Rz.all_bind (Rz.sH ha (λa s hs=>?_) λ_ h=>h)⟩
     exact Rz.sH (m a s) (λ_ _ h=>hs.trans h.pre) λ_ h=>hs.trans h.pre
theorem SF.bind (P2:Env) {α β:Type} {r1 r2:Rz Fm α} {f1 f2:α->Fm->Rz Fm β} (h:SF E G X r1 r2) (k:∀a s1 s2,r2 = .ok a s2->EF E s1 s2->SF E G X (f1 a s1) (f2 a s2)) (m:∀a s,FK P2 s (f2 a s)):SF E G X (r1.bind f1) (r2.bind f2):=by
 cases r1 with
 | ok a s1=>obtain ⟨s2,rfl,he⟩:=h; exact k a s1 s2 rfl he
 | ov e w1=>
   rcases h with ⟨w2,rfl,hg⟩ | ⟨hx,h3,ha⟩
   · exact .inl ⟨w2,O,hg⟩
   · refine .inr ⟨hx,h3,Rz.all_bind (Rz.sH ha (λa s hs=>?_) λ_ h=>h)⟩
     exact Rz.sH (m a s) (λ_ _ h=>hs.trans h.1.pre) λ_ h=>hs.trans h.pre
theorem SF.fr {α:Type} {r1 r2:Rz Wm α} {f g:Fm} (h:SW E G X r1 r2) (he:EF E f g):SF E G X (Rz.fr f r1) (Rz.fr g r2):=by
 cases r1 with
 | ok a s1=>obtain ⟨s2,rfl,h2⟩:=h; exact ⟨_,rfl,he.loc,he.val,h2⟩
 | ov e w1=>
   rcases h with ⟨w2,rfl,hg⟩ | ⟨hx,h3,ha⟩
   · exact .inl ⟨w2,O,hg⟩
   · exact .inr ⟨hx,h3,Rz.U9 (Rz.sH ha (λ_ _ h=>h) λ_ h=>h)⟩
theorem SW.ok {α:Type} (a:α) {s1 s2:Wm} (h:E s1 s2):SW E G X (.ok a s1) (.ok a s2):=⟨s2,rfl,h⟩
theorem SF.ok {α:Type} (a:α) {s1 s2:Fm} (h:EF E s1 s2):SF E G X (.ok a s1) (.ok a s2):=⟨s2,rfl,h⟩
theorem SW.ov {α:Type} (S:Sim P1 P2 E G X) (e:Int) {s1 s2:Wm} (h:E s1 s2):SW (α:=α) E G X (.ov e s1) (.ov e s2):=.inl ⟨s2,rfl,S.eg h⟩
structure EE (P2:Env) (E G:Wm->Wm->Prop) (X:Prop) (k1 k2:Ev):Prop where
 go:∀loc {a b},E a b->SW E G X (k1 loc a) (k2 loc b)
 kp:EK P2 k2
structure CC (P2:Env) (E G:Wm->Wm->Prop) (X:Prop) (c1 c2:Cl):Prop where
 go:∀u loc body {a b},E a b->SW E G X (c1 u loc body a) (c2 u loc body b)
 kp:CK P2 c2
inductive KE (P2:Env) (E G:Wm->Wm->Prop) (X:Prop):List Ev->List Ev->Prop where
 | nil:KE P2 E G X [] []
 | cons {x y:Ev} {r q:List Ev} (h:EE P2 E G X x y) (t:KE P2 E G X r q):KE P2 E G X (x::r) (y::q)
theorem KE.kp:∀{k1 k2:List Ev},KE P2 E G X k1 k2->∀k ∈ k2,EK P2 k
 | _,_,.nil,k,h=>by simp at h
 | _,_,.cons h1 h2,k,h=>by
   rcases List.mem_cons.1 h with rfl | h
   · exact h1.kp
   · exact KE.kp h2 k h
structure AA (P2:Env) (E G:Wm->Wm->Prop) (X:Prop) (b1 b2:Fm->Rz Fm Bool):Prop where
 go:∀{f g},EF E f g->SF E G X (b1 f) (b2 g)
 kp:∀f,FK P2 f (b2 f)
end
end Go.Bw
end
section
namespace Go.Bw
open Go
structure atg (eW:Nat) (a b:Wm):Prop where
 data:a.data=b.data
 out:a.out=b.out
 bu:a.bu=b.bu
 calls:a.calls=b.calls
 tl:a.bu<=eW
 bh:b.bh=a.bh++[0]\/(a.bh=[]/\b.bh=[])
end Go.Bw
end
section
namespace Go.Bw
open Go
structure Ren (l l':List bc) (f:Nat->Nat):Prop where
 len:l'.length=l.length
 inv:∀k,f (f k)=k
 lt:∀k,k<l.length->f k<l.length
 get:∀k,k<l.length->l'[f k]? = l[k]?
theorem Ren.nm {l l':List bc} {f:Nat->Nat} (h:Ren l l' f) {k:Nat} (hk:k<l.length):kB l' (f k)=kB l k:=by unfold kB; rw [h.get k hk]
theorem Ren.us {l l':List bc} {f:Nat->Nat} (h:Ren l l' f) {k:Nat} (hk:k<l.length):sC l' (f k)=sC l k:=by unfold sC; rw [h.get k hk]
theorem Ren.back {l l':List bc} {f:Nat->Nat} (h:Ren l l' f):Ren l' l f:=⟨h.len.symm,h.inv,λk hk=>by rw [h.len] at hk ⊢; exact h.lt k hk,λk hk=>by
 rw [h.len] at hk;have:=h.get (f k) (h.lt k hk);rw [h.inv] at this
 exact this.symm⟩
theorem Ren.mem {l l':List bc} {f:Nat->Nat} (h:Ren l l' f) {m:bc} (hm:m ∈ l):m ∈ l':=by
 obtain ⟨k,hk⟩:=List.getElem?_of_mem hm;have aw:=(List.getElem?_eq_some_iff.1 hk).1;rw [<-h.get k aw] at hk;exact List.mem_of_getElem? hk
theorem Ren.nodup {l l':List bc} {f:Nat->Nat} (h:Ren l l' f) (hn:(nG l).Nodup):(nG l').Nodup:=by
 unfold List.Nodup;rw [List.pairwise_iff_getElem];intro i j hi hj wi e;rw [Ij] at hi hj
 have h1:kB l' i=kB l' j:=by
   have e1:=Dz (List.getElem?_eq_getElem hi);have e2:=Dz (List.getElem?_eq_getElem hj);rw [List.getElem?_eq_getElem (by rw [Ij]; exact hi)] at e1;rw [List.getElem?_eq_getElem (by rw [Ij]; exact hj)] at e2
   injection e1 with e1
   injection e2 with e2
   rw [Dy (List.getElem?_eq_getElem hi),Dy (List.getElem?_eq_getElem hj),<-e1,<-e2,e]
 have hb:=h.back;rw [<-hb.nm hi,<-hb.nm hj] at h1;have h2:=UO hn (by have:=hb.lt i hi; rw [h.len] at this; exact this) (by have:=hb.lt j hj; rw [h.len] at this; exact this) h1;have h3:=congrArg f h2;rw [h.inv,h.inv] at h3;omega
theorem Ren.place {l l':List bc} {f:Nat->Nat} (h:Ren l l' f) (hn:(nG l).Nodup) {s:List UInt8} {p:Nat} (hp:sB l s=some p):sB l' s=some (f p):=by
 obtain ⟨h1,h2⟩:=UN hp;have h3:=aeu (h.nodup hn) (i:=f p) (by rw [h.len]; exact h.lt p h1);rw [h.nm h1,h2] at h3;exact h3
theorem Ren.ok {l l':List bc} {f:Nat->Nat} (h:Ren l l' f) (ho:Nj l):Nj l':=
 ⟨by rw [h.len]; exact ho.ep,λm hm=>ho.yl m (h.back.mem hm),h.nodup ho.nd,λm hm s hs=>by
   obtain ⟨p,hp⟩:=ho.ae m (h.back.mem hm) s hs
   exact ⟨f p,h.place ho.nd hp⟩⟩
theorem Ren.contains {l l':List bc} {f:Nat->Nat} (h:Ren l l' f) (d:List Nat) (x:Nat):(d.map f).contains (f x)=d.contains x:=by
 rw [Bool.eq_iff_iff];simp only [List.contains_iff_mem,List.mem_map]
 constructor
 · rintro ⟨y,hy,e⟩
   have:=congrArg f e;rw [h.inv,h.inv] at this;rw [<-this]; exact hy
 · exact λhx=>⟨x,hx,O⟩
theorem Ren.ready {l l':List bc} {f:Nat->Nat} (h:Ren l l' f) (ho:Nj l) (d:List Nat) {x:Nat} (hx:x<l.length):DA l' (d.map f) (f x)=DA l d x:=by
 unfold DA;rw [h.contains,h.us hx]
 congr 1
 have key:∀u:List (List UInt8),(∀s ∈ u,∃p,sB l s=some p)->u.all (Ik l' (d.map f))=u.all (Ik l d):=by
   intro u
   induction u with
   | nil=>intro _; rfl
   | cons s r ih=>
     intro hu;obtain ⟨p,hp⟩:=hu s (by simp);rw [List.all_cons,List.all_cons,ih λs hs=>hu s (by simp [hs])]
     congr 1
     unfold Ik;rw [hp,h.place ho.nd hp];exact h.contains d p
 refine key _ λs hs=>?_;rw [aet (List.getElem?_eq_getElem hx)] at hs;exact ho.ae _ (List.getElem_mem hx) s hs
end Go.Bw
end
section
namespace Go.Bw
open Go
def oG (a b:List Bool):Prop:=∀j:Nat,a[j]? = some true->b[j]? = some true
theorem oG.refl (a:List Bool):oG a a:=λ_ h=>h
theorem oG.count:∀{a b:List Bool},a.length=b.length->oG a b->a.count true<=b.count true/\(b.count true<=a.count true->a=b)
 | [],[],_,_=>⟨Nat.le_refl _,λ_=>rfl⟩
 | [],_::_,h,_=>by cases h
 | _::_,[],h,_=>by cases h
 | x::a,y::b,h,hs=>by
   obtain ⟨h1,h2⟩:=oG.count (a:=a) (b:=b) (by simpa using h) λj hj=>by simpa using hs (j+1) (by simpa using hj)
   have h0:x=true->y=true:=λe=>by simpa using hs 0 (by simp [e])
   cases x<;>cases y<;>simp at h0 ⊢
   · exact ⟨h1,h2⟩
   · exact ⟨by omega,by omega⟩
   · exact ⟨h1,h2⟩
theorem oG.set (a:List Bool) (p:Nat):oG a (a.set p true):=λj h=>by
 have aw:=(List.getElem?_eq_some_iff.1 h).1;rw [List.getElem?_set]
 by_cases e:p=j
 · subst e; simp [aw]
 · rw [if_neg e]; exact h
theorem oG.trans {a b c:List Bool} (h:oG a b) (k:oG b c):oG a c:=λj hj=>k j (h j hj)
def NF (l:List bc) (nm:List UInt8) (S:List Bool) (j:Nat):Prop:=S[j]? = some true\/kB l j=nm
def Bc (l:List bc) (S:List Bool) (s:List UInt8):Prop:=∃p,sB l s=some p/\S[p]? = some true
theorem Bc.sub {l:List bc} {a b:List Bool} {s:List UInt8} (h:Bc l a s) (hs:oG a b):Bc l b s:=let ⟨p,h1,h2⟩:=h; ⟨p,h1,hs p h2⟩
def ae2 (l:List bc) (nm:List UInt8) (S:List Bool):Prop:=∀j,j<l.length->NF l nm S j->∀s ∈ sC l j,Bc l S s
structure ae3 (l:List bc) (nm:List UInt8) (S:List Bool):Prop where
 len:S.length=l.length
 sound:∀j,S[j]? = some true->Go.Bw.Reach l nm (kB l j)
structure NG (l:List bc) (nm:List UInt8) (S0 S:List Bool) (j:Nat):Prop where
 ok:ae3 l nm S
 sub:oG S0 S
 same:ae2 l nm S0->S=S0
 done:∀i,i<j->NF l nm S0 i->∀s ∈ sC l i,Bc l S s
theorem NG.next {l:List bc} {nm:List UInt8} {S0 S:List Bool} {j:Nat} (h:NG l nm S0 S j) (hj:NF l nm S0 j->∀s ∈ sC l j,Bc l S s):NG l nm S0 S (j+1):=
 ⟨h.ok,h.sub,h.same,λi hi Iu=>by
   rcases Nat.lt_succ_iff_lt_or_eq.1 hi with h2 | h2
   · exact h.done i h2 Iu
   · subst h2; exact hj Iu⟩
def ltR (a b:List UInt8):Prop:=UM a b=true
def ae5 (l:List bc) (S:List Bool) (i:Nat):List (List UInt8):=((List.range i).filter λj=>(S[j]?).getD false).map (kB l)
structure ath (l:List bc) (S:List Bool) (i:Nat) (out:List (List UInt8)):Prop where
 perm:out.Perm (ae5 l S i)
 up:aew ltR out out.length
end Go.Bw
end
section
namespace Go.Bw
open Go
structure pJ where
 w:Wm
 fin:Int
 i:Option Addr×Nat
 o:Option Addr×Nat
def je {α:Type} (r:Rz Wm α) (v:α) (t:pJ):Prop:=(t.fin=0/\r = .ok v t.w)\/(t.fin≠0/\∃c,r = .ov t.fin { t.w with calls:=c })
def Stq {α:Type} (s:pJ) (r:Rz Wm α) (v:α) (t:pJ):Prop:=(s.fin≠0/\t=s)\/(s.fin=0/\je r v t)
theorem je.ok {α:Type} {r:Rz Wm α} {v:α} {t:pJ} (h0:t.fin=0) (h:r = .ok v t.w):je r v t:=.inl ⟨h0,h⟩
theorem je.ov {α:Type} {r:Rz Wm α} {v:α} {t:pJ} {c:Nat} (h0:t.fin≠0) (h:r = .ov t.fin { t.w with calls:=c }):je r v t:=.inr ⟨h0,c,h⟩
theorem je.get {α:Type} {r:Rz Wm α} {v:α} {t:pJ} (h:je r v t) (h0:t.fin=0):r = .ok v t.w:=by
 rcases h with ⟨_,h⟩ | ⟨h,_⟩
 · exact h
 · exact absurd h0 h
theorem je.out {α β:Type} {r:Rz Wm α} {v:α} {t:pJ} (h:je r v t) (h0:t.fin≠0) (f:α->Wm->Rz Wm β) (b:β):je (r.bind f) b t:=by
 rcases h with ⟨h,_⟩ | ⟨_,c,h⟩
 · exact absurd h h0
 · exact .inr ⟨h0,c,NC h⟩
theorem je.same {α:Type} {r:Rz Wm α} {v b:α} {t:pJ} (h:je r v t) (h0:t.fin≠0):je r b t:=by
 rcases h with ⟨h,_⟩ | ⟨_,h⟩
 · exact absurd h h0
 · exact .inr ⟨h0,h⟩
theorem je.then {α β:Type} {r:Rz Wm α} {v:α} {t t2:pJ} {f:α->Wm->Rz Wm β} {b:β} (h:je r v t) (k:Stq t (f v t.w) b t2):je (r.bind f) b t2:=by
 rcases k with ⟨h0,rfl⟩ | ⟨h0,h2⟩
 · exact h.out h0 f b
 · rw [U' (h.get h0)]; exact h2
theorem je.map {α β:Type} {r:Rz Wm α} {v:α} {t:pJ} (f:α->β) (h:je r v t):je (r.bind λv w=>.ok (f v) w) (f v) t:=by
 rcases h with ⟨h0,h⟩ | ⟨h0,c,h⟩
 · exact .inl ⟨h0,U' h⟩
 · exact .inr ⟨h0,c,NC h⟩
def Stf (r:Rz Fm Bool) (d:Bool) (loc:List Int) (v:Int) (t:pJ):Prop:=(t.fin=0/\r = .ok d ⟨loc,v,t.w⟩)\/(t.fin≠0/\∃c,r = .ov t.fin { t.w with calls:=c })
theorem je.fr {α:Type} {r:Rz Wm α} {x:α} {t:pJ} {loc:List Int} {v:Int} {w:Wm} {f:α->Fm->Rz Fm Bool} {d:Bool} {ae8:List Int} {v2:Int} (h:je r x t) (h0:t.fin≠0):Stf ((Rz.fr ⟨loc,v,w⟩ r).bind f) d ae8 v2 t:=by
 rcases h with ⟨h,_⟩ | ⟨_,c,h⟩
 · exact absurd h h0
 · exact .inr ⟨h0,c,NC (aeW h)⟩
end Go.Bw
end
section
namespace Go.Bw
open Go
structure ati (ks v8:List cF):Prop where
 d:∀m pl n,qP ks m pl n=true->qP v8 m pl n=true
 p:∀m pl n,ur ks m pl n=true->ur v8 m pl n=true
end Go.Bw
end
section
namespace Go.Bw
open Go
def qT (i:aN):Prop:=1<=i.op/\i.op<=22
def Jok (U:Nat) (pd:List Nat) (lo:Nat) (c:List aN) (f:dS):Prop:=
 ∃(p:Nat) (i:aN),f.at_=(p:Int)/\c[p]? = some i/\lo<=p/\
   ((f.kind=1/\f.m=0/\(p ∈ pd\/((lo:Int)<=i.a/\i.a<=(c.length:Int))))\/((f.kind=2\/f.kind=3)/\p ∉ pd/\0<=f.m/\f.m<=(U:Int)/\0<=i.a/\i.a<=2048))
structure Ap (U:Nat) (pd:List Nat) (g g':Gs):Prop where
 Vb:∀p ∈ pd,g.code.length<=p/\p<g'.code.length
 more:∃c fx,g'.code=g.code++c/\g'.fix=g.fix++fx/\(∀i ∈ c,qT i)/\(∀f ∈ fx,Jok U pd g.code.length g'.code f)/\fx.Pairwise λa b=>a.at_<b.at_
theorem Ap.refl (U:Nat) (g:Gs):Ap U [] g g:=⟨by simp,[],[],by simp,by simp,by simp,by simp,.nil⟩
theorem Ap.lo {U:Nat} {pd:List Nat} {g g':Gs} (h:Ap U pd g g'):g.code.length<=g'.code.length:=by
 obtain ⟨c,fx,h1,_⟩:=h.more;rw [h1]; simp
theorem Ap.trans {U:Nat} {pa pb:List Nat} {g g' DL:Gs} (h:Ap U pa g g') (k:Ap U pb g' DL):Ap U (pa++pb) g DL:=by
 have Vc:=h.lo;have klo:=k.lo;have Vd:=h.Vb;have Ve:=k.Vb;obtain ⟨c,fx,h1,h2,h3,h4,h5⟩:=h.more;obtain ⟨c',fx',k1,k2,k3,k4,k5⟩:=k.more;refine ⟨λp hp=>?_,c++c',fx++fx',by rw [k1,h1,List.append_assoc],by rw [k2,h2,List.append_assoc],?_,?_,?_⟩
 · rcases List.mem_append.1 hp with hp | hp
   · have:=Vd p hp; omega
   · have:=Ve p hp; omega
 · intro i hi
   rcases List.mem_append.1 hi with hi | hi
   · exact h3 i hi
   · exact k3 i hi
 · intro f hf
   rcases List.mem_append.1 hf with hf | hf
   · obtain ⟨p,i,a1,a2,a3,a4⟩:=h4 f hf
     have hp:p<g'.code.length:=(List.getElem?_eq_some_iff.1 a2).1;refine ⟨p,i,a1,by rw [k1,List.getElem?_append_left hp]; exact a2,a3,?_⟩
     rcases a4 with ⟨b1,b2,b3⟩ | ⟨b1,b2,b3⟩
     · exact .inl ⟨b1,b2,b3.imp (λx=>List.mem_append_left _ x) λx=>⟨x.1,by omega⟩⟩
     · refine .inr ⟨b1,λhm=>?_,b3⟩
       rcases List.mem_append.1 hm with hm | hm
       · exact b2 hm
       · have:=(Ve p hm).1; omega
   · obtain ⟨p,i,a1,a2,a3,a4⟩:=k4 f hf
     refine ⟨p,i,a1,a2,by omega,?_⟩
     rcases a4 with ⟨b1,b2,b3⟩ | ⟨b1,b2,b3⟩
     · exact .inl ⟨b1,b2,b3.imp (λx=>List.mem_append_right _ x) λx=>⟨by omega,x.2⟩⟩
     · refine .inr ⟨b1,λhm=>?_,b3⟩
       rcases List.mem_append.1 hm with hm | hm
       · have:=(Vd p hm).2; omega
       · exact b2 hm
 · refine List.pairwise_append.2 ⟨h5,k5,λa ha b hb=>?_⟩
   obtain ⟨p,i,a1,a2,a3,_⟩:=h4 a ha;obtain ⟨q,j,b1,b2,b3,_⟩:=k4 b hb;have hp:p<g'.code.length:=(List.getElem?_eq_some_iff.1 a2).1;rw [a1,b1]; omega
end Go.Bw
end
section
namespace Go.Bw
open Go
structure atk (U:Nat) (ks:List cF):Prop where
 len:ks.length=U+1
 small:∀k ∈ ks,k.A1=true->k.parts.length<=2048
structure ae_ (g g':Gs) (S:List Nat):Prop where
 at_:∀s ∈ S,g.code.length<=s/\s<g'.code.length
 stay:∃fx,g'.fix=g.fix++fx/\∀f ∈ fx,∀(p:Nat) i,f.kind=1->f.at_=(p:Int)->g'.code[p]? = some i->g.code.length<=p/\(g.code.length:Int)<=i.a/\∀s ∈ S,(p<s->i.a<(s:Int))/\(s<=p->(s:Int)<=i.a)
structure atl (u:ed) (o:qS):Prop where
 ap:Ap u.ae.length [] ⟨[],[]⟩ o.g
 pts:ae_ ⟨[],[]⟩ o.g (o.di++[o.main])
 ep:o.di.length=u.parts.length
end Go.Bw
end
section
namespace Go.Bw
open Go
structure aH where
 nm:List UInt8
 ae:List (List UInt8)
 data:Int
 code:List aN
 fix:List dS
 di:List Int
 main:Int
def iM (o:aH) (q:mG):List Value:=[st o.nm,.slice q.s1.1 o.ae.length q.s1.2,.int .i64 o.data,.slice q.s2.1 o.code.length q.s2.2,.slice q.s3.1 o.fix.length q.s3.2,.slice q.s4.1 o.di.length q.s4.2,.int .i64 o.main]
structure qU (H:View) (q:mG) (o:aH):Prop where
 ae:Sl rdStr 1 H q.s1.1 q.s1.2 o.ae
 code:Sl fH 3 H q.s2.1 q.s2.2 o.code
 fix:Sl Nx 3 H q.s3.1 q.s3.2 o.fix
 di:Sl jd 1 H q.s4.1 q.s4.2 o.di
def qS.to (o:qS):aH:=⟨o.nm,o.ae,o.data,o.g.code,o.g.fix,o.di.map λn:Nat=>(n:Int),o.main⟩
theorem afa (o:qS) (q:mG):iM o.to q=Nz o q:=by simp [iM,Nz,qS.to]
theorem afb {H:View} {q:mG} {o:qS} (h:NA H q o):qU H q o.to:=by
 refine ⟨h.ae,h.code,h.fix,⟨?_,h.di.max,h.di.spot,λi x hx=>?_⟩⟩
 · show (o.di.map λn:Nat=>(n:Int)).length<=_
   rw [List.length_map]; exact h.di.cap
 · have hx:(o.di.map λn:Nat=>(n:Int))[i]? = some x:=hx
   rw [List.getElem?_map] at hx
   cases he:o.di[i]? with
   | none=>rw [he] at hx; cases hx
   | some n=>
     rw [he] at hx
     injection hx with hx
     subst hx;exact h.di.aZ i n he
def fI (n:Nat) (at_:Int):Bool:=decide (0<=at_)&&decide (at_<(n:Int))
def mH (seen:List (List UInt8)):List (List UInt8)->Bool->Bool
 | [],f=>f
 | s::r,f=>mH (seen++[s]) r ((f&&dZ s)&&(((seen.count s:Nat):Int)+1==1))
def oH:List aN->Bool->Bool
 | [],f=>f
 | x::r,f=>oH r ((f&&decide (1<=x.op))&&decide (x.op<=22))
def qV (n:Nat):List Int->Bool->Bool
 | [],f=>f
 | x::r,f=>qV n r (f&&fI n x)
def lg (c:List aN) (p:Int):Int:=((c[p.toNat]?).map (·.a)).getD 0
def jC (U n:Nat) (kind m a:Int):Bool:=
 if kind=1 then ((decide (0<=a)&&decide (a<=2048))&&(m==0))&&decide (a<=(n:Int))
 else if kind=2\/kind=3 then ((decide (0<=a)&&decide (a<=2048))&&decide (0<=m))&&decide (m<=(U:Int)) else false
def nI (U:Nat) (c:List aN):List dS->Int->Bool->Bool
 | [],_,f=>f
 | x::r,last,f=>if ((f&&decide (last<x.at_))&&fI c.length x.at_)=false then false else nI U c r x.at_ (jC U c.length x.kind x.m (lg c x.at_))
def uy (o:aH):Bool:=(dZ o.nm&&decide (0<=o.data))&&decide (o.data<=512)
def Bd (o:aH):Bool:=nI o.ae.length o.code o.fix (-1) (qV o.code.length o.di (oH o.code (mH [o.nm] o.ae (uy o))))
def sI (o:aH):Bool:=((decide (3<(o.ae.length:Int))||decide (6<(o.di.length:Int)))||decide ((o.code.length:Int)<1))||decide (2048<(o.code.length:Int))
def gj (o:aH):Int:=if sI o=true then 2 else if (!(Bd o)||!(fI o.code.length o.main))=true then 1 else 0
theorem uz {n:Nat} {x:Int} (h:fI n x=true):∃p:Nat,x=(p:Int)/\p<n:=by
 unfold fI at h;simp only [Bool.and_eq_true,decide_eq_true_eq] at h;exact ⟨x.toNat,by omega,by omega⟩
theorem afc {seen us:List (List UInt8)} {i:Nat} {s:List UInt8} (h:us[i]? = some s) (f:Bool):mH (seen++us.take i) (us.drop i) f=mH (seen++us.take (i+1)) (us.drop (i+1)) ((f&&dZ s)&&((((seen++us.take i).count s:Nat):Int)+1==1)):=by
 obtain ⟨h1,h2⟩:=List.getElem?_eq_some_iff.1 h;rw [List.drop_eq_getElem_cons h1,h2,mH,List.take_add_one,h,List.append_assoc]
 rfl
theorem afd {l:List aN} {i:Nat} {x:aN} (h:l[i]? = some x) (f:Bool):oH (l.drop i) f=oH (l.drop (i+1)) ((f&&decide (1<=x.op))&&decide (x.op<=22)):=by
 obtain ⟨h1,h2⟩:=List.getElem?_eq_some_iff.1 h;rw [List.drop_eq_getElem_cons h1,h2,oH]
theorem afe {n:Nat} {l:List Int} {i:Nat} {x:Int} (h:l[i]? = some x) (f:Bool):qV n (l.drop i) f=qV n (l.drop (i+1)) (f&&fI n x):=by
 obtain ⟨h1,h2⟩:=List.getElem?_eq_some_iff.1 h;rw [List.drop_eq_getElem_cons h1,h2,qV]
theorem aff {U:Nat} {c:List aN} {l:List dS} {i:Nat} {x:dS} (h:l[i]? = some x) (last:Int) (f:Bool):nI U c (l.drop i) last f=if ((f&&decide (last<x.at_))&&fI c.length x.at_)=false then false else nI U c (l.drop (i+1)) x.at_ (jC U c.length x.kind x.m (lg c x.at_)):=by
 obtain ⟨h1,h2⟩:=List.getElem?_eq_some_iff.1 h;rw [List.drop_eq_getElem_cons h1,h2,nI]
end Go.Bw
end
section
namespace Go.Bw
open Go
structure DM (o:aH):Prop where
 names:∀s ∈ o.nm::o.ae,dZ s=true
 nd:(o.nm::o.ae).Nodup
 data:0<=o.data/\o.data<=512
 main:fI o.code.length o.main=true
 code:∀i ∈ o.code,qT i
 di:∀e ∈ o.di,fI o.code.length e=true
 fix:∀f ∈ o.fix,fI o.code.length f.at_=true/\jC o.ae.length o.code.length f.kind f.m (lg o.code f.at_)=true
 up:o.fix.Pairwise λa b=>a.at_<b.at_
theorem Vf:∀(us seen:List (List UInt8)) (f:Bool),mH seen us f=true↔f=true/\(∀s ∈ us,dZ s=true)/\us.Nodup/\∀s ∈ us,s ∉ seen
 | [],seen,f=>by simp [mH]
 | s::r,seen,f=>by
   rw [mH,Vf r]
   have hc:((((seen.count s:Nat):Int)+1==1)=true)↔s ∉ seen:=by
     rw [beq_iff_eq,<-List.count_eq_zero];omega
   rw [Bool.and_eq_true,Bool.and_eq_true,hc]
   have DN:∀t,(t ∈ seen++[s])↔(t ∈ seen\/t=s):=λt=>by simp
   simp only [DN,List.mem_cons,List.nodup_cons,forall_eq_or_imp]
   constructor
   · rintro ⟨⟨⟨h1,h2⟩,h3⟩,h4,h5,h6⟩
     exact ⟨h1,⟨h2,h4⟩,⟨λhm=>h6 s hm (.inr O),h5⟩,h3,λt ht hs=>h6 t ht (.inl hs)⟩
   · rintro ⟨h1,⟨h2,h4⟩,⟨h7,h5⟩,h3,h6⟩
     refine ⟨⟨⟨h1,h2⟩,h3⟩,h4,h5,λt ht hs=>?_⟩
     rcases hs with hs | hs
     · exact h6 t ht hs
     · subst hs; exact h7 ht
theorem Vh:∀(l:List aN) (f:Bool),oH l f=true↔f=true/\∀i ∈ l,qT i
 | [],f=>by simp [oH]
 | x::r,f=>by
   rw [oH,Vh r];simp only [Bool.and_eq_true,decide_eq_true_eq,List.mem_cons,forall_eq_or_imp,qT]
   constructor
   · rintro ⟨⟨⟨h1,h2⟩,h3⟩,h4⟩; exact ⟨h1,⟨h2,h3⟩,h4⟩
   · rintro ⟨h1,⟨h2,h3⟩,h4⟩; exact ⟨⟨⟨h1,h2⟩,h3⟩,h4⟩
theorem Vi (n:Nat):∀(l:List Int) (f:Bool),qV n l f=true↔f=true/\∀e ∈ l,fI n e=true
 | [],f=>by simp [qV]
 | x::r,f=>by
   rw [qV,Vi n r];simp only [Bool.and_eq_true,List.mem_cons,forall_eq_or_imp]
   constructor
   · rintro ⟨⟨h1,h2⟩,h3⟩; exact ⟨h1,h2,h3⟩
   · rintro ⟨h1,h2,h3⟩; exact ⟨⟨h1,h2⟩,h3⟩
theorem Vj (U:Nat) (c:List aN):∀(l:List dS) (last:Int) (f:Bool),nI U c l last f=true↔f=true/\(∀x ∈ l,last<x.at_/\fI c.length x.at_=true/\jC U c.length x.kind x.m (lg c x.at_)=true)/\l.Pairwise λa b=>a.at_<b.at_
 | [],last,f=>by simp [nI]
 | x::r,last,f=>by
   rw [nI]
   have hx:((f&&decide (last<x.at_))&&fI c.length x.at_)=true↔f=true/\last<x.at_/\fI c.length x.at_=true:=by
     simp only [Bool.and_eq_true,decide_eq_true_eq,and_assoc]
   cases hb:((f&&decide (last<x.at_))&&fI c.length x.at_) with
   | false=>
     rw [if_pos rfl];refine ⟨λh=>(by cases h),λ⟨h1,h2,_⟩=>?_⟩;have h3:=h2 x (by simp);rw [hx.2 ⟨h1,h3.1,h3.2.1⟩] at hb;cases hb
   | true=>
     rw [if_neg (by decide),Vj U c r];obtain ⟨h1,h2,h3⟩:=hx.1 hb;simp only [List.mem_cons,forall_eq_or_imp,List.pairwise_cons]
     constructor
     · rintro ⟨k1,k2,k3⟩
       exact ⟨h1,⟨⟨h2,h3,k1⟩,λy hy=>⟨by have:=(k2 y hy).1; omega,(k2 y hy).2⟩⟩,λy hy=>(k2 y hy).1,k3⟩
     · rintro ⟨_,⟨⟨_,_,k1⟩,k2⟩,k3,k4⟩
       exact ⟨k1,λy hy=>⟨k3 y hy,(k2 y hy).2⟩,k4⟩
theorem afg (o:aH):(Bd o=true/\fI o.code.length o.main=true)↔DM o:=by
 unfold Bd;rw [Vj,Vi,Vh,Vf];unfold uy;simp only [Bool.and_eq_true,decide_eq_true_eq]
 constructor
 · rintro ⟨⟨⟨⟨⟨⟨⟨h1,h2⟩,h3⟩,h4,h5,h6⟩,h7⟩,h8⟩,h9,eH⟩,pK⟩
   refine ⟨λs hs=>?_,?_,⟨h2,h3⟩,pK,h7,h8,λf hf=>(h9 f hf).2,eH⟩
   · rcases List.mem_cons.1 hs with rfl | hs
     · exact h1
     · exact h4 s hs
   · rw [List.nodup_cons]
     exact ⟨λhm=>h6 _ hm (by simp),h5⟩
 · intro h
   have hn:=h.nd;rw [List.nodup_cons] at hn;refine ⟨⟨⟨⟨⟨⟨⟨h.names _ (by simp),h.data.1⟩,h.data.2⟩,λs hs=>h.names s (by simp [hs]),hn.2,λs hs=>?_⟩,h.code⟩,h.di⟩,λf hf=>⟨?_,h.fix f hf⟩,h.up⟩,h.main⟩
   · intro hm
     rw [List.mem_singleton] at hm;subst hm;exact hn.1 hs
   · obtain ⟨p,hp,_⟩:=uz (h.fix f hf).1
     omega
theorem afh {o:aH} (h:sI o=true):gj o=2:=by rw [gj,if_pos h]
theorem afi {o:aH} (h:sI o=false) (k:¬DM o):gj o=1:=by
 rw [gj,if_neg (by rw [h]; decide),if_pos]
 cases h1:Bd o with
 | false=>rfl
 | true=>
   cases h2:fI o.code.length o.main with
   | false=>rfl
   | true=>exact absurd ((afg o).1 ⟨h1,h2⟩) k
end Go.Bw
end
section
namespace Go.Bw
open Go
def qW (n:Int):UInt8:=UInt8.ofNat (n % 256).toNat
def yo (n:Int):List UInt8:=[qW (n.fdiv (2 ^ 56)),qW (n.fdiv (2 ^ 48)),qW (n.fdiv (2 ^ 40)),qW (n.fdiv (2 ^ 32)),qW (n.fdiv (2 ^ 24)),qW (n.fdiv (2 ^ 16)),qW (n.fdiv (2 ^ 8)),qW n]
def Iv (s:List UInt8):List UInt8:=qW s.length::s
theorem afj (n:Int):(yo n).length=8:=rfl
def yq (n:Int):Prop:=-9223372036854775808<=n/\n<=9223372036854775807
def NH (i:aN):List UInt8:=qW i.op::(yo i.a++yo i.b)
def NI (f:dS):List UInt8:=yo f.at_++qW f.kind::yo f.m
structure Vk (o:aH):Prop where
 code:∀i ∈ o.code,yq i.a/\yq i.b
end Go.Bw
end
section
namespace Go.Bw
open Go
structure Ns {α:Type} (gl:List UInt8->Option (α×List UInt8)) (no:List UInt8×Bool->α×(List UInt8×Bool)):Prop where
 some_:∀s r,gl s=some r->no (s,false)=(r.1,(r.2,false))
 none_:∀s,gl s=none->(no (s,false)).2.2=true
 bad:∀p,p.2=true->(no p).2.2=true
theorem Ns.pure {α:Type} (x:α):Ns (λs=>some (x,s)) (λp=>(x,p)):=⟨λs r h=>by injection h with h; subst h; rfl,λs h=>(by cases h),λp h=>h⟩
theorem Ns.bind {α β:Type} {g1:List UInt8->Option (α×List UInt8)} {n1:List UInt8×Bool->α×(List UInt8×Bool)} {g2:α->List UInt8->Option (β×List UInt8)} {n2:α->List UInt8×Bool->β×(List UInt8×Bool)}
   (h1:Ns g1 n1) (h2:∀a,Ns (g2 a) (n2 a)):Ns (λs=>(g1 s).bind λp=>g2 p.1 p.2) (λp=>n2 (n1 p).1 (n1 p).2):=by
 refine ⟨λs r h=>?_,λs h=>?_,λp h=>(h2 _).bad _ (h1.bad p h)⟩
 · obtain ⟨a,e1,e2⟩:=Option.bind_eq_some_iff.1 h
   show n2 (n1 (s,false)).1 (n1 (s,false)).2=_
   rw [h1.some_ s a e1];exact (h2 _).some_ _ _ e2
 · show (n2 (n1 (s,false)).1 (n1 (s,false)).2).2.2=true
   cases e1:g1 s with
   | none=>exact (h2 _).bad _ (h1.none_ s e1)
   | some a=>
     have h:(g1 s).bind (λp=>g2 p.1 p.2)=none:=h;rw [e1] at h;rw [h1.some_ s a e1];exact (h2 _).none_ _ h
end Go.Bw
end
section
namespace Go.Bw
open Go
theorem Vl {n:Int}:∀(l:List dS) (lo:Int),lo<=n->(∀f ∈ l,lo<=f.at_/\f.at_<n)->(l.Pairwise λa b=>a.at_<b.at_)->(l.length:Int)<=n-lo
 | [],lo,h,_,_=>by simp; omega
 | x::r,lo,h,h1,h2=>by
   rw [List.pairwise_cons] at h2;have hx:=h1 x (by simp);have ih:=Vl r (x.at_+1) (by omega) (λf hf=>⟨by have:=h2.1 f hf; omega,(h1 f (by simp [hf])).2⟩) h2.2;simp only [List.length_cons];omega
theorem afk {o:aH} (h:DM o):o.fix.length<=o.code.length:=by
 have:=Vl (n:=(o.code.length:Int)) o.fix 0 (by omega) (λf hf=>by
   obtain ⟨p,h1,h2⟩:=uz (h.fix f hf).1
   omega) h.up
 omega
theorem yr {o:aH} (h:gj o=0):sI o=false/\DM o:=by
 have hm:sI o=false:=by
   cases hm:sI o with
   | false=>rfl
   | true=>rw [afh hm] at h; cases h
 refine ⟨hm,?_⟩;refine Classical.byContradiction λhk=>?_;rw [afi hm hk] at h;cases h
open Go.ChangeShapes Go.WideShapes Go.ChangeAt Go.RowKit Go.Joins Go.Deep
structure DO (P:Program) (tI tT lP tN qR tF uo yt tO:TypeId) (ni fi oi:Array Field):Prop where
 uI:P.underlying tI=some (.int .i64)
 uT:P.underlying tT=some .string
 cT:P.cellsOf tT=1
 cI:P.cellsOf tI=1
 M5:P.underlying lP=some (.slice tT)
 uN:P.underlying tN=some (.struct ni)
 rN:(jt P 0 ni.toList&&Nat.beq (P.cellsOf tN) ni.size)=true
 fN:ni.map (·.type) = #[tI,tI,tI]
 UY:P.underlying qR=some (.slice tN)
 uF:P.underlying tF=some (.struct fi)
 rF:(jt P 0 fi.toList&&Nat.beq (P.cellsOf tF) fi.size)=true
 fF:fi.map (·.type) = #[tI,tI,tI]
 Uw:P.underlying uo=some (.slice tF)
 uIs:P.underlying yt=some (.slice tI)
 uO:P.underlying tO=some (.struct oi)
 rO:(jt P 0 oi.toList&&Nat.beq (P.cellsOf tO) oi.size)=true
 fO:oi.map (·.type) = #[tT,lP,tI,qR,uo,yt,tI]
def afm (H:View) (b o:Nat) (x:aN):Prop:=fH H b o x/\yq x.a/\yq x.b
def Vm (H:View) (b o:Nat) (x:aH):Prop:=(∃q,aT H b o (iM x q)/\qU H q x)/\Vk x
section
variable {P:Program} {H:Type} {enc:TypeId×Value->H} {w:World} {base:Nat} {spare:Nat->Bool} {held:Bool}
variable {tI tT lP tN qR tF uo yt tO NJ:TypeId} {ni fi oi:Array Field}
theorem uC {t:TypeId} {fuel:Nat} {v:Value} {x:DataW H×List MemPlace} (hu:P.underlying t=some (.int .i64)) (h:DataW.trod enc P w base spare held fuel t [v]=some x):∃k:Int,v = .int .i64 k/\yq k:=by
 obtain ⟨n,e,_,hwf⟩:=DataW.trod_int hu h
 injection e with e _
 simp only [Lit.wf,IntKind.min,IntKind.max,IntKind.signed,IntKind.bits,Bool.and_eq_true,decide_eq_true_eq,if_true] at hwf;exact ⟨n,e,by omega,by omega⟩
theorem afo (T:DO P tI tT lP tN qR tF uo yt tO ni fi oi) {fuel:Nat} {cs:List Value} {x:DataW H×List MemPlace} (h:DataW.trod enc P w base spare held fuel tN cs=some x):∃y:aN,cs=y.cells/\yq y.a/\yq y.b:=by
 obtain ⟨hl,ys,n,hn,hx,yf,hf⟩:=M1 T.uN T.rN h;have ga:=AR T.fN;simp at ga;obtain ⟨f0,g0,q0⟩:=oB T.fN (j:=0) rfl;obtain ⟨f1,g1,q1⟩:=oB T.fN (j:=1) rfl;obtain ⟨f2,g2,q2⟩:=oB T.fN (j:=2) rfl;obtain ⟨v0,y0,i0,j0,t0⟩:=hf 0 f0 g0;obtain ⟨v1,y1,i1,j1,t1⟩:=hf 1 f1 g1;obtain ⟨v2,y2,i2,j2,t2⟩:=hf 2 f2 g2;rw [q0] at t0; rw [q1] at t1; rw [q2] at t2;obtain ⟨a0,rfl,_⟩:=uC T.uI t0;obtain ⟨a1,rfl,k1⟩:=uC T.uI t1;obtain ⟨a2,rfl,k2⟩:=uC T.uI t2;refine ⟨⟨a0,a1,a2⟩,?_,k1,k2⟩
 match cs,hl.trans ga with
 | [c0,c1,c2],_=>
   simp at i0 i1 i2;subst i0 i1 i2
   rfl
theorem afp (T:DO P tI tT lP tN qR tF uo yt tO ni fi oi) {fuel:Nat} {cs:List Value} {x:DataW H×List MemPlace} (h:DataW.trod enc P w base spare held fuel tF cs=some x):∃y:dS,cs=y.cells:=by
 obtain ⟨hl,ys,n,hn,hx,yf,hf⟩:=M1 T.uF T.rF h;have ga:=AR T.fF;simp at ga;obtain ⟨f0,g0,q0⟩:=oB T.fF (j:=0) rfl;obtain ⟨f1,g1,q1⟩:=oB T.fF (j:=1) rfl;obtain ⟨f2,g2,q2⟩:=oB T.fF (j:=2) rfl;obtain ⟨v0,y0,i0,j0,t0⟩:=hf 0 f0 g0;obtain ⟨v1,y1,i1,j1,t1⟩:=hf 1 f1 g1;obtain ⟨v2,y2,i2,j2,t2⟩:=hf 2 f2 g2;rw [q0] at t0; rw [q1] at t1; rw [q2] at t2;obtain ⟨a0,rfl,_⟩:=uC T.uI t0;obtain ⟨a1,rfl,k1⟩:=uC T.uI t1;obtain ⟨a2,rfl,k2⟩:=uC T.uI t2;refine ⟨⟨a0,a1,a2⟩,?_⟩
 match cs,hl.trans ga with
 | [c0,c1,c2],_=>
   simp at i0 i1 i2;subst i0 i1 i2
   rfl
theorem afq (K:AO H) (T:DO P tI tT lP tN qR tF uo yt tO ni fi oi) (jP:∀b,spare b=true) {fuel:Nat} {cs:List Value} {x:DataW H×List MemPlace} (h:DataW.trod enc P w base spare held fuel tO cs=some x):∃(y:aH) (q:mG),cs=iM y q/\qU (hv w) q y/\Vk y:=by
 obtain ⟨hl,ys,n,hn,hx,yf,hf⟩:=M1 T.uO T.rO h;have ga:=AR T.fO;simp at ga;obtain ⟨f0,g0,q0⟩:=oB T.fO (j:=0) rfl;obtain ⟨f1,g1,q1⟩:=oB T.fO (j:=1) rfl;obtain ⟨f2,g2,q2⟩:=oB T.fO (j:=2) rfl;obtain ⟨f3,g3,q3⟩:=oB T.fO (j:=3) rfl;obtain ⟨f4,g4,q4⟩:=oB T.fO (j:=4) rfl;obtain ⟨f5,g5,q5⟩:=oB T.fO (j:=5) rfl;obtain ⟨f6,g6,q6⟩:=oB T.fO (j:=6) rfl;obtain ⟨v0,y0,i0,j0,t0⟩:=hf 0 f0 g0;obtain ⟨v1,y1,i1,j1,t1⟩:=hf 1 f1 g1;obtain ⟨v2,y2,i2,j2,t2⟩:=hf 2 f2 g2;obtain ⟨v3,y3,i3,j3,t3⟩:=hf 3 f3 g3;obtain ⟨v4,y4,i4,j4,t4⟩:=hf 4 f4 g4;obtain ⟨v5,y5,i5,j5,t5⟩:=hf 5 f5 g5;obtain ⟨v6,y6,i6,j6,t6⟩:=hf 6 f6 g6;rw [q0] at t0; rw [q1] at t1; rw [q2] at t2; rw [q3] at t3; rw [q4] at t4; rw [q5] at t5; rw [q6] at t6;have Vn:=AR T.fN;simp at Vn;have Vo:=AR T.fF;simp at Vo;obtain ⟨nm,rfl,_⟩:=Uh K T.uT t0
 obtain ⟨s1,c1,us,rfl,h1,_⟩:=Dn (rd:=rdStr) K (λ_=>0) (λ_=>0) rfl (λ_ _=>rfl) T.M5 T.cT (by omega) jP (λn' lO y tZ ht hl=>by
   match lO,hl with
   | [u],_=>
     obtain ⟨l,rfl,hb⟩:=Uh K T.uT ht
     exact ⟨l,λb o hr=>hr,Nat.zero_le _⟩) t1
 obtain ⟨da,rfl,_⟩:=uC T.uI t2
 obtain ⟨s2,c2,co,rfl,h2,_⟩:=Dn (rd:=afm) K (λ_=>0) (λ_=>0) rfl (λ_ _=>rfl) T.UY ((M6 T.rN).trans Vn) (by omega) jP (λn' lO y tZ ht _=>by
   obtain ⟨z,rfl,k1,k2⟩:=afo T ht
   exact ⟨z,λb o hr=>⟨hr,k1,k2⟩,Nat.zero_le _⟩) t3
 obtain ⟨s3,c3,fx,rfl,h3,_⟩:=Dn (rd:=Nx) K (λ_=>0) (λ_=>0) rfl (λ_ _=>rfl) T.Uw ((M6 T.rF).trans Vo) (by omega) jP (λn' lO y tZ ht _=>by
   obtain ⟨z,rfl⟩:=afp T ht
   exact ⟨z,λb o hr=>hr,Nat.zero_le _⟩) t4
 obtain ⟨s4,c4,en,rfl,h4,_⟩:=Dn (rd:=jd) K (λ_=>0) (λ_=>0) rfl (λ_ _=>rfl) T.uIs T.cI (by omega) jP (λn' lO y tZ ht hl=>by
   match lO,hl with
   | [u],_=>
     obtain ⟨l,rfl,_⟩:=uC T.uI ht
     exact ⟨l,λb o hr=>hr,Nat.zero_le _⟩) t5
 obtain ⟨mn,rfl,_⟩:=uC T.uI t6;refine ⟨⟨nm,us,da,co,fx,en,mn⟩,⟨(s1,c1),(s2,c2),(s3,c3),(s4,c4)⟩,?_,⟨h1,h2.imp λb o x hx=>hx.1,h3,h4⟩,⟨λi hi=>?_⟩⟩
 · match cs,hl.trans ga with
   | [c0,c1,c2,c3,c4,c5,c6],_=>
     simp at i0 i1 i2 i3 i4 i5 i6;subst i0 i1 i2 i3 i4 i5 i6
     rfl
 · obtain ⟨k,hk⟩:=List.getElem?_of_mem hi
   obtain ⟨b,o,_,hx⟩:=h2.aZ k i hk;exact hx.2
theorem afr (K:AO H) (T:DO P tI tT lP tN qR tF uo yt tO ni fi oi) (jP:∀b,spare b=true) (Vp:P.underlying NJ=some (.slice tO)) {r:_root_.Go.Reach} {b0:Nat} {v:Value} {x:DataW H} {pl:List MemPlace} (Iw:Value.okWide P w r b0 NJ v) (h:DataW.Trod enc P w base spare held NJ v x pl) :
   ∃(a:Option Addr) (c:Nat) (l:List aH),v = .slice a l.length c/\Sl Vm 7 (hv w) a c l:=by
 obtain ⟨a,k,c,rfl⟩:=okWide_slice Vp Iw;obtain ⟨fuel,h⟩:=h;have ga:=AR T.fO;simp at ga
 obtain ⟨a,c,l,h1,h2,_⟩:=Dn (rd:=Vm) K (λ_=>0) (λ_=>0) rfl (λ_ _=>rfl) Vp ((M6 T.rO).trans ga) (by omega) jP (λn' lO y tZ ht _=>by
   obtain ⟨z,q,rfl,hr,hw⟩:=afq K T jP ht
   exact ⟨z,λb o hc=>⟨⟨q,hc,hr⟩,hw⟩,Nat.zero_le _⟩) h
 exact ⟨a,c,l,h1,h2⟩
end
end Go.Bw
end
section
namespace Go.Bw
open Go
theorem Vq {α:Type} {f:α->List UInt8} {k:Nat}:∀(l:List α) (h:∀x ∈ l,(f x).length<=k),(l.flatMap f).length<=k*l.length
 | [],_=>by simp
 | x::r,h=>by
   have h1:=h x (by simp);have h2:=Vq r λy hy=>h y (by simp [hy]);simp only [List.flatMap_cons,List.length_append,List.length_cons];rw [Nat.mul_add];omega
theorem Ix {α:Type} {f:α->List UInt8} {k:Nat} {l:List α} (h:∀x ∈ l,(f x).length<=k) (i:Nat):((l.take i).flatMap f).length<=k*l.length:=by
 have h1:=Vq (l.take i) λx hx=>h x (List.mem_of_mem_take hx)
 have h2:(l.take i).length<=l.length:=by simp; omega
 exact Nat.le_trans h1 (Nat.mul_le_mul_left _ h2)
theorem afs (i:aN):(NH i).length=17:=rfl
theorem aft (f:dS):(NI f).length=17:=rfl
theorem Vr (s:List UInt8):(Iv s).length=s.length+1:=rfl
structure uG (o:aH):Prop where
 nm:o.nm.length<=8
 un:∀s ∈ o.ae,s.length<=8
 ae:o.ae.length<=3
 code:o.code.length<=2048
 di:o.di.length<=6
 fix:o.fix.length<=2048
theorem Vt {s:List UInt8} (h:dZ s=true):s.length<=8:=by
 unfold dZ at h;simp only [Bool.and_eq_true,decide_eq_true_eq] at h;omega
theorem DP {o:aH} (h:gj o=0):uG o:=by
 obtain ⟨hm,hk⟩:=yr h;have hf:=afk hk;unfold sI at hm;simp only [Bool.or_eq_false_iff,decide_eq_false_iff_not] at hm;exact ⟨Vt (hk.names _ (by simp)),λs hs=>Vt (hk.names s (by simp [hs])),by omega,by omega,by omega,by omega⟩
theorem uG.us {o:aH} (h:uG o) (i:Nat):((o.ae.take i).flatMap Iv).length<=27:=by
 have h1:=Ix (f:=Iv) (k:=9) (l:=o.ae) (λx hx=>by have:=h.un x hx; rw [Vr]; omega) i;have:=h.ae;omega
theorem uG.co {o:aH} (h:uG o) (i:Nat):((o.code.take i).flatMap NH).length<=34816:=by
 have h1:=Ix (f:=NH) (k:=17) (l:=o.code) (λx hx=>Nat.le_of_eq (afs x)) i;have:=h.code;omega
theorem uG.fx {o:aH} (h:uG o) (i:Nat):((o.fix.take i).flatMap NI).length<=34816:=by
 have h1:=Ix (f:=NI) (k:=17) (l:=o.fix) (λx hx=>Nat.le_of_eq (aft x)) i;have:=h.fix;omega
theorem uG.en {o:aH} (h:uG o) (i:Nat):((o.di.take i).flatMap yo).length<=48:=by
 have h1:=Ix (f:=yo) (k:=8) (l:=o.di) (λx hx=>Nat.le_of_eq (afj x)) i;have:=h.di;omega
theorem afu (n:Nat) (x:Int):gP x 0 ((n:Int)-1)=fI n x:=by
 unfold gP fI;rw [Bool.eq_iff_iff];simp;omega
theorem Vu {α:Type} {p:α->Prop} {l:List α} {i:Nat} {x:α} (h:l[i]? = some x) (ha:∀y ∈ l.take i,p y) (hx:p x):∀y ∈ l.take (i+1),p y:=λy hy=>by
 rw [List.take_add_one,h] at hy
 rcases List.mem_append.1 hy with hy | hy
 · exact ha y hy
 · have hy:y ∈ [x]:=hy
   rw [List.mem_singleton] at hy;subst hy;exact hx
def Vv (o:aH) (i:Nat) (x:dS):Bool:=
 ((((!(gP x.at_ 0 ((o.code.length:Int)-1))||(decide ((0:Int)<(i:Int))&&decide (x.at_<=((o.fix[i-1]?).map (·.at_)).getD 0)))||!(gP x.kind 1 3))||!(gP x.m 0 (o.ae.length:Int)))||!(gP (lg o.code x.at_) 0 2048))||(x.kind==1&&(!(x.m==0)||decide ((o.code.length:Int)<lg o.code x.at_)))
theorem afv (U n:Nat) (k m a:Int):(!(!(gP k 1 3))&&(!(!(gP m 0 (U:Int)))&&(!(!(gP a 0 2048))&&!(k==1&&(!(m==0)||decide ((n:Int)<a))))))=jC U n k m a:=by
 unfold jC gP
 by_cases h1:k=1
 · subst h1
   rw [if_pos rfl,Bool.eq_iff_iff]
   by_cases hm:m=0
   · subst hm
     simp
   · simp [hm]
 · rw [if_neg h1]
   by_cases h2:k=2\/k=3
   · rw [if_pos h2,Bool.eq_iff_iff]
     have e:(k==1)=false:=by simpa using h1
     rw [e];simp;omega
   · rw [if_neg h2,Bool.eq_iff_iff]
     simp;omega
theorem afw {l:List dS} {i:Nat} {x:dS} (hx:l[i]? = some x) (hp:(l.take i).Pairwise λa b=>a.at_<b.at_) (hn:0<i->((l[i-1]?).map (·.at_)).getD 0<x.at_):(l.take (i+1)).Pairwise λa b=>a.at_<b.at_:=by
 rw [List.take_add_one,hx]
 show (l.take i++[x]).Pairwise _
 rw [List.pairwise_append];refine ⟨hp,by simp,λy hy z hz=>?_⟩;rw [List.mem_singleton] at hz;subst hz;obtain ⟨j,hj⟩:=List.getElem?_of_mem hy
 have iG:j<i:=by
   have:=(List.getElem?_eq_some_iff.1 hj).1;simp at this;omega
 have NK:l[j]? = some y:=by rw [List.getElem?_take_of_lt iG] at hj; exact hj
 have MB:i<l.length:=(List.getElem?_eq_some_iff.1 hx).1;have hn:=hn (by omega);obtain ⟨u,hu⟩:∃u,l[i-1]? = some u:=⟨_,List.getElem?_eq_getElem (by omega)⟩;rw [hu] at hn;have hn:u.at_<z.at_:=hn
 by_cases he:j=i-1
 · subst he
   rw [NK] at hu
   injection hu with hu
   subst hu;exact hn
 · have h1:(l.take i)[i-1]? = some u:=by rw [List.getElem?_take,if_pos (by omega)]; exact hu
   obtain ⟨h2,h3⟩:=List.getElem?_eq_some_iff.1 hj;obtain ⟨h4,h5⟩:=List.getElem?_eq_some_iff.1 h1;have:=List.pairwise_iff_getElem.1 hp j (i-1) h2 h4 (by omega);rw [h3,h5] at this;omega
def DQ (o:aH) (i:Nat):Prop:=(∀f ∈ o.fix.take i,fI o.code.length f.at_=true/\jC o.ae.length o.code.length f.kind f.m (lg o.code f.at_)=true)/\(o.fix.take i).Pairwise λa b=>a.at_<b.at_
theorem DQ.zero (o:aH):DQ o 0:=⟨by simp,by simp⟩
theorem DQ.next {o:aH} {i:Nat} {x:dS} (h:DQ o i) (hx:o.fix[i]? = some x) (hw:Vv o i x=false):DQ o (i+1):=by
 unfold Vv at hw;simp only [Bool.or_eq_false_iff] at hw;obtain ⟨⟨⟨⟨⟨h1,h2⟩,h3⟩,h4⟩,h5⟩,h6⟩:=hw;refine ⟨λf hf=>?_,afw hx h.2 λh0=>?_⟩
 · rw [List.take_add_one,hx] at hf
   rcases List.mem_append.1 hf with hf | hf
   · exact h.1 f hf
   · have hf:f ∈ [x]:=hf
     rw [List.mem_singleton] at hf;subst hf;refine ⟨(afu _ _).symm.trans (by simpa using h1),?_⟩;rw [<-afv,h3,h4,h5,h6]
     rfl
 · rw [decide_eq_true (show (0:Int)<(i:Int) by omega)] at h2
   have h2:decide (x.at_<=((o.fix[i-1]?).map (·.at_)).getD 0)=false:=h2;have:=of_decide_eq_false h2;omega
end Go.Bw
end
section
namespace Go.Bw
open Go
def dW (l:List aH):List (List UInt8):=l.map (·.nm)
structure Pl where
 code:Int
 data:Int
 yl:List Nat
def sJ (l:List aH):Nat:=(l.map (·.code.length)).sum
def yv (l:List aH):Int:=(l.map (·.data)).sum
def cX (l:List aH) (k:Nat):Int:=((l.length+1+sJ (l.take k):Nat):Int)
def eJ (l:List aH) (k:Nat):Int:=yv (l.take k)
def wx (ns:List (List UInt8)) (o:aH):Bool:=o.ae.all λs=>(idxOf s ns 0).isSome
def uH (ns:List (List UInt8)) (s:List UInt8):Nat:=(idxOf s ns 0).getD 0
def pL (l:List aH) (n:Nat) (o:aH):List Nat:=n::o.ae.map (uH ((dW l).take n))
def qX (l:List aH) (n:Nat) (o:aH):Pl:=⟨cX l n,eJ l n,pL l n o⟩
def nJ (l:List aH):List Pl:=l.mapIdx λn o=>qX l n o
def sK (l:List aH):Pl:=⟨cX l l.length,eJ l l.length,[]⟩
def Be (l:List aH) (k:Nat):Nat:=((l[k]?).map (·.di.length)).getD 0
def fR (l:List aH) (n:Nat) (o:aH) (m:Int):Nat:=((pL l n o)[m.toNat]?).getD 0
def sL (l:List aH) (n:Nat) (o:aH) (f:dS):Bool:=f.kind==2&&decide ((Be l (fR l n o f.m):Int)<=lg o.code f.at_)
def uJ (p:Nat->aH->Bool) (l:List aH):Bool:=(l.mapIdx p).any id
def e_ (l:List aH):Int:=if l.length<1\/4<l.length then 2 else er (hP gj l) (if eo (dW l)=true then 6 else if uJ (λn o=>!(wx ((dW l).take n) o)) l=true then 9 else if uJ (λn o=>o.fix.any (sL l n o)) l=true then 5 else 0)
theorem NL {p:Nat->aH->Bool} {l:List aH} {n:Nat} {o:aH} (h:l[n]? = some o) (hp:p n o=true):uJ p l=true:=by
 unfold uJ;rw [List.any_eq_true];exact ⟨true,List.mem_of_getElem? (i:=n) (by rw [List.getElem?_mapIdx,h,Option.map_some,hp]),O⟩
theorem Iy {p:Nat->aH->Bool} {l:List aH} (h:∀n o,l[n]? = some o->p n o=false):uJ p l=false:=by
 unfold uJ;rw [List.any_eq_false];intro x hx;obtain ⟨n,hn⟩:=List.getElem?_of_mem hx;rw [List.getElem?_mapIdx] at hn;obtain ⟨o,ho,rfl⟩:=Option.map_eq_some_iff.1 hn;simp [h n o ho]
theorem Vw {p:Nat->aH->Bool} {l:List aH} (h:uJ p l=false) {n:Nat} {o:aH} (hn:l[n]? = some o):p n o=false:=by
 cases hp:p n o with
 | false=>rfl
 | true=>rw [NL hn hp] at h; cases h
theorem Bf (l:List aH):(dW l).length=l.length:=by simp [dW]
theorem Vx {l:List aH} {i:Nat} {o:aH} (h:l[i]? = some o):(dW l)[i]? = some o.nm:=by unfold dW; rw [List.getElem?_map,h]; rfl
theorem Vy {l:List aH} (h:l.length<1\/4<l.length):e_ l=2:=by rw [e_,if_pos h]
theorem afx {l:List aH} {i:Nat} {o:aH} (h4:¬(l.length<1\/4<l.length)) (hi:l[i]? = some o) (h0:∀x ∈ l.take i,gj x=0) (h:¬gj o=0):e_ l=gj o:=by
 rw [e_,if_neg h4,Ds gj hi (Ii.2 h0) h,uq h]
theorem Iz {l:List aH} (h4:¬(l.length<1\/4<l.length)) (h0:∀x ∈ l,gj x=0):e_ l=if eo (dW l)=true then 6 else if uJ (λn o=>!(wx ((dW l).take n) o)) l=true then 9 else if uJ (λn o=>o.fix.any (sL l n o)) l=true then 5 else 0:=by
 rw [e_,if_neg h4,Ii.2 h0,mC]
structure afy (l:List aH):Prop where
 ep:¬(l.length<1\/4<l.length)
 mI:∀o ∈ l,gj o=0
 nd:(dW l).Nodup
 known:∀n o,l[n]? = some o->wx ((dW l).take n) o=true
 bO:∀n o,l[n]? = some o->∀f ∈ o.fix,sL l n o f=false
theorem NM {l:List aH}:e_ l=0↔afy l:=by
 constructor
 · intro h
   have h4:¬(l.length<1\/4<l.length):=λh4=>by rw [Vy h4] at h; cases h
   have h0:∀x ∈ l,gj x=0:=by
     rw [e_,if_neg h4,Ux] at h;exact Ii.1 h.1
   rw [Iz h4 h0] at h
   split at h
   · cases h
   · rename_i h1
     split at h
     · cases h
     · rename_i h2
       split at h
       · cases h
       · rename_i h3
         refine ⟨h4,h0,qM.2 (by simpa using h1),λn o hn=>?_,λn o hn f hf=>?_⟩
         · have:=Vw (by simpa using h2) hn
           simpa using this
         · have:=Vw (p:=λn o=>o.fix.any (sL l n o)) (by simpa using h3) hn
           rw [List.any_eq_false] at this
           simpa using this f hf
 · intro h
   rw [Iz h.ep h.mI,qM.1 h.nd,if_neg (by decide),Iy (λn o hn=>by rw [h.known n o hn]; rfl),if_neg (by decide),Iy (λn o hn=>by rw [List.any_eq_false]; intro f hf; rw [h.bO n o hn f hf]; decide),if_neg (by decide)]
theorem NN {l:List aH} {i:Nat} {o:aH} (h:l[i]? = some o):sJ (l.take (i+1))=sJ (l.take i)+o.code.length:=by
 unfold sJ;rw [List.take_add_one,h];simp
theorem Vz {l:List aH} {i:Nat} {o:aH} (h:l[i]? = some o):yv (l.take (i+1))=yv (l.take i)+o.data:=by
 unfold yv;rw [List.take_add_one,h];simp
theorem VA {l:List aH} (h:∀o ∈ l,o.code.length<=2048):∀i,i<=l.length->sJ (l.take i)<=2048*i
 | 0,_=>by simp [sJ]
 | i+1,hi=>by
   obtain ⟨o,ho⟩:∃o,l[i]? = some o:=⟨_,List.getElem?_eq_getElem (by omega)⟩;have h1:=VA h i (by omega);have h2:=h o (List.mem_of_getElem? ho);rw [NN ho];omega
theorem VB {l:List aH} (h:∀o ∈ l,0<=o.data/\o.data<=512):∀i,i<=l.length->0<=yv (l.take i)/\yv (l.take i)<=512*i
 | 0,_=>by simp [yv]
 | i+1,hi=>by
   obtain ⟨o,ho⟩:∃o,l[i]? = some o:=⟨_,List.getElem?_eq_getElem (by omega)⟩;have h1:=VB h i (by omega);have h2:=h o (List.mem_of_getElem? ho);rw [Vz ho];omega
theorem VC {o:aH} (h:gj o=0):0<=o.data/\o.data<=512:=(yr h).2.data
theorem Bg {l:List aH} (h4:¬(l.length<1\/4<l.length)) (h:∀o ∈ l,gj o=0) {k:Nat} (hk:k<=l.length):0<=cX l k/\cX l k<=9000:=by
 have h1:=VA (λo ho=>(DP (h o ho)).code) k hk;unfold cX;omega
theorem DR {l:List aH} (h4:¬(l.length<1\/4<l.length)) (h:∀o ∈ l,gj o=0) {k:Nat} (hk:k<=l.length):0<=eJ l k/\eJ l k<=2048:=by
 have h1:=VB (λo ho=>VC (h o ho)) k hk;unfold eJ;omega
theorem IA {l:List aH} {i:Nat} {o:aH} (h:l[i]? = some o):cX l (i+1)=cX l i+(o.code.length:Int):=by
 unfold cX;rw [NN h];omega
theorem afz {l:List aH} {i:Nat} {o:aH} (h:l[i]? = some o):eJ l (i+1)=eJ l i+o.data:=by
 unfold eJ;rw [Vz h]
theorem NO {l:List aH} {i:Nat} {o:aH} (h:l[i]? = some o):(nJ l)[i]? = some (qX l i o):=by unfold nJ; rw [List.getElem?_mapIdx,h]; rfl
theorem wy (l:List aH):(nJ l).length=l.length:=by simp [nJ]
theorem afA {l:List aH} {i:Nat} {o:aH} (h:l[i]? = some o):(nJ l).take (i+1)=(nJ l).take i++[qX l i o]:=by rw [List.take_add_one,NO h]; rfl
theorem NP {l:List aH} {i:Nat} {o:aH} (h:l[i]? = some o):(nJ l++[sK l])[i]? = some (qX l i o):=by
 have hi:=(List.getElem?_eq_some_iff.1 h).1;rw [List.getElem?_append_left (by rw [wy]; exact hi),NO h]
theorem afB (l:List aH):(nJ l++[sK l])[l.length]? = some (sK l):=by
 rw [List.getElem?_append_right (by rw [wy]; exact Nat.le_refl _),wy,Nat.sub_self]
 rfl
theorem NQ (l:List aH) (n:Nat) (o:aH):(pL l n o).length=o.ae.length+1:=by simp [pL]
theorem afC {l:List aH} {n:Nat} {o:aH} (hn:n<l.length) (hk:wx ((dW l).take n) o=true):∀k ∈ pL l n o,k<l.length:=by
 intro k hm;unfold pL at hm
 rcases List.mem_cons.1 hm with rfl | hm
 · exact hn
 · obtain ⟨s,hs,rfl⟩:=List.mem_map.1 hm
   have h1:=List.all_eq_true.1 hk s hs;unfold uH
   cases hi:idxOf s ((dW l).take n) 0 with
   | none=>rw [hi] at h1; cases h1
   | some k=>
     have:=(List.getElem?_eq_some_iff.1 (A0 hi).2).1;rw [List.length_take,Bf] at this
     show k<l.length
     omega
theorem VD {l:List aH} {n:Nat} {o:aH} (hn:n<l.length) (hk:wx ((dW l).take n) o=true) {m:Int} (h0:0<=m) (h1:m<=(o.ae.length:Int)):(pL l n o)[m.toNat]? = some (fR l n o m)/\fR l n o m<l.length:=by
 have hl:m.toNat<(pL l n o).length:=by rw [NQ]; omega
 have h2:(pL l n o)[m.toNat]? = some (pL l n o)[m.toNat]:=List.getElem?_eq_getElem hl
 have h3:fR l n o m=(pL l n o)[m.toNat]:=by unfold fR; rw [h2]; rfl
 rw [h3];exact ⟨h2,afC hn hk _ (List.getElem_mem hl)⟩
def oI (c:List aN) (p:Nat) (v:Int):List aN:=match c[p]? with | some x=>c.set p ⟨x.op,v,x.b⟩ | none=>c
def NR (l:List aH) (k:Nat) (a:Int):Int:=((l[k]?).bind λo=>o.di[a.toNat]?).getD 0
def sM (l:List aH) (n:Nat) (o:aH) (f:dS):Int:=
 if f.kind=1 then lg o.code f.at_+cX l n else if f.kind=2 then cX l (fR l n o f.m)+NR l (fR l n o f.m) (lg o.code f.at_) else lg o.code f.at_+eJ l (fR l n o f.m)
def kF (l:List aH) (n:Nat) (o:aH) (c:List aN) (fs:List dS):List aN:=fs.foldl (λc f=>oI c f.at_.toNat (sM l n o f)) c
def oJ (l:List aH):List aN:=l.mapIdx λn o=>(⟨13,cX l n+o.main,0⟩:aN)
def DS (l:List aH) (n:Nat) (o:aH):List aN:=kF l n o o.code o.fix
def yw (l:List aH) (n:Nat):List aN:=((l.mapIdx λn o=>DS l n o).take n).flatten
def fe (l:List aH) (n:Nat):List aN:=oJ l++[⟨20,0,0⟩]++yw l n
def uK (l:List aH):List aN:=fe l l.length
def dX (l:List aH):(List aN×Int)×Int:=if e_ l≠0 then (([],0),e_ l) else if 2048<cX l l.length\/512<eJ l l.length then (([],0),2) else ((uK l,eJ l l.length),0)
theorem afD (c:List aN) (p:Nat) (v:Int):(oI c p v).length=c.length:=by unfold oI; split<;>simp
theorem afE {c:List aN} {p:Nat} {x:aN} (h:c[p]? = some x) (v:Int):oI c p v=c.set p ⟨x.op,v,x.b⟩:=by unfold oI; rw [h]
theorem afF {c:List aN} {p q:Nat} (v:Int) (h:p≠q):(oI c p v)[q]? = c[q]?:=by
 unfold oI
 split
 · rw [List.getElem?_set_ne h]
 · rfl
theorem IB (l:List aH) (n:Nat) (o:aH):∀(fs:List dS) (c:List aN),(kF l n o c fs).length=c.length
 | [],c=>rfl
 | f::r,c=>by
   show (kF l n o (oI c f.at_.toNat (sM l n o f)) r).length=_
   rw [IB l n o r,afD]
theorem NS {l:List aH} {n:Nat} {o:aH} {c:List aN} {fs:List dS} {j:Nat} {f:dS} (h:fs[j]? = some f):kF l n o c (fs.take (j+1))=oI (kF l n o c (fs.take j)) f.at_.toNat (sM l n o f):=by
 unfold kF;rw [List.take_add_one,h];simp
theorem VE {l:List aH} {n:Nat} {o:aH} {q:Nat}:∀(fs:List dS) (c:List aN),(∀f ∈ fs,f.at_.toNat≠q)->(kF l n o c fs)[q]? = c[q]?
 | [],c,_=>rfl
 | f::r,c,h=>by
   show (kF l n o (oI c f.at_.toNat (sM l n o f)) r)[q]? = _
   rw [VE r _ λg hg=>h g (by simp [hg]),afF _ (h f (by simp))]
theorem afG {l:List aH} {n:Nat} {o:aH} (hk:DM o) {j:Nat} {f:dS} (h:o.fix[j]? = some f):(kF l n o o.code (o.fix.take j))[f.at_.toNat]? = o.code[f.at_.toNat]?:=by
 refine VE _ _ λg hg e=>?_;obtain ⟨i,hi⟩:=List.getElem?_of_mem hg
 have wi:i<j:=by
   have:=(List.getElem?_eq_some_iff.1 hi).1;rw [List.length_take] at this;omega
 rw [List.getElem?_take_of_lt wi] at hi;obtain ⟨a1,a2⟩:=List.getElem?_eq_some_iff.1 hi;obtain ⟨b1,b2⟩:=List.getElem?_eq_some_iff.1 h;have:=List.pairwise_iff_getElem.1 hk.up i j a1 b1 wi;rw [a2,b2] at this;obtain ⟨p,hp,_⟩:=uz (hk.fix g (List.mem_of_getElem? hi)).1;obtain ⟨p2,hp2,_⟩:=uz (hk.fix f (List.mem_of_getElem? h)).1;omega
theorem IC (l:List aH):(oJ l).length=l.length:=by simp [oJ]
theorem afH {l:List aH} {i:Nat} {o:aH} (h:l[i]? = some o):(oJ l).take (i+1)=(oJ l).take i++[⟨13,cX l i+o.main,0⟩]:=by
 rw [List.take_add_one];unfold oJ;rw [List.getElem?_mapIdx,h]
 rfl
theorem NT (l:List aH):yw l 0=[]:=rfl
theorem NU {l:List aH} {i:Nat} {o:aH} (h:l[i]? = some o):yw l (i+1)=yw l i++DS l i o:=by
 unfold yw;rw [List.take_add_one,List.getElem?_mapIdx,h];simp
theorem VF {l:List aH}:∀{i:Nat},i<=l.length->(yw l i).length=sJ (l.take i)
 | 0,_=>by simp [NT,sJ]
 | i+1,hi=>by
   obtain ⟨o,ho⟩:∃o,l[i]? = some o:=⟨_,List.getElem?_eq_getElem (by omega)⟩;rw [NU ho,List.length_append,VF (i:=i) (by omega),NN ho];unfold DS;rw [IB]
theorem VG {l:List aH} {i:Nat} (hi:i<=l.length):((fe l i).length:Int)=cX l i:=by
 unfold fe cX;rw [List.length_append,List.length_append,IC,VF hi,List.length_singleton]
theorem VH {l:List aH} {i:Nat} {o:aH} (h:l[i]? = some o):fe l (i+1)=fe l i++DS l i o:=by
 unfold fe;rw [NU h,List.append_assoc,List.append_assoc,List.append_assoc]
theorem NV {l:List aH} {n:Nat} {o:aH} {c:List aN} {p:Nat} {x:aN} (v:Int) (h:c[p]? = some x):(fe l n++c).set ((fe l n).length+p) ⟨x.op,v,x.b⟩=fe l n++oI c p v:=by
 rw [List.set_append_right _ _ (by omega),Nat.add_sub_cancel_left,afE h]
theorem afI {c:List aN} {p:Nat} {v:Int} (h:∀i ∈ c,qT i):∀i ∈ oI c p v,qT i:=by
 unfold oI
 split
 · rename_i x hx
   intro i hi
   rcases List.mem_or_eq_of_mem_set hi with hi | rfl
   · exact h i hi
   · exact h x (List.mem_of_getElem? hx)
 · exact h
theorem VI (l:List aH) (n:Nat) (o:aH):∀(fs:List dS) (c:List aN),(∀i ∈ c,qT i)->∀i ∈ kF l n o c fs,qT i
 | [],c,h=>h
 | f::r,c,h=>VI l n o r _ (afI h)
theorem VJ {l:List aH} (h:∀o ∈ l,gj o=0):∀{i:Nat},i<=l.length->∀x ∈ yw l i,qT x
 | 0,_=>by simp [NT]
 | i+1,hi=>by
   obtain ⟨o,ho⟩:∃o,l[i]? = some o:=⟨_,List.getElem?_eq_getElem (by omega)⟩;rw [NU ho];intro x hx
   rcases List.mem_append.1 hx with hx | hx
   · exact VJ h (i:=i) (by omega) x hx
   · exact VI l i o _ _ (yr (h o (List.mem_of_getElem? ho))).2.code x hx
theorem afJ {l:List aH} (h:∀o ∈ l,gj o=0):∀x ∈ uK l,qT x:=by
 intro x hx;unfold uK fe at hx
 rcases List.mem_append.1 hx with hx | hx
 · rcases List.mem_append.1 hx with hx | hx
   · unfold oJ at hx
     obtain ⟨n,hn⟩:=List.getElem?_of_mem hx;rw [List.getElem?_mapIdx] at hn;obtain ⟨o,_,rfl⟩:=Option.map_eq_some_iff.1 hn;exact ⟨show (1:Int)<=13 by decide,show (13:Int)<=22 by decide⟩
   · rw [List.mem_singleton] at hx; subst hx; exact ⟨by decide,by decide⟩
 · exact VJ h (Nat.le_refl _) x hx
theorem VK (l:List aH):((uK l).length:Int)=cX l l.length:=VG (Nat.le_refl _)
theorem NW {k:List UInt8}:∀(m:List (cV (List UInt8))) (i:Nat),(bG k m i).isSome=true↔k ∈ m.map (·.1)
 | [],i=>by simp [bG]
 | e::r,i=>by
   rw [bG,List.map_cons,List.mem_cons]
   by_cases h:k=e.1
   · simp [h]
   · rw [if_neg (by simpa using h),NW r (i+1)]
     simp [h]
theorem VL {k:List UInt8} {v:Value} {m:List (cV (List UInt8))} {c:Nat}:(k ∈ m.map (·.1)->(dN k v m c).length=m.length)/\(k ∉ m.map (·.1)->(dN k v m c).map (·.1)=m.map (·.1)++[k]):=by
 constructor
 · intro h
   have h2:=(NW m 0).2 h;unfold dN
   cases hg:bG k m 0 with
   | none=>rw [hg] at h2; cases h2
   | some r=>simp
 · intro h
   have h2:bG k m 0=none:=by
     cases hg:bG k m 0 with
     | none=>rfl
     | some r=>exact absurd ((NW m 0).1 (by rw [hg]; rfl)) h
   unfold dN;rw [h2];simp
def uL (ns:List (List UInt8)) (i:Nat) (M:List (cV (List UInt8))):Prop:=
 (∀s,dU s M (.int .i64 0) = .int .i64 (((ns.take i).count s:Nat):Int))/\(((ns.take i).Nodup/\M.map (·.1)=ns.take i)\/(¬(ns.take i).Nodup/\M.length<i))
theorem uL.zero (ns:List (List UInt8)):uL ns 0 []:=⟨λs=>by simp [dU,bG],.inl ⟨by simp,by simp⟩⟩
theorem uL.step {ns:List (List UInt8)} {i:Nat} {M:List (cV (List UInt8))} {x:List UInt8} (h:uL ns i M) (hx:ns[i]? = some x) (c:Nat):uL ns (i+1) (dN x (.int .i64 (((ns.take i).count x:Nat)+1)) M c):=by
 have aw:=(List.getElem?_eq_some_iff.1 hx).1
 have hl:(ns.take i).length=i:=by simp; omega
 have hT:ns.take (i+1)=ns.take i++[x]:=by rw [List.take_add_one,hx]; rfl
 refine ⟨λs=>?_,?_⟩
 · by_cases e:s=x
   · subst e
     rw [A7,hT,List.count_append];simp
   · rw [Im _ M c _ e,h.1 s,hT,List.count_append]
     have e2:¬x=s:=λk=>e k.symm;simp [List.count_cons,e2]
 · rcases h.2 with ⟨h1,h2⟩ | ⟨h1,h2⟩
   · by_cases hm:x ∈ ns.take i
     · right
       refine ⟨λhn=>?_,?_⟩
       · rw [hT,List.nodup_append] at hn
         exact hn.2.2 x hm x (by simp) O
       · rw [VL.1 (by rw [h2]; exact hm),<-List.length_map (f:=(·.1)),h2,hl]
         omega
     · left
       refine ⟨?_,?_⟩
       · rw [hT,List.nodup_append]
         exact ⟨h1,by simp,λa ha b hb e=>by rw [List.mem_singleton] at hb; subst hb; subst e; exact hm ha⟩
       · rw [VL.2 (by rw [h2]; exact hm),h2,hT]
   · right
     refine ⟨λhn=>h1 ?_,?_⟩
     · rw [hT,List.nodup_append] at hn; exact hn.1
     · have:=UR x (.int .i64 (((ns.take i).count x:Nat)+1)) M c
       omega
theorem uL.ep {ns:List (List UInt8)} {M:List (cV (List UInt8))} (h:uL ns ns.length M):M.length<ns.length↔eo ns=true:=by
 have h2:=h.2;rw [List.take_length] at h2
 rcases h2 with ⟨h1,h2⟩ | ⟨h1,h2⟩
 · rw [qM] at h1
   have:M.length=ns.length:=by rw [<-List.length_map (f:=(·.1)),h2]
   rw [h1]
   constructor
   · intro; omega
   · intro e; cases e
 · rw [qM] at h1
   exact ⟨λ_=>by simpa using h1,λ_=>h2⟩
end Go.Bw
end
section
namespace Go.Bw
open Go
theorem VM {α β:Type} {p:Nat->α->β->Prop}:∀(l:List α) (s:Nat),(∀i x,l[i]? = some x->∃r,p (s+i) x r)->∃ys:List (α×β),ys.map (·.1)=l/\∀(i:Nat) y,ys[i]? = some y->p (s+i) y.1 y.2
 | [],_,_=>⟨[],rfl,λi y h=>by simp at h⟩
 | x::l,s,h=>by
   obtain ⟨r,hr⟩:=h 0 x rfl
   obtain ⟨ys,h1,h2⟩:=VM l (s+1) λi y hy=>by
     obtain ⟨r,hr⟩:=h (i+1) y hy;exact ⟨r,by rw [show s+1+i=s+(i+1) by omega]; exact hr⟩
   refine ⟨(x,r)::ys,by simp [h1],λi y hy=>?_⟩
   cases i with
   | zero=>simp at hy; subst hy; exact hr
   | succ i=>rw [show s+(i+1)=s+1+i by omega]; exact h2 i y (by simpa using hy)
end Go.Bw
end
section
namespace Go.Bw
open Go
abbrev Tx:=List UInt8
def DT:List UInt8:=[109,111,100,117,108,101]
def DU:List UInt8:=[117,115,101]
def ID:List UInt8:=[112,117,98]
def kG:List UInt8:=[99,111,110,115,116]
def kH:List UInt8:=[118,97,114]
def kJ:List UInt8:=[97,114,114,97,121]
def IE:List UInt8:=[112,114,111,99]
def yx:List UInt8:=[108,111,99,97,108]
def qY:List UInt8:=[109,97,105,110]
def eK:List UInt8:=[105,102]
def eL:List UInt8:=[101,108,115,101]
def eM:List UInt8:=[119,104,105,108,101]
def ey:List UInt8:=[114,101,116,117,114,110]
def ez:List UInt8:=[111,117,116]
def yy:List UInt8:=[105,110]
def J (l:List Tx):Tx:=Lib.join l [32]
def nK (mod nm:Tx):List Tx:=if (mod==[])=true then [nm] else [mod,[46],nm]
def opsL:List Tx:=[[38],[124],[43],[45],[42],[47],[37],[61],[60]]
def NX (op:Int):Tx:=(opsL[(op-7).toNat]?).getD []
def uQ:List (List Tx)->List Tx
 | []=>[]
 | [x]=>x
 | x::y::r=>x++[[44]]++uQ (y::r)
def Bh (l:List (List Tx)):List Tx:=[[40]]++uQ l++[[41]]
def at_ (l:List (List Tx)) (i:Nat):List Tx:=(l[i]?).getD []
def sN (op n:Int) (mod nm:Tx) (A:List (List Tx)):List Tx:=
 if op=1 then [Lib.itoa n] else if op=2 then [yy] else if op=3 then nK mod nm else if op=4 then nK mod nm++[[91]]++at_ A 0++[[93]] else if op=5 then nK mod nm++Bh A
 else if op=6 then [[33]]++at_ A 0 else [[40]]++at_ A 0++[NX op]++at_ A 1++[[41]]
mutual
def jf:ax->List Tx
 | .mk op n mod nm args=>sN op n mod nm (jT args)
def jT:List ax->List (List Tx)
 | []=>[]
 | x::r=>jf x::jT r
end
def IF (l:List Tx):List Tx:=[[123]]++l++[[125]]
def qZ (op:Int) (mod nm:Tx) (A:List (List Tx)) (b:List Tx) (ol:Nat) (o:List Tx):List Tx:=
 if op=4\/op=5 then [if op=5 then eM else eK]++at_ A 0++IF b++(if 0<ol then [eL]++IF o else [])
 else (if op=6 then [ey]++at_ A 0 else if op=7 then [ez]++at_ A 0 else if op=3 then nK mod nm++Bh A else if op=1 then nK mod nm++[[61]]++at_ A 0 else if op=2 then nK mod nm++[[91]]++at_ A 0++[[93],[61]]++at_ A 1 else [])++[[59]]
mutual
def uR:aP->List Tx
 | .mk op mod nm args body other=>qZ op mod nm (jT args) (uV body) other.length (uV other)
def uV:List aP->List Tx
 | []=>[]
 | x::r=>uR x++uV r
end
def Bi (l:List aP):List Tx:=IF (uV l)
def NY (u:Tx):List Tx:=[yx,u,[59]]
def IG (d:bI):List Tx:=if d.kind=1 then [kG,d.nm,[61],Lib.itoa d.n] else if d.kind=2 then [kH,d.nm] else if d.kind=3 then [kJ,d.nm,[91],Lib.itoa d.n,[93]] else []
theorem nL {a b:aA} (h:(a+b).bf=0):a.bf=0/\b.bf=0:=by
 rw [aA.cJ] at h; omega
theorem IH {b:Bool} (h:(cj b).bf=0):b=false:=by cases b; rfl; cases h
theorem VN {b:Bool} (h:(bg b).bf=0):b=false:=by cases b; rfl; cases h
structure OkE (op n:Int) (mod nm:Tx) (args:List ax) (d:Nat):Prop where
 deep:d<=6
 kind:1<=op/\op<=15
 name:py (gP op 3 5) mod nm=false
 VO:sv (adD op) args.length=false
 ep:args.length<=3
 num:k7 op n=false
 sub:(bW args (d+1)).bf=0
theorem afK (mod nm:Tx):nK mod nm≠[]:=by unfold nK; split<;>simp
theorem afL:∀x:ax,jf x≠[]
 | .mk op n mod nm args=>by
   unfold jf sN Bh;have:=afK mod nm
   repeat' split
   all_goals simp_all
structure VP (op:Int) (mod nm:Tx) (args:List ax) (body other:List aP) (d:Nat):Prop where
 kind:1<=op/\op<=7
 name:py (gP op 1 3) mod nm=false
 VO:sv (T0 op) args.length=false
 ep:args.length<=3
 exprs:(bW args 1).bf=0
 form:gN op body.length other.length=false
 body:(inner op||decide (0<body.length))=true->(qJ (d+1) body.length (bM body (d+1))).bf=0
 other:0<other.length->(qJ (d+1) other.length (bM other (d+1))).bf=0
theorem VP.len {op:Int} {mod nm:Tx} {args:List ax} {body other:List aP} {d:Nat} (h:VP op mod nm args body other d) (ho:op≠3):args.length=if op=2 then 2 else 1:=by
 have:=h.VO;unfold sv T0 at this
 by_cases h2:op=2
 · rw [if_pos h2] at this ⊢; simp at this; omega
 · rw [if_neg h2,if_neg ho] at this; rw [if_neg h2]; simp at this; omega
theorem afM:∀x:aP,uR x≠[]
 | .mk op mod nm args body other=>by
   unfold uR qZ
   split<;>simp
theorem afN {d:bI} (h:(gO d).bf=0):d.kind=1\/d.kind=2\/d.kind=3:=by
 unfold gO at h;obtain ⟨_,h⟩:=nL h
 by_cases h1:d.kind=1
 · exact .inl h1
 · rw [if_neg h1] at h
   by_cases h2:d.kind=2
   · exact .inr (.inl h2)
   · rw [if_neg h2] at h
     by_cases h3:d.kind=3
     · exact .inr (.inr h3)
     · rw [if_neg h3] at h; cases h
theorem VQ:∀{l:List bI},(cO l).bf=0->∀d ∈ l,(gO d).bf=0
 | [],_,d,hd=>by simp at hd
 | x::r,h,d,hd=>by
   unfold cO at h;obtain ⟨h1,h2⟩:=nL h
   rcases List.mem_cons.1 hd with rfl | hd
   · exact h1
   · exact VQ h2 d hd
theorem VR:∀{l:List dC},(dz l).bf=0->∀d ∈ l,(qK d).bf=0
 | [],_,d,hd=>by simp at hd
 | x::r,h,d,hd=>by
   unfold dz at h;obtain ⟨h1,h2⟩:=nL h
   rcases List.mem_cons.1 hd with rfl | hd
   · exact h1
   · exact VR h2 d hd
theorem afO {c:aA}:uj c=0↔c.bf=0:=by
 unfold uj aA.bf
 split
 · omega
 · split
   · omega
   · split<;>omega
end Go.Bw
end
section
namespace Go.Bw
open Go
def yz (s:Tx):Tok:=match Lib.atoiAll s with
 | .ok v=>⟨2,v,[]⟩
 | _=>if dZ s=true then ⟨1,0,s⟩ else ⟨3,0,s⟩
def VS (t:Tok):Prop:=x5 t=true/\oy t=true
theorem afP:∀u ∈ MM,yz [u]=⟨3,0,[u]⟩:=by decide
theorem afQ {s:Tx} (h:dZ s=true):yz s=⟨1,0,s⟩:=by
 cases s with
 | nil=>simp [dZ] at h
 | cons c r=>
   have hl:su (c.toNat:Int)=true:=by
     simp only [dZ,Bool.and_eq_true] at h
     simpa using h.1.2
   have hc:97<=c.toNat:=by simp [su] at hl; omega
   have ha:∀v,Lib.atoiAll (c::r)≠.ok v:=by
     intro v hv;rw [Lib.atoiAll_plain c r (by omega) (by omega)] at hv;unfold Lib.parseMag Lib.parseUint10 at hv;rw [if_neg (by simp),if_neg (by omega)] at hv;cases hv
   unfold yz
   cases hs:Lib.atoiAll (c::r) with
   | ok v=>exact absurd hs (ha v)
   | _=>simp [h]
theorem afR {n:Int} (h0:0<=n) (h1:n<=1099511627775):yz (Lib.itoa n)=⟨2,n,[]⟩:=by
 unfold yz;rw [TU h0,TW (by omega)];simp; omega
theorem II {t:Tok} (h:VS t):yz (uh t)=t:=by
 obtain ⟨hk,ht⟩:=h;obtain ⟨k,n,s⟩:=t
 have HD:k=1\/k=2\/k=3:=by simp [x5] at hk; omega
 rcases HD with rfl | rfl | rfl
 · simp only [oy,if_pos,Bool.and_eq_true,beq_iff_eq] at ht
   obtain ⟨rfl,hn⟩:=ht;exact afQ hn
 · have:s=[]/\0<=n/\n<=1099511627775:=by simpa [oy] using ht
   obtain ⟨rfl,h0,h1⟩:=this;exact afR h0 h1
 · have:n=0/\s.length=1/\ug (s[0]?.getD 0)=true:=by simpa [oy] using ht
   obtain ⟨rfl,hl,hs⟩:=this
   match s,hl with
   | [c],_=>exact afP c (by simpa [ug] using hs)
theorem yA:∀{l:List Tx},(aC l).bf=0->∀s ∈ l,gw s=true
 | [],_,s,hs=>by simp at hs
 | x::r,h,s,hs=>by
   unfold aC at h;obtain ⟨h1,h2⟩:=nL h
   rcases List.mem_cons.1 hs with rfl | hs
   · simpa using IH h1
   · exact yA h2 s hs
structure VT (d:bI):Prop where
 name:gw d.nm=true
 kind:d.kind=1\/d.kind=2\/d.kind=3
 n1:d.kind=1->0<=d.n/\d.n<=1099511627775
 n2:d.kind=2->d.n=0
 n3:d.kind=3->1<=d.n/\d.n<=32
theorem VU {d:bI} (h:(gO d).bf=0):VT d:=by
 have hk:=afN h;unfold gO at h;obtain ⟨h1,h2⟩:=nL h;refine ⟨yA h1 d.nm (by simp),hk,λe=>?_,λe=>?_,λe=>?_⟩
 · rw [if_pos e] at h2
   have:=IH h2;simp at this; omega
 · rw [if_neg (by omega),if_pos e] at h2
   have:=IH h2
   simpa using this
 · rw [if_neg (by omega),if_neg (by omega),if_pos e] at h2
   have:=IH h2;simp at this; omega
structure OkP (p:dC):Prop where
 name:gw p.nm=true
 params:∀s ∈ p.params,gw s=true
 av:∀s ∈ p.av,gw s=true
 ep:p.params.length<=3/\p.av.length<=4
 body:(cZ p.body 1).bf=0
theorem okP {p:dC} (h:(qK p).bf=0):OkP p:=by
 unfold qK at h;obtain ⟨h,h5⟩:=nL h;obtain ⟨h,h4⟩:=nL h;obtain ⟨h,h3⟩:=nL h;obtain ⟨h1,h2⟩:=nL h;have:=VN h4;simp at this;exact ⟨yA h1 p.nm (by simp),yA h2,yA h3,by omega,h5⟩
structure DV (m:bc):Prop where
 name:gw m.nm=true
 ae:∀s ∈ m.ae,gw s=true
 ep:m.ae.length<=3/\m.decls.length<=10/\m.procs.length<=6
 decls:∀d ∈ m.decls,(gO d).bf=0
 procs:∀p ∈ m.procs,(qK p).bf=0
 main:(cZ m.main 1).bf=0
theorem okM {m:bc} (h:(v7 m).bf=0):DV m:=by
 unfold v7 at h;obtain ⟨h,h6⟩:=nL h;obtain ⟨h,h5⟩:=nL h;obtain ⟨h,h4⟩:=nL h;obtain ⟨h,h3⟩:=nL h;obtain ⟨h1,h2⟩:=nL h;have:=VN h3;simp at this;exact ⟨yA h1 m.nm (by simp),yA h2,by omega,VQ h4,VR h5,h6⟩
end Go.Bw
end
section
namespace Go.Bw
open Go
abbrev Tk:=List Tok
def aD (s:Tx):Tk->Option Tk
 | []=>none
 | t::r=>if (t.text==s)=true then some r else none
def lh (k:Int):Tk->Option (Tok×Tk)
 | []=>none
 | t::r=>if t.kind=k then some (t,r) else none
def cG (l:Tk):Option (Tx×Tk):=(lh 1 l).bind λp=>if gw p.1.text=true then some (p.1.text,p.2) else none
def jU (l:Tk):Option (Int×Tk):=(lh 2 l).map λp=>(p.1.n,p.2)
def kK (l:Tk):Option ((Tx×Tx)×Tk):=(cG l).bind λa=>match aD [46] a.2 with
 | some r=>(cG r).map λb=>((a.1,b.1),b.2)
 | none=>some (([],a.1),a.2)
def lj (pe:Tk->Option (ax×Tk)):Nat->Tk->Option (List ax×Tk)
 | 0,_=>none
 | n+1,l=>(pe l).bind λx=>match aD [41] x.2 with
   | some r=>some ([x.1],r)
   | none=>match aD [44] x.2 with
     | some r=>(lj pe n r).map λq=>(x.1::q.1,q.2)
     | none=>none
def kL (pe:Tk->Option (ax×Tk)) (l:Tk):Option (List ax×Tk):=match aD [41] l with
 | some r=>some ([],r)
 | none=>lj pe (l.length+1) l
def oK:List Tx->Nat->Tk->Option (Nat×Tk)
 | [],_,_=>none
 | w::ws,i,l=>match aD w l with
   | some r=>some (i,r)
   | none=>oK ws (i+1) l
def mJ (pe:Tk->Option (ax×Tk)) (l:Tk):Option (ax×Tk):=(pe l).bind λa=>(oK opsL 0 a.2).bind λo=>(pe o.2).bind λb=>(aD [41] b.2).map λr=>(ax.mk (7+(o.1:Int)) 0 [] [] [a.1,b.1],r)
def pM (pe:Tk->Option (ax×Tk)) (mod nm:Tx) (l:Tk):Option (ax×Tk):=match aD [91] l with
 | some r=>(pe r).bind λx=>(aD [93] x.2).map λr=>(ax.mk 4 0 mod nm [x.1],r)
 | none=>match aD [40] l with
   | some r=>(kL pe r).map λq=>(ax.mk 5 0 mod nm q.1,q.2)
   | none=>some (ax.mk 3 0 mod nm [],l)
def nM (pe:Tk->Option (ax×Tk)) (l:Tk):Option (ax×Tk):=match aD yy l with
 | some r=>some (ax.mk 2 0 [] [] [],r)
 | none=>match aD [33] l with
   | some r=>(pe r).map λx=>(ax.mk 6 0 [] [] [x.1],x.2)
   | none=>match aD [40] l with
     | some r=>mJ pe r
     | none=>(kK l).bind λp=>pM pe p.1.1 p.1.2 p.2
def b_:Nat->Tk->Option (ax×Tk)
 | 0,_=>none
 | f+1,l=>match l with
   | []=>none
   | t::r=>if t.kind=2 then some (ax.mk 1 t.n [] [] [],r) else nM (b_ f) (t::r)
def et (l:Tk):Option (aP×Tk):=match aD ey l with
 | some r=>(b_ 6 r).map λx=>(aP.mk 6 [] [] [x.1] [] [],x.2)
 | none=>match aD ez l with
   | some r=>(b_ 6 r).map λx=>(aP.mk 7 [] [] [x.1] [] [],x.2)
   | none=>(kK l).bind λp=>match aD [40] p.2 with
     | some r=>(kL (b_ 6) r).map λq=>(aP.mk 3 p.1.1 p.1.2 q.1 [] [],q.2)
     | none=>match aD [91] p.2 with
       | some r=>(b_ 6 r).bind λi=>(aD [93] i.2).bind λr=>(aD [61] r).bind λr=>(b_ 6 r).map λx=>(aP.mk 2 p.1.1 p.1.2 [i.1,x.1] [] [],x.2)
       | none=>(aD [61] p.2).bind λr=>(b_ 6 r).map λx=>(aP.mk 1 p.1.1 p.1.2 [x.1] [] [],x.2)
def dH (pb:Tk->Option (List aP×Tk)) (l:Tk):Option (aP×Tk):=match aD eK l with
 | some r=>(b_ 6 r).bind λx=>(pb x.2).bind λb=>match aD eL b.2 with
   | some r=>(pb r).bind λo=>if o.1.length=0 then none else some (aP.mk 4 [] [] [x.1] b.1 o.1,o.2)
   | none=>some (aP.mk 4 [] [] [x.1] b.1 [],b.2)
 | none=>match aD eM l with
   | some r=>(b_ 6 r).bind λx=>(pb x.2).map λb=>(aP.mk 5 [] [] [x.1] b.1 [],b.2)
   | none=>(et l).bind λs=>(aD [59] s.2).map λr=>(s.1,r)
def nN (ps:Tk->Option (aP×Tk)):Nat->Tk->Option (List aP×Tk)
 | 0,_=>none
 | n+1,l=>match aD [125] l with
   | some r=>some ([],r)
   | none=>(ps l).bind λs=>(nN ps n s.2).map λq=>(s.1::q.1,q.2)
def eX:Nat->Tk->Option (List aP×Tk)
 | 0,_=>none
 | f+1,l=>(aD [123] l).bind λr=>nN (dH (eX f)) (r.length+1) r
def ff (aR:Bool) (l:Tk):Option (Option bI×Tk):=match aD kG l with
 | some r=>(cG r).bind λa=>(aD [61] a.2).bind λr=>(jU r).bind λn=>(aD [59] n.2).map λr=>(some ⟨1,a.1,aR,n.1⟩,r)
 | none=>match aD kH l with
   | some r=>(cG r).bind λa=>(aD [59] a.2).map λr=>(some ⟨2,a.1,aR,0⟩,r)
   | none=>match aD kJ l with
     | some r=>(cG r).bind λa=>(aD [91] a.2).bind λr=>(jU r).bind λn=>(aD [93] n.2).bind λr=>(aD [59] r).map λr=>(some ⟨3,a.1,aR,n.1⟩,r)
     | none=>some (none,l)
def jV (l:Tk):Bool×Tk:=((aD ID l).isSome,(aD ID l).getD l)
def nO:Nat->Bool->Tk->Option ((List bI×Bool)×Tk)
 | 0,_,_=>none
 | n+1,aR,l=>(ff aR l).bind λd=>match d.1 with
   | none=>some (([],aR),d.2)
   | some x=>(nO n (jV d.2).1 (jV d.2).2).map λq=>((x::q.1.1,q.1.2),q.2)
def iN:Nat->Bool->Tk->Option (List Tx×Tk)
 | 0,_,_=>none
 | n+1,first,l=>match aD [41] l with
   | some r=>some ([],r)
   | none=>(if first=true then some l else aD [44] l).bind λl=>(cG l).bind λa=>(iN n false a.2).map λq=>(a.1::q.1,q.2)
def ll:Nat->Tk->Option (List Tx×Tk)
 | 0,_=>none
 | n+1,l=>match aD yx l with
   | some r=>(cG r).bind λa=>(aD [59] a.2).bind λr=>(ll n r).map λq=>(a.1::q.1,q.2)
   | none=>some ([],l)
def iO (aR:Bool) (l:Tk):Option (dC×Tk):=(cG l).bind λa=>(aD [40] a.2).bind λr=>(iN (r.length+1) true r).bind λps=>(ll (ps.2.length+1) ps.2).bind λls=>(eX 6 ls.2).map λb=>(⟨a.1,aR,ps.1,ls.1,b.1⟩,b.2)
def nP:Nat->Bool->Tk->Option ((List dC×Bool)×Tk)
 | 0,_,_=>none
 | n+1,aR,l=>match aD IE l with
   | some r=>(iO aR r).bind λp=>(nP n (jV p.2).1 (jV p.2).2).map λq=>((p.1::q.1.1,q.1.2),q.2)
   | none=>some (([],aR),l)
def lV:Nat->Tk->Option (List Tx×Tk)
 | 0,_=>none
 | n+1,l=>match aD DU l with
   | some r=>(cG r).bind λa=>(aD [59] a.2).bind λr=>(lV n r).map λq=>(a.1::q.1,q.2)
   | none=>some ([],l)
def mK (l:Tk):Option (bc×Tk):=(aD DT l).bind λr=>(cG r).bind λa=>(aD [123] a.2).bind λr=>(lV (r.length+1) r).bind λu=>
 (nO ((jV u.2).2.length+1) (jV u.2).1 (jV u.2).2).bind λd=>(nP (d.2.length+1) d.1.2 d.2).bind λp=>if p.1.2=true then none else
 (aD qY p.2).bind λr=>(eX 6 r).bind λb=>(aD [125] b.2).map λr=>(⟨a.1,u.1,d.1.1,p.1.1,b.1⟩,r)
def fT (l:Tk):Prop:=∀t ∈ l,VS t
def eA (l:Tk) (ws:List Tx) (r:Tk):Prop:=fT l/\l=ws.map yz++r
theorem eA.ok {l r:Tk} {ws:List Tx} (h:eA l ws r):fT r:=λt ht=>h.1 t (by rw [h.2]; exact List.mem_append_right _ ht)
theorem eA.trans {l r q:Tk} {a b:List Tx} (h:eA l a r) (k:eA r b q):eA l (a++b) q:=⟨h.1,by rw [h.2,k.2]; simp⟩
theorem eA.nil {l:Tk} (h:fT l):eA l [] l:=⟨h,rfl⟩
theorem eA.cast {l r:Tk} {a b:List Tx} (h:eA l a r) (e:a=b):eA l b r:=e▸h
theorem ef {s:Tx} {l r:Tk} (hl:fT l) (hs:s≠[]) (h:aD s l=some r):eA l [s] r:=by
 cases l with
 | nil=>cases h
 | cons t q=>
   simp only [aD] at h
   split at h
   · rename_i ht
     injection h with h
     subst h;simp only [beq_iff_eq] at ht;refine ⟨hl,?_⟩;have aE:=hl t (by simp)
     have e:uh t=s:=by
       unfold uh;rw [if_neg]
       · exact ht
       · intro hk
         have:=aE.2;unfold oy at this;rw [if_neg (by omega),if_pos hk] at this;simp [ht,hs] at this
     simp [<-e,II aE]
   · cases h
theorem sO {l r:Tk} {a:Tx} (hl:fT l) (h:cG l=some (a,r)):eA l [a] r/\gw a=true:=by
 cases l with
 | nil=>cases h
 | cons t q=>
   unfold cG lh at h;dsimp only at h
   by_cases hk:t.kind=1
   · rw [if_pos hk] at h
     simp only [Option.bind_some] at h
     split at h
     · rename_i hn
       injection h with h
       injection h with h1 h2
       subst h1 h2;refine ⟨⟨hl,?_⟩,hn⟩;have aE:=hl t (by simp)
       have e:uh t=t.text:=by rw [uh,if_neg (by omega)]
       rw [<-e];simp [II aE]
     · cases h
   · rw [if_neg hk] at h; cases h
theorem NZ {l r:Tk} {n:Int} (hl:fT l) (h:jU l=some (n,r)):eA l [Lib.itoa n] r:=by
 cases l with
 | nil=>cases h
 | cons t q=>
   unfold jU lh at h;dsimp only at h
   by_cases hk:t.kind=2
   · rw [if_pos hk] at h
     simp only [Option.map_some] at h
     injection h with h
     injection h with h1 h2
     subst h1 h2;refine ⟨hl,?_⟩;have aE:=hl t (by simp)
     have e:uh t=Lib.itoa t.n:=by rw [uh,if_pos hk]
     rw [<-e];simp [II aE]
   · rw [if_neg hk] at h; cases h
theorem N0 {l r:Tk} {mod nm:Tx} (hl:fT l) (h:kK l=some ((mod,nm),r)):eA l (nK mod nm) r:=by
 unfold kK at h;obtain ⟨⟨a,q⟩,h1,h2⟩:=Option.bind_eq_some_iff.1 h;obtain ⟨e1,n1⟩:=sO hl h1;simp only at h2
 cases hd:aD [46] q with
 | none=>
   rw [hd] at h2;simp only [Option.some.injEq,Prod.mk.injEq] at h2;obtain ⟨⟨rfl,rfl⟩,rfl⟩:=h2;exact e1
 | some q2=>
   rw [hd] at h2;obtain ⟨⟨b,q3⟩,h3,h4⟩:=Option.map_eq_some_iff.1 h2;simp only [Prod.mk.injEq] at h4;obtain ⟨⟨rfl,rfl⟩,rfl⟩:=h4;have e2:=ef e1.ok (by simp) hd;obtain ⟨e3,n3⟩:=sO e2.ok h3;refine ((e1.trans e2).trans e3).cast ?_;unfold nK;rw [if_neg]
   · rfl
   · intro hm
     simp only [beq_iff_eq] at hm;subst hm;simp [gw,dZ] at n1
def Sound (pe:Tk->Option (ax×Tk)):Prop:=∀l x r,fT l->pe l=some (x,r)->eA l (jf x) r
theorem N1 {pe:Tk->Option (ax×Tk)} (hp:Sound pe):∀(n:Nat) (l:Tk) (xs:List ax) (r:Tk),fT l->lj pe n l=some (xs,r)->eA l (uQ (jT xs)++[[41]]) r
 | 0,_,_,_,_,h=>by cases h
 | n+1,l,xs,r,hl,h=>by
   unfold lj at h;obtain ⟨⟨x,q⟩,h1,h2⟩:=Option.bind_eq_some_iff.1 h;have e1:=hp l x q hl h1;simp only at h2
   cases hd:aD [41] q with
   | some q2=>
     rw [hd] at h2;simp only [Option.some.injEq,Prod.mk.injEq] at h2;obtain ⟨rfl,rfl⟩:=h2;exact e1.trans (ef e1.ok (by simp) hd)
   | none=>
     rw [hd] at h2;simp only at h2
     cases hc:aD [44] q with
     | none=>rw [hc] at h2; cases h2
     | some q2=>
       rw [hc] at h2;obtain ⟨⟨ys,q3⟩,h3,h4⟩:=Option.map_eq_some_iff.1 h2;simp only [Prod.mk.injEq] at h4;obtain ⟨rfl,rfl⟩:=h4;have e2:=ef e1.ok (by simp) hc;have e3:=N1 hp n q2 ys q3 e2.ok h3;refine ((e1.trans e2).trans e3).cast ?_
       cases ys with
       | nil=>exfalso; cases n with
         | zero=>cases h3
         | succ n=>
           unfold lj at h3;obtain ⟨⟨y,q4⟩,_,h5⟩:=Option.bind_eq_some_iff.1 h3;simp only at h5
           split at h5
           · simp at h5
           · split at h5
             · obtain ⟨z,_,h6⟩:=Option.map_eq_some_iff.1 h5
               simp at h6
             · cases h5
       | cons y ys=>simp [jT,uQ]
theorem VV {pe:Tk->Option (ax×Tk)} (hp:Sound pe) {l r q:Tk} {xs:List ax} (hl:fT l) (hq:aD [40] l=some q) (h:kL pe q=some (xs,r)):eA l (Bh (jT xs)) r:=by
 have e0:=ef hl (by simp) hq;unfold kL at h
 cases hd:aD [41] q with
 | some q2=>
   rw [hd] at h;simp only [Option.some.injEq,Prod.mk.injEq] at h;obtain ⟨rfl,rfl⟩:=h;exact e0.trans (ef e0.ok (by simp) hd)
 | none=>
   rw [hd] at h;exact (e0.trans (N1 hp _ q xs r e0.ok h)).cast (by simp [Bh])
theorem VW:∀(ws:List Tx) (i:Nat) (l r:Tk) (k:Nat),fT l->(∀w ∈ ws,w≠[])->oK ws i l=some (k,r)->∃j,k=i+j/\∃w,ws[j]? = some w/\eA l [w] r
 | [],_,_,_,_,_,_,h=>by cases h
 | w::ws,i,l,r,k,hl,hw,h=>by
   unfold oK at h
   cases hd:aD w l with
   | some q=>
     rw [hd] at h;simp only [Option.some.injEq,Prod.mk.injEq] at h;obtain ⟨rfl,rfl⟩:=h;exact ⟨0,O,w,O,ef hl (hw w (by simp)) hd⟩
   | none=>
     rw [hd] at h;obtain ⟨j,h1,v,h2,h3⟩:=VW ws (i+1) l r k hl (λv hv=>hw v (List.mem_cons_of_mem _ hv)) h;exact ⟨j+1,by omega,v,by simpa using h2,h3⟩
theorem afV (op n:Int) (mod nm:Tx) (args:List ax):jf (.mk op n mod nm args)=sN op n mod nm (jT args):=by rw [jf]
theorem afW {pe:Tk->Option (ax×Tk)} (hp:Sound pe) {l r q:Tk} {x:ax} (hl:fT l) (hq:aD [40] l=some q) (h:mJ pe q=some (x,r)):eA l (jf x) r:=by
 have e0:=ef hl (by simp) hq;unfold mJ at h;obtain ⟨⟨a,q1⟩,h1,h2⟩:=Option.bind_eq_some_iff.1 h;obtain ⟨⟨o,q2⟩,h3,h4⟩:=Option.bind_eq_some_iff.1 h2;obtain ⟨⟨b,q3⟩,h5,h6⟩:=Option.bind_eq_some_iff.1 h4;obtain ⟨q4,h7,h8⟩:=Option.map_eq_some_iff.1 h6;simp only [Prod.mk.injEq] at h8;obtain ⟨rfl,rfl⟩:=h8;have e1:=hp q a q1 e0.ok h1;obtain ⟨j,hj,w,hw,e2⟩:=VW opsL 0 q1 q2 o e1.ok (by decide) h3;have e3:=hp q2 b q3 e2.ok h5;have e4:=ef e3.ok (by simp) h7;refine ((((e0.trans e1).trans e2).trans e3).trans e4).cast ?_
 obtain rfl:o=j:=by omega
 have aw:o<9:=(List.getElem?_eq_some_iff.1 hw).1
 have fL:NX (7+(o:Int))=w:=by
   unfold NX;rw [show ((7+(o:Int))-7).toNat=o by omega,hw]; rfl
 rw [afV,sN,if_neg (by omega),if_neg (by omega),if_neg (by omega),if_neg (by omega),if_neg (by omega),if_neg (by omega),fL];simp [jT,at_]
theorem afX {pe:Tk->Option (ax×Tk)} (hp:Sound pe) {l l0 r:Tk} {mod nm:Tx} {x:ax} (h0:eA l0 (nK mod nm) l) (h:pM pe mod nm l=some (x,r)):eA l0 (jf x) r:=by
 unfold pM at h
 cases hd:aD [91] l with
 | some q=>
   rw [hd] at h;obtain ⟨⟨y,q1⟩,h1,h2⟩:=Option.bind_eq_some_iff.1 h;obtain ⟨q2,h3,h4⟩:=Option.map_eq_some_iff.1 h2;simp only [Prod.mk.injEq] at h4;obtain ⟨rfl,rfl⟩:=h4;have e1:=ef h0.ok (by simp) hd;have e2:=hp q y q1 e1.ok h1;have e3:=ef e2.ok (by simp) h3;exact (((h0.trans e1).trans e2).trans e3).cast (by simp [jf,sN,jT,at_])
 | none=>
   rw [hd] at h;simp only at h
   cases hc:aD [40] l with
   | some q=>
     rw [hc] at h;obtain ⟨⟨xs,q1⟩,h1,h2⟩:=Option.map_eq_some_iff.1 h;simp only [Prod.mk.injEq] at h2;obtain ⟨rfl,rfl⟩:=h2;exact (h0.trans (VV hp h0.ok hc h1)).cast (by simp [jf,sN])
   | none=>
     rw [hc] at h;simp only [Option.some.injEq,Prod.mk.injEq] at h;obtain ⟨rfl,rfl⟩:=h;exact h0.cast (by simp [jf,sN])
theorem afY {pe:Tk->Option (ax×Tk)} (hp:Sound pe):Sound (nM pe):=by
 intro l x r hl h;unfold nM at h
 cases hd:aD yy l with
 | some q=>
   rw [hd] at h;simp only [Option.some.injEq,Prod.mk.injEq] at h;obtain ⟨rfl,rfl⟩:=h;exact (ef hl (by decide) hd).cast (by simp [jf,sN])
 | none=>
   rw [hd] at h;simp only at h
   cases hn:aD [33] l with
   | some q=>
     rw [hn] at h;obtain ⟨⟨y,q1⟩,h1,h2⟩:=Option.map_eq_some_iff.1 h;simp only [Prod.mk.injEq] at h2;obtain ⟨rfl,rfl⟩:=h2;have e1:=ef hl (by simp) hn;exact (e1.trans (hp q y q1 e1.ok h1)).cast (by simp [jf,sN,jT,at_])
   | none=>
     rw [hn] at h;simp only at h
     cases hc:aD [40] l with
     | some q=>rw [hc] at h; exact afW hp hl hc h
     | none=>
       rw [hc] at h;obtain ⟨⟨⟨mod,nm⟩,q⟩,h1,h2⟩:=Option.bind_eq_some_iff.1 h;exact afX hp (N0 hl h1) h2
theorem Bj:∀f,Sound (b_ f)
 | 0=>λ_ _ _ _ h=>by cases h
 | f+1=>by
   intro l x r hl h
   cases l with
   | nil=>cases h
   | cons t q=>
     unfold b_ at h
     by_cases hk:t.kind=2
     · simp only [if_pos hk,Option.some.injEq,Prod.mk.injEq] at h
       obtain ⟨rfl,rfl⟩:=h;refine ⟨hl,?_⟩;have aE:=hl t (by simp)
       have e:uh t=Lib.itoa t.n:=by rw [uh,if_pos hk]
       have e2:jf (ax.mk 1 t.n [] [] [])=[Lib.itoa t.n]:=by simp [jf,sN]
       rw [e2,<-e];simp [II aE]
     · simp only [if_neg hk] at h
       exact afY (Bj f) _ x r hl h
end Go.Bw
end
section
namespace Go.Bw
open Go
theorem wz (op:Int) (mod nm:Tx) (args:List ax) (body other:List aP):uR (.mk op mod nm args body other)=qZ op mod nm (jT args) (uV body) other.length (uV other):=by rw [uR]
theorem afZ {l r:Tk} {s:aP} (hl:fT l) (h:et l=some (s,r)):∃ws,uR s=ws++[[59]]/\eA l ws r:=by
 have hp:=Bj 6;unfold et at h
 cases h1:aD ey l with
 | some q=>
   rw [h1] at h;obtain ⟨⟨x,q1⟩,h2,h3⟩:=Option.map_eq_some_iff.1 h;simp only [Prod.mk.injEq] at h3;obtain ⟨rfl,rfl⟩:=h3;have e1:=ef hl (by decide) h1;exact ⟨[ey]++jf x,by simp [wz,qZ,jT,at_],e1.trans (hp q x q1 e1.ok h2)⟩
 | none=>
   rw [h1] at h;simp only at h
   cases h2:aD ez l with
   | some q=>
     rw [h2] at h;obtain ⟨⟨x,q1⟩,h3,h4⟩:=Option.map_eq_some_iff.1 h;simp only [Prod.mk.injEq] at h4;obtain ⟨rfl,rfl⟩:=h4;have e1:=ef hl (by decide) h2;exact ⟨[ez]++jf x,by simp [wz,qZ,jT,at_],e1.trans (hp q x q1 e1.ok h3)⟩
   | none=>
     rw [h2] at h;obtain ⟨⟨⟨mod,nm⟩,q⟩,h3,h4⟩:=Option.bind_eq_some_iff.1 h;have e0:=N0 hl h3;simp only at h4
     cases h5:aD [40] q with
     | some q1=>
       rw [h5] at h4;obtain ⟨⟨xs,q2⟩,h6,h7⟩:=Option.map_eq_some_iff.1 h4;simp only [Prod.mk.injEq] at h7;obtain ⟨rfl,rfl⟩:=h7;exact ⟨nK mod nm++Bh (jT xs),by simp [wz,qZ],e0.trans (VV hp e0.ok h5 h6)⟩
     | none=>
       rw [h5] at h4;simp only at h4
       cases h6:aD [91] q with
       | some q1=>
         rw [h6] at h4;obtain ⟨⟨i,q2⟩,h7,h8⟩:=Option.bind_eq_some_iff.1 h4;obtain ⟨q3,h9,eH⟩:=Option.bind_eq_some_iff.1 h8;obtain ⟨q4,pK,pN⟩:=Option.bind_eq_some_iff.1 eH;obtain ⟨⟨x,q5⟩,iP,lp⟩:=Option.map_eq_some_iff.1 pN;simp only [Prod.mk.injEq] at lp;obtain ⟨rfl,rfl⟩:=lp;have e1:=ef e0.ok (by simp) h6;have e2:=hp _ _ _ e1.ok h7;have e3:=ef e2.ok (by simp) h9;have e4:=ef e3.ok (by simp) pK;have e5:=hp _ _ _ e4.ok iP;exact ⟨nK mod nm++[[91]]++jf i++[[93],[61]]++jf x,by simp [wz,qZ,jT,at_],(((((e0.trans e1).trans e2).trans e3).trans e4).trans e5).cast (by simp)⟩
       | none=>
         rw [h6] at h4;obtain ⟨q1,h7,h8⟩:=Option.bind_eq_some_iff.1 h4;obtain ⟨⟨x,q2⟩,h9,eH⟩:=Option.map_eq_some_iff.1 h8;simp only [Prod.mk.injEq] at eH;obtain ⟨rfl,rfl⟩:=eH;have e1:=ef e0.ok (by simp) h7;have e2:=hp _ _ _ e1.ok h9;exact ⟨nK mod nm++[[61]]++jf x,by simp [wz,qZ,jT,at_],(e0.trans e1).trans e2⟩
def N2 (pb:Tk->Option (List aP×Tk)):Prop:=∀l x r,fT l->pb l=some (x,r)->eA l (Bi x) r
theorem N3 {pb:Tk->Option (List aP×Tk)} (hb:N2 pb) {l r:Tk} {s:aP} (hl:fT l) (h:dH pb l=some (s,r)):eA l (uR s) r:=by
 have hp:=Bj 6;unfold dH at h
 cases h1:aD eK l with
 | some q=>
   rw [h1] at h;obtain ⟨⟨x,q1⟩,h2,h3⟩:=Option.bind_eq_some_iff.1 h;obtain ⟨⟨b,q2⟩,h4,h5⟩:=Option.bind_eq_some_iff.1 h3;have e1:=ef hl (by decide) h1;have e2:=hp _ _ _ e1.ok h2;have e3:=hb _ _ _ e2.ok h4;simp only at h5
   cases h6:aD eL q2 with
   | some q3=>
     rw [h6] at h5;obtain ⟨⟨o,q4⟩,h7,h8⟩:=Option.bind_eq_some_iff.1 h5;simp only at h8
     split at h8
     · cases h8
     · rename_i ho
       simp only [Option.some.injEq,Prod.mk.injEq] at h8;obtain ⟨rfl,rfl⟩:=h8;have e4:=ef e3.ok (by decide) h6;have e5:=hb _ _ _ e4.ok h7;refine ((((e1.trans e2).trans e3).trans e4).trans e5).cast ?_;rw [wz];simp only [qZ,Int.reduceEq,or_false,true_or,if_true,if_false];rw [if_pos (by omega)];simp [jT,at_,Bi]
   | none=>
     rw [h6] at h5;simp only [Option.some.injEq,Prod.mk.injEq] at h5;obtain ⟨rfl,rfl⟩:=h5;exact ((e1.trans e2).trans e3).cast (by simp [wz,qZ,jT,at_,Bi])
 | none=>
   rw [h1] at h;simp only at h
   cases h2:aD eM l with
   | some q=>
     rw [h2] at h;obtain ⟨⟨x,q1⟩,h3,h4⟩:=Option.bind_eq_some_iff.1 h;obtain ⟨⟨b,q2⟩,h5,h6⟩:=Option.map_eq_some_iff.1 h4;simp only [Prod.mk.injEq] at h6;obtain ⟨rfl,rfl⟩:=h6;have e1:=ef hl (by decide) h2;have e2:=hp _ _ _ e1.ok h3;have e3:=hb _ _ _ e2.ok h5;exact ((e1.trans e2).trans e3).cast (by simp [wz,qZ,jT,at_,Bi])
   | none=>
     rw [h2] at h;obtain ⟨⟨s',q⟩,h3,h4⟩:=Option.bind_eq_some_iff.1 h;obtain ⟨q1,h5,h6⟩:=Option.map_eq_some_iff.1 h4;simp only [Prod.mk.injEq] at h6;obtain ⟨rfl,rfl⟩:=h6;obtain ⟨ws,e1,e2⟩:=afZ hl h3;exact (e2.trans (ef e2.ok (by simp) h5)).cast e1.symm
theorem VX {ps:Tk->Option (aP×Tk)} (hp:∀l x r,fT l->ps l=some (x,r)->eA l (uR x) r):∀(n:Nat) (l:Tk) (xs:List aP) (r:Tk),fT l->nN ps n l=some (xs,r)->eA l (uV xs++[[125]]) r
 | 0,_,_,_,_,h=>by cases h
 | n+1,l,xs,r,hl,h=>by
   unfold nN at h
   cases hd:aD [125] l with
   | some q=>
     rw [hd] at h;simp only [Option.some.injEq,Prod.mk.injEq] at h;obtain ⟨rfl,rfl⟩:=h;exact (ef hl (by simp) hd).cast (by simp [uV])
   | none=>
     rw [hd] at h;obtain ⟨⟨s,q⟩,h1,h2⟩:=Option.bind_eq_some_iff.1 h;obtain ⟨⟨ys,q1⟩,h3,h4⟩:=Option.map_eq_some_iff.1 h2;simp only [Prod.mk.injEq] at h4;obtain ⟨rfl,rfl⟩:=h4;have e1:=hp l s q hl h1;exact (e1.trans (VX hp n q ys q1 e1.ok h3)).cast (by simp [uV])
theorem DW:∀f,N2 (eX f)
 | 0=>λ_ _ _ _ h=>by cases h
 | f+1=>by
   intro l x r hl h;unfold eX at h;obtain ⟨q,h1,h2⟩:=Option.bind_eq_some_iff.1 h;have e1:=ef hl (by simp) h1;exact (e1.trans (VX (λl x r hl h=>N3 (DW f) hl h) _ q x r e1.ok h2)).cast (by simp [Bi,IF])
def DX (d:bI):List Tx:=IG d++[[59]]
theorem VY {aR:Bool} {l r:Tk} {d:bI} (hl:fT l) (h:ff aR l=some (some d,r)):eA l (DX d) r/\d.aR=aR:=by
 unfold ff at h
 cases h1:aD kG l with
 | some q=>
   rw [h1] at h;obtain ⟨⟨a,q1⟩,h2,h3⟩:=Option.bind_eq_some_iff.1 h;obtain ⟨q2,h4,h5⟩:=Option.bind_eq_some_iff.1 h3;obtain ⟨⟨n,q3⟩,h6,h7⟩:=Option.bind_eq_some_iff.1 h5;obtain ⟨q4,h8,h9⟩:=Option.map_eq_some_iff.1 h7;simp only [Prod.mk.injEq,Option.some.injEq] at h9;obtain ⟨rfl,rfl⟩:=h9;have e1:=ef hl (by decide) h1;have e2:=(sO e1.ok h2).1;have e3:=ef e2.ok (by simp) h4;have e4:=NZ e3.ok h6;have e5:=ef e4.ok (by simp) h8;exact ⟨((((e1.trans e2).trans e3).trans e4).trans e5).cast (by simp [DX,IG]),O⟩
 | none=>
   rw [h1] at h;simp only at h
   cases h2:aD kH l with
   | some q=>
     rw [h2] at h;obtain ⟨⟨a,q1⟩,h3,h4⟩:=Option.bind_eq_some_iff.1 h;obtain ⟨q2,h5,h6⟩:=Option.map_eq_some_iff.1 h4;simp only [Prod.mk.injEq,Option.some.injEq] at h6;obtain ⟨rfl,rfl⟩:=h6;have e1:=ef hl (by decide) h2;have e2:=(sO e1.ok h3).1;have e3:=ef e2.ok (by simp) h5;exact ⟨((e1.trans e2).trans e3).cast (by simp [DX,IG]),O⟩
   | none=>
     rw [h2] at h;simp only at h
     cases h3:aD kJ l with
     | some q=>
       rw [h3] at h;obtain ⟨⟨a,q1⟩,h4,h5⟩:=Option.bind_eq_some_iff.1 h;obtain ⟨q2,h6,h7⟩:=Option.bind_eq_some_iff.1 h5;obtain ⟨⟨n,q3⟩,h8,h9⟩:=Option.bind_eq_some_iff.1 h7;obtain ⟨q4,eH,pK⟩:=Option.bind_eq_some_iff.1 h9;obtain ⟨q5,pN,iP⟩:=Option.map_eq_some_iff.1 pK;simp only [Prod.mk.injEq,Option.some.injEq] at iP;obtain ⟨rfl,rfl⟩:=iP;have e1:=ef hl (by decide) h3;have e2:=(sO e1.ok h4).1;have e3:=ef e2.ok (by simp) h6;have e4:=NZ e3.ok h8;have e5:=ef e4.ok (by simp) eH;have e6:=ef e5.ok (by simp) pN;exact ⟨(((((e1.trans e2).trans e3).trans e4).trans e5).trans e6).cast (by simp [DX,IG]),O⟩
     | none=>
       rw [h3] at h;simp at h
theorem N4 {aR:Bool} {l r:Tk} (h:ff aR l=some (none,r)):r=l:=by
 unfold ff at h
 split at h
 · obtain ⟨_,_,h⟩:=Option.bind_eq_some_iff.1 h
   obtain ⟨_,_,h⟩:=Option.bind_eq_some_iff.1 h;obtain ⟨_,_,h⟩:=Option.bind_eq_some_iff.1 h;obtain ⟨_,_,h⟩:=Option.map_eq_some_iff.1 h;simp at h
 · split at h
   · obtain ⟨_,_,h⟩:=Option.bind_eq_some_iff.1 h
     obtain ⟨_,_,h⟩:=Option.map_eq_some_iff.1 h;simp at h
   · split at h
     · obtain ⟨_,_,h⟩:=Option.bind_eq_some_iff.1 h
       obtain ⟨_,_,h⟩:=Option.bind_eq_some_iff.1 h;obtain ⟨_,_,h⟩:=Option.bind_eq_some_iff.1 h;obtain ⟨_,_,h⟩:=Option.bind_eq_some_iff.1 h;obtain ⟨_,_,h⟩:=Option.map_eq_some_iff.1 h;simp at h
     · simp at h; exact h.symm
theorem VZ:∀(n:Nat) (first:Bool) (l:Tk) (xs:List Tx) (r:Tk),fT l->iN n first l=some (xs,r)->eA l ((if first=true\/xs=[] then [] else [[44]])++uQ (xs.map λs=>[s])++[[41]]) r
 | 0,_,_,_,_,_,h=>by cases h
 | n+1,first,l,xs,r,hl,h=>by
   unfold iN at h
   cases hd:aD [41] l with
   | some q=>
     rw [hd] at h;simp only [Option.some.injEq,Prod.mk.injEq] at h;obtain ⟨rfl,rfl⟩:=h;exact (ef hl (by simp) hd).cast (by simp [uQ])
   | none=>
     rw [hd] at h;obtain ⟨l1,h1,h2⟩:=Option.bind_eq_some_iff.1 h;obtain ⟨⟨a,q⟩,h3,h4⟩:=Option.bind_eq_some_iff.1 h2;obtain ⟨⟨ys,q1⟩,h5,h6⟩:=Option.map_eq_some_iff.1 h4;simp only [Prod.mk.injEq] at h6;obtain ⟨rfl,rfl⟩:=h6
     have e0:eA l (if first=true then [] else [[44]]) l1:=by
       cases first with
       | true=>
         simp only [if_true,Option.some.injEq] at h1;subst h1; exact eA.nil hl
       | false=>exact ef hl (by simp) h1
     have e1:=(sO e0.ok h3).1;have e2:=VZ n false q ys q1 e1.ok h5;refine ((e0.trans e1).trans e2).cast ?_
     cases ys with
     | nil=>cases first<;>simp [uQ]
     | cons y ys=>cases first<;>simp [uQ]
theorem V1:∀(n:Nat) (l:Tk) (xs:List Tx) (r:Tk),fT l->ll n l=some (xs,r)->eA l (xs.flatMap NY) r
 | 0,_,_,_,_,h=>by cases h
 | n+1,l,xs,r,hl,h=>by
   unfold ll at h
   cases hd:aD yx l with
   | none=>
     rw [hd] at h;simp only [Option.some.injEq,Prod.mk.injEq] at h;obtain ⟨rfl,rfl⟩:=h;exact eA.nil hl
   | some q=>
     rw [hd] at h;obtain ⟨⟨a,q1⟩,h1,h2⟩:=Option.bind_eq_some_iff.1 h;obtain ⟨q2,h3,h4⟩:=Option.bind_eq_some_iff.1 h2;obtain ⟨⟨ys,q3⟩,h5,h6⟩:=Option.map_eq_some_iff.1 h4;simp only [Prod.mk.injEq] at h6;obtain ⟨rfl,rfl⟩:=h6;have e1:=ef hl (by decide) hd;have e2:=(sO e1.ok h1).1;have e3:=ef e2.ok (by simp) h3;exact (((e1.trans e2).trans e3).trans (V1 n q2 ys q3 e3.ok h5)).cast (by simp [NY])
def N5 (p:dC):List Tx:=[p.nm,[40]]++uQ (p.params.map λs=>[s])++[[41]]++p.av.flatMap NY++Bi p.body
theorem V2 {aR:Bool} {l r:Tk} {p:dC} (hl:fT l) (h:iO aR l=some (p,r)):eA l (N5 p) r/\p.aR=aR:=by
 unfold iO at h;obtain ⟨⟨a,q1⟩,h1,h2⟩:=Option.bind_eq_some_iff.1 h;obtain ⟨q2,h3,h4⟩:=Option.bind_eq_some_iff.1 h2;obtain ⟨⟨ps,q3⟩,h5,h6⟩:=Option.bind_eq_some_iff.1 h4;obtain ⟨⟨ls,q4⟩,h7,h8⟩:=Option.bind_eq_some_iff.1 h6;obtain ⟨⟨b,q5⟩,h9,eH⟩:=Option.map_eq_some_iff.1 h8;simp only [Prod.mk.injEq] at eH;obtain ⟨rfl,rfl⟩:=eH;have e1:=(sO hl h1).1;have e2:=ef e1.ok (by simp) h3;have e3:=VZ _ _ _ _ _ e2.ok h5;have e4:=V1 _ _ _ _ e3.ok h7;have e5:=DW 6 _ _ _ e4.ok h9;exact ⟨((((e1.trans e2).trans e3).trans e4).trans e5).cast (by simp [N5]),O⟩
end Go.Bw
end
section
namespace Go.Bw
open Go
structure Stop (q:Tk):Prop where
 dot:aD [46] q=none
 br:aD [91] q=none
 pa:aD [40] q=none
end Go.Bw
end
section
namespace Go.Bw
open Go
theorem V3 {s:Tx} {l r:Tk} (hl:fT l) (h:aD s l=some r):fT r:=by
 cases l with
 | nil=>cases h
 | cons t q=>
   simp only [aD] at h
   split at h
   · injection h with h; subst h; exact λx hx=>hl x (List.mem_cons_of_mem _ hx)
   · cases h
theorem af0 {pb:Tk->Option (List aP×Tk)} (hs:N2 pb) {l r:Tk} {x:aP} (hl:fT l) (h:dH pb l=some (x,r)):r.length<l.length:=by
 have e:=(N3 hs hl h).2;have dt:=afM x;rw [e]
 cases hw:uR x with
 | nil=>exact absurd hw dt
 | cons w ws=>simp; omega
def sP:bc:=⟨[],[],[],[],[]⟩
def jW (s:Tx):bc×Int:=if (dO s).2≠0 then (sP,(dO s).2) else match mK (dO s).1 with
 | some (m,[])=>if jw m=0 then (m,0) else (sP,1)
 | _=>(sP,1)
theorem af1 {s:Tx} (h:(dO s).2=0):fT (dO s).1:=(TY (TZ h)).1
theorem af2 {m:bc}:jw m=0↔(v7 m).bf=0:=afO
end Go.Bw
end
section
namespace Go.Bw
open Go
theorem dq {s:Tx} {l q:Tk} (h:aD s l=some q):l.length=q.length+1:=by
 cases l with
 | nil=>cases h
 | cons t r=>
   simp only [aD] at h
   split at h
   · injection h with h; subst h; rfl
   · cases h
theorem V4 {k:Int} {l q:Tk} {t:Tok} (h:lh k l=some (t,q)):l.length=q.length+1:=by
 cases l with
 | nil=>cases h
 | cons t r=>
   simp only [lh] at h
   split at h
   · injection h with h; injection h with h1 h2; subst h2; rfl
   · cases h
theorem sQ {l r:Tk} {a:Tx} (h:cG l=some (a,r)):a.length<=8/\l.length=r.length+1:=by
 unfold cG at h;obtain ⟨⟨t,q⟩,h1,h2⟩:=Option.bind_eq_some_iff.1 h;simp only at h2
 split at h2
 · rename_i hn
   simp only [Option.some.injEq,Prod.mk.injEq] at h2;obtain ⟨rfl,rfl⟩:=h2;refine ⟨?_,V4 h1⟩;simp only [gw,dZ,Bool.and_eq_true,decide_eq_true_eq] at hn;exact hn.1.1.1.2
 · cases h2
theorem V5 {l r:Tk} {a:Int} (h:jU l=some (a,r)):l.length=r.length+1:=by
 unfold jU at h;obtain ⟨⟨t,q⟩,h1,h2⟩:=Option.map_eq_some_iff.1 h;simp only [Prod.mk.injEq] at h2;obtain ⟨_,rfl⟩:=h2;exact V4 h1
theorem V6 {l r:Tk} {p:Tx×Tx} (h:kK l=some (p,r)):p.1.length+p.2.length<=16/\r.length+1<=l.length:=by
 unfold kK at h;obtain ⟨⟨a,q⟩,h1,h2⟩:=Option.bind_eq_some_iff.1 h;obtain ⟨w1,w2⟩:=sQ h1;simp only at h2
 split at h2
 · rename_i q2 hd
   obtain ⟨⟨b,q3⟩,h3,h4⟩:=Option.map_eq_some_iff.1 h2;simp only [Prod.mk.injEq] at h4;obtain ⟨rfl,rfl⟩:=h4;obtain ⟨w3,w4⟩:=sQ h3;have:=dq hd;simp only;omega
 · simp only [Option.some.injEq,Prod.mk.injEq] at h2
   obtain ⟨rfl,rfl⟩:=h2;simp only [List.length_nil];omega
def WB (pe:Tk->Option (ax×Tk)):Prop:=∀l x r,pe l=some (x,r)->wE x+18*r.length<=18*l.length
theorem V7 {pe:Tk->Option (ax×Tk)} (hp:WB pe):∀(n:Nat) (l:Tk) (xs:List ax) (r:Tk),lj pe n l=some (xs,r)->dG xs+18*r.length<=18*l.length
 | 0,_,_,_,h=>by cases h
 | n+1,l,xs,r,h=>by
   unfold lj at h;obtain ⟨⟨x,q⟩,h1,h2⟩:=Option.bind_eq_some_iff.1 h;have w1:=hp l x q h1;simp only at h2
   split at h2
   · rename_i q2 hd
     simp only [Option.some.injEq,Prod.mk.injEq] at h2;obtain ⟨rfl,rfl⟩:=h2;have:=dq hd;simp only [dG];omega
   · split at h2
     · rename_i q2 hd
       obtain ⟨⟨ys,q3⟩,h3,h4⟩:=Option.map_eq_some_iff.1 h2;simp only [Prod.mk.injEq] at h4;obtain ⟨rfl,rfl⟩:=h4;have:=dq hd;have:=V7 hp n q2 ys q3 h3;simp only [dG];omega
     · cases h2
theorem V8 {pe:Tk->Option (ax×Tk)} (hp:WB pe) {l r:Tk} {xs:List ax} (h:kL pe l=some (xs,r)):dG xs+18*r.length<=18*l.length:=by
 unfold kL at h
 split at h
 · rename_i q hd
   simp only [Option.some.injEq,Prod.mk.injEq] at h;obtain ⟨rfl,rfl⟩:=h;have:=dq hd;simp only [dG];omega
 · exact V7 hp _ _ _ _ h
theorem V9:∀(ws:List Tx) (i k:Nat) (l r:Tk),oK ws i l=some (k,r)->r.length+1<=l.length
 | [],_,_,_,_,h=>by cases h
 | w::ws,i,k,l,r,h=>by
   unfold oK at h
   split at h
   · rename_i q hd
     simp only [Option.some.injEq,Prod.mk.injEq] at h;obtain ⟨_,rfl⟩:=h;have:=dq hd;omega
   · exact V9 ws _ _ _ _ h
theorem af3 {pe:Tk->Option (ax×Tk)} (hp:WB pe) {l r:Tk} {x:ax} (h:mJ pe l=some (x,r)):wE x+18*r.length<=18*l.length:=by
 unfold mJ at h;obtain ⟨⟨a,q1⟩,h1,h2⟩:=Option.bind_eq_some_iff.1 h;obtain ⟨⟨o,q2⟩,h3,h4⟩:=Option.bind_eq_some_iff.1 h2;obtain ⟨⟨b,q3⟩,h5,h6⟩:=Option.bind_eq_some_iff.1 h4;obtain ⟨q4,h7,h8⟩:=Option.map_eq_some_iff.1 h6;simp only [Prod.mk.injEq] at h8;obtain ⟨rfl,rfl⟩:=h8;have w1:=hp _ _ _ h1;have w2:=V9 _ _ _ _ _ h3;have w3:=hp _ _ _ h5;have w4:=dq h7;simp only [wE,dG,List.length_nil] at *;omega
theorem af4 {pe:Tk->Option (ax×Tk)} (hp:WB pe) {l r:Tk} {mod nm:Tx} {x:ax} (hl:mod.length+nm.length<=16) (h:pM pe mod nm l=some (x,r)):wE x+18*r.length<=17+18*l.length:=by
 unfold pM at h
 split at h
 · rename_i q hd
   obtain ⟨⟨y,q1⟩,h1,h2⟩:=Option.bind_eq_some_iff.1 h;obtain ⟨q2,h3,h4⟩:=Option.map_eq_some_iff.1 h2;simp only [Prod.mk.injEq] at h4;obtain ⟨rfl,rfl⟩:=h4;have w1:=dq hd;have w2:=hp _ _ _ h1;have w3:=dq h3;simp only [wE,dG] at *;omega
 · split at h
   · rename_i q hd
     obtain ⟨⟨xs,q1⟩,h1,h2⟩:=Option.map_eq_some_iff.1 h;simp only [Prod.mk.injEq] at h2;obtain ⟨rfl,rfl⟩:=h2;have w1:=dq hd;have w2:=V8 hp h1;simp only [wE] at *;omega
   · simp only [Option.some.injEq,Prod.mk.injEq] at h
     obtain ⟨rfl,rfl⟩:=h;simp only [wE,dG] at *;omega
theorem af5 {pe:Tk->Option (ax×Tk)} (hp:WB pe):WB (nM pe):=by
 intro l x r h;unfold nM at h
 split at h
 · rename_i q hd
   simp only [Option.some.injEq,Prod.mk.injEq] at h;obtain ⟨rfl,rfl⟩:=h;have:=dq hd;simp only [wE,dG,List.length_nil];omega
 · split at h
   · rename_i q hd
     obtain ⟨⟨y,q1⟩,h1,h2⟩:=Option.map_eq_some_iff.1 h;simp only [Prod.mk.injEq] at h2;obtain ⟨rfl,rfl⟩:=h2;have w1:=dq hd;have w2:=hp _ _ _ h1;simp only [wE,dG,List.length_nil];omega
   · split at h
     · rename_i q hd
       have w1:=dq hd;have w2:=af3 hp h;omega
     · obtain ⟨⟨p,q⟩,h1,h2⟩:=Option.bind_eq_some_iff.1 h
       obtain ⟨w1,w2⟩:=V6 h1;have w3:=af4 hp w1 h2;simp only at w3;omega
theorem N6:∀f,WB (b_ f)
 | 0=>λ_ _ _ h=>by cases h
 | f+1=>by
   intro l x r h
   cases l with
   | nil=>cases h
   | cons t q=>
     unfold b_ at h
     by_cases hk:t.kind=2
     · simp only [if_pos hk,Option.some.injEq,Prod.mk.injEq] at h
       obtain ⟨rfl,rfl⟩:=h;simp only [wE,dG,List.length_nil,List.length_cons];omega
     · simp only [if_neg hk] at h
       exact af5 (N6 f) _ _ _ h
theorem af6 {l r:Tk} {s:aP} (h:et l=some (s,r)):wS s+18*r.length<=18*l.length:=by
 have hp:=N6 6;unfold et at h
 split at h
 · rename_i q hd
   obtain ⟨⟨x,q1⟩,h2,h3⟩:=Option.map_eq_some_iff.1 h;simp only [Prod.mk.injEq] at h3;obtain ⟨rfl,rfl⟩:=h3;have w1:=dq hd;have w2:=hp _ _ _ h2;simp only [wS,dG,cP,List.length_nil];omega
 · split at h
   · rename_i q hd
     obtain ⟨⟨x,q1⟩,h2,h3⟩:=Option.map_eq_some_iff.1 h;simp only [Prod.mk.injEq] at h3;obtain ⟨rfl,rfl⟩:=h3;have w1:=dq hd;have w2:=hp _ _ _ h2;simp only [wS,dG,cP,List.length_nil];omega
   · obtain ⟨⟨⟨mod,nm⟩,q⟩,h3,h4⟩:=Option.bind_eq_some_iff.1 h
     obtain ⟨w0,w1⟩:=V6 h3;simp only at h4 w0
     split at h4
     · rename_i q1 hd
       obtain ⟨⟨xs,q2⟩,h6,h7⟩:=Option.map_eq_some_iff.1 h4;simp only [Prod.mk.injEq] at h7;obtain ⟨rfl,rfl⟩:=h7;have w2:=dq hd;have w3:=V8 hp h6;simp only [wS,cP];omega
     · split at h4
       · rename_i q1 hd
         obtain ⟨⟨i,q2⟩,h7,h8⟩:=Option.bind_eq_some_iff.1 h4;obtain ⟨q3,h9,eH⟩:=Option.bind_eq_some_iff.1 h8;obtain ⟨q4,pK,pN⟩:=Option.bind_eq_some_iff.1 eH;obtain ⟨⟨x,q5⟩,iP,lp⟩:=Option.map_eq_some_iff.1 pN;simp only [Prod.mk.injEq] at lp;obtain ⟨rfl,rfl⟩:=lp;have w2:=dq hd;have w3:=hp _ _ _ h7;have w4:=dq h9;have w5:=dq pK;have w6:=hp _ _ _ iP;simp only [wS,dG,cP] at *;omega
       · obtain ⟨q1,h7,h8⟩:=Option.bind_eq_some_iff.1 h4
         obtain ⟨⟨x,q2⟩,h9,eH⟩:=Option.map_eq_some_iff.1 h8;simp only [Prod.mk.injEq] at eH;obtain ⟨rfl,rfl⟩:=eH;have w2:=dq h7;have w3:=hp _ _ _ h9;simp only [wS,dG,cP];omega
def V' (pb:Tk->Option (List aP×Tk)):Prop:=∀l x r,pb l=some (x,r)->cP x+18*r.length<=18*l.length
theorem af7 {pb:Tk->Option (List aP×Tk)} (hb:V' pb) {l r:Tk} {s:aP} (h:dH pb l=some (s,r)):wS s+18*r.length<=18*l.length:=by
 have hp:=N6 6;unfold dH at h
 split at h
 · rename_i q hd
   obtain ⟨⟨x,q1⟩,h2,h3⟩:=Option.bind_eq_some_iff.1 h;obtain ⟨⟨b,q2⟩,h4,h5⟩:=Option.bind_eq_some_iff.1 h3;have w1:=dq hd;have w2:=hp _ _ _ h2;have w3:=hb _ _ _ h4;simp only at h5 w2 w3
   split at h5
   · rename_i q3 hd2
     obtain ⟨⟨o,q4⟩,h7,h8⟩:=Option.bind_eq_some_iff.1 h5;have w4:=dq hd2;have w5:=hb _ _ _ h7;simp only at h8
     split at h8
     · cases h8
     · simp only [Option.some.injEq,Prod.mk.injEq] at h8
       obtain ⟨rfl,rfl⟩:=h8;simp only [wS,dG,List.length_nil] at *;omega
   · simp only [Option.some.injEq,Prod.mk.injEq] at h5
     obtain ⟨rfl,rfl⟩:=h5;simp only [wS,dG,cP,List.length_nil] at *;omega
 · split at h
   · rename_i q hd
     obtain ⟨⟨x,q1⟩,h2,h3⟩:=Option.bind_eq_some_iff.1 h;obtain ⟨⟨b,q2⟩,h4,h5⟩:=Option.map_eq_some_iff.1 h3;simp only [Prod.mk.injEq] at h5;obtain ⟨rfl,rfl⟩:=h5;have w1:=dq hd;have w2:=hp _ _ _ h2;have w3:=hb _ _ _ h4;simp only [wS,dG,cP,List.length_nil] at *;omega
   · obtain ⟨⟨s',q⟩,h3,h4⟩:=Option.bind_eq_some_iff.1 h
     obtain ⟨q1,h5,h6⟩:=Option.map_eq_some_iff.1 h4;simp only [Prod.mk.injEq] at h6;obtain ⟨rfl,rfl⟩:=h6;have w1:=af6 h3;have w2:=dq h5;simp only at *;omega
theorem V_ {ps:Tk->Option (aP×Tk)} (hp:∀l x r,ps l=some (x,r)->wS x+18*r.length<=18*l.length):∀(n:Nat) (l:Tk) (xs:List aP) (r:Tk),nN ps n l=some (xs,r)->cP xs+18*r.length<=18*l.length
 | 0,_,_,_,h=>by cases h
 | n+1,l,xs,r,h=>by
   unfold nN at h
   split at h
   · rename_i q hd
     simp only [Option.some.injEq,Prod.mk.injEq] at h;obtain ⟨rfl,rfl⟩:=h;have:=dq hd;simp only [cP];omega
   · obtain ⟨⟨s,q⟩,h1,h2⟩:=Option.bind_eq_some_iff.1 h
     obtain ⟨⟨ys,q1⟩,h3,h4⟩:=Option.map_eq_some_iff.1 h2;simp only [Prod.mk.injEq] at h4;obtain ⟨rfl,rfl⟩:=h4;have w1:=hp _ _ _ h1;have w2:=V_ hp n q ys q1 h3;simp only [cP];omega
theorem N7:∀f,V' (eX f)
 | 0=>λ_ _ _ h=>by cases h
 | f+1=>by
   intro l x r h;unfold eX at h;obtain ⟨q,h1,h2⟩:=Option.bind_eq_some_iff.1 h;have w1:=dq h1;have w2:=V_ (λl x r hh=>af7 (N7 f) hh) _ _ _ _ h2;omega
theorem N8 (l:Tk):(jV l).2.length<=l.length:=by
 unfold jV
 cases h:aD ID l with
 | none=>exact Nat.le_refl _
 | some q=>have:=dq h; simp only [Option.getD_some]; omega
theorem af9 {aR:Bool} {l r:Tk} {d:bI} (h:ff aR l=some (some d,r)):1+d.nm.length+18*r.length<=18*l.length:=by
 unfold ff at h
 split at h
 · rename_i q hd
   obtain ⟨⟨a,q1⟩,h2,h3⟩:=Option.bind_eq_some_iff.1 h;obtain ⟨q2,h4,h5⟩:=Option.bind_eq_some_iff.1 h3;obtain ⟨⟨n,q3⟩,h6,h7⟩:=Option.bind_eq_some_iff.1 h5;obtain ⟨q4,h8,h9⟩:=Option.map_eq_some_iff.1 h7;simp only [Prod.mk.injEq,Option.some.injEq] at h9;obtain ⟨rfl,rfl⟩:=h9;have w1:=dq hd;obtain ⟨w2,w3⟩:=sQ h2;have w4:=dq h4;have w5:=V5 h6;have w6:=dq h8;simp only at *;omega
 · split at h
   · rename_i q hd
     obtain ⟨⟨a,q1⟩,h3,h4⟩:=Option.bind_eq_some_iff.1 h;obtain ⟨q2,h5,h6⟩:=Option.map_eq_some_iff.1 h4;simp only [Prod.mk.injEq,Option.some.injEq] at h6;obtain ⟨rfl,rfl⟩:=h6;have w1:=dq hd;obtain ⟨w2,w3⟩:=sQ h3;have w4:=dq h5;simp only at *;omega
   · split at h
     · rename_i q hd
       obtain ⟨⟨a,q1⟩,h4,h5⟩:=Option.bind_eq_some_iff.1 h;obtain ⟨q2,h6,h7⟩:=Option.bind_eq_some_iff.1 h5;obtain ⟨⟨n,q3⟩,h8,h9⟩:=Option.bind_eq_some_iff.1 h7;obtain ⟨q4,eH,pK⟩:=Option.bind_eq_some_iff.1 h9;obtain ⟨q5,pN,iP⟩:=Option.map_eq_some_iff.1 pK;simp only [Prod.mk.injEq,Option.some.injEq] at iP;obtain ⟨rfl,rfl⟩:=iP;have w1:=dq hd;obtain ⟨w2,w3⟩:=sQ h4;have w4:=dq h6;have w5:=V5 h8;have w6:=dq eH;have w7:=dq pN;simp only at *;omega
     · simp at h
theorem Wa:∀(n:Nat) (aR:Bool) (l:Tk) (ds:List bI) (DY:Bool) (r:Tk),nO n aR l=some ((ds,DY),r)->wD ds+18*r.length<=18*l.length
 | 0,_,_,_,_,_,h=>by cases h
 | n+1,aR,l,ds,DY,r,h=>by
   unfold nO at h;obtain ⟨⟨o,q⟩,g1,h2⟩:=Option.bind_eq_some_iff.1 h
   cases o with
   | none=>
     have:=N4 g1;simp only [Option.some.injEq,Prod.mk.injEq] at h2;obtain ⟨⟨h3,_⟩,h4⟩:=h2;rw [<-h3,<-h4,this];simp [wD]
   | some x=>
     obtain ⟨⟨⟨ys,pb⟩,q1⟩,g3,g4⟩:=Option.map_eq_some_iff.1 h2;simp only [Prod.mk.injEq] at g4;obtain ⟨⟨rfl,rfl⟩,rfl⟩:=g4;have w1:=af9 g1;have w2:=Wa n _ _ _ _ _ g3;have w3:=N8 q;simp only [wD] at *;omega
theorem Wb:∀(n:Nat) (first:Bool) (l:Tk) (xs:List Tx) (r:Tk),iN n first l=some (xs,r)->wN xs+18*r.length<=18*l.length
 | 0,_,_,_,_,h=>by cases h
 | n+1,first,l,xs,r,h=>by
   unfold iN at h
   split at h
   · rename_i q hd
     simp only [Option.some.injEq,Prod.mk.injEq] at h;obtain ⟨rfl,rfl⟩:=h;have:=dq hd;simp only [wN];omega
   · obtain ⟨l1,h1,h2⟩:=Option.bind_eq_some_iff.1 h
     obtain ⟨⟨a,q⟩,h3,h4⟩:=Option.bind_eq_some_iff.1 h2;obtain ⟨⟨ys,q1⟩,h5,h6⟩:=Option.map_eq_some_iff.1 h4;simp only [Prod.mk.injEq] at h6;obtain ⟨rfl,rfl⟩:=h6
     have w0:l1.length<=l.length:=by
       cases first with
       | true=>simp only [if_true,Option.some.injEq] at h1; subst h1; exact Nat.le_refl _
       | false=>have:=dq (s:=[44]) (l:=l) (q:=l1) h1; omega
     obtain ⟨w1,w2⟩:=sQ h3;have w3:=Wb n false q ys q1 h5;simp only [wN] at *;omega
theorem Wc:∀(n:Nat) (l:Tk) (xs:List Tx) (r:Tk),ll n l=some (xs,r)->wN xs+18*r.length<=18*l.length
 | 0,_,_,_,h=>by cases h
 | n+1,l,xs,r,h=>by
   unfold ll at h
   split at h
   · rename_i q hd
     obtain ⟨⟨a,q1⟩,h1,h2⟩:=Option.bind_eq_some_iff.1 h;obtain ⟨q2,h3,h4⟩:=Option.bind_eq_some_iff.1 h2;obtain ⟨⟨ys,q3⟩,h5,h6⟩:=Option.map_eq_some_iff.1 h4;simp only [Prod.mk.injEq] at h6;obtain ⟨rfl,rfl⟩:=h6;have w0:=dq hd;obtain ⟨w1,w2⟩:=sQ h1;have w3:=dq h3;have w4:=Wc n q2 ys q3 h5;simp only [wN] at *;omega
   · simp only [Option.some.injEq,Prod.mk.injEq] at h
     obtain ⟨rfl,rfl⟩:=h;simp [wN]
theorem We:∀(n:Nat) (l:Tk) (xs:List Tx) (r:Tk),lV n l=some (xs,r)->wN xs+18*r.length<=18*l.length
 | 0,_,_,_,h=>by cases h
 | n+1,l,xs,r,h=>by
   unfold lV at h
   split at h
   · rename_i q hd
     obtain ⟨⟨a,q1⟩,h1,h2⟩:=Option.bind_eq_some_iff.1 h;obtain ⟨q2,h3,h4⟩:=Option.bind_eq_some_iff.1 h2;obtain ⟨⟨ys,q3⟩,h5,h6⟩:=Option.map_eq_some_iff.1 h4;simp only [Prod.mk.injEq] at h6;obtain ⟨rfl,rfl⟩:=h6;have w0:=dq hd;obtain ⟨w1,w2⟩:=sQ h1;have w3:=dq h3;have w4:=We n q2 ys q3 h5;simp only [wN] at *;omega
   · simp only [Option.some.injEq,Prod.mk.injEq] at h
     obtain ⟨rfl,rfl⟩:=h;simp [wN]
theorem af' {aR:Bool} {l r:Tk} {p:dC} (h:iO aR l=some (p,r)):p.nm.length+wN p.params+wN p.av+cP p.body+18*r.length<=18*l.length:=by
 unfold iO at h;obtain ⟨⟨a,q1⟩,h1,h2⟩:=Option.bind_eq_some_iff.1 h;obtain ⟨q2,h3,h4⟩:=Option.bind_eq_some_iff.1 h2;obtain ⟨⟨ps,q3⟩,h5,h6⟩:=Option.bind_eq_some_iff.1 h4;obtain ⟨⟨ls,q4⟩,h7,h8⟩:=Option.bind_eq_some_iff.1 h6;obtain ⟨⟨b,q5⟩,h9,eH⟩:=Option.map_eq_some_iff.1 h8;simp only [Prod.mk.injEq] at eH;obtain ⟨rfl,rfl⟩:=eH;obtain ⟨w1,w2⟩:=sQ h1;have w3:=dq h3;have w4:=Wb _ _ _ _ _ h5;have w5:=Wc _ _ _ _ h7;have w6:=N7 6 _ _ _ h9;simp only at *;omega
theorem Wf:∀(n:Nat) (aR:Bool) (l:Tk) (ds:List dC) (DY:Bool) (r:Tk),nP n aR l=some ((ds,DY),r)->wP ds+18*r.length<=18*l.length
 | 0,_,_,_,_,_,h=>by cases h
 | n+1,aR,l,ds,DY,r,h=>by
   unfold nP at h
   split at h
   · rename_i q hd
     obtain ⟨⟨p,q1⟩,g1,h2⟩:=Option.bind_eq_some_iff.1 h;obtain ⟨⟨⟨ys,pb⟩,q2⟩,g3,g4⟩:=Option.map_eq_some_iff.1 h2;simp only [Prod.mk.injEq] at g4;obtain ⟨⟨rfl,rfl⟩,rfl⟩:=g4;have w0:=dq hd;have w1:=af' g1;have w2:=Wf n _ _ _ _ _ g3;have w3:=N8 q1;simp only [wP] at *;omega
   · simp only [Option.some.injEq,Prod.mk.injEq] at h
     obtain ⟨⟨rfl,rfl⟩,rfl⟩:=h;simp [wP]
theorem Wg {l r:Tk} {m:bc} (h:mK l=some (m,r)):wM m+18*r.length<=18*l.length:=by
 unfold mK at h;obtain ⟨q1,h1,h⟩:=Option.bind_eq_some_iff.1 h;obtain ⟨⟨a,q2⟩,h2,h⟩:=Option.bind_eq_some_iff.1 h;obtain ⟨q3,h3,h⟩:=Option.bind_eq_some_iff.1 h;obtain ⟨⟨us,q4⟩,h4,h⟩:=Option.bind_eq_some_iff.1 h;obtain ⟨⟨⟨ds,atp⟩,q5⟩,h5,h⟩:=Option.bind_eq_some_iff.1 h;obtain ⟨⟨⟨ps,atq⟩,q6⟩,h6,h⟩:=Option.bind_eq_some_iff.1 h;simp only at h
 split at h
 · cases h
 · obtain ⟨q7,h7,h⟩:=Option.bind_eq_some_iff.1 h
   obtain ⟨⟨b,q8⟩,h8,h⟩:=Option.bind_eq_some_iff.1 h;obtain ⟨q9,h9,eH⟩:=Option.map_eq_some_iff.1 h;simp only [Prod.mk.injEq] at eH;obtain ⟨rfl,rfl⟩:=eH;have w1:=dq h1;obtain ⟨w2,w3⟩:=sQ h2;have w4:=dq h3;have w5:=We _ _ _ _ h4;have w6:=Wa _ _ _ _ _ _ h5;have w7:=N8 q4;have w8:=Wf _ _ _ _ _ _ h6;have w9:=dq h7;have w10:=N7 6 _ _ _ h8;have w11:=dq h9;simp only [wM] at *;omega
end Go.Bw
end
section
namespace Go.Proofs
open Go.Shelf
def Tryz.af_:Go.Shelf.Ren:=⟨fun | 137=>168 | 217=>179 | 266=>191 | n=>n,fun | 9=>9 | 5=>5 | 3=>3 | n=>n,fun | n=>n⟩
theorem Tryz.aga:Go.Proofs.Lays.n137 Tryz.prog Tryz.af_:={
 mixed:=by kernel_rfl
 f137:=Tryz.func168.trans (congrArg some (by kernel_rfl))
 f217:=Tryz.func179.trans (congrArg some (by kernel_rfl))
 f266:=Tryz.func191.trans (congrArg some (by kernel_rfl))
 t3:=Tryz.underlying3
 a3:=Tryz.isAgg3
 z3:=Tryz.sizeOf3
 v3:=Tryz.zeroValue3
 t5:=Tryz.underlying5
 a5:=Tryz.isAgg5
 z5:=Tryz.sizeOf5
 v5:=Tryz.zeroValue5
 t9:=Tryz.underlying9
 a9:=Tryz.isAgg9
 z9:=Tryz.sizeOf9
 v9:=Tryz.zeroValue9 }
def Tryz.agb:Go.Shelf.Ren:=⟨fun | 171=>167 | 243=>178 | 246=>190 | 283=>197 | 284=>198 | 285=>199 | 286=>200 | 129=>205 | 317=>204 | 318=>206 | 319=>207 | 320=>208 | 337=>209 | 338=>210 | n=>n,fun | 3=>3 | 9=>9 | 2=>2 | 4=>4 | 171=>309 | 0=>0 | 53=>303 | 37=>75 | 5=>5 | 173=>312 | 212=>321 | 51=>322 | 20=>20 | 213=>323 | 46=>148 | 232=>326 | 233=>327 | n=>n,fun | 17=>3 | 18=>4 | 19=>5 | n=>n⟩
theorem Tryz.agc:Go.Proofs.LaysM.n171 Tryz.prog Tryz.agb:={
 mixed:=by kernel_rfl
 f129:=Tryz.func205.trans (congrArg some (by kernel_rfl))
 f171:=Tryz.func167.trans (congrArg some (by kernel_rfl))
 f243:=Tryz.func178.trans (congrArg some (by kernel_rfl))
 f246:=Tryz.func190.trans (congrArg some (by kernel_rfl))
 f283:=Tryz.func197.trans (congrArg some (by kernel_rfl))
 f284:=Tryz.func198.trans (congrArg some (by kernel_rfl))
 f285:=Tryz.func199.trans (congrArg some (by kernel_rfl))
 f286:=Tryz.func200.trans (congrArg some (by kernel_rfl))
 f317:=Tryz.func204.trans (congrArg some (by kernel_rfl))
 f318:=Tryz.func206.trans (congrArg some (by kernel_rfl))
 f319:=Tryz.func207.trans (congrArg some (by kernel_rfl))
 f320:=Tryz.func208.trans (congrArg some (by kernel_rfl))
 f337:=Tryz.func209.trans (congrArg some (by kernel_rfl))
 f338:=Tryz.func210.trans (congrArg some (by kernel_rfl))
 t0:=Tryz.underlying0
 a0:=Tryz.isAgg0
 z0:=Tryz.sizeOf0
 v0:=Tryz.zeroValue0
 t2:=Tryz.underlying2
 a2:=Tryz.isAgg2
 z2:=Tryz.sizeOf2
 v2:=Tryz.zeroValue2
 t3:=Tryz.underlying3
 a3:=Tryz.isAgg3
 z3:=Tryz.sizeOf3
 v3:=Tryz.zeroValue3
 t4:=Tryz.underlying4
 a4:=Tryz.isAgg4
 z4:=Tryz.sizeOf4
 v4:=Tryz.zeroValue4
 t5:=Tryz.underlying5
 a5:=Tryz.isAgg5
 z5:=Tryz.sizeOf5
 v5:=Tryz.zeroValue5
 t9:=Tryz.underlying9
 a9:=Tryz.isAgg9
 z9:=Tryz.sizeOf9
 v9:=Tryz.zeroValue9
 t20:=Tryz.underlying20
 a20:=Tryz.isAgg20
 z20:=Tryz.sizeOf20
 v20:=Tryz.zeroValue20
 t37:=Tryz.underlying75
 a37:=Tryz.isAgg75
 z37:=Tryz.sizeOf75
 v37:=Tryz.zeroValue75
 t46:=Tryz.underlying148
 a46:=Tryz.isAgg148
 z46:=Tryz.sizeOf148
 v46:=Tryz.zeroValue148
 t51:=Tryz.underlying322
 a51:=Tryz.isAgg322
 z51:=Tryz.sizeOf322
 v51:=Tryz.zeroValue322
 t53:=Tryz.underlying303
 a53:=Tryz.isAgg303
 z53:=Tryz.sizeOf303
 v53:=Tryz.zeroValue303
 t171:=Tryz.underlying309
 a171:=Tryz.isAgg309
 z171:=Tryz.sizeOf309
 v171:=Tryz.zeroValue309
 t173:=Tryz.underlying312
 a173:=Tryz.isAgg312
 z173:=Tryz.sizeOf312
 v173:=Tryz.zeroValue312
 t212:=Tryz.underlying321
 a212:=Tryz.isAgg321
 z212:=Tryz.sizeOf321
 v212:=Tryz.zeroValue321
 t213:=Tryz.underlying323
 a213:=Tryz.isAgg323
 z213:=Tryz.sizeOf323
 t232:=Tryz.underlying326
 a232:=Tryz.isAgg326
 z232:=Tryz.sizeOf326
 v232:=Tryz.zeroValue326
 t233:=Tryz.underlying327
 a233:=Tryz.isAgg327
 z233:=Tryz.sizeOf327
 v233:=Tryz.zeroValue327
 g17:=by kernel_rfl
 g18:=by kernel_rfl
 g19:=by kernel_rfl
 i0:=by kernel_rfl
 i2:=by kernel_rfl
 i3:=by kernel_rfl
 i4:=by kernel_rfl
 i5:=by kernel_rfl
 i9:=by kernel_rfl
 i20:=by kernel_rfl
 i37:=by kernel_rfl
 i46:=by kernel_rfl
 i51:=by kernel_rfl
 i53:=by kernel_rfl
 i171:=by kernel_rfl
 i173:=by kernel_rfl
 i212:=by kernel_rfl
 i232:=by kernel_rfl
 i233:=by kernel_rfl
 m17:=by kernel_rfl
 m18:=by kernel_rfl
 m19:=by kernel_rfl }
def Tryz.agd:Go.Shelf.Ren:=⟨fun | 172=>166 | 244=>176 | 245=>177 | 247=>185 | 279=>186 | 280=>187 | 281=>188 | 282=>189 | 287=>194 | 316=>195 | 171=>167 | 205=>196 | 321=>202 | 322=>203 | 243=>178 | 246=>190 | 283=>197 | 284=>198 | 285=>199 | 286=>200 | 129=>205 | 317=>204 | 318=>206 | 319=>207 | 320=>208 | 337=>209 | 338=>210 | n=>n,fun | 9=>9 | 3=>3 | 75=>139 | 76=>140 | 4=>4 | 5=>5 | 167=>295 | 37=>75 | 0=>0 | 85=>296 | 2=>2 | 168=>298 | 53=>303 | 175=>304 | 46=>148 | 210=>307 | 127=>143 | 145=>319 | 143=>317 | 21=>21 | 171=>309 | 173=>312 | 212=>321 | 51=>322 | 20=>20 | 213=>323 | 232=>326 | 233=>327 | 80=>84 | n=>n,fun | 15=>0 | 16=>1 | 17=>3 | 18=>4 | 19=>5 | n=>n⟩
theorem Tryz.N9:Go.Proofs.LaysC.n172 Tryz.prog Tryz.agd:={
 mixed:=by kernel_rfl
 f129:=Tryz.func205.trans (congrArg some (by kernel_rfl))
 f171:=Tryz.func167.trans (congrArg some (by kernel_rfl))
 f172:=Tryz.func166.trans (congrArg some (by kernel_rfl))
 f205:=Tryz.func196.trans (congrArg some (by kernel_rfl))
 f243:=Tryz.func178.trans (congrArg some (by kernel_rfl))
 f244:=Tryz.func176.trans (congrArg some (by kernel_rfl))
 f245:=Tryz.func177.trans (congrArg some (by kernel_rfl))
 f246:=Tryz.func190.trans (congrArg some (by kernel_rfl))
 f247:=Tryz.func185.trans (congrArg some (by kernel_rfl))
 f279:=Tryz.func186.trans (congrArg some (by kernel_rfl))
 f280:=Tryz.func187.trans (congrArg some (by kernel_rfl))
 f281:=Tryz.func188.trans (congrArg some (by kernel_rfl))
 f282:=Tryz.func189.trans (congrArg some (by kernel_rfl))
 f283:=Tryz.func197.trans (congrArg some (by kernel_rfl))
 f284:=Tryz.func198.trans (congrArg some (by kernel_rfl))
 f285:=Tryz.func199.trans (congrArg some (by kernel_rfl))
 f286:=Tryz.func200.trans (congrArg some (by kernel_rfl))
 f287:=Tryz.func194.trans (congrArg some (by kernel_rfl))
 f316:=Tryz.func195.trans (congrArg some (by kernel_rfl))
 f317:=Tryz.func204.trans (congrArg some (by kernel_rfl))
 f318:=Tryz.func206.trans (congrArg some (by kernel_rfl))
 f319:=Tryz.func207.trans (congrArg some (by kernel_rfl))
 f320:=Tryz.func208.trans (congrArg some (by kernel_rfl))
 f321:=Tryz.func202.trans (congrArg some (by kernel_rfl))
 f322:=Tryz.func203.trans (congrArg some (by kernel_rfl))
 f337:=Tryz.func209.trans (congrArg some (by kernel_rfl))
 f338:=Tryz.func210.trans (congrArg some (by kernel_rfl))
 t0:=Tryz.underlying0
 a0:=Tryz.isAgg0
 z0:=Tryz.sizeOf0
 v0:=Tryz.zeroValue0
 t2:=Tryz.underlying2
 a2:=Tryz.isAgg2
 z2:=Tryz.sizeOf2
 v2:=Tryz.zeroValue2
 t3:=Tryz.underlying3
 a3:=Tryz.isAgg3
 z3:=Tryz.sizeOf3
 v3:=Tryz.zeroValue3
 t4:=Tryz.underlying4
 a4:=Tryz.isAgg4
 z4:=Tryz.sizeOf4
 v4:=Tryz.zeroValue4
 t5:=Tryz.underlying5
 a5:=Tryz.isAgg5
 z5:=Tryz.sizeOf5
 v5:=Tryz.zeroValue5
 t9:=Tryz.underlying9
 a9:=Tryz.isAgg9
 z9:=Tryz.sizeOf9
 v9:=Tryz.zeroValue9
 t20:=Tryz.underlying20
 a20:=Tryz.isAgg20
 z20:=Tryz.sizeOf20
 v20:=Tryz.zeroValue20
 t21:=Tryz.underlying21
 a21:=Tryz.isAgg21
 z21:=Tryz.sizeOf21
 v21:=Tryz.zeroValue21
 t37:=Tryz.underlying75
 a37:=Tryz.isAgg75
 z37:=Tryz.sizeOf75
 v37:=Tryz.zeroValue75
 t46:=Tryz.underlying148
 a46:=Tryz.isAgg148
 z46:=Tryz.sizeOf148
 v46:=Tryz.zeroValue148
 t51:=Tryz.underlying322
 a51:=Tryz.isAgg322
 z51:=Tryz.sizeOf322
 v51:=Tryz.zeroValue322
 t53:=Tryz.underlying303
 a53:=Tryz.isAgg303
 z53:=Tryz.sizeOf303
 v53:=Tryz.zeroValue303
 t75:=Tryz.underlying139
 a75:=Tryz.isAgg139
 z75:=Tryz.sizeOf139
 v75:=Tryz.zeroValue139
 t76:=Tryz.underlying140
 a76:=Tryz.isAgg140
 z76:=Tryz.sizeOf140
 v76:=Tryz.zeroValue140
 t85:=Tryz.underlying296
 a85:=Tryz.isAgg296
 z85:=Tryz.sizeOf296
 v85:=Tryz.zeroValue296
 t127:=Tryz.underlying143
 a127:=Tryz.isAgg143
 z127:=Tryz.sizeOf143
 v127:=Tryz.zeroValue143
 t143:=Tryz.underlying317
 a143:=Tryz.isAgg317
 z143:=Tryz.sizeOf317
 v143:=Tryz.zeroValue317
 t145:=Tryz.underlying319
 a145:=Tryz.isAgg319
 z145:=Tryz.sizeOf319
 v145:=Tryz.zeroValue319
 t167:=Tryz.underlying295
 a167:=Tryz.isAgg295
 z167:=Tryz.sizeOf295
 v167:=Tryz.zeroValue295
 t168:=Tryz.underlying298
 a168:=Tryz.isAgg298
 z168:=Tryz.sizeOf298
 v168:=Tryz.zeroValue298
 t171:=Tryz.underlying309
 a171:=Tryz.isAgg309
 z171:=Tryz.sizeOf309
 v171:=Tryz.zeroValue309
 t173:=Tryz.underlying312
 a173:=Tryz.isAgg312
 z173:=Tryz.sizeOf312
 v173:=Tryz.zeroValue312
 t175:=Tryz.underlying304
 a175:=Tryz.isAgg304
 z175:=Tryz.sizeOf304
 v175:=Tryz.zeroValue304
 t210:=Tryz.underlying307
 a210:=Tryz.isAgg307
 z210:=Tryz.sizeOf307
 v210:=Tryz.zeroValue307
 t212:=Tryz.underlying321
 a212:=Tryz.isAgg321
 z212:=Tryz.sizeOf321
 v212:=Tryz.zeroValue321
 t213:=Tryz.underlying323
 a213:=Tryz.isAgg323
 z213:=Tryz.sizeOf323
 t232:=Tryz.underlying326
 a232:=Tryz.isAgg326
 z232:=Tryz.sizeOf326
 v232:=Tryz.zeroValue326
 t233:=Tryz.underlying327
 a233:=Tryz.isAgg327
 z233:=Tryz.sizeOf327
 v233:=Tryz.zeroValue327
 g15:=by kernel_rfl
 g16:=by kernel_rfl
 g17:=by kernel_rfl
 g18:=by kernel_rfl
 g19:=by kernel_rfl
 t80:=Tryz.underlying84
 a80:=Tryz.isAgg84
 z80:=Tryz.sizeOf84
 v80:=Tryz.zeroValue84
 i0:=by kernel_rfl
 i2:=by kernel_rfl
 i3:=by kernel_rfl
 i4:=by kernel_rfl
 i5:=by kernel_rfl
 i9:=by kernel_rfl
 i20:=by kernel_rfl
 i21:=by kernel_rfl
 i37:=by kernel_rfl
 i46:=by kernel_rfl
 i51:=by kernel_rfl
 i53:=by kernel_rfl
 i75:=by kernel_rfl
 i76:=by kernel_rfl
 i80:=by kernel_rfl
 i85:=by kernel_rfl
 i127:=by kernel_rfl
 i143:=by kernel_rfl
 i145:=by kernel_rfl
 i167:=by kernel_rfl
 i168:=by kernel_rfl
 i171:=by kernel_rfl
 i173:=by kernel_rfl
 i175:=by kernel_rfl
 i210:=by kernel_rfl
 i212:=by kernel_rfl
 i232:=by kernel_rfl
 i233:=by kernel_rfl
 m15:=by kernel_rfl
 m16:=by kernel_rfl
 m17:=by kernel_rfl
 m18:=by kernel_rfl
 m19:=by kernel_rfl
 c0:=by kernel_rfl
 c2:=by kernel_rfl
 c3:=by kernel_rfl
 c4:=by kernel_rfl
 c5:=by kernel_rfl
 c9:=by kernel_rfl
 c20:=by kernel_rfl
 c21:=by kernel_rfl
 c37:=by kernel_rfl
 c46:=by kernel_rfl
 c51:=by kernel_rfl
 c53:=by kernel_rfl
 c75:=by kernel_rfl
 c76:=by kernel_rfl
 c80:=by kernel_rfl
 c85:=by kernel_rfl
 c127:=by kernel_rfl
 c143:=by kernel_rfl
 c145:=by kernel_rfl
 c167:=by kernel_rfl
 c168:=by kernel_rfl
 c171:=by kernel_rfl
 c173:=by kernel_rfl
 c175:=by kernel_rfl
 c210:=by kernel_rfl
 c212:=by kernel_rfl
 c213:=by kernel_rfl
 c232:=by kernel_rfl
 c233:=by kernel_rfl }
end Go.Proofs
end
section
namespace Go.Proofs.YtplfmnkmlaolpaaGreatDoor
open Go.Bw
open Go.Proofs
theorem Wh (n:Nat) (u:Int):(((((n:Int)==0)||decide (8<(n:Int)))||decide (u<97))||decide (122<u)) = !((decide (1<=n)&&decide (n<=8))&&su u):=by
 rw [Bool.eq_iff_iff];simp [su];omega
theorem DZ {s:List UInt8} {i:Nat} (h:i<s.length):s[i]? = some (s[i]?.getD 0):=by rw [List.getElem?_eq_getElem h]; rfl
theorem age {s:List UInt8} {p:UInt8->Bool} {i:Nat} (h:i<s.length) (hp:p (s[i]?.getD 0)=false):s.all p=false:=by
 rw [List.all_eq_false];exact ⟨_,List.mem_of_getElem? (DZ h),by simp [hp]⟩
theorem agf {s:List UInt8} {p:UInt8->Bool} (h:∀i,i<s.length->p (s[i]?.getD 0)=true):s.all p=true:=by
 rw [List.all_eq_true];intro x hx;obtain ⟨i,hi⟩:=List.getElem?_of_mem hx;have:=h i (List.getElem?_eq_some_iff.1 hi).1;rw [hi] at this;exact this
theorem Wj (u:UInt8):∀s:List UInt8,decide (0<=Lib.indexByte s u)=s.contains u
 | []=>rfl
 | b::l=>by
   have ih:=Wj u l;have cz:=Lib.indexByte_ge l u;unfold Lib.indexByte
   by_cases hb:b=u
   · subst hb; simp
   · have h1:(b==u)=false:=by simpa using hb
     have h2:(u==b)=false:=by simpa using λh=>hb h.symm
     rw [if_neg (by simp [h1]),List.contains_cons,h2,Bool.false_or,<-ih]
     split
     · rename_i h; simp at h; simp [h]
     · rename_i h; simp at h
       rw [Bool.eq_iff_iff]; simp; omega
theorem toNat_inj {u v:UInt8} (h:(u.toNat:Int)=(v.toNat:Int)):u=v:=UInt8.toNat_inj.1 (by omega)
theorem e7:Tryz.prog.underlying 9=some .string:=by kernel_rfl
theorem Wk:Enters Tryz.prog 72:=enters_of Tryz.func72 (by kernel_rfl) rfl
theorem agh:Enters Tryz.prog 168:=enters_of Tryz.func168 (by kernel_rfl) rfl
theorem Wl (u:Int) (w:World) :
   Calls Tryz.prog 72 #[.int .u8 u] w λe w'=>e = .returned (.bool (su u||HO u))/\Ext w w':=by
 refine enter Tryz.func72 O 17 O O ?_;refine CE (Vs:=[]) (Ws.init (by simp)) (Cs (Cr (V0 (Ya O) (Ln (Et (Cs (Cr (V0 (Ym O) (V0 (fm O O) (V0 (Ym O) ?_))))))))));apply La 2 O O O O Y O O O O O
 ·intro de;refine Vg (Ym O) (Vg (ij O O) ?_);exact Gt 2 O O O
 refine V0 (Ym O) ?_;apply Lo 6 O O O O Y O O O O O
 ·intro bK;refine Vg (Ym O) (Vg (fm O O) (Vg (Ym O) ?_));apply La 2 O O O O (.g O O O) O O O O O
  ·intro hY;refine Vg (Ym O) (Vg (ij O O) ?_);exact Gt 2 O O O
  exact Gt 4 O O O
 refine V0 (Ya O) (Ln (Et (az ?_)));refine R1 O O λw' hw=>?_;exact ⟨O,hw.fr⟩
theorem ra (s:List UInt8) (w:World) :
   Calls Tryz.prog 29 #[st s] w λe w'=>e = .returned (.bool (dZ s))/\Ext w w':=by
 refine enter Tryz.func29 O 33 O O ?_;refine CE (Vs:=[]) (Ws.init (by simp)) (Cs (Cr (V0 (Ya O) (Ln (Et (Cs (Cs (Cr (V0 (Ym O) (V0 (CV e7 O) (V0 (aG O O) (V0 (Ym O) ?_))))))))))));apply Lo 3 O O O O Y O O O O O
 ·intro de;refine Vg (Ym O) (Vg (CV e7 O) (Vg (bZ O O) ?_));exact Gt 3 O O O
 refine V0 (Ym O) ?_;apply Lo 3 O O O O Y O O O O O
 ·intro bK
  have h0:0<s.length:=by
    rcases Nat.eq_zero_or_pos s.length with h | h
    · simp [h] at bK
    · exact h
  have IJ:=DZ h0;refine Vg (Ym O) (Vg (CX e7 O O (by assumption)) (Vg (bq O O) ?_));exact Gt 3 O O O
 refine V0 (Ym O) ?_;apply Lo 3 O O O O Y O O O O O
 ·intro hY
  have h0:0<s.length:=by
    rcases Nat.eq_zero_or_pos s.length with h | h
    · simp [h] at hY
    · exact h
  have IJ:=DZ h0;refine Vg (Ym O) (Vg (CX e7 O O IJ) (Vg (bZ O O) ?_));exact Gt 3 O O O
 refine Ln (Et ?_);refine Cc O (λad=>?_) (λad=>?_)
 ·rw [Wh] at ad
  have hn:dZ s=false:=by
    unfold dZ;simp only [Bool.not_eq_true'] at ad;rw [ad]; rfl
  refine Cs (Cr (V0 (Ya O) (Ln (Et (az (Er ?_))))));refine R1 O O λw' hw=>?_;exact ⟨by rw [hn],hw.fr⟩
 rw [Wh] at ad
 have aE:((decide (1<=s.length)&&decide (s.length<=8))&&su ((s[0]?.getD 0).toNat))=true:=by simpa using ad
 have h8:s.length<=8:=by simp at aE; omega
 refine Ck (Et (Cs (Cs (Cr (V0 (Ym O) (V0 (CV e7 O) (V0 (Ym O) (Ln (Et (Cb ?_))))))))));refine CW (ι:=Nat) (λi=>[(24,.int .i64 (i:Int))]) [(0,_),(23,_)] (λi=>i<=s.length/\∀j,j<i->ox (s[j]?.getD 0)=true) (λi=>s.length-i) 0 ⟨Nat.zero_le _,by simp⟩ (sc O (sc O (sc O sn))) ?_;intro i ⟨hi,cg⟩;refine Cs (Cr (V0 (bq O O) (Ln (Et (Cs ?_)))));refine Cc O (λar=>?_) (λar=>?_)
 ·have aw:i<s.length:=by simpa using ar
  have yB:=DZ aw;refine Ck (Et (Cs (Cb (Cs (Cr (V0 (Ym O) (V0 (Ya O) (Ln (Et (Cs (Cr (V0 (Ym O) (V0 (Ym O) (V0 (CX e7 O O yB) (Lp Y O Wk O (λw hw=>Wl _ w) ?_)))))))))))))));refine V0 (eu O) (Ln (Et ?_));refine Cc O (λay=>?_) (λay=>?_)
  ·have D1:ox (s[i]?.getD 0)=false:=by unfold ox; revert ay; cases su _<;>cases HO _<;>simp
   refine Cs (Cr (V0 (Ya O) (Ln (Et (az (bR (Er (Er (bR (Er ?_))))))))));refine R1 O O λw' hw=>?_;exact ⟨by unfold dZ; rw [age aw D1]; simp,hw.fr⟩
  have D1:ox (s[i]?.getD 0)=true:=by unfold ox; revert ay; cases su _<;>cases HO _<;>simp
  refine Ck (Eb (Et (Cr (V0 (Yi O O O (by omega)) (V0 (Ym O) (Ln ?_))))));exact Ea (i+1) (by omega) ⟨by omega,λj hj=>by rcases Nat.lt_succ_iff_lt_or_eq.1 hj with h | rfl; exact cg j h; exact D1⟩ (sc rfl (sc rfl (sc rfl sn))) (λ_ h=>h)
 have cz:¬i<s.length:=by simpa using ar
 refine Ce (Ex (Ex (cf (Et (Cs (Cr (V0 (Ya O) (Ln (Et (az ?_))))))))));refine R1 O O λw' hw=>?_;exact ⟨by unfold dZ; rw [agf λj hj=>cg j (by omega),aE]; rfl,hw.fr⟩
theorem agi (s:List UInt8) (u:UInt8) (w:World):Calls Tryz.prog 168 #[st s,.int .u8 (u.toNat:Int)] w λe w'=>e = .returned (.int .i64 (Lib.indexByte s u))/\Ext w w':=
 (Any.strings_IndexByte Go.Proofs.Tryz.aga ⟨s.toArray⟩ (u.toNat:Int) w).mono λe w' h=>by
   obtain ⟨h1,h2⟩:=h;subst h2
   have e1:((u.toNat:Int)).toNat.toUInt8=u:=by simp
   rw [e1] at h1;exact ⟨h1,Fr.refl _ _⟩
theorem agj (u:UInt8) (w:World) :
   Calls Tryz.prog 142 #[.int .u8 (u.toNat:Int)] w λe w'=>e = .returned (.bool (ug u))/\Ext w w':=by
 refine enter Tryz.func142 O 6 O O ?_;refine CE (Vs:=[]) (Ws.init (by simp)) (Cs (Cr (V0 (Ya O) (Ln (Et (Cs (Cr (V0 (Ym O) (Lp Y O agh O (λw hw=>agi MM u w) (V0 (fm O O) (V0 (Ya O) ?_)))))))))));refine Ln (Et (az ?_));refine R1 O O λw' hw=>?_;exact ⟨by rw [Wj]; rfl,hw.fr⟩
theorem any_true {α:Type} {p:α->Bool} {l:List α} {j:Nat} {x:α} (hj:l[j]? = some x) (h:p x=true):l.any p=true:=List.any_eq_true.2 ⟨x,List.mem_of_getElem? hj,h⟩
theorem any_false {α:Type} {p:α->Bool} {l:List α} (h:∀(j:Nat) (x:α),l[j]? = some x->p x=false):l.any p=false:=by
 rw [List.any_eq_false];intro x hx;obtain ⟨j,hj⟩:=List.getElem?_of_mem hx;simp [h j x hj]
theorem lW {α:Type} {l:List α} {i:Nat} {x:α} (h:l[i]? = some x):l.take (i+1)=l.take i++[x]:=by rw [List.take_add_one,h]; rfl
def oL (s:List UInt8):Int:=match Lib.atoiAll s with | .ok v=>v | .range=>Lib.atoiSat s | _=>0
def wA (s:List UInt8):Bool:=match Lib.atoiAll s with | .ok _=>true | _=>false
theorem agk (s:List UInt8) : -9223372036854775808<=oL s/\oL s<=9223372036854775807:=by
 unfold oL
 cases h:Lib.atoiAll s with
 | ok v=>exact Lib.atoiAll_bounds h
 | range=>exact Lib.atoiSat_bounds s
 | _=>simp
theorem agl {s:List UInt8} (h:dZ s=false):mw s=(⟨2,oL s,[]⟩,((wA s&&decide (0<=oL s))&&decide (oL s<=1099511627775))&&(Lib.itoa (oL s)==s)):=by
 rw [mw,if_neg (by simp [h])];unfold oL wA
 cases Lib.atoiAll s<;>simp
theorem Wn {s:List UInt8} {l:List Tok} {t:List UInt8} (h:jR s=(jR t).map (l++·)) (ht:jR t=none):¬4096<s.length->dO s=([],1):=λhl=>by
 rw [dO,if_neg hl,h,ht]; rfl
theorem agm {s:List UInt8} {l:List Tok} (h:jR s=(jR []).map (l++·)):¬4096<s.length->dO s=(l,0):=λhl=>by
 rw [dO,if_neg hl,h]; simp [TN]
theorem Wq {o:Option (List Tok)} {l:List Tok} {t:Tok}:(o.map (t::·)).map (l++·)=o.map ((l++[t])++·):=by
 cases o<;>simp
abbrev Laid (H:View):Prop:=MI Tryz.prog 3 0 1 H
def Wr : String := (Rows.objChecksRow.laid.map (·.1)).getD 2 ""
theorem N':Tryz.prog.globalNamed Wr=some 3:=by kernel_rfl
theorem agn (G:View) (n:Int) (h0 : -9223372036854775808<=n) (h1:n<=9223372036854775807) (w:World) (hG:Le G w) (hz:Laid G) :
   Calls Tryz.prog 167 #[.int .i64 n] w λe w'=>e = .returned (st (Lib.itoa n))/\Ext w w':=
 (Any.strconv_Itoa Go.Proofs.Tryz.agc n h0 h1 w (hz.MJ hG N')).mono λe w' h=>by
   obtain ⟨h1,k,os,rfl⟩:=h;exact ⟨h1,adr w k os⟩
theorem ago (G:View) (s:List UInt8) (hs:s.length<=4096) (w:World) (hG:Le G w) (hz:Laid G) :
   Calls Tryz.prog 166 #[st s] w λe w'=>∃r:Value,e = .returned (.tuple #[.int .i64 (oL s),r])/\Ext w w'/\AH r (wA s):=by
 have ga:(ByteArray.mk s.toArray).size=s.length:=Hr s
 cases h:Lib.atoiAll s with
 | ok v=>
   refine (Any.strconv_Atoi_ok Go.Proofs.Tryz.N9 ⟨s.toArray⟩ (by rw [ga]; omega) v h w).mono λe w' hh=>?_;obtain ⟨h1,h2⟩:=hh;refine ⟨.nilIface,by simp only [oL,h]; exact h1,?_,by simp [AH,wA,h]⟩
   rcases h2 with rfl | ⟨t,rfl⟩
   · exact Fr.refl _ _
   · exact Ext.L_ (Lib.bytesWorld_below _ _ _)
 | range=>
   obtain ⟨ev,hv,D2⟩:=hz.rng;refine (Any.strconv_Atoi_range Go.Proofs.Tryz.N9 ⟨s.toArray⟩ (by rw [ga]; omega) h ev w (hG.cell hv) D2).mono λe w' hh=>?_;obtain ⟨N,h1,_,_,h2⟩:=hh;exact ⟨_,by simp only [oL,h]; exact h1,Ext.L_ h2,by simp [AH,wA,h]⟩
 | _=>
   obtain ⟨ev,hv,D2⟩:=hz.syn;refine (Any.strconv_Atoi_syntax Go.Proofs.Tryz.N9 ⟨s.toArray⟩ (by rw [ga]; omega) h ev w (hG.cell hv) D2).mono λe w' hh=>?_;obtain ⟨N,h1,_,_,h2⟩:=hh;exact ⟨_,by simp only [oL,h]; exact h1,Ext.L_ h2,by simp [AH,wA,h]⟩
theorem agp:Tryz.prog.underlying 139=some (.interface (Tryz.prog.methodsAt 139)):=by kernel_rfl
theorem yC:zeroOf Tryz.prog 255=some (.agg #[.int .i64 0,.int .i64 0,st []]):=by kernel_rfl
theorem rb:Enters Tryz.prog 29:=enters_of Tryz.func29 (by kernel_rfl) rfl
theorem N_:eR Tryz.prog 255=some [(0,1),(1,1),(2,1)]:=by kernel_rfl
theorem D3:cq Tryz.prog 255=some 3:=by kernel_rfl
theorem Bk:eQ Tryz.prog 255=some 3:=by kernel_rfl
theorem agq:Enters Tryz.prog 166:=enters_of Tryz.func166 (by kernel_rfl) rfl
theorem agr:Enters Tryz.prog 167:=enters_of Tryz.func167 (by kernel_rfl) rfl
theorem ags:Enters Tryz.prog 141:=enters_of Tryz.func141 (by kernel_rfl) rfl
theorem IK:eS Tryz.prog 223 255 (.agg #[.int .i64 0,.int .i64 0,st []]) 3 32:=gW (by kernel_rfl)
theorem agt:Enters Tryz.prog 142:=enters_of Tryz.func142 (by kernel_rfl) rfl
theorem agu (G:View) (s:List UInt8) (hs:s.length<=4096) (w:World) (hG:Le G w) (hz:Laid G) :
   Calls Tryz.prog 141 #[st s] w λe w'=>e = .returned (.tuple #[.agg #[.int .i64 (mw s).1.kind,.int .i64 (mw s).1.n,st (mw s).1.text],.bool (mw s).2])/\Ext w w':=by
 refine enter Tryz.func141 O 33 O O ?_;refine CE (Vs:=[G]) (Ws.init (by simp [hG])) (Cs (Cr ?_));refine Al Y O yC λb2=>?_;refine V0 (Ya O) (Ln (Et (Cs (Cs (Cr (V0 (Ym O) (Lp Y O rb O (λw hw=>ra _ w) (Ln (Et ?_)))))))));refine Cc O (λad=>?_) (λad=>?_)
 ·have hW:mw s=(⟨1,0,s⟩,true):=by rw [mw,if_pos ad]
  refine Cs (Cr (V0 (Ym O) (V0 (Yb yC N_ O O) (an 0 Y O O O D3 O O O (V0 (Ya O) (Ln (Et (az (Er ?_)))))))));refine WE.vT 0 O O O O Bk O λw' hw=>?_;rw [hW];exact ⟨O,hw.fr⟩
 have hW:=agl ad;have eZ:=agk s;refine Ck (Et (Cs (Cr (V0 (Ym O) ?_))));refine Ld Y O agq O (λr:Value=>.tuple #[.int .i64 (oL s),r]) (λ_ r=>AH r (wA s)) (λw hw=>ago G s hs w (hw.vs _ (by simp)) hz) ?_;intro F12 uW Oa pN;refine V0 (Ym O) (V0 (Yx O O) (V0 (Yx O O) (V0 (Ya O) (V0 (Ya O) (Ln (Et (Cs (Cr (V0 (Ym O) (V0 (Yb yC N_ O O) ?_))))))))));refine V0 (Ym O) (V0 (adn (wA s) agp O pN) (V0 (Ym O) ?_));apply La 2 O O O O Y O O O O O
 ·intro de;refine Vg (Ym O) (Vg (fm O O) ?_);exact Gt 2 O O O
 refine V0 (Ym O) ?_;apply La 2 O O O O Y O O O O O
 ·intro bK;refine Vg (Ym O) (Vg (ij O O) ?_);exact Gt 2 O O O
 refine V0 (Ym O) ?_;apply La 4 O O O O Y O O O O O
 ·intro hY;refine Vg (Ym O) (Lp (.g O O O) O agr O (λw hw=>agn G _ eZ.1 eZ.2 w (hw.vs _ (by simp)) hz) (Vg (Ym O) (Vg (CT O O) ?_)));exact Gt 4 O O O
 refine an 0 Y O O O D3 O O O (V0 (Ya O) (Ln (Et (az ?_))));refine WE.vT 0 O O O O Bk O λw' hw=>?_;rw [hW];exact ⟨O,hw.fr⟩
theorem agw (G:View) (s:List UInt8) (w:World) (hG:Le G w) (hz:Laid G) :
   Calls Tryz.prog 119 #[st s] w λe w'=>∃r:Option Addr×Nat,e = .returned (.tuple #[.slice r.1 (dO s).1.length r.2,.int .i64 (dO s).2])/\Ext w w'/\Sl aY 3 (nv w w') r.1 r.2 (dO s).1:=by
 refine enter Tryz.func119 O 66 O O ?_;refine CE (Vs:=[G]) (Ws.init (by simp [hG])) (Cs (Cr (V0 (Ya O) (V0 (Ya O) (Ln (Et (Cs (Cs (Cr (V0 (Ym O) (V0 (CV e7 O) (V0 (bZ O O) ?_))))))))))));refine Ln (Et ?_);refine Cc O (λad=>?_) (λad=>?_)
 ·have hl:4096<s.length:=by simp at ad; omega
  have hR:dO s=([],2):=by rw [dO,if_pos hl]
  refine Cs (Cr (V0 (Ya O) (V0 (Ya O) (Ln (Et (az (Er ?_)))))));refine WE.dJ (gu O (iH O) (iH O)) λw' hw=>?_;rw [hR];exact ⟨(none,0),O,hw.fr,Sl.nil⟩
 have hl:¬4096<s.length:=by simp at ad; omega
 refine Ck (Et (Cs (Cr (V0 (Ya O) (LW (λ_ h=>h.fB 255 3) (Ln (Et (Cs (Cb ?_)))))))));refine cU (ι:=List UInt8×List Tok×Option Addr×Nat) (λg=>[(0,st g.1),(4,.slice g.2.2.1 g.2.1.length g.2.2.2)]) [] (λg=>Ws w [] [bo 255 3 Tok.cells g.2.2.1 g.2.2.2 (g.2.1)] [G]) (λg=>g.2.1.length+g.1.length<=s.length/\jR s=(jR g.1).map (g.2.1++·)) (λg=>g.1.length) (s,[],none,0) ⟨by simp,by simp⟩ (sc O (sc O sn)) (λ_ h=>h) ?_;intro g ⟨cQ,hO⟩;refine Cs (Cs (Cr (V0 (Ym O) (V0 (Mc O O) (Ln (Et ?_))))));refine Cc O (λar=>?_) (λar=>?_)
 ·obtain ⟨u,r,uY⟩:∃u r,g.1=u::r:=by
    cases bK:g.1 with
    | nil=>rw [bK] at ar; simp at ar
    | cons u r=>exact ⟨u,r,rfl⟩
  have k6:g.1.length=r.length+1:=by rw [uY]; rfl
  refine Ck (Et (Cb (Cs (Cr (V0 (Ya O) (Ln (Et (Cs (Cb ?_)))))))));refine CW (ι:=Nat) (λi=>[(5,.int .i64 (i:Int))]) [(0,_),(4,_)] (λi=>i<=g.1.length/\∀j,j<i->ox (g.1[j]?.getD 0)=true) (λi=>g.1.length-i) 0 ⟨Nat.zero_le _,by simp⟩ (sc O (sc O (sc O sn))) ?_;intro i ⟨hi,cg⟩;refine Cs (Cs (Cr (V0 (Ym O) (V0 (Ym O) (V0 (CV e7 O) (V0 (bq O O) (V0 (Ym O) ?_)))))));apply La 4 O O O O Y O O O O O
  ·intro de
   have aw:i<g.1.length:=by simpa using de
   have IJ:=DZ aw;refine Vg (Ym O) (Vg (Ym O) (Vg (CX e7 O O IJ) (Lp (.g O O O) O Wk O (λw hw=>Wl _ w) ?_)));exact Gt 4 O O O
  refine Ln (Et ?_);refine Cc O (λay=>?_) (λay=>?_)
  ·have aw:i<g.1.length:=by
     simp only [Bool.and_eq_true,decide_eq_true_eq] at ay;omega
   have D1:ox (g.1[i]?.getD 0)=true:=by
     simp only [Bool.and_eq_true] at ay;exact ay.2
   refine Ck (Et (Cb (Cr (V0 (Ym O) (V0 (Yi O O O (by omega)) (V0 (Ya O) (Ln (Eb ?_))))))));exact Ea (i+1) (by omega) ⟨by omega,λj hj=>by rcases Nat.lt_succ_iff_lt_or_eq.1 hj with h | rfl; exact cg j h; exact D1⟩ (sc rfl (sc rfl (sc rfl sn))) (λ_ h=>h)
  have Ob:ir g.1=i:=by
    refine TM _ _ hi cg ?_
    rcases Nat.lt_or_ge i g.1.length with h | h
    · right
      rw [decide_eq_true (by omega:((i:Nat):Int)<(g.1.length:Int)),Bool.true_and] at ay;exact ay
    · left; omega
  have hu1:g.1[0]? = some u:=by rw [uY]; rfl
  refine Ce (Ex (Ex (cf (Et (Cs (Cs (Cr (V0 (Ym O) (V0 (CX e7 O O (i:=0) hu1) (V0 (Ya O) (Ln (Et (Cb (Cs (Cr (V0 (Ym O) (V0 (bZ O O) ?_)))))))))))))))));refine V0 (Ya O) (Ln (Et ?_));refine Cc O (λaM=>?_) (λaM=>?_)
  ·have h0n:0<i:=by simp at aM; omega
   refine Cs (Cr (V0 (Ym O) (V0 (Ym O) (V0 (Tp Tryz.underlying9 O O (by omega) (by omega)) ?_))));rw [Int.toNat_natCast];refine Lp Y O ags O (λw hw=>agu G _ (by simp; omega) w (hw.vs _ (by simp)) hz) (V0 (Ym O) (V0 (Yx O O) (V0 (Yx O O) ?_)));refine Al Y O yC λb7=>?_;refine an 0 Y O O O D3 O O O (V0 (Ya O) (Ln (Et (Cs (Cs (Cr (V0 (Ym O) (V0 (eu O) (Ln (Et ?_))))))))));refine Cc O (λaW=>?_) (λaW=>?_)
   ·have hR:dO s=([],1):=Wn hO (by rw [MO (by omega),Ob,TX,if_neg (by simpa using aW)]) hl;refine Cs (Cr (V0 (Ya O) (V0 (Ya O) (Ln (Et (az (Er (bR (Er (bR (Er (bR (Er ?_)))))))))))));refine WE.dJ (gu O (iH O) (iH O)) λw' hw=>?_;rw [hR];exact ⟨(none,0),O,hw.fr,Sl.nil⟩
   have wB:vY (g.1.take i)=some ((mw (g.1.take i)).1):=by rw [TX,if_pos (by simpa using aW)]
   refine Ck (Et (Cs (Cr (V0 (Ym O) (V0 (bA 0 O O Bk O) ?_)))));refine Lb Y O IK O O O O λb42=>?_;refine bH 0 (.cells (Tok.cells ((mw (g.1.take i)).1)).toArray 255 (0,0)) O O ?_;refine LA ((mw (g.1.take i)).1) 2 0 Y O IK O O O O O O (by omega) (by omega) λa43 c43=>?_;refine V0 (Ya O) (Ln (Et (Cs (Cr (V0 (Ym O) (V0 (Ym O) (V0 (Mv Tryz.underlying9 O O (by omega) (by omega)) ?_)))))));rw [Int.toNat_natCast];refine V0 (Ya O) (Ln (Et (Ce (L6 O (Ex (cf ?_))))))
   exact Ea ((g.1.drop i,g.2.1++[(mw (g.1.take i)).1],a43,c43):List UInt8×List Tok×Option Addr×Nat) (by dsimp only; simp; omega) ⟨by dsimp only; simp; omega,by
       dsimp only;rw [hO,MO (by omega),Ob,wB];simp only
       rw [Wq]⟩ (sc rfl (sc rfl sn)) (λ_ h=>Wd 2 h)
  have Oc:ir (u::r)=0:=by rw [<-uY,Ob]; simp at aM; omega
  refine Cs (Cr (V0 (Ym O) (Lp Y O agt O (λw hw=>agj _ w) (V0 (Ya O) (Ln (Et ?_))))));refine Cc O (λbl=>?_) (λbl=>?_)
  ·refine Cr (V0 (Ym O) (V0 (Ym O) (V0 (Tp Tryz.underlying9 O O (by omega) (by omega)) ?_)));rw [show g.1.take (1:Int).toNat=[u] by rw [uY]; rfl];refine V0 (Yb yC N_ O O) ?_;refine Lb Y O IK O O O O λb54=>?_;refine bH 0 (.cells (Tok.cells (Tok.mk 3 0 [u])).toArray 255 (0,0)) O O ?_;refine LA (Tok.mk 3 0 [u]) 1 0 Y O IK O O O O O O (by omega) (by omega) λa55 c55=>?_;refine V0 (Ya O) (Ln (Eb (Et (Cr (V0 (Ym O) (V0 (Mv Tryz.underlying9 O O (by omega) (by omega)) ?_))))));rw [show g.1.drop (1:Int).toNat=r by rw [uY]; rfl];refine V0 (Ya O) (Ln (Eb ?_))
   exact Ea ((r,g.2.1++[Tok.mk 3 0 [u]],a55,c55):List UInt8×List Tok×Option Addr×Nat) (by dsimp only; omega) ⟨by dsimp only; simp; omega,by
       dsimp only
       rw [hO,uY,TO Oc (by simpa using bl),Wq]⟩ (sc rfl (sc rfl sn)) (λ_ h=>Wd 1 h)
  refine Cs (Cr (V0 (Ym O) (V0 (jq O O) (V0 (Ym O) ?_))));apply La 2 O O O O Y O O O O O
  ·intro bK;refine Vg (Ym O) (Vg (jq O O) ?_);exact Gt 2 O O O
  refine V0 (Ya O) (Ln (Et ?_));refine Cc O (λbt=>?_) (λbt=>?_)
  ·have D4:¬(u=32\/u=10):=by
     rintro (h | h)<;>rw [h] at bt<;>simp at bt
   have hR:dO s=([],1):=Wn hO (by rw [uY,TQ Oc (by simpa using bl) D4]) hl;refine Cs (Cr (V0 (Ya O) (V0 (Ya O) (Ln (Et (az (bR (Er (bR (Er (bR (Er ?_))))))))))));refine WE.dJ (gu O (iH O) (iH O)) λw' hw=>?_;rw [hR];exact ⟨(none,0),O,hw.fr,Sl.nil⟩
  have D4:u=32\/u=10:=by
    simp only [bne,Bool.and_eq_false_iff,Bool.not_eq_false',beq_iff_eq] at bt
    rcases bt with h | h
    · left; exact toNat_inj (by simpa using h)
    · right; exact toNat_inj (by simpa using h)
  refine Ck (Eb (Et (Cr (V0 (Ym O) (V0 (Mv Tryz.underlying9 O O (by omega) (by omega)) ?_)))));rw [show g.1.drop (1:Int).toNat=r by rw [uY]; rfl];refine V0 (Ya O) (Ln (Eb ?_))
  exact Ea ((r,g.2.1,g.2.2.1,g.2.2.2):List UInt8×List Tok×Option Addr×Nat) (by dsimp only; omega) ⟨by dsimp only; omega,by
      dsimp only
      rw [hO,uY,TP Oc (by simpa using bl) D4]⟩ (sc rfl (sc rfl sn)) (λ_ h=>h)
 have cz:g.1=[]:=by simpa using ar
 have hR:dO s=(g.2.1,0):=by
   rw [cz] at hO;exact agm hO hl
 refine Ce (Ex (Ex (cf (Et (Cs (Cr (V0 (Ym O) (V0 (Ya O) (V0 (Ya O) (Ln (Et (az ?_))))))))))));refine WE.dJ (gu O (iH O) (iH O)) λw' hw=>?_;rw [hR];exact ⟨(g.2.2.1,g.2.2.2),O,hw.fr,hw.gv 0 O Tok.a8 (λ_ _ _ _ h=>h)⟩
abbrev kI:Int->Value:=λn:Int=>Value.int .i64 n
def vS (r:Bool) (a:Int):Value:=.agg #[.bool r,.int .i64 a]
def gy (n:Nat):List (cV Int):=[(1,vS false 0,0),(2,vS false 0,1),(3,vS true 0,2),(4,vS true 1,3),(5,vS true (-1),4),(6,vS false 1,5)]++(List.range n).map λj=>(((7+j:Nat):Int),vS false 2,6+j)
def iQ:List (cV Int):=[(1,vS true 1,0),(2,vS true 2,1),(3,vS true (-1),2),(4,vS false 1,3),(5,vS false 1,4),(6,vS false 1,5),(7,vS false 1,6)]
theorem agC (n:Nat) (h:n<9):bn kI (dN ((7+n:Nat):Int) (vS false 2) (gy n) (6+n)) (jc ((7+n:Nat):Int) (gy n) (6+n))=bn kI (gy (n+1)) (6+(n+1)):=by
 match n,h with
 | 0,_=>rfl
 | 1,_=>rfl
 | 2,_=>rfl
 | 3,_=>rfl
 | 4,_=>rfl
 | 5,_=>rfl
 | 6,_=>rfl
 | 7,_=>rfl
 | 8,_=>rfl
theorem Wu (op:Int):dU op (gy 9) (vS false 0)=vS ((dy op).getD (false,0)).1 ((dy op).getD (false,0)).2/\ow op (gy 9) = !(dy op).isNone:=by
 by_cases h1:op=1
 · subst h1; exact ⟨rfl,rfl⟩
 by_cases h2:op=2
 · subst h2; exact ⟨rfl,rfl⟩
 by_cases h3:op=3
 · subst h3; exact ⟨rfl,rfl⟩
 by_cases h4:op=4
 · subst h4; exact ⟨rfl,rfl⟩
 by_cases h5:op=5
 · subst h5; exact ⟨rfl,rfl⟩
 by_cases h6:op=6
 · subst h6; exact ⟨rfl,rfl⟩
 by_cases h7:op=7
 · subst h7; exact ⟨rfl,rfl⟩
 by_cases h8:op=8
 · subst h8; exact ⟨rfl,rfl⟩
 by_cases h9:op=9
 · subst h9; exact ⟨rfl,rfl⟩
 by_cases eH:op=10
 · subst eH; exact ⟨rfl,rfl⟩
 by_cases pK:op=11
 · subst pK; exact ⟨rfl,rfl⟩
 by_cases pN:op=12
 · subst pN; exact ⟨rfl,rfl⟩
 by_cases iP:op=13
 · subst iP; exact ⟨rfl,rfl⟩
 by_cases lp:op=14
 · subst lp; exact ⟨rfl,rfl⟩
 by_cases IL:op=15
 · subst IL; exact ⟨rfl,rfl⟩
 have hn:dy op=none:=by
   unfold dy;rw [if_neg (by omega),if_neg h3,if_neg h4,if_neg h5,if_neg h6,if_neg (by omega)]
 have hf:bG op (gy 9) 0=none:=by
   show bG op [(1,vS false 0,0),(2,vS false 0,1),(3,vS true 0,2),(4,vS true 1,3),(5,vS true (-1),4),(6,vS false 1,5),(7,vS false 2,6),(8,vS false 2,7),(9,vS false 2,8),(10,vS false 2,9),(11,vS false 2,10),(12,vS false 2,11),(13,vS false 2,12),(14,vS false 2,13),(15,vS false 2,14)] 0=none
   simp [bG,h1,h2,h3,h4,h5,h6,h7,h8,h9,eH,pK,pN,iP,lp,IL]
 rw [dU,ow,hf,hn];exact ⟨O,O⟩
theorem Ww (op:Int):dU op iQ (vS false 0)=vS ((bB op).getD (false,0)).1 ((bB op).getD (false,0)).2/\ow op iQ = !(bB op).isNone:=by
 by_cases h1:op=1
 · subst h1; exact ⟨rfl,rfl⟩
 by_cases h2:op=2
 · subst h2; exact ⟨rfl,rfl⟩
 by_cases h3:op=3
 · subst h3; exact ⟨rfl,rfl⟩
 by_cases h4:op=4
 · subst h4; exact ⟨rfl,rfl⟩
 by_cases h5:op=5
 · subst h5; exact ⟨rfl,rfl⟩
 by_cases h6:op=6
 · subst h6; exact ⟨rfl,rfl⟩
 by_cases h7:op=7
 · subst h7; exact ⟨rfl,rfl⟩
 have hn:bB op=none:=by
   unfold bB;rw [if_neg h1,if_neg h2,if_neg h3,if_neg (by omega)]
 have hf:bG op iQ 0=none:=by simp [iQ,bG,h1,h2,h3,h4,h5,h6,h7]
 rw [dU,ow,hf,hn];exact ⟨O,O⟩
theorem Wx:∀a b:List Tx,aC (a++b)=aC a+aC b
 | [],b=>by apply aA.ext'<;>simp [aA.x7,aA.x8,aA.x9,aC,c0]
 | x::a,b=>by
   rw [List.cons_append,show ∀q,aC (x::q)=cj (!gw x)+aC q from λ_=>rfl,Wx a b,show ∀q,aC (x::q)=cj (!gw x)+aC q from λ_=>rfl,aA.gf]
theorem agD (s:Tx):aC [s]=cj (!gw s):=rfl
theorem agE {l:List Tx} {i:Nat} {s:Tx} (h:l[i]? = some s):aC (l.take (i+1))=aC (l.take i)+cj (!gw s):=by rw [lW h,Wx,agD]
theorem Bl (c:aA):c+c0=c:=rfl
theorem agF (c:aA):c.f<=c.bf:=by unfold aA.bf; omega
theorem agG (c:aA):c.m<=c.bf:=by unfold aA.bf; omega
theorem agH (c:aA):c.k<=c.bf:=by unfold aA.bf; omega
theorem dn:eS Tryz.prog 22 9 (st []) 1 16:=gW (by kernel_rfl)
theorem dY:dL Tryz.prog 22=some 1:=by kernel_rfl
theorem df:dI Tryz.prog 9=true:=by kernel_rfl
theorem agI:Enters Tryz.prog 192:=enters_of Tryz.func192 (by kernel_rfl) rfl
theorem agJ:Enters Tryz.prog 181:=enters_of Tryz.func181 (by kernel_rfl) rfl
theorem agK:Enters Tryz.prog 180:=enters_of Tryz.func180 (by kernel_rfl) rfl
theorem jX:Tryz.prog.underlying 3=some (.int .i64):=by kernel_rfl
theorem nQ:eR Tryz.prog 282=some [(0,1),(1,1)]:=by kernel_rfl
theorem kM:zeroOf Tryz.prog 282=some (.agg #[.bool false,.int .i64 0]):=by kernel_rfl
theorem lX:Tryz.prog.underlying 264=some (.map 3 282):=by kernel_rfl
theorem mixed:Tryz.prog.follows .mixedOrders=true:=by kernel_rfl
theorem yD:aX Tryz.prog 268 0=some 0:=by kernel_rfl
theorem yE:x2 Tryz.prog 266=some (10,1):=by kernel_rfl
theorem aq:dI Tryz.prog 3=true:=by kernel_rfl
theorem bX:cq Tryz.prog 3=some 1:=by kernel_rfl
theorem agL (w:World) :
   Calls Tryz.prog 181 #[] w λe w'=>∃r:Option Addr×Nat,e = .returned (.slice r.1 vZ.length r.2)/\Ext w w'/\Sl rdStr 1 (nv w w') r.1 r.2 vZ:=by
 refine enter Tryz.func181 O 2 O O ?_;refine CE (Vs:=[]) (Ws.init (by simp)) (Cs (Cr (V0 (Ya O) (Ln (Et (Cs (Cr ?_)))))));refine Lb Y O dn O O O O λb1=>?_;refine V0 (Ya O) (Ln (Et (az ?_)));refine WE.dJ (gd O (iH O)) λw' hw=>?_
 exact ⟨(some ⟨b1,0,none⟩,15),O,hw.fr,⟨show vZ.length<=15 by decide,show 15<=9223372036854775807 by decide,by simp,λj x hj=>⟨b1,0,O,λk v hk=>hw.Ta 0 O (by
     have:k<1:=(List.getElem?_eq_some_iff.1 hk).1
     show (vZ.flatMap d_)[0+j*1+k]? = some v
     rw [Nat.zero_add,pk oz hj this]; exact hk)⟩⟩⟩
theorem agM (H:View) (a:Option Addr) (c:Nat) (l:List Tx) (s:Tx) (w:World) (hH:Le H w) (hm:Sl rdStr 1 H a c l) :
   Calls Tryz.prog 192 #[.slice a l.length c,st s] w λe w'=>(∃n:Int,e = .returned (.int .i64 n)/\decide (0<=n)=l.contains s)/\Ext w w':=by
 have dQ:=hm.cap;have eB:=hm.max;refine enter Tryz.func192 O 19 O O ?_;refine CE (Vs:=[H]) (Ws.init (by simp [hH])) (Cs (Cr (V0 (Ya O) (Ln (Et (Cs (Cs (Cr (V0 (Ym O) (V0 (Yn dY O) (V0 (Ym O) (Ln (Et (Cb ?_))))))))))))));refine CW (ι:=Nat) (λi=>[(8,.int .i64 (i:Int))]) [(0,_),(1,_),(7,_)] (λi=>i<=l.length/\∀j,j<i->l[j]?≠some s) (λi=>l.length-i) 0 ⟨Nat.zero_le _,by simp⟩ (sc O (sc O (sc O (sc O sn)))) ?_;intro i ⟨hi,cg⟩;refine Cs (Cr (V0 (bq O O) (Ln (Et (Cs ?_)))));refine Cc O (λad=>?_) (λad=>?_)
 ·have aw:i<l.length:=by simpa using ad
  obtain ⟨x,bP⟩:∃x,l[i]? = some x:=⟨_,List.getElem?_eq_getElem aw⟩;obtain ⟨hZ,h_,ha,bJ⟩:=hm.aZ i x bP;have bJ:aT H hZ (h_+i*1) (d_ x):=bJ;refine Ck (Et (Cs (Cb (Cs (Cr (V0 (Ym O) (V0 (Ya O) (Ln (Et (Cs (Cr (V0 (Ym O) (V0 (Ym O) (V0 (Ym O) (V0 (Yo dY O O (by assumption) (by omega)) ?_)))))))))))))));refine V0 (dm 0 df O O (bJ 0 _ O)) (V0 (CT O O) (Ln (Et ?_)));refine Cc O (λar=>?_) (λar=>?_)
  ·have heq:s=x:=by simpa using ar
   refine Cs (Cr (V0 (Ym O) (V0 (Ya O) (Ln (Et (az (bR (Er (Er (bR (Er ?_)))))))))));refine R1 O O λw' hw=>?_;refine ⟨⟨_,O,?_⟩,hw.fr⟩;rw [decide_eq_true (by omega),List.contains_iff_mem.2 (by rw [heq]; exact List.mem_of_getElem? bP)]
  have dt:¬s=x:=by simpa using ar
  refine Ck (Eb (Et (Cr (V0 (Yi O O O (by omega)) (V0 (Ym O) (Ln ?_))))));exact Ea (i+1) (by omega) ⟨by omega,λj hj=>by rcases Nat.lt_succ_iff_lt_or_eq.1 hj with h | rfl; exact cg j h; rw [bP]; intro e; injection e with e; exact dt e.symm⟩ (sc rfl (sc rfl (sc rfl (sc rfl sn)))) (λ_ h=>h)
 have cz:¬i<l.length:=by simpa using ad
 have gK:l.contains s=false:=by
   rw [Bool.eq_false_iff];intro h;rw [List.contains_iff_mem] at h;obtain ⟨j,hj⟩:=List.getElem?_of_mem h;exact cg j (by have:=(List.getElem?_eq_some_iff.1 hj).1; omega) hj
 refine Ce (Ex (Ex (cf (Et (Cs (Cr (V0 (Ya O) (Ln (Et (az ?_))))))))));refine R1 O O λw' hw=>?_;refine ⟨⟨_,O,?_⟩,hw.fr⟩;rw [gK]; rfl
theorem agN (H:View) (a:Option Addr) (c:Nat) (l:List Tx) (s:Tx) (w:World) (hH:Le H w) (hm:Sl rdStr 1 H a c l) :
   Calls Tryz.prog 180 #[.slice a l.length c,st s] w λe w'=>e = .returned (.bool (l.contains s))/\Ext w w':=by
 refine enter Tryz.func180 O 9 O O ?_;refine CE (Vs:=[H]) (Ws.init (by simp [hH])) (Cs (Cr (V0 (Ya O) (Ln (Et (Cs (Cr (V0 (Ym O) (V0 (Ym O) ?_)))))))))
 refine Ld Y O agI O (λn:Int=>.int .i64 n) (λ_ n=>decide (0<=n)=l.contains s) (λw hw=>(agM H a c l s w (hw.vs _ (by simp)) hm).mono λe w' h=>by
     obtain ⟨⟨n,h1,h2⟩,h3⟩:=h
     exact ⟨n,h1,h3,h2⟩) ?_
 intro F7 n7 hf7 h7;refine V0 (fm O O) (V0 (Ya O) (Ln (Et (az ?_))));refine R1 O O λw' hw=>?_;exact ⟨by rw [h7],hw.fr⟩
theorem IM (s:Tx) (w:World) :
   Calls Tryz.prog 170 #[st s] w λe w'=>e = .returned (.bool (gw s))/\Ext w w':=by
 refine enter Tryz.func170 O 11 O O ?_;refine CE (Vs:=[]) (Ws.init (by simp)) (Cs (Cr (V0 (Ya O) (Ln (Et (Cs (Cr (V0 (Ym O) (Lp Y O rb O (λw hw=>ra _ w) (V0 (Ym O) ?_))))))))));apply La 4 O O O O Y O O O O O
 ·intro de;refine Ld (.g O O O) O agJ O (λr:Option Addr×Nat=>.slice r.1 vZ.length r.2) (λH r=>Sl rdStr 1 H r.1 r.2 vZ) (λw hw=>agL w) ?_;intro F6 r6 hf6 h6;refine Vg (Ym O) (Lp (.g O O O) O agK O (λw hw=>agN F6 r6.1 r6.2 vZ s w (hw.vs _ (by simp)) h6) (Vg (eu O) ?_));refine WL.wk ?_ (Gt 4 O O O);exact λ_ h=>Ws.bw (h) (λ_ hm=>List.mem_append_right [_] hm)
 refine V0 (Ya O) (Ln (Et (az ?_)));refine R1 O O λw' hw=>?_;exact ⟨O,hw.fr⟩
theorem agQ (w:World) :
   Calls Tryz.prog 149 #[] w λe w'=>∃b:Nat,e = .returned (.map (some b))/\Ws w [] [ab b (bn kI (gy 9) 15)] [] w':=by
 refine enter Tryz.func149 O 19 O O ?_;refine CE (Vs:=[]) (Ws.init (by simp)) (Cs (Cr (V0 (Ya O) (Ln (Et (Cs (Cr ?_)))))));refine WL.ss (λn:Int=>Value.int .i64 n) Y O λb3=>?_;refine V0 (Yb kM nQ O O) ?_;refine WL.mu 0 lJ Y lX jX O O O O ?_;refine V0 (Yb kM nQ O O) ?_;refine WL.mu 0 lJ Y lX jX O O O O ?_;refine V0 (Yb kM nQ O O) ?_;refine WL.mu 0 lJ Y lX jX O O O O ?_;refine V0 (Yb kM nQ O O) ?_;refine WL.mu 0 lJ Y lX jX O O O O ?_;refine V0 (Yb kM nQ O O) ?_;refine WL.mu 0 lJ Y lX jX O O O O ?_;refine V0 (Yb kM nQ O O) ?_;refine WL.mu 0 lJ Y lX jX O O O O ?_;refine V0 (Ym O) (bH 0 (bn kI (gy 0) (6+0)) O O (V0 (Ya O) (Ln (Et (Cs (Cs (Cr (V0 (Ya O) (Ln (Et (Cb ?_)))))))))));refine cU (ι:=Nat) (λi=>[(2,.int .i64 ((7+i:Nat):Int))]) [(0,_),(1,_)] (λi=>Ws w [] [ab b3 (bn kI (gy i) (6+i))] []) (λi=>i<=9) (λi=>9-i) 0 (Nat.zero_le _) (sc O (sc O (sc O sn))) (λ_ h=>h) ?_;intro i hi;refine Cs (Cs (Cr (V0 (Ym O) (V0 (ij O O) (Ln (Et ?_))))));refine Cc O (λad=>?_) (λad=>?_)
 ·have aw:i<9:=by simp at ad; omega
  refine Ck (Et (Cs (Cb (Cr (V0 (Ym O) (V0 (Ym O) (V0 (Yb kM nQ O O) ?_)))))));refine WL.vX 0 lJ Y lX jX O O O O ?_;refine Ln (Eb (Et (Cr (V0 (Ym O) (V0 (Ht (((7+i:Nat):Int)+1) O O O (by omega)) (V0 (Ya O) (Ln ?_)))))));rw [show (((7+i:Nat):Int)+1)=((7+(i+1):Nat):Int) by omega]
  exact Ea (i+1) (by omega) (by omega) (sc O (sc O (sc O sn))) (λ_ h=>by
    have h:=Ws.px h 0 rfl (congrArg (ab b3) (agC i aw))
    exact h)
 have mL:i=9:=by simp at ad; omega
 subst mL;refine Ce (Ex (Ex (cf (Et (Cs (Cr (V0 (Ym O) (V0 (Ya O) (Ln (Et (az ?_)))))))))));refine WE.dJ (gd O (iH O)) λw' hw=>?_;exact ⟨b3,O,hw⟩
theorem agR (w:World) :
   Calls Tryz.prog 150 #[] w λe w'=>∃b:Nat,e = .returned (.map (some b))/\Ws w [] [ab b (bn kI iQ 7)] [] w':=by
 refine enter Tryz.func150 O 10 O O ?_;refine CE (Vs:=[]) (Ws.init (by simp)) (Cs (Cr (V0 (Ya O) (Ln (Et (Cs (Cr ?_)))))));refine WL.ss (λn:Int=>Value.int .i64 n) Y O λb1=>?_;refine V0 (Yb kM nQ O O) ?_;refine WL.mu 0 lJ Y lX jX O O O O ?_;refine V0 (Yb kM nQ O O) ?_;refine WL.mu 0 lJ Y lX jX O O O O ?_;refine V0 (Yb kM nQ O O) ?_;refine WL.mu 0 lJ Y lX jX O O O O ?_;refine V0 (Yb kM nQ O O) ?_;refine WL.mu 0 lJ Y lX jX O O O O ?_;refine V0 (Yb kM nQ O O) ?_;refine WL.mu 0 lJ Y lX jX O O O O ?_;refine V0 (Yb kM nQ O O) ?_;refine WL.mu 0 lJ Y lX jX O O O O ?_;refine V0 (Yb kM nQ O O) ?_;refine WL.mu 0 lJ Y lX jX O O O O ?_;refine V0 (Ym O) (V0 (Ya O) (Ln (Et (az ?_))));refine WE.dJ (gd O (iH O)) λw' hw=>?_;exact ⟨b1,O,hw⟩
theorem wC (vb be bs:Nat) (c:aA) (b:Bool) (w:World) (hb:c.bf<=4611686018427387904) (hw:Ws w [vb] [ab vb (.cells #[.int .i64 0,.int .i64 ((c).f:Int),.int .i64 ((c).m:Int),.int .i64 0,.int .i64 ((c).k:Int),.int .i64 0,.int .i64 0,.int .i64 0,.int .i64 0,.int .i64 0,.map (some be),.map (some bs)] 268 (0,0))] [] w) :
   Calls Tryz.prog 152 #[.pointer (some ⟨vb,0,none⟩),.bool b,.int .i64 1] w λe w'=>e = .returned (.tuple #[])/\Ws w [vb] [ab vb (.cells #[.int .i64 0,.int .i64 ((c+cj b).f:Int),.int .i64 ((c+cj b).m:Int),.int .i64 0,.int .i64 ((c+cj b).k:Int),.int .i64 0,.int .i64 0,.int .i64 0,.int .i64 0,.int .i64 0,.map (some be),.map (some bs)] 268 (0,0))] [] w':=by
 have hf:=agF c;refine enter Tryz.func152 O 17 O O ?_;refine CE hw (Cs (Cr (V0 (Ym O) (Ln (Et ?_)))));refine Cc O (λad=>?_) (λad=>?_)
 ·subst ad;refine WC.nq 0 [(0,true),(1,true),(2,true),(3,true),(4,true),(7,true),(8,true),(5,false),(6,true),(9,true),(10,false)] mixed (by kernel_rfl) (λ_ _ _ d _ h=>by cases d<;>exact h) ?_;refine D0 O (Wp 0) (Ym O) (D0 O (Wp 0) (Ym O) (D0 O (Wp 0) (aO O) (D0 O (Wp 0) (Yf yD O) (D0 O (Wp 0) (x3 (i:=1) yE O O (by decide)) (D0 O (Wp 0) (aO O) (D0 O (Wp 0) (Yf yD O) ?_))))));refine De O (Wp 0) ?_;refine V0 (Yd 0 O O O aq) (Ln (Ed (D0 O (Wp 0) (Yi O O O (by omega)) (D0 O (Wp 0) (x3 (i:=1) yE O O (by decide)) ?_))));refine De O (Wp 0) ?_;refine an 0 Y O O O bX O O O (Ln (Ed ?_));refine WD.nil (Wp 0) ?_;refine E0 O λw' hw=>?_;exact ⟨O,hw⟩
 subst ad;refine Ck ?_;refine E0 O λw' hw=>?_;exact ⟨O,hw⟩
theorem Bm (vb be bs:Nat) (c:aA) (b:Bool) (w:World) (hb:c.bf<=4611686018427387904) (hw:Ws w [vb] [ab vb (.cells #[.int .i64 0,.int .i64 ((c).f:Int),.int .i64 ((c).m:Int),.int .i64 0,.int .i64 ((c).k:Int),.int .i64 0,.int .i64 0,.int .i64 0,.int .i64 0,.int .i64 0,.map (some be),.map (some bs)] 268 (0,0))] [] w) :
   Calls Tryz.prog 152 #[.pointer (some ⟨vb,0,none⟩),.bool b,.int .i64 2] w λe w'=>e = .returned (.tuple #[])/\Ws w [vb] [ab vb (.cells #[.int .i64 0,.int .i64 ((c+bg b).f:Int),.int .i64 ((c+bg b).m:Int),.int .i64 0,.int .i64 ((c+bg b).k:Int),.int .i64 0,.int .i64 0,.int .i64 0,.int .i64 0,.int .i64 0,.map (some be),.map (some bs)] 268 (0,0))] [] w':=by
 have hm:=agG c;refine enter Tryz.func152 O 17 O O ?_;refine CE hw (Cs (Cr (V0 (Ym O) (Ln (Et ?_)))));refine Cc O (λad=>?_) (λad=>?_)
 ·subst ad;refine WC.nq 0 [(0,true),(1,true),(2,true),(3,true),(4,true),(7,true),(8,true),(5,false),(6,true),(9,true),(10,false)] mixed (by kernel_rfl) (λ_ _ _ d _ h=>by cases d<;>exact h) ?_;refine D0 O (Wp 0) (Ym O) (D0 O (Wp 0) (Ym O) (D0 O (Wp 0) (aO O) (D0 O (Wp 0) (Yf yD O) (D0 O (Wp 0) (x3 (i:=2) yE O O (by decide)) (D0 O (Wp 0) (aO O) (D0 O (Wp 0) (Yf yD O) ?_))))));refine De O (Wp 0) ?_;refine V0 (Yd 0 O O O aq) (Ln (Ed (D0 O (Wp 0) (Yi O O O (by omega)) (D0 O (Wp 0) (x3 (i:=2) yE O O (by decide)) ?_))));refine De O (Wp 0) ?_;refine an 0 Y O O O bX O O O (Ln (Ed ?_));refine WD.nil (Wp 0) ?_;refine E0 O λw' hw=>?_;exact ⟨O,hw⟩
 subst ad;refine Ck ?_;refine E0 O λw' hw=>?_;exact ⟨O,hw⟩
theorem Od (vb be bs:Nat) (c:aA) (b:Bool) (w:World) (hb:c.bf<=4611686018427387904) (hw:Ws w [vb] [ab vb (.cells #[.int .i64 0,.int .i64 ((c).f:Int),.int .i64 ((c).m:Int),.int .i64 0,.int .i64 ((c).k:Int),.int .i64 0,.int .i64 0,.int .i64 0,.int .i64 0,.int .i64 0,.map (some be),.map (some bs)] 268 (0,0))] [] w) :
   Calls Tryz.prog 152 #[.pointer (some ⟨vb,0,none⟩),.bool b,.int .i64 4] w λe w'=>e = .returned (.tuple #[])/\Ws w [vb] [ab vb (.cells #[.int .i64 0,.int .i64 ((c+cA b).f:Int),.int .i64 ((c+cA b).m:Int),.int .i64 0,.int .i64 ((c+cA b).k:Int),.int .i64 0,.int .i64 0,.int .i64 0,.int .i64 0,.int .i64 0,.map (some be),.map (some bs)] 268 (0,0))] [] w':=by
 have hk:=agH c;refine enter Tryz.func152 O 17 O O ?_;refine CE hw (Cs (Cr (V0 (Ym O) (Ln (Et ?_)))));refine Cc O (λad=>?_) (λad=>?_)
 ·subst ad;refine WC.nq 0 [(0,true),(1,true),(2,true),(3,true),(4,true),(7,true),(8,true),(5,false),(6,true),(9,true),(10,false)] mixed (by kernel_rfl) (λ_ _ _ d _ h=>by cases d<;>exact h) ?_;refine D0 O (Wp 0) (Ym O) (D0 O (Wp 0) (Ym O) (D0 O (Wp 0) (aO O) (D0 O (Wp 0) (Yf yD O) (D0 O (Wp 0) (x3 (i:=4) yE O O (by decide)) (D0 O (Wp 0) (aO O) (D0 O (Wp 0) (Yf yD O) ?_))))));refine De O (Wp 0) ?_;refine V0 (Yd 0 O O O aq) (Ln (Ed (D0 O (Wp 0) (Yi O O O (by omega)) (D0 O (Wp 0) (x3 (i:=4) yE O O (by decide)) ?_))));refine De O (Wp 0) ?_;refine an 0 Y O O O bX O O O (Ln (Ed ?_));refine WD.nil (Wp 0) ?_;refine E0 O λw' hw=>?_;exact ⟨O,hw⟩
 subst ad;refine Ck ?_;refine E0 O λw' hw=>?_;exact ⟨O,hw⟩
theorem Oe:∀l:List Tx,(aC l).bf<=l.length
 | []=>Nat.le_refl _
 | s::r=>by
   have:=Oe r; have:=lM (!gw s);rw [show aC (s::r)=cj (!gw s)+aC r from rfl,aA.cJ,List.length_cons];omega
theorem Of (n:Nat):decide ((3:Int)<(n:Int))=decide (3<n):=by rw [Bool.eq_iff_iff]; simp; omega
theorem Wy (x:ax) (d:Nat):iI x d=if 6<d then ⟨0,1,0⟩ else cA (dy x.op).isNone+cK ((dy x.op).getD (false,0)) x.mod x.nm x.args.length+cj (k7 x.op x.n)+bW x.args (d+1):=by
 cases x; rw [iI]; rfl
theorem Wz (d:Nat):∀a b:List ax,bW (a++b) d=bW a d+bW b d
 | [],b=>by apply aA.ext'<;>simp [aA.x7,aA.x8,aA.x9,bW,c0]
 | x::a,b=>by
   rw [List.cons_append,show ∀q,bW (x::q) d=iI x d+bW q d from λq=>by rw [bW],Wz d a b,show ∀q,bW (x::q) d=iI x d+bW q d from λq=>by rw [bW],aA.gf]
theorem WA {l:List ax} {i:Nat} {x:ax} (d:Nat) (h:l[i]? = some x):bW (l.take (i+1)) d=bW (l.take i) d+iI x d:=by
 rw [lW h,Wz,show bW [x] d=iI x d+c0 by rw [bW,bW],Bl]
theorem WG:∀(l:List ax) (i:Nat),dG (l.take i)<=dG l
 | [],i=>by simp
 | x::r,0=>by simp [dG]
 | x::r,i+1=>by have:=WG r i; simp only [List.take_succ_cons,dG]; omega
theorem WH {l:List ax} {i:Nat} {x:ax} (h:l[i]? = some x):dG (l.take i)+wE x<=dG l:=by
 have h2:=WG l (i+1);rw [lW h] at h2
 have:∀a b:List ax,dG (a++b)=dG a+dG b:=by
   intro a b
   induction a with
   | nil=>simp [dG]
   | cons y a ih=>simp only [List.cons_append,dG,ih]; omega
 rw [this] at h2;simp only [dG] at h2;omega
theorem IN (x:aP) (d:Nat):ui x d=cA (bB x.op).isNone+cK ((bB x.op).getD (false,0)) x.mod x.nm x.args.length+bW x.args 1+cj (gN x.op x.body.length x.other.length)
     + (if (inner x.op||decide (0<x.body.length))=true then cZ x.body (d+1) else c0)+(if 0<x.other.length then cZ x.other (d+1) else c0):=by
 cases x; rw [ui]; rfl
theorem WI (d:Nat):∀a b:List aP,bM (a++b) d=bM a d+bM b d
 | [],b=>by apply aA.ext'<;>simp [aA.x7,aA.x8,aA.x9,bM,c0]
 | x::a,b=>by
   rw [List.cons_append,show ∀q,bM (x::q) d=ui x d+bM q d from λq=>by rw [bM],WI d a b,show ∀q,bM (x::q) d=ui x d+bM q d from λq=>by rw [bM],aA.gf]
theorem IP {l:List aP} {i:Nat} {x:aP} (d:Nat) (h:l[i]? = some x):bM (l.take (i+1)) d=bM (l.take i) d+ui x d:=by
 rw [lW h,WI,show bM [x] d=ui x d+c0 by rw [bM,bM],Bl]
theorem WJ:∀(l:List aP) (i:Nat),cP (l.take i)<=cP l
 | [],i=>by simp
 | x::r,0=>by simp [cP]
 | x::r,i+1=>by have:=WJ r i; simp only [List.take_succ_cons,cP]; omega
theorem agS {l:List aP} {i:Nat} {x:aP} (h:l[i]? = some x):cP (l.take i)+wS x<=cP l:=by
 have h2:=WJ l (i+1);rw [lW h] at h2
 have:∀a b:List aP,cP (a++b)=cP a+cP b:=by
   intro a b
   induction a with
   | nil=>simp [cP]
   | cons y a ih=>simp only [List.cons_append,cP,ih]; omega
 rw [this] at h2;simp only [cP] at h2;omega
theorem IQ:Enters Tryz.prog 170:=enters_of Tryz.func170 (by kernel_rfl) rfl
theorem lq:Enters Tryz.prog 152:=enters_of Tryz.func152 (by kernel_rfl) rfl
theorem D5:aX Tryz.prog 217 1=some 1:=by kernel_rfl
theorem Bn:Enters Tryz.prog 151:=enters_of Tryz.func151 (by kernel_rfl) rfl
theorem Bo:aX Tryz.prog 217 0=some 0:=by kernel_rfl
theorem uZ:aX Tryz.prog 217 3=some 3:=by kernel_rfl
theorem WK:aX Tryz.prog 282 0=some 0:=by kernel_rfl
theorem yF:dI Tryz.prog 4=true:=by kernel_rfl
theorem WM:aX Tryz.prog 282 1=some 1:=by kernel_rfl
theorem Bp (vb be bs:Nat) (H:View) (a:Option Addr) (n:Nat) (l:List Tx) (c:aA) (w:World) (hm:Sl rdStr 1 H a n l) (hb:c.bf+l.length<=4611686018427387904) (hw:Ws w [vb] [ab vb (.cells #[.int .i64 0,.int .i64 ((c).f:Int),.int .i64 ((c).m:Int),.int .i64 0,.int .i64 ((c).k:Int),.int .i64 0,.int .i64 0,.int .i64 0,.int .i64 0,.int .i64 0,.map (some be),.map (some bs)] 268 (0,0))] [H] w) :
   Calls Tryz.prog 151 #[.pointer (some ⟨vb,0,none⟩),.slice a l.length n] w λe w'=>e = .returned (.tuple #[])/\Ws w [vb] [ab vb (.cells #[.int .i64 0,.int .i64 ((c+aC l).f:Int),.int .i64 ((c+aC l).m:Int),.int .i64 0,.int .i64 ((c+aC l).k:Int),.int .i64 0,.int .i64 0,.int .i64 0,.int .i64 0,.int .i64 0,.map (some be),.map (some bs)] 268 (0,0))] [H] w':=by
 have dQ:=hm.cap;have eB:=hm.max;refine enter Tryz.func151 O 18 O O ?_;refine CE hw (Cs (Cr (V0 (Ym O) (V0 (Yn dY O) (V0 (Ym O) (Ln (Et (Cb ?_))))))));refine cU (ι:=Nat) (λi=>[(8,.int .i64 (i:Int))]) [(0,_),(6,_),(7,_)] (λi=>Ws w [vb] [ab vb (.cells #[.int .i64 0,.int .i64 ((c+aC (l.take i)).f:Int),.int .i64 ((c+aC (l.take i)).m:Int),.int .i64 0,.int .i64 ((c+aC (l.take i)).k:Int),.int .i64 0,.int .i64 0,.int .i64 0,.int .i64 0,.int .i64 0,.map (some be),.map (some bs)] 268 (0,0))] [H]) (λi=>i<=l.length) (λi=>l.length-i) 0 (Nat.zero_le _) (sc O (sc O (sc O (sc O sn)))) (λ_ h=>h) ?_;intro i hi;refine Cs (Cr (V0 (bq O O) (Ln (Et (Cs ?_)))));refine Cc O (λad=>?_) (λad=>?_)
 ·have aw:i<l.length:=by simpa using ad
  obtain ⟨x,bP⟩:∃x,l[i]? = some x:=⟨_,List.getElem?_eq_getElem aw⟩;obtain ⟨hZ,h_,ha,bJ⟩:=hm.aZ i x bP;have bJ:aT H hZ (h_+i*1) (d_ x):=bJ
  have e2:c+aC (l.take i)+cj (!gw x)=c+aC (l.take (i+1)):=by rw [agE bP,aA.gf]
  have lI:(c+aC (l.take i)).bf<=4611686018427387904:=by
    rw [aA.cJ];have:=Oe (l.take i);simp at this;omega
  refine Ck (Et (Cs (Cb (Cs (Cr (V0 (Yo dY O O (by assumption) (by omega)) (V0 (dm 0 df O O (bJ 0 _ O)) (V0 (Ya O) (Ln (Et (Cr (V0 (Ym O) (V0 (Ym O) (Lp Y O IQ O (λw hw=>IM _ w) ?_))))))))))))));refine V0 (eu O) (eT [_] _ _ Y O lq O O [] (by simp) (λw hw=>wC vb be bs (c+aC (l.take i)) (!gw x) w (lI) hw) (Ln (Eb (Et (Cr (V0 (Yi O O O (by omega)) (V0 (Ym O) (Ln ?_))))))));rw [e2];exact Ea (i+1) (by omega) (by omega) (sc O (sc O (sc O (sc O sn)))) (λ_ h=>h)
 have cz:¬i<l.length:=by simpa using ad
 have hT:l.take i=l:=List.take_of_length_le (by omega);rw [hT];refine Ce (Ex (Ex (cf ?_)));refine E0 O λw' hw=>?_;exact ⟨O,hw⟩
theorem agT (vb be bs:Nat) (d:bI) (c:aA) (w:World) (hb:c.bf+4<=4611686018427387904) (hw:Ws w [vb] [ab vb (.cells #[.int .i64 0,.int .i64 ((c).f:Int),.int .i64 ((c).m:Int),.int .i64 0,.int .i64 ((c).k:Int),.int .i64 0,.int .i64 0,.int .i64 0,.int .i64 0,.int .i64 0,.map (some be),.map (some bs)] 268 (0,0))] [] w) :
   Calls Tryz.prog 153 #[.pointer (some ⟨vb,0,none⟩),.agg #[.int .i64 d.kind,st d.nm,.bool d.aR,.int .i64 d.n]] w λe w'=>e = .returned (.tuple #[])/\Ws w [vb] [ab vb (.cells #[.int .i64 0,.int .i64 ((c+gO d).f:Int),.int .i64 ((c+gO d).m:Int),.int .i64 0,.int .i64 ((c+gO d).k:Int),.int .i64 0,.int .i64 0,.int .i64 0,.int .i64 0,.int .i64 0,.map (some be),.map (some bs)] 268 (0,0))] [] w':=by
 have lI:(c+aC [d.nm]).bf<=4611686018427387904:=by
   rw [aA.cJ];have:=Oe [d.nm];simp at this;omega
 refine enter Tryz.func153 O 44 O O ?_;refine CE hw (Cs (Cr ?_));refine WL.box Y O O λb3=>?_;refine Ln (Et (Cs (Cr (V0 (Ym O) (V0 (Yf D5 O) (V0 (Yd 0 O O O df) ?_))))));refine Lb Y O dn O O O O λb7=>?_;refine fC (T:=9) (m:=1) 0 [d.nm] O O (show 1<=1 by decide) (by decide) λH7 Og=>?_;refine Lf 1 O (eT [_] _ [ab vb (.cells #[.int .i64 0,.int .i64 ((c+aC [d.nm]).f:Int),.int .i64 ((c+aC [d.nm]).m:Int),.int .i64 0,.int .i64 ((c+aC [d.nm]).k:Int),.int .i64 0,.int .i64 0,.int .i64 0,.int .i64 0,.int .i64 0,.map (some be),.map (some bs)] 268 (0,0))] Y O Bn O O [H7] (by simp) (λw hw=>Bp vb be bs H7 _ _ [d.nm] (c) w Og (by show c.bf+1<=_; omega) hw) (Ln (Et (Cs (Cr (V0 (Yf Bo O) (V0 (Yd 1 O O O aq) (Ln (Et (Cb (Cs (Cr (V0 (aG O O) (V0 (Ya O) ?_))))))))))))));refine Ln (Et ?_);refine Cc O (λad=>?_) (λad=>?_)
 ·have hk:d.kind=1:=by simpa using ad
  have e2:∀b,(b=(decide (d.n<0)||decide (1099511627775<d.n)))->c+aC [d.nm]+cj b=c+gO d:=λb hb=>by rw [hb,gO,if_pos hk,aA.gf]
  refine Cr (V0 (Ym O) (V0 (Yf uZ O) (V0 (Yd 1 O O O aq) (V0 (bq O O) (V0 (Ym O) ?_)))));apply Lo 3 O O O O Y O O O O O
  ·intro de;refine Vg (Yf uZ O) (Vg (Yd 1 O O O aq) (Vg (bZ O O) ?_));exact Gt 3 O O O
  refine eT [_] _ _ Y O lq O O [] (by simp) (λw hw=>wC vb be bs (c+aC [d.nm]) (decide (d.n<0)||decide (1099511627775<d.n)) w (lI) hw) (Ln (Eb ?_));refine E0 O λw' hw=>?_;rw [e2 _ rfl] at hw;exact ⟨O,Wv 1 (Wt 1 hw)⟩
 have hk:¬d.kind=1:=by simpa using ad
 refine Cs (Cr (V0 (aG O O) (V0 (Ya O) (Ln (Et ?_)))));refine Cc O (λar=>?_) (λar=>?_)
 ·have eI:d.kind=2:=by simpa using ar
  have e2:∀b,(b=(!(d.n==0)))->c+aC [d.nm]+cj b=c+gO d:=λb hb=>by rw [hb,gO,if_neg hk,if_pos eI,aA.gf]
  refine Cr (V0 (Ym O) (V0 (Yf uZ O) (V0 (Yd 1 O O O aq) (V0 (jq O O) (eT [_] _ _ Y O lq O O [] (by simp) (λw hw=>wC vb be bs (c+aC [d.nm]) (!(d.n==0)) w (lI) hw) (Ln (Eb ?_)))))));refine E0 O λw' hw=>?_;rw [e2 _ rfl] at hw;exact ⟨O,Wv 1 (Wt 1 hw)⟩
 have eI:¬d.kind=2:=by simpa using ar
 refine Cs (Cr (V0 (aG O O) (V0 (Ya O) (Ln (Et ?_)))));refine Cc O (λay=>?_) (λay=>?_)
 ·have re:d.kind=3:=by simpa using ay
  have e2:∀b,(b=(decide (d.n<1)||decide (32<d.n)))->c+aC [d.nm]+cj b=c+gO d:=λb hb=>by rw [hb,gO,if_neg hk,if_neg eI,if_pos re,aA.gf]
  refine Cr (V0 (Ym O) (V0 (Yf uZ O) (V0 (Yd 1 O O O aq) (V0 (bq O O) (V0 (Ym O) ?_)))));apply Lo 3 O O O O Y O O O O O
  ·intro bK;refine Vg (Yf uZ O) (Vg (Yd 1 O O O aq) (Vg (bZ O O) ?_));exact Gt 3 O O O
  refine eT [_] _ _ Y O lq O O [] (by simp) (λw hw=>wC vb be bs (c+aC [d.nm]) (decide (d.n<1)||decide (32<d.n)) w (lI) hw) (Ln (Eb ?_));refine E0 O λw' hw=>?_;rw [e2 _ rfl] at hw;exact ⟨O,Wv 1 (Wt 1 hw)⟩
 have re:¬d.kind=3:=by simpa using ay
 have e2:∀b,(b=true)->c+aC [d.nm]+cA b=c+gO d:=λb hb=>by rw [hb,gO,if_neg hk,if_neg eI,if_neg re,aA.gf]
 refine Cr (V0 (Ym O) (eT [_] _ _ Y O lq O O [] (by simp) (λw hw=>Od vb be bs (c+aC [d.nm]) (true) w (lI) hw) (Ln (Eb ?_))));refine E0 O λw' hw=>?_;rw [e2 _ rfl] at hw;exact ⟨O,Wv 1 (Wt 1 hw)⟩
theorem WN (vb be bs:Nat) (r:Bool) (a:Int) (mod nm:Tx) (len:Nat) (c:aA) (w:World) (hb:c.bf+4<=4611686018427387904) (hl:mod.length+nm.length<=9223372036854775807) (hw:Ws w [vb] [ab vb (.cells #[.int .i64 0,.int .i64 ((c).f:Int),.int .i64 ((c).m:Int),.int .i64 0,.int .i64 ((c).k:Int),.int .i64 0,.int .i64 0,.int .i64 0,.int .i64 0,.int .i64 0,.map (some be),.map (some bs)] 268 (0,0))] [] w) :
   Calls Tryz.prog 173 #[.pointer (some ⟨vb,0,none⟩),.agg #[.bool r,.int .i64 a],st mod,st nm,.int .i64 (len:Int)] w λe w'=>e = .returned (.tuple #[])/\Ws w [vb] [ab vb (.cells #[.int .i64 0,.int .i64 ((c+cK (r,a) mod nm len).f:Int),.int .i64 ((c+cK (r,a) mod nm len).m:Int),.int .i64 0,.int .i64 ((c+cK (r,a) mod nm len).k:Int),.int .i64 0,.int .i64 0,.int .i64 0,.int .i64 0,.int .i64 0,.map (some be),.map (some bs)] 268 (0,0))] [] w':=by
 have h1:(c+cj (py r mod nm)).bf<=4611686018427387904:=by rw [aA.cJ]; have:=lM (py r mod nm); omega
 have h2:(c+cj (py r mod nm)+cj (sv a len)).bf<=4611686018427387904:=by rw [aA.cJ,aA.cJ]; have:=lM (py r mod nm); have:=lM (sv a len); omega
 have e3:c+cj (py r mod nm)+cj (sv a len)+bg (decide (3<len))=c+cK (r,a) mod nm len:=by rw [cK,aA.gf,aA.gf,aA.gf]
 refine enter Tryz.func173 O 54 O O ?_;refine CE hw (Cs (Cr ?_));refine WL.box Y O O λb6=>?_;refine Ln (Et (Cs (Cr (V0 (Ym O) (V0 (Yf WK O) (V0 (Yd 0 O O O yF) (V0 (Ym O) ?_)))))));apply La 12 O O O O Y O O O O O
 ·intro de;refine Vg (Ym O) (Vg (Mc O O) (Vg (Ym O) ?_));apply La 3 O O O O (.g O O O) O O O O O
  ·intro bK;refine Vg (Ym O) (Lp (.g O O O) O IQ O (λw hw=>IM _ w) (Vg (eu O) ?_));exact Gt 3 O O O
  refine Vg (Ym O) ?_;apply Lo 3 O O O O (.g O O O) O O O O O
  ·intro hY;refine Vg (Ym O) (Lp (.g O O O) O IQ O (λw hw=>IM _ w) (Vg (eu O) ?_));exact Gt 3 O O O
  exact Gt 6 O O O
 refine V0 (Ym O) ?_;apply Lo 9 O O O O Y O O O O O
 ·intro mM;refine Vg (Yf WK O) (Vg (Yd 0 O O O yF) (Vg (eu O) (Vg (Ym O) ?_)));apply La 4 O O O O (.g O O O) O O O O O
  ·intro yG;refine Vg (Ym O) (Vg (Ym O) (Vg (ab_ O O hl) (Vg (Mc O O) ?_)));exact Gt 4 O O O
  exact Gt 5 O O O
 refine Lf 1 O (eT [_] _ _ Y O lq O O [] (by simp) (λw hw=>wC vb be bs (c) (py r mod nm) w (by omega) hw) (Ln (Et (Cs (Cr (V0 (Ym O) (V0 (Yf WM O) (V0 (Yd 1 O O O aq) (V0 (fm O O) (V0 (Ym O) ?_))))))))));apply La 4 O O O O Y O O O O O
 ·intro pO;refine Vg (Ym O) (Vg (Yf WM O) (Vg (Yd 1 O O O aq) (Vg (jq O O) ?_)));exact Gt 4 O O O
 refine eT [_] _ _ Y O lq O O [] (by simp) (λw hw=>wC vb be bs (c+cj (py r mod nm)) (sv a len) w (h1) hw) (Ln (Et (Cr (V0 (Ym O) (V0 (Ym O) (V0 (bZ O O) ?_))))));rw [Of];refine eT [_] _ _ Y O lq O O [] (by simp) (λw hw=>Bm vb be bs (c+cj (py r mod nm)+cj (sv a len)) (decide (3<len)) w (h2) hw) (Ln ?_);refine E0 O λw' hw=>?_;rw [e3] at hw;exact ⟨O,Wt 1 hw⟩
end Go.Proofs.YtplfmnkmlaolpaaGreatDoor
end
