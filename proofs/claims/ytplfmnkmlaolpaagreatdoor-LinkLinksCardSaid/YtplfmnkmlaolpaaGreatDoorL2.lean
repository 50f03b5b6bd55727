/- LinkLinks: Check and Link answer just what the document says, errors too, whatever they are handed. -/
import Derived.Ground.Names2Prog
import Derived.Ground.SlgnProg
import Derived.Lib.AtoiErrMem
import Derived.Maps.Own
import Derived.Maps.Range
import Derived.Shelf.LaysC
import Derived.Shelf.LaysM
import Derived.Shelf.Slices.Clone
import Derived.Shelf.SlicesE.Clone
import Derived.Shelf.Small.Strs
import Derived.Shelf.Strconv.Atoi
import Derived.Shelf.Strconv.AtoiAll
import Derived.Shelf.Strconv.AtoiErrFast
import Derived.Shelf.Strconv.AtoiFail
import Derived.Shelf.Strconv.AtoiInnerAll
import Derived.Shelf.Strconv.AtoiLong
import Derived.Shelf.Strconv.Clone
import Derived.Shelf.Strconv.Itoa0
import Derived.Shelf.Strconv.Itoa1
import Derived.Shelf.Strconv.Itoa2
import Derived.Shelf.Strconv.Itoa3
import Derived.Shelf.Strconv.Lower
import Derived.Shelf.Strconv.ParseInt10
import Derived.Shelf.Strconv.ParseIntEmpty
import Derived.Shelf.Strconv.ParseUint10
import Derived.Shelf.Strconv.ParseUint10Any
import Derived.Shelf.Strconv.ParseUint10Empty
import Derived.Shelf.Strconv.RangeError
import Derived.Shelf.Strconv.SyntaxError
import Derived.Shelf.Strconv.ToError
import Derived.Shelf.Strconv.ToErrorRange
import Derived.Shelf.Strings.Builder1
import Derived.Shelf.Strings.Search1
import Derived.Sort.KeysCollected
import Derived.Test.YtplfmnkmlaolpaaGreatDoorProg
import Derived.Test.YtplfmnkmlaolpaaGreatDoorRows
import Derived.Test.YtplfmnkmlaolpaaGreatDoorL1
set_option linter.unusedVariables false
set_option linter.unusedSimpArgs false
section
namespace Go.Bw
open Go Go.RowKit
section
variable {P:Program} {ops:Array Oper} {C:World->Prop} {Q:Exit->Act->World->Prop} {n:Nat} {ds:List Deferred} {l:List (Nat×Value)} {W:World->Prop}
theorem ae_ {a:Act} {l2:List (Nat×Value)} {o:Oper} {r:List Oper} (hs:lH ops l (o::r)=some l2) (ha:Ag n ds l a) :
   ∃d,o.dst=some d/\Region.wanted o (yielded ops a.tmps)=false/\lH ops ((d,undef)::l) r=some l2:=by
 simp only [lH] at hs
 cases hg:o.guard with
 | none=>simp [hg] at hs
 | some jb=>
   obtain ⟨j,b⟩:=jb
   cases hd:o.dst with
   | none=>simp [hg,hd] at hs
   | some d=>
     simp only [hg,hd] at hs
     cases hj:(ops[j]?).bind (·.dst) with
     | none=>simp [hj] at hs
     | some dj=>
       simp only [hj] at hs
       cases hl:lk l dj with
       | none=>simp [hl] at hs
       | some v=>
         simp only [hl] at hs;have hv:=ha.gd dj v hl
         cases v with
         | bool b'=>
           cases hb:(b' != b) with
           | false=>simp [hb] at hs
           | true=>
             simp only [hb,cond_true] at hs;refine ⟨d,O,?_,hs⟩;have vg:=T9 ha hl (.inl (by simp [undef]))
             have hy:yielded ops a.tmps j=some b':=by simp [yielded,hj,vg]
             simp only [Region.wanted,hg,hy]
             cases b<;>cases b'<;>first | rfl | (simp at hb)
         | tuple vs=>
           refine ⟨d,O,?_,hs⟩
           have hy:yielded ops a.tmps j=none:=by
             simp only [yielded,hj,Option.bind_some];rw [Array.getD_eq_getD_getElem?] at hv
             cases ht:a.tmps[dj]? with
             | none=>rfl
             | some u=>simp [ht] at hv; simp [hv]
           simp [Region.wanted,hg,hy]
         | _=>simp at hs
def opsOf (ops:Array Oper):List (Nat×Bool)->Option (List Oper)
 | []=>some []
 | (i,_)::r=>match ops[i]?,opsOf ops r with
   | some o,some t=>some (o::t)
   | _,_=>none
theorem WD.Nn {gs rest:List (Nat×Bool)}:∀{os:List Oper} {l2 l:List (Nat×Value)},opsOf ops gs=some os->lH ops l os=some l2->tq n os=true->(∀w,W w->C w)->(∀a w,Ag n ds l2 a->W w->nT P ops C Q rest a w)->
   ∀a w,Ag n ds l a->W w->nT P ops C Q (gs++rest) a w:=by
 induction gs with
 | nil=>
   intro os l2 l ho hs _ _ h a w ha hw
   injection ho with ho
   subst ho;simp [lH] at hs; subst hs; exact h a w ha hw
 | cons p r ih=>
   obtain ⟨i,q⟩:=p;intro os l2 l ho hs eL hC h a w ha hw;unfold opsOf at ho
   cases hi:ops[i]? with
   | none=>rw [hi] at ho; cases ho
   | some o=>
     cases ht:opsOf ops r with
     | none=>rw [hi,ht] at ho; cases ho
     | some t=>
       rw [hi,ht] at ho
       injection ho with ho
       subst ho;obtain ⟨d,hd,N7,IK⟩:=ae_ hs ha;simp only [tq,List.all_cons,Bool.and_eq_true] at eL
       have No:Nat.blt d n=true:=by have:=eL.1; rw [hd] at this; exact this
       have oe:=ih ht IK eL.2 hC h (a.put (some d) undef) w (ha.put No undef) hw
       cases q with
       | true=>exact ⟨hC w hw,o,undef,hi,.inr ⟨N7,rfl⟩,by rw [hd]; exact oe⟩
       | false=>
         refine ⟨hC w hw,?_⟩;unfold wpOp;simp only [hi,N7,Bool.false_eq_true,if_false];rw [hd];exact oe
theorem afa {i:Nat} {K K':Act->World->Prop} {Kx:Act->World->Prop} (hk:∀a w,K a w->K' a w) {a:Act} {w:World} (h:wpOp P ops (Exit.then Kx Q) i K a w):wpOp P ops Q i K' a w:=by
 unfold wpOp at h ⊢
 cases hi:ops[i]? with
 | none=>simp only [hi] at h ⊢; exact hk _ _ h
 | some o=>
   simp only [hi] at h ⊢
   split
   · rename_i hw
     rw [if_pos hw] at h
     rcases h with h | ⟨h1,a2,w2,h2⟩
     · left
       unfold Oper.wp at h ⊢;unfold Oper.upon at h ⊢
       split at h
       all_goals first
         | exact hk _ _ h
         | exact h
         | (refine h.mono λe w' he=>?_
            cases e with
            | returned v=>exact hk _ _ he
            | panicked ch=>exact he
            | outgrown=>obtain ⟨a3,w3,h3⟩:=he; exact ⟨a3,w3,h3⟩)
         | exact h.mono λv w' he=>hk _ _ he
     · exact .inr ⟨h1,a2,w2,h2⟩
   · rename_i hw
     rw [if_neg hw] at h;exact hk _ _ h
theorem Gi {l':List (Nat×Value)} {dx:Nat} {x:Value} (m:Nat) (hC:∀w,W w->C w) (hx:lk l' dx=some x) (hd:l'.drop m=l) (hf:pV (l'.take m) l=true):WD P ops C (tr Q n ds l W dx x) n ds l' W []:=
 λ_ w ha hw=>⟨hC w hw,⟨ha.IJ m hd hf,ha.gd _ _ hx⟩,hw⟩
theorem afb {gs rest:List (Nat×Bool)} {dx:Nat} {x:Value} (hK:∀a w,(Ag n ds l a/\a.tmps.getD dx undef=x)/\W w->nT P ops C Q rest a w):∀(a:Act) (w:World),nT P ops C (tr Q n ds l W dx x) gs a w->nT P ops C Q (gs++rest) a w:=by
 induction gs with
 | nil=>intro a w h; exact hK a w h.2
 | cons p r ih=>
   obtain ⟨i,q⟩:=p;intro a w h
   cases q with
   | true=>obtain ⟨h1,o,v,h2,h3,h4⟩:=h; exact ⟨h1,o,v,h2,h3,ih _ _ h4⟩
   | false=>exact ⟨h.1,afa (λa w h=>ih a w h) h.2⟩
theorem WD.Eo (m:Nat) {ord:List (Nat×Bool)} {os:List Oper} {ip dj dp dx:Nat} (want:Bool) {c x:Bool} {a b:Operand} {ty:TypeId} {pos:String} {af:Array Edge} {g:Option (Nat×Bool)} {l2:List (Nat×Value)}
   (hm:ord[m]? = some (ip,true)) (hp:ops[ip]? = some ⟨some dp,.pick (.tmp dj) a b,ty,pos,af,g⟩) (y8:opsOf ops (ord.take m)=some os) (hb:lk l dj=some (.bool c)) (eL:tq n os=true)
   (hg:cP ops l g) (rz:Nat.blt dp n=true) (hC:∀w,W w->C w)
   (gj:(a,b)=(bif want then (Operand.tmp dx,Operand.const (.bool false)) else (Operand.const (.bool true),Operand.tmp dx)))
   (hF:lH ops ((dj,.bool (!want))::l) os=some l2) (rB:l2.drop m=(dj,.bool (!want))::l) (rC:pV (l2.take m) ((dj,.bool (!want))::l)=true)
   (hT:c=want->WD P ops C (tr Q n ds ((dj,.bool want)::l) W dx (.bool x)) n ds ((dj,.bool want)::l) W (ord.take m))
   (h:WD P ops C Q n ds ((dp,.bool (bif want then c&&x else c||x))::l) W (ord.drop (m+1))):WD P ops C Q n ds l W ord:=by
 intro a0 w ha hw
 have afc:ord=ord.take m++(ip,true)::ord.drop (m+1):=by
   obtain ⟨av,he⟩:=List.getElem?_eq_some_iff.1 hm;rw [<-he,List.getElem_cons_drop av,List.take_append_drop]
 rw [afc]
 have pick:∀(a':Act) (w':World) (r:Bool),Ag n ds l a'->W w'->(if c then a'.eval a else a'.eval b) = .bool r->r=(bif want then c&&x else c||x)->
     nT P ops C Q ((ip,true)::ord.drop (m+1)) a' w':=by
   intro a' w' r c_ dR hv hr;refine ⟨hC w' dR,_,.bool r,hp,.inl ⟨cP.wanted (o:=⟨some dp,.pick (.tmp dj) a b,ty,pos,af,g⟩) hg c_,λw2 _=>?_⟩,h _ _ (by rw [<-hr]; exact c_.put rz _) dR⟩;have h1:a'.eval (.tmp dj) = .bool c:=c_.gd dj _ hb;simp only [execOp,h1,asBool,Sem.run_bind,Sem.run_pure,Result.andThen_ok,hv]
 by_cases hc:c=want
 · refine afb (l:=(dj,.bool want)::l) (W:=W) (dx:=dx) (x:=.bool x) (λa' w' hq=>?_) _ _ (hT hc a0 w (ha.known (by rw [<-hc]; exact hb)) hw)
   obtain ⟨⟨c_,hx⟩,dR⟩:=hq;refine pick a' w' x (c_.IL (by rw [<-hc]; exact hb)) dR ?_ ?_
   · subst hc
     cases c
     · simp at gj; obtain ⟨rfl,rfl⟩:=gj; exact hx
     · simp at gj; obtain ⟨rfl,rfl⟩:=gj; exact hx
   · subst hc; cases c<;>rfl
 · have mU:c = !want:=by cases c<;>cases want<;>first | rfl | exact absurd rfl hc
   refine WD.Nn y8 hF eL hC (λa' w' c_ dR=>?_) a0 w (ha.known (by rw [<-mU]; exact hb)) hw;have lI:Ag n ds l a':=(c_.IJ m rB rC).IL (by rw [<-mU]; exact hb);refine pick a' w' c lI dR ?_ ?_
   · subst mU
     cases want
     · simp at gj; obtain ⟨rfl,rfl⟩:=gj; rfl
     · simp at gj; obtain ⟨rfl,rfl⟩:=gj; rfl
   · subst mU; cases want<;>rfl
theorem WD.and (m:Nat) {ord:List (Nat×Bool)} {os:List Oper} {ip dj dp dx:Nat} {c x:Bool} {a b:Operand} {ty:TypeId} {pos:String} {af:Array Edge} {g:Option (Nat×Bool)} {l2:List (Nat×Value)}
   (hm:ord[m]? = some (ip,true)) (hp:ops[ip]? = some ⟨some dp,.pick (.tmp dj) a b,ty,pos,af,g⟩) (y8:opsOf ops (ord.take m)=some os) (hb:lk l dj=some (.bool c)) (eL:tq n os=true)
   (hg:cP ops l g) (rz:Nat.blt dp n=true) (hC:∀w,W w->C w) (gj:(a,b)=(Operand.tmp dx,Operand.const (.bool false)))
   (hF:lH ops ((dj,.bool false)::l) os=some l2) (rB:l2.drop m=(dj,.bool false)::l) (rC:pV (l2.take m) ((dj,.bool false)::l)=true)
   (hT:c=true->WD P ops C (tr Q n ds ((dj,.bool true)::l) W dx (.bool x)) n ds ((dj,.bool true)::l) W (ord.take m))
   (h:WD P ops C Q n ds ((dp,.bool (c&&x))::l) W (ord.drop (m+1))):WD P ops C Q n ds l W ord:=
 WD.Eo m true hm hp y8 hb eL hg rz hC gj hF rB rC hT h
theorem WD.or (m:Nat) {ord:List (Nat×Bool)} {os:List Oper} {ip dj dp dx:Nat} {c x:Bool} {a b:Operand} {ty:TypeId} {pos:String} {af:Array Edge} {g:Option (Nat×Bool)} {l2:List (Nat×Value)}
   (hm:ord[m]? = some (ip,true)) (hp:ops[ip]? = some ⟨some dp,.pick (.tmp dj) a b,ty,pos,af,g⟩) (y8:opsOf ops (ord.take m)=some os) (hb:lk l dj=some (.bool c)) (eL:tq n os=true)
   (hg:cP ops l g) (rz:Nat.blt dp n=true) (hC:∀w,W w->C w) (gj:(a,b)=(Operand.const (.bool true),Operand.tmp dx))
   (hF:lH ops ((dj,.bool true)::l) os=some l2) (rB:l2.drop m=(dj,.bool true)::l) (rC:pV (l2.take m) ((dj,.bool true)::l)=true)
   (hT:c=false->WD P ops C (tr Q n ds ((dj,.bool false)::l) W dx (.bool x)) n ds ((dj,.bool false)::l) W (ord.take m))
   (h:WD P ops C Q n ds ((dp,.bool (c||x))::l) W (ord.drop (m+1))):WD P ops C Q n ds l W ord:=
 WD.Eo m false hm hp y8 hb eL hg rz hC gj hF rB rC hT h
end
section
variable {P:Program} {l:List (Nat×Value)} {W:World->Prop} {d:Option Tmp} {ty:TypeId} {pos:String} {af:Array Edge} {g:Option (Nat×Bool)}
theorem N8 {t u:TypeId} {x y:Operand} {k:IntKind} {a b:Int} (hx:aB l x=some (.int k a)) (hy:aB l y=some (.int k b)) (h:a=b):Yl P l W ⟨d,.binOp .neq t x y u,ty,pos,af,g⟩ (.bool false):=by
 subst h;have:=i' (P:=P) (W:=W) (d:=d) (ty:=ty) (pos:=pos) (af:=af) (g:=g) (t:=t) (u:=u) hx hy
 rwa [show (a != a)=false by simp] at this
theorem rW {t u:TypeId} {x y:Operand} {k:IntKind} {a b:Int} (hx:aB l x=some (.int k a)) (hy:aB l y=some (.int k b)) (h:a=b):Yl P l W ⟨d,.binOp .eql t x y u,ty,pos,af,g⟩ (.bool true):=by
 subst h;have:=aF (P:=P) (W:=W) (d:=d) (ty:=ty) (pos:=pos) (af:=af) (g:=g) (t:=t) (u:=u) hx hy
 rwa [show (a==a)=true by simp] at this
theorem afd:∀(ks:List Nat) (xs:List Value),(iJ ks xs xs).isSome=true->iJ ks xs xs=some true:=by
 intro ks
 induction ks with
 | nil=>intro xs h; cases xs with
   | nil=>rfl
   | cons x xs=>exact absurd h (by unfold iJ; simp)
 | cons k ks ih=>
   intro xs h
   cases xs with
   | nil=>exact absurd h (by unfold iJ; simp)
   | cons x xs=>
     have hi:=ih xs;unfold iJ at h ⊢
     split at h
     · simp_all
     · rename_i h1 h2 h3
       injection h1 with EZ E1
       injection h2 with xG E2
       injection h3 with xH E3
       subst E1 E2;subst E3;rw [xG] at xH
       injection xH with e1 e2
       subst e1 e2;subst EZ xG
       cases hr:iJ ks xs xs with
       | none=>simp [hr] at h
       | some r=>have:=hi (by rw [hr]; rfl); rw [hr] at this; injection this with this; subst this; simp
     · rename_i h1 h2 h3
       injection h1 with EZ E1
       injection h2 with xG E2
       injection h3 with xH E3
       subst E1 E2;subst E3;rw [xG] at xH
       injection xH with e1
       subst e1;subst EZ xG
       cases hr:iJ ks xs xs with
       | none=>simp [hr] at h
       | some r=>have:=hi (by rw [hr]; rfl); rw [hr] at this; injection this with this; subst this; simp
     · rename_i h1 h2 h3
       injection h1 with EZ E1
       injection h2 with xG E2
       injection h3 with xH E3
       subst E1 E2;subst E3;rw [xG] at xH
       injection xH with e1
       subst e1;subst EZ xG
       cases hr:iJ ks xs xs with
       | none=>simp [hr] at h
       | some r=>have:=hi (by rw [hr]; rfl); rw [hr] at this; injection this with this; subst this; simp
     · simp at h
theorem afe {t u:TypeId} {x y:Operand} {ks:List Nat} {xs ys:List Value} (hf:BI P t=some ks) (hx:aB l x=some (.agg xs.toArray)) (hy:aB l y=some (.agg ys.toArray)) (h:xs=ys) (he:(iJ ks xs xs).isSome=true) :
   Yl P l W ⟨d,.binOp .neq t x y u,ty,pos,af,g⟩ (.bool false):=by
 subst h;exact adV hf hx hy (afd ks xs he)
theorem WD.wk {ops:Array Oper} {C:World->Prop} {Q:Exit->Act->World->Prop} {n:Nat} {ds:List Deferred} {W':World->Prop} {rest:List (Nat×Bool)} (hW:∀w,W w->W' w) (h:WD P ops C Q n ds l W' rest):WD P ops C Q n ds l W rest:=λa w ha hw=>h a w ha (hW w hw)
end
open Go.ChangeShapes Go.WideShapes Go.ChangeAt Go.RowKit Go.Joins Go.Deep
structure B2 (H:Type) where
 B:DataW H->Nat
 BA:List (DataW H)->Nat
 str:∀l:List UInt8,B (.lit (.string l))=l.length+1
 agg:∀l,B (.agg l)=BA l+1
 sl:∀l r,BA l+1<=B (.slice l r)
 nil:BA []=0
 cons:∀d r,BA (d::r)=B d+BA r
theorem B2.at_ {H:Type} (K:B2 H) {l:List (DataW H)}:∀{i:Nat} {d:DataW H},l[i]? = some d->K.B d<=K.BA l:=by
 induction l with
 | nil=>intro i d h; cases h
 | cons y r ih=>
   intro i d h;rw [K.cons]
   cases i with
   | zero=>simp at h; subst h; omega
   | succ i=>have:=ih (i:=i) (by simpa using h); omega
section
variable {P:Program} {H:Type} {enc:TypeId×Value->H} {w:World} {base:Nat} {spare:Nat->Bool} {held:Bool} (K:B2 H)
theorem N9 {t:TypeId} {fs:Array Field} {fuel:Nat} {cs:List Value} {x:DataW H×List MemPlace} (hu:P.underlying t=some (.struct fs)) (hr:(jO P 0 fs.toList&&Nat.beq (P.cellsOf t) fs.size)=true) (h:DataW.trod enc P w base spare held fuel t cs=some x) :
   cs.length=fs.size/\∃(ys:List (DataW H×List MemPlace)) (n:Nat),fuel=n+1/\x.1 = .agg (ys.map (·.1))/\ys.length=fs.size/\∀(j:Nat) (f:Field),fs[j]? = some f->∃v y,cs[j]? = some v/\ys[j]? = some y/\DataW.trod enc P w base spare held n f.type [v]=some y:=by
 simp only [Bool.and_eq_true] at hr;obtain ⟨ys,n,hn,hx,hlen,zu,hf⟩:=DataW.trod_struct hu h;have hl:cs.length=fs.size:=hlen.trans (Nat.eq_of_beq_eq_true hr.2);refine ⟨hl,ys,n,hn,by rw [hx],zu,λj f hj=>?_⟩;have av:j<fs.size:=(Array.getElem?_eq_some_iff.1 hj).1;obtain ⟨h1,h2⟩:=UA 0 fs.toList j f hr.1 (by simpa using hj);have g:=hf j f hj;have e1:cs[j]? = some cs[j]:=List.getElem?_eq_getElem (by omega);have e2:ys[j]? = some ys[j]:=List.getElem?_eq_getElem (by omega);rw [h1,h2,Nat.zero_add,e2,List.drop_eq_getElem_cons (by omega)] at g;exact ⟨_,_,e1,e2,by simpa only [List.take_succ_cons,List.take_zero] using g⟩
theorem Vp {t:TypeId} {fuel:Nat} {v:Value} {x:DataW H×List MemPlace} (hu:P.underlying t=some .string) (h:DataW.trod enc P w base spare held fuel t [v]=some x):∃l:List UInt8,v=st l/\K.B x.1=l.length+1:=by
 obtain ⟨s,e,hx,_⟩:=DataW.trod_string hu h
 injection e with e _
 subst e;exact ⟨s.data.toList,by simp [st],by rw [hx]; exact K.str _⟩
theorem E4 {α:Type} {rd:View->Nat->Nat->α->Prop} (wt:α->Nat) (ws:List α->Nat) (h0:ws []=0) (h1:∀x r,ws (x::r)=wt x+ws r) {ts e:TypeId} {k fuel:Nat} {v:Value} {x:DataW H×List MemPlace} (hu:P.underlying ts=some (.slice e)) (hc:P.cellsOf e=k) (hk:0<k) (kq:∀b,spare b=true)
   (aff:∀(n:Nat) (mg:List Value) (y:DataW H×List MemPlace),n<fuel->DataW.trod enc P w base spare held n e mg=some y->mg.length=k->∃z:α,(∀b o,aP (hv w) b o mg->rd (hv w) b o z)/\wt z<=K.B y.1)
   (h:DataW.trod enc P w base spare held fuel ts [v]=some x):∃(a:Option Addr) (c:Nat) (xs:List α),v = .slice a xs.length c/\Sl rd k (hv w) a c xs/\ws xs<=K.B x.1:=by
 rcases DataW.trod_slice hu h with ⟨e1,_⟩ | ⟨a,len,cap,elems,rest,n,hn,e1,hx,hb,hl,hm,hlen,xI,afg,_⟩
 · injection e1 with e1 _
   exact ⟨none,0,[],e1,Sl.nil,by rw [h0]; exact Nat.zero_le _⟩
 · injection e1 with e1 _
   have Vq:0<cap->a.spot=none:=by
     intro dN
     rcases Nat.lt_or_ge 0 len with h2 | h2
     · have g:=xI 0 h2
       obtain ⟨y,hy⟩:∃y,elems[0]? = some y:=⟨_,List.getElem?_eq_getElem (by omega)⟩;rw [hy] at g;obtain ⟨mg,iI,_⟩:=Option.bind_eq_some_iff.1 g;rw [hc] at iI;obtain ⟨_,zk,o6⟩:=World.cells?_some iI;obtain ⟨u,BG⟩:∃u,mg[0]? = some u:=⟨_,List.getElem?_eq_getElem (by omega)⟩;have:=o6 0 hk;rw [BG] at this
       simpa [Addr.add] using World.cell?_spot this
     · obtain ⟨qa,vv⟩:=afg (kq _)
       have N':len=0:=by omega
       have g:=vv 0 (by omega);rw [N'] at g;obtain ⟨y,hy⟩:∃y,rest[0]? = some y:=⟨_,List.getElem?_eq_getElem (by omega)⟩;rw [hy] at g;obtain ⟨mg,iI,_⟩:=Option.bind_eq_some_iff.1 g;rw [hc] at iI;obtain ⟨_,zk,o6⟩:=World.cells?_some iI;obtain ⟨u,BG⟩:∃u,mg[0]? = some u:=⟨_,List.getElem?_eq_getElem (by omega)⟩;have:=o6 0 hk;rw [BG] at this
       simpa [Addr.add] using World.cell?_spot this
   obtain ⟨xs,hxl,nY⟩:=Uz (λi (z:α)=>(∀b o,a=⟨b,o,none⟩->rd (hv w) b (o+i*k) z)/\∃y:DataW H×List MemPlace,elems[i]? = some y/\wt z<=K.B y.1) len (λi hi=>by
     have g:=xI i hi;obtain ⟨y,hy⟩:∃y,elems[i]? = some y:=⟨_,List.getElem?_eq_getElem (by omega)⟩;rw [hy] at g;obtain ⟨mg,iI,ht⟩:=Option.bind_eq_some_iff.1 g;rw [hc] at iI;obtain ⟨_,zk,o6⟩:=World.cells?_some iI;obtain ⟨z,vp,zv⟩:=aff n mg y (by omega) ht zk;refine ⟨z,λb o gj=>vp _ _ λj v hj=>?_,y,hy,zv⟩;subst gj
     have ku:j<k:=by have:=(List.getElem?_eq_some_iff.1 hj).1; omega
     have:=o6 j ku;rw [hj] at this;rw [ru,ru] at this
     exact NG this)
   have Vr:∀(l:List α) (es:List (DataW H×List MemPlace)),l.length=es.length->(∀(i:Nat) (z:α),l[i]? = some z->∃y:DataW H×List MemPlace,es[i]? = some y/\wt z<=K.B y.1)->ws l<=K.BA (es.map (·.1)):=by
     intro l
     induction l with
     | nil=>intro es _ _; rw [h0]; exact Nat.zero_le _
     | cons z l ih=>
       intro es hle hh
       cases es with
       | nil=>cases hle
       | cons y es=>
         obtain ⟨y',BU,hz⟩:=hh 0 z rfl;simp at BU; subst BU
         have:=ih es (by simpa using hle) λi z' hz'=>by
           obtain ⟨y',BU,hz⟩:=hh (i+1) z' (by simpa using hz');exact ⟨y',by simpa using BU,hz⟩
         rw [h1,List.map_cons,K.cons];omega
   refine ⟨some a,cap,xs,by rw [e1,hxl],⟨by omega,by unfold maxLen at hm; omega,λp hp ad=>by injection hp with hp; subst hp; exact Vq ad,λi z hz=>?_⟩,?_⟩
   · have hi:i<len:=by have:=(List.getElem?_eq_some_iff.1 hz).1; omega
     have hsn:=Vq (by omega);obtain ⟨b,o,s⟩:=a;obtain rfl:s=none:=hsn;exact ⟨b,o,O,(nY i z hz).1 b o O⟩
   · have:=Vr xs elems (by omega) λi z hz=>(nY i z hz).2
     simp only [hx];have:=K.sl (elems.map (·.1)) (rest.map (·.1));omega
structure auL (P:Program) (tE tS tD tP tM Jh B3 N_ B4 mh:TypeId) (e s d p m:Array Field) (tI tB tT:TypeId):Prop where
 uI:P.underlying tI=some (.int .i64)
 uB:P.underlying tB=some .bool
 uT:P.underlying tT=some .string
 cT:P.cellsOf tT=1
 uE:P.underlying tE=some (.struct e)
 rE:(jO P 0 e.toList&&Nat.beq (P.cellsOf tE) e.size)=true
 fE:e.map (·.type) = #[tI,tI,tT,tT,Jh]
 uEs:P.underlying Jh=some (.slice tE)
 uS:P.underlying tS=some (.struct s)
 rS:(jO P 0 s.toList&&Nat.beq (P.cellsOf tS) s.size)=true
 fS:s.map (·.type) = #[tI,tT,tT,Jh,B3,B3]
 uSs:P.underlying B3=some (.slice tS)
 uD:P.underlying tD=some (.struct d)
 rD:(jO P 0 d.toList&&Nat.beq (P.cellsOf tD) d.size)=true
 fD:d.map (·.type) = #[tI,tT,tB,tI]
 uDs:P.underlying N_=some (.slice tD)
 uP:P.underlying tP=some (.struct p)
 rP:(jO P 0 p.toList&&Nat.beq (P.cellsOf tP) p.size)=true
 fP:p.map (·.type) = #[tT,tB,mh,mh,B3]
 uPs:P.underlying B4=some (.slice tP)
 Oa:P.underlying mh=some (.slice tT)
 uM:P.underlying tM=some (.struct m)
 rM:(jO P 0 m.toList&&Nat.beq (P.cellsOf tM) m.size)=true
 fM:m.map (·.type) = #[tT,mh,N_,B4,B3]
theorem o7 {fs:Array Field} {ts:Array TypeId} (h:fs.map (·.type)=ts) {j:Nat} {t:TypeId} (ht:ts[j]? = some t):∃f,fs[j]? = some f/\f.type=t:=by
 rw [<-h,Array.getElem?_map] at ht;obtain ⟨f,h1,h2⟩:=Option.map_eq_some_iff.1 ht;exact ⟨f,h1,h2⟩
variable {tE tS tD tP tM Jh B3 N_ B4 mh tI tB tT:TypeId} {e s d p m:Array Field}
theorem Ob {t:TypeId} {fs:Array Field} (hr:(jO P 0 fs.toList&&Nat.beq (P.cellsOf t) fs.size)=true):P.cellsOf t=fs.size:=by
 simp only [Bool.and_eq_true] at hr;exact Nat.eq_of_beq_eq_true hr.2
theorem B5 {fs:Array Field} {ts:Array TypeId} (h:fs.map (·.type)=ts):fs.size=ts.size:=by rw [<-h]; simp
end
end Go.Bw
end
section
namespace Go.Bw
open Go
structure aY where
 kind:Int
 n:Int
 pl:Int
 name:List UInt8
deriving DecidableEq
def aY.cells (x:aY):List Value:=[.int .i64 x.kind,.int .i64 x.n,.int .i64 x.pl,st x.name]
theorem aY.aX (x:aY):x.cells.length=4:=rfl
theorem aY.one (x:aY):x.cells.all (·.oneCell')=true:=rfl
def mj (H:View) (b o:Nat) (x:aY):Prop:=aP H b o x.cells
theorem afl {H H':View} (h:aN H H') (b o:Nat) (x:aY) (r:mj H b o x):mj H' b o x:=aP.mono h r
def qc (x:aY):Bool:=!((((((((!(dG x.name)||!(gD x.kind 1 4))||!(gD x.n 0 1099511627775))||!(gD x.pl 0 320))||(x.kind==1&&x.pl != 0))||(x.kind==2&&x.n != 0))||(x.kind==3&&!(gD x.n 1 32)))||(x.kind==4&&decide (3<x.n))))
theorem Ji {x:aY} {lo hi mx:Int} (h:(x.kind=1/\lo=0/\hi=1099511627775/\mx=0)\/(x.kind=2/\lo=0/\hi=0/\mx=320)\/(x.kind=3/\lo=1/\hi=32/\mx=320)\/(x.kind=4/\lo=0/\hi=3/\mx=320)) :
   ((((dG x.name&&decide (lo<=x.n))&&decide (x.n<=hi))&&decide (0<=x.pl))&&decide (x.pl<=mx))=qc x:=by
 unfold qc
 generalize dG x.name=b
 rw [Bool.eq_iff_iff];cases b
 · simp
 · rcases h with ⟨h,rfl,rfl,rfl⟩ | ⟨h,rfl,rfl,rfl⟩ | ⟨h,rfl,rfl,rfl⟩ | ⟨h,rfl,rfl,rfl⟩<;>simp [gD,h]<;>omega
theorem afm {x:aY} (h1:x.kind≠1) (h2:x.kind≠2) (h3:x.kind≠3) (h4:x.kind≠4):qc x=false:=by
 unfold qc
 have:gD x.kind 1 4=false:=by simp [gD]; omega
 simp [this]
def ee (l:List (List UInt8)):Bool:=(List.range l.length).any λi=>(List.range i).any λj=>l[i]?.getD []==l[j]?.getD []
theorem afn {l:List (List UInt8)} (h:∀i,i<l.length->∀j,j<i->(l[i]?.getD []==l[j]?.getD [])=false):ee l=false:=by
 unfold ee;rw [List.any_eq_false];intro i hi;simp only [List.any_eq_true,not_exists,not_and];intro j hj;have:=h i (by simpa using hi) j (by simpa using hj);simp [this]
theorem Vt {l:List (List UInt8)} {i j:Nat} (hi:i<l.length) (hj:j<i) (h:(l[i]?.getD []==l[j]?.getD [])=true):ee l=true:=by
 unfold ee;exact List.any_eq_true.2 ⟨i,by simpa using hi,List.any_eq_true.2 ⟨j,by simpa using hj,h⟩⟩
theorem Oc {l:List (List UInt8)}:ee l=true↔∃i j,i<l.length/\j<i/\l[i]? = l[j]?:=by
 constructor
 · intro h
   unfold ee at h;obtain ⟨i,hi,h⟩:=List.any_eq_true.1 h;obtain ⟨j,hj,h⟩:=List.any_eq_true.1 h
   have hi:i<l.length:=by simpa using hi
   have hj:j<i:=by simpa using hj
   refine ⟨i,j,hi,hj,?_⟩;rw [List.getElem?_eq_getElem hi,List.getElem?_eq_getElem (by omega)] at h ⊢
   simpa using h
 · rintro ⟨i,j,hi,hj,h⟩
   exact Vt hi hj (by rw [h]; simp)
theorem o8 {l:List (List UInt8)}:l.Nodup↔ee l=false:=by
 constructor
 · intro h
   rw [Bool.eq_false_iff];intro ht;obtain ⟨i,j,hi,hj,e⟩:=Oc.1 ht;have:=(List.getElem?_inj hi h).1 e;omega
 · intro h
   show List.Pairwise _ l
   rw [List.pairwise_iff_getElem];intro i j hi hj xJ e;have:=Oc.2 ⟨j,i,hj,xJ,by rw [List.getElem?_eq_getElem hi,List.getElem?_eq_getElem hj,e]⟩;rw [h] at this; cases this
def vw (name:List UInt8) (items:List aY):Int:=
 if 16<items.length then 2 else if (items.all qc&&(!(ee (items.map (·.name))||!(dG name))))=true then 0 else 1
theorem Vu {items:List aY} (h:∀(j:Nat) (x:aY),items[j]? = some x->qc x=true):items.all qc=true:=by
 rw [List.all_eq_true];intro x hx;obtain ⟨j,hj⟩:=List.getElem?_of_mem hx;exact h j x hj
theorem afo {items:List aY} {j:Nat} {x:aY} (hj:items[j]? = some x) (h:qc x=false):items.all qc=false:=by
 rw [List.all_eq_false];exact ⟨x,List.mem_of_getElem? hj,by simp [h]⟩
def o_ (at_:Int) (d:bS):aY:=⟨d.kind,d.n,if d.kind=1 then 0 else at_,d.nm⟩
def ng (d:bS):Int:=if d.kind=2 then 1 else if d.kind=3 then d.n else 0
def fJ:List bS->Int
 | []=>0
 | d::r=>ng d+fJ r
def jU:List bS->Int->List aY
 | [],_=>[]
 | d::r,a=>o_ a d::jU r (a+ng d)
def E5 (i:Nat) (p:dO):aY:=⟨4,(p.params.length:Int),(i:Int),p.nm⟩
def nh:List dO->Nat->List aY
 | [],_=>[]
 | p::r,i=>E5 i p::nh r (i+1)
theorem Vv:∀(l:List bS) (d:bS),fJ (l++[d])=fJ l+ng d
 | [],d=>by simp [fJ]
 | x::l,d=>by simp only [List.cons_append,fJ,Vv l d]; omega
theorem Vw:∀(l:List bS) (d:bS) (a:Int),jU (l++[d]) a=jU l a++[o_ (a+fJ l) d]
 | [],d,a=>by simp [jU,fJ]
 | x::l,d,a=>by
   simp only [List.cons_append,jU,Vw l d,fJ];rw [show a+ng x+fJ l=a+(ng x+fJ l) by omega]
theorem Vx:∀(l:List dO) (p:dO) (i:Nat),nh (l++[p]) i=nh l i++[E5 (i+l.length) p]
 | [],p,i=>by simp [nh]
 | x::l,p,i=>by
   simp only [List.cons_append,nh,Vx l p,List.length_cons];rw [show i+1+l.length=i+(l.length+1) by omega]
theorem Jj:∀(l:List bS) (a:Int),(jU l a).length=l.length
 | [],_=>rfl
 | x::l,a=>by simp [jU,Jj l]
theorem Od:∀(l:List dO) (i:Nat),(nh l i).length=l.length
 | [],_=>rfl
 | x::l,i=>by simp [nh,Od l]
def ey (m:bf):List aY:=jU m.decls 0++nh m.procs 0
def B6 (m:bf):Int:=fJ m.decls
def pc (m:bf):List Bool:=m.decls.map (·.aT)++m.procs.map (·.aT)
theorem Jk (m:bf):(ey m).length=m.decls.length+m.procs.length:=by simp [ey,Jj,Od]
theorem Jl (m:bf):(pc m).length=m.decls.length+m.procs.length:=by simp [pc]
def ml:List aY->List Bool->List aY
 | x::l,p::ps=>(if p=true then [x] else [])++ml l ps
 | _,_=>[]
theorem Vy:∀{l:List aY} {ps:List Bool} {x:aY} {p:Bool},l.length=ps.length->ml (l++[x]) (ps++[p])=ml l ps++(if p=true then [x] else [])
 | [],[],x,p,_=>by simp [ml]
 | y::l,q::ps,x,p,h=>by simp only [List.cons_append,ml,Vy (l:=l) (ps:=ps) (by simpa using h),List.append_assoc]
 | [],q::ps,x,p,h=>by simp at h
 | y::l,[],x,p,h=>by simp at h
theorem afp {l:List aY} {ps:List Bool} {i:Nat} {x:aY} {p:Bool} (hl:l.length=ps.length) (hx:l[i]? = some x) (hp:ps[i]? = some p):ml (l.take (i+1)) (ps.take (i+1))=ml (l.take i) (ps.take i)++(if p=true then [x] else []):=by
 rw [List.take_add_one,List.take_add_one,hx,hp];exact Vy (by simp; omega)
theorem Vz:∀(l:List aY) (ps:List Bool),(ml l ps).length<=l.length
 | [],_=>by simp [ml]
 | x::l,[]=>by simp [ml]
 | x::l,p::ps=>by
   have:=Vz l ps;simp only [ml,List.length_append,List.length_cons]
   split<;>simp<;>omega
def ij (m:bf):(List UInt8×List aY)×Int:=
 if jS m≠0 then (([],[]),jS m) else if (ee ((ey m).map (·.name))||ee m.ae)=true then (([],[]),6) else ((m.nm,ml (ey m) (pc m)),0)
inductive cJ where
 | mk (op n m pl:Int) (args:List cJ)
inductive cB where
 | mk (op n m pl:Int) (args:List cJ) (body other:List cB)
def cJ.op:cJ->Int | .mk o _ _ _ _=>o
def cJ.n:cJ->Int | .mk _ n _ _ _=>n
def cJ.m:cJ->Int | .mk _ _ m _ _=>m
def cJ.pl:cJ->Int | .mk _ _ _ p _=>p
def cJ.args:cJ->List cJ | .mk _ _ _ _ a=>a
def cB.op:cB->Int | .mk o _ _ _ _ _ _=>o
def cB.n:cB->Int | .mk _ n _ _ _ _ _=>n
def cB.m:cB->Int | .mk _ _ m _ _ _ _=>m
def cB.pl:cB->Int | .mk _ _ _ p _ _ _=>p
def cB.args:cB->List cJ | .mk _ _ _ _ a _ _=>a
def cB.body:cB->List cB | .mk _ _ _ _ _ b _=>b
def cB.other:cB->List cB | .mk _ _ _ _ _ _ o=>o
structure jc where
 params:Int
 locals:Int
 body:List cB
structure ez where
 nm:List UInt8
 ae:List (List UInt8)
 data:Int
 parts:List jc
 main:List cB
def kz:ez:=⟨[],[],0,[],[]⟩
def rY (e:cJ) (a:Option Addr) (c:Nat):List Value:=[.int .i64 e.op,.int .i64 e.n,.int .i64 e.m,.int .i64 e.pl,.slice a e.args.length c]
def jV:Nat->View->Nat->Nat->cJ->Prop
 | 0=>λ_ _ _ _=>False
 | k+1=>λH b o e=>∃a c,aP H b o (rY e a c)/\Sl (jV k) 5 H a c e.args
structure zw where
 s1:Option Addr×Nat
 s2:Option Addr×Nat
 s3:Option Addr×Nat
def vx (s:cB) (r:zw):List Value:=[.int .i64 s.op,.int .i64 s.n,.int .i64 s.m,.int .i64 s.pl,.slice r.s1.1 s.args.length r.s1.2,.slice r.s2.1 s.body.length r.s2.2,.slice r.s3.1 s.other.length r.s3.2]
def iA (ke:Nat):Nat->View->Nat->Nat->cB->Prop
 | 0=>λ_ _ _ _=>False
 | k+1=>λH b o s=>∃r:zw,aP H b o (vx s r)/\Sl (jV ke) 5 H r.s1.1 r.s1.2 s.args/\Sl (iA ke k) 7 H r.s2.1 r.s2.2 s.body/\Sl (iA ke k) 7 H r.s3.1 r.s3.2 s.other
def B7 (p:jc) (r:Option Addr×Nat):List Value:=[.int .i64 p.params,.int .i64 p.locals,.slice r.1 p.body.length r.2]
def B8 (ke ks:Nat) (H:View) (b o:Nat) (p:jc):Prop:=∃r:Option Addr×Nat,aP H b o (B7 p r)/\Sl (iA ke ks) 7 H r.1 r.2 p.body
structure kZ where
 s1:Option Addr×Nat
 s2:Option Addr×Nat
 s3:Option Addr×Nat
def fo (u:ez) (r:kZ):List Value:=[st u.nm,.slice r.s1.1 u.ae.length r.s1.2,.int .i64 u.data,.slice r.s2.1 u.parts.length r.s2.2,.slice r.s3.1 u.main.length r.s3.2]
structure k6 (ke ks:Nat) (H:View) (r:kZ) (u:ez):Prop where
 ae:Sl rdStr 1 H r.s1.1 r.s1.2 u.ae
 parts:Sl (B8 ke ks) 3 H r.s2.1 r.s2.2 u.parts
 main:Sl (iA ke ks) 7 H r.s3.1 r.s3.2 u.main
def lL:kZ:=⟨(none,0),(none,0),(none,0)⟩
theorem B9 {ke ks:Nat} (H:View):k6 ke ks H lL kz:=⟨Sl.nil,Sl.nil,Sl.nil⟩
theorem Oe {H H':View} (hH:aN H H'):∀{k k':Nat},k<=k'->∀(b o:Nat) (e:cJ),jV k H b o e->jV k' H' b o e
 | 0,_,_,_,_,_,h=>h.elim
 | k+1,0,hk,_,_,_,_=>absurd hk (by omega)
 | k+1,k'+1,hk,b,o,e,h=>by
   obtain ⟨a,c,h1,h2⟩:=h;exact ⟨a,c,aP.mono hH h1,h2.imp λb o x hx=>Oe hH (by omega) b o x hx⟩
theorem Jm {H H':View} (hH:aN H H') {ke nf:Nat} (rV:ke<=nf):∀{k k':Nat},k<=k'->∀(b o:Nat) (e:cB),iA ke k H b o e->iA nf k' H' b o e
 | 0,_,_,_,_,_,h=>h.elim
 | k+1,0,hk,_,_,_,_=>absurd hk (by omega)
 | k+1,k'+1,hk,b,o,e,h=>by
   obtain ⟨r,h1,h2,h3,h4⟩:=h;exact ⟨r,aP.mono hH h1,h2.imp λb o x hx=>Oe hH rV b o x hx,h3.imp λb o x hx=>Jm hH rV (by omega) b o x hx,h4.imp λb o x hx=>Jm hH rV (by omega) b o x hx⟩
theorem afq {H H':View} (hH:aN H H') {ke nf ks xC:Nat} (rV:ke<=nf) (N0:ks<=xC) (b o:Nat) (p:jc) (h:B8 ke ks H b o p):B8 nf xC H' b o p:=by
 obtain ⟨r,h1,h2⟩:=h;exact ⟨r,aP.mono hH h1,h2.imp λb o x hx=>Jm hH rV N0 b o x hx⟩
theorem Jn {H N:View} {k c:Nat} {a:Option Addr} {l:List cJ} (h:Sl (jV k) 5 H a c l) (hv:aN H N):Sl (jV k) 5 N a c l:=h.imp λb o x hx=>Oe hv (Nat.le_refl _) b o x hx
theorem zx {H N:View} {ke k c:Nat} {a:Option Addr} {l:List cB} (h:Sl (iA ke k) 7 H a c l) (hv:aN H N):Sl (iA ke k) 7 N a c l:=h.imp λb o x hx=>Jm hv (Nat.le_refl _) (Nat.le_refl _) b o x hx
theorem afr {H N:View} {ke k c:Nat} {a:Option Addr} {l:List jc} (h:Sl (B8 ke k) 3 H a c l) (hv:aN H N):Sl (B8 ke k) 3 N a c l:=h.imp λb o x hx=>afq hv (Nat.le_refl _) (Nat.le_refl _) b o x hx
theorem k6.mv {ke ks:Nat} {H N:View} {r:kZ} {u:ez} (h:k6 ke ks H r u) (hv:aN H N):k6 ke ks N r u:=⟨h.ae.imp λb o x hx=>BX hv b o x hx,afr h.parts hv,zx h.main hv⟩
def Xs {X:Type} (R:View->X->Prop) (J:View) (es:List X):Prop:=∀e ∈ es,R J e
theorem Xs.nil {X:Type} {R:View->X->Prop} (J:View):Xs R J []:=by intro e h; simp at h
theorem Xs.mono {X:Type} {R:View->X->Prop} (hm:∀{A B:View} {x:X},aN A B->R A x->R B x) {J J':View} {es:List X} (h:Xs R J es) (hv:aN J J'):Xs R J' es:=λe he=>hm hv (h e he)
theorem Xs.snoc {X:Type} {R:View->X->Prop} (hm:∀{A B:View} {x:X},aN A B->R A x->R B x) {J J1 J2:View} {es:List X} {e:X} (h:Xs R J es) (h1:aN J J2) (h2:aN J1 J2) (he:R J1 e):Xs R J2 (es++[e]):=by
 intro x hx
 rcases List.mem_append.1 hx with hx | hx
 · exact hm h1 (h x hx)
 · rw [List.mem_singleton] at hx
   subst hx;exact hm h2 he
theorem B' {X T:Type} {t:X->T} {VA:View->Nat->Nat->X->Prop} {rd:View->Nat->Nat->T->Prop} {R:View->X->Prop} {k:Nat} {H J N:View} {c:Nat} {a:Option Addr} {es:List X} (h:Sl VA k H a c es) (nj:Xs R J es)
   (hj:∀b o e,VA H b o e->R J e->rd N b o (t e)):Sl rd k N a c (es.map t):=by
 refine ⟨by simpa using h.cap,h.max,h.spot,λi x hx=>?_⟩;rw [List.getElem?_map] at hx;obtain ⟨e,he,rfl⟩:=Option.map_eq_some_iff.1 hx;obtain ⟨b,o,h1,h2⟩:=h.aO i e he;exact ⟨b,o,h1,hj b _ e h2 (nj e (List.mem_of_getElem? he))⟩
abbrev XN:=cJ×Option Addr×Nat
def XN.cells (e:XN):List Value:=rY e.1 e.2.1 e.2.2
theorem XN.aX (e:XN):(XN.cells e).length=5:=rfl
theorem XN.one (e:XN):(XN.cells e).all (·.oneCell')=true:=rfl
def VB (H:View) (b o:Nat) (e:XN):Prop:=aP H b o (XN.cells e)
def tG (k:Nat) (J:View) (e:XN):Prop:=Sl (jV k) 5 J e.2.1 e.2.2 e.1.args
theorem tG.mv {k:Nat} {A B:View} {e:XN} (hv:aN A B) (h:tG k A e):tG k B e:=Jn h hv
theorem afs {k:Nat} {H J N:View} {c:Nat} {a:Option Addr} {es:List XN} (h:Sl VB 5 H a c es) (hv:aN H N) (hJ:aN J N) (nj:Xs (tG k) J es):Sl (jV (k+1)) 5 N a c (es.map (·.1)):=
 B' h nj λb o e h1 h2=>⟨e.2.1,e.2.2,aP.mono hv h1,tG.mv hJ h2⟩
abbrev XA:=cB×zw
def XA.cells (e:XA):List Value:=vx e.1 e.2
theorem XA.aX (e:XA):(XA.cells e).length=7:=rfl
theorem XA.one (e:XA):(XA.cells e).all (·.oneCell')=true:=rfl
def VC (H:View) (b o:Nat) (e:XA):Prop:=aP H b o (XA.cells e)
structure qd (ke k:Nat) (N:View) (e:XA):Prop where
 args:Sl (jV ke) 5 N e.2.s1.1 e.2.s1.2 e.1.args
 body:Sl (iA ke k) 7 N e.2.s2.1 e.2.s2.2 e.1.body
 other:Sl (iA ke k) 7 N e.2.s3.1 e.2.s3.2 e.1.other
theorem qd.mv {ke k:Nat} {A B:View} {e:XA} (hv:aN A B) (h:qd ke k A e):qd ke k B e:=⟨Jn h.args hv,zx h.body hv,zx h.other hv⟩
theorem aft {ke k:Nat} {H J N:View} {c:Nat} {a:Option Addr} {es:List XA} (h:Sl VC 7 H a c es) (hv:aN H N) (hJ:aN J N) (nj:Xs (qd ke k) J es):Sl (iA ke (k+1)) 7 N a c (es.map (·.1)):=
 B' h nj λb o e h1 h2=>⟨e.2,aP.mono hv h1,(qd.mv hJ h2).args,(qd.mv hJ h2).body,(qd.mv hJ h2).other⟩
abbrev XP:=jc×Option Addr×Nat
def XP.cells (e:XP):List Value:=B7 e.1 e.2
theorem XP.aX (e:XP):(XP.cells e).length=3:=rfl
theorem XP.one (e:XP):(XP.cells e).all (·.oneCell')=true:=rfl
def VD (H:View) (b o:Nat) (e:XP):Prop:=aP H b o (XP.cells e)
def xK (ke k:Nat) (J:View) (e:XP):Prop:=Sl (iA ke k) 7 J e.2.1 e.2.2 e.1.body
theorem xK.mv {ke k:Nat} {A B:View} {e:XP} (hv:aN A B) (h:xK ke k A e):xK ke k B e:=zx h hv
theorem afu {ke k:Nat} {H J N:View} {c:Nat} {a:Option Addr} {es:List XP} (h:Sl VD 3 H a c es) (hv:aN H N) (hJ:aN J N) (nj:Xs (xK ke k) J es):Sl (B8 ke k) 3 N a c (es.map (·.1)):=
 B' h nj λb o e h1 h2=>⟨e.2,aP.mono hv h1,xK.mv hJ h2⟩
open Go.ChangeShapes Go.WideShapes Go.ChangeAt Go.RowKit Go.Joins Go.Deep
structure auP (P:Program) (tI tT tX VE tF vy:TypeId) (x f:Array Field):Prop where
 uI:P.underlying tI=some (.int .i64)
 uT:P.underlying tT=some .string
 uX:P.underlying tX=some (.struct x)
 rX:(jO P 0 x.toList&&Nat.beq (P.cellsOf tX) x.size)=true
 fX:x.map (·.type) = #[tI,tI,tI,tT]
 uXs:P.underlying VE=some (.slice tX)
 uF:P.underlying tF=some (.struct f)
 rF:(jO P 0 f.toList&&Nat.beq (P.cellsOf tF) f.size)=true
 fF:f.map (·.type) = #[tT,VE]
 VF:P.underlying vy=some (.slice tF)
end Go.Bw
end
section
namespace Go.Bw
open Go
structure dk where
 ax:List (List UInt8)
 own:List aY
 ae:List (List UInt8)
 xL:List (List aY)
def idxOf (nm:List UInt8):List (List UInt8)->Nat->Option Nat
 | [],_=>none
 | s::r,i=>if s=nm then some i else idxOf nm r (i+1)
def fT (nm:List UInt8):List aY->Option aY
 | []=>none
 | x::r=>if x.name=nm then some x else fT nm r
def og (mod nm:List UInt8):List (List UInt8)->List (List aY)->Nat->Option (Int×aY)
 | u::us,f::fs,k=>if u=mod then (match fT nm f with | some x=>some (((k+1:Nat):Int),x) | none=>og mod nm us fs (k+1)) else og mod nm us fs (k+1)
 | _,_,_=>none
def Of (i:Nat):aY:=⟨0,0,(i:Int),[]⟩
def fV (σ:dk) (mod nm:List UInt8):Option (Int×aY):=
 if mod=[] then (match idxOf nm σ.ax 0 with
   | some i=>some (-1,Of i)
   | none=>(fT nm σ.own).map λx=>(0,x))
 else og mod nm σ.ae σ.xL 0
def er (a b:Int):Int:=if a=0 then b else a
theorem nk (b:Int):er 0 b=b:=rfl
theorem afv (a:Int):er a 0=a:=by unfold er; split<;>simp_all
theorem afw (a b c:Int):er (er a b) c=er a (er b c):=by unfold er; split<;>simp_all
theorem VG {a b:Int}:er a b=0↔a=0/\b=0:=by unfold er; split<;>simp_all
theorem vz {a b:Int} (h:a≠0):er a b=a:=by unfold er; rw [if_neg h]
structure RN where
 op:Int
 n:Int
 m:Int
 pl:Int
 e:Int
def cK (σ:dk) (op n:Int) (mod nm:List UInt8) (len:Nat):RN:=
 if gD op 3 5=true then (match fV σ mod nm with
   | none=>⟨op,n,0,0,5⟩
   | some (m,it)=>
     if m = -1 then ⟨16,n,0,it.pl,if op=3 then 0 else 7⟩
     else if op=3/\it.kind=1 then ⟨1,it.n,0,0,0⟩
     else if op=3/\it.kind=2 then ⟨op,n,m,it.pl,0⟩
     else if op=4/\it.kind=3 then ⟨op,it.n,m,it.pl,0⟩
     else if op=5/\it.kind=4 then ⟨op,n,m,it.pl,if it.n=(len:Int) then 0 else 8⟩
     else ⟨op,n,0,0,7⟩)
 else ⟨op,n,0,0,0⟩
def dz (σ:dk) (op:Int) (mod nm:List UInt8) (len:Nat):RN:=
 if gD op 1 3=true then (match fV σ mod nm with
   | none=>⟨op,0,0,0,5⟩
   | some (m,it)=>
     if op=1/\(m = -1\/it.kind=2) then ⟨op,0,m,it.pl,0⟩
     else if m = -1 then ⟨op,0,0,0,7⟩
     else if op=2/\it.kind=3 then ⟨op,it.n,m,it.pl,0⟩
     else if op=3/\it.kind=4 then ⟨op,0,m,it.pl,if it.n=(len:Int) then 0 else 8⟩
     else ⟨op,0,0,0,7⟩)
 else ⟨op,0,0,0,0⟩
mutual
def qf (σ:dk):az->cJ
 | .mk op n mod nm args=>.mk (cK σ op n mod nm args.length).op (cK σ op n mod nm args.length).n (cK σ op n mod nm args.length).m (cK σ op n mod nm args.length).pl (mm σ args)
def mm (σ:dk):List az->List cJ
 | []=>[]
 | x::r=>qf σ x::mm σ r
end
mutual
def jW (σ:dk):az->Int
 | .mk op n mod nm args=>er (cK σ op n mod nm args.length).e (iB σ args)
def iB (σ:dk):List az->Int
 | []=>0
 | x::r=>er (jW σ x) (iB σ r)
end
mutual
def qg (σ:dk):aR->cB
 | .mk op mod nm args body other=>.mk (dz σ op mod nm args.length).op (dz σ op mod nm args.length).n (dz σ op mod nm args.length).m (dz σ op mod nm args.length).pl (mm σ args) (iM σ body) (iM σ other)
def iM (σ:dk):List aR->List cB
 | []=>[]
 | x::r=>qg σ x::iM σ r
end
mutual
def jd (σ:dk):aR->Int
 | .mk op mod nm args body other=>er (dz σ op mod nm args.length).e (er (iB σ args) (er (ew σ body) (ew σ other)))
def ew (σ:dk):List aR->Int
 | []=>0
 | x::r=>er (jd σ x) (ew σ r)
end
theorem afx (σ:dk) (x:az):qf σ x = .mk (cK σ x.op x.n x.mod x.nm x.args.length).op (cK σ x.op x.n x.mod x.nm x.args.length).n (cK σ x.op x.n x.mod x.nm x.args.length).m (cK σ x.op x.n x.mod x.nm x.args.length).pl (mm σ x.args):=by
 cases x; rw [qf]; rfl
theorem B_ (σ:dk) (x:az):jW σ x=er (cK σ x.op x.n x.mod x.nm x.args.length).e (iB σ x.args):=by cases x; rw [jW]; rfl
theorem afy (σ:dk) (x:aR):qg σ x = .mk (dz σ x.op x.mod x.nm x.args.length).op (dz σ x.op x.mod x.nm x.args.length).n (dz σ x.op x.mod x.nm x.args.length).m (dz σ x.op x.mod x.nm x.args.length).pl (mm σ x.args) (iM σ x.body) (iM σ x.other):=by
 cases x; rw [qg]; rfl
theorem xM (σ:dk) (x:aR):jd σ x=er (dz σ x.op x.mod x.nm x.args.length).e (er (iB σ x.args) (er (ew σ x.body) (ew σ x.other))):=by cases x; rw [jd]; rfl
theorem VH (σ:dk):∀l,mm σ l=l.map (qf σ)
 | []=>by rw [mm]; rfl
 | x::r=>by rw [mm,VH σ r]; rfl
theorem VI (σ:dk):∀l,iM σ l=l.map (qg σ)
 | []=>by rw [iM]; rfl
 | x::r=>by rw [iM,VI σ r]; rfl
def iC {α:Type} (f:α->Int):List α->Int
 | []=>0
 | x::r=>er (f x) (iC f r)
theorem Og {α:Type} (f:α->Int):∀a b:List α,iC f (a++b)=er (iC f a) (iC f b)
 | [],b=>rfl
 | x::a,b=>by simp only [List.cons_append,iC,Og f a b,afw]
theorem Oh {α:Type} (f:α->Int) {l:List α} {i:Nat} {x:α} (h:l[i]? = some x):iC f (l.take (i+1))=er (iC f (l.take i)) (f x):=by
 rw [List.take_add_one,h,Og]
 show er _ (er (f x) 0)=_
 rw [afv]
theorem E6 {α:Type} (f:α->Int) {l:List α} {i:Nat} {x:α} (h:l[i]? = some x) (h0:iC f (l.take i)=0) (hx:f x≠0):iC f l=f x:=by
 have e:l=l.take i++l.drop i:=(List.take_append_drop i l).symm;rw [e,Og,h0,nk]
 have hd:l.drop i=x::l.drop (i+1):=by
   obtain ⟨av,hx'⟩:=List.getElem?_eq_some_iff.1 h;rw [List.drop_eq_getElem_cons av,hx']
 rw [hd,iC,vz hx]
theorem Oi (σ:dk):∀l,iB σ l=iC (jW σ) l
 | []=>by rw [iB]; rfl
 | x::r=>by rw [iB,Oi σ r]; rfl
theorem Oj (σ:dk):∀l,ew σ l=iC (jd σ) l
 | []=>by rw [ew]; rfl
 | x::r=>by rw [ew,Oj σ r]; rfl
def gO (m:bf) (fs:List (List UInt8×List aY)) (ax:List (List UInt8)):dk:=⟨ax,ey m,m.ae,fs.map (·.2)⟩
def E7 (m:bf) (fs:List (List UInt8×List aY)) (p:dO):jc:=⟨(p.params.length:Int),(p.ax.length:Int),iM (gO m fs (p.params++p.ax)) p.body⟩
def tH (m:bf) (fs:List (List UInt8×List aY)) (p:dO):Int:=er (if ee (p.params++p.ax)=true then 6 else 0) (ew (gO m fs (p.params++p.ax)) p.body)
def Ca (m:bf) (fs:List (List UInt8×List aY)):ez:=⟨m.nm,m.ae,B6 m,m.procs.map (E7 m fs),iM (gO m fs []) m.main⟩
def qh (m:bf) (fs:List (List UInt8×List aY)):Int:=er (iC (tH m fs) m.procs) (ew (gO m fs []) m.main)
def rZ:List (List UInt8)->List (List UInt8×List aY)->Bool
 | u::us,f::fs=>((vw f.1 f.2==0)&&(f.1==u))&&rZ us fs
 | _,_=>true
def cV (m:bf) (fs:List (List UInt8×List aY)):ez×Int:=
 if (ij m).2≠0 then (kz,(ij m).2) else if fs.length≠m.ae.length then (kz,8) else if rZ m.ae fs=false then (kz,1)
 else if qh m fs≠0 then (kz,qh m fs) else (Ca m fs,0)
def ik (l:List aY) (s:Nat):List (di (List UInt8)):=match l with
 | []=>[]
 | x::r=>(x.name,.agg x.cells.toArray,s)::ik r (s+1)
def gm (l:List (List UInt8)) (s:Nat):List (di (List UInt8)):=match l with
 | []=>[]
 | x::r=>(x,.int .i64 ((s+1:Nat):Int),s)::gm r (s+1)
theorem VJ:∀(l:List aY) (x:aY) (s:Nat),ik (l++[x]) s=ik l s++[(x.name,.agg x.cells.toArray,s+l.length)]
 | [],x,s=>rfl
 | y::r,x,s=>by
   rw [List.cons_append,ik,VJ r x,ik,List.cons_append,List.length_cons,show s+1+r.length=s+(r.length+1) by omega]
theorem VK:∀(l:List (List UInt8)) (x:List UInt8) (s:Nat),gm (l++[x]) s=gm l s++[(x,.int .i64 ((s+l.length+1:Nat):Int),s+l.length)]
 | [],x,s=>rfl
 | y::r,x,s=>by
   rw [List.cons_append,gm,VK r x,gm,List.cons_append,List.length_cons,show s+1+r.length=s+(r.length+1) by omega]
theorem Ok (nm:List UInt8):∀(l:List aY) (s i:Nat),(bP nm (ik l s) i).map (·.2)=(fT nm l).map λx=>.agg x.cells.toArray
 | [],_,_=>rfl
 | x::r,s,i=>by
   rw [ik,bP,fT]
   by_cases h:x.name=nm
   · simp [h]
   · rw [if_neg (by simpa using λe=>h e.symm),if_neg h]
     exact Ok nm r (s+1) (i+1)
theorem Ol (nm:List UInt8):∀(l:List (List UInt8)) (s i:Nat),(bP nm (gm l s) i).map (·.2)=(idxOf nm l s).map λk=>.int .i64 ((k+1:Nat):Int)
 | [],_,_=>rfl
 | x::r,s,i=>by
   rw [gm,bP,idxOf]
   by_cases h:x=nm
   · simp [h]
   · rw [if_neg (by simpa using λe=>h e.symm),if_neg h]
     exact Ol nm r (s+1) (i+1)
theorem VL (nm:List UInt8) (l:List aY) (z:Value):eu nm (ik l 0) z=(match fT nm l with | some x=>.agg x.cells.toArray | none=>z)/\o4 nm (ik l 0)=(fT nm l).isSome:=by
 have h:=Ok nm l 0 0;unfold eu o4
 cases hf:bP nm (ik l 0) 0 with
 | none=>rw [hf] at h; cases hi:fT nm l with | none=>exact ⟨rfl,rfl⟩ | some x=>rw [hi] at h; cases h
 | some r=>rw [hf] at h; cases hi:fT nm l with
   | none=>rw [hi] at h; cases h
   | some x=>rw [hi] at h; simp at h; exact ⟨by simp [h],rfl⟩
theorem afA (nm:List UInt8) (l:List (List UInt8)):eu nm (gm l 0) (.int .i64 0) = .int .i64 (match idxOf nm l 0 with | some k=>((k+1:Nat):Int) | none=>0):=by
 have h:=Ol nm l 0 0;unfold eu
 cases hf:bP nm (gm l 0) 0 with
 | none=>rw [hf] at h; cases hi:idxOf nm l 0 with | none=>rfl | some x=>rw [hi] at h; cases h
 | some r=>rw [hf] at h; cases hi:idxOf nm l 0 with
   | none=>rw [hi] at h; cases h
   | some x=>rw [hi] at h; simp at h; simp [h]
theorem VM {nm:List UInt8}:∀{l:List aY},fT nm l=none↔nm ∉ l.map (·.name)
 | []=>by simp [fT]
 | x::r=>by
   rw [fT]
   by_cases h:x.name=nm
   · simp [h]
   · rw [if_neg h,VM (l:=r)]
     simp [Ne.symm h,eq_comm,h]
theorem zy {nm:List UInt8}:∀{l:List (List UInt8)} {s:Nat},idxOf nm l s=none↔nm ∉ l
 | [],_=>by simp [idxOf]
 | x::r,s=>by
   rw [idxOf]
   by_cases h:x=nm
   · simp [h]
   · rw [if_neg h,zy (l:=r)]
     simp only [List.mem_cons,not_or];exact ⟨λhr=>⟨λe=>h e.symm,hr⟩,λhr=>hr.2⟩
theorem afB {l:List aY} {x:aY} (h:x.name ∉ l.map (·.name)):dY x.name (.agg x.cells.toArray) (ik l 0) l.length=ik (l++[x]) 0/\jB x.name (ik l 0) l.length=(l++[x]).length:=by
 have hf:bP x.name (ik l 0) 0=none:=by
   have:=Ok x.name l 0 0;rw [VM.2 h] at this
   simpa using this
 unfold dY jB;rw [hf,VJ];simp
theorem VN {l:List (List UInt8)} {x:List UInt8} (h:x ∉ l):dY x (.int .i64 ((l.length+1:Nat):Int)) (gm l 0) l.length=gm (l++[x]) 0/\jB x (gm l 0) l.length=(l++[x]).length:=by
 have hf:bP x (gm l 0) 0=none:=by
   have:=Ol x l 0 0;rw [zy.2 h] at this
   simpa using this
 unfold dY jB;rw [hf,VK];simp
theorem Cd {nm:List UInt8}:∀{l:List (List UInt8)} {s k:Nat},idxOf nm l s=some k->s<=k/\l[k-s]? = some nm
 | [],_,_,h=>by cases h
 | x::r,s,k,h=>by
   rw [idxOf] at h
   split at h
   · rename_i hx; injection h with h; subst h; simp [hx]
   · obtain ⟨h1,h2⟩:=Cd h
     refine ⟨by omega,?_⟩;rw [show k-s=(k-(s+1))+1 by omega]; simpa using h2
theorem Om {mod nm:List UInt8}:∀{us:List (List UInt8)} {fs:List (List aY)} {s:Nat},mod ∉ us->og mod nm us fs s=none
 | [],_,_,_=>by simp [og]
 | u::us,[],_,_=>by simp [og]
 | u::us,f::fs,s,h=>by
   rw [og,if_neg (λe=>h (by simp [e])),Om (λhm=>h (List.mem_cons_of_mem _ hm))]
theorem VO {mod nm:List UInt8}:∀{us:List (List UInt8)} {fs:List (List aY)} {s:Nat},us.Nodup->us.length=fs.length->
   og mod nm us fs s=(idxOf mod us s).bind λk=>(fs[k-s]?).bind λf=>(fT nm f).map λx=>(((k+1:Nat):Int),x)
 | [],[],_,_,_=>by simp [og,idxOf]
 | [],f::fs,_,_,h=>by simp at h
 | u::us,[],_,_,h=>by simp at h
 | u::us,f::fs,s,hn,hl=>by
   rw [og,idxOf];have vk:=List.nodup_cons.1 hn
   by_cases h:u=mod
   · rw [if_pos h,if_pos h]
     simp only [Option.bind_some,Nat.sub_self,List.getElem?_cons_zero]
     cases fT nm f with
     | none=>simp only [Option.map_none]; exact Om (h▸vk.1)
     | some x=>rfl
   · rw [if_neg h,if_neg h,VO vk.2 (by simpa using hl)]
     cases hi:idxOf mod us (s+1) with
     | none=>rfl
     | some k=>
       have:=(Cd hi).1;simp only [Option.bind_some];rw [show k-s=(k-(s+1))+1 by omega,List.getElem?_cons_succ]
end Go.Bw
end
section
namespace Go.Bw
open Go
structure cW where
 Cf:Bool
 data:Int
 parts:List Int
def cW.cells (k:cW) (r:Option Addr×Nat):List Value:=[.bool k.Cf,.int .i64 k.data,.slice r.1 k.parts.length r.2]
def im (x:Int):List Value:=[.int .i64 x]
theorem vA (x:Int):(im x).length=1:=rfl
def iN (H:View) (b o:Nat) (x:Int):Prop:=aP H b o (im x)
def qi (H:View) (b o:Nat) (k:cW):Prop:=∃r:Option Addr×Nat,aP H b o (k.cells r)/\Sl iN 1 H r.1 r.2 k.parts
def gF (u:ez):cW:=⟨true,u.data,u.parts.map (·.params)⟩
def zz:cW:=⟨false,0,[]⟩
def Cg (ks:List cW) (m pl:Int):Bool:=((decide (m<0)||decide ((ks.length:Int)<=m))||decide (pl<0))||decide (512<pl)
def r3 (ks:List cW) (m pl n:Int):Bool:=if Cg ks m pl=true then false else match ks[m.toNat]? with
 | some k=>if k.Cf=true then decide (pl+n<=k.data) else n==1||decide (pl+n<=512)
 | none=>false
def Ch (ks:List cW) (m pl:Int):Bool:=(decide (m<0)||decide ((ks.length:Int)<=m))||decide (pl<0)
def vB (ks:List cW) (m pl n:Int):Bool:=if Ch ks m pl=true then false else match ks[m.toNat]? with
 | some k=>if k.Cf=true then decide (pl<(k.parts.length:Int))&&(k.parts[pl.toNat]?).getD 0==n else decide (pl<6)&&decide (n<=3)
 | none=>false
def On (ax pl:Int):Bool:=decide (0<=pl)&&decide (pl<ax)
def E8 (n:Int):Bool:=decide (1<=n)&&decide (n<=32)
theorem afC {ks:List cW} {m pl:Int} (n:Int) (h:Cg ks m pl=true):r3 ks m pl n=false:=by rw [r3,if_pos h]
theorem afD {ks:List cW} {m pl:Int} (h:Cg ks m pl=false):(∃mi:Nat,m=mi/\mi<ks.length)/\0<=pl/\pl<=512:=by
 unfold Cg at h;simp only [Bool.or_eq_false_iff,decide_eq_false_iff_not] at h;exact ⟨⟨m.toNat,by omega,by omega⟩,by omega,by omega⟩
theorem VP {ks:List cW} {mi:Nat} {pl n:Int} {k:cW} (h:Cg ks mi pl=false) (hk:ks[mi]? = some k):r3 ks mi pl n=if k.Cf=true then decide (pl+n<=k.data) else n==1||decide (pl+n<=512):=by
 rw [r3,if_neg (by rw [h]; decide),Int.toNat_natCast,hk]
theorem afE {ks:List cW} {m pl:Int} (n:Int) (h:Ch ks m pl=true):vB ks m pl n=false:=by rw [vB,if_pos h]
theorem afF {ks:List cW} {m pl:Int} (h:Ch ks m pl=false):(∃mi:Nat,m=mi/\mi<ks.length)/\∃p:Nat,pl=p:=by
 unfold Ch at h;simp only [Bool.or_eq_false_iff,decide_eq_false_iff_not] at h;exact ⟨⟨m.toNat,by omega,by omega⟩,pl.toNat,by omega⟩
theorem VQ {ks:List cW} {mi:Nat} {pl n:Int} {k:cW} (h:Ch ks mi pl=false) (hk:ks[mi]? = some k):vB ks mi pl n=if k.Cf=true then decide (pl<(k.parts.length:Int))&&(k.parts[pl.toNat]?).getD 0==n else decide (pl<6)&&decide (n<=3):=by
 rw [vB,if_neg (by rw [h]; decide),Int.toNat_natCast,hk]
def node1 (ks:List cW) (ax op n m pl:Int) (len:Nat):Bool:=
 if op=1 then ((((m==0)&&(pl==0))&&((len:Int)==0))&&decide (0<=n))&&decide (n<=1099511627775)
 else if op=3 then ((n==0)&&((len:Int)==0))&&r3 ks m pl 1
 else if op=4 then (E8 n&&((len:Int)==1))&&r3 ks m pl n
 else if op=5 then (n==0)&&vB ks m pl len
 else if op=16 then (((m==0)&&(n==0))&&((len:Int)==0))&&On ax pl
 else if op=2 then (((m==0)&&(pl==0))&&(n==0))&&((len:Int)==0)
 else if op=6 then (((m==0)&&(pl==0))&&(n==0))&&((len:Int)==1)
 else if 7<=op/\op<=15 then (((m==0)&&(pl==0))&&(n==0))&&((len:Int)==2)
 else false
def oh (ks:List cW) (ax op n m pl:Int) (na nb no:Nat):Bool:=
 if op=1 then (((((nb:Int)+no==0)&&((na:Int)==1))&&(n==0))&&(((m==-1)&&On ax pl)||r3 ks m pl 1))
 else if op=2 then (((((nb:Int)+no==0)&&((na:Int)==2))&&E8 n)&&r3 ks m pl n)
 else if op=3 then ((((nb:Int)+no==0)&&(n==0))&&vB ks m pl na)
 else if op=4 then (((m==0)&&(pl==0))&&(n==0))&&((na:Int)==1)
 else if op=5 then ((((m==0)&&(pl==0))&&(n==0))&&((na:Int)==1))&&((no:Int)==0)
 else if op=6\/op=7 then ((((m==0)&&(pl==0))&&(n==0))&&((nb:Int)+no==0))&&((na:Int)==1)
 else false
mutual
def vC (ks:List cW) (ax:Int):cJ->Nat->Bool
 | .mk op n m pl args,d=>decide (d<=6)&&(node1 ks ax op n m pl args.length&&om ks ax args (d+1))
def om (ks:List cW) (ax:Int):List cJ->Nat->Bool
 | [],_=>true
 | x::r,d=>vC ks ax x d&&om ks ax r d
end
theorem VR (ks:List cW) (ax:Int) (x:cJ) (d:Nat):vC ks ax x d=(decide (d<=6)&&(node1 ks ax x.op x.n x.m x.pl x.args.length&&om ks ax x.args (d+1))):=by cases x; rw [vC]; rfl
theorem Jo (ks:List cW) (ax:Int) (d:Nat):∀l,om ks ax l d=l.all (vC ks ax · d)
 | []=>by rw [om]; rfl
 | x::r=>by rw [om,Jo ks ax d r]; rfl
def E9 (op:Int):Bool:=(op==4)||(op==5)
mutual
def tJ (ks:List cW) (ax:Int):cB->Nat->Bool
 | .mk op n m pl args body other,d=>oh ks ax op n m pl args.length body.length other.length&&(om ks ax args 1&&((!(E9 op)||(decide (d+1<=6)&&(decide (body.length<=10)&&vD ks ax body (d+1))))&&(!(decide (0<other.length))||(decide (d+1<=6)&&(decide (other.length<=10)&&vD ks ax other (d+1))))))
def vD (ks:List cW) (ax:Int):List cB->Nat->Bool
 | [],_=>true
 | x::r,d=>tJ ks ax x d&&vD ks ax r d
end
def je (ks:List cW) (ax:Int) (l:List cB) (d:Nat):Bool:=decide (d<=6)&&(decide (l.length<=10)&&vD ks ax l d)
theorem VS (ks:List cW) (ax:Int) (x:cB) (d:Nat):tJ ks ax x d=(oh ks ax x.op x.n x.m x.pl x.args.length x.body.length x.other.length&&(om ks ax x.args 1&&((!(E9 x.op)||je ks ax x.body (d+1))&&(!(decide (0<x.other.length))||je ks ax x.other (d+1))))):=by cases x; rw [tJ]; rfl
theorem Oo (ks:List cW) (ax:Int) (d:Nat):∀l,vD ks ax l d=l.all (tJ ks ax · d)
 | []=>by rw [vD]; rfl
 | x::r=>by rw [vD,Oo ks ax d r]; rfl
theorem afG (ks:List cW) (ax:Int) (x:cJ) (d:Nat):((decide (6<(d:Int))||!(node1 ks ax x.op x.n x.m x.pl x.args.length))||!(om ks ax x.args (d+1))) = !(vC ks ax x d):=by
 rw [VR,show decide (6<(d:Int)) = !(decide (d<=6)) by rw [Bool.eq_iff_iff]; simp; omega]
 cases decide (d<=6)<;>cases node1 ks ax x.op x.n x.m x.pl x.args.length<;>cases om ks ax x.args (d+1)<;>rfl
theorem afH (ks:List cW) (ax:Int) (x:cB) (d:Nat):(((!(oh ks ax x.op x.n x.m x.pl x.args.length x.body.length x.other.length)||!(om ks ax x.args 1))||(((x.op==4)||(x.op==5))&&!(je ks ax x.body (d+1))))||(decide (0<(x.other.length:Int))&&!(je ks ax x.other (d+1)))) = !(tJ ks ax x d):=by
 rw [VS,show decide (0<(x.other.length:Int))=decide (0<x.other.length) by rw [Bool.eq_iff_iff]; simp];unfold E9
 cases oh ks ax x.op x.n x.m x.pl x.args.length x.body.length x.other.length<;>cases om ks ax x.args 1<;>cases ((x.op==4)||(x.op==5))<;>cases je ks ax x.body (d+1)<;>cases decide (0<x.other.length)<;>cases je ks ax x.other (d+1)<;>rfl
theorem afI (ks:List cW) (ax:Int) (l:List cB) (d:Nat):(decide (6<(d:Int))||decide (10<(l.length:Int)))=true->je ks ax l d=false:=by
 intro h;unfold je
 have h2:¬(d<=6/\l.length<=10):=by simp at h; omega
 by_cases h3:d<=6
 · rw [decide_eq_false (by omega:¬l.length<=10)]; simp
 · rw [decide_eq_false h3]; simp
theorem afJ {l:List cB} {d:Nat} (h:(decide (6<(d:Int))||decide (10<(l.length:Int)))=false):d<=6/\l.length<=10:=by simp at h; omega
theorem VT (ks:List cW) (ax:Int) {l:List cB} {d:Nat} (h:d<=6/\l.length<=10):je ks ax l d=l.all (tJ ks ax · d):=by
 unfold je; rw [decide_eq_true h.1,decide_eq_true h.2,Oo]; rfl
theorem E' {α:Type} {f:α->Bool} {l:List α} {i:Nat} {x:α} (h:l[i]? = some x) (hx:f x=false):l.all f=false:=by
 cases he:l.all f with
 | false=>rfl
 | true=>rw [List.all_eq_true.1 he x (List.mem_of_getElem? h)] at hx; cases hx
theorem zA {α:Type} {f:α->Bool} {l:List α} {i:Nat} {x:α} (h:l[i]? = some x) (ha:(l.take i).all f=true) (hx:f x=true):(l.take (i+1)).all f=true:=by
 rw [List.take_add_one,h,List.all_append,ha];simp [hx]
def qj (ks:List cW) (p:jc):Bool:=!(((decide (p.params<0)||decide (3<p.params))||decide (p.locals<0))||decide (4<p.locals))&&je ks (p.params+p.locals) p.body 1
def Cj (nm:List UInt8) (us:List (List UInt8)):Bool:=!(ee (nm::us))&&us.all dG
def Cm (u:ez):Bool:=(((!(dG u.nm)||decide (3<(u.ae.length:Int)))||decide (u.data<0))||decide (512<u.data))||decide (6<(u.parts.length:Int))
def tK (u:ez) (kn:List cW):Bool:=Cj u.nm u.ae&&(!(Cm u)&&(u.parts.all (qj (gF u::kn))&&je (gF u::kn) 0 u.main 1))
def Jp (l:List ez):List (List UInt8):=l.map (·.nm)
def afK (l:List ez):Bool:=(List.range l.length).all λn=>((l[n]?.map (·.ae)).getD []).all λs=>((Jp l).take n).contains s
def VU:List ez->Int->Bool
 | [],_=>true
 | u::r,room=>!(decide (u.data<0)||decide (room<u.data))&&VU r (room-u.data)
def afL (l:List ez) (u:ez):List cW:=u.ae.map λs=>match idxOf s (Jp l) 0 with
 | some i=>(l[i]?.map gF).getD zz
 | none=>zz
end Go.Bw
end
section
namespace Go.Bw
open Go
def VV (x y:List UInt8):Bool:=Op.bytesLess x y
def oo (l:List bf):List (List UInt8):=l.map (·.nm)
def tL (l:List bf) (s:List UInt8):Option Nat:=idxOf s (oo l) 0
def k7 (l:List bf) (i:Nat):List UInt8:=(l[i]?.map (·.nm)).getD []
def tQ (l:List bf) (i:Nat):List (List UInt8):=(l[i]?.map (·.ae)).getD []
structure Oq (l:List bf):Prop where
 ef:l.length<=4
 zB:∀m ∈ l,jS m=0
 nd:(oo l).Nodup
 ae:∀m ∈ l,∀s ∈ m.ae,∃j,tL l s=some j
theorem Jq {α:Type} {f:α->Int}:∀{l:List α},iC f l=0↔∀x ∈ l,f x=0
 | []=>by simp [iC]
 | x::l=>by rw [iC,VG,Jq (l:=l)]; simp
theorem VW {l:List bf} {s:List UInt8} {j:Nat} (h:tL l s=some j):j<l.length/\k7 l j=s:=by
 have h2:=(Cd h).2;rw [Nat.sub_zero] at h2;unfold oo at h2;rw [List.getElem?_map] at h2;obtain ⟨m,hm,e⟩:=Option.map_eq_some_iff.1 h2;exact ⟨(List.getElem?_eq_some_iff.1 hm).1,by rw [k7,hm]; exact e⟩
theorem E_ {l:List bf} {i:Nat} {m:bf} (h:l[i]? = some m):k7 l i=m.nm:=by rw [k7,h]; rfl
theorem afM {l:List bf} {i:Nat} {m:bf} (h:l[i]? = some m):tQ l i=m.ae:=by rw [tQ,h]; rfl
theorem Fa {l:List bf} {i:Nat} {m:bf} (h:l[i]? = some m):(oo l)[i]? = some m.nm:=by unfold oo; rw [List.getElem?_map,h]; rfl
theorem Jr (l:List bf):(oo l).length=l.length:=by simp [oo]
theorem VX {l:List bf} (hn:(oo l).Nodup) {i j:Nat} (hi:i<l.length) (hj:j<l.length) (h:k7 l i=k7 l j):i=j:=by
 have e:(oo l)[i]? = (oo l)[j]?:=by
   rw [Fa (List.getElem?_eq_getElem hi),Fa (List.getElem?_eq_getElem hj),<-E_ (List.getElem?_eq_getElem hi),<-E_ (List.getElem?_eq_getElem hj),h]
 exact (List.getElem?_inj (by rw [Jr]; exact hi) hn).1 e
theorem afN {l:List bf} (hn:(oo l).Nodup) {i:Nat} (hi:i<l.length):tL l (k7 l i)=some i:=by
 cases hp:tL l (k7 l i) with
 | none=>
   refine absurd ?_ (zy.1 hp);rw [E_ (List.getElem?_eq_getElem hi)];exact List.mem_of_getElem? (Fa (List.getElem?_eq_getElem hi))
 | some j=>
   obtain ⟨h1,h2⟩:=VW hp;rw [VX hn h1 hi h2]
def Js (l:List bf) (d:List Nat) (s:List UInt8):Bool:=match tL l s with | some j=>d.contains j | none=>false
def Fb (l:List bf) (d:List Nat) (i:Nat):Bool:=!d.contains i&&(tQ l i).all (Js l d)
structure afO (l:List bf) (d:List Nat) (b:Nat):Prop where
 lt:b<l.length
 ready:Fb l d b=true
 least:∀i,i<l.length->Fb l d i=true->i=b\/VV (k7 l b) (k7 l i)=true
inductive Ot (l:List bf):List Nat->Prop where
 | nil:Ot l []
 | snoc {d:List Nat} {b:Nat}:Ot l d->afO l d b->Ot l (d++[b])
def xN (l:List bf) (s:List UInt8):List (List UInt8):=match tL l s with | some i=>tQ l i | none=>[]
inductive Reach (l:List bf) (a:List UInt8):List UInt8->Prop where
 | base {s:List UInt8}:s ∈ xN l a->Reach l a s
 | step {b s:List UInt8}:Reach l a b->s ∈ xN l b->Reach l a s
structure Ou (l:List bf) (a:List UInt8) (S:List UInt8->Prop):Prop where
 base:∀s ∈ xN l a,S s
 step:∀b,S b->∀s ∈ xN l b,S s
 sound:∀s,S s->Reach l a s
theorem Ou.iff {l:List bf} {a:List UInt8} {S:List UInt8->Prop} (h:Ou l a S) (s:List UInt8):S s↔Reach l a s:=
 ⟨h.sound s,λhr=>by
   induction hr with
   | base h1=>exact h.base _ h1
   | step _ h1 ih=>exact h.step _ ih _ h1⟩
def k8 (l:List (List UInt8)) (s:Nat):List (di (List UInt8)):=match l with
 | []=>[]
 | x::r=>(x,.int .i64 (s:Int),s)::k8 r (s+1)
theorem VY:∀(l:List (List UInt8)) (x:List UInt8) (s:Nat),k8 (l++[x]) s=k8 l s++[(x,.int .i64 ((s+l.length:Nat):Int),s+l.length)]
 | [],x,s=>rfl
 | y::r,x,s=>by
   rw [List.cons_append,k8,VY r x,k8,List.cons_append,List.length_cons,show s+1+r.length=s+(r.length+1) by omega]
theorem Ov (nm:List UInt8):∀(l:List (List UInt8)) (s i:Nat),(bP nm (k8 l s) i).map (·.2)=(idxOf nm l s).map λk=>.int .i64 (k:Int)
 | [],_,_=>rfl
 | x::r,s,i=>by
   rw [k8,bP,idxOf]
   by_cases h:x=nm
   · simp [h]
   · rw [if_neg (by simpa using λe=>h e.symm),if_neg h]
     exact Ov nm r (s+1) (i+1)
theorem VZ (nm:List UInt8) (l:List (List UInt8)):eu nm (k8 l 0) (.int .i64 0) = .int .i64 (((idxOf nm l 0).getD 0:Nat):Int)/\o4 nm (k8 l 0)=(idxOf nm l 0).isSome:=by
 have h:=Ov nm l 0 0;unfold eu o4
 cases hf:bP nm (k8 l 0) 0 with
 | none=>rw [hf] at h; cases hi:idxOf nm l 0 with | none=>exact ⟨rfl,rfl⟩ | some x=>rw [hi] at h; cases h
 | some r=>rw [hf] at h; cases hi:idxOf nm l 0 with
   | none=>rw [hi] at h; cases h
   | some x=>rw [hi] at h; simp at h; exact ⟨by simp [h],rfl⟩
theorem V1 {κ:Type} [BEq κ] (k:κ) (v:Value) (m:List (di κ)) (c:Nat):(dY k v m c).length<=m.length+1:=by
 unfold dY
 split<;>simp
end Go.Bw
end
section
namespace Go.Bw
open Go
def afP {α:Type} (R:α->α->Prop) (d:List α) (i:Nat):Prop:=∀(x y:Nat) (a b:α),x<y->y<i->d[x]? = some a->d[y]? = some b->R a b
structure auR {α:Type} (R:α->α->Prop) (d0 d:List α) (i j:Nat):Prop where
 perm:d.Perm d0
 ji:j<=i
 il:i<d.length
 ord:∀(x y:Nat) (a b:α),x<y->y<=i->x≠j->y≠j->d[x]? = some a->d[y]? = some b->R a b
 up:∀(y:Nat) (a b:α),j<y->y<=i->d[j]? = some a->d[y]? = some b->R a b
end Go.Bw
end
section
namespace Go.Bw
open Go Go.RowKit Go.Maps Go.Sort
open Go.WideElems (Fit rd rg pl rd_val rd_mk rg_of)
structure auS (M:List (di (List UInt8))) (c:Nat):Prop where
 nd:(M.map (·.1)).Nodup
 len:∀e ∈ M,e.1.length<=maxLen
 size:M.length<=maxLen
 born:M.map (·.2.2)=List.range M.length
 clock:c=M.length
end Go.Bw
end
section
namespace Go.Bw
open Go
section
variable {κ:Type} [BEq κ] [LawfulBEq κ]
theorem Jt (k:κ):∀(m:List (di κ)) (i j:Nat) (v:Value),bP k m i=some (j,v)->i<=j/\∃b,m[j-i]? = some (k,v,b)
 | [],i,j,v,h=>by simp [bP] at h
 | e::r,i,j,v,h=>by
   simp only [bP] at h
   split at h
   · rename_i he
     have Cn:e.1=k:=(eq_of_beq he).symm
     injection h with h
     injection h with h1 h2
     subst h1 h2;exact ⟨Nat.le_refl _,e.2.2,by rw [Nat.sub_self,List.getElem?_cons_zero,<-Cn]⟩
   · obtain ⟨h1,b,h2⟩:=Jt k r (i+1) j v h
     refine ⟨by omega,b,?_⟩;rw [show j-i=(j-(i+1))+1 by omega,List.getElem?_cons_succ];exact h2
theorem V2 (k:κ):∀(m:List (di κ)) (i:Nat),bP k m i=none↔k ∉ m.map (·.1)
 | [],i=>by simp [bP]
 | e::r,i=>by
   simp only [bP,List.map_cons,List.mem_cons,not_or]
   split
   · rename_i he
     have Cn:e.1=k:=(eq_of_beq he).symm;exact ⟨λh=>(by cases h),λh=>absurd Cn.symm h.1⟩
   · rename_i he
     have Cn:¬k=e.1:=λe2=>he (by simp [e2]);rw [V2 k r (i+1)];exact ⟨λh=>⟨Cn,h⟩,λh=>h.2⟩
theorem afQ (k:κ) (v:Value) (m:List (di κ)) (c:Nat):((k ∈ m.map (·.1))/\(dY k v m c).map (·.1)=m.map (·.1)/\(dY k v m c).map (·.2.2)=m.map (·.2.2)/\jB k m c=c)\/
   (k ∉ m.map (·.1)/\dY k v m c=m++[(k,v,c)]/\jB k m c=c+1):=by
 unfold dY jB
 cases hf:bP k m 0 with
 | none=>exact .inr ⟨(V2 k m 0).1 hf,rfl,rfl⟩
 | some r=>
   obtain ⟨j,u⟩:=r;obtain ⟨_,b,hb⟩:=Jt k m 0 j u hf;rw [Nat.sub_zero] at hb;refine .inl ⟨List.mem_map.2 ⟨_,List.mem_of_getElem? hb,O⟩,?_,?_,O⟩
   all_goals
     apply List.ext_getElem?;intro i;simp only [List.getElem?_map,List.getElem?_modify]
     by_cases xJ:j=i
     · subst xJ; rw [hb]; simp
     · simp [xJ]
theorem Co (k:κ) (v:Value) (m:List (di κ)) (c:Nat) (z:Value):eu k (dY k v m c) z=v:=by
 have key:∃e,bP k (dY k v m c) 0=some (e,v):=by
   unfold dY
   cases hf:bP k m 0 with
   | none=>
     have h1:∀(m:List (di κ)) (i:Nat),bP k m i=none->bP k (m++[(k,v,c)]) i=some (i+m.length,v):=by
       intro m
       induction m with
       | nil=>intro i _; simp [bP]
       | cons e r ih=>
         intro i h;simp only [bP,List.cons_append] at h ⊢
         split at h
         · cases h
         · rename_i he
           rw [if_neg he,ih _ h,List.length_cons]
           congr 2
           omega
     exact ⟨_,h1 m 0 hf⟩
   | some r=>
     obtain ⟨j,u⟩:=r
     have h1:∀(m:List (di κ)) (i:Nat),bP k m i=some (j,u)->bP k (m.modify (j-i) λe=>(k,v,e.2.2)) i=some (j,v):=by
       intro m
       induction m with
       | nil=>intro i h; simp [bP] at h
       | cons e r ih=>
         intro i h;simp only [bP] at h
         split at h
         · injection h with h
           injection h with h1 h2
           subst h1;rw [Nat.sub_self];simp [bP]
         · rename_i he
           have hle:=(Jt k r (i+1) j u h).1;rw [show j-i=(j-(i+1))+1 by omega,List.modify_succ_cons,bP,if_neg he];exact ih _ h
     exact ⟨_,h1 m 0 hf⟩
 obtain ⟨e,he⟩:=key;unfold eu;rw [he]
end
structure Ow (M:List (di (List UInt8))) (c p:Nat):Prop where
 nd:(M.map (·.1)).Nodup
 born:M.map (·.2.2)=List.range M.length
 clock:c=M.length
 Fc:∀x v,eu x M (.int .i64 0)=v->∃n:Nat,n<=p/\v = .int .i64 (n:Int)/\(n=0↔x ∉ M.map (·.1))
theorem Ju {κ:Type} [BEq κ] [LawfulBEq κ] {k k':κ} (v:Value) (m:List (di κ)) (c:Nat) (z:Value) (h:k'≠k):eu k' (dY k v m c) z=eu k' m z:=by
 have h1:∀(m:List (di κ)) (i:Nat),(bP k' (m++[(k,v,c)]) i).map (·.2)=(bP k' m i).map (·.2):=by
   intro m
   induction m with
   | nil=>intro i; simp [bP,h]
   | cons e r ih=>intro i; simp only [bP,List.cons_append]; split<;>simp [ih]
 have h2:∀(m:List (di κ)) (i j:Nat),(m[j]?.map (·.1)=some k)->(bP k' (m.modify j λe=>(k,v,e.2.2)) i).map (·.2)=(bP k' m i).map (·.2):=by
   intro m
   induction m with
   | nil=>intro i j hj; simp at hj
   | cons e r ih=>
     intro i j hj
     cases j with
     | zero=>
       have Ox:e.1=k:=by simpa using hj
       have dB:¬(k'==e.1)=true:=by rw [Ox]; simpa using h
       have afR:¬(k'==k)=true:=by simpa using h
       rw [List.modify_zero_cons,bP,bP,if_neg dB,if_neg (show ¬(k'==(k,v,e.2.2).1)=true from afR)]
     | succ j=>
       rw [List.modify_succ_cons,bP,bP]
       split
       · rfl
       · exact ih _ _ (by simpa using hj)
 have h3:(bP k' (dY k v m c) 0).map (·.2)=(bP k' m 0).map (·.2):=by
   unfold dY
   cases hf:bP k m 0 with
   | none=>exact h1 m 0
   | some r=>
     obtain ⟨j,u⟩:=r;obtain ⟨_,b,hb⟩:=Jt k m 0 j u hf;rw [Nat.sub_zero] at hb;exact h2 m 0 j (by rw [hb]; rfl)
 unfold eu
 cases ha:bP k' (dY k v m c) 0 with
 | none=>rw [ha] at h3; cases hb:bP k' m 0 with | none=>rfl | some r=>rw [hb] at h3; cases h3
 | some q=>rw [ha] at h3; cases hb:bP k' m 0 with
   | none=>rw [hb] at h3; cases h3
   | some r=>rw [hb] at h3; simp at h3; simp [h3]
theorem Ow.put {M:List (di (List UInt8))} {c p n:Nat} {x:List UInt8} (h:Ow M c p) (hn:n<=p) (h0:n=0↔x ∉ M.map (·.1)) :
   Ow (dY x (.int .i64 ((n+1:Nat):Int)) M c) (jB x M c) (p+1)/\(dY x (.int .i64 ((n+1:Nat):Int)) M c).map (·.1)=(if n=0 then M.map (·.1)++[x] else M.map (·.1)):=by
 have Cp:∀y v,eu y (dY x (.int .i64 ((n+1:Nat):Int)) M c) (.int .i64 0)=v->∃k:Nat,k<=p+1/\v = .int .i64 (k:Int)/\(k=0↔y ∉ (if n=0 then M.map (·.1)++[x] else M.map (·.1))):=by
   intro y v hv
   by_cases hy:y=x
   · subst hy
     rw [Co] at hv;refine ⟨n+1,by omega,hv.symm,?_⟩
     split
     · simp
     · rename_i dB
       exact ⟨λh=>by omega,λh2=>absurd (h0.2 h2) dB⟩
   · rw [Ju _ _ _ _ hy] at hv
     obtain ⟨k,h1,h2,h3⟩:=h.Fc y v hv;refine ⟨k,by omega,h2,h3.trans ?_⟩
     split
     · simp [hy]
     · rfl
 rcases afQ x (.int .i64 ((n+1:Nat):Int)) M c with ⟨h1,h2,h3,h4⟩ | ⟨h1,h2,h3⟩
 · have dB:¬n=0:=λe=>h0.1 e h1
   rw [if_neg dB] at Cp ⊢
   have hlen:(dY x (.int .i64 ((n+1:Nat):Int)) M c).length=M.length:=by have:=congrArg List.length h2; simpa using this
   exact ⟨⟨by rw [h2]; exact h.nd,by rw [h3,hlen]; exact h.born,by rw [h4,hlen]; exact h.clock,λy v hv=>by rw [h2]; exact Cp y v hv⟩,h2⟩
 · have he:n=0:=h0.2 h1
   rw [if_pos he] at Cp ⊢
   have hk:(dY x (.int .i64 ((n+1:Nat):Int)) M c).map (·.1)=M.map (·.1)++[x]:=by rw [h2]; simp
   refine ⟨⟨?_,?_,?_,λy v hv=>by rw [hk]; exact Cp y v hv⟩,hk⟩
   · rw [hk,List.nodup_append]
     exact ⟨h.nd,by simp,λa ha b hb e=>by rw [List.mem_singleton] at hb; subst hb; subst e; exact h1 ha⟩
   · rw [h2,List.map_append,h.born,List.length_append,List.length_singleton,List.range_succ,h.clock]; rfl
   · rw [h3,h2,h.clock]; simp
structure Fe (l:List bf) (nm:List UInt8) (ds nx:List (List UInt8)):Prop where
 base:∀s ∈ xN l nm,s ∈ ds\/s ∈ nx
 step:∀b ∈ ds,∀s ∈ xN l b,s ∈ ds\/s ∈ nx
 sound:∀s,s ∈ ds\/s ∈ nx->Reach l nm s
theorem Fe.new {l:List bf} {nm x:List UInt8} {ds r:List (List UInt8)} (h:Fe l nm ds (x::r)):Fe l nm (ds++[x]) (r++xN l x):=by
 have key:∀s,s ∈ ds\/s ∈ x::r->s ∈ ds++[x]\/s ∈ r++xN l x:=λs hs=>by
   rcases hs with hs | hs
   · exact .inl (List.mem_append_left _ hs)
   · rcases List.mem_cons.1 hs with e | hs
     · subst e; exact .inl (by simp)
     · exact .inr (List.mem_append_left _ hs)
 refine ⟨λs hs=>key s (h.base s hs),λb hb s hs=>?_,λs hs=>?_⟩
 · rcases List.mem_append.1 hb with hb | hb
   · exact key s (h.step b hb s hs)
   · rw [List.mem_singleton] at hb; subst hb
     exact .inr (List.mem_append_right _ hs)
 · rcases hs with hs | hs
   · rcases List.mem_append.1 hs with hs | hs
     · exact h.sound s (.inl hs)
     · rw [List.mem_singleton] at hs; subst hs
       exact h.sound _ (.inr (by simp))
   · rcases List.mem_append.1 hs with hs | hs
     · exact h.sound s (.inr (List.mem_cons_of_mem _ hs))
     · exact .step (h.sound x (.inr (by simp))) hs
theorem Fe.fin {l:List bf} {nm:List UInt8} {ds:List (List UInt8)} (h:Fe l nm ds []) (s:List UInt8):s ∈ ds↔Reach l nm s:=
 Ou.iff (S:=λs=>s ∈ ds) ⟨λs hs=>(h.base s hs).resolve_right (by simp),λb hb s hs=>(h.step b hb s hs).resolve_right (by simp),λs hs=>h.sound s (.inl hs)⟩ s
end Go.Bw
end
section
namespace Go.Bw
open Go
def nn (l:List (List UInt8)) (s:Nat):List (di (List UInt8)):=match l with
 | []=>[]
 | x::r=>(x,.int .i64 1,s)::nn r (s+1)
theorem V3:∀(l:List (List UInt8)) (x:List UInt8) (s:Nat),nn (l++[x]) s=nn l s++[(x,.int .i64 1,s+l.length)]
 | [],x,s=>rfl
 | y::r,x,s=>by
   rw [List.cons_append,nn,V3 r x,nn,List.cons_append,List.length_cons,show s+1+r.length=s+(r.length+1) by omega]
theorem Oy (nm:List UInt8):∀(l:List (List UInt8)) (s i:Nat),(bP nm (nn l s) i).map (·.2)=if l.contains nm=true then some (.int .i64 1) else none
 | [],_,_=>rfl
 | x::r,s,i=>by
   rw [nn,bP]
   by_cases h:x=nm
   · subst h; simp
   · rw [if_neg (by simpa using λe=>h e.symm),Oy nm r (s+1) (i+1)]
     have h2:¬nm=x:=λe=>h e.symm;simp [h2]
theorem afS (nm:List UInt8) (l:List (List UInt8)):eu nm (nn l 0) (.int .i64 0) = .int .i64 (if l.contains nm=true then 1 else 0):=by
 have h:=Oy nm l 0 0;unfold eu
 cases hf:bP nm (nn l 0) 0 with
 | none=>rw [hf] at h; split at h<;>simp_all
 | some r=>rw [hf] at h; split at h<;>simp_all
theorem V4 {x:List UInt8} {l:List (List UInt8)} (h:l.contains x=false):dY x (.int .i64 1) (nn l 0) l.length=nn (l++[x]) 0/\jB x (nn l 0) l.length=(l++[x]).length:=by
 have hf:=Oy x l 0 0;rw [if_neg (by rw [h]; decide)] at hf
 have h0:bP x (nn l 0) 0=none:=by cases hg:bP x (nn l 0) 0 with | none=>rfl | some r=>rw [hg] at hf; cases hf
 unfold dY jB;rw [h0,V3];simp
structure Oz (ns:List (List UInt8)) (i:Nat) (M:List (di (List UInt8))) (c:Nat):Prop where
 mem:∀s,∃v:Nat,eu s M (.int .i64 0) = .int .i64 (v:Int)/\(v=0↔s ∉ ns.take i)
 NQ:((ns.take i).Nodup/\M=gm (ns.take i) 0/\c=i)\/(¬(ns.take i).Nodup/\M.length<i)
theorem Oz.new {ns:List (List UInt8)} {i c:Nat} {M:List (di (List UInt8))} {x:List UInt8} (h:Oz ns i M c) (hx:ns[i]? = some x) (hm:x ∉ ns.take i):Oz ns (i+1) (dY x (.int .i64 ((i+1:Nat):Int)) M c) (jB x M c):=by
 have hT:ns.take (i+1)=ns.take i++[x]:=by rw [List.take_add_one,hx]; rfl
 have av:=(List.getElem?_eq_some_iff.1 hx).1
 have hl:(ns.take i).length=i:=by simp; omega
 refine ⟨λs=>?_,?_⟩
 · by_cases e:s=x
   · subst e
     exact ⟨i+1,Co s _ M c _,by rw [hT]; simp⟩
   · obtain ⟨v,h1,h2⟩:=h.mem s
     refine ⟨v,by rw [Ju _ M c _ e]; exact h1,h2.trans ?_⟩;rw [hT]; simp [e]
 · rcases h.NQ with ⟨h1,rfl,rfl⟩ | ⟨h1,h3⟩
   · left
     have hp:=VN (l:=ns.take c) (x:=x) hm;rw [hl] at hp;refine ⟨?_,by rw [hp.1,hT],by rw [hp.2]; simp; omega⟩;rw [hT,List.nodup_append];refine ⟨h1,by simp,λa ha b hb e=>?_⟩;rw [List.mem_singleton] at hb; subst hb; subst e; exact hm ha
   · right
     refine ⟨λhn=>h1 ?_,?_⟩
     · rw [hT,List.nodup_append] at hn; exact hn.1
     · have:=V1 x (.int .i64 ((i+1:Nat):Int)) M c
       omega
theorem afT {nm s:List UInt8} {us:List (List UInt8)} {i:Nat} (h:us[i]? = some s) (hx:(nm::us.take i).contains s=true\/dG s=false):Cj nm us=false:=by
 unfold Cj
 rcases hx with hx | hx
 · have h2:ee (nm::us)=true:=by
     have hn:¬(nm::us).Nodup:=λhn=>by
       have e:nm::us=(nm::us.take i)++us.drop i:=by simp
       rw [e,List.nodup_append] at hn;refine hn.2.2 s (by simpa using hx) s ?_ O
       have:us.drop i=s::us.drop (i+1):=by
         rw [List.drop_eq_getElem_cons (List.getElem?_eq_some_iff.1 h).1,(List.getElem?_eq_some_iff.1 h).2]
       rw [this]; simp
     rw [o8] at hn
     simpa using hn
   rw [h2]; rfl
 · rw [E' h hx]; simp
theorem afU {nm:List UInt8} {us:List (List UInt8)} (h1:(nm::us).Nodup) (h2:us.all dG=true):Cj nm us=true:=by
 unfold Cj; rw [o8.1 h1,h2]; rfl
end Go.Bw
end
section
namespace Go.Bw
open Go
structure Wm where
 data:List Int
 bo:List Int
 out:List Int
 bD:Nat
 calls:Nat
inductive Rz (σ α:Type) where
 | ok (a:α) (s:σ)
 | ov (e:Int) (w:Wm)
def Rz.bind {σ α β:Type} (r:Rz σ α) (f:α->σ->Rz σ β):Rz σ β:=match r with
 | .ok a s=>f a s
 | .ov e w=>.ov e w
structure Fm where
 loc:List Int
 val:Int
 w:Wm
structure Env where
 l:List ez
 ae:List (List Nat)
 Ff:List Nat
 fp:Nat
def Env.mod (P:Env) (u:Nat) (m:Int):Nat:=(((P.ae[u]?).getD [])[m.toNat]?).getD 0
def Env.at_ (P:Env) (u:Nat) (m pl:Int):Nat:=(P.Ff[P.mod u m]?).getD 0+pl.toNat
def V5 (P:Env) (w:Wm):Rz Wm Unit:=if w.bD=P.fp then .ov 3 w else .ok () { w with bD:=w.bD+1 }
abbrev Ev:=List Int->Wm->Rz Wm Int
abbrev Cl:=Nat->List Int->List cB->Wm->Rz Wm Int
def Rz.fr {α:Type} (f:Fm) (r:Rz Wm α):Rz Fm α:=match r with
 | .ok a w=>.ok a { f with w:=w }
 | .ov e w=>.ov e w
def V6:List ez->Nat->List Nat
 | [],_=>[]
 | u::r,s=>s::V6 r (s+u.data.toNat)
def afV (l:List ez):List (List Nat):=(List.range l.length).map λn=>n::((l[n]?.map (·.ae)).getD []).map λs=>(idxOf s (Jp l) 0).getD 0
structure pf where
 fin:Int
 out:List Int
 data:List Int
 bD:Int
end Go.Bw
end
section
namespace Go.Bw
open Go
structure afW (l:List ez):Prop where
 ef:1<=l.length/\l.length<=4
 ahead:afK l=true
 nd:(Jp l).Nodup
 data:VU l 512=true
 auT:∀u ∈ l,tK u (afL l u)=true
theorem afX {u:ez} {kn:List cW} (h:tK u kn=true):(∀p ∈ u.parts,qj (gF u::kn) p=true)/\je (gF u::kn) 0 u.main 1=true/\Cm u=false/\Cj u.nm u.ae=true:=by
 unfold tK at h;obtain ⟨h1,h2⟩:=Bool.and_eq_true_iff.1 h;obtain ⟨h2,h3⟩:=Bool.and_eq_true_iff.1 h2;obtain ⟨h3,h4⟩:=Bool.and_eq_true_iff.1 h3;exact ⟨λp hp=>List.all_eq_true.1 h3 p hp,h4,by simpa using h2,h1⟩
theorem afY {kn:List cW} {p:jc} (h:qj kn p=true):0<=p.params/\p.params<=3/\0<=p.locals/\p.locals<=4/\je kn (p.params+p.locals) p.body 1=true:=by
 unfold qj at h;obtain ⟨h1,h2⟩:=Bool.and_eq_true_iff.1 h
 have h1:(((decide (p.params<0)||decide (3<p.params))||decide (p.locals<0))||decide (4<p.locals))=false:=by simpa using h1
 simp only [Bool.or_eq_false_iff,decide_eq_false_iff_not] at h1;exact ⟨by omega,by omega,by omega,by omega,h2⟩
open Go.ChangeShapes Go.WideShapes Go.ChangeAt Go.RowKit Go.Joins Go.Deep
mutual
def dy:cJ->Nat
 | .mk _ _ _ _ args=>1+fW args
def fW:List cJ->Nat
 | []=>0
 | x::r=>dy x+fW r
end
mutual
def r_:cB->Nat
 | .mk _ _ _ _ args body other=>1+fW args+eh body+eh other
def eh:List cB->Nat
 | []=>0
 | x::r=>r_ x+eh r
end
def Fg (p:jc):Nat:=1+eh p.body
def lM:List jc->Nat
 | []=>0
 | p::r=>Fg p+lM r
def Fh (u:ez):Nat:=1+u.nm.length+wN u.ae+lM u.parts+eh u.main
def afZ (n:Nat) (H:View) (b o:Nat) (u:ez):Prop:=∃r:kZ,aP H b o (fo u r)/\k6 n n H r u
structure auU (P:Program) (tN tA tP tU sd Fi B4 mh:TypeId) (e s p m:Array Field) (tI tT:TypeId):Prop where
 uI:P.underlying tI=some (.int .i64)
 uT:P.underlying tT=some .string
 cT:P.cellsOf tT=1
 uN:P.underlying tN=some (.struct e)
 rN:(jO P 0 e.toList&&Nat.beq (P.cellsOf tN) e.size)=true
 fN:e.map (·.type) = #[tI,tI,tI,tI,sd]
 V7:P.underlying sd=some (.slice tN)
 uA:P.underlying tA=some (.struct s)
 rA:(jO P 0 s.toList&&Nat.beq (P.cellsOf tA) s.size)=true
 fA:s.map (·.type) = #[tI,tI,tI,tI,sd,Fi,Fi]
 uAs:P.underlying Fi=some (.slice tA)
 uP:P.underlying tP=some (.struct p)
 rP:(jO P 0 p.toList&&Nat.beq (P.cellsOf tP) p.size)=true
 fP:p.map (·.type) = #[tI,tI,Fi]
 uPs:P.underlying B4=some (.slice tP)
 Oa:P.underlying mh=some (.slice tT)
 uU:P.underlying tU=some (.struct m)
 rU:(jO P 0 m.toList&&Nat.beq (P.cellsOf tU) m.size)=true
 fU:m.map (·.type) = #[tT,mh,tI,B4,Fi]
end Go.Bw
end
section
namespace Go.Bw
open Go
structure aI where
 op:Int
 a:Int
 b:Int
structure ei where
 at_:Int
 kind:Int
 m:Int
structure Gs where
 code:List aI
 fix:List ei
abbrev Gk:=Gs->Gs
def aM (l:List aI) (g:Gs):Gs:={ g with code:=g.code++l }
def au (i:aI) (kind m:Int) (g:Gs):Gs:=⟨g.code++[i],g.fix++[⟨(g.code.length:Int),kind,m⟩]⟩
def cg (n:Nat) (g:Gs):Gs:={ g with code:=g.code.modify n λi=>{ i with a:=(g.code.length:Int) } }
def lN (ks:List Gk) (i:Nat):Gk:=(ks[i]?).getD id
def zC (ks:List Gk) (g:Gs):Gs:=ks.foldl (λg k=>k g) g
def OA (k0 k1:Gk) (g:Gs):Gs:=
 let g1:=k0 g
 let g3:=aM [⟨22,0,0⟩] (k1 (au ⟨12,0,0⟩ 1 0 g1))
 cg g3.code.length (aM [⟨1,0,0⟩] (cg g1.code.length (au ⟨11,0,0⟩ 1 0 g3)))
def OB (k0 k1:Gk) (g:Gs):Gs:=
 let g1:=k0 g
 let g3:=aM [⟨1,1,0⟩] (au ⟨12,0,0⟩ 1 0 g1)
 cg g3.code.length (aM [⟨22,0,0⟩] (k1 (cg g1.code.length (au ⟨11,0,0⟩ 1 0 g3))))
def pg (op n m pl:Int) (ks:List Gk) (g:Gs):Gs:=
 if op=1 then aM [⟨1,n,0⟩] g
 else if op=2 then aM [⟨18,0,0⟩] g
 else if op=16 then aM [⟨2,pl,0⟩] g
 else if op=3 then au ⟨4,pl,0⟩ 3 m g
 else if op=4 then aM [⟨7,0,0⟩] (au ⟨6,pl,n⟩ 3 m (lN ks 0 g))
 else if op=5 then au ⟨13,pl,0⟩ 2 m (zC ks g)
 else if op=7 then OA (lN ks 0) (lN ks 1) g
 else if op=8 then OB (lN ks 0) (lN ks 1) g
 else if op=6 then aM [⟨9,0,0⟩] (zC ks g)
 else aM [⟨10,op,0⟩] (zC ks g)
mutual
def ag:cJ->Gs->Gs
 | .mk op n m pl args,g=>pg op n m pl (lO args) g
def lO:List cJ->List Gk
 | []=>[]
 | x::r=>(λg=>ag x g)::lO r
end
theorem tR (x:cJ) (g:Gs):ag x g=pg x.op x.n x.m x.pl (lO x.args) g:=by cases x; rw [ag]; rfl
theorem Cq:∀l,lO l=l.map ag
 | []=>by rw [lO]; rfl
 | x::r=>by rw [lO,Cq r]; rfl
def eA (l:List cJ) (g:Gs):Gs:=l.foldl (λg x=>ag x g) g
theorem Fj (l:List cJ) (g:Gs):zC (lO l) g=eA l g:=by rw [Cq]; unfold zC eA; rw [List.foldl_map]
theorem af0 {l:List cJ} {i:Nat} {x:cJ} (h:l[i]? = some x) (g:Gs):eA (l.take (i+1)) g=ag x (eA (l.take i) g):=by
 unfold eA; rw [List.take_add_one,h]; simp
def Jv (k0 body other:Gk) (ol:Nat) (g:Gs):Gs:=
 let g1:=k0 g
 let g3:=body (au ⟨12,0,0⟩ 1 0 g1)
 if 0<ol then cg g3.code.length (other (cg g1.code.length (au ⟨11,0,0⟩ 1 0 g3))) else cg g1.code.length g3
def V8 (k0 body:Gk) (g:Gs):Gs:=
 let g1:=k0 g
 cg g1.code.length (au ⟨11,(g.code.length:Int),0⟩ 1 0 (body (aM [⟨16,0,0⟩] (au ⟨12,0,0⟩ 1 0 g1))))
def ql (op n m pl:Int) (ks:List Gk) (body other:Gk) (ol:Nat) (g:Gs):Gs:=
 if op=1 then (if m<0 then aM [⟨3,pl,0⟩] (lN ks 0 g) else au ⟨5,pl,0⟩ 3 m (lN ks 0 g))
 else if op=2 then aM [⟨8,0,0⟩] (lN ks 1 (au ⟨6,pl,n⟩ 3 m (lN ks 0 g)))
 else if op=3 then aM [⟨17,0,0⟩] (au ⟨13,pl,0⟩ 2 m (zC ks g))
 else if op=4 then Jv (lN ks 0) body other ol g
 else if op=5 then V8 (lN ks 0) body g
 else if op=6 then aM [⟨15,0,0⟩] (lN ks 0 g)
 else if op=7 then aM [⟨19,0,0⟩] (lN ks 0 g)
 else g
mutual
def lP:cB->Gs->Gs
 | .mk op n m pl args body other,g=>ql op n m pl (lO args) (λg=>bE body g) (λg=>bE other g) other.length g
def bE:List cB->Gs->Gs
 | [],g=>g
 | x::r,g=>bE r (lP x g)
end
theorem vE (x:cB) (g:Gs):lP x g=ql x.op x.n x.m x.pl (lO x.args) (λg=>bE x.body g) (λg=>bE x.other g) x.other.length g:=by cases x; rw [lP]; rfl
theorem V9:∀(a b:List cB) (g:Gs),bE (a++b) g=bE b (bE a g)
 | [],b,g=>by rw [bE]; rfl
 | x::r,b,g=>by rw [List.cons_append,bE,V9 r b,bE]
theorem af1 {l:List cB} {i:Nat} {x:cB} (h:l[i]? = some x) (g:Gs):bE (l.take (i+1)) g=lP x (bE (l.take i) g):=by
 rw [List.take_add_one,h]
 show bE (l.take i++[x]) g=_
 rw [V9,bE,bE]
def mo (params locals:Int) (body:List cB) (g:Gs):Gs:=aM [⟨1,0,0⟩,⟨15,0,0⟩] (bE body (aM [⟨14,params,locals⟩] g))
def cj:List jc->Gs->List Nat×Gs
 | [],g=>([],g)
 | p::r,g=>(g.code.length::(cj r (mo p.params p.locals p.body g)).1,(cj r (mo p.params p.locals p.body g)).2)
theorem V':∀(a:List jc) (p:jc) (g:Gs),cj (a++[p]) g=((cj a g).1++[(cj a g).2.code.length],mo p.params p.locals p.body (cj a g).2)
 | [],p,g=>rfl
 | x::r,p,g=>by rw [List.cons_append,cj,V' r p]; rfl
structure se where
 nm:List UInt8
 ae:List (List UInt8)
 data:Int
 g:Gs
 bY:List Nat
 main:Nat
def Fk:se:=⟨[],[],0,⟨[],[]⟩,[],0⟩
def Fl (u:ez):Bool:=tK u (List.replicate u.ae.length zz)
def Fo (u:ez):se:=
 let r:=cj u.parts ⟨[],[]⟩
 ⟨u.nm,u.ae,u.data,mo 0 0 u.main r.2,r.1,r.2.code.length⟩
def k9 (u:ez):se×Int:=if Fl u=false then (Fk,1) else if 2048<(Fo u).g.code.length then (Fk,2) else (Fo u,0)
structure GL (c:Nat) (g g':Gs):Prop where
 lo:g.code.length<=g'.code.length
 hi:g'.code.length<=g.code.length+c
 OC:g.fix.length<=g'.fix.length
 gh:g'.fix.length<=g.fix.length+c
theorem GL.refl (c:Nat) (g:Gs):GL c g g:=⟨Nat.le_refl _,Nat.le_add_right _ _,Nat.le_refl _,Nat.le_add_right _ _⟩
theorem GL.trans {a b:Nat} {g g' Fp:Gs} (h:GL a g g') (k:GL b g' Fp):GL (a+b) g Fp:=⟨Nat.le_trans h.lo k.lo,by have:=h.hi; have:=k.hi; omega,Nat.le_trans h.OC k.OC,by have:=h.gh; have:=k.gh; omega⟩
theorem GL.mono {a b:Nat} {g g':Gs} (h:GL a g g') (gj:a<=b):GL b g g':=⟨h.lo,by have:=h.hi; omega,h.OC,by have:=h.gh; omega⟩
theorem k_ (l:List aI) (g:Gs):GL l.length g (aM l g):=⟨by simp [aM],by simp [aM],Nat.le_refl _,Nat.le_add_right _ _⟩
theorem np (i:aI) (k m:Int) (g:Gs):GL 1 g (au i k m g):=⟨by simp [au],by simp [au],by simp [au],by simp [au]⟩
theorem xO (n:Nat) (g:Gs):GL 0 g (cg n g):=⟨by simp [cg],by simp [cg],Nat.le_refl _,Nat.le_refl _⟩
theorem OD {ks:List Gk} {cs:List Nat} (h:ks.length=cs.length) (hk:∀(i:Nat) k c,ks[i]? = some k->cs[i]? = some c->∀g,GL c g (k g)):∀g,GL cs.sum g (zC ks g):=by
 induction ks generalizing cs with
 | nil=>intro g; cases cs with | nil=>exact .refl _ _ | cons c r=>cases h
 | cons k r ih=>
   intro g
   cases cs with
   | nil=>cases h
   | cons c cr=>
     have h1:=hk 0 k c rfl rfl g;have h2:=ih (cs:=cr) (by simpa using h) (λi k' c' a b=>hk (i+1) k' c' (by simpa using a) (by simpa using b)) (k g);exact h1.trans h2
theorem Jw {ks:List Gk} {cs:List Nat} (h:ks.length=cs.length) (hk:∀(i:Nat) k c,ks[i]? = some k->cs[i]? = some c->∀g,GL c g (k g)) (i:Nat):∀g,GL ((cs[i]?).getD 0) g (lN ks i g):=λg=>by
 unfold lN
 cases hi:ks[i]? with
 | none=>exact .refl _ _
 | some k=>
   have av:=(List.getElem?_eq_some_iff.1 hi).1;obtain ⟨c,hc⟩:∃c,cs[i]? = some c:=⟨_,List.getElem?_eq_getElem (by omega)⟩;rw [hc];exact hk i k c hi hc g
theorem V_:∀(cs:List Nat),(cs[0]?).getD 0+(cs[1]?).getD 0<=cs.sum
 | []=>by simp
 | [a]=>by simp
 | a::b::r=>by simp only [List.getElem?_cons_zero,List.getElem?_cons_succ,Option.getD_some,List.sum_cons]; omega
mutual
theorem mq:∀(x:cJ) (g:Gs),GL (8*dy x) g (ag x g)
 | .mk op n m pl args,g=>by
   rw [ag];have hk:=Jy args
   have hl:(lO args).length=(args.map λx=>8*dy x).length:=by rw [Cq]; simp
   have hs:(args.map λx=>8*dy x).sum=8*fW args:=Jz args;have ha:=OD hl hk;have h0:=Jw hl hk 0;have h1:=Jw hl hk 1;have h2:=V_ (args.map λx=>8*dy x);rw [hs] at ha h2
   have hw:dy (.mk op n m pl args)=1+fW args:=by rw [dy]
   rw [hw];unfold pg
   split
   · exact (k_ _ g).mono (by simp only [List.length_cons,List.length_nil]; omega)
   · split
     · exact (k_ _ g).mono (by simp only [List.length_cons,List.length_nil]; omega)
     · split
       · exact (k_ _ g).mono (by simp only [List.length_cons,List.length_nil]; omega)
       · split
         · exact (np _ _ _ g).mono (by omega)
         · split
           · exact (((h0 g).trans (np _ _ _ _)).trans (k_ _ _)).mono (by simp only [List.length_cons,List.length_nil]; omega)
           · split
             · exact ((ha g).trans (np _ _ _ _)).mono (by omega)
             · split
               · unfold OA
                 exact (((((((h0 g).trans (np _ _ _ _)).trans (h1 _)).trans (k_ _ _)).trans (np _ _ _ _)).trans (xO _ _)).trans (k_ _ _) |>.trans (xO _ _)).mono (by simp only [List.length_cons,List.length_nil]; omega)
               · split
                 · unfold OB
                   exact (((((((h0 g).trans (np _ _ _ _)).trans (k_ _ _)).trans (np _ _ _ _)).trans (xO _ _)).trans (h1 _)).trans (k_ _ _) |>.trans (xO _ _)).mono (by simp only [List.length_cons,List.length_nil]; omega)
                 · split
                   · exact ((ha g).trans (k_ _ _)).mono (by simp only [List.length_cons,List.length_nil]; omega)
                   · exact ((ha g).trans (k_ _ _)).mono (by simp only [List.length_cons,List.length_nil]; omega)
theorem Jy:∀(l:List cJ) (i:Nat) k c,(lO l)[i]? = some k->(l.map λx=>8*dy x)[i]? = some c->∀g,GL c g (k g)
 | [],i,k,c,h,_,g=>by rw [lO] at h; simp at h
 | x::r,0,k,c,h,hc,g=>by
   rw [lO] at h;simp at h hc;subst h hc;exact mq x g
 | x::r,i+1,k,c,h,hc,g=>by
   rw [lO] at h;exact Jy r i k c (by simpa using h) (by simpa using hc) g
theorem Jz:∀(l:List cJ),(l.map λx=>8*dy x).sum=8*fW l
 | []=>by simp [fW]
 | x::r=>by rw [List.map_cons,List.sum_cons,Jz r,fW]; omega
end
mutual
theorem af2:∀(x:cB) (g:Gs),GL (8*r_ x) g (lP x g)
 | .mk op n m pl args body other,g=>by
   rw [lP];have hk:=Jy args
   have hl:(lO args).length=(args.map λx=>8*dy x).length:=by rw [Cq]; simp
   have ha:=OD hl hk;have h0:=Jw hl hk 0;have h1:=Jw hl hk 1;have h2:=V_ (args.map λx=>8*dy x);rw [Jz] at ha h2;have hb:=vF body;have ho:=vF other
   have hw:r_ (.mk op n m pl args body other)=1+fW args+eh body+eh other:=by rw [r_]
   rw [hw];unfold ql
   split
   · split
     · exact ((h0 g).trans (k_ _ _)).mono (by simp only [List.length_cons,List.length_nil]; omega)
     · exact ((h0 g).trans (np _ _ _ _)).mono (by omega)
   · split
     · exact ((((h0 g).trans (np _ _ _ _)).trans (h1 _)).trans (k_ _ _)).mono (by simp only [List.length_cons,List.length_nil]; omega)
     · split
       · exact (((ha g).trans (np _ _ _ _)).trans (k_ _ _)).mono (by simp only [List.length_cons,List.length_nil]; omega)
       · split
         · unfold Jv
           dsimp only
           split
           · exact ((((((h0 g).trans (np _ _ _ _)).trans (hb _)).trans (np _ _ _ _)).trans (xO _ _)).trans (ho _) |>.trans (xO _ _)).mono (by omega)
           · exact ((((h0 g).trans (np _ _ _ _)).trans (hb _)).trans (xO _ _)).mono (by omega)
         · split
           · unfold V8
             exact ((((((h0 g).trans (np _ _ _ _)).trans (k_ _ _)).trans (hb _)).trans (np _ _ _ _)).trans (xO _ _)).mono (by simp only [List.length_cons,List.length_nil]; omega)
           · split
             · exact ((h0 g).trans (k_ _ _)).mono (by simp only [List.length_cons,List.length_nil]; omega)
             · split
               · exact ((h0 g).trans (k_ _ _)).mono (by simp only [List.length_cons,List.length_nil]; omega)
               · exact .refl _ _
theorem vF:∀(l:List cB) (g:Gs),GL (8*eh l) g (bE l g)
 | [],g=>by rw [bE]; exact .refl _ _
 | x::r,g=>by
   rw [bE,eh];exact ((af2 x g).trans (vF r _)).mono (by omega)
end
theorem af3 (pa lo:Int) (b:List cB) (g:Gs):GL (8*(1+eh b)) g (mo pa lo b g):=by
 unfold mo;exact (((k_ _ g).trans (vF b _)).trans (k_ _ _)).mono (by simp only [List.length_cons,List.length_nil]; omega)
theorem OE:∀(l:List jc) (g:Gs),GL (8*lM l) g (cj l g).2/\(cj l g).1.length=l.length
 | [],g=>⟨.refl _ _,rfl⟩
 | p::r,g=>by
   have ih:=OE r (mo p.params p.locals p.body g);refine ⟨?_,by simp [cj,ih.2]⟩;rw [cj,lM];exact ((af3 p.params p.locals p.body g).trans ih.1).mono (by unfold Fg; omega)
section
variable {P:Program} {ops:Array Oper} {Q:Exit->Act->World->Prop} {n:Nat} {ds:List Deferred} {l:List (Nat×Value)} {w0:World} {F:List Nat} {L:List ao} {Vs:List View} {rest:List Oper}
 {ty:TypeId} {pos:String} {af:Array Edge} {g:Option (Nat×Bool)} {d:Nat}
theorem WL.xP {ι:Type} {f:FuncId} {cx:Operand} {eV:Array Value} {args:Array Operand} {ts:Array TypeId} {vs:List Value} (L1 L2:List ao) (hg:cP ops l g) (hn:Nat.blt d n=true) (hf:Enters P f) (rI:aB l cx=some (.func (.func f) #[] eV)) (ha:iH l args.toList=some vs) (hL:L=L1++L2)
   (v:ι->Value) (eM:ι->List ao) (R:ι->Prop) (bc:List View) (hV:∀H ∈ bc,H ∈ Vs)
   (hC:∀w,Ws w (L1.flatMap ao.ids) L1 bc w->Calls P f (vs.toArray++eV) w λe w'=>∃i,e = .returned (v i)/\R i/\Ws w (L1.flatMap ao.ids) (eM i) bc w')
   (hr:∀i,R i->WL P ops Q n ds ((d,v i)::l) (Ws w0 F (eM i++L2) Vs) rest) :
   WL P ops Q n ds l (Ws w0 F L Vs) (⟨some d,.call ⟨.value cx,args,ts⟩,ty,pos,af,g⟩::rest):=
 WL.ad7 (κ:=Empty) L1 L2 hg hn hf rI ha hL v eM R (λ_=>[]) (λ_=>[]) (λ_=>False) bc hV (λw hw=>(hC w hw).mono λe w' h=>.inl h) (λj=>nomatch j) hr
end
def aI.cells (x:aI):List Value:=[.int .i64 x.op,.int .i64 x.a,.int .i64 x.b]
theorem aI.aX (x:aI):x.cells.length=3:=rfl
theorem aI.one (x:aI):x.cells.all (·.oneCell')=true:=rfl
def eB (H:View) (b o:Nat) (x:aI):Prop:=aP H b o x.cells
def ei.cells (x:ei):List Value:=[.int .i64 x.at_,.int .i64 x.kind,.int .i64 x.m]
theorem ei.aX (x:ei):x.cells.length=3:=rfl
theorem ei.one (x:ei):x.cells.all (·.oneCell')=true:=rfl
def OF (H:View) (b o:Nat) (x:ei):Prop:=aP H b o x.cells
structure gG where
 nm:List UInt8
 v1:Value
 data:Int
 v5:Value
 v6:Value
structure a8 where
 g:Gs
 ca:Option Addr×Nat
 fa:Option Addr×Nat
def tV (T:TypeId) (K:gG) (t:a8):Obj:=.cells #[st K.nm,K.v1,.int .i64 K.data,.slice t.ca.1 t.g.code.length t.ca.2,.slice t.fa.1 t.g.fix.length t.fa.2,K.v5,K.v6] T (0,0)
abbrev aV (T tI tF:TypeId) (sb:Nat) (K:gG) (t:a8):List ao:=[ab sb (tV T K t),bj tI 3 aI.cells t.ca.1 t.ca.2 t.g.code,bj tF 3 ei.cells t.fa.1 t.fa.2 t.g.fix]
theorem oq {l:List cJ} {i:Nat} {y:cJ} (h:l[i]? = some y):lN (lO l) i=ag y:=by
 unfold lN; rw [Cq,List.getElem?_map,h]; rfl
theorem Ct:∀{l:List cJ} {i:Nat} {x:cJ},l[i]? = some x->fW (l.take (i+1))=fW (l.take i)+dy x/\fW (l.take (i+1))<=fW l
 | [],_,_,h=>by simp at h
 | y::r,0,x,h=>by
   simp at h; subst h;simp [fW]
 | y::r,i+1,x,h=>by
   obtain ⟨h1,h2⟩:=Ct (l:=r) (i:=i) (by simpa using h);simp only [List.take_succ_cons,fW];omega
theorem Wa:∀{l:List cB} {i:Nat} {x:cB},l[i]? = some x->eh (l.take (i+1))=eh (l.take i)+r_ x/\eh (l.take (i+1))<=eh l
 | [],_,_,h=>by simp at h
 | y::r,0,x,h=>by
   simp at h; subst h;simp [eh]
 | y::r,i+1,x,h=>by
   obtain ⟨h1,h2⟩:=Wa (l:=r) (i:=i) (by simpa using h);simp only [List.take_succ_cons,eh];omega
theorem JA (l:List cJ) (g:Gs):GL (8*fW l) g (eA l g):=by
 have hl:(lO l).length=(l.map λx=>8*dy x).length:=by rw [Cq]; simp
 have h:=OD hl (Jy l) g;rw [Fj,Jz] at h;exact h
theorem af4 (x:cJ):dy x=1+fW x.args:=by cases x; rw [dy]; rfl
theorem af5 (x:cB):r_ x=1+fW x.args+eh x.body+eh x.other:=by cases x; rw [r_]; rfl
theorem af6 {l:List aI} {n:Nat} {x:aI} (f:aI->aI) (h:l[n]? = some x):l.modify n f=l.set n (f x):=by
 apply List.ext_getElem?;intro i;rw [List.getElem?_modify,List.getElem?_set]
 by_cases e:n=i
 · subst e
   obtain ⟨h1,h2⟩:=List.getElem?_eq_some_iff.1 h;simp [h1,h2]
 · simp [e]
theorem af7 {n:Nat} {g:Gs} {x:aI} (h:g.code[n]? = some x):cg n g = { g with code:=g.code.set n ⟨x.op,(g.code.length:Int),x.b⟩ }:=by
 unfold cg; rw [af6 _ h]
theorem af8 {kn:List cW} {ax op n m pl:Int} {len:Nat} (h:node1 kn ax op n m pl len=true):(op=4\/op=6->len=1)/\(7<=op/\op<=15->len=2)/\1<=op/\op<=16:=by
 unfold node1 at h
 split at h
 · subst_vars; omega
 · split at h
   · subst_vars; omega
   · split at h
     · subst_vars; simp at h; omega
     · split at h
       · subst_vars; omega
       · split at h
         · subst_vars; omega
         · split at h
           · subst_vars; omega
           · split at h
             · subst_vars; simp at h; omega
             · split at h
               · simp at h; omega
               · cases h
theorem af9 {kn:List cW} {ax op n m pl:Int} {na nb no:Nat} (h:oh kn ax op n m pl na nb no=true):(op=1\/op=4\/op=5\/op=6\/op=7->na=1)/\(op=2->na=2)/\1<=op/\op<=7:=by
 unfold oh at h
 split at h
 · subst_vars; simp at h; omega
 · split at h
   · subst_vars; simp at h; omega
   · split at h
     · subst_vars; omega
     · split at h
       · subst_vars; simp at h; omega
       · split at h
         · subst_vars; simp at h; omega
         · split at h
           · simp at h; omega
           · cases h
def Cu (x:cJ):Prop:=∃kn ax d,vC kn ax x d=true
def Cv (l:List cJ):Prop:=∃kn ax d,om kn ax l d=true
def JB (x:cB):Prop:=∃kn ax d,tJ kn ax x d=true
def tW (l:List cB):Prop:=∃kn ax d,vD kn ax l d=true
theorem Cv.at_ {l:List cJ} (h:Cv l) {i:Nat} {x:cJ} (hx:l[i]? = some x):Cu x:=by
 obtain ⟨kn,ax,d,h⟩:=h;rw [Jo] at h;exact ⟨kn,ax,d,List.all_eq_true.1 h x (List.mem_of_getElem? hx)⟩
theorem Cu.args {x:cJ} (h:Cu x):Cv x.args/\(x.op=4\/x.op=6->x.args.length=1)/\(7<=x.op/\x.op<=15->x.args.length=2)/\1<=x.op/\x.op<=16:=by
 obtain ⟨kn,ax,d,h⟩:=h;rw [VR] at h;obtain ⟨_,h⟩:=Bool.and_eq_true_iff.1 h;obtain ⟨h1,h2⟩:=Bool.and_eq_true_iff.1 h;exact ⟨⟨kn,ax,_,h2⟩,af8 h1⟩
theorem tW.at_ {l:List cB} (h:tW l) {i:Nat} {x:cB} (hx:l[i]? = some x):JB x:=by
 obtain ⟨kn,ax,d,h⟩:=h;rw [Oo] at h;exact ⟨kn,ax,d,List.all_eq_true.1 h x (List.mem_of_getElem? hx)⟩
theorem JB.parts {x:cB} (h:JB x):Cv x.args/\(x.op=4\/x.op=5->tW x.body)/\tW x.other/\(x.op=1\/x.op=4\/x.op=5\/x.op=6\/x.op=7->x.args.length=1)/\(x.op=2->x.args.length=2)/\1<=x.op/\x.op<=7:=by
 obtain ⟨kn,ax,d,h⟩:=h;rw [VS] at h;obtain ⟨h1,h⟩:=Bool.and_eq_true_iff.1 h;obtain ⟨h2,h⟩:=Bool.and_eq_true_iff.1 h;obtain ⟨h3,h4⟩:=Bool.and_eq_true_iff.1 h;refine ⟨⟨kn,ax,_,h2⟩,λhw=>?_,?_,af9 h1⟩
 · have:E9 x.op=true:=by unfold E9; simpa using hw
   rw [this] at h3
   have h5:je kn ax x.body (d+1)=true:=by simpa using h3
   unfold je at h5;exact ⟨kn,ax,d+1,(Bool.and_eq_true_iff.1 (Bool.and_eq_true_iff.1 h5).2).2⟩
 · by_cases h0:0<x.other.length
   · rw [decide_eq_true h0] at h4
     have h5:je kn ax x.other (d+1)=true:=by simpa using h4
     unfold je at h5;exact ⟨kn,ax,d+1,(Bool.and_eq_true_iff.1 (Bool.and_eq_true_iff.1 h5).2).2⟩
   · have:x.other=[]:=List.eq_nil_of_length_eq_zero (by omega)
     rw [this];exact ⟨kn,ax,d,by rw [vD]⟩
theorem af' {α:Type} {f:α->List Value} {x:α} {zs:Array Value} (h:zs.toList=f x) (EP:0<(f x).length) (k:Nat):madeCells zs (k*(f x).length)=((List.replicate k x).flatMap f).toArray:=by
 apply Array.ext';simp only [madeCells]
 have hs:zs.size=(f x).length:=by rw [<-h]; simp
 have hl:((List.replicate k x).flatMap f).length=k*(f x).length:=by
   induction k with
   | zero=>simp
   | succ k ih=>rw [List.replicate_succ,List.flatMap_cons,List.length_append,ih,Nat.succ_mul]; omega
 apply List.ext_getElem
 · simp [hl]
 · intro i h1 h2
   simp
   have key:∀(k i:Nat) (hi:i<k*(f x).length),((List.replicate k x).flatMap f)[i]? = (f x)[i % (f x).length]?:=by
     intro k
     induction k with
     | zero=>intro i hi; omega
     | succ k ih=>
       intro i hi;rw [List.replicate_succ,List.flatMap_cons,List.getElem?_append]
       split
       · rename_i av; rw [Nat.mod_eq_of_lt av]
       · rename_i cC
         rw [Nat.succ_mul] at hi;rw [ih (i-(f x).length) (by omega),<-Nat.mod_eq_sub_mod (by omega)]
   have hi:i<k*(f x).length:=by rw [<-hl]; exact h2
   have h3:=key k i hi;have hm:=Nat.mod_lt i EP;rw [List.getElem?_eq_getElem h2,List.getElem?_eq_getElem hm] at h3
   injection h3 with h3
   rw [h3]
   have hz:zs[i % zs.size]? = (f x)[i % (f x).length]?:=by rw [hs,<-h]; simp
   rw [List.getElem?_eq_getElem hm] at hz;rw [getElem!_def,hz]
theorem bO:(∀i k m g,(au i k m g).code.length=g.code.length+1)/\(∀i k m g,(au i k m g).fix.length=g.fix.length+1)/\(∀l g,(aM l g).code.length=g.code.length+l.length)/\(∀l g,(aM l g).fix.length=g.fix.length)/\(∀n g,(cg n g).code.length=g.code.length)/\(∀n g,(cg n g).fix.length=g.fix.length)/\(∀(x:aI) l,(x::l).length=l.length+1)/\([]:List aI).length=0:=by
 refine ⟨λ_ _ _ _=>?_,λ_ _ _ _=>?_,λ_ _=>?_,λ_ _=>rfl,λ_ _=>?_,λ_ _=>rfl,λ_ _=>rfl,O⟩<;>simp [au,aM,cg]
def qm (x:Nat):List Value:=[.int .i64 (x:Int)]
theorem OG (x:Nat):(qm x).length=1:=rfl
def tY (H:View) (b o:Nat) (x:Nat):Prop:=aP H b o (qm x)
structure mr where
 s1:Option Addr×Nat
 s2:Option Addr×Nat
 s3:Option Addr×Nat
 s4:Option Addr×Nat
def OH (o:se) (q:mr):List Value:=[st o.nm,.slice q.s1.1 o.ae.length q.s1.2,.int .i64 o.data,.slice q.s2.1 o.g.code.length q.s2.2,.slice q.s3.1 o.g.fix.length q.s3.2,.slice q.s4.1 o.bY.length q.s4.2,.int .i64 (o.main:Int)]
structure OI (H:View) (q:mr) (o:se):Prop where
 ae:Sl rdStr 1 H q.s1.1 q.s1.2 o.ae
 code:Sl eB 3 H q.s2.1 q.s2.2 o.g.code
 fix:Sl OF 3 H q.s3.1 q.s3.2 o.g.fix
 bY:Sl tY 1 H q.s4.1 q.s4.2 o.bY
def OJ:mr:=⟨(none,0),(none,0),(none,0),(none,0)⟩
theorem Wb (H:View):OI H OJ Fk:=⟨Sl.nil,Sl.nil,Sl.nil,Sl.nil⟩
theorem Wc:∀{l:List jc} {i:Nat} {x:jc},l[i]? = some x->lM (l.take (i+1))=lM (l.take i)+Fg x/\lM (l.take (i+1))<=lM l
 | [],_,_,h=>by simp at h
 | y::r,0,x,h=>by
   simp at h; subst h;simp [lM]
 | y::r,i+1,x,h=>by
   obtain ⟨h1,h2⟩:=Wc (l:=r) (i:=i) (by simpa using h);simp only [List.take_succ_cons,lM];omega
theorem af_ {l:List jc} {i:Nat} {x:jc} (h:l[i]? = some x) (g:Gs):cj (l.take (i+1)) g=((cj (l.take i) g).1++[(cj (l.take i) g).2.code.length],mo x.params x.locals x.body (cj (l.take i) g).2):=by
 rw [List.take_add_one,h];exact V' _ _ _
theorem We {kn:List cW} {ax:Int} {l:List cB} (h:je kn ax l 1=true):tW l:=by
 unfold je at h;exact ⟨kn,ax,1,(Bool.and_eq_true_iff.1 (Bool.and_eq_true_iff.1 h).2).2⟩
theorem Wf:∀l:List jc,l.length<=lM l
 | []=>Nat.zero_le _
 | s::r=>by have:=Wf r; simp only [List.length_cons,lM,Fg]; omega
theorem aga (u:ez):Fh u=1+u.nm.length+wN u.ae+lM u.parts+eh u.main:=rfl
theorem agb {u:ez} (h:Fl u=true):(∀p ∈ u.parts,tW p.body)/\tW u.main:=by
 obtain ⟨h1,h2,_,_⟩:=afX h;exact ⟨λp hp=>We (afY (h1 p hp)).2.2.2.2,We h2⟩
end Go.Bw
end
section
namespace Go.Bw
open Go
def Rz.all {σ α:Type} (r:Rz σ α) (p:α->σ->Prop) (q:Wm->Prop):Prop:=match r with
 | .ok a s=>p a s
 | .ov _ w=>q w
theorem Rz.all_bind {σ α β:Type} {r:Rz σ α} {f:α->σ->Rz σ β} {p:β->σ->Prop} {q:Wm->Prop} (h:r.all (λa s=>(f a s).all p q) q):(r.bind f).all p q:=by
 cases r with
 | ok a s=>exact h
 | ov e w=>exact h
theorem Rz.tZ {σ α:Type} {r:Rz σ α} {p p':α->σ->Prop} {q q':Wm->Prop} (h:r.all p q) (hp:∀a s,p a s->p' a s) (hq:∀w,q w->q' w):r.all p' q':=by
 cases r with
 | ok a s=>exact hp _ _ h
 | ov e w=>exact hq _ h
theorem Rz.Wg {α:Type} {r:Rz Wm α} {f:Fm} {p:α->Fm->Prop} {q:Wm->Prop} (h:r.all (λa w=>p a { f with w:=w }) q):(Rz.fr f r).all p q:=by
 cases r with
 | ok a s=>exact h
 | ov e w=>exact h
structure Kw (P:Env) (w w':Wm):Prop where
 bD:w.bD<=w'.bD
 fp:w.bD<=P.fp->w'.bD<=P.fp
 len:w'.data.length=w.data.length
 out:w.out.length<=200->w'.out.length<=200
 pre:w.out <+: w'.out
structure Kp (P:Env) (w w':Wm):Prop extends Kw P w w' where
 calls:w'.calls=w.calls
section
variable {P:Env} {a b c:Wm}
theorem Kw.refl (P:Env) (a:Wm):Kw P a a:=⟨Nat.le_refl _,id,rfl,id,List.prefix_rfl⟩
theorem Kw.trans (h:Kw P a b) (k:Kw P b c):Kw P a c:=⟨Nat.le_trans h.bD k.bD,λx=>k.fp (h.fp x),k.len.trans h.len,λx=>k.out (h.out x),h.pre.trans k.pre⟩
theorem Kp.refl (P:Env) (a:Wm):Kp P a a:=⟨Kw.refl P a,rfl⟩
theorem Kp.trans (h:Kp P a b) (k:Kp P b c):Kp P a c:=⟨h.toKw.trans k.toKw,k.calls.trans h.calls⟩
abbrev RK {α:Type} (P:Env) (w:Wm) (r:Rz Wm α):Prop:=r.all (λ_ w'=>Kp P w w') (Kw P w)
theorem RK.ok {α:Type} (v:α) (w:Wm):RK P w (.ok v w):=Kp.refl P w
theorem RK.ov {α:Type} (e:Int) (w:Wm):RK (α:=α) P w (.ov e w):=Kw.refl P w
theorem RK.bind {α β:Type} {w:Wm} {r:Rz Wm α} {f:α->Wm->Rz Wm β} (h:RK P w r) (k:∀v w',RK P w' (f v w')):RK P w (r.bind f):=
 Rz.all_bind (Rz.tZ h (λv w' hw=>Rz.tZ (k v w') (λ_ _ h2=>hw.trans h2) λ_ h2=>hw.toKw.trans h2) λ_ h=>h)
abbrev EK (P:Env) (k:Ev):Prop:=∀loc w,RK P w (k loc w)
abbrev CK (P:Env) (call:Cl):Prop:=∀u loc body w,RK P w (call u loc body w)
abbrev FK {α:Type} (P:Env) (f:Fm) (r:Rz Fm α):Prop:=r.all (λ_ f'=>Kp P f.w f'.w/\f'.loc.length=f.loc.length) (Kw P f.w)
theorem FK.ok {α:Type} (v:α) (f:Fm):FK P f (.ok v f):=⟨Kp.refl P f.w,rfl⟩
theorem FK.bind {α β:Type} {f:Fm} {r:Rz Fm α} {g:α->Fm->Rz Fm β} (h:FK P f r) (k:∀v f',FK P f' (g v f')):FK P f (r.bind g):=
 Rz.all_bind (Rz.tZ h (λv f' hw=>Rz.tZ (k v f') (λ_ _ h2=>⟨hw.1.trans h2.1,h2.2.trans hw.2⟩) λ_ h2=>hw.1.toKw.trans h2) λ_ h=>h)
theorem FK.fr {α:Type} {f:Fm} {r:Rz Wm α} (h:RK P f.w r):FK P f (Rz.fr f r):=Rz.Wg (Rz.tZ h (λ_ _ h=>⟨h,rfl⟩) λ_ h=>h)
end
end Go.Bw
end
section
namespace Go.Bw
open Go
theorem Wh {σ α β:Type} {r:Rz σ α} {f:α->σ->Rz σ β} {a:α} {s:σ} (h:r = .ok a s):r.bind f=f a s:=by rw [h]; rfl
theorem OK {σ α β:Type} {r:Rz σ α} {f:α->σ->Rz σ β} {e:Int} {w:Wm} (h:r = .ov e w):r.bind f = .ov e w:=by rw [h]; rfl
theorem agc {α:Type} {r:Rz Wm α} {f:Fm} {e:Int} {w:Wm} (h:r = .ov e w):Rz.fr f r = .ov e w:=by rw [h]; rfl
end Go.Bw
end
section
namespace Go.Bw
open Go
theorem Wj {l:List (List UInt8)} {x:List UInt8} {n:Nat} (h:x ∉ l) (hn:l.length=n):dY x (.int .i64 (n:Int)) (k8 l 0) n=k8 (l++[x]) 0/\jB x (k8 l 0) n=n+1:=by
 subst hn
 have hf:bP x (k8 l 0) 0=none:=by
   have:=Ov x l 0 0;rw [zy.2 h] at this
   simpa using this
 unfold dY jB;rw [hf,VY];simp
theorem agd {ns:List (List UInt8)} {i:Nat} {x:List UInt8} (hn:ns.Nodup) (hx:ns[i]? = some x):x ∉ ns.take i:=λhm=>by
 obtain ⟨j,hj⟩:=List.getElem?_of_mem hm;rw [List.getElem?_take] at hj
 split at hj
 · rename_i av
   have hi:=(List.getElem?_eq_some_iff.1 hx).1;have:=(List.getElem?_inj hi hn).1 (hx.trans hj.symm);omega
 · cases hj
abbrev XI:=List Nat×(Option Addr×Nat)
def XI.cells (e:XI):List Value:=[.slice e.2.1 e.1.length e.2.2]
theorem XI.aX (e:XI):(XI.cells e).length=1:=rfl
structure KW where
 l:Option Addr×Nat
 u:Option Addr×Nat
 b:Option Addr×Nat
structure WSt where
 w:Wm
 i:Option Addr×Nat
 o:Option Addr×Nat
 d:Option Addr×Nat
def agf (H:View) (b o:Nat) (x:List Nat):Prop:=∃r:Option Addr×Nat,aP H b o [.slice r.1 x.length r.2]/\Sl tY 1 H r.1 r.2 x
structure auW (H:View) (P:Env) (D C:Nat) (s:WSt):Prop where
 bo:Sl iN 1 H s.i.1 s.i.2 s.w.bo
 out:s.w.out.length<=200
 tk:s.w.bD<=P.fp
 iO:s.w.data.length=D
 cl:s.w.calls=C
structure auX (H:View) (n:Nat) (K:KW) (l:List ez) (fp:Nat):Prop where
 ok:afW l
 fp:fp<=2000
 auY:Sl (afZ n) 5 H K.l.1 K.l.2 l
 ae:Sl agf 1 H K.u.1 K.u.2 (afV l)
 Ff:Sl tY 1 H K.b.1 K.b.2 (V6 l 0)
theorem XI.one (e:XI):(XI.cells e).all (·.oneCell')=true:=rfl
def OL (J:View) (e:XI):Prop:=Sl tY 1 J e.2.1 e.2.2 e.1
theorem agh {H N:View} (hv:aN H N) (b o:Nat) (x:Nat) (h:tY H b o x):tY N b o x:=aP.mono hv h
theorem OL.mv {A B:View} {e:XI} (hv:aN A B) (h:OL A e):OL B e:=Sl.imp (λb o x h=>agh hv b o x h) h
structure RGh where
 i:Nat
 es:List XI
 ua:Option Addr×Nat
 ba:Option Addr×Nat
 J:View
end Go.Bw
end
section
namespace Go.Bw
open Go
def Sm {σ α:Type} (E:σ->σ->Prop) (G:Wm->Wm->Prop) (X:Prop) (o:σ->List Int) (r1 r2:Rz σ α):Prop:=match r1 with
 | .ok a s1=>∃s2,r2 = .ok a s2/\E s1 s2
 | .ov e w1=>(∃w2,r2 = .ov e w2/\G w1 w2)\/(X/\e=3/\r2.all (λ_ s=>w1.out <+: o s) (λw=>w1.out <+: w.out))
def Wk (w:Wm):Rz Wm Int:=match w.bo with | []=>.ok 0 w | x::r=>.ok x { w with bo:=r }
structure Sim (P1 P2:Env) (E G:Wm->Wm->Prop) (X:Prop):Prop where
 l:P1.l=P2.l
 ae:P1.ae=P2.ae
 Ff:P1.Ff=P2.Ff
 eg:∀{a b},E a b->G a b
 data:∀{a b},E a b->a.data=b.data
 out:∀{a b},E a b->a.out=b.out
 calls:∀{a b},E a b->a.calls=b.calls
 tk:∀{a b},E a b->a.bD=b.bD/\a.bD<=P1.fp/\P1.fp<=P2.fp
 tick:∀{a b},E a b->Sm E G X (·.out) (V5 P1 a) (V5 P2 b)
 read:∀{a b},E a b->Sm E G X (·.out) (Wk a) (Wk b)
 au0:∀{a b} d,E a b->E { a with data:=d } { b with data:=d }
 au1:∀{a b} d,E a b->E { a with out:=d } { b with out:=d }
 au2:∀{a b} d,E a b->E { a with calls:=d } { b with calls:=d }
section
variable {P1 P2:Env} {E G:Wm->Wm->Prop} {X:Prop}
abbrev SW {α:Type} (E G:Wm->Wm->Prop) (X:Prop) (r1 r2:Rz Wm α):Prop:=Sm E G X (·.out) r1 r2
structure EF (E:Wm->Wm->Prop) (f g:Fm):Prop where
 loc:f.loc=g.loc
 val:f.val=g.val
 w:E f.w g.w
abbrev SF {α:Type} (E G:Wm->Wm->Prop) (X:Prop) (r1 r2:Rz Fm α):Prop:=Sm (EF E) G X (·.w.out) r1 r2
theorem SW.bind (P2:Env) {α β:Type} {r1 r2:Rz Wm α} {f1 f2:α->Wm->Rz Wm β} (h:SW E G X r1 r2) (k:∀a s1 s2,E s1 s2->SW E G X (f1 a s1) (f2 a s2)) (m:∀a s,RK P2 s (f2 a s)):SW E G X (r1.bind f1) (r2.bind f2):=by
 cases r1 with
 | ok a s1=>obtain ⟨s2,rfl,he⟩:=h; exact k a s1 s2 he
 | ov e w1=>
   rcases h with ⟨w2,rfl,hg⟩ | ⟨hx,h3,ha⟩
   · exact .inl ⟨w2,O,hg⟩
   · refine .inr ⟨hx,h3,Rz.all_bind (Rz.tZ ha (λa s hs=>?_) λ_ h=>h)⟩
     exact Rz.tZ (m a s) (λ_ _ h=>hs.trans h.pre) λ_ h=>hs.trans h.pre
theorem SF.bind (P2:Env) {α β:Type} {r1 r2:Rz Fm α} {f1 f2:α->Fm->Rz Fm β} (h:SF E G X r1 r2) (k:∀a s1 s2,r2 = .ok a s2->EF E s1 s2->SF E G X (f1 a s1) (f2 a s2)) (m:∀a s,FK P2 s (f2 a s)):SF E G X (r1.bind f1) (r2.bind f2):=by
 cases r1 with
 | ok a s1=>obtain ⟨s2,rfl,he⟩:=h; exact k a s1 s2 rfl he
 | ov e w1=>
   rcases h with ⟨w2,rfl,hg⟩ | ⟨hx,h3,ha⟩
   · exact .inl ⟨w2,O,hg⟩
   · refine .inr ⟨hx,h3,Rz.all_bind (Rz.tZ ha (λa s hs=>?_) λ_ h=>h)⟩
     exact Rz.tZ (m a s) (λ_ _ h=>hs.trans h.1.pre) λ_ h=>hs.trans h.pre
theorem SF.fr {α:Type} {r1 r2:Rz Wm α} {f g:Fm} (h:SW E G X r1 r2) (he:EF E f g):SF E G X (Rz.fr f r1) (Rz.fr g r2):=by
 cases r1 with
 | ok a s1=>obtain ⟨s2,rfl,h2⟩:=h; exact ⟨_,rfl,he.loc,he.val,h2⟩
 | ov e w1=>
   rcases h with ⟨w2,rfl,hg⟩ | ⟨hx,h3,ha⟩
   · exact .inl ⟨w2,O,hg⟩
   · exact .inr ⟨hx,h3,Rz.Wg (Rz.tZ ha (λ_ _ h=>h) λ_ h=>h)⟩
theorem SW.ok {α:Type} (a:α) {s1 s2:Wm} (h:E s1 s2):SW E G X (.ok a s1) (.ok a s2):=⟨s2,rfl,h⟩
theorem SF.ok {α:Type} (a:α) {s1 s2:Fm} (h:EF E s1 s2):SF E G X (.ok a s1) (.ok a s2):=⟨s2,rfl,h⟩
theorem SW.ov {α:Type} (S:Sim P1 P2 E G X) (e:Int) {s1 s2:Wm} (h:E s1 s2):SW (α:=α) E G X (.ov e s1) (.ov e s2):=.inl ⟨s2,rfl,S.eg h⟩
structure EE (P2:Env) (E G:Wm->Wm->Prop) (X:Prop) (k1 k2:Ev):Prop where
 go:∀loc {a b},E a b->SW E G X (k1 loc a) (k2 loc b)
 kp:EK P2 k2
structure CC (P2:Env) (E G:Wm->Wm->Prop) (X:Prop) (c1 c2:Cl):Prop where
 go:∀u loc body {a b},E a b->SW E G X (c1 u loc body a) (c2 u loc body b)
 kp:CK P2 c2
inductive KE (P2:Env) (E G:Wm->Wm->Prop) (X:Prop):List Ev->List Ev->Prop where
 | nil:KE P2 E G X [] []
 | cons {x y:Ev} {r q:List Ev} (h:EE P2 E G X x y) (t:KE P2 E G X r q):KE P2 E G X (x::r) (y::q)
theorem KE.kp:∀{k1 k2:List Ev},KE P2 E G X k1 k2->∀k ∈ k2,EK P2 k
 | _,_,.nil,k,h=>by simp at h
 | _,_,.cons h1 h2,k,h=>by
   rcases List.mem_cons.1 h with rfl | h
   · exact h1.kp
   · exact KE.kp h2 k h
structure AA (P2:Env) (E G:Wm->Wm->Prop) (X:Prop) (b1 b2:Fm->Rz Fm Bool):Prop where
 go:∀{f g},EF E f g->SF E G X (b1 f) (b2 g)
 kp:∀f,FK P2 f (b2 f)
end
end Go.Bw
end
section
namespace Go.Bw
open Go
structure au3 (fp:Nat) (a b:Wm):Prop where
 data:a.data=b.data
 out:a.out=b.out
 bD:a.bD=b.bD
 calls:a.calls=b.calls
 tl:a.bD<=fp
 bo:b.bo=a.bo++[0]\/(a.bo=[]/\b.bo=[])
end Go.Bw
end
section
namespace Go.Bw
open Go
structure Ren (l l':List bf) (f:Nat->Nat):Prop where
 len:l'.length=l.length
 inv:∀k,f (f k)=k
 lt:∀k,k<l.length->f k<l.length
 get:∀k,k<l.length->l'[f k]? = l[k]?
theorem Ren.nm {l l':List bf} {f:Nat->Nat} (h:Ren l l' f) {k:Nat} (hk:k<l.length):k7 l' (f k)=k7 l k:=by unfold k7; rw [h.get k hk]
theorem Ren.us {l l':List bf} {f:Nat->Nat} (h:Ren l l' f) {k:Nat} (hk:k<l.length):tQ l' (f k)=tQ l k:=by unfold tQ; rw [h.get k hk]
theorem Ren.back {l l':List bf} {f:Nat->Nat} (h:Ren l l' f):Ren l' l f:=⟨h.len.symm,h.inv,λk hk=>by rw [h.len] at hk ⊢; exact h.lt k hk,λk hk=>by
 rw [h.len] at hk;have:=h.get (f k) (h.lt k hk);rw [h.inv] at this
 exact this.symm⟩
theorem Ren.mem {l l':List bf} {f:Nat->Nat} (h:Ren l l' f) {m:bf} (hm:m ∈ l):m ∈ l':=by
 obtain ⟨k,hk⟩:=List.getElem?_of_mem hm;have av:=(List.getElem?_eq_some_iff.1 hk).1;rw [<-h.get k av] at hk;exact List.mem_of_getElem? hk
theorem Ren.nodup {l l':List bf} {f:Nat->Nat} (h:Ren l l' f) (hn:(oo l).Nodup):(oo l').Nodup:=by
 unfold List.Nodup;rw [List.pairwise_iff_getElem];intro i j hi hj xJ e;rw [Jr] at hi hj
 have h1:k7 l' i=k7 l' j:=by
   have e1:=Fa (List.getElem?_eq_getElem hi);have e2:=Fa (List.getElem?_eq_getElem hj);rw [List.getElem?_eq_getElem (by rw [Jr]; exact hi)] at e1;rw [List.getElem?_eq_getElem (by rw [Jr]; exact hj)] at e2
   injection e1 with e1
   injection e2 with e2
   rw [E_ (List.getElem?_eq_getElem hi),E_ (List.getElem?_eq_getElem hj),<-e1,<-e2,e]
 have hb:=h.back;rw [<-hb.nm hi,<-hb.nm hj] at h1;have h2:=VX hn (by have:=hb.lt i hi; rw [h.len] at this; exact this) (by have:=hb.lt j hj; rw [h.len] at this; exact this) h1;have h3:=congrArg f h2;rw [h.inv,h.inv] at h3;omega
theorem Ren.place {l l':List bf} {f:Nat->Nat} (h:Ren l l' f) (hn:(oo l).Nodup) {s:List UInt8} {p:Nat} (hp:tL l s=some p):tL l' s=some (f p):=by
 obtain ⟨h1,h2⟩:=VW hp;have h3:=afN (h.nodup hn) (i:=f p) (by rw [h.len]; exact h.lt p h1);rw [h.nm h1,h2] at h3;exact h3
theorem Ren.ok {l l':List bf} {f:Nat->Nat} (h:Ren l l' f) (ho:Oq l):Oq l':=
 ⟨by rw [h.len]; exact ho.ef,λm hm=>ho.zB m (h.back.mem hm),h.nodup ho.nd,λm hm s hs=>by
   obtain ⟨p,hp⟩:=ho.ae m (h.back.mem hm) s hs
   exact ⟨f p,h.place ho.nd hp⟩⟩
theorem Ren.contains {l l':List bf} {f:Nat->Nat} (h:Ren l l' f) (d:List Nat) (x:Nat):(d.map f).contains (f x)=d.contains x:=by
 rw [Bool.eq_iff_iff];simp only [List.contains_iff_mem,List.mem_map]
 constructor
 · rintro ⟨y,hy,e⟩
   have:=congrArg f e;rw [h.inv,h.inv] at this;rw [<-this]; exact hy
 · exact λhx=>⟨x,hx,O⟩
theorem Ren.ready {l l':List bf} {f:Nat->Nat} (h:Ren l l' f) (ho:Oq l) (d:List Nat) {x:Nat} (hx:x<l.length):Fb l' (d.map f) (f x)=Fb l d x:=by
 unfold Fb;rw [h.contains,h.us hx]
 congr 1
 have key:∀u:List (List UInt8),(∀s ∈ u,∃p,tL l s=some p)->u.all (Js l' (d.map f))=u.all (Js l d):=by
   intro u
   induction u with
   | nil=>intro _; rfl
   | cons s r ih=>
     intro hu;obtain ⟨p,hp⟩:=hu s (by simp);rw [List.all_cons,List.all_cons,ih λs hs=>hu s (by simp [hs])]
     congr 1
     unfold Js;rw [hp,h.place ho.nd hp];exact h.contains d p
 refine key _ λs hs=>?_;rw [afM (List.getElem?_eq_getElem hx)] at hs;exact ho.ae _ (List.getElem_mem hx) s hs
end Go.Bw
end
section
namespace Go.Bw
open Go
def ph (a b:List Bool):Prop:=∀j:Nat,a[j]? = some true->b[j]? = some true
theorem ph.refl (a:List Bool):ph a a:=λ_ h=>h
theorem ph.count:∀{a b:List Bool},a.length=b.length->ph a b->a.count true<=b.count true/\(b.count true<=a.count true->a=b)
 | [],[],_,_=>⟨Nat.le_refl _,λ_=>rfl⟩
 | [],_::_,h,_=>by cases h
 | _::_,[],h,_=>by cases h
 | x::a,y::b,h,hs=>by
   obtain ⟨h1,h2⟩:=ph.count (a:=a) (b:=b) (by simpa using h) λj hj=>by simpa using hs (j+1) (by simpa using hj)
   have h0:x=true->y=true:=λe=>by simpa using hs 0 (by simp [e])
   cases x<;>cases y<;>simp at h0 ⊢
   · exact ⟨h1,h2⟩
   · exact ⟨by omega,by omega⟩
   · exact ⟨h1,h2⟩
theorem ph.set (a:List Bool) (p:Nat):ph a (a.set p true):=λj h=>by
 have av:=(List.getElem?_eq_some_iff.1 h).1;rw [List.getElem?_set]
 by_cases e:p=j
 · subst e; simp [av]
 · rw [if_neg e]; exact h
theorem ph.trans {a b c:List Bool} (h:ph a b) (k:ph b c):ph a c:=λj hj=>k j (h j hj)
def OM (l:List bf) (nm:List UInt8) (S:List Bool) (j:Nat):Prop:=S[j]? = some true\/k7 l j=nm
def Cw (l:List bf) (S:List Bool) (s:List UInt8):Prop:=∃p,tL l s=some p/\S[p]? = some true
theorem Cw.sub {l:List bf} {a b:List Bool} {s:List UInt8} (h:Cw l a s) (hs:ph a b):Cw l b s:=let ⟨p,h1,h2⟩:=h; ⟨p,h1,hs p h2⟩
def agj (l:List bf) (nm:List UInt8) (S:List Bool):Prop:=∀j,j<l.length->OM l nm S j->∀s ∈ tQ l j,Cw l S s
structure agk (l:List bf) (nm:List UInt8) (S:List Bool):Prop where
 len:S.length=l.length
 sound:∀j,S[j]? = some true->Go.Bw.Reach l nm (k7 l j)
structure ON (l:List bf) (nm:List UInt8) (S0 S:List Bool) (j:Nat):Prop where
 ok:agk l nm S
 sub:ph S0 S
 same:agj l nm S0->S=S0
 done:∀i,i<j->OM l nm S0 i->∀s ∈ tQ l i,Cw l S s
theorem ON.next {l:List bf} {nm:List UInt8} {S0 S:List Bool} {j:Nat} (h:ON l nm S0 S j) (hj:OM l nm S0 j->∀s ∈ tQ l j,Cw l S s):ON l nm S0 S (j+1):=
 ⟨h.ok,h.sub,h.same,λi hi JC=>by
   rcases Nat.lt_succ_iff_lt_or_eq.1 hi with h2 | h2
   · exact h.done i h2 JC
   · subst h2; exact hj JC⟩
def ltR (a b:List UInt8):Prop:=VV a b=true
def agm (l:List bf) (S:List Bool) (i:Nat):List (List UInt8):=((List.range i).filter λj=>(S[j]?).getD false).map (k7 l)
structure au4 (l:List bf) (S:List Bool) (i:Nat) (out:List (List UInt8)):Prop where
 perm:out.Perm (agm l S i)
 up:afP ltR out out.length
open Go.ChangeShapes Go.WideShapes Go.ChangeAt Go.RowKit Go.Joins Go.Deep
section
variable {P:Program} {l:List (Nat×Value)} {W:World->Prop} {d:Option Tmp} {ty:TypeId} {pos:String} {af:Array Edge} {g:Option (Nat×Bool)}
theorem agn {t:TypeId} {x y:Operand} {a:Option Addr} {m c s:Nat} {k:IntKind} {h:Int} (hs:dQ P t=some s) (hx:aB l x=some (.slice a m c)) (hy:aB l y=some (.int k h)) (h0:0<=h) (h1:h<=c) :
   Yl P l W ⟨d,.slice t x none (some y) none,ty,pos,af,g⟩ (.slice a h.toNat c):=by
 intro ρ w aD _;unfold dQ at hs
 cases hu:P.underlying t with
 | none=>simp [hu] at hs
 | some dd=>
   cases dd<;>simp [hu] at hs
   rename_i e;obtain ⟨inf,hi,rfl⟩:=hs
   have ea:(if c=0 then a else a.map (·.add (0*inf.size)))=a:=by
     split
     · rfl
     · cases a with
       | none=>rfl
       | some p=>simp [Addr.add]
   have hc:h<=(c:Int):=h1;simp [execOp,aD x _ hx,aD y _ hy,Instr.sliceAt,Instr.slice,Instr.sliceBounds,Instr.sliceBound,asIntOf,run_underlying hu,sizeOf,typeInfo,hi,h0,hc]
   simpa using ea
theorem Wl {t:TypeId} {x y:Operand} {a:Option Addr} {m c s:Nat} {k:IntKind} {h:Int} (n:Nat) (hs:dQ P t=some s) (hx:aB l x=some (.slice a m c)) (hy:aB l y=some (.int k h)) (hh:h=(n:Int)) (h1:n<=c) :
   Yl P l W ⟨d,.slice t x none (some y) none,ty,pos,af,g⟩ (.slice a n c):=by
 subst hh;exact agn hs hx hy (by omega) (by omega)
end
end Go.Bw
end
section
namespace Go.Bw
open Go
theorem Wn {s:List UInt8}:∀{l:List (List UInt8)} {i k:Nat},l[i]? = some s->s ∉ l.take i->idxOf s l k=some (k+i)
 | [],_,_,h,_=>by simp at h
 | x::r,0,k,h,_=>by simp at h; subst h; rw [idxOf,if_pos rfl]; rfl
 | x::r,i+1,k,h,hn=>by
   rw [List.take_succ_cons,List.mem_cons,not_or] at hn;rw [idxOf,if_neg λe=>hn.1 e.symm,Wn (l:=r) (by simpa using h) hn.2]
   congr 1; omega
end Go.Bw
end
section
namespace Go.Bw
open Go
structure qn where
 w:Wm
 fin:Int
 i:Option Addr×Nat
 o:Option Addr×Nat
def jC {α:Type} (r:Rz Wm α) (v:α) (t:qn):Prop:=(t.fin=0/\r = .ok v t.w)\/(t.fin≠0/\∃c,r = .ov t.fin { t.w with calls:=c })
def Stq {α:Type} (s:qn) (r:Rz Wm α) (v:α) (t:qn):Prop:=(s.fin≠0/\t=s)\/(s.fin=0/\jC r v t)
theorem jC.ok {α:Type} {r:Rz Wm α} {v:α} {t:qn} (h0:t.fin=0) (h:r = .ok v t.w):jC r v t:=.inl ⟨h0,h⟩
theorem jC.ov {α:Type} {r:Rz Wm α} {v:α} {t:qn} {c:Nat} (h0:t.fin≠0) (h:r = .ov t.fin { t.w with calls:=c }):jC r v t:=.inr ⟨h0,c,h⟩
theorem jC.get {α:Type} {r:Rz Wm α} {v:α} {t:qn} (h:jC r v t) (h0:t.fin=0):r = .ok v t.w:=by
 rcases h with ⟨_,h⟩ | ⟨h,_⟩
 · exact h
 · exact absurd h0 h
theorem jC.out {α β:Type} {r:Rz Wm α} {v:α} {t:qn} (h:jC r v t) (h0:t.fin≠0) (f:α->Wm->Rz Wm β) (b:β):jC (r.bind f) b t:=by
 rcases h with ⟨h,_⟩ | ⟨_,c,h⟩
 · exact absurd h h0
 · exact .inr ⟨h0,c,OK h⟩
theorem jC.same {α:Type} {r:Rz Wm α} {v b:α} {t:qn} (h:jC r v t) (h0:t.fin≠0):jC r b t:=by
 rcases h with ⟨h,_⟩ | ⟨_,h⟩
 · exact absurd h h0
 · exact .inr ⟨h0,h⟩
theorem jC.then {α β:Type} {r:Rz Wm α} {v:α} {t t2:qn} {f:α->Wm->Rz Wm β} {b:β} (h:jC r v t) (k:Stq t (f v t.w) b t2):jC (r.bind f) b t2:=by
 rcases k with ⟨h0,rfl⟩ | ⟨h0,h2⟩
 · exact h.out h0 f b
 · rw [Wh (h.get h0)]; exact h2
theorem jC.map {α β:Type} {r:Rz Wm α} {v:α} {t:qn} (f:α->β) (h:jC r v t):jC (r.bind λv w=>.ok (f v) w) (f v) t:=by
 rcases h with ⟨h0,h⟩ | ⟨h0,c,h⟩
 · exact .inl ⟨h0,Wh h⟩
 · exact .inr ⟨h0,c,OK h⟩
def Stf (r:Rz Fm Bool) (d:Bool) (loc:List Int) (v:Int) (t:qn):Prop:=(t.fin=0/\r = .ok d ⟨loc,v,t.w⟩)\/(t.fin≠0/\∃c,r = .ov t.fin { t.w with calls:=c })
theorem jC.fr {α:Type} {r:Rz Wm α} {x:α} {t:qn} {loc:List Int} {v:Int} {w:Wm} {f:α->Fm->Rz Fm Bool} {d:Bool} {agq:List Int} {v2:Int} (h:jC r x t) (h0:t.fin≠0):Stf ((Rz.fr ⟨loc,v,w⟩ r).bind f) d agq v2 t:=by
 rcases h with ⟨h,_⟩ | ⟨_,c,h⟩
 · exact absurd h h0
 · exact .inr ⟨h0,c,OK (agc h)⟩
end Go.Bw
end
section
namespace Go.Bw
open Go
structure au5 (ks xC:List cW):Prop where
 d:∀m pl n,r3 ks m pl n=true->r3 xC m pl n=true
 p:∀m pl n,vB ks m pl n=true->vB xC m pl n=true
end Go.Bw
end
section
namespace Go.Bw
open Go
def xQ (i:aI):Prop:=1<=i.op/\i.op<=22
def Jok (U:Nat) (pd:List Nat) (lo:Nat) (c:List aI) (f:ei):Prop:=
 ∃(p:Nat) (i:aI),f.at_=(p:Int)/\c[p]? = some i/\lo<=p/\
   ((f.kind=1/\f.m=0/\(p ∈ pd\/((lo:Int)<=i.a/\i.a<=(c.length:Int))))\/((f.kind=2\/f.kind=3)/\p ∉ pd/\0<=f.m/\f.m<=(U:Int)/\0<=i.a/\i.a<=2048))
structure Ap (U:Nat) (pd:List Nat) (g g':Gs):Prop where
 Wq:∀p ∈ pd,g.code.length<=p/\p<g'.code.length
 more:∃c fx,g'.code=g.code++c/\g'.fix=g.fix++fx/\(∀i ∈ c,xQ i)/\(∀f ∈ fx,Jok U pd g.code.length g'.code f)/\fx.Pairwise λa b=>a.at_<b.at_
theorem Ap.refl (U:Nat) (g:Gs):Ap U [] g g:=⟨by simp,[],[],by simp,by simp,by simp,by simp,.nil⟩
theorem Ap.lo {U:Nat} {pd:List Nat} {g g':Gs} (h:Ap U pd g g'):g.code.length<=g'.code.length:=by
 obtain ⟨c,fx,h1,_⟩:=h.more;rw [h1]; simp
theorem Ap.trans {U:Nat} {pa pb:List Nat} {g g' Fp:Gs} (h:Ap U pa g g') (k:Ap U pb g' Fp):Ap U (pa++pb) g Fp:=by
 have Wr:=h.lo;have klo:=k.lo;have Wu:=h.Wq;have Ww:=k.Wq;obtain ⟨c,fx,h1,h2,h3,h4,h5⟩:=h.more;obtain ⟨c',fx',k1,k2,k3,k4,k5⟩:=k.more;refine ⟨λp hp=>?_,c++c',fx++fx',by rw [k1,h1,List.append_assoc],by rw [k2,h2,List.append_assoc],?_,?_,?_⟩
 · rcases List.mem_append.1 hp with hp | hp
   · have:=Wu p hp; omega
   · have:=Ww p hp; omega
 · intro i hi
   rcases List.mem_append.1 hi with hi | hi
   · exact h3 i hi
   · exact k3 i hi
 · intro f hf
   rcases List.mem_append.1 hf with hf | hf
   · obtain ⟨p,i,a1,a2,a3,a4⟩:=h4 f hf
     have hp:p<g'.code.length:=(List.getElem?_eq_some_iff.1 a2).1;refine ⟨p,i,a1,by rw [k1,List.getElem?_append_left hp]; exact a2,a3,?_⟩
     rcases a4 with ⟨b1,b2,b3⟩ | ⟨b1,b2,b3⟩
     · exact .inl ⟨b1,b2,b3.imp (λx=>List.mem_append_left _ x) λx=>⟨x.1,by omega⟩⟩
     · refine .inr ⟨b1,λhm=>?_,b3⟩
       rcases List.mem_append.1 hm with hm | hm
       · exact b2 hm
       · have:=(Ww p hm).1; omega
   · obtain ⟨p,i,a1,a2,a3,a4⟩:=k4 f hf
     refine ⟨p,i,a1,a2,by omega,?_⟩
     rcases a4 with ⟨b1,b2,b3⟩ | ⟨b1,b2,b3⟩
     · exact .inl ⟨b1,b2,b3.imp (λx=>List.mem_append_right _ x) λx=>⟨by omega,x.2⟩⟩
     · refine .inr ⟨b1,λhm=>?_,b3⟩
       rcases List.mem_append.1 hm with hm | hm
       · have:=(Wu p hm).2; omega
       · exact b2 hm
 · refine List.pairwise_append.2 ⟨h5,k5,λa ha b hb=>?_⟩
   obtain ⟨p,i,a1,a2,a3,_⟩:=h4 a ha;obtain ⟨q,j,b1,b2,b3,_⟩:=k4 b hb;have hp:p<g'.code.length:=(List.getElem?_eq_some_iff.1 a2).1;rw [a1,b1]; omega
end Go.Bw
end
section
namespace Go.Bw
open Go
structure au7 (U:Nat) (ks:List cW):Prop where
 len:ks.length=U+1
 small:∀k ∈ ks,k.Cf=true->k.parts.length<=2048
structure agt (g g':Gs) (S:List Nat):Prop where
 at_:∀s ∈ S,g.code.length<=s/\s<g'.code.length
 stay:∃fx,g'.fix=g.fix++fx/\∀f ∈ fx,∀(p:Nat) i,f.kind=1->f.at_=(p:Int)->g'.code[p]? = some i->g.code.length<=p/\(g.code.length:Int)<=i.a/\∀s ∈ S,(p<s->i.a<(s:Int))/\(s<=p->(s:Int)<=i.a)
structure au8 (u:ez) (o:se):Prop where
 ap:Ap u.ae.length [] ⟨[],[]⟩ o.g
 pts:agt ⟨[],[]⟩ o.g (o.bY++[o.main])
 ef:o.bY.length=u.parts.length
end Go.Bw
end
section
namespace Go.Bw
open Go
structure aG where
 nm:List UInt8
 ae:List (List UInt8)
 data:Int
 code:List aI
 fix:List ei
 bY:List Int
 main:Int
def gH (o:aG) (q:mr):List Value:=[st o.nm,.slice q.s1.1 o.ae.length q.s1.2,.int .i64 o.data,.slice q.s2.1 o.code.length q.s2.2,.slice q.s3.1 o.fix.length q.s3.2,.slice q.s4.1 o.bY.length q.s4.2,.int .i64 o.main]
structure qs (H:View) (q:mr) (o:aG):Prop where
 ae:Sl rdStr 1 H q.s1.1 q.s1.2 o.ae
 code:Sl eB 3 H q.s2.1 q.s2.2 o.code
 fix:Sl OF 3 H q.s3.1 q.s3.2 o.fix
 bY:Sl iN 1 H q.s4.1 q.s4.2 o.bY
def se.to (o:se):aG:=⟨o.nm,o.ae,o.data,o.g.code,o.g.fix,o.bY.map λn:Nat=>(n:Int),o.main⟩
theorem agu (o:se) (q:mr):gH o.to q=OH o q:=by simp [gH,OH,se.to]
theorem agv {H:View} {q:mr} {o:se} (h:OI H q o):qs H q o.to:=by
 refine ⟨h.ae,h.code,h.fix,⟨?_,h.bY.max,h.bY.spot,λi x hx=>?_⟩⟩
 · show (o.bY.map λn:Nat=>(n:Int)).length<=_
   rw [List.length_map]; exact h.bY.cap
 · have hx:(o.bY.map λn:Nat=>(n:Int))[i]? = some x:=hx
   rw [List.getElem?_map] at hx
   cases he:o.bY[i]? with
   | none=>rw [he] at hx; cases hx
   | some n=>
     rw [he] at hx
     injection hx with hx
     subst hx;exact h.bY.aO i n he
def fB (n:Nat) (at_:Int):Bool:=decide (0<=at_)&&decide (at_<(n:Int))
def nq (seen:List (List UInt8)):List (List UInt8)->Bool->Bool
 | [],f=>f
 | s::r,f=>nq (seen++[s]) r ((f&&dG s)&&(((seen.count s:Nat):Int)+1==1))
def pj:List aI->Bool->Bool
 | [],f=>f
 | x::r,f=>pj r ((f&&decide (1<=x.op))&&decide (x.op<=22))
def sf (n:Nat):List Int->Bool->Bool
 | [],f=>f
 | x::r,f=>sf n r (f&&fB n x)
def iD (c:List aI) (p:Int):Int:=((c[p.toNat]?).map (·.a)).getD 0
def jX (U n:Nat) (kind m a:Int):Bool:=
 if kind=1 then ((decide (0<=a)&&decide (a<=2048))&&(m==0))&&decide (a<=(n:Int))
 else if kind=2\/kind=3 then ((decide (0<=a)&&decide (a<=2048))&&decide (0<=m))&&decide (m<=(U:Int)) else false
def ot (U:Nat) (c:List aI):List ei->Int->Bool->Bool
 | [],_,f=>f
 | x::r,last,f=>if ((f&&decide (last<x.at_))&&fB c.length x.at_)=false then false else ot U c r x.at_ (jX U c.length x.kind x.m (iD c x.at_))
def vG (o:aG):Bool:=(dG o.nm&&decide (0<=o.data))&&decide (o.data<=512)
def Cx (o:aG):Bool:=ot o.ae.length o.code o.fix (-1) (sf o.code.length o.bY (pj o.code (nq [o.nm] o.ae (vG o))))
def mu (o:aG):Bool:=((decide (3<(o.ae.length:Int))||decide (6<(o.bY.length:Int)))||decide ((o.code.length:Int)<1))||decide (2048<(o.code.length:Int))
def fK (o:aG):Int:=if mu o=true then 2 else if (!(Cx o)||!(fB o.code.length o.main))=true then 1 else 0
theorem nr {n:Nat} {x:Int} (h:fB n x=true):∃p:Nat,x=(p:Int)/\p<n:=by
 unfold fB at h;simp only [Bool.and_eq_true,decide_eq_true_eq] at h;exact ⟨x.toNat,by omega,by omega⟩
theorem agw {seen us:List (List UInt8)} {i:Nat} {s:List UInt8} (h:us[i]? = some s) (f:Bool):nq (seen++us.take i) (us.drop i) f=nq (seen++us.take (i+1)) (us.drop (i+1)) ((f&&dG s)&&((((seen++us.take i).count s:Nat):Int)+1==1)):=by
 obtain ⟨h1,h2⟩:=List.getElem?_eq_some_iff.1 h;rw [List.drop_eq_getElem_cons h1,h2,nq,List.take_add_one,h,List.append_assoc]
 rfl
theorem agx {l:List aI} {i:Nat} {x:aI} (h:l[i]? = some x) (f:Bool):pj (l.drop i) f=pj (l.drop (i+1)) ((f&&decide (1<=x.op))&&decide (x.op<=22)):=by
 obtain ⟨h1,h2⟩:=List.getElem?_eq_some_iff.1 h;rw [List.drop_eq_getElem_cons h1,h2,pj]
theorem agy {n:Nat} {l:List Int} {i:Nat} {x:Int} (h:l[i]? = some x) (f:Bool):sf n (l.drop i) f=sf n (l.drop (i+1)) (f&&fB n x):=by
 obtain ⟨h1,h2⟩:=List.getElem?_eq_some_iff.1 h;rw [List.drop_eq_getElem_cons h1,h2,sf]
theorem agz {U:Nat} {c:List aI} {l:List ei} {i:Nat} {x:ei} (h:l[i]? = some x) (last:Int) (f:Bool):ot U c (l.drop i) last f=if ((f&&decide (last<x.at_))&&fB c.length x.at_)=false then false else ot U c (l.drop (i+1)) x.at_ (jX U c.length x.kind x.m (iD c x.at_)):=by
 obtain ⟨h1,h2⟩:=List.getElem?_eq_some_iff.1 h;rw [List.drop_eq_getElem_cons h1,h2,ot]
end Go.Bw
end
section
namespace Go.Bw
open Go
structure qt (o:aG):Prop where
 names:∀s ∈ o.nm::o.ae,dG s=true
 nd:(o.nm::o.ae).Nodup
 data:0<=o.data/\o.data<=512
 main:fB o.code.length o.main=true
 code:∀i ∈ o.code,xQ i
 bY:∀e ∈ o.bY,fB o.code.length e=true
 fix:∀f ∈ o.fix,fB o.code.length f.at_=true/\jX o.ae.length o.code.length f.kind f.m (iD o.code f.at_)=true
 up:o.fix.Pairwise λa b=>a.at_<b.at_
theorem Wx:∀(us seen:List (List UInt8)) (f:Bool),nq seen us f=true↔f=true/\(∀s ∈ us,dG s=true)/\us.Nodup/\∀s ∈ us,s ∉ seen
 | [],seen,f=>by simp [nq]
 | s::r,seen,f=>by
   rw [nq,Wx r]
   have hc:((((seen.count s:Nat):Int)+1==1)=true)↔s ∉ seen:=by
     rw [beq_iff_eq,<-List.count_eq_zero];omega
   rw [Bool.and_eq_true,Bool.and_eq_true,hc]
   have sg:∀t,(t ∈ seen++[s])↔(t ∈ seen\/t=s):=λt=>by simp
   simp only [sg,List.mem_cons,List.nodup_cons,forall_eq_or_imp]
   constructor
   · rintro ⟨⟨⟨h1,h2⟩,h3⟩,h4,h5,h6⟩
     exact ⟨h1,⟨h2,h4⟩,⟨λhm=>h6 s hm (.inr O),h5⟩,h3,λt ht hs=>h6 t ht (.inl hs)⟩
   · rintro ⟨h1,⟨h2,h4⟩,⟨h7,h5⟩,h3,h6⟩
     refine ⟨⟨⟨h1,h2⟩,h3⟩,h4,h5,λt ht hs=>?_⟩
     rcases hs with hs | hs
     · exact h6 t ht hs
     · subst hs; exact h7 ht
theorem Wy:∀(l:List aI) (f:Bool),pj l f=true↔f=true/\∀i ∈ l,xQ i
 | [],f=>by simp [pj]
 | x::r,f=>by
   rw [pj,Wy r];simp only [Bool.and_eq_true,decide_eq_true_eq,List.mem_cons,forall_eq_or_imp,xQ]
   constructor
   · rintro ⟨⟨⟨h1,h2⟩,h3⟩,h4⟩; exact ⟨h1,⟨h2,h3⟩,h4⟩
   · rintro ⟨h1,⟨h2,h3⟩,h4⟩; exact ⟨⟨⟨h1,h2⟩,h3⟩,h4⟩
theorem Wz (n:Nat):∀(l:List Int) (f:Bool),sf n l f=true↔f=true/\∀e ∈ l,fB n e=true
 | [],f=>by simp [sf]
 | x::r,f=>by
   rw [sf,Wz n r];simp only [Bool.and_eq_true,List.mem_cons,forall_eq_or_imp]
   constructor
   · rintro ⟨⟨h1,h2⟩,h3⟩; exact ⟨h1,h2,h3⟩
   · rintro ⟨h1,h2,h3⟩; exact ⟨⟨h1,h2⟩,h3⟩
theorem WA (U:Nat) (c:List aI):∀(l:List ei) (last:Int) (f:Bool),ot U c l last f=true↔f=true/\(∀x ∈ l,last<x.at_/\fB c.length x.at_=true/\jX U c.length x.kind x.m (iD c x.at_)=true)/\l.Pairwise λa b=>a.at_<b.at_
 | [],last,f=>by simp [ot]
 | x::r,last,f=>by
   rw [ot]
   have hx:((f&&decide (last<x.at_))&&fB c.length x.at_)=true↔f=true/\last<x.at_/\fB c.length x.at_=true:=by
     simp only [Bool.and_eq_true,decide_eq_true_eq,and_assoc]
   cases hb:((f&&decide (last<x.at_))&&fB c.length x.at_) with
   | false=>
     rw [if_pos rfl];refine ⟨λh=>(by cases h),λ⟨h1,h2,_⟩=>?_⟩;have h3:=h2 x (by simp);rw [hx.2 ⟨h1,h3.1,h3.2.1⟩] at hb;cases hb
   | true=>
     rw [if_neg (by decide),WA U c r];obtain ⟨h1,h2,h3⟩:=hx.1 hb;simp only [List.mem_cons,forall_eq_or_imp,List.pairwise_cons]
     constructor
     · rintro ⟨k1,k2,k3⟩
       exact ⟨h1,⟨⟨h2,h3,k1⟩,λy hy=>⟨by have:=(k2 y hy).1; omega,(k2 y hy).2⟩⟩,λy hy=>(k2 y hy).1,k3⟩
     · rintro ⟨_,⟨⟨_,_,k1⟩,k2⟩,k3,k4⟩
       exact ⟨k1,λy hy=>⟨k3 y hy,(k2 y hy).2⟩,k4⟩
theorem WG (o:aG):(Cx o=true/\fB o.code.length o.main=true)↔qt o:=by
 unfold Cx;rw [WA,Wz,Wy,Wx];unfold vG;simp only [Bool.and_eq_true,decide_eq_true_eq]
 constructor
 · rintro ⟨⟨⟨⟨⟨⟨⟨h1,h2⟩,h3⟩,h4,h5,h6⟩,h7⟩,h8⟩,h9,eX⟩,qu⟩
   refine ⟨λs hs=>?_,?_,⟨h2,h3⟩,qu,h7,h8,λf hf=>(h9 f hf).2,eX⟩
   · rcases List.mem_cons.1 hs with rfl | hs
     · exact h1
     · exact h4 s hs
   · rw [List.nodup_cons]
     exact ⟨λhm=>h6 _ hm (by simp),h5⟩
 · intro h
   have hn:=h.nd;rw [List.nodup_cons] at hn;refine ⟨⟨⟨⟨⟨⟨⟨h.names _ (by simp),h.data.1⟩,h.data.2⟩,λs hs=>h.names s (by simp [hs]),hn.2,λs hs=>?_⟩,h.code⟩,h.bY⟩,λf hf=>⟨?_,h.fix f hf⟩,h.up⟩,h.main⟩
   · intro hm
     rw [List.mem_singleton] at hm;subst hm;exact hn.1 hs
   · obtain ⟨p,hp,_⟩:=nr (h.fix f hf).1
     omega
theorem WH {o:aG} (h:mu o=true):fK o=2:=by rw [fK,if_pos h]
theorem agA {o:aG} (h:mu o=false) (k:qt o):fK o=0:=by
 obtain ⟨h1,h2⟩:=(WG o).2 k;rw [fK,if_neg (by rw [h]; decide),h1,h2]
 rfl
theorem Cy {o:aG} (h:mu o=false) (k:¬qt o):fK o=1:=by
 rw [fK,if_neg (by rw [h]; decide),if_pos]
 cases h1:Cx o with
 | false=>rfl
 | true=>
   cases h2:fB o.code.length o.main with
   | false=>rfl
   | true=>exact absurd ((WG o).1 ⟨h1,h2⟩) k
end Go.Bw
end
section
namespace Go.Bw
open Go
def sh (n:Int):UInt8:=UInt8.ofNat (n % 256).toNat
def zD (n:Int):List UInt8:=[sh (n.fdiv (2 ^ 56)),sh (n.fdiv (2 ^ 48)),sh (n.fdiv (2 ^ 40)),sh (n.fdiv (2 ^ 32)),sh (n.fdiv (2 ^ 24)),sh (n.fdiv (2 ^ 16)),sh (n.fdiv (2 ^ 8)),sh n]
def JD (s:List UInt8):List UInt8:=sh s.length::s
theorem agB (n:Int):(zD n).length=8:=rfl
def zE (n:Int):Prop:=-9223372036854775808<=n/\n<=9223372036854775807
def OO (i:aI):List UInt8:=sh i.op::(zD i.a++zD i.b)
def OP (f:ei):List UInt8:=zD f.at_++sh f.kind::zD f.m
structure WI (o:aG):Prop where
 code:∀i ∈ o.code,zE i.a/\zE i.b
end Go.Bw
end
section
namespace Go.Bw
open Go
structure Ns {α:Type} (gl:List UInt8->Option (α×List UInt8)) (no:List UInt8×Bool->α×(List UInt8×Bool)):Prop where
 some_:∀s r,gl s=some r->no (s,false)=(r.1,(r.2,false))
 none_:∀s,gl s=none->(no (s,false)).2.2=true
 bad:∀p,p.2=true->(no p).2.2=true
theorem Ns.pure {α:Type} (x:α):Ns (λs=>some (x,s)) (λp=>(x,p)):=⟨λs r h=>by injection h with h; subst h; rfl,λs h=>(by cases h),λp h=>h⟩
theorem Ns.bind {α β:Type} {g1:List UInt8->Option (α×List UInt8)} {n1:List UInt8×Bool->α×(List UInt8×Bool)} {g2:α->List UInt8->Option (β×List UInt8)} {n2:α->List UInt8×Bool->β×(List UInt8×Bool)}
   (h1:Ns g1 n1) (h2:∀a,Ns (g2 a) (n2 a)):Ns (λs=>(g1 s).bind λp=>g2 p.1 p.2) (λp=>n2 (n1 p).1 (n1 p).2):=by
 refine ⟨λs r h=>?_,λs h=>?_,λp h=>(h2 _).bad _ (h1.bad p h)⟩
 · obtain ⟨a,e1,e2⟩:=Option.bind_eq_some_iff.1 h
   show n2 (n1 (s,false)).1 (n1 (s,false)).2=_
   rw [h1.some_ s a e1];exact (h2 _).some_ _ _ e2
 · show (n2 (n1 (s,false)).1 (n1 (s,false)).2).2.2=true
   cases e1:g1 s with
   | none=>exact (h2 _).bad _ (h1.none_ s e1)
   | some a=>
     have h:(g1 s).bind (λp=>g2 p.1 p.2)=none:=h;rw [e1] at h;rw [h1.some_ s a e1];exact (h2 _).none_ _ h
end Go.Bw
end
section
namespace Go.Bw
open Go
theorem WJ {n:Int}:∀(l:List ei) (lo:Int),lo<=n->(∀f ∈ l,lo<=f.at_/\f.at_<n)->(l.Pairwise λa b=>a.at_<b.at_)->(l.length:Int)<=n-lo
 | [],lo,h,_,_=>by simp; omega
 | x::r,lo,h,h1,h2=>by
   rw [List.pairwise_cons] at h2;have hx:=h1 x (by simp);have ih:=WJ r (x.at_+1) (by omega) (λf hf=>⟨by have:=h2.1 f hf; omega,(h1 f (by simp [hf])).2⟩) h2.2;simp only [List.length_cons];omega
theorem agC {o:aG} (h:qt o):o.fix.length<=o.code.length:=by
 have:=WJ (n:=(o.code.length:Int)) o.fix 0 (by omega) (λf hf=>by
   obtain ⟨p,h1,h2⟩:=nr (h.fix f hf).1
   omega) h.up
 omega
theorem t' {o:aG} (h:fK o=0):mu o=false/\qt o:=by
 have hm:mu o=false:=by
   cases hm:mu o with
   | false=>rfl
   | true=>rw [WH hm] at h; cases h
 refine ⟨hm,?_⟩;refine Classical.byContradiction λhk=>?_;rw [Cy hm hk] at h;cases h
open Go.ChangeShapes Go.WideShapes Go.ChangeAt Go.RowKit Go.Joins Go.Deep
structure Fq (P:Program) (tI tT mh tN sd tF vy zF tO:TypeId) (ni fi oi:Array Field):Prop where
 uI:P.underlying tI=some (.int .i64)
 uT:P.underlying tT=some .string
 cT:P.cellsOf tT=1
 cI:P.cellsOf tI=1
 Oa:P.underlying mh=some (.slice tT)
 uN:P.underlying tN=some (.struct ni)
 rN:(jO P 0 ni.toList&&Nat.beq (P.cellsOf tN) ni.size)=true
 fN:ni.map (·.type) = #[tI,tI,tI]
 V7:P.underlying sd=some (.slice tN)
 uF:P.underlying tF=some (.struct fi)
 rF:(jO P 0 fi.toList&&Nat.beq (P.cellsOf tF) fi.size)=true
 fF:fi.map (·.type) = #[tI,tI,tI]
 VF:P.underlying vy=some (.slice tF)
 uIs:P.underlying zF=some (.slice tI)
 uO:P.underlying tO=some (.struct oi)
 rO:(jO P 0 oi.toList&&Nat.beq (P.cellsOf tO) oi.size)=true
 fO:oi.map (·.type) = #[tT,mh,tI,sd,vy,zF,tI]
def agE (H:View) (b o:Nat) (x:aI):Prop:=eB H b o x/\zE x.a/\zE x.b
def WK (H:View) (b o:Nat) (x:aG):Prop:=(∃q,aP H b o (gH x q)/\qs H q x)/\WI x
section
variable {P:Program} {H:Type} {enc:TypeId×Value->H} {w:World} {base:Nat} {spare:Nat->Bool} {held:Bool}
variable {tI tT mh tN sd tF vy zF tO OQ:TypeId} {ni fi oi:Array Field}
theorem vH {t:TypeId} {fuel:Nat} {v:Value} {x:DataW H×List MemPlace} (hu:P.underlying t=some (.int .i64)) (h:DataW.trod enc P w base spare held fuel t [v]=some x):∃k:Int,v = .int .i64 k/\zE k:=by
 obtain ⟨n,e,_,hwf⟩:=DataW.trod_int hu h
 injection e with e _
 simp only [Lit.wf,IntKind.min,IntKind.max,IntKind.signed,IntKind.bits,Bool.and_eq_true,decide_eq_true_eq,if_true] at hwf;exact ⟨n,e,by omega,by omega⟩
theorem agG (T:Fq P tI tT mh tN sd tF vy zF tO ni fi oi) {fuel:Nat} {cs:List Value} {x:DataW H×List MemPlace} (h:DataW.trod enc P w base spare held fuel tN cs=some x):∃y:aI,cs=y.cells/\zE y.a/\zE y.b:=by
 obtain ⟨hl,ys,n,hn,hx,zu,hf⟩:=N9 T.uN T.rN h;have gz:=B5 T.fN;simp at gz;obtain ⟨f0,g0,q0⟩:=o7 T.fN (j:=0) rfl;obtain ⟨f1,g1,q1⟩:=o7 T.fN (j:=1) rfl;obtain ⟨f2,g2,q2⟩:=o7 T.fN (j:=2) rfl;obtain ⟨v0,y0,i0,j0,t0⟩:=hf 0 f0 g0;obtain ⟨v1,y1,i1,j1,t1⟩:=hf 1 f1 g1;obtain ⟨v2,y2,i2,j2,t2⟩:=hf 2 f2 g2;rw [q0] at t0; rw [q1] at t1; rw [q2] at t2;obtain ⟨a0,rfl,_⟩:=vH T.uI t0;obtain ⟨a1,rfl,k1⟩:=vH T.uI t1;obtain ⟨a2,rfl,k2⟩:=vH T.uI t2;refine ⟨⟨a0,a1,a2⟩,?_,k1,k2⟩
 match cs,hl.trans gz with
 | [c0,c1,c2],_=>
   simp at i0 i1 i2;subst i0 i1 i2
   rfl
theorem agH (T:Fq P tI tT mh tN sd tF vy zF tO ni fi oi) {fuel:Nat} {cs:List Value} {x:DataW H×List MemPlace} (h:DataW.trod enc P w base spare held fuel tF cs=some x):∃y:ei,cs=y.cells:=by
 obtain ⟨hl,ys,n,hn,hx,zu,hf⟩:=N9 T.uF T.rF h;have gz:=B5 T.fF;simp at gz;obtain ⟨f0,g0,q0⟩:=o7 T.fF (j:=0) rfl;obtain ⟨f1,g1,q1⟩:=o7 T.fF (j:=1) rfl;obtain ⟨f2,g2,q2⟩:=o7 T.fF (j:=2) rfl;obtain ⟨v0,y0,i0,j0,t0⟩:=hf 0 f0 g0;obtain ⟨v1,y1,i1,j1,t1⟩:=hf 1 f1 g1;obtain ⟨v2,y2,i2,j2,t2⟩:=hf 2 f2 g2;rw [q0] at t0; rw [q1] at t1; rw [q2] at t2;obtain ⟨a0,rfl,_⟩:=vH T.uI t0;obtain ⟨a1,rfl,k1⟩:=vH T.uI t1;obtain ⟨a2,rfl,k2⟩:=vH T.uI t2;refine ⟨⟨a0,a1,a2⟩,?_⟩
 match cs,hl.trans gz with
 | [c0,c1,c2],_=>
   simp at i0 i1 i2;subst i0 i1 i2
   rfl
theorem agI (K:B2 H) (T:Fq P tI tT mh tN sd tF vy zF tO ni fi oi) (kq:∀b,spare b=true) {fuel:Nat} {cs:List Value} {x:DataW H×List MemPlace} (h:DataW.trod enc P w base spare held fuel tO cs=some x):∃(y:aG) (q:mr),cs=gH y q/\qs (hv w) q y/\WI y:=by
 obtain ⟨hl,ys,n,hn,hx,zu,hf⟩:=N9 T.uO T.rO h;have gz:=B5 T.fO;simp at gz;obtain ⟨f0,g0,q0⟩:=o7 T.fO (j:=0) rfl;obtain ⟨f1,g1,q1⟩:=o7 T.fO (j:=1) rfl;obtain ⟨f2,g2,q2⟩:=o7 T.fO (j:=2) rfl;obtain ⟨f3,g3,q3⟩:=o7 T.fO (j:=3) rfl;obtain ⟨f4,g4,q4⟩:=o7 T.fO (j:=4) rfl;obtain ⟨f5,g5,q5⟩:=o7 T.fO (j:=5) rfl;obtain ⟨f6,g6,q6⟩:=o7 T.fO (j:=6) rfl;obtain ⟨v0,y0,i0,j0,t0⟩:=hf 0 f0 g0;obtain ⟨v1,y1,i1,j1,t1⟩:=hf 1 f1 g1;obtain ⟨v2,y2,i2,j2,t2⟩:=hf 2 f2 g2;obtain ⟨v3,y3,i3,j3,t3⟩:=hf 3 f3 g3;obtain ⟨v4,y4,i4,j4,t4⟩:=hf 4 f4 g4;obtain ⟨v5,y5,i5,j5,t5⟩:=hf 5 f5 g5;obtain ⟨v6,y6,i6,j6,t6⟩:=hf 6 f6 g6;rw [q0] at t0; rw [q1] at t1; rw [q2] at t2; rw [q3] at t3; rw [q4] at t4; rw [q5] at t5; rw [q6] at t6;have WM:=B5 T.fN;simp at WM;have WN:=B5 T.fF;simp at WN;obtain ⟨nm,rfl,_⟩:=Vp K T.uT t0
 obtain ⟨s1,c1,us,rfl,h1,_⟩:=E4 (rd:=rdStr) K (λ_=>0) (λ_=>0) rfl (λ_ _=>rfl) T.Oa T.cT (by omega) kq (λn' mg y vk ht hl=>by
   match mg,hl with
   | [u],_=>
     obtain ⟨l,rfl,hb⟩:=Vp K T.uT ht
     exact ⟨l,λb o hr=>hr,Nat.zero_le _⟩) t1
 obtain ⟨da,rfl,_⟩:=vH T.uI t2
 obtain ⟨s2,c2,co,rfl,h2,_⟩:=E4 (rd:=agE) K (λ_=>0) (λ_=>0) rfl (λ_ _=>rfl) T.V7 ((Ob T.rN).trans WM) (by omega) kq (λn' mg y vk ht _=>by
   obtain ⟨z,rfl,k1,k2⟩:=agG T ht
   exact ⟨z,λb o hr=>⟨hr,k1,k2⟩,Nat.zero_le _⟩) t3
 obtain ⟨s3,c3,fx,rfl,h3,_⟩:=E4 (rd:=OF) K (λ_=>0) (λ_=>0) rfl (λ_ _=>rfl) T.VF ((Ob T.rF).trans WN) (by omega) kq (λn' mg y vk ht _=>by
   obtain ⟨z,rfl⟩:=agH T ht
   exact ⟨z,λb o hr=>hr,Nat.zero_le _⟩) t4
 obtain ⟨s4,c4,en,rfl,h4,_⟩:=E4 (rd:=iN) K (λ_=>0) (λ_=>0) rfl (λ_ _=>rfl) T.uIs T.cI (by omega) kq (λn' mg y vk ht hl=>by
   match mg,hl with
   | [u],_=>
     obtain ⟨l,rfl,_⟩:=vH T.uI ht
     exact ⟨l,λb o hr=>hr,Nat.zero_le _⟩) t5
 obtain ⟨mn,rfl,_⟩:=vH T.uI t6;refine ⟨⟨nm,us,da,co,fx,en,mn⟩,⟨(s1,c1),(s2,c2),(s3,c3),(s4,c4)⟩,?_,⟨h1,h2.imp λb o x hx=>hx.1,h3,h4⟩,⟨λi hi=>?_⟩⟩
 · match cs,hl.trans gz with
   | [c0,c1,c2,c3,c4,c5,c6],_=>
     simp at i0 i1 i2 i3 i4 i5 i6;subst i0 i1 i2 i3 i4 i5 i6
     rfl
 · obtain ⟨k,hk⟩:=List.getElem?_of_mem hi
   obtain ⟨b,o,_,hx⟩:=h2.aO k i hk;exact hx.2
theorem agJ (K:B2 H) (T:Fq P tI tT mh tN sd tF vy zF tO ni fi oi) (kq:∀b,spare b=true) (WO:P.underlying OQ=some (.slice tO)) {r:_root_.Go.Reach} {b0:Nat} {v:Value} {x:DataW H} {pl:List MemPlace} (JE:Value.okWide P w r b0 OQ v) (h:DataW.Trod enc P w base spare held OQ v x pl) :
   ∃(a:Option Addr) (c:Nat) (l:List aG),v = .slice a l.length c/\Sl WK 7 (hv w) a c l:=by
 obtain ⟨a,k,c,rfl⟩:=okWide_slice WO JE;obtain ⟨fuel,h⟩:=h;have gz:=B5 T.fO;simp at gz
 obtain ⟨a,c,l,h1,h2,_⟩:=E4 (rd:=WK) K (λ_=>0) (λ_=>0) rfl (λ_ _=>rfl) WO ((Ob T.rO).trans gz) (by omega) kq (λn' mg y vk ht _=>by
   obtain ⟨z,q,rfl,hr,hw⟩:=agI K T kq ht
   exact ⟨z,λb o hc=>⟨⟨q,hc,hr⟩,hw⟩,Nat.zero_le _⟩) h
 exact ⟨a,c,l,h1,h2⟩
end
end Go.Bw
end
section
namespace Go.Bw
open Go
theorem WQ {α:Type} {f:α->List UInt8} {k:Nat}:∀(l:List α) (h:∀x ∈ l,(f x).length<=k),(l.flatMap f).length<=k*l.length
 | [],_=>by simp
 | x::r,h=>by
   have h1:=h x (by simp);have h2:=WQ r λy hy=>h y (by simp [hy]);simp only [List.flatMap_cons,List.length_append,List.length_cons];rw [Nat.mul_add];omega
theorem JF {α:Type} {f:α->List UInt8} {k:Nat} {l:List α} (h:∀x ∈ l,(f x).length<=k) (i:Nat):((l.take i).flatMap f).length<=k*l.length:=by
 have h1:=WQ (l.take i) λx hx=>h x (List.mem_of_mem_take hx)
 have h2:(l.take i).length<=l.length:=by simp; omega
 exact Nat.le_trans h1 (Nat.mul_le_mul_left _ h2)
theorem agK (i:aI):(OO i).length=17:=rfl
theorem agL (f:ei):(OP f).length=17:=rfl
theorem WR (s:List UInt8):(JD s).length=s.length+1:=rfl
structure vI (o:aG):Prop where
 nm:o.nm.length<=8
 un:∀s ∈ o.ae,s.length<=8
 ae:o.ae.length<=3
 code:o.code.length<=2048
 bY:o.bY.length<=6
 fix:o.fix.length<=2048
theorem WW {s:List UInt8} (h:dG s=true):s.length<=8:=by
 unfold dG at h;simp only [Bool.and_eq_true,decide_eq_true_eq] at h;omega
theorem vJ {o:aG} (h:fK o=0):vI o:=by
 obtain ⟨hm,hk⟩:=t' h;have hf:=agC hk;unfold mu at hm;simp only [Bool.or_eq_false_iff,decide_eq_false_iff_not] at hm;exact ⟨WW (hk.names _ (by simp)),λs hs=>WW (hk.names s (by simp [hs])),by omega,by omega,by omega,by omega⟩
theorem vI.us {o:aG} (h:vI o) (i:Nat):((o.ae.take i).flatMap JD).length<=27:=by
 have h1:=JF (f:=JD) (k:=9) (l:=o.ae) (λx hx=>by have:=h.un x hx; rw [WR]; omega) i;have:=h.ae;omega
theorem vI.co {o:aG} (h:vI o) (i:Nat):((o.code.take i).flatMap OO).length<=34816:=by
 have h1:=JF (f:=OO) (k:=17) (l:=o.code) (λx hx=>Nat.le_of_eq (agK x)) i;have:=h.code;omega
theorem vI.fx {o:aG} (h:vI o) (i:Nat):((o.fix.take i).flatMap OP).length<=34816:=by
 have h1:=JF (f:=OP) (k:=17) (l:=o.fix) (λx hx=>Nat.le_of_eq (agL x)) i;have:=h.fix;omega
theorem vI.en {o:aG} (h:vI o) (i:Nat):((o.bY.take i).flatMap zD).length<=48:=by
 have h1:=JF (f:=zD) (k:=8) (l:=o.bY) (λx hx=>Nat.le_of_eq (agB x)) i;have:=h.bY;omega
theorem WX (o:aG):((decide (3<(o.ae.length:Int))||decide (6<(o.bY.length:Int)))||!(gD (o.code.length:Int) 1 2048))=mu o:=by
 unfold mu gD;rw [Bool.or_assoc (decide (3<(o.ae.length:Int))||decide (6<(o.bY.length:Int)))]
 congr 1
 rw [Bool.eq_iff_iff];simp
theorem xR (n:Nat) (x:Int):gD x 0 ((n:Int)-1)=fB n x:=by
 unfold gD fB;rw [Bool.eq_iff_iff];simp;omega
theorem Cz {α:Type} {p:α->Prop} {l:List α} {i:Nat} {x:α} (h:l[i]? = some x) (ha:∀y ∈ l.take i,p y) (hx:p x):∀y ∈ l.take (i+1),p y:=λy hy=>by
 rw [List.take_add_one,h] at hy
 rcases List.mem_append.1 hy with hy | hy
 · exact ha y hy
 · have hy:y ∈ [x]:=hy
   rw [List.mem_singleton] at hy;subst hy;exact hx
def Fs (o:aG) (i:Nat) (x:ei):Bool:=
 ((((!(gD x.at_ 0 ((o.code.length:Int)-1))||(decide ((0:Int)<(i:Int))&&decide (x.at_<=((o.fix[i-1]?).map (·.at_)).getD 0)))||!(gD x.kind 1 3))||!(gD x.m 0 (o.ae.length:Int)))||!(gD (iD o.code x.at_) 0 2048))||(x.kind==1&&(!(x.m==0)||decide ((o.code.length:Int)<iD o.code x.at_)))
theorem WY (U n:Nat) (k m a:Int):(!(!(gD k 1 3))&&(!(!(gD m 0 (U:Int)))&&(!(!(gD a 0 2048))&&!(k==1&&(!(m==0)||decide ((n:Int)<a))))))=jX U n k m a:=by
 unfold jX gD
 by_cases h1:k=1
 · subst h1
   rw [if_pos rfl,Bool.eq_iff_iff]
   by_cases hm:m=0
   · subst hm
     simp
   · simp [hm]
 · rw [if_neg h1]
   by_cases h2:k=2\/k=3
   · rw [if_pos h2,Bool.eq_iff_iff]
     have e:(k==1)=false:=by simpa using h1
     rw [e];simp;omega
   · rw [if_neg h2,Bool.eq_iff_iff]
     simp;omega
theorem agM {l:List ei} {i:Nat} {x:ei} (hx:l[i]? = some x) (hp:(l.take i).Pairwise λa b=>a.at_<b.at_) (hn:0<i->((l[i-1]?).map (·.at_)).getD 0<x.at_):(l.take (i+1)).Pairwise λa b=>a.at_<b.at_:=by
 rw [List.take_add_one,hx]
 show (l.take i++[x]).Pairwise _
 rw [List.pairwise_append];refine ⟨hp,by simp,λy hy z hz=>?_⟩;rw [List.mem_singleton] at hz;subst hz;obtain ⟨j,hj⟩:=List.getElem?_of_mem hy
 have i_:j<i:=by
   have:=(List.getElem?_eq_some_iff.1 hj).1;simp at this;omega
 have OR:l[j]? = some y:=by rw [List.getElem?_take_of_lt i_] at hj; exact hj
 have I2:i<l.length:=(List.getElem?_eq_some_iff.1 hx).1;have hn:=hn (by omega);obtain ⟨u,hu⟩:∃u,l[i-1]? = some u:=⟨_,List.getElem?_eq_getElem (by omega)⟩;rw [hu] at hn;have hn:u.at_<z.at_:=hn
 by_cases he:j=i-1
 · subst he
   rw [OR] at hu
   injection hu with hu
   subst hu;exact hn
 · have h1:(l.take i)[i-1]? = some u:=by rw [List.getElem?_take,if_pos (by omega)]; exact hu
   obtain ⟨h2,h3⟩:=List.getElem?_eq_some_iff.1 hj;obtain ⟨h4,h5⟩:=List.getElem?_eq_some_iff.1 h1;have:=List.pairwise_iff_getElem.1 hp j (i-1) h2 h4 (by omega);rw [h3,h5] at this;omega
def xS (o:aG) (i:Nat):Prop:=(∀f ∈ o.fix.take i,fB o.code.length f.at_=true/\jX o.ae.length o.code.length f.kind f.m (iD o.code f.at_)=true)/\(o.fix.take i).Pairwise λa b=>a.at_<b.at_
theorem xS.zero (o:aG):xS o 0:=⟨by simp,by simp⟩
theorem xS.next {o:aG} {i:Nat} {x:ei} (h:xS o i) (hx:o.fix[i]? = some x) (hw:Fs o i x=false):xS o (i+1):=by
 unfold Fs at hw;simp only [Bool.or_eq_false_iff] at hw;obtain ⟨⟨⟨⟨⟨h1,h2⟩,h3⟩,h4⟩,h5⟩,h6⟩:=hw;refine ⟨λf hf=>?_,agM hx h.2 λh0=>?_⟩
 · rw [List.take_add_one,hx] at hf
   rcases List.mem_append.1 hf with hf | hf
   · exact h.1 f hf
   · have hf:f ∈ [x]:=hf
     rw [List.mem_singleton] at hf;subst hf;refine ⟨(xR _ _).symm.trans (by simpa using h1),?_⟩;rw [<-WY,h3,h4,h5,h6]
     rfl
 · rw [decide_eq_true (show (0:Int)<(i:Int) by omega)] at h2
   have h2:decide (x.at_<=((o.fix[i-1]?).map (·.at_)).getD 0)=false:=h2;have:=of_decide_eq_false h2;omega
theorem agN {o:aG} {i:Nat} {x:ei} (hx:o.fix[i]? = some x) (hw:Fs o i x=true):¬qt o:=λk=>by
 have I2:i<o.fix.length:=(List.getElem?_eq_some_iff.1 hx).1;obtain ⟨h1,h2⟩:=k.fix x (List.mem_of_getElem? hx);rw [<-WY] at h2;simp only [Bool.and_eq_true,Bool.not_eq_true'] at h2;obtain ⟨g3,g4,g5,g6⟩:=h2;unfold Fs at hw;rw [(xR _ _).trans h1,g3,g4,g5,g6] at hw
 have hw:(decide ((0:Int)<(i:Int))&&decide (x.at_<=((o.fix[i-1]?).map (·.at_)).getD 0))=true:=by simpa using hw
 obtain ⟨k1,k2⟩:=Bool.and_eq_true_iff.1 hw;have k1:=of_decide_eq_true k1;have k2:=of_decide_eq_true k2;obtain ⟨u,hu⟩:∃u,o.fix[i-1]? = some u:=⟨_,List.getElem?_eq_getElem (by omega)⟩;rw [hu] at k2;have k2:x.at_<=u.at_:=k2;obtain ⟨a1,a2⟩:=List.getElem?_eq_some_iff.1 hu;obtain ⟨b1,b2⟩:=List.getElem?_eq_some_iff.1 hx;have:=List.pairwise_iff_getElem.1 k.up (i-1) i a1 b1 (by omega);rw [a2,b2] at this;omega
end Go.Bw
end
section
namespace Go.Bw
open Go
def cL (l:List aG):List (List UInt8):=l.map (·.nm)
structure Pl where
 code:Int
 data:Int
 zB:List Nat
def t_ (l:List aG):Nat:=(l.map (·.code.length)).sum
def zG (l:List aG):Int:=(l.map (·.data)).sum
def cw (l:List aG) (k:Nat):Int:=((l.length+1+t_ (l.take k):Nat):Int)
def dP (l:List aG) (k:Nat):Int:=zG (l.take k)
def qv (ns:List (List UInt8)) (o:aG):Bool:=o.ae.all λs=>(idxOf s ns 0).isSome
def qw (ns:List (List UInt8)) (s:List UInt8):Nat:=(idxOf s ns 0).getD 0
def pk (l:List aG) (n:Nat) (o:aG):List Nat:=n::o.ae.map (qw ((cL l).take n))
def si (l:List aG) (n:Nat) (o:aG):Pl:=⟨cw l n,dP l n,pk l n o⟩
def ou (l:List aG):List Pl:=l.mapIdx λn o=>si l n o
def ud (l:List aG):Pl:=⟨cw l l.length,dP l l.length,[]⟩
def sj (l:List aG) (k:Nat):Nat:=((l[k]?).map (·.bY.length)).getD 0
def dq (l:List aG) (n:Nat) (o:aG) (m:Int):Nat:=((pk l n o)[m.toNat]?).getD 0
def mw (l:List aG) (n:Nat) (o:aG) (f:ei):Bool:=f.kind==2&&decide ((sj l (dq l n o f.m):Int)<=iD o.code f.at_)
def vK (p:Nat->aG->Bool) (l:List aG):Bool:=(l.mapIdx p).any id
def eI (l:List aG):Int:=if l.length<1\/4<l.length then 2 else er (iC fK l) (if ee (cL l)=true then 6 else if vK (λn o=>!(qv ((cL l).take n) o)) l=true then 9 else if vK (λn o=>o.fix.any (mw l n o)) l=true then 5 else 0)
theorem Ft {p:Nat->aG->Bool} {l:List aG} {n:Nat} {o:aG} (h:l[n]? = some o) (hp:p n o=true):vK p l=true:=by
 unfold vK;rw [List.any_eq_true];exact ⟨true,List.mem_of_getElem? (i:=n) (by rw [List.getElem?_mapIdx,h,Option.map_some,hp]),O⟩
theorem CA {p:Nat->aG->Bool} {l:List aG} (h:∀n o,l[n]? = some o->p n o=false):vK p l=false:=by
 unfold vK;rw [List.any_eq_false];intro x hx;obtain ⟨n,hn⟩:=List.getElem?_of_mem hx;rw [List.getElem?_mapIdx] at hn;obtain ⟨o,ho,rfl⟩:=Option.map_eq_some_iff.1 hn;simp [h n o ho]
theorem WZ {p:Nat->aG->Bool} {l:List aG} (h:vK p l=false) {n:Nat} {o:aG} (hn:l[n]? = some o):p n o=false:=by
 cases hp:p n o with
 | false=>rfl
 | true=>rw [Ft hn hp] at h; cases h
theorem vL (l:List aG):(cL l).length=l.length:=by simp [cL]
theorem JG {l:List aG} {i:Nat} {o:aG} (h:l[i]? = some o):(cL l)[i]? = some o.nm:=by unfold cL; rw [List.getElem?_map,h]; rfl
theorem OS {l:List aG} (h:l.length<1\/4<l.length):eI l=2:=by rw [eI,if_pos h]
theorem W0 {l:List aG} {i:Nat} {o:aG} (h4:¬(l.length<1\/4<l.length)) (hi:l[i]? = some o) (h0:∀x ∈ l.take i,fK x=0) (h:¬fK o=0):eI l=fK o:=by
 rw [eI,if_neg h4,E6 fK hi (Jq.2 h0) h,vz h]
theorem CB {l:List aG} (h4:¬(l.length<1\/4<l.length)) (h0:∀x ∈ l,fK x=0):eI l=if ee (cL l)=true then 6 else if vK (λn o=>!(qv ((cL l).take n) o)) l=true then 9 else if vK (λn o=>o.fix.any (mw l n o)) l=true then 5 else 0:=by
 rw [eI,if_neg h4,Jq.2 h0,nk]
structure agO (l:List aG):Prop where
 ef:¬(l.length<1\/4<l.length)
 iE:∀o ∈ l,fK o=0
 nd:(cL l).Nodup
 known:∀n o,l[n]? = some o->qv ((cL l).take n) o=true
 bV:∀n o,l[n]? = some o->∀f ∈ o.fix,mw l n o f=false
theorem W1 {l:List aG}:eI l=0↔agO l:=by
 constructor
 · intro h
   have h4:¬(l.length<1\/4<l.length):=λh4=>by rw [OS h4] at h; cases h
   have h0:∀x ∈ l,fK x=0:=by
     rw [eI,if_neg h4,VG] at h;exact Jq.1 h.1
   rw [CB h4 h0] at h
   split at h
   · cases h
   · rename_i h1
     split at h
     · cases h
     · rename_i h2
       split at h
       · cases h
       · rename_i h3
         refine ⟨h4,h0,o8.2 (by simpa using h1),λn o hn=>?_,λn o hn f hf=>?_⟩
         · have:=WZ (by simpa using h2) hn
           simpa using this
         · have:=WZ (p:=λn o=>o.fix.any (mw l n o)) (by simpa using h3) hn
           rw [List.any_eq_false] at this
           simpa using this f hf
 · intro h
   rw [CB h.ef h.iE,o8.1 h.nd,if_neg (by decide),CA (λn o hn=>by rw [h.known n o hn]; rfl),if_neg (by decide),CA (λn o hn=>by rw [List.any_eq_false]; intro f hf; rw [h.bV n o hn f hf]; decide),if_neg (by decide)]
theorem OT {l:List aG} {i:Nat} {o:aG} (h:l[i]? = some o):t_ (l.take (i+1))=t_ (l.take i)+o.code.length:=by
 unfold t_;rw [List.take_add_one,h];simp
theorem W2 {l:List aG} {i:Nat} {o:aG} (h:l[i]? = some o):zG (l.take (i+1))=zG (l.take i)+o.data:=by
 unfold zG;rw [List.take_add_one,h];simp
theorem W3 {l:List aG} (h:∀o ∈ l,o.code.length<=2048):∀i,i<=l.length->t_ (l.take i)<=2048*i
 | 0,_=>by simp [t_]
 | i+1,hi=>by
   obtain ⟨o,ho⟩:∃o,l[i]? = some o:=⟨_,List.getElem?_eq_getElem (by omega)⟩;have h1:=W3 h i (by omega);have h2:=h o (List.mem_of_getElem? ho);rw [OT ho];omega
theorem W4 {l:List aG} (h:∀o ∈ l,0<=o.data/\o.data<=512):∀i,i<=l.length->0<=zG (l.take i)/\zG (l.take i)<=512*i
 | 0,_=>by simp [zG]
 | i+1,hi=>by
   obtain ⟨o,ho⟩:∃o,l[i]? = some o:=⟨_,List.getElem?_eq_getElem (by omega)⟩;have h1:=W4 h i (by omega);have h2:=h o (List.mem_of_getElem? ho);rw [W2 ho];omega
theorem OU {o:aG} (h:fK o=0):0<=o.data/\o.data<=512:=(t' h).2.data
theorem xT {l:List aG} (h4:¬(l.length<1\/4<l.length)) (h:∀o ∈ l,fK o=0) {k:Nat} (hk:k<=l.length):0<=cw l k/\cw l k<=9000:=by
 have h1:=W3 (λo ho=>(vJ (h o ho)).code) k hk;unfold cw;omega
theorem zH {l:List aG} (h4:¬(l.length<1\/4<l.length)) (h:∀o ∈ l,fK o=0) {k:Nat} (hk:k<=l.length):0<=dP l k/\dP l k<=2048:=by
 have h1:=W4 (λo ho=>OU (h o ho)) k hk;unfold dP;omega
theorem JH {l:List aG} {i:Nat} {o:aG} (h:l[i]? = some o):cw l (i+1)=cw l i+(o.code.length:Int):=by
 unfold cw;rw [OT h];omega
theorem W5 {l:List aG} {i:Nat} {o:aG} (h:l[i]? = some o):dP l (i+1)=dP l i+o.data:=by
 unfold dP;rw [W2 h]
theorem OV {l:List aG} {i:Nat} {o:aG} (h:l[i]? = some o):(ou l)[i]? = some (si l i o):=by unfold ou; rw [List.getElem?_mapIdx,h]; rfl
theorem xU (l:List aG):(ou l).length=l.length:=by simp [ou]
theorem agP {l:List aG} {i:Nat} {o:aG} (h:l[i]? = some o):(ou l).take (i+1)=(ou l).take i++[si l i o]:=by rw [List.take_add_one,OV h]; rfl
theorem OW {l:List aG} {i:Nat} {o:aG} (h:l[i]? = some o):(ou l++[ud l])[i]? = some (si l i o):=by
 have hi:=(List.getElem?_eq_some_iff.1 h).1;rw [List.getElem?_append_left (by rw [xU]; exact hi),OV h]
theorem agQ (l:List aG):(ou l++[ud l])[l.length]? = some (ud l):=by
 rw [List.getElem?_append_right (by rw [xU]; exact Nat.le_refl _),xU,Nat.sub_self]
 rfl
theorem OX (l:List aG) (n:Nat) (o:aG):(pk l n o).length=o.ae.length+1:=by simp [pk]
theorem agR {l:List aG} {n:Nat} {o:aG} (hn:n<l.length) (hk:qv ((cL l).take n) o=true):∀k ∈ pk l n o,k<l.length:=by
 intro k hm;unfold pk at hm
 rcases List.mem_cons.1 hm with rfl | hm
 · exact hn
 · obtain ⟨s,hs,rfl⟩:=List.mem_map.1 hm
   have h1:=List.all_eq_true.1 hk s hs;unfold qw
   cases hi:idxOf s ((cL l).take n) 0 with
   | none=>rw [hi] at h1; cases h1
   | some k=>
     have:=(List.getElem?_eq_some_iff.1 (Cd hi).2).1;rw [List.length_take,vL] at this
     show k<l.length
     omega
theorem JI {l:List aG} {n:Nat} {o:aG} (hn:n<l.length) (hk:qv ((cL l).take n) o=true) {m:Int} (h0:0<=m) (h1:m<=(o.ae.length:Int)):(pk l n o)[m.toNat]? = some (dq l n o m)/\dq l n o m<l.length:=by
 have hl:m.toNat<(pk l n o).length:=by rw [OX]; omega
 have h2:(pk l n o)[m.toNat]? = some (pk l n o)[m.toNat]:=List.getElem?_eq_getElem hl
 have h3:dq l n o m=(pk l n o)[m.toNat]:=by unfold dq; rw [h2]; rfl
 rw [h3];exact ⟨h2,agR hn hk _ (List.getElem_mem hl)⟩
def sk (c:List aI) (p:Nat) (v:Int):List aI:=match c[p]? with | some x=>c.set p ⟨x.op,v,x.b⟩ | none=>c
def Fu (l:List aG) (k:Nat) (a:Int):Int:=((l[k]?).bind λo=>o.bY[a.toNat]?).getD 0
def my (l:List aG) (n:Nat) (o:aG) (f:ei):Int:=
 if f.kind=1 then iD o.code f.at_+cw l n else if f.kind=2 then cw l (dq l n o f.m)+Fu l (dq l n o f.m) (iD o.code f.at_) else iD o.code f.at_+dP l (dq l n o f.m)
def jD (l:List aG) (n:Nat) (o:aG) (c:List aI) (fs:List ei):List aI:=fs.foldl (λc f=>sk c f.at_.toNat (my l n o f)) c
def nt (l:List aG):List aI:=l.mapIdx λn o=>(⟨13,cw l n+o.main,0⟩:aI)
def xV (l:List aG) (n:Nat) (o:aG):List aI:=jD l n o o.code o.fix
def CD (l:List aG) (n:Nat):List aI:=((l.mapIdx λn o=>xV l n o).take n).flatten
def eO (l:List aG) (n:Nat):List aI:=nt l++[⟨20,0,0⟩]++CD l n
def W6 (l:List aG):List aI:=eO l l.length
def ej (l:List aG):(List aI×Int)×Int:=if eI l≠0 then (([],0),eI l) else if 2048<cw l l.length\/512<dP l l.length then (([],0),2) else ((W6 l,dP l l.length),0)
theorem agS (c:List aI) (p:Nat) (v:Int):(sk c p v).length=c.length:=by unfold sk; split<;>simp
theorem JJ {c:List aI} {p:Nat} {x:aI} (h:c[p]? = some x) (v:Int):sk c p v=c.set p ⟨x.op,v,x.b⟩:=by unfold sk; rw [h]
theorem agT {c:List aI} {p q:Nat} (v:Int) (h:p≠q):(sk c p v)[q]? = c[q]?:=by
 unfold sk
 split
 · rw [List.getElem?_set_ne h]
 · rfl
theorem CF (l:List aG) (n:Nat) (o:aG):∀(fs:List ei) (c:List aI),(jD l n o c fs).length=c.length
 | [],c=>rfl
 | f::r,c=>by
   show (jD l n o (sk c f.at_.toNat (my l n o f)) r).length=_
   rw [CF l n o r,agS]
theorem CG {l:List aG} {n:Nat} {o:aG} {c:List aI} {fs:List ei} {j:Nat} {f:ei} (h:fs[j]? = some f):jD l n o c (fs.take (j+1))=sk (jD l n o c (fs.take j)) f.at_.toNat (my l n o f):=by
 unfold jD;rw [List.take_add_one,h];simp
theorem W7 {l:List aG} {n:Nat} {o:aG} {q:Nat}:∀(fs:List ei) (c:List aI),(∀f ∈ fs,f.at_.toNat≠q)->(jD l n o c fs)[q]? = c[q]?
 | [],c,_=>rfl
 | f::r,c,h=>by
   show (jD l n o (sk c f.at_.toNat (my l n o f)) r)[q]? = _
   rw [W7 r _ λg hg=>h g (by simp [hg]),agT _ (h f (by simp))]
theorem W8 {l:List aG} {n:Nat} {o:aG} (hk:qt o) {j:Nat} {f:ei} (h:o.fix[j]? = some f):(jD l n o o.code (o.fix.take j))[f.at_.toNat]? = o.code[f.at_.toNat]?:=by
 refine W7 _ _ λg hg e=>?_;obtain ⟨i,hi⟩:=List.getElem?_of_mem hg
 have xJ:i<j:=by
   have:=(List.getElem?_eq_some_iff.1 hi).1;rw [List.length_take] at this;omega
 rw [List.getElem?_take_of_lt xJ] at hi;obtain ⟨a1,a2⟩:=List.getElem?_eq_some_iff.1 hi;obtain ⟨b1,b2⟩:=List.getElem?_eq_some_iff.1 h;have:=List.pairwise_iff_getElem.1 hk.up i j a1 b1 xJ;rw [a2,b2] at this;obtain ⟨p,hp,_⟩:=nr (hk.fix g (List.mem_of_getElem? hi)).1;obtain ⟨p2,hp2,_⟩:=nr (hk.fix f (List.mem_of_getElem? h)).1;omega
theorem CH (l:List aG):(nt l).length=l.length:=by simp [nt]
theorem W9 {l:List aG} {i:Nat} {o:aG} (h:l[i]? = some o):(nt l).take (i+1)=(nt l).take i++[⟨13,cw l i+o.main,0⟩]:=by
 rw [List.take_add_one];unfold nt;rw [List.getElem?_mapIdx,h]
 rfl
theorem W_ (l:List aG):CD l 0=[]:=rfl
theorem Xa {l:List aG} {i:Nat} {o:aG} (h:l[i]? = some o):CD l (i+1)=CD l i++xV l i o:=by
 unfold CD;rw [List.take_add_one,List.getElem?_mapIdx,h];simp
theorem Xb {l:List aG}:∀{i:Nat},i<=l.length->(CD l i).length=t_ (l.take i)
 | 0,_=>by simp [W_,t_]
 | i+1,hi=>by
   obtain ⟨o,ho⟩:∃o,l[i]? = some o:=⟨_,List.getElem?_eq_getElem (by omega)⟩;rw [Xa ho,List.length_append,Xb (i:=i) (by omega),OT ho];unfold xV;rw [CF]
theorem Xc {l:List aG} {i:Nat} (hi:i<=l.length):((eO l i).length:Int)=cw l i:=by
 unfold eO cw;rw [List.length_append,List.length_append,CH,Xb hi,List.length_singleton]
theorem OY {l:List aG} {i:Nat} {o:aG} (h:l[i]? = some o):eO l (i+1)=eO l i++xV l i o:=by
 unfold eO;rw [Xa h,List.append_assoc,List.append_assoc,List.append_assoc]
theorem OZ {l:List aG} {n:Nat} {o:aG} {c:List aI} {p:Nat} {x:aI} (v:Int) (h:c[p]? = some x):(eO l n++c).set ((eO l n).length+p) ⟨x.op,v,x.b⟩=eO l n++sk c p v:=by
 rw [List.set_append_right _ _ (by omega),Nat.add_sub_cancel_left,JJ h]
theorem O0 {k:List UInt8}:∀(m:List (di (List UInt8))) (i:Nat),(bP k m i).isSome=true↔k ∈ m.map (·.1)
 | [],i=>by simp [bP]
 | e::r,i=>by
   rw [bP,List.map_cons,List.mem_cons]
   by_cases h:k=e.1
   · simp [h]
   · rw [if_neg (by simpa using h),O0 r (i+1)]
     simp [h]
theorem Xd {k:List UInt8} {v:Value} {m:List (di (List UInt8))} {c:Nat}:(k ∈ m.map (·.1)->(dY k v m c).length=m.length)/\(k ∉ m.map (·.1)->(dY k v m c).map (·.1)=m.map (·.1)++[k]):=by
 constructor
 · intro h
   have h2:=(O0 m 0).2 h;unfold dY
   cases hg:bP k m 0 with
   | none=>rw [hg] at h2; cases h2
   | some r=>simp
 · intro h
   have h2:bP k m 0=none:=by
     cases hg:bP k m 0 with
     | none=>rfl
     | some r=>exact absurd ((O0 m 0).1 (by rw [hg]; rfl)) h
   unfold dY;rw [h2];simp
def vM (ns:List (List UInt8)) (i:Nat) (M:List (di (List UInt8))):Prop:=
 (∀s,eu s M (.int .i64 0) = .int .i64 (((ns.take i).count s:Nat):Int))/\(((ns.take i).Nodup/\M.map (·.1)=ns.take i)\/(¬(ns.take i).Nodup/\M.length<i))
theorem vM.zero (ns:List (List UInt8)):vM ns 0 []:=⟨λs=>by simp [eu,bP],.inl ⟨by simp,by simp⟩⟩
theorem vM.step {ns:List (List UInt8)} {i:Nat} {M:List (di (List UInt8))} {x:List UInt8} (h:vM ns i M) (hx:ns[i]? = some x) (c:Nat):vM ns (i+1) (dY x (.int .i64 (((ns.take i).count x:Nat)+1)) M c):=by
 have av:=(List.getElem?_eq_some_iff.1 hx).1
 have hl:(ns.take i).length=i:=by simp; omega
 have hT:ns.take (i+1)=ns.take i++[x]:=by rw [List.take_add_one,hx]; rfl
 refine ⟨λs=>?_,?_⟩
 · by_cases e:s=x
   · subst e
     rw [Co,hT,List.count_append];simp
   · rw [Ju _ M c _ e,h.1 s,hT,List.count_append]
     have e2:¬x=s:=λk=>e k.symm;simp [List.count_cons,e2]
 · rcases h.2 with ⟨h1,h2⟩ | ⟨h1,h2⟩
   · by_cases hm:x ∈ ns.take i
     · right
       refine ⟨λhn=>?_,?_⟩
       · rw [hT,List.nodup_append] at hn
         exact hn.2.2 x hm x (by simp) O
       · rw [Xd.1 (by rw [h2]; exact hm),<-List.length_map (f:=(·.1)),h2,hl]
         omega
     · left
       refine ⟨?_,?_⟩
       · rw [hT,List.nodup_append]
         exact ⟨h1,by simp,λa ha b hb e=>by rw [List.mem_singleton] at hb; subst hb; subst e; exact hm ha⟩
       · rw [Xd.2 (by rw [h2]; exact hm),h2,hT]
   · right
     refine ⟨λhn=>h1 ?_,?_⟩
     · rw [hT,List.nodup_append] at hn; exact hn.1
     · have:=V1 x (.int .i64 (((ns.take i).count x:Nat)+1)) M c
       omega
theorem vM.ef {ns:List (List UInt8)} {M:List (di (List UInt8))} (h:vM ns ns.length M):M.length<ns.length↔ee ns=true:=by
 have h2:=h.2;rw [List.take_length] at h2
 rcases h2 with ⟨h1,h2⟩ | ⟨h1,h2⟩
 · rw [o8] at h1
   have:M.length=ns.length:=by rw [<-List.length_map (f:=(·.1)),h2]
   rw [h1]
   constructor
   · intro; omega
   · intro e; cases e
 · rw [o8] at h1
   exact ⟨λ_=>by simpa using h1,λ_=>h2⟩
end Go.Bw
end
section
namespace Go.Bw
open Go
theorem Xe {α β:Type} {p:Nat->α->β->Prop}:∀(l:List α) (s:Nat),(∀i x,l[i]? = some x->∃r,p (s+i) x r)->∃ys:List (α×β),ys.map (·.1)=l/\∀(i:Nat) y,ys[i]? = some y->p (s+i) y.1 y.2
 | [],_,_=>⟨[],rfl,λi y h=>by simp at h⟩
 | x::l,s,h=>by
   obtain ⟨r,hr⟩:=h 0 x rfl
   obtain ⟨ys,h1,h2⟩:=Xe l (s+1) λi y hy=>by
     obtain ⟨r,hr⟩:=h (i+1) y hy;exact ⟨r,by rw [show s+1+i=s+(i+1) by omega]; exact hr⟩
   refine ⟨(x,r)::ys,by simp [h1],λi y hy=>?_⟩
   cases i with
   | zero=>simp at hy; subst hy; exact hr
   | succ i=>rw [show s+(i+1)=s+1+i by omega]; exact h2 i y (by simpa using hy)
end Go.Bw
end
section
namespace Go.Bw
open Go
abbrev Tx:=List UInt8
def Fv:List UInt8:=[109,111,100,117,108,101]
def Fw:List UInt8:=[117,115,101]
def JK:List UInt8:=[112,117,98]
def ld:List UInt8:=[99,111,110,115,116]
def lf:List UInt8:=[118,97,114]
def lg:List UInt8:=[97,114,114,97,121]
def JL:List UInt8:=[112,114,111,99]
def zI:List UInt8:=[108,111,99,97,108]
def so:List UInt8:=[109,97,105,110]
def eZ:List UInt8:=[105,102]
def e7:List UInt8:=[101,108,115,101]
def e8:List UInt8:=[119,104,105,108,101]
def eP:List UInt8:=[114,101,116,117,114,110]
def eQ:List UInt8:=[111,117,116]
def zJ:List UInt8:=[105,110]
def J (l:List Tx):Tx:=Lib.join l [32]
def ow (mod nm:Tx):List Tx:=if (mod==[])=true then [nm] else [mod,[46],nm]
def opsL:List Tx:=[[38],[124],[43],[45],[42],[47],[37],[61],[60]]
def O1 (op:Int):Tx:=(opsL[(op-7).toNat]?).getD []
def vN:List (List Tx)->List Tx
 | []=>[]
 | [x]=>x
 | x::y::r=>x++[[44]]++vN (y::r)
def CI (l:List (List Tx)):List Tx:=[[40]]++vN l++[[41]]
def at_ (l:List (List Tx)) (i:Nat):List Tx:=(l[i]?).getD []
def ue (op n:Int) (mod nm:Tx) (A:List (List Tx)):List Tx:=
 if op=1 then [Lib.itoa n] else if op=2 then [zJ] else if op=3 then ow mod nm else if op=4 then ow mod nm++[[91]]++at_ A 0++[[93]] else if op=5 then ow mod nm++CI A
 else if op=6 then [[33]]++at_ A 0 else [[40]]++at_ A 0++[O1 op]++at_ A 1++[[41]]
mutual
def jE:az->List Tx
 | .mk op n mod nm args=>ue op n mod nm (kA args)
def kA:List az->List (List Tx)
 | []=>[]
 | x::r=>jE x::kA r
end
def JM (l:List Tx):List Tx:=[[123]]++l++[[125]]
def sq (op:Int) (mod nm:Tx) (A:List (List Tx)) (b:List Tx) (ol:Nat) (o:List Tx):List Tx:=
 if op=4\/op=5 then [if op=5 then e8 else eZ]++at_ A 0++JM b++(if 0<ol then [e7]++JM o else [])
 else (if op=6 then [eP]++at_ A 0 else if op=7 then [eQ]++at_ A 0 else if op=3 then ow mod nm++CI A else if op=1 then ow mod nm++[[61]]++at_ A 0 else if op=2 then ow mod nm++[[91]]++at_ A 0++[[93],[61]]++at_ A 1 else [])++[[59]]
mutual
def vO:aR->List Tx
 | .mk op mod nm args body other=>sq op mod nm (kA args) (vP body) other.length (vP other)
def vP:List aR->List Tx
 | []=>[]
 | x::r=>vO x++vP r
end
def CJ (l:List aR):List Tx:=JM (vP l)
def O2 (u:Tx):List Tx:=[zI,u,[59]]
def JN (d:bS):List Tx:=if d.kind=1 then [ld,d.nm,[61],Lib.itoa d.n] else if d.kind=2 then [lf,d.nm] else if d.kind=3 then [lg,d.nm,[91],Lib.itoa d.n,[93]] else []
theorem ox {a b:aC} (h:(a+b).bl=0):a.bl=0/\b.bl=0:=by
 rw [aC.cZ] at h; omega
theorem JO {b:Bool} (h:(cA b).bl=0):b=false:=by cases b; rfl; cases h
theorem Xf {b:Bool} (h:(bn b).bl=0):b=false:=by cases b; rfl; cases h
structure OkE (op n:Int) (mod nm:Tx) (args:List az) (d:Nat):Prop where
 deep:d<=6
 kind:1<=op/\op<=15
 name:p7 (gD op 3 5) mod nm=false
 Xg:tC (aeU op) args.length=false
 ef:args.length<=3
 num:lJ op n=false
 sub:(cq args (d+1)).bl=0
theorem agU (mod nm:Tx):ow mod nm≠[]:=by unfold ow; split<;>simp
theorem agV:∀x:az,jE x≠[]
 | .mk op n mod nm args=>by
   unfold jE ue CI;have:=agU mod nm
   repeat' split
   all_goals simp_all
structure Xh (op:Int) (mod nm:Tx) (args:List az) (body other:List aR) (d:Nat):Prop where
 kind:1<=op/\op<=7
 name:p7 (gD op 1 3) mod nm=false
 Xg:tC (U9 op) args.length=false
 ef:args.length<=3
 exprs:(cq args 1).bl=0
 form:h_ op body.length other.length=false
 body:(inner op||decide (0<body.length))=true->(rR (d+1) body.length (bU body (d+1))).bl=0
 other:0<other.length->(rR (d+1) other.length (bU other (d+1))).bl=0
theorem Xh.len {op:Int} {mod nm:Tx} {args:List az} {body other:List aR} {d:Nat} (h:Xh op mod nm args body other d) (ho:op≠3):args.length=if op=2 then 2 else 1:=by
 have:=h.Xg;unfold tC U9 at this
 by_cases h2:op=2
 · rw [if_pos h2] at this ⊢; simp at this; omega
 · rw [if_neg h2,if_neg ho] at this; rw [if_neg h2]; simp at this; omega
theorem agW:∀x:aR,vO x≠[]
 | .mk op mod nm args body other=>by
   unfold vO sq
   split<;>simp
theorem agX {d:bS} (h:(ie d).bl=0):d.kind=1\/d.kind=2\/d.kind=3:=by
 unfold ie at h;obtain ⟨_,h⟩:=ox h
 by_cases h1:d.kind=1
 · exact .inl h1
 · rw [if_neg h1] at h
   by_cases h2:d.kind=2
   · exact .inr (.inl h2)
   · rw [if_neg h2] at h
     by_cases h3:d.kind=3
     · exact .inr (.inr h3)
     · rw [if_neg h3] at h; cases h
theorem Xi:∀{l:List bS},(db l).bl=0->∀d ∈ l,(ie d).bl=0
 | [],_,d,hd=>by simp at hd
 | x::r,h,d,hd=>by
   unfold db at h;obtain ⟨h1,h2⟩:=ox h
   rcases List.mem_cons.1 hd with rfl | hd
   · exact h1
   · exact Xi h2 d hd
theorem Xj:∀{l:List dO},(dI l).bl=0->∀d ∈ l,(rT d).bl=0
 | [],_,d,hd=>by simp at hd
 | x::r,h,d,hd=>by
   unfold dI at h;obtain ⟨h1,h2⟩:=ox h
   rcases List.mem_cons.1 hd with rfl | hd
   · exact h1
   · exact Xj h2 d hd
theorem agY {c:aC}:vu c=0↔c.bl=0:=by
 unfold vu aC.bl
 split
 · omega
 · split
   · omega
   · split<;>omega
end Go.Bw
end
section
namespace Go.Bw
open Go
def zK (s:Tx):Tok:=match Lib.atoiAll s with
 | .ok v=>⟨2,v,[]⟩
 | _=>if dG s=true then ⟨1,0,s⟩ else ⟨3,0,s⟩
def Xk (t:Tok):Prop:=zj t=true/\o5 t=true
theorem agZ:∀u ∈ NT,zK [u]=⟨3,0,[u]⟩:=by decide
theorem ag0 {s:Tx} (h:dG s=true):zK s=⟨1,0,s⟩:=by
 cases s with
 | nil=>simp [dG] at h
 | cons c r=>
   have hl:l_ (c.toNat:Int)=true:=by
     simp only [dG,Bool.and_eq_true] at h
     simpa using h.1.2
   have hc:97<=c.toNat:=by simp [l_] at hl; omega
   have ha:∀v,Lib.atoiAll (c::r)≠.ok v:=by
     intro v hv;rw [Lib.atoiAll_plain c r (by omega) (by omega)] at hv;unfold Lib.parseMag Lib.parseUint10 at hv;rw [if_neg (by simp),if_neg (by omega)] at hv;cases hv
   unfold zK
   cases hs:Lib.atoiAll (c::r) with
   | ok v=>exact absurd hs (ha v)
   | _=>simp [h]
theorem ag1 {n:Int} (h0:0<=n) (h1:n<=1099511627775):zK (Lib.itoa n)=⟨2,n,[]⟩:=by
 unfold zK;rw [U3 h0,U5 (by omega)];simp; omega
theorem JP {t:Tok} (h:Xk t):zK (vr t)=t:=by
 obtain ⟨hk,ht⟩:=h;obtain ⟨k,n,s⟩:=t
 have I5:k=1\/k=2\/k=3:=by simp [zj] at hk; omega
 rcases I5 with rfl | rfl | rfl
 · simp only [o5,if_pos,Bool.and_eq_true,beq_iff_eq] at ht
   obtain ⟨rfl,hn⟩:=ht;exact ag0 hn
 · have:s=[]/\0<=n/\n<=1099511627775:=by simpa [o5] using ht
   obtain ⟨rfl,h0,h1⟩:=this;exact ag1 h0 h1
 · have:n=0/\s.length=1/\vq (s[0]?.getD 0)=true:=by simpa [o5] using ht
   obtain ⟨rfl,hl,hs⟩:=this
   match s,hl with
   | [c],_=>exact agZ c (by simpa [vq] using hs)
theorem zL:∀{l:List Tx},(aE l).bl=0->∀s ∈ l,gN s=true
 | [],_,s,hs=>by simp at hs
 | x::r,h,s,hs=>by
   unfold aE at h;obtain ⟨h1,h2⟩:=ox h
   rcases List.mem_cons.1 hs with rfl | hs
   · simpa using JO h1
   · exact zL h2 s hs
structure Xl (d:bS):Prop where
 name:gN d.nm=true
 kind:d.kind=1\/d.kind=2\/d.kind=3
 n1:d.kind=1->0<=d.n/\d.n<=1099511627775
 n2:d.kind=2->d.n=0
 n3:d.kind=3->1<=d.n/\d.n<=32
theorem Xm {d:bS} (h:(ie d).bl=0):Xl d:=by
 have hk:=agX h;unfold ie at h;obtain ⟨h1,h2⟩:=ox h;refine ⟨zL h1 d.nm (by simp),hk,λe=>?_,λe=>?_,λe=>?_⟩
 · rw [if_pos e] at h2
   have:=JO h2;simp at this; omega
 · rw [if_neg (by omega),if_pos e] at h2
   have:=JO h2
   simpa using this
 · rw [if_neg (by omega),if_neg (by omega),if_pos e] at h2
   have:=JO h2;simp at this; omega
structure OkP (p:dO):Prop where
 name:gN p.nm=true
 params:∀s ∈ p.params,gN s=true
 ax:∀s ∈ p.ax,gN s=true
 ef:p.params.length<=3/\p.ax.length<=4
 body:(dn p.body 1).bl=0
theorem okP {p:dO} (h:(rT p).bl=0):OkP p:=by
 unfold rT at h;obtain ⟨h,h5⟩:=ox h;obtain ⟨h,h4⟩:=ox h;obtain ⟨h,h3⟩:=ox h;obtain ⟨h1,h2⟩:=ox h;have:=Xf h4;simp at this;exact ⟨zL h1 p.nm (by simp),zL h2,zL h3,by omega,h5⟩
structure Fx (m:bf):Prop where
 name:gN m.nm=true
 ae:∀s ∈ m.ae,gN s=true
 ef:m.ae.length<=3/\m.decls.length<=10/\m.procs.length<=6
 decls:∀d ∈ m.decls,(ie d).bl=0
 procs:∀p ∈ m.procs,(rT p).bl=0
 main:(dn m.main 1).bl=0
theorem okM {m:bf} (h:(xB m).bl=0):Fx m:=by
 unfold xB at h;obtain ⟨h,h6⟩:=ox h;obtain ⟨h,h5⟩:=ox h;obtain ⟨h,h4⟩:=ox h;obtain ⟨h,h3⟩:=ox h;obtain ⟨h1,h2⟩:=ox h;have:=Xf h3;simp at this;exact ⟨zL h1 m.nm (by simp),zL h2,by omega,Xi h4,Xj h5,h6⟩
end Go.Bw
end
section
namespace Go.Bw
open Go
abbrev Tk:=List Tok
def aH (s:Tx):Tk->Option Tk
 | []=>none
 | t::r=>if (t.text==s)=true then some r else none
def lQ (k:Int):Tk->Option (Tok×Tk)
 | []=>none
 | t::r=>if t.kind=k then some (t,r) else none
def cX (l:Tk):Option (Tx×Tk):=(lQ 1 l).bind λp=>if gN p.1.text=true then some (p.1.text,p.2) else none
def kB (l:Tk):Option (Int×Tk):=(lQ 2 l).map λp=>(p.1.n,p.2)
def lh (l:Tk):Option ((Tx×Tx)×Tk):=(cX l).bind λa=>match aH [46] a.2 with
 | some r=>(cX r).map λb=>((a.1,b.1),b.2)
 | none=>some (([],a.1),a.2)
def lR (pe:Tk->Option (az×Tk)):Nat->Tk->Option (List az×Tk)
 | 0,_=>none
 | n+1,l=>(pe l).bind λx=>match aH [41] x.2 with
   | some r=>some ([x.1],r)
   | none=>match aH [44] x.2 with
     | some r=>(lR pe n r).map λq=>(x.1::q.1,q.2)
     | none=>none
def lj (pe:Tk->Option (az×Tk)) (l:Tk):Option (List az×Tk):=match aH [41] l with
 | some r=>some ([],r)
 | none=>lR pe (l.length+1) l
def pn:List Tx->Nat->Tk->Option (Nat×Tk)
 | [],_,_=>none
 | w::ws,i,l=>match aH w l with
   | some r=>some (i,r)
   | none=>pn ws (i+1) l
def nw (pe:Tk->Option (az×Tk)) (l:Tk):Option (az×Tk):=(pe l).bind λa=>(pn opsL 0 a.2).bind λo=>(pe o.2).bind λb=>(aH [41] b.2).map λr=>(az.mk (7+(o.1:Int)) 0 [] [] [a.1,b.1],r)
def qx (pe:Tk->Option (az×Tk)) (mod nm:Tx) (l:Tk):Option (az×Tk):=match aH [91] l with
 | some r=>(pe r).bind λx=>(aH [93] x.2).map λr=>(az.mk 4 0 mod nm [x.1],r)
 | none=>match aH [40] l with
   | some r=>(lj pe r).map λq=>(az.mk 5 0 mod nm q.1,q.2)
   | none=>some (az.mk 3 0 mod nm [],l)
def oy (pe:Tk->Option (az×Tk)) (l:Tk):Option (az×Tk):=match aH zJ l with
 | some r=>some (az.mk 2 0 [] [] [],r)
 | none=>match aH [33] l with
   | some r=>(pe r).map λx=>(az.mk 6 0 [] [] [x.1],x.2)
   | none=>match aH [40] l with
     | some r=>nw pe r
     | none=>(lh l).bind λp=>qx pe p.1.1 p.1.2 p.2
def cy:Nat->Tk->Option (az×Tk)
 | 0,_=>none
 | f+1,l=>match l with
   | []=>none
   | t::r=>if t.kind=2 then some (az.mk 1 t.n [] [] [],r) else oy (cy f) (t::r)
def eJ (l:Tk):Option (aR×Tk):=match aH eP l with
 | some r=>(cy 6 r).map λx=>(aR.mk 6 [] [] [x.1] [] [],x.2)
 | none=>match aH eQ l with
   | some r=>(cy 6 r).map λx=>(aR.mk 7 [] [] [x.1] [] [],x.2)
   | none=>(lh l).bind λp=>match aH [40] p.2 with
     | some r=>(lj (cy 6) r).map λq=>(aR.mk 3 p.1.1 p.1.2 q.1 [] [],q.2)
     | none=>match aH [91] p.2 with
       | some r=>(cy 6 r).bind λi=>(aH [93] i.2).bind λr=>(aH [61] r).bind λr=>(cy 6 r).map λx=>(aR.mk 2 p.1.1 p.1.2 [i.1,x.1] [] [],x.2)
       | none=>(aH [61] p.2).bind λr=>(cy 6 r).map λx=>(aR.mk 1 p.1.1 p.1.2 [x.1] [] [],x.2)
def dU (pb:Tk->Option (List aR×Tk)) (l:Tk):Option (aR×Tk):=match aH eZ l with
 | some r=>(cy 6 r).bind λx=>(pb x.2).bind λb=>match aH e7 b.2 with
   | some r=>(pb r).bind λo=>if o.1.length=0 then none else some (aR.mk 4 [] [] [x.1] b.1 o.1,o.2)
   | none=>some (aR.mk 4 [] [] [x.1] b.1 [],b.2)
 | none=>match aH e8 l with
   | some r=>(cy 6 r).bind λx=>(pb x.2).map λb=>(aR.mk 5 [] [] [x.1] b.1 [],b.2)
   | none=>(eJ l).bind λs=>(aH [59] s.2).map λr=>(s.1,r)
def oz (ps:Tk->Option (aR×Tk)):Nat->Tk->Option (List aR×Tk)
 | 0,_=>none
 | n+1,l=>match aH [125] l with
   | some r=>some ([],r)
   | none=>(ps l).bind λs=>(oz ps n s.2).map λq=>(s.1::q.1,q.2)
def fq:Nat->Tk->Option (List aR×Tk)
 | 0,_=>none
 | f+1,l=>(aH [123] l).bind λr=>oz (dU (fq f)) (r.length+1) r
def fL (aT:Bool) (l:Tk):Option (Option bS×Tk):=match aH ld l with
 | some r=>(cX r).bind λa=>(aH [61] a.2).bind λr=>(kB r).bind λn=>(aH [59] n.2).map λr=>(some ⟨1,a.1,aT,n.1⟩,r)
 | none=>match aH lf l with
   | some r=>(cX r).bind λa=>(aH [59] a.2).map λr=>(some ⟨2,a.1,aT,0⟩,r)
   | none=>match aH lg l with
     | some r=>(cX r).bind λa=>(aH [91] a.2).bind λr=>(kB r).bind λn=>(aH [93] n.2).bind λr=>(aH [59] r).map λr=>(some ⟨3,a.1,aT,n.1⟩,r)
     | none=>some (none,l)
def kC (l:Tk):Bool×Tk:=((aH JK l).isSome,(aH JK l).getD l)
def oA:Nat->Bool->Tk->Option ((List bS×Bool)×Tk)
 | 0,_,_=>none
 | n+1,aT,l=>(fL aT l).bind λd=>match d.1 with
   | none=>some (([],aT),d.2)
   | some x=>(oA n (kC d.2).1 (kC d.2).2).map λq=>((x::q.1.1,q.1.2),q.2)
def jf:Nat->Bool->Tk->Option (List Tx×Tk)
 | 0,_,_=>none
 | n+1,first,l=>match aH [41] l with
   | some r=>some ([],r)
   | none=>(if first=true then some l else aH [44] l).bind λl=>(cX l).bind λa=>(jf n false a.2).map λq=>(a.1::q.1,q.2)
def lS:Nat->Tk->Option (List Tx×Tk)
 | 0,_=>none
 | n+1,l=>match aH zI l with
   | some r=>(cX r).bind λa=>(aH [59] a.2).bind λr=>(lS n r).map λq=>(a.1::q.1,q.2)
   | none=>some ([],l)
def jg (aT:Bool) (l:Tk):Option (dO×Tk):=(cX l).bind λa=>(aH [40] a.2).bind λr=>(jf (r.length+1) true r).bind λps=>(lS (ps.2.length+1) ps.2).bind λls=>(fq 6 ls.2).map λb=>(⟨a.1,aT,ps.1,ls.1,b.1⟩,b.2)
def oB:Nat->Bool->Tk->Option ((List dO×Bool)×Tk)
 | 0,_,_=>none
 | n+1,aT,l=>match aH JL l with
   | some r=>(jg aT r).bind λp=>(oB n (kC p.2).1 (kC p.2).2).map λq=>((p.1::q.1.1,q.1.2),q.2)
   | none=>some (([],aT),l)
def mz:Nat->Tk->Option (List Tx×Tk)
 | 0,_=>none
 | n+1,l=>match aH Fw l with
   | some r=>(cX r).bind λa=>(aH [59] a.2).bind λr=>(mz n r).map λq=>(a.1::q.1,q.2)
   | none=>some ([],l)
def ny (l:Tk):Option (bf×Tk):=(aH Fv l).bind λr=>(cX r).bind λa=>(aH [123] a.2).bind λr=>(mz (r.length+1) r).bind λu=>
 (oA ((kC u.2).2.length+1) (kC u.2).1 (kC u.2).2).bind λd=>(oB (d.2.length+1) d.1.2 d.2).bind λp=>if p.1.2=true then none else
 (aH so p.2).bind λr=>(fq 6 r).bind λb=>(aH [125] b.2).map λr=>(⟨a.1,u.1,d.1.1,p.1.1,b.1⟩,r)
def gn (l:Tk):Prop:=∀t ∈ l,Xk t
def eR (l:Tk) (ws:List Tx) (r:Tk):Prop:=gn l/\l=ws.map zK++r
theorem eR.ok {l r:Tk} {ws:List Tx} (h:eR l ws r):gn r:=λt ht=>h.1 t (by rw [h.2]; exact List.mem_append_right _ ht)
theorem eR.trans {l r q:Tk} {a b:List Tx} (h:eR l a r) (k:eR r b q):eR l (a++b) q:=⟨h.1,by rw [h.2,k.2]; simp⟩
theorem eR.nil {l:Tk} (h:gn l):eR l [] l:=⟨h,rfl⟩
theorem eR.cast {l r:Tk} {a b:List Tx} (h:eR l a r) (e:a=b):eR l b r:=e▸h
theorem eC {s:Tx} {l r:Tk} (hl:gn l) (hs:s≠[]) (h:aH s l=some r):eR l [s] r:=by
 cases l with
 | nil=>cases h
 | cons t q=>
   simp only [aH] at h
   split at h
   · rename_i ht
     injection h with h
     subst h;simp only [beq_iff_eq] at ht;refine ⟨hl,?_⟩;have aA:=hl t (by simp)
     have e:vr t=s:=by
       unfold vr;rw [if_neg]
       · exact ht
       · intro hk
         have:=aA.2;unfold o5 at this;rw [if_neg (by omega),if_pos hk] at this;simp [ht,hs] at this
     simp [<-e,JP aA]
   · cases h
theorem uf {l r:Tk} {a:Tx} (hl:gn l) (h:cX l=some (a,r)):eR l [a] r/\gN a=true:=by
 cases l with
 | nil=>cases h
 | cons t q=>
   unfold cX lQ at h;dsimp only at h
   by_cases hk:t.kind=1
   · rw [if_pos hk] at h
     simp only [Option.bind_some] at h
     split at h
     · rename_i hn
       injection h with h
       injection h with h1 h2
       subst h1 h2;refine ⟨⟨hl,?_⟩,hn⟩;have aA:=hl t (by simp)
       have e:vr t=t.text:=by rw [vr,if_neg (by omega)]
       rw [<-e];simp [JP aA]
     · cases h
   · rw [if_neg hk] at h; cases h
theorem O3 {l r:Tk} {n:Int} (hl:gn l) (h:kB l=some (n,r)):eR l [Lib.itoa n] r:=by
 cases l with
 | nil=>cases h
 | cons t q=>
   unfold kB lQ at h;dsimp only at h
   by_cases hk:t.kind=2
   · rw [if_pos hk] at h
     simp only [Option.map_some] at h
     injection h with h
     injection h with h1 h2
     subst h1 h2;refine ⟨hl,?_⟩;have aA:=hl t (by simp)
     have e:vr t=Lib.itoa t.n:=by rw [vr,if_pos hk]
     rw [<-e];simp [JP aA]
   · rw [if_neg hk] at h; cases h
theorem O4 {l r:Tk} {mod nm:Tx} (hl:gn l) (h:lh l=some ((mod,nm),r)):eR l (ow mod nm) r:=by
 unfold lh at h;obtain ⟨⟨a,q⟩,h1,h2⟩:=Option.bind_eq_some_iff.1 h;obtain ⟨e1,n1⟩:=uf hl h1;simp only at h2
 cases hd:aH [46] q with
 | none=>
   rw [hd] at h2;simp only [Option.some.injEq,Prod.mk.injEq] at h2;obtain ⟨⟨rfl,rfl⟩,rfl⟩:=h2;exact e1
 | some q2=>
   rw [hd] at h2;obtain ⟨⟨b,q3⟩,h3,h4⟩:=Option.map_eq_some_iff.1 h2;simp only [Prod.mk.injEq] at h4;obtain ⟨⟨rfl,rfl⟩,rfl⟩:=h4;have e2:=eC e1.ok (by simp) hd;obtain ⟨e3,n3⟩:=uf e2.ok h3;refine ((e1.trans e2).trans e3).cast ?_;unfold ow;rw [if_neg]
   · rfl
   · intro hm
     simp only [beq_iff_eq] at hm;subst hm;simp [gN,dG] at n1
def Sound (pe:Tk->Option (az×Tk)):Prop:=∀l x r,gn l->pe l=some (x,r)->eR l (jE x) r
theorem O5 {pe:Tk->Option (az×Tk)} (hp:Sound pe):∀(n:Nat) (l:Tk) (xs:List az) (r:Tk),gn l->lR pe n l=some (xs,r)->eR l (vN (kA xs)++[[41]]) r
 | 0,_,_,_,_,h=>by cases h
 | n+1,l,xs,r,hl,h=>by
   unfold lR at h;obtain ⟨⟨x,q⟩,h1,h2⟩:=Option.bind_eq_some_iff.1 h;have e1:=hp l x q hl h1;simp only at h2
   cases hd:aH [41] q with
   | some q2=>
     rw [hd] at h2;simp only [Option.some.injEq,Prod.mk.injEq] at h2;obtain ⟨rfl,rfl⟩:=h2;exact e1.trans (eC e1.ok (by simp) hd)
   | none=>
     rw [hd] at h2;simp only at h2
     cases hc:aH [44] q with
     | none=>rw [hc] at h2; cases h2
     | some q2=>
       rw [hc] at h2;obtain ⟨⟨ys,q3⟩,h3,h4⟩:=Option.map_eq_some_iff.1 h2;simp only [Prod.mk.injEq] at h4;obtain ⟨rfl,rfl⟩:=h4;have e2:=eC e1.ok (by simp) hc;have e3:=O5 hp n q2 ys q3 e2.ok h3;refine ((e1.trans e2).trans e3).cast ?_
       cases ys with
       | nil=>exfalso; cases n with
         | zero=>cases h3
         | succ n=>
           unfold lR at h3;obtain ⟨⟨y,q4⟩,_,h5⟩:=Option.bind_eq_some_iff.1 h3;simp only at h5
           split at h5
           · simp at h5
           · split at h5
             · obtain ⟨z,_,h6⟩:=Option.map_eq_some_iff.1 h5
               simp at h6
             · cases h5
       | cons y ys=>simp [kA,vN]
theorem Xn {pe:Tk->Option (az×Tk)} (hp:Sound pe) {l r q:Tk} {xs:List az} (hl:gn l) (hq:aH [40] l=some q) (h:lj pe q=some (xs,r)):eR l (CI (kA xs)) r:=by
 have e0:=eC hl (by simp) hq;unfold lj at h
 cases hd:aH [41] q with
 | some q2=>
   rw [hd] at h;simp only [Option.some.injEq,Prod.mk.injEq] at h;obtain ⟨rfl,rfl⟩:=h;exact e0.trans (eC e0.ok (by simp) hd)
 | none=>
   rw [hd] at h;exact (e0.trans (O5 hp _ q xs r e0.ok h)).cast (by simp [CI])
theorem Xo:∀(ws:List Tx) (i:Nat) (l r:Tk) (k:Nat),gn l->(∀w ∈ ws,w≠[])->pn ws i l=some (k,r)->∃j,k=i+j/\∃w,ws[j]? = some w/\eR l [w] r
 | [],_,_,_,_,_,_,h=>by cases h
 | w::ws,i,l,r,k,hl,hw,h=>by
   unfold pn at h
   cases hd:aH w l with
   | some q=>
     rw [hd] at h;simp only [Option.some.injEq,Prod.mk.injEq] at h;obtain ⟨rfl,rfl⟩:=h;exact ⟨0,O,w,O,eC hl (hw w (by simp)) hd⟩
   | none=>
     rw [hd] at h;obtain ⟨j,h1,v,h2,h3⟩:=Xo ws (i+1) l r k hl (λv hv=>hw v (List.mem_cons_of_mem _ hv)) h;exact ⟨j+1,by omega,v,by simpa using h2,h3⟩
theorem ag5 (op n:Int) (mod nm:Tx) (args:List az):jE (.mk op n mod nm args)=ue op n mod nm (kA args):=by rw [jE]
theorem ag6 {pe:Tk->Option (az×Tk)} (hp:Sound pe) {l r q:Tk} {x:az} (hl:gn l) (hq:aH [40] l=some q) (h:nw pe q=some (x,r)):eR l (jE x) r:=by
 have e0:=eC hl (by simp) hq;unfold nw at h;obtain ⟨⟨a,q1⟩,h1,h2⟩:=Option.bind_eq_some_iff.1 h;obtain ⟨⟨o,q2⟩,h3,h4⟩:=Option.bind_eq_some_iff.1 h2;obtain ⟨⟨b,q3⟩,h5,h6⟩:=Option.bind_eq_some_iff.1 h4;obtain ⟨q4,h7,h8⟩:=Option.map_eq_some_iff.1 h6;simp only [Prod.mk.injEq] at h8;obtain ⟨rfl,rfl⟩:=h8;have e1:=hp q a q1 e0.ok h1;obtain ⟨j,hj,w,hw,e2⟩:=Xo opsL 0 q1 q2 o e1.ok (by decide) h3;have e3:=hp q2 b q3 e2.ok h5;have e4:=eC e3.ok (by simp) h7;refine ((((e0.trans e1).trans e2).trans e3).trans e4).cast ?_
 obtain rfl:o=j:=by omega
 have av:o<9:=(List.getElem?_eq_some_iff.1 hw).1
 have gk:O1 (7+(o:Int))=w:=by
   unfold O1;rw [show ((7+(o:Int))-7).toNat=o by omega,hw]; rfl
 rw [ag5,ue,if_neg (by omega),if_neg (by omega),if_neg (by omega),if_neg (by omega),if_neg (by omega),if_neg (by omega),gk];simp [kA,at_]
theorem ag7 {pe:Tk->Option (az×Tk)} (hp:Sound pe) {l l0 r:Tk} {mod nm:Tx} {x:az} (h0:eR l0 (ow mod nm) l) (h:qx pe mod nm l=some (x,r)):eR l0 (jE x) r:=by
 unfold qx at h
 cases hd:aH [91] l with
 | some q=>
   rw [hd] at h;obtain ⟨⟨y,q1⟩,h1,h2⟩:=Option.bind_eq_some_iff.1 h;obtain ⟨q2,h3,h4⟩:=Option.map_eq_some_iff.1 h2;simp only [Prod.mk.injEq] at h4;obtain ⟨rfl,rfl⟩:=h4;have e1:=eC h0.ok (by simp) hd;have e2:=hp q y q1 e1.ok h1;have e3:=eC e2.ok (by simp) h3;exact (((h0.trans e1).trans e2).trans e3).cast (by simp [jE,ue,kA,at_])
 | none=>
   rw [hd] at h;simp only at h
   cases hc:aH [40] l with
   | some q=>
     rw [hc] at h;obtain ⟨⟨xs,q1⟩,h1,h2⟩:=Option.map_eq_some_iff.1 h;simp only [Prod.mk.injEq] at h2;obtain ⟨rfl,rfl⟩:=h2;exact (h0.trans (Xn hp h0.ok hc h1)).cast (by simp [jE,ue])
   | none=>
     rw [hc] at h;simp only [Option.some.injEq,Prod.mk.injEq] at h;obtain ⟨rfl,rfl⟩:=h;exact h0.cast (by simp [jE,ue])
theorem ag8 {pe:Tk->Option (az×Tk)} (hp:Sound pe):Sound (oy pe):=by
 intro l x r hl h;unfold oy at h
 cases hd:aH zJ l with
 | some q=>
   rw [hd] at h;simp only [Option.some.injEq,Prod.mk.injEq] at h;obtain ⟨rfl,rfl⟩:=h;exact (eC hl (by decide) hd).cast (by simp [jE,ue])
 | none=>
   rw [hd] at h;simp only at h
   cases hn:aH [33] l with
   | some q=>
     rw [hn] at h;obtain ⟨⟨y,q1⟩,h1,h2⟩:=Option.map_eq_some_iff.1 h;simp only [Prod.mk.injEq] at h2;obtain ⟨rfl,rfl⟩:=h2;have e1:=eC hl (by simp) hn;exact (e1.trans (hp q y q1 e1.ok h1)).cast (by simp [jE,ue,kA,at_])
   | none=>
     rw [hn] at h;simp only at h
     cases hc:aH [40] l with
     | some q=>rw [hc] at h; exact ag6 hp hl hc h
     | none=>
       rw [hc] at h;obtain ⟨⟨⟨mod,nm⟩,q⟩,h1,h2⟩:=Option.bind_eq_some_iff.1 h;exact ag7 hp (O4 hl h1) h2
theorem CL:∀f,Sound (cy f)
 | 0=>λ_ _ _ _ h=>by cases h
 | f+1=>by
   intro l x r hl h
   cases l with
   | nil=>cases h
   | cons t q=>
     unfold cy at h
     by_cases hk:t.kind=2
     · simp only [if_pos hk,Option.some.injEq,Prod.mk.injEq] at h
       obtain ⟨rfl,rfl⟩:=h;refine ⟨hl,?_⟩;have aA:=hl t (by simp)
       have e:vr t=Lib.itoa t.n:=by rw [vr,if_pos hk]
       have e2:jE (az.mk 1 t.n [] [] [])=[Lib.itoa t.n]:=by simp [jE,ue]
       rw [e2,<-e];simp [JP aA]
     · simp only [if_neg hk] at h
       exact ag8 (CL f) _ x r hl h
end Go.Bw
end
section
namespace Go.Bw
open Go
theorem xW (op:Int) (mod nm:Tx) (args:List az) (body other:List aR):vO (.mk op mod nm args body other)=sq op mod nm (kA args) (vP body) other.length (vP other):=by rw [vO]
theorem ag9 {l r:Tk} {s:aR} (hl:gn l) (h:eJ l=some (s,r)):∃ws,vO s=ws++[[59]]/\eR l ws r:=by
 have hp:=CL 6;unfold eJ at h
 cases h1:aH eP l with
 | some q=>
   rw [h1] at h;obtain ⟨⟨x,q1⟩,h2,h3⟩:=Option.map_eq_some_iff.1 h;simp only [Prod.mk.injEq] at h3;obtain ⟨rfl,rfl⟩:=h3;have e1:=eC hl (by decide) h1;exact ⟨[eP]++jE x,by simp [xW,sq,kA,at_],e1.trans (hp q x q1 e1.ok h2)⟩
 | none=>
   rw [h1] at h;simp only at h
   cases h2:aH eQ l with
   | some q=>
     rw [h2] at h;obtain ⟨⟨x,q1⟩,h3,h4⟩:=Option.map_eq_some_iff.1 h;simp only [Prod.mk.injEq] at h4;obtain ⟨rfl,rfl⟩:=h4;have e1:=eC hl (by decide) h2;exact ⟨[eQ]++jE x,by simp [xW,sq,kA,at_],e1.trans (hp q x q1 e1.ok h3)⟩
   | none=>
     rw [h2] at h;obtain ⟨⟨⟨mod,nm⟩,q⟩,h3,h4⟩:=Option.bind_eq_some_iff.1 h;have e0:=O4 hl h3;simp only at h4
     cases h5:aH [40] q with
     | some q1=>
       rw [h5] at h4;obtain ⟨⟨xs,q2⟩,h6,h7⟩:=Option.map_eq_some_iff.1 h4;simp only [Prod.mk.injEq] at h7;obtain ⟨rfl,rfl⟩:=h7;exact ⟨ow mod nm++CI (kA xs),by simp [xW,sq],e0.trans (Xn hp e0.ok h5 h6)⟩
     | none=>
       rw [h5] at h4;simp only at h4
       cases h6:aH [91] q with
       | some q1=>
         rw [h6] at h4;obtain ⟨⟨i,q2⟩,h7,h8⟩:=Option.bind_eq_some_iff.1 h4;obtain ⟨q3,h9,eX⟩:=Option.bind_eq_some_iff.1 h8;obtain ⟨q4,qu,qy⟩:=Option.bind_eq_some_iff.1 eX;obtain ⟨⟨x,q5⟩,jh,kD⟩:=Option.map_eq_some_iff.1 qy;simp only [Prod.mk.injEq] at kD;obtain ⟨rfl,rfl⟩:=kD;have e1:=eC e0.ok (by simp) h6;have e2:=hp _ _ _ e1.ok h7;have e3:=eC e2.ok (by simp) h9;have e4:=eC e3.ok (by simp) qu;have e5:=hp _ _ _ e4.ok jh;exact ⟨ow mod nm++[[91]]++jE i++[[93],[61]]++jE x,by simp [xW,sq,kA,at_],(((((e0.trans e1).trans e2).trans e3).trans e4).trans e5).cast (by simp)⟩
       | none=>
         rw [h6] at h4;obtain ⟨q1,h7,h8⟩:=Option.bind_eq_some_iff.1 h4;obtain ⟨⟨x,q2⟩,h9,eX⟩:=Option.map_eq_some_iff.1 h8;simp only [Prod.mk.injEq] at eX;obtain ⟨rfl,rfl⟩:=eX;have e1:=eC e0.ok (by simp) h7;have e2:=hp _ _ _ e1.ok h9;exact ⟨ow mod nm++[[61]]++jE x,by simp [xW,sq,kA,at_],(e0.trans e1).trans e2⟩
def O6 (pb:Tk->Option (List aR×Tk)):Prop:=∀l x r,gn l->pb l=some (x,r)->eR l (CJ x) r
theorem O7 {pb:Tk->Option (List aR×Tk)} (hb:O6 pb) {l r:Tk} {s:aR} (hl:gn l) (h:dU pb l=some (s,r)):eR l (vO s) r:=by
 have hp:=CL 6;unfold dU at h
 cases h1:aH eZ l with
 | some q=>
   rw [h1] at h;obtain ⟨⟨x,q1⟩,h2,h3⟩:=Option.bind_eq_some_iff.1 h;obtain ⟨⟨b,q2⟩,h4,h5⟩:=Option.bind_eq_some_iff.1 h3;have e1:=eC hl (by decide) h1;have e2:=hp _ _ _ e1.ok h2;have e3:=hb _ _ _ e2.ok h4;simp only at h5
   cases h6:aH e7 q2 with
   | some q3=>
     rw [h6] at h5;obtain ⟨⟨o,q4⟩,h7,h8⟩:=Option.bind_eq_some_iff.1 h5;simp only at h8
     split at h8
     · cases h8
     · rename_i ho
       simp only [Option.some.injEq,Prod.mk.injEq] at h8;obtain ⟨rfl,rfl⟩:=h8;have e4:=eC e3.ok (by decide) h6;have e5:=hb _ _ _ e4.ok h7;refine ((((e1.trans e2).trans e3).trans e4).trans e5).cast ?_;rw [xW];simp only [sq,Int.reduceEq,or_false,true_or,if_true,if_false];rw [if_pos (by omega)];simp [kA,at_,CJ]
   | none=>
     rw [h6] at h5;simp only [Option.some.injEq,Prod.mk.injEq] at h5;obtain ⟨rfl,rfl⟩:=h5;exact ((e1.trans e2).trans e3).cast (by simp [xW,sq,kA,at_,CJ])
 | none=>
   rw [h1] at h;simp only at h
   cases h2:aH e8 l with
   | some q=>
     rw [h2] at h;obtain ⟨⟨x,q1⟩,h3,h4⟩:=Option.bind_eq_some_iff.1 h;obtain ⟨⟨b,q2⟩,h5,h6⟩:=Option.map_eq_some_iff.1 h4;simp only [Prod.mk.injEq] at h6;obtain ⟨rfl,rfl⟩:=h6;have e1:=eC hl (by decide) h2;have e2:=hp _ _ _ e1.ok h3;have e3:=hb _ _ _ e2.ok h5;exact ((e1.trans e2).trans e3).cast (by simp [xW,sq,kA,at_,CJ])
   | none=>
     rw [h2] at h;obtain ⟨⟨s',q⟩,h3,h4⟩:=Option.bind_eq_some_iff.1 h;obtain ⟨q1,h5,h6⟩:=Option.map_eq_some_iff.1 h4;simp only [Prod.mk.injEq] at h6;obtain ⟨rfl,rfl⟩:=h6;obtain ⟨ws,e1,e2⟩:=ag9 hl h3;exact (e2.trans (eC e2.ok (by simp) h5)).cast e1.symm
theorem Xp {ps:Tk->Option (aR×Tk)} (hp:∀l x r,gn l->ps l=some (x,r)->eR l (vO x) r):∀(n:Nat) (l:Tk) (xs:List aR) (r:Tk),gn l->oz ps n l=some (xs,r)->eR l (vP xs++[[125]]) r
 | 0,_,_,_,_,h=>by cases h
 | n+1,l,xs,r,hl,h=>by
   unfold oz at h
   cases hd:aH [125] l with
   | some q=>
     rw [hd] at h;simp only [Option.some.injEq,Prod.mk.injEq] at h;obtain ⟨rfl,rfl⟩:=h;exact (eC hl (by simp) hd).cast (by simp [vP])
   | none=>
     rw [hd] at h;obtain ⟨⟨s,q⟩,h1,h2⟩:=Option.bind_eq_some_iff.1 h;obtain ⟨⟨ys,q1⟩,h3,h4⟩:=Option.map_eq_some_iff.1 h2;simp only [Prod.mk.injEq] at h4;obtain ⟨rfl,rfl⟩:=h4;have e1:=hp l s q hl h1;exact (e1.trans (Xp hp n q ys q1 e1.ok h3)).cast (by simp [vP])
theorem Fy:∀f,O6 (fq f)
 | 0=>λ_ _ _ _ h=>by cases h
 | f+1=>by
   intro l x r hl h;unfold fq at h;obtain ⟨q,h1,h2⟩:=Option.bind_eq_some_iff.1 h;have e1:=eC hl (by simp) h1;exact (e1.trans (Xp (λl x r hl h=>O7 (Fy f) hl h) _ q x r e1.ok h2)).cast (by simp [CJ,JM])
def Fz (d:bS):List Tx:=JN d++[[59]]
theorem Xq {aT:Bool} {l r:Tk} {d:bS} (hl:gn l) (h:fL aT l=some (some d,r)):eR l (Fz d) r/\d.aT=aT:=by
 unfold fL at h
 cases h1:aH ld l with
 | some q=>
   rw [h1] at h;obtain ⟨⟨a,q1⟩,h2,h3⟩:=Option.bind_eq_some_iff.1 h;obtain ⟨q2,h4,h5⟩:=Option.bind_eq_some_iff.1 h3;obtain ⟨⟨n,q3⟩,h6,h7⟩:=Option.bind_eq_some_iff.1 h5;obtain ⟨q4,h8,h9⟩:=Option.map_eq_some_iff.1 h7;simp only [Prod.mk.injEq,Option.some.injEq] at h9;obtain ⟨rfl,rfl⟩:=h9;have e1:=eC hl (by decide) h1;have e2:=(uf e1.ok h2).1;have e3:=eC e2.ok (by simp) h4;have e4:=O3 e3.ok h6;have e5:=eC e4.ok (by simp) h8;exact ⟨((((e1.trans e2).trans e3).trans e4).trans e5).cast (by simp [Fz,JN]),O⟩
 | none=>
   rw [h1] at h;simp only at h
   cases h2:aH lf l with
   | some q=>
     rw [h2] at h;obtain ⟨⟨a,q1⟩,h3,h4⟩:=Option.bind_eq_some_iff.1 h;obtain ⟨q2,h5,h6⟩:=Option.map_eq_some_iff.1 h4;simp only [Prod.mk.injEq,Option.some.injEq] at h6;obtain ⟨rfl,rfl⟩:=h6;have e1:=eC hl (by decide) h2;have e2:=(uf e1.ok h3).1;have e3:=eC e2.ok (by simp) h5;exact ⟨((e1.trans e2).trans e3).cast (by simp [Fz,JN]),O⟩
   | none=>
     rw [h2] at h;simp only at h
     cases h3:aH lg l with
     | some q=>
       rw [h3] at h;obtain ⟨⟨a,q1⟩,h4,h5⟩:=Option.bind_eq_some_iff.1 h;obtain ⟨q2,h6,h7⟩:=Option.bind_eq_some_iff.1 h5;obtain ⟨⟨n,q3⟩,h8,h9⟩:=Option.bind_eq_some_iff.1 h7;obtain ⟨q4,eX,qu⟩:=Option.bind_eq_some_iff.1 h9;obtain ⟨q5,qy,jh⟩:=Option.map_eq_some_iff.1 qu;simp only [Prod.mk.injEq,Option.some.injEq] at jh;obtain ⟨rfl,rfl⟩:=jh;have e1:=eC hl (by decide) h3;have e2:=(uf e1.ok h4).1;have e3:=eC e2.ok (by simp) h6;have e4:=O3 e3.ok h8;have e5:=eC e4.ok (by simp) eX;have e6:=eC e5.ok (by simp) qy;exact ⟨(((((e1.trans e2).trans e3).trans e4).trans e5).trans e6).cast (by simp [Fz,JN]),O⟩
     | none=>
       rw [h3] at h;simp at h
theorem O8 {aT:Bool} {l r:Tk} (h:fL aT l=some (none,r)):r=l:=by
 unfold fL at h
 split at h
 · obtain ⟨_,_,h⟩:=Option.bind_eq_some_iff.1 h
   obtain ⟨_,_,h⟩:=Option.bind_eq_some_iff.1 h;obtain ⟨_,_,h⟩:=Option.bind_eq_some_iff.1 h;obtain ⟨_,_,h⟩:=Option.map_eq_some_iff.1 h;simp at h
 · split at h
   · obtain ⟨_,_,h⟩:=Option.bind_eq_some_iff.1 h
     obtain ⟨_,_,h⟩:=Option.map_eq_some_iff.1 h;simp at h
   · split at h
     · obtain ⟨_,_,h⟩:=Option.bind_eq_some_iff.1 h
       obtain ⟨_,_,h⟩:=Option.bind_eq_some_iff.1 h;obtain ⟨_,_,h⟩:=Option.bind_eq_some_iff.1 h;obtain ⟨_,_,h⟩:=Option.bind_eq_some_iff.1 h;obtain ⟨_,_,h⟩:=Option.map_eq_some_iff.1 h;simp at h
     · simp at h; exact h.symm
theorem Xr:∀(n:Nat) (first:Bool) (l:Tk) (xs:List Tx) (r:Tk),gn l->jf n first l=some (xs,r)->eR l ((if first=true\/xs=[] then [] else [[44]])++vN (xs.map λs=>[s])++[[41]]) r
 | 0,_,_,_,_,_,h=>by cases h
 | n+1,first,l,xs,r,hl,h=>by
   unfold jf at h
   cases hd:aH [41] l with
   | some q=>
     rw [hd] at h;simp only [Option.some.injEq,Prod.mk.injEq] at h;obtain ⟨rfl,rfl⟩:=h;exact (eC hl (by simp) hd).cast (by simp [vN])
   | none=>
     rw [hd] at h;obtain ⟨l1,h1,h2⟩:=Option.bind_eq_some_iff.1 h;obtain ⟨⟨a,q⟩,h3,h4⟩:=Option.bind_eq_some_iff.1 h2;obtain ⟨⟨ys,q1⟩,h5,h6⟩:=Option.map_eq_some_iff.1 h4;simp only [Prod.mk.injEq] at h6;obtain ⟨rfl,rfl⟩:=h6
     have e0:eR l (if first=true then [] else [[44]]) l1:=by
       cases first with
       | true=>
         simp only [if_true,Option.some.injEq] at h1;subst h1; exact eR.nil hl
       | false=>exact eC hl (by simp) h1
     have e1:=(uf e0.ok h3).1;have e2:=Xr n false q ys q1 e1.ok h5;refine ((e0.trans e1).trans e2).cast ?_
     cases ys with
     | nil=>cases first<;>simp [vN]
     | cons y ys=>cases first<;>simp [vN]
theorem Xt:∀(n:Nat) (l:Tk) (xs:List Tx) (r:Tk),gn l->lS n l=some (xs,r)->eR l (xs.flatMap O2) r
 | 0,_,_,_,_,h=>by cases h
 | n+1,l,xs,r,hl,h=>by
   unfold lS at h
   cases hd:aH zI l with
   | none=>
     rw [hd] at h;simp only [Option.some.injEq,Prod.mk.injEq] at h;obtain ⟨rfl,rfl⟩:=h;exact eR.nil hl
   | some q=>
     rw [hd] at h;obtain ⟨⟨a,q1⟩,h1,h2⟩:=Option.bind_eq_some_iff.1 h;obtain ⟨q2,h3,h4⟩:=Option.bind_eq_some_iff.1 h2;obtain ⟨⟨ys,q3⟩,h5,h6⟩:=Option.map_eq_some_iff.1 h4;simp only [Prod.mk.injEq] at h6;obtain ⟨rfl,rfl⟩:=h6;have e1:=eC hl (by decide) hd;have e2:=(uf e1.ok h1).1;have e3:=eC e2.ok (by simp) h3;exact (((e1.trans e2).trans e3).trans (Xt n q2 ys q3 e3.ok h5)).cast (by simp [O2])
def O9 (p:dO):List Tx:=[p.nm,[40]]++vN (p.params.map λs=>[s])++[[41]]++p.ax.flatMap O2++CJ p.body
theorem Xu {aT:Bool} {l r:Tk} {p:dO} (hl:gn l) (h:jg aT l=some (p,r)):eR l (O9 p) r/\p.aT=aT:=by
 unfold jg at h;obtain ⟨⟨a,q1⟩,h1,h2⟩:=Option.bind_eq_some_iff.1 h;obtain ⟨q2,h3,h4⟩:=Option.bind_eq_some_iff.1 h2;obtain ⟨⟨ps,q3⟩,h5,h6⟩:=Option.bind_eq_some_iff.1 h4;obtain ⟨⟨ls,q4⟩,h7,h8⟩:=Option.bind_eq_some_iff.1 h6;obtain ⟨⟨b,q5⟩,h9,eX⟩:=Option.map_eq_some_iff.1 h8;simp only [Prod.mk.injEq] at eX;obtain ⟨rfl,rfl⟩:=eX;have e1:=(uf hl h1).1;have e2:=eC e1.ok (by simp) h3;have e3:=Xr _ _ _ _ _ e2.ok h5;have e4:=Xt _ _ _ _ e3.ok h7;have e5:=Fy 6 _ _ _ e4.ok h9;exact ⟨((((e1.trans e2).trans e3).trans e4).trans e5).cast (by simp [O9]),O⟩
end Go.Bw
end
section
namespace Go.Bw
open Go
structure Stop (q:Tk):Prop where
 dot:aH [46] q=none
 br:aH [91] q=none
 pa:aH [40] q=none
end Go.Bw
end
section
namespace Go.Bw
open Go
theorem Xv {s:Tx} {l r:Tk} (hl:gn l) (h:aH s l=some r):gn r:=by
 cases l with
 | nil=>cases h
 | cons t q=>
   simp only [aH] at h
   split at h
   · injection h with h; subst h; exact λx hx=>hl x (List.mem_cons_of_mem _ hx)
   · cases h
theorem ag' {pb:Tk->Option (List aR×Tk)} (hs:O6 pb) {l r:Tk} {x:aR} (hl:gn l) (h:dU pb l=some (x,r)):r.length<l.length:=by
 have e:=(O7 hs hl h).2;have dB:=agW x;rw [e]
 cases hw:vO x with
 | nil=>exact absurd hw dB
 | cons w ws=>simp; omega
def ug:bf:=⟨[],[],[],[],[]⟩
def kE (s:Tx):bf×Int:=if (dZ s).2≠0 then (ug,(dZ s).2) else match ny (dZ s).1 with
 | some (m,[])=>if jS m=0 then (m,0) else (ug,1)
 | _=>(ug,1)
theorem ag_ {s:Tx} (h:(dZ s).2=0):gn (dZ s).1:=(U7 (U8 h)).1
theorem aha {m:bf}:jS m=0↔(xB m).bl=0:=agY
end Go.Bw
end
section
namespace Go.Bw
open Go
theorem dC {s:Tx} {l q:Tk} (h:aH s l=some q):l.length=q.length+1:=by
 cases l with
 | nil=>cases h
 | cons t r=>
   simp only [aH] at h
   split at h
   · injection h with h; subst h; rfl
   · cases h
theorem Xw {k:Int} {l q:Tk} {t:Tok} (h:lQ k l=some (t,q)):l.length=q.length+1:=by
 cases l with
 | nil=>cases h
 | cons t r=>
   simp only [lQ] at h
   split at h
   · injection h with h; injection h with h1 h2; subst h2; rfl
   · cases h
theorem uh {l r:Tk} {a:Tx} (h:cX l=some (a,r)):a.length<=8/\l.length=r.length+1:=by
 unfold cX at h;obtain ⟨⟨t,q⟩,h1,h2⟩:=Option.bind_eq_some_iff.1 h;simp only at h2
 split at h2
 · rename_i hn
   simp only [Option.some.injEq,Prod.mk.injEq] at h2;obtain ⟨rfl,rfl⟩:=h2;refine ⟨?_,Xw h1⟩;simp only [gN,dG,Bool.and_eq_true,decide_eq_true_eq] at hn;exact hn.1.1.1.2
 · cases h2
theorem Xx {l r:Tk} {a:Int} (h:kB l=some (a,r)):l.length=r.length+1:=by
 unfold kB at h;obtain ⟨⟨t,q⟩,h1,h2⟩:=Option.map_eq_some_iff.1 h;simp only [Prod.mk.injEq] at h2;obtain ⟨_,rfl⟩:=h2;exact Xw h1
theorem Xy {l r:Tk} {p:Tx×Tx} (h:lh l=some (p,r)):p.1.length+p.2.length<=16/\r.length+1<=l.length:=by
 unfold lh at h;obtain ⟨⟨a,q⟩,h1,h2⟩:=Option.bind_eq_some_iff.1 h;obtain ⟨w1,w2⟩:=uh h1;simp only at h2
 split at h2
 · rename_i q2 hd
   obtain ⟨⟨b,q3⟩,h3,h4⟩:=Option.map_eq_some_iff.1 h2;simp only [Prod.mk.injEq] at h4;obtain ⟨rfl,rfl⟩:=h4;obtain ⟨w3,w4⟩:=uh h3;have:=dC hd;simp only;omega
 · simp only [Option.some.injEq,Prod.mk.injEq] at h2
   obtain ⟨rfl,rfl⟩:=h2;simp only [List.length_nil];omega
def WB (pe:Tk->Option (az×Tk)):Prop:=∀l x r,pe l=some (x,r)->wE x+18*r.length<=18*l.length
theorem Xz {pe:Tk->Option (az×Tk)} (hp:WB pe):∀(n:Nat) (l:Tk) (xs:List az) (r:Tk),lR pe n l=some (xs,r)->dT xs+18*r.length<=18*l.length
 | 0,_,_,_,h=>by cases h
 | n+1,l,xs,r,h=>by
   unfold lR at h;obtain ⟨⟨x,q⟩,h1,h2⟩:=Option.bind_eq_some_iff.1 h;have w1:=hp l x q h1;simp only at h2
   split at h2
   · rename_i q2 hd
     simp only [Option.some.injEq,Prod.mk.injEq] at h2;obtain ⟨rfl,rfl⟩:=h2;have:=dC hd;simp only [dT];omega
   · split at h2
     · rename_i q2 hd
       obtain ⟨⟨ys,q3⟩,h3,h4⟩:=Option.map_eq_some_iff.1 h2;simp only [Prod.mk.injEq] at h4;obtain ⟨rfl,rfl⟩:=h4;have:=dC hd;have:=Xz hp n q2 ys q3 h3;simp only [dT];omega
     · cases h2
theorem XB {pe:Tk->Option (az×Tk)} (hp:WB pe) {l r:Tk} {xs:List az} (h:lj pe l=some (xs,r)):dT xs+18*r.length<=18*l.length:=by
 unfold lj at h
 split at h
 · rename_i q hd
   simp only [Option.some.injEq,Prod.mk.injEq] at h;obtain ⟨rfl,rfl⟩:=h;have:=dC hd;simp only [dT];omega
 · exact Xz hp _ _ _ _ h
theorem XC:∀(ws:List Tx) (i k:Nat) (l r:Tk),pn ws i l=some (k,r)->r.length+1<=l.length
 | [],_,_,_,_,h=>by cases h
 | w::ws,i,k,l,r,h=>by
   unfold pn at h
   split at h
   · rename_i q hd
     simp only [Option.some.injEq,Prod.mk.injEq] at h;obtain ⟨_,rfl⟩:=h;have:=dC hd;omega
   · exact XC ws _ _ _ _ h
theorem ahb {pe:Tk->Option (az×Tk)} (hp:WB pe) {l r:Tk} {x:az} (h:nw pe l=some (x,r)):wE x+18*r.length<=18*l.length:=by
 unfold nw at h;obtain ⟨⟨a,q1⟩,h1,h2⟩:=Option.bind_eq_some_iff.1 h;obtain ⟨⟨o,q2⟩,h3,h4⟩:=Option.bind_eq_some_iff.1 h2;obtain ⟨⟨b,q3⟩,h5,h6⟩:=Option.bind_eq_some_iff.1 h4;obtain ⟨q4,h7,h8⟩:=Option.map_eq_some_iff.1 h6;simp only [Prod.mk.injEq] at h8;obtain ⟨rfl,rfl⟩:=h8;have w1:=hp _ _ _ h1;have w2:=XC _ _ _ _ _ h3;have w3:=hp _ _ _ h5;have w4:=dC h7;simp only [wE,dT,List.length_nil] at *;omega
theorem ahc {pe:Tk->Option (az×Tk)} (hp:WB pe) {l r:Tk} {mod nm:Tx} {x:az} (hl:mod.length+nm.length<=16) (h:qx pe mod nm l=some (x,r)):wE x+18*r.length<=17+18*l.length:=by
 unfold qx at h
 split at h
 · rename_i q hd
   obtain ⟨⟨y,q1⟩,h1,h2⟩:=Option.bind_eq_some_iff.1 h;obtain ⟨q2,h3,h4⟩:=Option.map_eq_some_iff.1 h2;simp only [Prod.mk.injEq] at h4;obtain ⟨rfl,rfl⟩:=h4;have w1:=dC hd;have w2:=hp _ _ _ h1;have w3:=dC h3;simp only [wE,dT] at *;omega
 · split at h
   · rename_i q hd
     obtain ⟨⟨xs,q1⟩,h1,h2⟩:=Option.map_eq_some_iff.1 h;simp only [Prod.mk.injEq] at h2;obtain ⟨rfl,rfl⟩:=h2;have w1:=dC hd;have w2:=XB hp h1;simp only [wE] at *;omega
   · simp only [Option.some.injEq,Prod.mk.injEq] at h
     obtain ⟨rfl,rfl⟩:=h;simp only [wE,dT] at *;omega
theorem ahd {pe:Tk->Option (az×Tk)} (hp:WB pe):WB (oy pe):=by
 intro l x r h;unfold oy at h
 split at h
 · rename_i q hd
   simp only [Option.some.injEq,Prod.mk.injEq] at h;obtain ⟨rfl,rfl⟩:=h;have:=dC hd;simp only [wE,dT,List.length_nil];omega
 · split at h
   · rename_i q hd
     obtain ⟨⟨y,q1⟩,h1,h2⟩:=Option.map_eq_some_iff.1 h;simp only [Prod.mk.injEq] at h2;obtain ⟨rfl,rfl⟩:=h2;have w1:=dC hd;have w2:=hp _ _ _ h1;simp only [wE,dT,List.length_nil];omega
   · split at h
     · rename_i q hd
       have w1:=dC hd;have w2:=ahb hp h;omega
     · obtain ⟨⟨p,q⟩,h1,h2⟩:=Option.bind_eq_some_iff.1 h
       obtain ⟨w1,w2⟩:=Xy h1;have w3:=ahc hp w1 h2;simp only at w3;omega
theorem O':∀f,WB (cy f)
 | 0=>λ_ _ _ h=>by cases h
 | f+1=>by
   intro l x r h
   cases l with
   | nil=>cases h
   | cons t q=>
     unfold cy at h
     by_cases hk:t.kind=2
     · simp only [if_pos hk,Option.some.injEq,Prod.mk.injEq] at h
       obtain ⟨rfl,rfl⟩:=h;simp only [wE,dT,List.length_nil,List.length_cons];omega
     · simp only [if_neg hk] at h
       exact ahd (O' f) _ _ _ h
theorem ahe {l r:Tk} {s:aR} (h:eJ l=some (s,r)):wS s+18*r.length<=18*l.length:=by
 have hp:=O' 6;unfold eJ at h
 split at h
 · rename_i q hd
   obtain ⟨⟨x,q1⟩,h2,h3⟩:=Option.map_eq_some_iff.1 h;simp only [Prod.mk.injEq] at h3;obtain ⟨rfl,rfl⟩:=h3;have w1:=dC hd;have w2:=hp _ _ _ h2;simp only [wS,dT,de,List.length_nil];omega
 · split at h
   · rename_i q hd
     obtain ⟨⟨x,q1⟩,h2,h3⟩:=Option.map_eq_some_iff.1 h;simp only [Prod.mk.injEq] at h3;obtain ⟨rfl,rfl⟩:=h3;have w1:=dC hd;have w2:=hp _ _ _ h2;simp only [wS,dT,de,List.length_nil];omega
   · obtain ⟨⟨⟨mod,nm⟩,q⟩,h3,h4⟩:=Option.bind_eq_some_iff.1 h
     obtain ⟨w0,w1⟩:=Xy h3;simp only at h4 w0
     split at h4
     · rename_i q1 hd
       obtain ⟨⟨xs,q2⟩,h6,h7⟩:=Option.map_eq_some_iff.1 h4;simp only [Prod.mk.injEq] at h7;obtain ⟨rfl,rfl⟩:=h7;have w2:=dC hd;have w3:=XB hp h6;simp only [wS,de];omega
     · split at h4
       · rename_i q1 hd
         obtain ⟨⟨i,q2⟩,h7,h8⟩:=Option.bind_eq_some_iff.1 h4;obtain ⟨q3,h9,eX⟩:=Option.bind_eq_some_iff.1 h8;obtain ⟨q4,qu,qy⟩:=Option.bind_eq_some_iff.1 eX;obtain ⟨⟨x,q5⟩,jh,kD⟩:=Option.map_eq_some_iff.1 qy;simp only [Prod.mk.injEq] at kD;obtain ⟨rfl,rfl⟩:=kD;have w2:=dC hd;have w3:=hp _ _ _ h7;have w4:=dC h9;have w5:=dC qu;have w6:=hp _ _ _ jh;simp only [wS,dT,de] at *;omega
       · obtain ⟨q1,h7,h8⟩:=Option.bind_eq_some_iff.1 h4
         obtain ⟨⟨x,q2⟩,h9,eX⟩:=Option.map_eq_some_iff.1 h8;simp only [Prod.mk.injEq] at eX;obtain ⟨rfl,rfl⟩:=eX;have w2:=dC h7;have w3:=hp _ _ _ h9;simp only [wS,dT,de];omega
def XD (pb:Tk->Option (List aR×Tk)):Prop:=∀l x r,pb l=some (x,r)->de x+18*r.length<=18*l.length
theorem ahf {pb:Tk->Option (List aR×Tk)} (hb:XD pb) {l r:Tk} {s:aR} (h:dU pb l=some (s,r)):wS s+18*r.length<=18*l.length:=by
 have hp:=O' 6;unfold dU at h
 split at h
 · rename_i q hd
   obtain ⟨⟨x,q1⟩,h2,h3⟩:=Option.bind_eq_some_iff.1 h;obtain ⟨⟨b,q2⟩,h4,h5⟩:=Option.bind_eq_some_iff.1 h3;have w1:=dC hd;have w2:=hp _ _ _ h2;have w3:=hb _ _ _ h4;simp only at h5 w2 w3
   split at h5
   · rename_i q3 hd2
     obtain ⟨⟨o,q4⟩,h7,h8⟩:=Option.bind_eq_some_iff.1 h5;have w4:=dC hd2;have w5:=hb _ _ _ h7;simp only at h8
     split at h8
     · cases h8
     · simp only [Option.some.injEq,Prod.mk.injEq] at h8
       obtain ⟨rfl,rfl⟩:=h8;simp only [wS,dT,List.length_nil] at *;omega
   · simp only [Option.some.injEq,Prod.mk.injEq] at h5
     obtain ⟨rfl,rfl⟩:=h5;simp only [wS,dT,de,List.length_nil] at *;omega
 · split at h
   · rename_i q hd
     obtain ⟨⟨x,q1⟩,h2,h3⟩:=Option.bind_eq_some_iff.1 h;obtain ⟨⟨b,q2⟩,h4,h5⟩:=Option.map_eq_some_iff.1 h3;simp only [Prod.mk.injEq] at h5;obtain ⟨rfl,rfl⟩:=h5;have w1:=dC hd;have w2:=hp _ _ _ h2;have w3:=hb _ _ _ h4;simp only [wS,dT,de,List.length_nil] at *;omega
   · obtain ⟨⟨s',q⟩,h3,h4⟩:=Option.bind_eq_some_iff.1 h
     obtain ⟨q1,h5,h6⟩:=Option.map_eq_some_iff.1 h4;simp only [Prod.mk.injEq] at h6;obtain ⟨rfl,rfl⟩:=h6;have w1:=ahe h3;have w2:=dC h5;simp only at *;omega
theorem XF {ps:Tk->Option (aR×Tk)} (hp:∀l x r,ps l=some (x,r)->wS x+18*r.length<=18*l.length):∀(n:Nat) (l:Tk) (xs:List aR) (r:Tk),oz ps n l=some (xs,r)->de xs+18*r.length<=18*l.length
 | 0,_,_,_,h=>by cases h
 | n+1,l,xs,r,h=>by
   unfold oz at h
   split at h
   · rename_i q hd
     simp only [Option.some.injEq,Prod.mk.injEq] at h;obtain ⟨rfl,rfl⟩:=h;have:=dC hd;simp only [de];omega
   · obtain ⟨⟨s,q⟩,h1,h2⟩:=Option.bind_eq_some_iff.1 h
     obtain ⟨⟨ys,q1⟩,h3,h4⟩:=Option.map_eq_some_iff.1 h2;simp only [Prod.mk.injEq] at h4;obtain ⟨rfl,rfl⟩:=h4;have w1:=hp _ _ _ h1;have w2:=XF hp n q ys q1 h3;simp only [de];omega
theorem O_:∀f,XD (fq f)
 | 0=>λ_ _ _ h=>by cases h
 | f+1=>by
   intro l x r h;unfold fq at h;obtain ⟨q,h1,h2⟩:=Option.bind_eq_some_iff.1 h;have w1:=dC h1;have w2:=XF (λl x r hh=>ahf (O_ f) hh) _ _ _ _ h2;omega
theorem Pa (l:Tk):(kC l).2.length<=l.length:=by
 unfold kC
 cases h:aH JK l with
 | none=>exact Nat.le_refl _
 | some q=>have:=dC h; simp only [Option.getD_some]; omega
theorem ahh {aT:Bool} {l r:Tk} {d:bS} (h:fL aT l=some (some d,r)):1+d.nm.length+18*r.length<=18*l.length:=by
 unfold fL at h
 split at h
 · rename_i q hd
   obtain ⟨⟨a,q1⟩,h2,h3⟩:=Option.bind_eq_some_iff.1 h;obtain ⟨q2,h4,h5⟩:=Option.bind_eq_some_iff.1 h3;obtain ⟨⟨n,q3⟩,h6,h7⟩:=Option.bind_eq_some_iff.1 h5;obtain ⟨q4,h8,h9⟩:=Option.map_eq_some_iff.1 h7;simp only [Prod.mk.injEq,Option.some.injEq] at h9;obtain ⟨rfl,rfl⟩:=h9;have w1:=dC hd;obtain ⟨w2,w3⟩:=uh h2;have w4:=dC h4;have w5:=Xx h6;have w6:=dC h8;simp only at *;omega
 · split at h
   · rename_i q hd
     obtain ⟨⟨a,q1⟩,h3,h4⟩:=Option.bind_eq_some_iff.1 h;obtain ⟨q2,h5,h6⟩:=Option.map_eq_some_iff.1 h4;simp only [Prod.mk.injEq,Option.some.injEq] at h6;obtain ⟨rfl,rfl⟩:=h6;have w1:=dC hd;obtain ⟨w2,w3⟩:=uh h3;have w4:=dC h5;simp only at *;omega
   · split at h
     · rename_i q hd
       obtain ⟨⟨a,q1⟩,h4,h5⟩:=Option.bind_eq_some_iff.1 h;obtain ⟨q2,h6,h7⟩:=Option.bind_eq_some_iff.1 h5;obtain ⟨⟨n,q3⟩,h8,h9⟩:=Option.bind_eq_some_iff.1 h7;obtain ⟨q4,eX,qu⟩:=Option.bind_eq_some_iff.1 h9;obtain ⟨q5,qy,jh⟩:=Option.map_eq_some_iff.1 qu;simp only [Prod.mk.injEq,Option.some.injEq] at jh;obtain ⟨rfl,rfl⟩:=jh;have w1:=dC hd;obtain ⟨w2,w3⟩:=uh h4;have w4:=dC h6;have w5:=Xx h8;have w6:=dC eX;have w7:=dC qy;simp only at *;omega
     · simp at h
theorem XG:∀(n:Nat) (aT:Bool) (l:Tk) (ds:List bS) (FA:Bool) (r:Tk),oA n aT l=some ((ds,FA),r)->wD ds+18*r.length<=18*l.length
 | 0,_,_,_,_,_,h=>by cases h
 | n+1,aT,l,ds,FA,r,h=>by
   unfold oA at h;obtain ⟨⟨o,q⟩,g1,h2⟩:=Option.bind_eq_some_iff.1 h
   cases o with
   | none=>
     have:=O8 g1;simp only [Option.some.injEq,Prod.mk.injEq] at h2;obtain ⟨⟨h3,_⟩,h4⟩:=h2;rw [<-h3,<-h4,this];simp [wD]
   | some x=>
     obtain ⟨⟨⟨ys,pb⟩,q1⟩,g3,g4⟩:=Option.map_eq_some_iff.1 h2;simp only [Prod.mk.injEq] at g4;obtain ⟨⟨rfl,rfl⟩,rfl⟩:=g4;have w1:=ahh g1;have w2:=XG n _ _ _ _ _ g3;have w3:=Pa q;simp only [wD] at *;omega
theorem XH:∀(n:Nat) (first:Bool) (l:Tk) (xs:List Tx) (r:Tk),jf n first l=some (xs,r)->wN xs+18*r.length<=18*l.length
 | 0,_,_,_,_,h=>by cases h
 | n+1,first,l,xs,r,h=>by
   unfold jf at h
   split at h
   · rename_i q hd
     simp only [Option.some.injEq,Prod.mk.injEq] at h;obtain ⟨rfl,rfl⟩:=h;have:=dC hd;simp only [wN];omega
   · obtain ⟨l1,h1,h2⟩:=Option.bind_eq_some_iff.1 h
     obtain ⟨⟨a,q⟩,h3,h4⟩:=Option.bind_eq_some_iff.1 h2;obtain ⟨⟨ys,q1⟩,h5,h6⟩:=Option.map_eq_some_iff.1 h4;simp only [Prod.mk.injEq] at h6;obtain ⟨rfl,rfl⟩:=h6
     have w0:l1.length<=l.length:=by
       cases first with
       | true=>simp only [if_true,Option.some.injEq] at h1; subst h1; exact Nat.le_refl _
       | false=>have:=dC (s:=[44]) (l:=l) (q:=l1) h1; omega
     obtain ⟨w1,w2⟩:=uh h3;have w3:=XH n false q ys q1 h5;simp only [wN] at *;omega
theorem XJ:∀(n:Nat) (l:Tk) (xs:List Tx) (r:Tk),lS n l=some (xs,r)->wN xs+18*r.length<=18*l.length
 | 0,_,_,_,h=>by cases h
 | n+1,l,xs,r,h=>by
   unfold lS at h
   split at h
   · rename_i q hd
     obtain ⟨⟨a,q1⟩,h1,h2⟩:=Option.bind_eq_some_iff.1 h;obtain ⟨q2,h3,h4⟩:=Option.bind_eq_some_iff.1 h2;obtain ⟨⟨ys,q3⟩,h5,h6⟩:=Option.map_eq_some_iff.1 h4;simp only [Prod.mk.injEq] at h6;obtain ⟨rfl,rfl⟩:=h6;have w0:=dC hd;obtain ⟨w1,w2⟩:=uh h1;have w3:=dC h3;have w4:=XJ n q2 ys q3 h5;simp only [wN] at *;omega
   · simp only [Option.some.injEq,Prod.mk.injEq] at h
     obtain ⟨rfl,rfl⟩:=h;simp [wN]
theorem XL:∀(n:Nat) (l:Tk) (xs:List Tx) (r:Tk),mz n l=some (xs,r)->wN xs+18*r.length<=18*l.length
 | 0,_,_,_,h=>by cases h
 | n+1,l,xs,r,h=>by
   unfold mz at h
   split at h
   · rename_i q hd
     obtain ⟨⟨a,q1⟩,h1,h2⟩:=Option.bind_eq_some_iff.1 h;obtain ⟨q2,h3,h4⟩:=Option.bind_eq_some_iff.1 h2;obtain ⟨⟨ys,q3⟩,h5,h6⟩:=Option.map_eq_some_iff.1 h4;simp only [Prod.mk.injEq] at h6;obtain ⟨rfl,rfl⟩:=h6;have w0:=dC hd;obtain ⟨w1,w2⟩:=uh h1;have w3:=dC h3;have w4:=XL n q2 ys q3 h5;simp only [wN] at *;omega
   · simp only [Option.some.injEq,Prod.mk.injEq] at h
     obtain ⟨rfl,rfl⟩:=h;simp [wN]
theorem ahi {aT:Bool} {l r:Tk} {p:dO} (h:jg aT l=some (p,r)):p.nm.length+wN p.params+wN p.ax+de p.body+18*r.length<=18*l.length:=by
 unfold jg at h;obtain ⟨⟨a,q1⟩,h1,h2⟩:=Option.bind_eq_some_iff.1 h;obtain ⟨q2,h3,h4⟩:=Option.bind_eq_some_iff.1 h2;obtain ⟨⟨ps,q3⟩,h5,h6⟩:=Option.bind_eq_some_iff.1 h4;obtain ⟨⟨ls,q4⟩,h7,h8⟩:=Option.bind_eq_some_iff.1 h6;obtain ⟨⟨b,q5⟩,h9,eX⟩:=Option.map_eq_some_iff.1 h8;simp only [Prod.mk.injEq] at eX;obtain ⟨rfl,rfl⟩:=eX;obtain ⟨w1,w2⟩:=uh h1;have w3:=dC h3;have w4:=XH _ _ _ _ _ h5;have w5:=XJ _ _ _ _ h7;have w6:=O_ 6 _ _ _ h9;simp only at *;omega
theorem XQ:∀(n:Nat) (aT:Bool) (l:Tk) (ds:List dO) (FA:Bool) (r:Tk),oB n aT l=some ((ds,FA),r)->wP ds+18*r.length<=18*l.length
 | 0,_,_,_,_,_,h=>by cases h
 | n+1,aT,l,ds,FA,r,h=>by
   unfold oB at h
   split at h
   · rename_i q hd
     obtain ⟨⟨p,q1⟩,g1,h2⟩:=Option.bind_eq_some_iff.1 h;obtain ⟨⟨⟨ys,pb⟩,q2⟩,g3,g4⟩:=Option.map_eq_some_iff.1 h2;simp only [Prod.mk.injEq] at g4;obtain ⟨⟨rfl,rfl⟩,rfl⟩:=g4;have w0:=dC hd;have w1:=ahi g1;have w2:=XQ n _ _ _ _ _ g3;have w3:=Pa q1;simp only [wP] at *;omega
   · simp only [Option.some.injEq,Prod.mk.injEq] at h
     obtain ⟨⟨rfl,rfl⟩,rfl⟩:=h;simp [wP]
theorem XR {l r:Tk} {m:bf} (h:ny l=some (m,r)):wM m+18*r.length<=18*l.length:=by
 unfold ny at h;obtain ⟨q1,h1,h⟩:=Option.bind_eq_some_iff.1 h;obtain ⟨⟨a,q2⟩,h2,h⟩:=Option.bind_eq_some_iff.1 h;obtain ⟨q3,h3,h⟩:=Option.bind_eq_some_iff.1 h;obtain ⟨⟨us,q4⟩,h4,h⟩:=Option.bind_eq_some_iff.1 h;obtain ⟨⟨⟨ds,ava⟩,q5⟩,h5,h⟩:=Option.bind_eq_some_iff.1 h;obtain ⟨⟨⟨ps,avb⟩,q6⟩,h6,h⟩:=Option.bind_eq_some_iff.1 h;simp only at h
 split at h
 · cases h
 · obtain ⟨q7,h7,h⟩:=Option.bind_eq_some_iff.1 h
   obtain ⟨⟨b,q8⟩,h8,h⟩:=Option.bind_eq_some_iff.1 h;obtain ⟨q9,h9,eX⟩:=Option.map_eq_some_iff.1 h;simp only [Prod.mk.injEq] at eX;obtain ⟨rfl,rfl⟩:=eX;have w1:=dC h1;obtain ⟨w2,w3⟩:=uh h2;have w4:=dC h3;have w5:=XL _ _ _ _ h4;have w6:=XG _ _ _ _ _ _ h5;have w7:=Pa q4;have w8:=XQ _ _ _ _ _ _ h6;have w9:=dC h7;have w10:=O_ 6 _ _ _ h8;have w11:=dC h9;simp only [wM] at *;omega
end Go.Bw
end
section
namespace Go.Proofs
open Go.Shelf
def Tryz.ahj:Go.Shelf.Ren:=⟨fun | 137=>168 | 217=>179 | 266=>191 | n=>n,fun | 9=>9 | 5=>5 | 3=>3 | n=>n,fun | n=>n⟩
theorem Tryz.ahk:Go.Proofs.Lays.n137 Tryz.prog Tryz.ahj:={
 mixed:=by kernel_rfl
 f137:=Tryz.func168.trans (congrArg some (by kernel_rfl))
 f217:=Tryz.func179.trans (congrArg some (by kernel_rfl))
 f266:=Tryz.func191.trans (congrArg some (by kernel_rfl))
 t3:=Tryz.underlying3
 a3:=Tryz.isAgg3
 z3:=Tryz.sizeOf3
 v3:=Tryz.zeroValue3
 t5:=Tryz.underlying5
 a5:=Tryz.isAgg5
 z5:=Tryz.sizeOf5
 v5:=Tryz.zeroValue5
 t9:=Tryz.underlying9
 a9:=Tryz.isAgg9
 z9:=Tryz.sizeOf9
 v9:=Tryz.zeroValue9 }
def Tryz.ahl:Go.Shelf.Ren:=⟨fun | 171=>167 | 243=>178 | 246=>190 | 283=>197 | 284=>198 | 285=>199 | 286=>200 | 129=>205 | 317=>204 | 318=>206 | 319=>207 | 320=>208 | 337=>209 | 338=>210 | n=>n,fun | 3=>3 | 9=>9 | 2=>2 | 4=>4 | 171=>309 | 0=>0 | 53=>303 | 37=>75 | 5=>5 | 173=>312 | 212=>321 | 51=>322 | 20=>20 | 213=>323 | 46=>148 | 232=>326 | 233=>327 | n=>n,fun | 17=>3 | 18=>4 | 19=>5 | n=>n⟩
theorem Tryz.ahm:Go.Proofs.LaysM.n171 Tryz.prog Tryz.ahl:={
 mixed:=by kernel_rfl
 f129:=Tryz.func205.trans (congrArg some (by kernel_rfl))
 f171:=Tryz.func167.trans (congrArg some (by kernel_rfl))
 f243:=Tryz.func178.trans (congrArg some (by kernel_rfl))
 f246:=Tryz.func190.trans (congrArg some (by kernel_rfl))
 f283:=Tryz.func197.trans (congrArg some (by kernel_rfl))
 f284:=Tryz.func198.trans (congrArg some (by kernel_rfl))
 f285:=Tryz.func199.trans (congrArg some (by kernel_rfl))
 f286:=Tryz.func200.trans (congrArg some (by kernel_rfl))
 f317:=Tryz.func204.trans (congrArg some (by kernel_rfl))
 f318:=Tryz.func206.trans (congrArg some (by kernel_rfl))
 f319:=Tryz.func207.trans (congrArg some (by kernel_rfl))
 f320:=Tryz.func208.trans (congrArg some (by kernel_rfl))
 f337:=Tryz.func209.trans (congrArg some (by kernel_rfl))
 f338:=Tryz.func210.trans (congrArg some (by kernel_rfl))
 t0:=Tryz.underlying0
 a0:=Tryz.isAgg0
 z0:=Tryz.sizeOf0
 v0:=Tryz.zeroValue0
 t2:=Tryz.underlying2
 a2:=Tryz.isAgg2
 z2:=Tryz.sizeOf2
 v2:=Tryz.zeroValue2
 t3:=Tryz.underlying3
 a3:=Tryz.isAgg3
 z3:=Tryz.sizeOf3
 v3:=Tryz.zeroValue3
 t4:=Tryz.underlying4
 a4:=Tryz.isAgg4
 z4:=Tryz.sizeOf4
 v4:=Tryz.zeroValue4
 t5:=Tryz.underlying5
 a5:=Tryz.isAgg5
 z5:=Tryz.sizeOf5
 v5:=Tryz.zeroValue5
 t9:=Tryz.underlying9
 a9:=Tryz.isAgg9
 z9:=Tryz.sizeOf9
 v9:=Tryz.zeroValue9
 t20:=Tryz.underlying20
 a20:=Tryz.isAgg20
 z20:=Tryz.sizeOf20
 v20:=Tryz.zeroValue20
 t37:=Tryz.underlying75
 a37:=Tryz.isAgg75
 z37:=Tryz.sizeOf75
 v37:=Tryz.zeroValue75
 t46:=Tryz.underlying148
 a46:=Tryz.isAgg148
 z46:=Tryz.sizeOf148
 v46:=Tryz.zeroValue148
 t51:=Tryz.underlying322
 a51:=Tryz.isAgg322
 z51:=Tryz.sizeOf322
 v51:=Tryz.zeroValue322
 t53:=Tryz.underlying303
 a53:=Tryz.isAgg303
 z53:=Tryz.sizeOf303
 v53:=Tryz.zeroValue303
 t171:=Tryz.underlying309
 a171:=Tryz.isAgg309
 z171:=Tryz.sizeOf309
 v171:=Tryz.zeroValue309
 t173:=Tryz.underlying312
 a173:=Tryz.isAgg312
 z173:=Tryz.sizeOf312
 v173:=Tryz.zeroValue312
 t212:=Tryz.underlying321
 a212:=Tryz.isAgg321
 z212:=Tryz.sizeOf321
 v212:=Tryz.zeroValue321
 t213:=Tryz.underlying323
 a213:=Tryz.isAgg323
 z213:=Tryz.sizeOf323
 t232:=Tryz.underlying326
 a232:=Tryz.isAgg326
 z232:=Tryz.sizeOf326
 v232:=Tryz.zeroValue326
 t233:=Tryz.underlying327
 a233:=Tryz.isAgg327
 z233:=Tryz.sizeOf327
 v233:=Tryz.zeroValue327
 g17:=by kernel_rfl
 g18:=by kernel_rfl
 g19:=by kernel_rfl
 i0:=by kernel_rfl
 i2:=by kernel_rfl
 i3:=by kernel_rfl
 i4:=by kernel_rfl
 i5:=by kernel_rfl
 i9:=by kernel_rfl
 i20:=by kernel_rfl
 i37:=by kernel_rfl
 i46:=by kernel_rfl
 i51:=by kernel_rfl
 i53:=by kernel_rfl
 i171:=by kernel_rfl
 i173:=by kernel_rfl
 i212:=by kernel_rfl
 i232:=by kernel_rfl
 i233:=by kernel_rfl
 m17:=by kernel_rfl
 m18:=by kernel_rfl
 m19:=by kernel_rfl }
def Tryz.ahn:Go.Shelf.Ren:=⟨fun | 172=>166 | 244=>176 | 245=>177 | 247=>185 | 279=>186 | 280=>187 | 281=>188 | 282=>189 | 287=>194 | 316=>195 | 171=>167 | 205=>196 | 321=>202 | 322=>203 | 243=>178 | 246=>190 | 283=>197 | 284=>198 | 285=>199 | 286=>200 | 129=>205 | 317=>204 | 318=>206 | 319=>207 | 320=>208 | 337=>209 | 338=>210 | n=>n,fun | 9=>9 | 3=>3 | 75=>139 | 76=>140 | 4=>4 | 5=>5 | 167=>295 | 37=>75 | 0=>0 | 85=>296 | 2=>2 | 168=>298 | 53=>303 | 175=>304 | 46=>148 | 210=>307 | 127=>143 | 145=>319 | 143=>317 | 21=>21 | 171=>309 | 173=>312 | 212=>321 | 51=>322 | 20=>20 | 213=>323 | 232=>326 | 233=>327 | 80=>84 | n=>n,fun | 15=>0 | 16=>1 | 17=>3 | 18=>4 | 19=>5 | n=>n⟩
theorem Tryz.Pb:Go.Proofs.LaysC.n172 Tryz.prog Tryz.ahn:={
 mixed:=by kernel_rfl
 f129:=Tryz.func205.trans (congrArg some (by kernel_rfl))
 f171:=Tryz.func167.trans (congrArg some (by kernel_rfl))
 f172:=Tryz.func166.trans (congrArg some (by kernel_rfl))
 f205:=Tryz.func196.trans (congrArg some (by kernel_rfl))
 f243:=Tryz.func178.trans (congrArg some (by kernel_rfl))
 f244:=Tryz.func176.trans (congrArg some (by kernel_rfl))
 f245:=Tryz.func177.trans (congrArg some (by kernel_rfl))
 f246:=Tryz.func190.trans (congrArg some (by kernel_rfl))
 f247:=Tryz.func185.trans (congrArg some (by kernel_rfl))
 f279:=Tryz.func186.trans (congrArg some (by kernel_rfl))
 f280:=Tryz.func187.trans (congrArg some (by kernel_rfl))
 f281:=Tryz.func188.trans (congrArg some (by kernel_rfl))
 f282:=Tryz.func189.trans (congrArg some (by kernel_rfl))
 f283:=Tryz.func197.trans (congrArg some (by kernel_rfl))
 f284:=Tryz.func198.trans (congrArg some (by kernel_rfl))
 f285:=Tryz.func199.trans (congrArg some (by kernel_rfl))
 f286:=Tryz.func200.trans (congrArg some (by kernel_rfl))
 f287:=Tryz.func194.trans (congrArg some (by kernel_rfl))
 f316:=Tryz.func195.trans (congrArg some (by kernel_rfl))
 f317:=Tryz.func204.trans (congrArg some (by kernel_rfl))
 f318:=Tryz.func206.trans (congrArg some (by kernel_rfl))
 f319:=Tryz.func207.trans (congrArg some (by kernel_rfl))
 f320:=Tryz.func208.trans (congrArg some (by kernel_rfl))
 f321:=Tryz.func202.trans (congrArg some (by kernel_rfl))
 f322:=Tryz.func203.trans (congrArg some (by kernel_rfl))
 f337:=Tryz.func209.trans (congrArg some (by kernel_rfl))
 f338:=Tryz.func210.trans (congrArg some (by kernel_rfl))
 t0:=Tryz.underlying0
 a0:=Tryz.isAgg0
 z0:=Tryz.sizeOf0
 v0:=Tryz.zeroValue0
 t2:=Tryz.underlying2
 a2:=Tryz.isAgg2
 z2:=Tryz.sizeOf2
 v2:=Tryz.zeroValue2
 t3:=Tryz.underlying3
 a3:=Tryz.isAgg3
 z3:=Tryz.sizeOf3
 v3:=Tryz.zeroValue3
 t4:=Tryz.underlying4
 a4:=Tryz.isAgg4
 z4:=Tryz.sizeOf4
 v4:=Tryz.zeroValue4
 t5:=Tryz.underlying5
 a5:=Tryz.isAgg5
 z5:=Tryz.sizeOf5
 v5:=Tryz.zeroValue5
 t9:=Tryz.underlying9
 a9:=Tryz.isAgg9
 z9:=Tryz.sizeOf9
 v9:=Tryz.zeroValue9
 t20:=Tryz.underlying20
 a20:=Tryz.isAgg20
 z20:=Tryz.sizeOf20
 v20:=Tryz.zeroValue20
 t21:=Tryz.underlying21
 a21:=Tryz.isAgg21
 z21:=Tryz.sizeOf21
 v21:=Tryz.zeroValue21
 t37:=Tryz.underlying75
 a37:=Tryz.isAgg75
 z37:=Tryz.sizeOf75
 v37:=Tryz.zeroValue75
 t46:=Tryz.underlying148
 a46:=Tryz.isAgg148
 z46:=Tryz.sizeOf148
 v46:=Tryz.zeroValue148
 t51:=Tryz.underlying322
 a51:=Tryz.isAgg322
 z51:=Tryz.sizeOf322
 v51:=Tryz.zeroValue322
 t53:=Tryz.underlying303
 a53:=Tryz.isAgg303
 z53:=Tryz.sizeOf303
 v53:=Tryz.zeroValue303
 t75:=Tryz.underlying139
 a75:=Tryz.isAgg139
 z75:=Tryz.sizeOf139
 v75:=Tryz.zeroValue139
 t76:=Tryz.underlying140
 a76:=Tryz.isAgg140
 z76:=Tryz.sizeOf140
 v76:=Tryz.zeroValue140
 t85:=Tryz.underlying296
 a85:=Tryz.isAgg296
 z85:=Tryz.sizeOf296
 v85:=Tryz.zeroValue296
 t127:=Tryz.underlying143
 a127:=Tryz.isAgg143
 z127:=Tryz.sizeOf143
 v127:=Tryz.zeroValue143
 t143:=Tryz.underlying317
 a143:=Tryz.isAgg317
 z143:=Tryz.sizeOf317
 v143:=Tryz.zeroValue317
 t145:=Tryz.underlying319
 a145:=Tryz.isAgg319
 z145:=Tryz.sizeOf319
 v145:=Tryz.zeroValue319
 t167:=Tryz.underlying295
 a167:=Tryz.isAgg295
 z167:=Tryz.sizeOf295
 v167:=Tryz.zeroValue295
 t168:=Tryz.underlying298
 a168:=Tryz.isAgg298
 z168:=Tryz.sizeOf298
 v168:=Tryz.zeroValue298
 t171:=Tryz.underlying309
 a171:=Tryz.isAgg309
 z171:=Tryz.sizeOf309
 v171:=Tryz.zeroValue309
 t173:=Tryz.underlying312
 a173:=Tryz.isAgg312
 z173:=Tryz.sizeOf312
 v173:=Tryz.zeroValue312
 t175:=Tryz.underlying304
 a175:=Tryz.isAgg304
 z175:=Tryz.sizeOf304
 v175:=Tryz.zeroValue304
 t210:=Tryz.underlying307
 a210:=Tryz.isAgg307
 z210:=Tryz.sizeOf307
 v210:=Tryz.zeroValue307
 t212:=Tryz.underlying321
 a212:=Tryz.isAgg321
 z212:=Tryz.sizeOf321
 v212:=Tryz.zeroValue321
 t213:=Tryz.underlying323
 a213:=Tryz.isAgg323
 z213:=Tryz.sizeOf323
 t232:=Tryz.underlying326
 a232:=Tryz.isAgg326
 z232:=Tryz.sizeOf326
 v232:=Tryz.zeroValue326
 t233:=Tryz.underlying327
 a233:=Tryz.isAgg327
 z233:=Tryz.sizeOf327
 v233:=Tryz.zeroValue327
 g15:=by kernel_rfl
 g16:=by kernel_rfl
 g17:=by kernel_rfl
 g18:=by kernel_rfl
 g19:=by kernel_rfl
 t80:=Tryz.underlying84
 a80:=Tryz.isAgg84
 z80:=Tryz.sizeOf84
 v80:=Tryz.zeroValue84
 i0:=by kernel_rfl
 i2:=by kernel_rfl
 i3:=by kernel_rfl
 i4:=by kernel_rfl
 i5:=by kernel_rfl
 i9:=by kernel_rfl
 i20:=by kernel_rfl
 i21:=by kernel_rfl
 i37:=by kernel_rfl
 i46:=by kernel_rfl
 i51:=by kernel_rfl
 i53:=by kernel_rfl
 i75:=by kernel_rfl
 i76:=by kernel_rfl
 i80:=by kernel_rfl
 i85:=by kernel_rfl
 i127:=by kernel_rfl
 i143:=by kernel_rfl
 i145:=by kernel_rfl
 i167:=by kernel_rfl
 i168:=by kernel_rfl
 i171:=by kernel_rfl
 i173:=by kernel_rfl
 i175:=by kernel_rfl
 i210:=by kernel_rfl
 i212:=by kernel_rfl
 i232:=by kernel_rfl
 i233:=by kernel_rfl
 m15:=by kernel_rfl
 m16:=by kernel_rfl
 m17:=by kernel_rfl
 m18:=by kernel_rfl
 m19:=by kernel_rfl
 c0:=by kernel_rfl
 c2:=by kernel_rfl
 c3:=by kernel_rfl
 c4:=by kernel_rfl
 c5:=by kernel_rfl
 c9:=by kernel_rfl
 c20:=by kernel_rfl
 c21:=by kernel_rfl
 c37:=by kernel_rfl
 c46:=by kernel_rfl
 c51:=by kernel_rfl
 c53:=by kernel_rfl
 c75:=by kernel_rfl
 c76:=by kernel_rfl
 c80:=by kernel_rfl
 c85:=by kernel_rfl
 c127:=by kernel_rfl
 c143:=by kernel_rfl
 c145:=by kernel_rfl
 c167:=by kernel_rfl
 c168:=by kernel_rfl
 c171:=by kernel_rfl
 c173:=by kernel_rfl
 c175:=by kernel_rfl
 c210:=by kernel_rfl
 c212:=by kernel_rfl
 c213:=by kernel_rfl
 c232:=by kernel_rfl
 c233:=by kernel_rfl }
end Go.Proofs
end
section
namespace Go.Proofs.YtplfmnkmlaolpaaGreatDoor
open Go.Bw
open Go.Proofs
def within (n low high:Int):Bool:=decide (low<=n)&&decide (n<=high)
theorem XS (n:Nat):within (n:Int) 1 8=(decide (1<=n)&&decide (n<=8)):=by
 rw [Bool.eq_iff_iff];simp [within];omega
theorem XT (n:Nat) (u:Int):(((((n:Int)==0)||decide (8<(n:Int)))||decide (u<97))||decide (122<u)) = !((decide (1<=n)&&decide (n<=8))&&l_ u):=by
 rw [Bool.eq_iff_iff];simp [l_];omega
theorem zM {s:List UInt8} {i:Nat} (h:i<s.length):s[i]? = some (s[i]?.getD 0):=by rw [List.getElem?_eq_getElem h]; rfl
theorem XV {s:List UInt8} {p:UInt8->Bool} {i:Nat} (h:i<s.length) (hp:p (s[i]?.getD 0)=false):s.all p=false:=by
 rw [List.all_eq_false];exact ⟨_,List.mem_of_getElem? (zM h),by simp [hp]⟩
theorem XW {s:List UInt8} {p:UInt8->Bool} (h:∀i,i<s.length->p (s[i]?.getD 0)=true):s.all p=true:=by
 rw [List.all_eq_true];intro x hx;obtain ⟨i,hi⟩:=List.getElem?_of_mem hx;have:=h i (List.getElem?_eq_some_iff.1 hi).1;rw [hi] at this;exact this
theorem XX (u:UInt8):∀s:List UInt8,decide (0<=Lib.indexByte s u)=s.contains u
 | []=>rfl
 | b::l=>by
   have ih:=XX u l;have cC:=Lib.indexByte_ge l u;unfold Lib.indexByte
   by_cases hb:b=u
   · subst hb; simp
   · have h1:(b==u)=false:=by simpa using hb
     have h2:(u==b)=false:=by simpa using λh=>hb h.symm
     rw [if_neg (by simp [h1]),List.contains_cons,h2,Bool.false_or,<-ih]
     split
     · rename_i h; simp at h; simp [h]
     · rename_i h; simp at h
       rw [Bool.eq_iff_iff]; simp; omega
theorem toNat_inj {u v:UInt8} (h:(u.toNat:Int)=(v.toNat:Int)):u=v:=UInt8.toNat_inj.1 (by omega)
theorem eF:Tryz.prog.underlying 9=some .string:=by kernel_rfl
theorem sr:Enters Tryz.prog 31:=enters_of Tryz.func31 (by kernel_rfl) rfl
theorem XY:Enters Tryz.prog 73:=enters_of Tryz.func73 (by kernel_rfl) rfl
theorem aho:Enters Tryz.prog 74:=enters_of Tryz.func74 (by kernel_rfl) rfl
theorem XZ:Enters Tryz.prog 72:=enters_of Tryz.func72 (by kernel_rfl) rfl
theorem ahp:Enters Tryz.prog 168:=enters_of Tryz.func168 (by kernel_rfl) rfl
theorem ss (n low high:Int) (w:World) :
   Calls Tryz.prog 31 #[.int .i64 n,.int .i64 low,.int .i64 high] w λe w'=>e = .returned (.bool (within n low high))/\Ext w w':=by
 refine enter Tryz.func31 O 15 O O ?_;refine CE (Vs:=[]) (Ws.init (by simp)) (Cs (Cr (V0 (Ya O) (Ln (Et (Cs (Cr (V0 (Ym O) (V0 (Ym O) (V0 (eK O O) (V0 (Ym O) ?_)))))))))));apply La 3 O O O O Y O O O O O
 ·intro cD;refine Vg (Ym O) (Vg (Ym O) (Vg (gL O O) ?_));exact Gt 3 O O O
 refine V0 (Ya O) (Ln (Et (aw ?_)));refine R1 O O λw' hw=>?_;exact ⟨O,hw.fr⟩
theorem X0 (u:Int) (w:World) :
   Calls Tryz.prog 73 #[.int .u8 u] w λe w'=>e = .returned (.bool (l_ u))/\Ext w w':=by
 refine enter Tryz.func73 O 9 O O ?_;refine CE (Vs:=[]) (Ws.init (by simp)) (Cs (Cr (V0 (Ya O) (Ln (Et (Cs (Cr (V0 (Ym O) (V0 (eK O O) (V0 (Ym O) ?_))))))))));apply La 2 O O O O Y O O O O O
 ·intro cD;refine Vg (Ym O) (Vg (gL O O) ?_);exact Gt 2 O O O
 refine V0 (Ya O) (Ln (Et (aw ?_)));refine R1 O O λw' hw=>?_;exact ⟨O,hw.fr⟩
theorem ahq (u:Int) (w:World) :
   Calls Tryz.prog 74 #[.int .u8 u] w λe w'=>e = .returned (.bool (zh u))/\Ext w w':=by
 refine enter Tryz.func74 O 9 O O ?_;refine CE (Vs:=[]) (Ws.init (by simp)) (Cs (Cr (V0 (Ya O) (Ln (Et (Cs (Cr (V0 (Ym O) (V0 (eK O O) (V0 (Ym O) ?_))))))))));apply La 2 O O O O Y O O O O O
 ·intro cD;refine Vg (Ym O) (Vg (gL O O) ?_);exact Gt 2 O O O
 refine V0 (Ya O) (Ln (Et (aw ?_)));refine R1 O O λw' hw=>?_;exact ⟨O,hw.fr⟩
theorem X1 (u:Int) (w:World) :
   Calls Tryz.prog 72 #[.int .u8 u] w λe w'=>e = .returned (.bool (l_ u||zh u))/\Ext w w':=by
 refine enter Tryz.func72 O 17 O O ?_;refine CE (Vs:=[]) (Ws.init (by simp)) (Cs (Cr (V0 (Ya O) (Ln (Et (Cs (Cr (V0 (Ym O) (V0 (eK O O) (V0 (Ym O) ?_))))))))));apply La 2 O O O O Y O O O O O
 ·intro cD;refine Vg (Ym O) (Vg (gL O O) ?_);exact Gt 2 O O O
 refine V0 (Ym O) ?_;apply Lo 6 O O O O Y O O O O O
 ·intro bR;refine Vg (Ym O) (Vg (eK O O) (Vg (Ym O) ?_));apply La 2 O O O O (.g O O O) O O O O O
  ·intro gP;refine Vg (Ym O) (Vg (gL O O) ?_);exact Gt 2 O O O
  exact Gt 4 O O O
 refine V0 (Ya O) (Ln (Et (aw ?_)));refine R1 O O λw' hw=>?_;exact ⟨O,hw.fr⟩
theorem ahr (s:List UInt8) (w:World) :
   Calls Tryz.prog 32 #[st s] w λe w'=>e = .returned (.bool (dG s))/\Ext w w':=by
 refine enter Tryz.func32 O 32 O O ?_;refine CE (Vs:=[]) (Ws.init (by simp)) (Cs (Cr (V0 (Ya O) (Ln (Et (Cs (Cs (Cr (V0 (Ym O) (V0 (yX eF O) (Lp Y O sr O (λw hw=>ss _ _ _ w) (V0 (dw O) ?_))))))))))));refine V0 (Ym O) ?_;apply Lo 4 O O O O Y O O O O O
 ·intro cD
  have h0:0<s.length:=by simp [within] at cD; omega
  have CM:=zM h0;refine Vg (Ym O) (Vg (xk eF O O CM) (Lp (.g O O O) O XY O (λw hw=>X0 _ w) (Vg (dw O) ?_)));exact Gt 4 O O O
 refine Ln (Et ?_);refine Cc O (λad=>?_) (λad=>?_)
 ·have hn:dG s=false:=by
    unfold dG;rw [XS] at ad
    revert ad
    generalize (decide (1<=s.length)&&decide (s.length<=8))=A
    generalize l_ ((s[0]?.getD 0).toNat)=B
    cases A<;>cases B<;>simp
  refine Cs (Cr (V0 (Ya O) (Ln (Et (aw (Er ?_))))));refine R1 O O λw' hw=>?_;exact ⟨by rw [hn],hw.fr⟩
 have aA:((decide (1<=s.length)&&decide (s.length<=8))&&l_ ((s[0]?.getD 0).toNat))=true:=by
   rw [XS] at ad
   revert ad
   generalize (decide (1<=s.length)&&decide (s.length<=8))=A
   generalize l_ ((s[0]?.getD 0).toNat)=B
   cases A<;>cases B<;>simp
 have h8:s.length<=8:=by simp at aA; omega
 refine Ck (Et (Cs (Cs (Cr (V0 (Ya O) (Ln (Et (Cb ?_))))))));refine CW (ι:=Nat) (λi=>[(3,.int .i64 (i:Int))]) [(0,_)] (λi=>i<=s.length/\∀j,j<i->kY (s[j]?.getD 0)=true) (λi=>s.length-i) 0 ⟨Nat.zero_le _,by simp⟩ (sc O (sc O sn)) ?_;intro i ⟨hi,bN⟩;refine Cs (Cs (Cr (V0 (Ym O) (V0 (Ym O) (V0 (yX eF O) (V0 (a_ O O) (Ln (Et ?_))))))));refine Cc O (λaq=>?_) (λaq=>?_)
 ·have av:i<s.length:=by simpa using aq
  have ui:=zM av;refine Ck (Et (Cs (Cb (Cs (Cr (V0 (Ym O) (V0 (Ym O) (V0 (xk eF O O ui) (Lp Y O XY O (λw hw=>X0 _ w) (V0 (dw O) (V0 (Ym O) ?_)))))))))));apply La 5 O O O O Y O O O O O
  ·intro bR;refine Vg (Ym O) (Vg (Ym O) (Vg (xk eF O O ui) (Lp (.g O O O) O aho O (λw hw=>ahq _ w) (Vg (dw O) ?_))));exact Gt 5 O O O
  refine Ln (Et ?_);refine Cc O (λay=>?_) (λay=>?_)
  ·have vQ:kY (s[i]?.getD 0)=false:=by unfold kY; revert ay; cases l_ _<;>cases zh _<;>simp
   refine Cs (Cr (V0 (Ya O) (Ln (Et (aw (bt (Er (Er (bt (Er ?_))))))))));refine R1 O O λw' hw=>?_;exact ⟨by unfold dG; rw [XV av vQ]; simp,hw.fr⟩
  have vQ:kY (s[i]?.getD 0)=true:=by unfold kY; revert ay; cases l_ _<;>cases zh _<;>simp
  refine Ck (Eb (Et (Cr (V0 (Ym O) (V0 (Yi O O O (by omega)) (V0 (Ya O) (Ln ?_)))))));exact Ea (i+1) (by omega) ⟨by omega,λj hj=>by rcases Nat.lt_succ_iff_lt_or_eq.1 hj with h | rfl; exact bN j h; exact vQ⟩ (sc rfl (sc rfl sn)) (λ_ h=>h)
 have cC:¬i<s.length:=by simpa using aq
 refine Ce (Ex (Ex (bK (Et (Cs (Cr (V0 (Ya O) (Ln (Et (aw ?_))))))))));refine R1 O O λw' hw=>?_;exact ⟨by unfold dG; rw [XW λj hj=>bN j (by omega),aA]; rfl,hw.fr⟩
theorem su (s:List UInt8) (w:World) :
   Calls Tryz.prog 29 #[st s] w λe w'=>e = .returned (.bool (dG s))/\Ext w w':=by
 refine enter Tryz.func29 O 33 O O ?_;refine CE (Vs:=[]) (Ws.init (by simp)) (Cs (Cr (V0 (Ya O) (Ln (Et (Cs (Cs (Cr (V0 (Ym O) (V0 (yX eF O) (V0 (aF O O) (V0 (Ym O) ?_))))))))))));apply Lo 3 O O O O Y O O O O O
 ·intro cD;refine Vg (Ym O) (Vg (yX eF O) (Vg (bX O O) ?_));exact Gt 3 O O O
 refine V0 (Ym O) ?_;apply Lo 3 O O O O Y O O O O O
 ·intro bR
  have h0:0<s.length:=by
    rcases Nat.eq_zero_or_pos s.length with h | h
    · simp [h] at bR
    · exact h
  have CM:=zM h0;refine Vg (Ym O) (Vg (xk eF O O (by assumption)) (Vg (a_ O O) ?_));exact Gt 3 O O O
 refine V0 (Ym O) ?_;apply Lo 3 O O O O Y O O O O O
 ·intro gP
  have h0:0<s.length:=by
    rcases Nat.eq_zero_or_pos s.length with h | h
    · simp [h] at gP
    · exact h
  have CM:=zM h0;refine Vg (Ym O) (Vg (xk eF O O CM) (Vg (bX O O) ?_));exact Gt 3 O O O
 refine Ln (Et ?_);refine Cc O (λad=>?_) (λad=>?_)
 ·rw [XT] at ad
  have hn:dG s=false:=by
    unfold dG;simp only [Bool.not_eq_true'] at ad;rw [ad]; rfl
  refine Cs (Cr (V0 (Ya O) (Ln (Et (aw (Er ?_))))));refine R1 O O λw' hw=>?_;exact ⟨by rw [hn],hw.fr⟩
 rw [XT] at ad
 have aA:((decide (1<=s.length)&&decide (s.length<=8))&&l_ ((s[0]?.getD 0).toNat))=true:=by simpa using ad
 have h8:s.length<=8:=by simp at aA; omega
 refine Ck (Et (Cs (Cs (Cr (V0 (Ym O) (V0 (yX eF O) (V0 (Ym O) (Ln (Et (Cb ?_))))))))));refine CW (ι:=Nat) (λi=>[(24,.int .i64 (i:Int))]) [(0,_),(23,_)] (λi=>i<=s.length/\∀j,j<i->kY (s[j]?.getD 0)=true) (λi=>s.length-i) 0 ⟨Nat.zero_le _,by simp⟩ (sc O (sc O (sc O sn))) ?_;intro i ⟨hi,bN⟩;refine Cs (Cr (V0 (a_ O O) (Ln (Et (Cs ?_)))));refine Cc O (λaq=>?_) (λaq=>?_)
 ·have av:i<s.length:=by simpa using aq
  have ui:=zM av;refine Ck (Et (Cs (Cb (Cs (Cr (V0 (Ym O) (V0 (Ya O) (Ln (Et (Cs (Cr (V0 (Ym O) (V0 (Ym O) (V0 (xk eF O O ui) (Lp Y O XZ O (λw hw=>X1 _ w) ?_)))))))))))))));refine V0 (dw O) (Ln (Et ?_));refine Cc O (λay=>?_) (λay=>?_)
  ·have vQ:kY (s[i]?.getD 0)=false:=by unfold kY; revert ay; cases l_ _<;>cases zh _<;>simp
   refine Cs (Cr (V0 (Ya O) (Ln (Et (aw (bt (Er (Er (bt (Er ?_))))))))));refine R1 O O λw' hw=>?_;exact ⟨by unfold dG; rw [XV av vQ]; simp,hw.fr⟩
  have vQ:kY (s[i]?.getD 0)=true:=by unfold kY; revert ay; cases l_ _<;>cases zh _<;>simp
  refine Ck (Eb (Et (Cr (V0 (Yi O O O (by omega)) (V0 (Ym O) (Ln ?_))))));exact Ea (i+1) (by omega) ⟨by omega,λj hj=>by rcases Nat.lt_succ_iff_lt_or_eq.1 hj with h | rfl; exact bN j h; exact vQ⟩ (sc rfl (sc rfl (sc rfl sn))) (λ_ h=>h)
 have cC:¬i<s.length:=by simpa using aq
 refine Ce (Ex (Ex (bK (Et (Cs (Cr (V0 (Ya O) (Ln (Et (aw ?_))))))))));refine R1 O O λw' hw=>?_;exact ⟨by unfold dG; rw [XW λj hj=>bN j (by omega),aA]; rfl,hw.fr⟩
theorem ahs (s:List UInt8) (u:UInt8) (w:World):Calls Tryz.prog 168 #[st s,.int .u8 (u.toNat:Int)] w λe w'=>e = .returned (.int .i64 (Lib.indexByte s u))/\Ext w w':=
 (Any.strings_IndexByte Go.Proofs.Tryz.ahk ⟨s.toArray⟩ (u.toNat:Int) w).mono λe w' h=>by
   obtain ⟨h1,h2⟩:=h;subst h2
   have e1:((u.toNat:Int)).toNat.toUInt8=u:=by simp
   rw [e1] at h1;exact ⟨h1,Fr.refl _ _⟩
theorem aht (u:UInt8) (w:World) :
   Calls Tryz.prog 142 #[.int .u8 (u.toNat:Int)] w λe w'=>e = .returned (.bool (vq u))/\Ext w w':=by
 refine enter Tryz.func142 O 6 O O ?_;refine CE (Vs:=[]) (Ws.init (by simp)) (Cs (Cr (V0 (Ya O) (Ln (Et (Cs (Cr (V0 (Ym O) (Lp Y O ahp O (λw hw=>ahs NT u w) (V0 (eK O O) (V0 (Ya O) ?_)))))))))));refine Ln (Et (aw ?_));refine R1 O O λw' hw=>?_;exact ⟨by rw [XX]; rfl,hw.fr⟩
theorem any_true {α:Type} {p:α->Bool} {l:List α} {j:Nat} {x:α} (hj:l[j]? = some x) (h:p x=true):l.any p=true:=List.any_eq_true.2 ⟨x,List.mem_of_getElem? hj,h⟩
theorem any_false {α:Type} {p:α->Bool} {l:List α} (h:∀(j:Nat) (x:α),l[j]? = some x->p x=false):l.any p=false:=by
 rw [List.any_eq_false];intro x hx;obtain ⟨j,hj⟩:=List.getElem?_of_mem hx;simp [h j x hj]
theorem mA {α:Type} {l:List α} {i:Nat} {x:α} (h:l[i]? = some x):l.take (i+1)=l.take i++[x]:=by rw [List.take_add_one,h]; rfl
def pq (s:List UInt8):Int:=match Lib.atoiAll s with | .ok v=>v | .range=>Lib.atoiSat s | _=>0
def xX (s:List UInt8):Bool:=match Lib.atoiAll s with | .ok _=>true | _=>false
theorem ahu (s:List UInt8) : -9223372036854775808<=pq s/\pq s<=9223372036854775807:=by
 unfold pq
 cases h:Lib.atoiAll s with
 | ok v=>exact Lib.atoiAll_bounds h
 | range=>exact Lib.atoiSat_bounds s
 | _=>simp
theorem ahv {s:List UInt8} (h:dG s=false):nc s=(⟨2,pq s,[]⟩,((xX s&&decide (0<=pq s))&&decide (pq s<=1099511627775))&&(Lib.itoa (pq s)==s)):=by
 rw [nc,if_neg (by simp [h])];unfold pq xX
 cases Lib.atoiAll s<;>simp
theorem X2 {s:List UInt8} {l:List Tok} {t:List UInt8} (h:ky s=(ky t).map (l++·)) (ht:ky t=none):¬4096<s.length->dZ s=([],1):=λhl=>by
 rw [dZ,if_neg hl,h,ht]; rfl
theorem ahw {s:List UInt8} {l:List Tok} (h:ky s=(ky []).map (l++·)):¬4096<s.length->dZ s=(l,0):=λhl=>by
 rw [dZ,if_neg hl,h]; simp [UU]
theorem X3 {o:Option (List Tok)} {l:List Tok} {t:Tok}:(o.map (t::·)).map (l++·)=o.map ((l++[t])++·):=by
 cases o<;>simp
abbrev Laid (H:View):Prop:=NP Tryz.prog 3 0 1 H
def X4 : String := (Rows.objChecksRow.laid.map (·.1)).getD 2 ""
theorem Pc:Tryz.prog.globalNamed X4=some 3:=by kernel_rfl
theorem ahx (G:View) (n:Int) (h0 : -9223372036854775808<=n) (h1:n<=9223372036854775807) (w:World) (hG:Le G w) (hz:Laid G) :
   Calls Tryz.prog 167 #[.int .i64 n] w λe w'=>e = .returned (st (Lib.itoa n))/\Ext w w':=
 (Any.strconv_Itoa Go.Proofs.Tryz.ahm n h0 h1 w (hz.NQ hG Pc)).mono λe w' h=>by
   obtain ⟨h1,k,os,rfl⟩:=h;exact ⟨h1,aeI w k os⟩
theorem ahy (G:View) (s:List UInt8) (hs:s.length<=4096) (w:World) (hG:Le G w) (hz:Laid G) :
   Calls Tryz.prog 166 #[st s] w λe w'=>∃r:Value,e = .returned (.tuple #[.int .i64 (pq s),r])/\Ext w w'/\BV r (xX s):=by
 have gz:(ByteArray.mk s.toArray).size=s.length:=IT s
 cases h:Lib.atoiAll s with
 | ok v=>
   refine (Any.strconv_Atoi_ok Go.Proofs.Tryz.Pb ⟨s.toArray⟩ (by rw [gz]; omega) v h w).mono λe w' hh=>?_;obtain ⟨h1,h2⟩:=hh;refine ⟨.nilIface,by simp only [pq,h]; exact h1,?_,by simp [BV,xX,h]⟩
   rcases h2 with rfl | ⟨t,rfl⟩
   · exact Fr.refl _ _
   · exact Ext.Nf (Lib.bytesWorld_below _ _ _)
 | range=>
   obtain ⟨ev,hv,zN⟩:=hz.rng;refine (Any.strconv_Atoi_range Go.Proofs.Tryz.Pb ⟨s.toArray⟩ (by rw [gz]; omega) h ev w (hG.cell hv) zN).mono λe w' hh=>?_;obtain ⟨N,h1,_,_,h2⟩:=hh;exact ⟨_,by simp only [pq,h]; exact h1,Ext.Nf h2,by simp [BV,xX,h]⟩
 | _=>
   obtain ⟨ev,hv,zN⟩:=hz.syn;refine (Any.strconv_Atoi_syntax Go.Proofs.Tryz.Pb ⟨s.toArray⟩ (by rw [gz]; omega) h ev w (hG.cell hv) zN).mono λe w' hh=>?_;obtain ⟨N,h1,_,_,h2⟩:=hh;exact ⟨_,by simp only [pq,h]; exact h1,Ext.Nf h2,by simp [BV,xX,h]⟩
theorem ahz:Tryz.prog.underlying 139=some (.interface (Tryz.prog.methodsAt 139)):=by kernel_rfl
theorem zO:zeroOf Tryz.prog 255=some (.agg #[.int .i64 0,.int .i64 0,st []]):=by kernel_rfl
theorem sv:Enters Tryz.prog 29:=enters_of Tryz.func29 (by kernel_rfl) rfl
theorem Pd:fh Tryz.prog 255=some [(0,1),(1,1),(2,1)]:=by kernel_rfl
theorem FB:cG Tryz.prog 255=some 3:=by kernel_rfl
theorem CN:fg Tryz.prog 255=some 3:=by kernel_rfl
theorem ahA:Enters Tryz.prog 166:=enters_of Tryz.func166 (by kernel_rfl) rfl
theorem ahB:Enters Tryz.prog 167:=enters_of Tryz.func167 (by kernel_rfl) rfl
theorem ahC:Enters Tryz.prog 141:=enters_of Tryz.func141 (by kernel_rfl) rfl
theorem JQ:fk Tryz.prog 223 255 (.agg #[.int .i64 0,.int .i64 0,st []]) 3 32:=iw (by kernel_rfl)
theorem ahD:Enters Tryz.prog 142:=enters_of Tryz.func142 (by kernel_rfl) rfl
theorem ahE (G:View) (s:List UInt8) (hs:s.length<=4096) (w:World) (hG:Le G w) (hz:Laid G) :
   Calls Tryz.prog 141 #[st s] w λe w'=>e = .returned (.tuple #[.agg #[.int .i64 (nc s).1.kind,.int .i64 (nc s).1.n,st (nc s).1.text],.bool (nc s).2])/\Ext w w':=by
 refine enter Tryz.func141 O 33 O O ?_;refine CE (Vs:=[G]) (Ws.init (by simp [hG])) (Cs (Cr ?_));refine Al Y O zO λb2=>?_;refine V0 (Ya O) (Ln (Et (Cs (Cs (Cr (V0 (Ym O) (Lp Y O sv O (λw hw=>su _ w) (Ln (Et ?_)))))))));refine Cc O (λad=>?_) (λad=>?_)
 ·have hW:nc s=(⟨1,0,s⟩,true):=by rw [nc,if_pos ad]
  refine Cs (Cr (V0 (Ym O) (V0 (Yb zO Pd O O) (ak 0 Y O O O FB O O O (V0 (Ya O) (Ln (Et (aw (Er ?_)))))))));refine WE.xo 0 O O O O CN O λw' hw=>?_;rw [hW];exact ⟨O,hw.fr⟩
 have hW:=ahv ad;have eL:=ahu s;refine Ck (Et (Cs (Cr (V0 (Ym O) ?_))));refine Ld Y O ahA O (λr:Value=>.tuple #[.int .i64 (pq s),r]) (λ_ r=>BV r (xX s)) (λw hw=>ahy G s hs w (hw.vs _ (by simp)) hz) ?_;intro F12 vR Pe qy;refine V0 (Ym O) (V0 (Yx O O) (V0 (Yx O O) (V0 (Ya O) (V0 (Ya O) (Ln (Et (Cs (Cr (V0 (Ym O) (V0 (Yb zO Pd O O) ?_))))))))));refine V0 (Ym O) (V0 (aeE (xX s) ahz O qy) (V0 (Ym O) ?_));apply La 2 O O O O Y O O O O O
 ·intro cD;refine Vg (Ym O) (Vg (eK O O) ?_);exact Gt 2 O O O
 refine V0 (Ym O) ?_;apply La 2 O O O O Y O O O O O
 ·intro bR;refine Vg (Ym O) (Vg (gL O O) ?_);exact Gt 2 O O O
 refine V0 (Ym O) ?_;apply La 4 O O O O Y O O O O O
 ·intro gP;refine Vg (Ym O) (Lp (.g O O O) O ahB O (λw hw=>ahx G _ eL.1 eL.2 w (hw.vs _ (by simp)) hz) (Vg (Ym O) (Vg (yW O O) ?_)));exact Gt 4 O O O
 refine ak 0 Y O O O FB O O O (V0 (Ya O) (Ln (Et (aw ?_))));refine WE.xo 0 O O O O CN O λw' hw=>?_;rw [hW];exact ⟨O,hw.fr⟩
theorem ahG (G:View) (s:List UInt8) (w:World) (hG:Le G w) (hz:Laid G) :
   Calls Tryz.prog 119 #[st s] w λe w'=>∃r:Option Addr×Nat,e = .returned (.tuple #[.slice r.1 (dZ s).1.length r.2,.int .i64 (dZ s).2])/\Ext w w'/\Sl a6 3 (nv w w') r.1 r.2 (dZ s).1:=by
 refine enter Tryz.func119 O 66 O O ?_;refine CE (Vs:=[G]) (Ws.init (by simp [hG])) (Cs (Cr (V0 (Ya O) (V0 (Ya O) (Ln (Et (Cs (Cs (Cr (V0 (Ym O) (V0 (yX eF O) (V0 (bX O O) ?_))))))))))));refine Ln (Et ?_);refine Cc O (λad=>?_) (λad=>?_)
 ·have hl:4096<s.length:=by simp at ad; omega
  have hR:dZ s=([],2):=by rw [dZ,if_pos hl]
  refine Cs (Cr (V0 (Ya O) (V0 (Ya O) (Ln (Et (aw (Er ?_)))))));refine WE.dM (gf O (hY O) (hY O)) λw' hw=>?_;rw [hR];exact ⟨(none,0),O,hw.fr,Sl.nil⟩
 have hl:¬4096<s.length:=by simp at ad; omega
 refine Ck (Et (Cs (Cr (V0 (Ya O) (LW (λ_ h=>h.fj 255 3) (Ln (Et (Cs (Cb ?_)))))))));refine ct (ι:=List UInt8×List Tok×Option Addr×Nat) (λg=>[(0,st g.1),(4,.slice g.2.2.1 g.2.1.length g.2.2.2)]) [] (λg=>Ws w [] [bj 255 3 Tok.cells g.2.2.1 g.2.2.2 (g.2.1)] [G]) (λg=>g.2.1.length+g.1.length<=s.length/\ky s=(ky g.1).map (g.2.1++·)) (λg=>g.1.length) (s,[],none,0) ⟨by simp,by simp⟩ (sc O (sc O sn)) (λ_ h=>h) ?_;intro g ⟨df,hO⟩;refine Cs (Cs (Cr (V0 (Ym O) (V0 (Ni O O) (Ln (Et ?_))))));refine Cc O (λaq=>?_) (λaq=>?_)
 ·obtain ⟨u,r,vT⟩:∃u r,g.1=u::r:=by
    cases bR:g.1 with
    | nil=>rw [bR] at aq; simp at aq
    | cons u r=>exact ⟨u,r,rfl⟩
  have kx:g.1.length=r.length+1:=by rw [vT]; rfl
  refine Ck (Et (Cb (Cs (Cr (V0 (Ya O) (Ln (Et (Cs (Cb ?_)))))))));refine CW (ι:=Nat) (λi=>[(5,.int .i64 (i:Int))]) [(0,_),(4,_)] (λi=>i<=g.1.length/\∀j,j<i->kY (g.1[j]?.getD 0)=true) (λi=>g.1.length-i) 0 ⟨Nat.zero_le _,by simp⟩ (sc O (sc O (sc O sn))) ?_;intro i ⟨hi,bN⟩;refine Cs (Cs (Cr (V0 (Ym O) (V0 (Ym O) (V0 (yX eF O) (V0 (a_ O O) (V0 (Ym O) ?_)))))));apply La 4 O O O O Y O O O O O
  ·intro cD
   have av:i<g.1.length:=by simpa using cD
   have CM:=zM av;refine Vg (Ym O) (Vg (Ym O) (Vg (xk eF O O CM) (Lp (.g O O O) O XZ O (λw hw=>X1 _ w) ?_)));exact Gt 4 O O O
  refine Ln (Et ?_);refine Cc O (λay=>?_) (λay=>?_)
  ·have av:i<g.1.length:=by
     simp only [Bool.and_eq_true,decide_eq_true_eq] at ay;omega
   have vQ:kY (g.1[i]?.getD 0)=true:=by
     simp only [Bool.and_eq_true] at ay;exact ay.2
   refine Ck (Et (Cb (Cr (V0 (Ym O) (V0 (Yi O O O (by omega)) (V0 (Ya O) (Ln (Eb ?_))))))));exact Ea (i+1) (by omega) ⟨by omega,λj hj=>by rcases Nat.lt_succ_iff_lt_or_eq.1 hj with h | rfl; exact bN j h; exact vQ⟩ (sc rfl (sc rfl (sc rfl sn))) (λ_ h=>h)
  have Pf:iK g.1=i:=by
    refine UT _ _ hi bN ?_
    rcases Nat.lt_or_ge i g.1.length with h | h
    · right
      rw [decide_eq_true (by omega:((i:Nat):Int)<(g.1.length:Int)),Bool.true_and] at ay;exact ay
    · left; omega
  have hu1:g.1[0]? = some u:=by rw [vT]; rfl
  refine Ce (Ex (Ex (bK (Et (Cs (Cs (Cr (V0 (Ym O) (V0 (xk eF O O (i:=0) hu1) (V0 (Ya O) (Ln (Et (Cb (Cs (Cr (V0 (Ym O) (V0 (bX O O) ?_)))))))))))))))));refine V0 (Ya O) (Ln (Et ?_));refine Cc O (λaJ=>?_) (λaJ=>?_)
  ·have h0n:0<i:=by simp at aJ; omega
   refine Cs (Cr (V0 (Ym O) (V0 (Ym O) (V0 (Ux Tryz.underlying9 O O (by omega) (by omega)) ?_))));rw [Int.toNat_natCast];refine Lp Y O ahC O (λw hw=>ahE G _ (by simp; omega) w (hw.vs _ (by simp)) hz) (V0 (Ym O) (V0 (Yx O O) (V0 (Yx O O) ?_)));refine Al Y O zO λb7=>?_;refine ak 0 Y O O O FB O O O (V0 (Ya O) (Ln (Et (Cs (Cs (Cr (V0 (Ym O) (V0 (dw O) (Ln (Et ?_))))))))));refine Cc O (λaU=>?_) (λaU=>?_)
   ·have hR:dZ s=([],1):=X2 hO (by rw [NV (by omega),Pf,U6,if_neg (by simpa using aU)]) hl;refine Cs (Cr (V0 (Ya O) (V0 (Ya O) (Ln (Et (aw (Er (bt (Er (bt (Er (bt (Er ?_)))))))))))));refine WE.dM (gf O (hY O) (hY O)) λw' hw=>?_;rw [hR];exact ⟨(none,0),O,hw.fr,Sl.nil⟩
   have xY:xz (g.1.take i)=some ((nc (g.1.take i)).1):=by rw [U6,if_pos (by simpa using aU)]
   refine Ck (Et (Cs (Cr (V0 (Ym O) (V0 (bC 0 O O CN O) ?_)))));refine Lb Y O JQ O O O O λb42=>?_;refine bI 0 (.cells (Tok.cells ((nc (g.1.take i)).1)).toArray 255 (0,0)) O O ?_;refine LA ((nc (g.1.take i)).1) 2 0 Y O JQ O O O O O O (by omega) (by omega) λa43 c43=>?_;refine V0 (Ya O) (Ln (Et (Cs (Cr (V0 (Ym O) (V0 (Ym O) (V0 (NC Tryz.underlying9 O O (by omega) (by omega)) ?_)))))));rw [Int.toNat_natCast];refine V0 (Ya O) (Ln (Et (Ce (Na O (Ex (bK ?_))))))
   exact Ea ((g.1.drop i,g.2.1++[(nc (g.1.take i)).1],a43,c43):List UInt8×List Tok×Option Addr×Nat) (by dsimp only; simp; omega) ⟨by dsimp only; simp; omega,by
       dsimp only;rw [hO,NV (by omega),Pf,xY];simp only
       rw [X3]⟩ (sc rfl (sc rfl sn)) (λ_ h=>Wd 2 h)
  have Pg:iK (u::r)=0:=by rw [<-vT,Pf]; simp at aJ; omega
  refine Cs (Cr (V0 (Ym O) (Lp Y O ahD O (λw hw=>aht _ w) (V0 (Ya O) (Ln (Et ?_))))));refine Cc O (λbd=>?_) (λbd=>?_)
  ·refine Cr (V0 (Ym O) (V0 (Ym O) (V0 (Ux Tryz.underlying9 O O (by omega) (by omega)) ?_)));rw [show g.1.take (1:Int).toNat=[u] by rw [vT]; rfl];refine V0 (Yb zO Pd O O) ?_;refine Lb Y O JQ O O O O λb54=>?_;refine bI 0 (.cells (Tok.cells (Tok.mk 3 0 [u])).toArray 255 (0,0)) O O ?_;refine LA (Tok.mk 3 0 [u]) 1 0 Y O JQ O O O O O O (by omega) (by omega) λa55 c55=>?_;refine V0 (Ya O) (Ln (Eb (Et (Cr (V0 (Ym O) (V0 (NC Tryz.underlying9 O O (by omega) (by omega)) ?_))))));rw [show g.1.drop (1:Int).toNat=r by rw [vT]; rfl];refine V0 (Ya O) (Ln (Eb ?_))
   exact Ea ((r,g.2.1++[Tok.mk 3 0 [u]],a55,c55):List UInt8×List Tok×Option Addr×Nat) (by dsimp only; omega) ⟨by dsimp only; simp; omega,by
       dsimp only
       rw [hO,vT,UW Pg (by simpa using bd),X3]⟩ (sc rfl (sc rfl sn)) (λ_ h=>Wd 1 h)
  refine Cs (Cr (V0 (Ym O) (V0 (i' O O) (V0 (Ym O) ?_))));apply La 2 O O O O Y O O O O O
  ·intro bR;refine Vg (Ym O) (Vg (i' O O) ?_);exact Gt 2 O O O
  refine V0 (Ya O) (Ln (Et ?_));refine Cc O (λbh=>?_) (λbh=>?_)
  ·have FC:¬(u=32\/u=10):=by
     rintro (h | h)<;>rw [h] at bh<;>simp at bh
   have hR:dZ s=([],1):=X2 hO (by rw [vT,UY Pg (by simpa using bd) FC]) hl;refine Cs (Cr (V0 (Ya O) (V0 (Ya O) (Ln (Et (aw (bt (Er (bt (Er (bt (Er ?_))))))))))));refine WE.dM (gf O (hY O) (hY O)) λw' hw=>?_;rw [hR];exact ⟨(none,0),O,hw.fr,Sl.nil⟩
  have FC:u=32\/u=10:=by
    simp only [bne,Bool.and_eq_false_iff,Bool.not_eq_false',beq_iff_eq] at bh
    rcases bh with h | h
    · left; exact toNat_inj (by simpa using h)
    · right; exact toNat_inj (by simpa using h)
  refine Ck (Eb (Et (Cr (V0 (Ym O) (V0 (NC Tryz.underlying9 O O (by omega) (by omega)) ?_)))));rw [show g.1.drop (1:Int).toNat=r by rw [vT]; rfl];refine V0 (Ya O) (Ln (Eb ?_))
  exact Ea ((r,g.2.1,g.2.2.1,g.2.2.2):List UInt8×List Tok×Option Addr×Nat) (by dsimp only; omega) ⟨by dsimp only; omega,by
      dsimp only
      rw [hO,vT,UX Pg (by simpa using bd) FC]⟩ (sc rfl (sc rfl sn)) (λ_ h=>h)
 have cC:g.1=[]:=by simpa using aq
 have hR:dZ s=(g.2.1,0):=by
   rw [cC] at hO;exact ahw hO hl
 refine Ce (Ex (Ex (bK (Et (Cs (Cr (V0 (Ym O) (V0 (Ya O) (V0 (Ya O) (Ln (Et (aw ?_))))))))))));refine WE.dM (gf O (hY O) (hY O)) λw' hw=>?_;rw [hR];exact ⟨(g.2.2.1,g.2.2.2),O,hw.fr,hw.gB 0 O Tok.aX (λ_ _ _ _ h=>h)⟩
abbrev kI:Int->Value:=λn:Int=>Value.int .i64 n
def vS (r:Bool) (a:Int):Value:=.agg #[.bool r,.int .i64 a]
def gQ (n:Nat):List (di Int):=[(1,vS false 0,0),(2,vS false 0,1),(3,vS true 0,2),(4,vS true 1,3),(5,vS true (-1),4),(6,vS false 1,5)]++(List.range n).map λj=>(((7+j:Nat):Int),vS false 2,6+j)
def jj:List (di Int):=[(1,vS true 1,0),(2,vS true 2,1),(3,vS true (-1),2),(4,vS false 1,3),(5,vS false 1,4),(6,vS false 1,5),(7,vS false 1,6)]
theorem ahM (n:Nat) (h:n<9):bz kI (dY ((7+n:Nat):Int) (vS false 2) (gQ n) (6+n)) (jB ((7+n:Nat):Int) (gQ n) (6+n))=bz kI (gQ (n+1)) (6+(n+1)):=by
 match n,h with
 | 0,_=>rfl
 | 1,_=>rfl
 | 2,_=>rfl
 | 3,_=>rfl
 | 4,_=>rfl
 | 5,_=>rfl
 | 6,_=>rfl
 | 7,_=>rfl
 | 8,_=>rfl
theorem X5 (op:Int):eu op (gQ 9) (vS false 0)=vS ((dH op).getD (false,0)).1 ((dH op).getD (false,0)).2/\o4 op (gQ 9) = !(dH op).isNone:=by
 by_cases h1:op=1
 · subst h1; exact ⟨rfl,rfl⟩
 by_cases h2:op=2
 · subst h2; exact ⟨rfl,rfl⟩
 by_cases h3:op=3
 · subst h3; exact ⟨rfl,rfl⟩
 by_cases h4:op=4
 · subst h4; exact ⟨rfl,rfl⟩
 by_cases h5:op=5
 · subst h5; exact ⟨rfl,rfl⟩
 by_cases h6:op=6
 · subst h6; exact ⟨rfl,rfl⟩
 by_cases h7:op=7
 · subst h7; exact ⟨rfl,rfl⟩
 by_cases h8:op=8
 · subst h8; exact ⟨rfl,rfl⟩
 by_cases h9:op=9
 · subst h9; exact ⟨rfl,rfl⟩
 by_cases eX:op=10
 · subst eX; exact ⟨rfl,rfl⟩
 by_cases qu:op=11
 · subst qu; exact ⟨rfl,rfl⟩
 by_cases qy:op=12
 · subst qy; exact ⟨rfl,rfl⟩
 by_cases jh:op=13
 · subst jh; exact ⟨rfl,rfl⟩
 by_cases kD:op=14
 · subst kD; exact ⟨rfl,rfl⟩
 by_cases JR:op=15
 · subst JR; exact ⟨rfl,rfl⟩
 have hn:dH op=none:=by
   unfold dH;rw [if_neg (by omega),if_neg h3,if_neg h4,if_neg h5,if_neg h6,if_neg (by omega)]
 have hf:bP op (gQ 9) 0=none:=by
   show bP op [(1,vS false 0,0),(2,vS false 0,1),(3,vS true 0,2),(4,vS true 1,3),(5,vS true (-1),4),(6,vS false 1,5),(7,vS false 2,6),(8,vS false 2,7),(9,vS false 2,8),(10,vS false 2,9),(11,vS false 2,10),(12,vS false 2,11),(13,vS false 2,12),(14,vS false 2,13),(15,vS false 2,14)] 0=none
   simp [bP,h1,h2,h3,h4,h5,h6,h7,h8,h9,eX,qu,qy,jh,kD,JR]
 rw [eu,o4,hf,hn];exact ⟨O,O⟩
theorem X6 (op:Int):eu op jj (vS false 0)=vS ((bG op).getD (false,0)).1 ((bG op).getD (false,0)).2/\o4 op jj = !(bG op).isNone:=by
 by_cases h1:op=1
 · subst h1; exact ⟨rfl,rfl⟩
 by_cases h2:op=2
 · subst h2; exact ⟨rfl,rfl⟩
 by_cases h3:op=3
 · subst h3; exact ⟨rfl,rfl⟩
 by_cases h4:op=4
 · subst h4; exact ⟨rfl,rfl⟩
 by_cases h5:op=5
 · subst h5; exact ⟨rfl,rfl⟩
 by_cases h6:op=6
 · subst h6; exact ⟨rfl,rfl⟩
 by_cases h7:op=7
 · subst h7; exact ⟨rfl,rfl⟩
 have hn:bG op=none:=by
   unfold bG;rw [if_neg h1,if_neg h2,if_neg h3,if_neg (by omega)]
 have hf:bP op jj 0=none:=by simp [jj,bP,h1,h2,h3,h4,h5,h6,h7]
 rw [eu,o4,hf,hn];exact ⟨O,O⟩
theorem X7:∀a b:List Tx,aE (a++b)=aE a+aE b
 | [],b=>by apply aC.ext'<;>simp [aC.zl,aC.zm,aC.zo,aE,c0]
 | x::a,b=>by
   rw [List.cons_append,show ∀q,aE (x::q)=cA (!gN x)+aE q from λ_=>rfl,X7 a b,show ∀q,aE (x::q)=cA (!gN x)+aE q from λ_=>rfl,aC.gC]
theorem ahN (s:Tx):aE [s]=cA (!gN s):=rfl
theorem ahO {l:List Tx} {i:Nat} {s:Tx} (h:l[i]? = some s):aE (l.take (i+1))=aE (l.take i)+cA (!gN s):=by rw [mA h,X7,ahN]
theorem CO (c:aC):c+c0=c:=rfl
theorem ahP (c:aC):c.f<=c.bl:=by unfold aC.bl; omega
theorem ahQ (c:aC):c.m<=c.bl:=by unfold aC.bl; omega
theorem ahR (c:aC):c.k<=c.bl:=by unfold aC.bl; omega
theorem dm:fk Tryz.prog 22 9 (st []) 1 16:=iw (by kernel_rfl)
theorem dA:dQ Tryz.prog 22=some 1:=by kernel_rfl
theorem cO:dV Tryz.prog 9=true:=by kernel_rfl
theorem ahS:Enters Tryz.prog 192:=enters_of Tryz.func192 (by kernel_rfl) rfl
theorem ahT:Enters Tryz.prog 181:=enters_of Tryz.func181 (by kernel_rfl) rfl
theorem ahU:Enters Tryz.prog 180:=enters_of Tryz.func180 (by kernel_rfl) rfl
theorem kF:Tryz.prog.underlying 3=some (.int .i64):=by kernel_rfl
theorem oC:fh Tryz.prog 282=some [(0,1),(1,1)]:=by kernel_rfl
theorem ll:zeroOf Tryz.prog 282=some (.agg #[.bool false,.int .i64 0]):=by kernel_rfl
theorem mB:Tryz.prog.underlying 264=some (.map 3 282):=by kernel_rfl
theorem mixed:Tryz.prog.follows .mixedOrders=true:=by kernel_rfl
theorem zP:aZ Tryz.prog 268 0=some 0:=by kernel_rfl
theorem zQ:zf Tryz.prog 266=some (10,1):=by kernel_rfl
theorem aj:dV Tryz.prog 3=true:=by kernel_rfl
theorem bZ:cG Tryz.prog 3=some 1:=by kernel_rfl
theorem ahV (w:World) :
   Calls Tryz.prog 181 #[] w λe w'=>∃r:Option Addr×Nat,e = .returned (.slice r.1 xA.length r.2)/\Ext w w'/\Sl rdStr 1 (nv w w') r.1 r.2 xA:=by
 refine enter Tryz.func181 O 2 O O ?_;refine CE (Vs:=[]) (Ws.init (by simp)) (Cs (Cr (V0 (Ya O) (Ln (Et (Cs (Cr ?_)))))));refine Lb Y O dm O O O O λb1=>?_;refine V0 (Ya O) (Ln (Et (aw ?_)));refine WE.dM (gA O (hY O)) λw' hw=>?_
 exact ⟨(some ⟨b1,0,none⟩,15),O,hw.fr,⟨show xA.length<=15 by decide,show 15<=9223372036854775807 by decide,by simp,λj x hj=>⟨b1,0,O,λk v hk=>hw.Uh 0 O (by
     have:k<1:=(List.getElem?_eq_some_iff.1 hk).1
     show (xA.flatMap dJ)[0+j*1+k]? = some v
     rw [Nat.zero_add,pY lK hj this]; exact hk)⟩⟩⟩
theorem ahW (H:View) (a:Option Addr) (c:Nat) (l:List Tx) (s:Tx) (w:World) (hH:Le H w) (hm:Sl rdStr 1 H a c l) :
   Calls Tryz.prog 192 #[.slice a l.length c,st s] w λe w'=>(∃n:Int,e = .returned (.int .i64 n)/\decide (0<=n)=l.contains s)/\Ext w w':=by
 have dN:=hm.cap;have ek:=hm.max;refine enter Tryz.func192 O 19 O O ?_;refine CE (Vs:=[H]) (Ws.init (by simp [hH])) (Cs (Cr (V0 (Ya O) (Ln (Et (Cs (Cs (Cr (V0 (Ym O) (V0 (Yn dA O) (V0 (Ym O) (Ln (Et (Cb ?_))))))))))))));refine CW (ι:=Nat) (λi=>[(8,.int .i64 (i:Int))]) [(0,_),(1,_),(7,_)] (λi=>i<=l.length/\∀j,j<i->l[j]?≠some s) (λi=>l.length-i) 0 ⟨Nat.zero_le _,by simp⟩ (sc O (sc O (sc O (sc O sn)))) ?_;intro i ⟨hi,bN⟩;refine Cs (Cr (V0 (a_ O O) (Ln (Et (Cs ?_)))));refine Cc O (λad=>?_) (λad=>?_)
 ·have av:i<l.length:=by simpa using ad
  obtain ⟨x,bu⟩:∃x,l[i]? = some x:=⟨_,List.getElem?_eq_getElem av⟩;obtain ⟨e9,e_,ha,bQ⟩:=hm.aO i x bu;have bQ:aP H e9 (e_+i*1) (dJ x):=bQ;refine Ck (Et (Cs (Cb (Cs (Cr (V0 (Ym O) (V0 (Ya O) (Ln (Et (Cs (Cr (V0 (Ym O) (V0 (Ym O) (V0 (Ym O) (V0 (Yo dA O O (by assumption) (by omega)) ?_)))))))))))))));refine V0 (bL 0 cO O O (bQ 0 _ O)) (V0 (yW O O) (Ln (Et ?_)));refine Cc O (λaq=>?_) (λaq=>?_)
  ·have heq:s=x:=by simpa using aq
   refine Cs (Cr (V0 (Ym O) (V0 (Ya O) (Ln (Et (aw (bt (Er (Er (bt (Er ?_)))))))))));refine R1 O O λw' hw=>?_;refine ⟨⟨_,O,?_⟩,hw.fr⟩;rw [decide_eq_true (by omega),List.contains_iff_mem.2 (by rw [heq]; exact List.mem_of_getElem? bu)]
  have dB:¬s=x:=by simpa using aq
  refine Ck (Eb (Et (Cr (V0 (Yi O O O (by omega)) (V0 (Ym O) (Ln ?_))))));exact Ea (i+1) (by omega) ⟨by omega,λj hj=>by rcases Nat.lt_succ_iff_lt_or_eq.1 hj with h | rfl; exact bN j h; rw [bu]; intro e; injection e with e; exact dB e.symm⟩ (sc rfl (sc rfl (sc rfl (sc rfl sn)))) (λ_ h=>h)
 have cC:¬i<l.length:=by simpa using ad
 have dW:l.contains s=false:=by
   rw [Bool.eq_false_iff];intro h;rw [List.contains_iff_mem] at h;obtain ⟨j,hj⟩:=List.getElem?_of_mem h;exact bN j (by have:=(List.getElem?_eq_some_iff.1 hj).1; omega) hj
 refine Ce (Ex (Ex (bK (Et (Cs (Cr (V0 (Ya O) (Ln (Et (aw ?_))))))))));refine R1 O O λw' hw=>?_;refine ⟨⟨_,O,?_⟩,hw.fr⟩;rw [dW]; rfl
theorem ahX (H:View) (a:Option Addr) (c:Nat) (l:List Tx) (s:Tx) (w:World) (hH:Le H w) (hm:Sl rdStr 1 H a c l) :
   Calls Tryz.prog 180 #[.slice a l.length c,st s] w λe w'=>e = .returned (.bool (l.contains s))/\Ext w w':=by
 refine enter Tryz.func180 O 9 O O ?_;refine CE (Vs:=[H]) (Ws.init (by simp [hH])) (Cs (Cr (V0 (Ya O) (Ln (Et (Cs (Cr (V0 (Ym O) (V0 (Ym O) ?_)))))))))
 refine Ld Y O ahS O (λn:Int=>.int .i64 n) (λ_ n=>decide (0<=n)=l.contains s) (λw hw=>(ahW H a c l s w (hw.vs _ (by simp)) hm).mono λe w' h=>by
     obtain ⟨⟨n,h1,h2⟩,h3⟩:=h
     exact ⟨n,h1,h3,h2⟩) ?_
 intro F7 n7 hf7 h7;refine V0 (eK O O) (V0 (Ya O) (Ln (Et (aw ?_))));refine R1 O O λw' hw=>?_;exact ⟨by rw [h7],hw.fr⟩
theorem JS (s:Tx) (w:World) :
   Calls Tryz.prog 170 #[st s] w λe w'=>e = .returned (.bool (gN s))/\Ext w w':=by
 refine enter Tryz.func170 O 11 O O ?_;refine CE (Vs:=[]) (Ws.init (by simp)) (Cs (Cr (V0 (Ya O) (Ln (Et (Cs (Cr (V0 (Ym O) (Lp Y O sv O (λw hw=>su _ w) (V0 (Ym O) ?_))))))))));apply La 4 O O O O Y O O O O O
 ·intro cD;refine Ld (.g O O O) O ahT O (λr:Option Addr×Nat=>.slice r.1 xA.length r.2) (λH r=>Sl rdStr 1 H r.1 r.2 xA) (λw hw=>ahV w) ?_;intro F6 r6 hf6 h6;refine Vg (Ym O) (Lp (.g O O O) O ahU O (λw hw=>ahX F6 r6.1 r6.2 xA s w (hw.vs _ (by simp)) h6) (Vg (dw O) ?_));refine WL.wk ?_ (Gt 4 O O O);exact λ_ h=>Ws.bB (h) (λ_ hm=>List.mem_append_right [_] hm)
 refine V0 (Ya O) (Ln (Et (aw ?_)));refine R1 O O λw' hw=>?_;exact ⟨O,hw.fr⟩
theorem ah0 (w:World) :
   Calls Tryz.prog 149 #[] w λe w'=>∃b:Nat,e = .returned (.map (some b))/\Ws w [] [ab b (bz kI (gQ 9) 15)] [] w':=by
 refine enter Tryz.func149 O 19 O O ?_;refine CE (Vs:=[]) (Ws.init (by simp)) (Cs (Cr (V0 (Ya O) (Ln (Et (Cs (Cr ?_)))))));refine WL.tz (λn:Int=>Value.int .i64 n) Y O λb3=>?_;refine V0 (Yb ll oC O O) ?_;refine WL.m_ 0 l9 Y mB kF O O O O ?_;refine V0 (Yb ll oC O O) ?_;refine WL.m_ 0 l9 Y mB kF O O O O ?_;refine V0 (Yb ll oC O O) ?_;refine WL.m_ 0 l9 Y mB kF O O O O ?_;refine V0 (Yb ll oC O O) ?_;refine WL.m_ 0 l9 Y mB kF O O O O ?_;refine V0 (Yb ll oC O O) ?_;refine WL.m_ 0 l9 Y mB kF O O O O ?_;refine V0 (Yb ll oC O O) ?_;refine WL.m_ 0 l9 Y mB kF O O O O ?_;refine V0 (Ym O) (bI 0 (bz kI (gQ 0) (6+0)) O O (V0 (Ya O) (Ln (Et (Cs (Cs (Cr (V0 (Ya O) (Ln (Et (Cb ?_)))))))))));refine ct (ι:=Nat) (λi=>[(2,.int .i64 ((7+i:Nat):Int))]) [(0,_),(1,_)] (λi=>Ws w [] [ab b3 (bz kI (gQ i) (6+i))] []) (λi=>i<=9) (λi=>9-i) 0 (Nat.zero_le _) (sc O (sc O (sc O sn))) (λ_ h=>h) ?_;intro i hi;refine Cs (Cs (Cr (V0 (Ym O) (V0 (gL O O) (Ln (Et ?_))))));refine Cc O (λad=>?_) (λad=>?_)
 ·have av:i<9:=by simp at ad; omega
  refine Ck (Et (Cs (Cb (Cr (V0 (Ym O) (V0 (Ym O) (V0 (Yb ll oC O O) ?_)))))));refine WL.xy 0 l9 Y mB kF O O O O ?_;refine Ln (Eb (Et (Cr (V0 (Ym O) (V0 (IV (((7+i:Nat):Int)+1) O O O (by omega)) (V0 (Ya O) (Ln ?_)))))));rw [show (((7+i:Nat):Int)+1)=((7+(i+1):Nat):Int) by omega]
  exact Ea (i+1) (by omega) (by omega) (sc O (sc O (sc O sn))) (λ_ h=>by
    have h:=Ws.p6 h 0 rfl (congrArg (ab b3) (ahM i av))
    exact h)
 have nz:i=9:=by simp at ad; omega
 subst nz;refine Ce (Ex (Ex (bK (Et (Cs (Cr (V0 (Ym O) (V0 (Ya O) (Ln (Et (aw ?_)))))))))));refine WE.dM (gA O (hY O)) λw' hw=>?_;exact ⟨b3,O,hw⟩
theorem ah1 (w:World) :
   Calls Tryz.prog 150 #[] w λe w'=>∃b:Nat,e = .returned (.map (some b))/\Ws w [] [ab b (bz kI jj 7)] [] w':=by
 refine enter Tryz.func150 O 10 O O ?_;refine CE (Vs:=[]) (Ws.init (by simp)) (Cs (Cr (V0 (Ya O) (Ln (Et (Cs (Cr ?_)))))));refine WL.tz (λn:Int=>Value.int .i64 n) Y O λb1=>?_;refine V0 (Yb ll oC O O) ?_;refine WL.m_ 0 l9 Y mB kF O O O O ?_;refine V0 (Yb ll oC O O) ?_;refine WL.m_ 0 l9 Y mB kF O O O O ?_;refine V0 (Yb ll oC O O) ?_;refine WL.m_ 0 l9 Y mB kF O O O O ?_;refine V0 (Yb ll oC O O) ?_;refine WL.m_ 0 l9 Y mB kF O O O O ?_;refine V0 (Yb ll oC O O) ?_;refine WL.m_ 0 l9 Y mB kF O O O O ?_;refine V0 (Yb ll oC O O) ?_;refine WL.m_ 0 l9 Y mB kF O O O O ?_;refine V0 (Yb ll oC O O) ?_;refine WL.m_ 0 l9 Y mB kF O O O O ?_;refine V0 (Ym O) (V0 (Ya O) (Ln (Et (aw ?_))));refine WE.dM (gA O (hY O)) λw' hw=>?_;exact ⟨b1,O,hw⟩
theorem xZ (vb be bs:Nat) (c:aC) (b:Bool) (w:World) (hb:c.bl<=4611686018427387904) (hw:Ws w [vb] [ab vb (.cells #[.int .i64 0,.int .i64 ((c).f:Int),.int .i64 ((c).m:Int),.int .i64 0,.int .i64 ((c).k:Int),.int .i64 0,.int .i64 0,.int .i64 0,.int .i64 0,.int .i64 0,.map (some be),.map (some bs)] 268 (0,0))] [] w) :
   Calls Tryz.prog 152 #[.pointer (some ⟨vb,0,none⟩),.bool b,.int .i64 1] w λe w'=>e = .returned (.tuple #[])/\Ws w [vb] [ab vb (.cells #[.int .i64 0,.int .i64 ((c+cA b).f:Int),.int .i64 ((c+cA b).m:Int),.int .i64 0,.int .i64 ((c+cA b).k:Int),.int .i64 0,.int .i64 0,.int .i64 0,.int .i64 0,.int .i64 0,.map (some be),.map (some bs)] 268 (0,0))] [] w':=by
 have hf:=ahP c;refine enter Tryz.func152 O 17 O O ?_;refine CE hw (Cs (Cr (V0 (Ym O) (Ln (Et ?_)))));refine Cc O (λad=>?_) (λad=>?_)
 ·subst ad;refine WC.nV 0 [(0,true),(1,true),(2,true),(3,true),(4,true),(7,true),(8,true),(5,false),(6,true),(9,true),(10,false)] mixed (by kernel_rfl) (λ_ _ _ d _ h=>by cases d<;>exact h) ?_;refine D0 O (Wp 0) (Ym O) (D0 O (Wp 0) (Ym O) (D0 O (Wp 0) (aQ O) (D0 O (Wp 0) (Yf zP O) (D0 O (Wp 0) (zg (i:=1) zQ O O (by decide)) (D0 O (Wp 0) (aQ O) (D0 O (Wp 0) (Yf zP O) ?_))))));refine De O (Wp 0) ?_;refine V0 (Yd 0 O O O aj) (Ln (Ed (D0 O (Wp 0) (Yi O O O (by omega)) (D0 O (Wp 0) (zg (i:=1) zQ O O (by decide)) ?_))));refine De O (Wp 0) ?_;refine ak 0 Y O O O bZ O O O (Ln (Ed ?_));refine WD.nil (Wp 0) ?_;refine E0 O λw' hw=>?_;exact ⟨O,hw⟩
 subst ad;refine Ck ?_;refine E0 O λw' hw=>?_;exact ⟨O,hw⟩
theorem CP (vb be bs:Nat) (c:aC) (b:Bool) (w:World) (hb:c.bl<=4611686018427387904) (hw:Ws w [vb] [ab vb (.cells #[.int .i64 0,.int .i64 ((c).f:Int),.int .i64 ((c).m:Int),.int .i64 0,.int .i64 ((c).k:Int),.int .i64 0,.int .i64 0,.int .i64 0,.int .i64 0,.int .i64 0,.map (some be),.map (some bs)] 268 (0,0))] [] w) :
   Calls Tryz.prog 152 #[.pointer (some ⟨vb,0,none⟩),.bool b,.int .i64 2] w λe w'=>e = .returned (.tuple #[])/\Ws w [vb] [ab vb (.cells #[.int .i64 0,.int .i64 ((c+bn b).f:Int),.int .i64 ((c+bn b).m:Int),.int .i64 0,.int .i64 ((c+bn b).k:Int),.int .i64 0,.int .i64 0,.int .i64 0,.int .i64 0,.int .i64 0,.map (some be),.map (some bs)] 268 (0,0))] [] w':=by
 have hm:=ahQ c;refine enter Tryz.func152 O 17 O O ?_;refine CE hw (Cs (Cr (V0 (Ym O) (Ln (Et ?_)))));refine Cc O (λad=>?_) (λad=>?_)
 ·subst ad;refine WC.nV 0 [(0,true),(1,true),(2,true),(3,true),(4,true),(7,true),(8,true),(5,false),(6,true),(9,true),(10,false)] mixed (by kernel_rfl) (λ_ _ _ d _ h=>by cases d<;>exact h) ?_;refine D0 O (Wp 0) (Ym O) (D0 O (Wp 0) (Ym O) (D0 O (Wp 0) (aQ O) (D0 O (Wp 0) (Yf zP O) (D0 O (Wp 0) (zg (i:=2) zQ O O (by decide)) (D0 O (Wp 0) (aQ O) (D0 O (Wp 0) (Yf zP O) ?_))))));refine De O (Wp 0) ?_;refine V0 (Yd 0 O O O aj) (Ln (Ed (D0 O (Wp 0) (Yi O O O (by omega)) (D0 O (Wp 0) (zg (i:=2) zQ O O (by decide)) ?_))));refine De O (Wp 0) ?_;refine ak 0 Y O O O bZ O O O (Ln (Ed ?_));refine WD.nil (Wp 0) ?_;refine E0 O λw' hw=>?_;exact ⟨O,hw⟩
 subst ad;refine Ck ?_;refine E0 O λw' hw=>?_;exact ⟨O,hw⟩
theorem Ph (vb be bs:Nat) (c:aC) (b:Bool) (w:World) (hb:c.bl<=4611686018427387904) (hw:Ws w [vb] [ab vb (.cells #[.int .i64 0,.int .i64 ((c).f:Int),.int .i64 ((c).m:Int),.int .i64 0,.int .i64 ((c).k:Int),.int .i64 0,.int .i64 0,.int .i64 0,.int .i64 0,.int .i64 0,.map (some be),.map (some bs)] 268 (0,0))] [] w) :
   Calls Tryz.prog 152 #[.pointer (some ⟨vb,0,none⟩),.bool b,.int .i64 4] w λe w'=>e = .returned (.tuple #[])/\Ws w [vb] [ab vb (.cells #[.int .i64 0,.int .i64 ((c+cN b).f:Int),.int .i64 ((c+cN b).m:Int),.int .i64 0,.int .i64 ((c+cN b).k:Int),.int .i64 0,.int .i64 0,.int .i64 0,.int .i64 0,.int .i64 0,.map (some be),.map (some bs)] 268 (0,0))] [] w':=by
 have hk:=ahR c;refine enter Tryz.func152 O 17 O O ?_;refine CE hw (Cs (Cr (V0 (Ym O) (Ln (Et ?_)))));refine Cc O (λad=>?_) (λad=>?_)
 ·subst ad;refine WC.nV 0 [(0,true),(1,true),(2,true),(3,true),(4,true),(7,true),(8,true),(5,false),(6,true),(9,true),(10,false)] mixed (by kernel_rfl) (λ_ _ _ d _ h=>by cases d<;>exact h) ?_;refine D0 O (Wp 0) (Ym O) (D0 O (Wp 0) (Ym O) (D0 O (Wp 0) (aQ O) (D0 O (Wp 0) (Yf zP O) (D0 O (Wp 0) (zg (i:=4) zQ O O (by decide)) (D0 O (Wp 0) (aQ O) (D0 O (Wp 0) (Yf zP O) ?_))))));refine De O (Wp 0) ?_;refine V0 (Yd 0 O O O aj) (Ln (Ed (D0 O (Wp 0) (Yi O O O (by omega)) (D0 O (Wp 0) (zg (i:=4) zQ O O (by decide)) ?_))));refine De O (Wp 0) ?_;refine ak 0 Y O O O bZ O O O (Ln (Ed ?_));refine WD.nil (Wp 0) ?_;refine E0 O λw' hw=>?_;exact ⟨O,hw⟩
 subst ad;refine Ck ?_;refine E0 O λw' hw=>?_;exact ⟨O,hw⟩
end Go.Proofs.YtplfmnkmlaolpaaGreatDoor
end
