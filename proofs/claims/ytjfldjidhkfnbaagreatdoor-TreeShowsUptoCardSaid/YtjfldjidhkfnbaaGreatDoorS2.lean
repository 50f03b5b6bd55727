/- tree.Show answers as the document says, errors too, for modules whose bulk is at most 1048576 (the second form, over the tied card). -/
import Derived.Lib.AtoiErrMem
import Derived.Shelf.LaysC
import Derived.Shelf.LaysM
import Derived.Shelf.Small.Strs
import Derived.Shelf.Strconv.Atoi
import Derived.Shelf.Strconv.AtoiAll
import Derived.Shelf.Strconv.AtoiErrFast
import Derived.Shelf.Strconv.AtoiFail
import Derived.Shelf.Strconv.AtoiInnerAll
import Derived.Shelf.Strconv.AtoiLong
import Derived.Shelf.Strconv.Clone
import Derived.Shelf.Strconv.Itoa0
import Derived.Shelf.Strconv.Itoa1
import Derived.Shelf.Strconv.Itoa2
import Derived.Shelf.Strconv.Itoa3
import Derived.Shelf.Strconv.Lower
import Derived.Shelf.Strconv.ParseInt10
import Derived.Shelf.Strconv.ParseIntEmpty
import Derived.Shelf.Strconv.ParseUint10
import Derived.Shelf.Strconv.ParseUint10Any
import Derived.Shelf.Strconv.ParseUint10Empty
import Derived.Shelf.Strconv.RangeError
import Derived.Shelf.Strconv.SyntaxError
import Derived.Shelf.Strconv.ToError
import Derived.Shelf.Strconv.ToErrorRange
import Derived.Shelf.Strings.Search1
import Derived.Test.YtjfldjidhkfnbaaGreatDoorProg
import Derived.Test.YtjfldjidhkfnbaaGreatDoorRows
import Derived.Test.YtjfldjidhkfnbaaGreatDoorS1
set_option linter.unusedVariables false
set_option linter.unusedSimpArgs false
section
namespace Go.Bw
open Go Go.RowKit
open Go.ChangeShapes Go.WideShapes Go.ChangeAt Go.RowKit Go.Joins Go.Deep
structure Bulk (H:Type) where
 B:DataW H→Nat
 BA:List (DataW H)→Nat
 str:∀l:List UInt8,B (.lit (.string l))=l.length+1
 agg:∀l,B (.agg l)=BA l+1
 sl:∀l r,BA l+1≤B (.slice l r)
 nil:BA []=0
 cons:∀d r,BA (d::r)=B d+BA r
theorem Bulk.at_ {H:Type} (K:Bulk H) {l:List (DataW H)}:∀{i:Nat} {d:DataW H},l[i]? = some d→K.B d≤K.BA l:=by
 induction l with
 | nil=>intro i d h; cases h
 | cons y r ih=>
   intro i d h
   rw [K.cons]
   cases i with
   | zero=>simp at h; subst h; omega
   | succ i=>have:=ih (i:=i) (by simpa using h); omega
section
variable {P:Program} {H:Type} {enc:TypeId×Value→H} {w:World} {base:Nat} {spare:Nat→Bool} {held:Bool} (K:Bulk H)
theorem fields_x {t:TypeId} {fs:Array Field} {fuel:Nat} {cs:List Value} {x:DataW H×List MemPlace} (hu:P.underlying t=some (.struct fs)) (hr:(inRow P 0 fs.toList&&Nat.beq (P.cellsOf t) fs.size)=true) (h:DataW.trod enc P w base spare held fuel t cs=some x) :
   cs.length=fs.size∧∃(ys:List (DataW H×List MemPlace)) (n:Nat),fuel=n+1∧x.1 = .agg (ys.map (·.1))∧ys.length=fs.size∧∀(j:Nat) (f:Field),fs[j]? = some f→∃v y,cs[j]? = some v∧ys[j]? = some y∧DataW.trod enc P w base spare held n f.type [v]=some y:=by
 simp only [Bool.and_eq_true] at hr
 obtain ⟨ys,n,hn,hx,hlen,hyl,hf⟩:=DataW.trod_struct hu h
 have hl:cs.length=fs.size:=hlen.trans (Nat.eq_of_beq_eq_true hr.2)
 refine ⟨hl,ys,n,hn,by rw [hx],hyl,fun j f hj=>?_⟩
 have hlt:j<fs.size:=(Array.getElem?_eq_some_iff.1 hj).1
 obtain ⟨h1,h2⟩:=inRow_get 0 fs.toList j f hr.1 (by simpa using hj)
 have g:=hf j f hj
 have e1:cs[j]? = some cs[j]:=List.getElem?_eq_getElem (by omega)
 have e2:ys[j]? = some ys[j]:=List.getElem?_eq_getElem (by omega)
 rw [h1,h2,Nat.zero_add,e2,List.drop_eq_getElem_cons (by omega)] at g
 exact ⟨_,_,e1,e2,by simpa only [List.take_succ_cons,List.take_zero] using g⟩
theorem str_x {t:TypeId} {fuel:Nat} {v:Value} {x:DataW H×List MemPlace} (hu:P.underlying t=some .string) (h:DataW.trod enc P w base spare held fuel t [v]=some x):∃l:List UInt8,v=st l∧K.B x.1=l.length+1:=by
 obtain ⟨s,e,hx,_⟩:=DataW.trod_string hu h
 injection e with e _
 subst e
 exact ⟨s.data.toList,by simp [st],by rw [hx]; exact K.str _⟩
theorem int_x {t:TypeId} {fuel:Nat} {v:Value} {x:DataW H×List MemPlace} (hu:P.underlying t=some (.int .i64)) (h:DataW.trod enc P w base spare held fuel t [v]=some x):∃k:Int,v = .int .i64 k:=by
 obtain ⟨n,e,_⟩:=DataW.trod_int hu h
 injection e with e _
 exact ⟨n,e⟩
theorem bool_x {t:TypeId} {fuel:Nat} {v:Value} {x:DataW H×List MemPlace} (hu:P.underlying t=some .bool) (h:DataW.trod enc P w base spare held fuel t [v]=some x):∃b,v = .bool b:=by
 obtain ⟨n,e,_⟩:=DataW.trod_bool hu h
 injection e with e _
 exact ⟨n,e⟩
theorem slice_x {α:Type} {rd:View→Nat→Nat→α→Prop} (wt:α→Nat) (ws:List α→Nat) (h0:ws []=0) (h1:∀x r,ws (x::r)=wt x+ws r) {ts e:TypeId} {k fuel:Nat} {v:Value} {x:DataW H×List MemPlace} (hu:P.underlying ts=some (.slice e)) (hc:P.cellsOf e=k) (hk:0<k) (hsp:∀b,spare b=true)
   (helt:∀(n:Nat) (cs':List Value) (y:DataW H×List MemPlace),n<fuel→DataW.trod enc P w base spare held n e cs'=some y→cs'.length=k→∃z:α,(∀b o,RdC (hv w) b o cs'→rd (hv w) b o z)∧wt z≤K.B y.1)
   (h:DataW.trod enc P w base spare held fuel ts [v]=some x):∃(a:Option Addr) (c:Nat) (xs:List α),v = .slice a xs.length c∧Sl rd k (hv w) a c xs∧ws xs≤K.B x.1:=by
 rcases DataW.trod_slice hu h with ⟨e1,_⟩ | ⟨a,len,cap,elems,rest,n,hn,e1,hx,hb,hl,hm,hlen,hel,hspr,_⟩
 · injection e1 with e1 _
   exact ⟨none,0,[],e1,Sl.nil,by rw [h0]; exact Nat.zero_le _⟩
 · injection e1 with e1 _
   have hspot:0<cap→a.spot=none:=by
     intro hcap
     rcases Nat.lt_or_ge 0 len with h2 | h2
     · have g:=hel 0 h2
       obtain ⟨y,hy⟩:∃y,elems[0]? = some y:=⟨_,List.getElem?_eq_getElem (by omega)⟩
       rw [hy] at g
       obtain ⟨cs',hcs,_⟩:=Option.bind_eq_some_iff.1 g
       rw [hc] at hcs
       obtain ⟨_,hl',hat⟩:=World.cells?_some hcs
       obtain ⟨u,hu'⟩:∃u,cs'[0]? = some u:=⟨_,List.getElem?_eq_getElem (by omega)⟩
       have:=hat 0 hk
       rw [hu'] at this
       simpa [Addr.add] using World.cell?_spot this
     · obtain ⟨hr1,hr2⟩:=hspr (hsp _)
       have hl0:len=0:=by omega
       have g:=hr2 0 (by omega)
       rw [hl0] at g
       obtain ⟨y,hy⟩:∃y,rest[0]? = some y:=⟨_,List.getElem?_eq_getElem (by omega)⟩
       rw [hy] at g
       obtain ⟨cs',hcs,_⟩:=Option.bind_eq_some_iff.1 g
       rw [hc] at hcs
       obtain ⟨_,hl',hat⟩:=World.cells?_some hcs
       obtain ⟨u,hu'⟩:∃u,cs'[0]? = some u:=⟨_,List.getElem?_eq_getElem (by omega)⟩
       have:=hat 0 hk
       rw [hu'] at this
       simpa [Addr.add] using World.cell?_spot this
   obtain ⟨xs,hxl,hxs⟩:=exists_list' (fun i (z:α)=>(∀b o,a=⟨b,o,none⟩→rd (hv w) b (o+i*k) z)∧∃y:DataW H×List MemPlace,elems[i]? = some y∧wt z≤K.B y.1) len (fun i hi=>by
     have g:=hel i hi
     obtain ⟨y,hy⟩:∃y,elems[i]? = some y:=⟨_,List.getElem?_eq_getElem (by omega)⟩
     rw [hy] at g
     obtain ⟨cs',hcs,ht⟩:=Option.bind_eq_some_iff.1 g
     rw [hc] at hcs
     obtain ⟨_,hl',hat⟩:=World.cells?_some hcs
     obtain ⟨z,hz1,hz2⟩:=helt n cs' y (by omega) ht hl'
     refine ⟨z,fun b o hab=>hz1 _ _ fun j v hj=>?_,y,hy,hz2⟩
     subst hab
     have hjk:j<k:=by have:=(List.getElem?_eq_some_iff.1 hj).1; omega
     have:=hat j hjk
     rw [hj] at this
     rw [add_none,add_none] at this
     exact vc_of_cell' this)
   have hws:∀(l:List α) (es:List (DataW H×List MemPlace)),l.length=es.length→(∀(i:Nat) (z:α),l[i]? = some z→∃y:DataW H×List MemPlace,es[i]? = some y∧wt z≤K.B y.1)→ws l≤K.BA (es.map (·.1)):=by
     intro l
     induction l with
     | nil=>intro es _ _; rw [h0]; exact Nat.zero_le _
     | cons z l ih=>
       intro es hle hh
       cases es with
       | nil=>cases hle
       | cons y es=>
         obtain ⟨y',hy',hz⟩:=hh 0 z rfl
         simp at hy'; subst hy'
         have:=ih es (by simpa using hle) fun i z' hz'=>by
           obtain ⟨y',hy',hz⟩:=hh (i+1) z' (by simpa using hz')
           exact ⟨y',by simpa using hy',hz⟩
         rw [h1,List.map_cons,K.cons]
         omega
   refine ⟨some a,cap,xs,by rw [e1,hxl],⟨by omega,by unfold maxLen at hm; omega,fun p hp hc0=>by injection hp with hp; subst hp; exact hspot hc0,fun i z hz=>?_⟩,?_⟩
   · have hi:i<len:=by have:=(List.getElem?_eq_some_iff.1 hz).1; omega
     have hsn:=hspot (by omega)
     obtain ⟨b,o,s⟩:=a
     obtain rfl:s=none:=hsn
     exact ⟨b,o,rfl,(hxs i z hz).1 b o rfl⟩
   · have:=hws xs elems (by omega) fun i z hz=>(hxs i z hz).2
     simp only [hx]
     have:=K.sl (elems.map (·.1)) (rest.map (·.1))
     omega
structure ModTy (P:Program) (tE tS tD tP tM tEs tSs tDs tPs tTs:TypeId) (e s d p m:Array Field) (tI tB tT:TypeId):Prop where
 uI:P.underlying tI=some (.int .i64)
 uB:P.underlying tB=some .bool
 uT:P.underlying tT=some .string
 cT:P.cellsOf tT=1
 uE:P.underlying tE=some (.struct e)
 rE:(inRow P 0 e.toList&&Nat.beq (P.cellsOf tE) e.size)=true
 fE:e.map (·.type) = #[tI,tI,tT,tT,tEs]
 uEs:P.underlying tEs=some (.slice tE)
 uS:P.underlying tS=some (.struct s)
 rS:(inRow P 0 s.toList&&Nat.beq (P.cellsOf tS) s.size)=true
 fS:s.map (·.type) = #[tI,tT,tT,tEs,tSs,tSs]
 uSs:P.underlying tSs=some (.slice tS)
 uD:P.underlying tD=some (.struct d)
 rD:(inRow P 0 d.toList&&Nat.beq (P.cellsOf tD) d.size)=true
 fD:d.map (·.type) = #[tI,tT,tB,tI]
 uDs:P.underlying tDs=some (.slice tD)
 uP:P.underlying tP=some (.struct p)
 rP:(inRow P 0 p.toList&&Nat.beq (P.cellsOf tP) p.size)=true
 fP:p.map (·.type) = #[tT,tB,tTs,tTs,tSs]
 uPs:P.underlying tPs=some (.slice tP)
 uTs:P.underlying tTs=some (.slice tT)
 uM:P.underlying tM=some (.struct m)
 rM:(inRow P 0 m.toList&&Nat.beq (P.cellsOf tM) m.size)=true
 fM:m.map (·.type) = #[tT,tTs,tDs,tPs,tSs]
theorem fld_of {fs:Array Field} {ts:Array TypeId} (h:fs.map (·.type)=ts) {j:Nat} {t:TypeId} (ht:ts[j]? = some t):∃f,fs[j]? = some f∧f.type=t:=by
 rw [←h,Array.getElem?_map] at ht
 obtain ⟨f,h1,h2⟩:=Option.map_eq_some_iff.1 ht
 exact ⟨f,h1,h2⟩
variable {tE tS tD tP tM tEs tSs tDs tPs tTs tI tB tT:TypeId} {e s d p m:Array Field}
theorem row_cells {t:TypeId} {fs:Array Field} (hr:(inRow P 0 fs.toList&&Nat.beq (P.cellsOf t) fs.size)=true):P.cellsOf t=fs.size:=by
 simp only [Bool.and_eq_true] at hr
 exact Nat.eq_of_beq_eq_true hr.2
theorem size_of {fs:Array Field} {ts:Array TypeId} (h:fs.map (·.type)=ts):fs.size=ts.size:=by rw [←h]; simp
theorem expr_x (T:ModTy P tE tS tD tP tM tEs tSs tDs tPs tTs e s d p m tI tB tT) (hsp:∀b,spare b=true):∀(fuel:Nat) (cs:List Value) (x:DataW H×List MemPlace),DataW.trod enc P w base spare held fuel tE cs=some x→∃(y:TExpr) (a:Option Addr) (c:Nat),cs=exprV y a c∧Sl (RdE fuel) 5 (hv w) a c y.args∧wE y≤K.B x.1:=by
 intro fuel
 induction fuel using Nat.strongRecOn with
 | _ fuel ih=>
 intro cs x h
 obtain ⟨hl,ys,n,hn,hx,hyl,hf⟩:=fields_x T.uE T.rE h
 have hsz:=size_of T.fE
 simp at hsz
 obtain ⟨f0,g0,q0⟩:=fld_of T.fE (j:=0) rfl
 obtain ⟨f1,g1,q1⟩:=fld_of T.fE (j:=1) rfl
 obtain ⟨f2,g2,q2⟩:=fld_of T.fE (j:=2) rfl
 obtain ⟨f3,g3,q3⟩:=fld_of T.fE (j:=3) rfl
 obtain ⟨f4,g4,q4⟩:=fld_of T.fE (j:=4) rfl
 obtain ⟨v0,y0,i0,j0,t0⟩:=hf 0 f0 g0
 obtain ⟨v1,y1,i1,j1,t1⟩:=hf 1 f1 g1
 obtain ⟨v2,y2,i2,j2,t2⟩:=hf 2 f2 g2
 obtain ⟨v3,y3,i3,j3,t3⟩:=hf 3 f3 g3
 obtain ⟨v4,y4,i4,j4,t4⟩:=hf 4 f4 g4
 rw [q0] at t0; rw [q1] at t1; rw [q2] at t2; rw [q3] at t3; rw [q4] at t4
 obtain ⟨op,rfl⟩:=int_x T.uI t0
 obtain ⟨nn,rfl⟩:=int_x T.uI t1
 obtain ⟨mod,rfl,b2⟩:=str_x K T.uT t2
 obtain ⟨nm,rfl,b3⟩:=str_x K T.uT t3
 obtain ⟨a,c,args,rfl,hsl,hw⟩:=slice_x (rd:=RdE fuel) K wE wEs rfl (fun _ _=>rfl) T.uEs ((row_cells T.rE).trans hsz) (by omega) hsp (fun n' cs' y hn' ht _=>by
   obtain ⟨z,a,c,rfl,hs,hz⟩:=ih n' (by omega) cs' y ht
   refine ⟨z,fun b o hr=>?_,hz⟩
   obtain ⟨k,rfl⟩:∃k,fuel=k+1:=⟨fuel-1,by omega⟩
   exact ⟨a,c,hr,hs.imp fun b o y hy=>RdE_mono (VLe.refl _) (by omega) b o y hy⟩) t4
 refine ⟨TExpr.mk op nn mod nm args,a,c,?_,hsl,?_⟩
 · match cs,hl.trans hsz with
   | [c0,c1,c2,c3,c4],_=>
     simp at i0 i1 i2 i3 i4
     subst i0 i1 i2 i3 i4
     rfl
 · match ys,hyl.trans hsz with
   | [d0,d1,d2,d3,d4],_=>
     simp at j0 j1 j2 j3 j4
     subst j0 j1 j2 j3 j4
     rw [hx]
     simp only [List.map_cons,List.map_nil,K.agg,K.cons,K.nil,wE]
     omega
theorem stmt_x (T:ModTy P tE tS tD tP tM tEs tSs tDs tPs tTs e s d p m tI tB tT) (hsp:∀b,spare b=true):∀(fuel:Nat) (cs:List Value) (x:DataW H×List MemPlace),DataW.trod enc P w base spare held fuel tS cs=some x→∃(y:TStmt) (a1:Option Addr) (c1:Nat) (a2:Option Addr) (c2:Nat) (a3:Option Addr) (c3:Nat),cs=stmtV y a1 c1 a2 c2 a3 c3∧Sl (RdE fuel) 5 (hv w) a1 c1 y.args∧Sl (RdS fuel fuel) 6 (hv w) a2 c2 y.body∧Sl (RdS fuel fuel) 6 (hv w) a3 c3 y.other∧wS y≤K.B x.1:=by
 intro fuel
 induction fuel using Nat.strongRecOn with
 | _ fuel ih=>
 intro cs x h
 obtain ⟨hl,ys,n,hn,hx,hyl,hf⟩:=fields_x T.uS T.rS h
 have hsz:=size_of T.fS
 simp at hsz
 have hszE:=size_of T.fE
 simp at hszE
 obtain ⟨f0,g0,q0⟩:=fld_of T.fS (j:=0) rfl
 obtain ⟨f1,g1,q1⟩:=fld_of T.fS (j:=1) rfl
 obtain ⟨f2,g2,q2⟩:=fld_of T.fS (j:=2) rfl
 obtain ⟨f3,g3,q3⟩:=fld_of T.fS (j:=3) rfl
 obtain ⟨f4,g4,q4⟩:=fld_of T.fS (j:=4) rfl
 obtain ⟨f5,g5,q5⟩:=fld_of T.fS (j:=5) rfl
 obtain ⟨v0,y0,i0,j0,t0⟩:=hf 0 f0 g0
 obtain ⟨v1,y1,i1,j1,t1⟩:=hf 1 f1 g1
 obtain ⟨v2,y2,i2,j2,t2⟩:=hf 2 f2 g2
 obtain ⟨v3,y3,i3,j3,t3⟩:=hf 3 f3 g3
 obtain ⟨v4,y4,i4,j4,t4⟩:=hf 4 f4 g4
 obtain ⟨v5,y5,i5,j5,t5⟩:=hf 5 f5 g5
 rw [q0] at t0; rw [q1] at t1; rw [q2] at t2; rw [q3] at t3; rw [q4] at t4; rw [q5] at t5
 have hS:∀n' (cs':List Value) (y:DataW H×List MemPlace),n'<n→DataW.trod enc P w base spare held n' tS cs'=some y→cs'.length=6→∃z:TStmt,(∀b o,RdC (hv w) b o cs'→RdS fuel fuel (hv w) b o z)∧wS z≤K.B y.1:=fun n' cs' y hn' ht _=>by
   obtain ⟨z,a1,c1,a2,c2,a3,c3,rfl,h1,h2,h3,hz⟩:=ih n' (by omega) cs' y ht
   refine ⟨z,fun b o hr=>?_,hz⟩
   obtain ⟨k,rfl⟩:∃k,fuel=k+1:=⟨fuel-1,by omega⟩
   exact ⟨a1,c1,a2,c2,a3,c3,hr,h1.imp fun b o y hy=>RdE_mono (VLe.refl _) (by omega) b o y hy,h2.imp fun b o y hy=>RdS_mono (VLe.refl _) (by omega) (by omega) b o y hy,h3.imp fun b o y hy=>RdS_mono (VLe.refl _) (by omega) (by omega) b o y hy⟩
 obtain ⟨op,rfl⟩:=int_x T.uI t0
 obtain ⟨mod,rfl,b2⟩:=str_x K T.uT t1
 obtain ⟨nm,rfl,b3⟩:=str_x K T.uT t2
 obtain ⟨a1,c1,args,rfl,hs1,w1⟩:=slice_x (rd:=RdE fuel) K wE wEs rfl (fun _ _=>rfl) T.uEs ((row_cells T.rE).trans hszE) (by omega) hsp (fun n' cs' y hn' ht _=>by
   obtain ⟨z,a,c,rfl,hs,hz⟩:=expr_x K T hsp n' cs' y ht
   refine ⟨z,fun b o hr=>?_,hz⟩
   obtain ⟨k,rfl⟩:∃k,fuel=k+1:=⟨fuel-1,by omega⟩
   exact ⟨a,c,hr,hs.imp fun b o y hy=>RdE_mono (VLe.refl _) (by omega) b o y hy⟩) t3
 obtain ⟨a2,c2,body,rfl,hs2,w2⟩:=slice_x (rd:=RdS fuel fuel) K wS wSs rfl (fun _ _=>rfl) T.uSs ((row_cells T.rS).trans hsz) (by omega) hsp hS t4
 obtain ⟨a3,c3,other,rfl,hs3,w3⟩:=slice_x (rd:=RdS fuel fuel) K wS wSs rfl (fun _ _=>rfl) T.uSs ((row_cells T.rS).trans hsz) (by omega) hsp hS t5
 refine ⟨TStmt.mk op mod nm args body other,a1,c1,a2,c2,a3,c3,?_,hs1,hs2,hs3,?_⟩
 · match cs,hl.trans hsz with
   | [c0,c1,c2,c3,c4,c5],_=>
     simp at i0 i1 i2 i3 i4 i5
     subst i0 i1 i2 i3 i4 i5
     rfl
 · match ys,hyl.trans hsz with
   | [d0,d1,d2,d3,d4,d5],_=>
     simp at j0 j1 j2 j3 j4 j5
     subst j0 j1 j2 j3 j4 j5
     rw [hx]
     simp only [List.map_cons,List.map_nil,K.agg,K.cons,K.nil,wS]
     omega
theorem block_x (T:ModTy P tE tS tD tP tM tEs tSs tDs tPs tTs e s d p m tI tB tT) (hsp:∀b,spare b=true) {fuel:Nat} {v:Value} {x:DataW H×List MemPlace} (h:DataW.trod enc P w base spare held fuel tSs [v]=some x):∃(a:Option Addr) (c:Nat) (l:List TStmt),v = .slice a l.length c∧Sl (RdS fuel fuel) 6 (hv w) a c l∧wSs l≤K.B x.1:=by
 have hsz:=size_of T.fS
 simp at hsz
 refine slice_x (rd:=RdS fuel fuel) K wS wSs rfl (fun _ _=>rfl) T.uSs ((row_cells T.rS).trans hsz) (by omega) hsp (fun n' cs' y hn' ht _=>?_) h
 obtain ⟨z,a1,c1,a2,c2,a3,c3,rfl,h1,h2,h3,hz⟩:=stmt_x K T hsp n' cs' y ht
 refine ⟨z,fun b o hr=>?_,hz⟩
 obtain ⟨k,rfl⟩:∃k,fuel=k+1:=⟨fuel-1,by omega⟩
 exact ⟨a1,c1,a2,c2,a3,c3,hr,h1.imp fun b o y hy=>RdE_mono (VLe.refl _) (by omega) b o y hy,h2.imp fun b o y hy=>RdS_mono (VLe.refl _) (by omega) (by omega) b o y hy,h3.imp fun b o y hy=>RdS_mono (VLe.refl _) (by omega) (by omega) b o y hy⟩
theorem texts_x (T:ModTy P tE tS tD tP tM tEs tSs tDs tPs tTs e s d p m tI tB tT) (hsp:∀b,spare b=true) {fuel:Nat} {v:Value} {x:DataW H×List MemPlace} (h:DataW.trod enc P w base spare held fuel tTs [v]=some x):∃(a:Option Addr) (c:Nat) (l:List (List UInt8)),v = .slice a l.length c∧Sl rdStr 1 (hv w) a c l∧wN l≤K.B x.1:=by
 refine slice_x (rd:=rdStr) K (fun s=>1+s.length) wN rfl (fun _ _=>rfl) T.uTs T.cT (by omega) hsp (fun n' cs' y hn' ht hl=>?_) h
 match cs',hl with
 | [u],_=>
   obtain ⟨l,rfl,hb⟩:=str_x K T.uT ht
   exact ⟨l,fun b o hr=>hr,by omega⟩
theorem decl_x (T:ModTy P tE tS tD tP tM tEs tSs tDs tPs tTs e s d p m tI tB tT) {fuel:Nat} {cs:List Value} {x:DataW H×List MemPlace} (h:DataW.trod enc P w base spare held fuel tD cs=some x):∃y:TDecl,cs=y.cells∧1+y.nm.length≤K.B x.1:=by
 obtain ⟨hl,ys,n,hn,hx,hyl,hf⟩:=fields_x T.uD T.rD h
 have hsz:=size_of T.fD
 simp at hsz
 obtain ⟨f0,g0,q0⟩:=fld_of T.fD (j:=0) rfl
 obtain ⟨f1,g1,q1⟩:=fld_of T.fD (j:=1) rfl
 obtain ⟨f2,g2,q2⟩:=fld_of T.fD (j:=2) rfl
 obtain ⟨f3,g3,q3⟩:=fld_of T.fD (j:=3) rfl
 obtain ⟨v0,y0,i0,j0,t0⟩:=hf 0 f0 g0
 obtain ⟨v1,y1,i1,j1,t1⟩:=hf 1 f1 g1
 obtain ⟨v2,y2,i2,j2,t2⟩:=hf 2 f2 g2
 obtain ⟨v3,y3,i3,j3,t3⟩:=hf 3 f3 g3
 rw [q0] at t0; rw [q1] at t1; rw [q2] at t2; rw [q3] at t3
 obtain ⟨kd,rfl⟩:=int_x T.uI t0
 obtain ⟨nm,rfl,b1⟩:=str_x K T.uT t1
 obtain ⟨pb,rfl⟩:=bool_x T.uB t2
 obtain ⟨nn,rfl⟩:=int_x T.uI t3
 refine ⟨⟨kd,nm,pb,nn⟩,?_,?_⟩
 · match cs,hl.trans hsz with
   | [c0,c1,c2,c3],_=>
     simp at i0 i1 i2 i3
     subst i0 i1 i2 i3
     rfl
 · match ys,hyl.trans hsz with
   | [d0,d1,d2,d3],_=>
     simp at j0 j1 j2 j3
     subst j0 j1 j2 j3
     rw [hx]
     simp only [List.map_cons,List.map_nil,K.agg,K.cons,K.nil]
     omega
theorem proc_x (T:ModTy P tE tS tD tP tM tEs tSs tDs tPs tTs e s d p m tI tB tT) (hsp:∀b,spare b=true) {fuel:Nat} {cs:List Value} {x:DataW H×List MemPlace} (h:DataW.trod enc P w base spare held fuel tP cs=some x):∃(y:TProc) (a1:Option Addr) (c1:Nat) (a2:Option Addr) (c2:Nat) (a3:Option Addr) (c3:Nat),cs=procV y a1 c1 a2 c2 a3 c3∧Sl rdStr 1 (hv w) a1 c1 y.params∧Sl rdStr 1 (hv w) a2 c2 y.locs∧Sl (RdS fuel fuel) 6 (hv w) a3 c3 y.body∧1+y.nm.length+wN y.params+wN y.locs+wSs y.body≤K.B x.1:=by
 obtain ⟨hl,ys,n,hn,hx,hyl,hf⟩:=fields_x T.uP T.rP h
 have hsz:=size_of T.fP
 simp at hsz
 obtain ⟨f0,g0,q0⟩:=fld_of T.fP (j:=0) rfl
 obtain ⟨f1,g1,q1⟩:=fld_of T.fP (j:=1) rfl
 obtain ⟨f2,g2,q2⟩:=fld_of T.fP (j:=2) rfl
 obtain ⟨f3,g3,q3⟩:=fld_of T.fP (j:=3) rfl
 obtain ⟨f4,g4,q4⟩:=fld_of T.fP (j:=4) rfl
 obtain ⟨v0,y0,i0,j0,t0⟩:=hf 0 f0 g0
 obtain ⟨v1,y1,i1,j1,t1⟩:=hf 1 f1 g1
 obtain ⟨v2,y2,i2,j2,t2⟩:=hf 2 f2 g2
 obtain ⟨v3,y3,i3,j3,t3⟩:=hf 3 f3 g3
 obtain ⟨v4,y4,i4,j4,t4⟩:=hf 4 f4 g4
 rw [q0] at t0; rw [q1] at t1; rw [q2] at t2; rw [q3] at t3; rw [q4] at t4
 obtain ⟨nm,rfl,b0⟩:=str_x K T.uT t0
 obtain ⟨pb,rfl⟩:=bool_x T.uB t1
 obtain ⟨a1,c1,ps,rfl,h1,w1⟩:=texts_x K T hsp t2
 obtain ⟨a2,c2,ls,rfl,h2,w2⟩:=texts_x K T hsp t3
 obtain ⟨a3,c3,bd,rfl,h3,w3⟩:=block_x K T hsp t4
 refine ⟨⟨nm,pb,ps,ls,bd⟩,a1,c1,a2,c2,a3,c3,?_,h1,h2,h3.imp fun b o y hy=>RdS_mono (VLe.refl _) (by omega) (by omega) b o y hy,?_⟩
 · match cs,hl.trans hsz with
   | [c0,c1,c2,c3,c4],_=>
     simp at i0 i1 i2 i3 i4
     subst i0 i1 i2 i3 i4
     rfl
 · match ys,hyl.trans hsz with
   | [d0,d1,d2,d3,d4],_=>
     simp at j0 j1 j2 j3 j4
     subst j0 j1 j2 j3 j4
     rw [hx]
     simp only [List.map_cons,List.map_nil,K.agg,K.cons,K.nil]
     omega
theorem mod_x (T:ModTy P tE tS tD tP tM tEs tSs tDs tPs tTs e s d p m tI tB tT) (hsp:∀b,spare b=true) {fuel:Nat} {cs:List Value} {x:DataW H×List MemPlace} (h:DataW.trod enc P w base spare held fuel tM cs=some x):∃(y:TMod) (r:MAt),cs=modV y r∧RdM fuel fuel (hv w) r y∧wM y≤K.B x.1:=by
 obtain ⟨hl,ys,n,hn,hx,hyl,hf⟩:=fields_x T.uM T.rM h
 have hsz:=size_of T.fM
 simp at hsz
 have hszD:=size_of T.fD
 simp at hszD
 have hszP:=size_of T.fP
 simp at hszP
 obtain ⟨f0,g0,q0⟩:=fld_of T.fM (j:=0) rfl
 obtain ⟨f1,g1,q1⟩:=fld_of T.fM (j:=1) rfl
 obtain ⟨f2,g2,q2⟩:=fld_of T.fM (j:=2) rfl
 obtain ⟨f3,g3,q3⟩:=fld_of T.fM (j:=3) rfl
 obtain ⟨f4,g4,q4⟩:=fld_of T.fM (j:=4) rfl
 obtain ⟨v0,y0,i0,j0,t0⟩:=hf 0 f0 g0
 obtain ⟨v1,y1,i1,j1,t1⟩:=hf 1 f1 g1
 obtain ⟨v2,y2,i2,j2,t2⟩:=hf 2 f2 g2
 obtain ⟨v3,y3,i3,j3,t3⟩:=hf 3 f3 g3
 obtain ⟨v4,y4,i4,j4,t4⟩:=hf 4 f4 g4
 rw [q0] at t0; rw [q1] at t1; rw [q2] at t2; rw [q3] at t3; rw [q4] at t4
 obtain ⟨nm,rfl,b0⟩:=str_x K T.uT t0
 obtain ⟨a1,c1,us,rfl,h1,w1⟩:=texts_x K T hsp t1
 obtain ⟨a2,c2,ds,rfl,h2,w2⟩:=slice_x (rd:=rdDecl) K (fun d=>1+d.nm.length) wD rfl (fun _ _=>rfl) T.uDs ((row_cells T.rD).trans hszD) (by omega) hsp (fun n' cs' y hn' ht _=>by
   obtain ⟨z,rfl,hz⟩:=decl_x K T ht
   exact ⟨z,fun b o hr=>hr,hz⟩) t2
 obtain ⟨a3,c3,ps,rfl,h3,w3⟩:=slice_x (rd:=RdP fuel fuel) K (fun p=>1+p.nm.length+wN p.params+wN p.locs+wSs p.body) wP rfl (fun _ _=>rfl) T.uPs ((row_cells T.rP).trans hszP) (by omega) hsp (fun n' cs' y hn' ht _=>by
   obtain ⟨z,a1,c1,a2,c2,a3,c3,rfl,h1,h2,h3,hz⟩:=proc_x K T hsp ht
   exact ⟨z,fun b o hr=>⟨a1,c1,a2,c2,a3,c3,hr,h1,h2,h3.imp fun b o y hy=>RdS_mono (VLe.refl _) (by omega) (by omega) b o y hy⟩,hz⟩) t3
 obtain ⟨a4,c4,mn,rfl,h4,w4⟩:=block_x K T hsp t4
 refine ⟨⟨nm,us,ds,ps,mn⟩,⟨a1,c1,a2,c2,a3,c3,a4,c4⟩,?_,⟨h1,h2,h3,h4.imp fun b o y hy=>RdS_mono (VLe.refl _) (by omega) (by omega) b o y hy⟩,?_⟩
 · match cs,hl.trans hsz with
   | [c0,c1,c2,c3,c4],_=>
     simp at i0 i1 i2 i3 i4
     subst i0 i1 i2 i3 i4
     rfl
 · match ys,hyl.trans hsz with
   | [d0,d1,d2,d3,d4],_=>
     simp at j0 j1 j2 j3 j4
     subst j0 j1 j2 j3 j4
     rw [hx]
     simp only [List.map_cons,List.map_nil,K.agg,K.cons,K.nil,wM]
     omega
theorem open_mod (T:ModTy P tE tS tD tP tM tEs tSs tDs tPs tTs e s d p m tI tB tT) (hsp:∀b,spare b=true) {r:Reach} {b0:Nat} {v:Value} {x:DataW H} {pl:List MemPlace} (hval:Value.okWide P w r b0 tM v) (h:DataW.Trod enc P w base spare held tM v x pl) :
   ∃(y:TMod) (q:MAt) (n:Nat),v = .agg (modV y q).toArray∧RdM n n (hv w) q y∧wM y≤K.B x:=by
 obtain ⟨cs,rfl,_⟩:=okWide_agg' T.uM hval
 obtain ⟨fuel,h⟩:=h
 obtain ⟨y,q,h1,h2,h3⟩:=mod_x K T hsp h
 refine ⟨y,q,fuel,?_,h2,h3⟩
 have h4:cs.toList=modV y q:=h1
 rw [←h4]
end
end Go.Bw
end
section
namespace Go.Bw
open Go
set_option linter.unusedVariables false
set_option linter.unusedSimpArgs false
abbrev Tx:=List UInt8
def w_module:List UInt8:=[109,111,100,117,108,101]
def w_use:List UInt8:=[117,115,101]
def w_pub:List UInt8:=[112,117,98]
def w_const:List UInt8:=[99,111,110,115,116]
def w_var:List UInt8:=[118,97,114]
def w_array:List UInt8:=[97,114,114,97,121]
def w_proc:List UInt8:=[112,114,111,99]
def w_local:List UInt8:=[108,111,99,97,108]
def w_main:List UInt8:=[109,97,105,110]
def w_if:List UInt8:=[105,102]
def w_else:List UInt8:=[101,108,115,101]
def w_while:List UInt8:=[119,104,105,108,101]
def w_return:List UInt8:=[114,101,116,117,114,110]
def w_out:List UInt8:=[111,117,116]
def w_in:List UInt8:=[105,110]
def J (l:List Tx):Tx:=Lib.join l [32]
theorem J_one (x:Tx):J [x]=x:=by simp [J,Lib.join,List.intercalate]
theorem J_cons {x:Tx} {l:List Tx} (h:l≠[]):J (x::l)=x++[32]++J l:=by
 cases l with
 | nil=>exact absurd rfl h
 | cons y r=>exact join_cons2 x y r [32]
theorem J_app:∀{a b:List Tx},a≠[]→b≠[]→J (a++b)=J a++[32]++J b
 | [],_,h,_=>absurd rfl h
 | [x],b,_,hb=>by rw [List.singleton_append,J_cons hb,J_one]
 | x::y::r,b,_,hb=>by
   rw [List.cons_append,J_cons (by simp),J_app (a:=y::r) (by simp) hb,J_cons (l:=y::r) (by simp)]
   simp
def refW (mod nm:Tx):List Tx:=if (mod==[])=true then [nm] else [mod,[46],nm]
def opsL:List Tx:=[[38],[124],[43],[45],[42],[47],[37],[61],[60]]
def opW (op:Int):Tx:=(opsL[(op-7).toNat]?).getD []
def commaW:List (List Tx)→List Tx
 | []=>[]
 | [x]=>x
 | x::y::r=>x++[[44]]++commaW (y::r)
def argsW (l:List (List Tx)):List Tx:=[[40]]++commaW l++[[41]]
def at_ (l:List (List Tx)) (i:Nat):List Tx:=(l[i]?).getD []
def exprO (op n:Int) (mod nm:Tx) (A:List (List Tx)):List Tx:=
 if op=1 then [Lib.itoa n] else if op=2 then [w_in] else if op=3 then refW mod nm else if op=4 then refW mod nm++[[91]]++at_ A 0++[[93]] else if op=5 then refW mod nm++argsW A
 else if op=6 then [[33]]++at_ A 0 else [[40]]++at_ A 0++[opW op]++at_ A 1++[[41]]
mutual
def exprW:TExpr→List Tx
 | .mk op n mod nm args=>exprO op n mod nm (exprWs args)
def exprWs:List TExpr→List (List Tx)
 | []=>[]
 | x::r=>exprW x::exprWs r
end
def blkW (l:List Tx):List Tx:=[[123]]++l++[[125]]
def stmtO (op:Int) (mod nm:Tx) (A:List (List Tx)) (b:List Tx) (ol:Nat) (o:List Tx):List Tx:=
 if op=4∨op=5 then [if op=5 then w_while else w_if]++at_ A 0++blkW b++(if 0<ol then [w_else]++blkW o else [])
 else (if op=6 then [w_return]++at_ A 0 else if op=7 then [w_out]++at_ A 0 else if op=3 then refW mod nm++argsW A else if op=1 then refW mod nm++[[61]]++at_ A 0 else if op=2 then refW mod nm++[[91]]++at_ A 0++[[93],[61]]++at_ A 1 else [])++[[59]]
mutual
def stmtW:TStmt→List Tx
 | .mk op mod nm args body other=>stmtO op mod nm (exprWs args) (stmtWs body) other.length (stmtWs other)
def stmtWs:List TStmt→List Tx
 | []=>[]
 | x::r=>stmtW x++stmtWs r
end
def blockW (l:List TStmt):List Tx:=blkW (stmtWs l)
def pubW (b:Bool):List Tx:=if b=true then [w_pub] else []
def useW (u:Tx):List Tx:=[w_use,u,[59]]
def locW (u:Tx):List Tx:=[w_local,u,[59]]
def declO (d:TDecl):List Tx:=if d.kind=1 then [w_const,d.nm,[61],Lib.itoa d.n] else if d.kind=2 then [w_var,d.nm] else if d.kind=3 then [w_array,d.nm,[91],Lib.itoa d.n,[93]] else []
def declW (d:TDecl):List Tx:=pubW d.pub++declO d++[[59]]
def procW (p:TProc):List Tx:=pubW p.pub++[w_proc,p.nm,[40]]++commaW (p.params.map fun s=>[s])++[[41]]++p.locs.flatMap locW++blockW p.body
def modW (m:TMod):List Tx:=[w_module,m.nm,[123]]++m.uses.flatMap useW++m.decls.flatMap declW++m.procs.flatMap procW++[w_main]++blockW m.main++[[125]]
def refT (mod nm:Tx):Tx:=if (mod==[])=true then nm else mod++[32,46,32]++nm
def argsT:List Tx→Tx
 | []=>[]
 | [x]=>[32]++x
 | x::y::r=>[32]++x++[32,44]++argsT (y::r)
def atT (l:List Tx) (i:Nat):Tx:=(l[i]?).getD []
def exprTO (op n:Int) (mod nm:Tx) (A:List Tx):Tx:=
 if op=1 then Lib.itoa n else if op=2 then w_in else if op=3 then refT mod nm else if op=4 then refT mod nm++[32,91,32]++atT A 0++[32,93] else if op=5 then refT mod nm++[32,40]++argsT A++[32,41]
 else if op=6 then [33,32]++atT A 0 else [40,32]++atT A 0++[32]++opW op++[32]++atT A 1++[32,41]
mutual
def exprT:TExpr→Tx
 | .mk op n mod nm args=>exprTO op n mod nm (exprTs args)
def exprTs:List TExpr→List Tx
 | []=>[]
 | x::r=>exprT x::exprTs r
end
def blkT (l:Tx):Tx:=[123,32]++l++[125]
def stmtTO (op:Int) (mod nm:Tx) (A:List Tx) (b:Tx) (ol:Nat) (o:Tx):Tx:=
 if op=1 then refT mod nm++[32,61,32]++atT A 0++[32,59] else if op=2 then refT mod nm++[32,91,32]++atT A 0++[32,93,32,61,32]++atT A 1++[32,59] else if op=3 then refT mod nm++[32,40]++argsT A++[32,41,32,59]
 else if op=4 then (w_if++[32]++atT A 0++[32]++blkT b)++(if 0<ol then [32]++w_else++[32]++blkT o else []) else if op=5 then w_while++[32]++atT A 0++[32]++blkT b
 else if op=6 then w_return++[32]++atT A 0++[32,59] else w_out++[32]++atT A 0++[32,59]
mutual
def stmtT:TStmt→Tx
 | .mk op mod nm args body other=>stmtTO op mod nm (exprTs args) (stmtTs body) other.length (stmtTs other)
def stmtTs:List TStmt→Tx
 | []=>[]
 | x::r=>stmtT x++[32]++stmtTs r
end
def blockT (l:List TStmt):Tx:=blkT (stmtTs l)
theorem tot0 {a b:Cnt} (h:(a+b).tot=0):a.tot=0∧b.tot=0:=by
 rw [Cnt.tot_add] at h; omega
theorem noteF0 {b:Bool} (h:(noteF b).tot=0):b=false:=by cases b; rfl; cases h
theorem noteM0 {b:Bool} (h:(noteM b).tot=0):b=false:=by cases b; rfl; cases h
theorem noteK0 {b:Bool} (h:(noteK b).tot=0):b=false:=by cases b; rfl; cases h
structure OkE (op n:Int) (mod nm:Tx) (args:List TExpr) (d:Nat):Prop where
 deep:d≤6
 kind:1≤op∧op≤15
 name:badName (within_ op 3 5) mod nm=false
 nargs:badArgs (exprArgsT op) args.length=false
 few:args.length≤3
 num:numBad op n=false
 sub:(cntEs args (d+1)).tot=0
theorem okE {op n:Int} {mod nm:Tx} {args:List TExpr} {d:Nat} (h:(cntE (.mk op n mod nm args) d).tot=0):OkE op n mod nm args d:=by
 unfold cntE at h
 split at h
 · cases h
 · rename_i hd
   obtain ⟨h,h4⟩:=tot0 h
   obtain ⟨h,h3⟩:=tot0 h
   obtain ⟨h1,h2⟩:=tot0 h
   have hk:=noteK0 h1
   obtain ⟨e1,e2⟩:=shE_ref hk
   unfold shapeC at h2
   obtain ⟨h2,h5⟩:=tot0 h2
   obtain ⟨h6,h7⟩:=tot0 h2
   rw [shE_kind] at hk
   have hfew:=noteM0 h5
   exact ⟨by omega,by simp [within_] at hk; omega,by rw [←e1]; exact noteF0 h6,by rw [←e2]; exact noteF0 h7,by simp at hfew; omega,noteF0 h3,h4⟩
theorem okEs {x:TExpr} {r:List TExpr} {d:Nat} (h:(cntEs (x::r) d).tot=0):(cntE x d).tot=0∧(cntEs r d).tot=0:=by
 unfold cntEs at h; exact tot0 h
theorem OkE.len1 {op n:Int} {mod nm:Tx} {args:List TExpr} {d:Nat} (h:OkE op n mod nm args d) (ho:op=4∨op=6):args.length=1:=by
 have:=h.nargs
 rcases ho with rfl | rfl<;>simp [badArgs,exprArgsT] at this<;>omega
theorem OkE.len2 {op n:Int} {mod nm:Tx} {args:List TExpr} {d:Nat} (h:OkE op n mod nm args d) (ho:7≤op):args.length=2:=by
 have:=h.nargs
 unfold badArgs exprArgsT at this
 rw [if_neg (by omega),if_neg (by omega),if_neg (by omega)] at this
 simp at this; omega
theorem exprWs_len:∀l:List TExpr,(exprWs l).length=l.length
 | []=>rfl
 | x::r=>by unfold exprWs; simp [exprWs_len r]
theorem refW_ne (mod nm:Tx):refW mod nm≠[]:=by unfold refW; split<;>simp
theorem exprW_ne:∀x:TExpr,exprW x≠[]
 | .mk op n mod nm args=>by
   unfold exprW exprO argsW
   have:=refW_ne mod nm
   repeat' split
   all_goals simp_all
theorem J_ref (mod nm:Tx):J (refW mod nm)=refT mod nm:=by
 unfold refW refT
 split
 · exact J_one nm
 · rw [J_cons (by simp),J_cons (by simp),J_one]; simp
theorem commaW_ne:∀{l:List (List Tx)},l≠[]→(∀x ∈ l,x≠[])→commaW l≠[]
 | [],h,_=>absurd rfl h
 | [x],_,hx=>by simpa [commaW] using hx
 | x::y::r,_,_=>by simp [commaW]
theorem J_comma:∀{l:List (List Tx)},l≠[]→(∀x ∈ l,x≠[])→argsT (l.map J)=[32]++J (commaW l)
 | [],h,_=>absurd rfl h
 | [x],_,_=>rfl
 | x::y::r,_,hx=>by
   have ih:=J_comma (l:=y::r) (by simp) (fun z hz=>hx z (List.mem_cons_of_mem _ hz))
   have hn:=commaW_ne (l:=y::r) (by simp) (fun z hz=>hx z (List.mem_cons_of_mem _ hz))
   show [32]++J x++[32,44]++argsT ((y::r).map J)=[32]++J (x++[[44]]++commaW (y::r))
   rw [ih,J_app (by simp) hn,J_app (hx x (by simp)) (by simp),J_one]
   simp
theorem J_args {l:List (List Tx)} (h:∀x ∈ l,x≠[]):J (argsW l)=[40]++argsT (l.map J)++[32,41]:=by
 unfold argsW
 by_cases hl:l=[]
 · subst hl; rfl
 · have hn:=commaW_ne hl h
   rw [J_app (by simp) (by simp),J_app (by simp) hn,J_one,J_one,J_comma hl h]
   simp
theorem exprWs_ne:∀(l:List TExpr),∀x ∈ exprWs l,x≠[]
 | [],_,h=>by simp [exprWs] at h
 | y::r,x,h=>by
   unfold exprWs at h
   rcases List.mem_cons.1 h with rfl | h
   · exact exprW_ne y
   · exact exprWs_ne r x h
theorem at_map (l:List (List Tx)) (i:Nat) (h:i<l.length):atT (l.map J) i=J (at_ l i):=by
 unfold atT at_
 rw [List.getElem?_map,List.getElem?_eq_getElem h]; rfl
theorem at_ne {l:List TExpr} {i:Nat} (h:i<l.length):at_ (exprWs l) i≠[]:=by
 unfold at_
 rw [List.getElem?_eq_getElem (by rw [exprWs_len]; exact h)]
 exact exprWs_ne l _ (List.getElem_mem _)
theorem exprO_J {op n:Int} {mod nm:Tx} {args:List TExpr} (h1:op=4∨op=6→args.length=1) (h2:7≤op→args.length=2) (hk:1≤op) :
   exprTO op n mod nm ((exprWs args).map J)=J (exprO op n mod nm (exprWs args)):=by
 unfold exprTO exprO
 have hr:=refW_ne mod nm
 split
 · rw [J_one]
 · split
   · rw [J_one]
   · split
     · rw [J_ref]
     · split
       · rename_i h4
         have hl:=h1 (.inl h4)
         have ha:=at_ne (l:=args) (i:=0) (by omega)
         rw [J_app (by simp) (by simp),J_app (by simp) ha,J_app hr (by simp),J_one,J_one,J_ref,at_map _ _ (by rw [exprWs_len]; omega)]
         simp
       · split
         · rw [J_app hr (by simp [argsW]),J_ref,J_args (exprWs_ne args)]
           simp
         · split
           · rename_i h6
             have hl:=h1 (.inr h6)
             have ha:=at_ne (l:=args) (i:=0) (by omega)
             rw [J_app (by simp) ha,J_one,at_map _ _ (by rw [exprWs_len]; omega)]
             simp
           · have hl:=h2 (by omega)
             have ha:=at_ne (l:=args) (i:=0) (by omega)
             have hb:=at_ne (l:=args) (i:=1) (by omega)
             rw [J_app (by simp) (by simp),J_app (by simp) hb,J_app (by simp) (by simp),J_app (by simp) ha,J_one,J_one,J_one,at_map _ _ (by rw [exprWs_len]; omega),at_map _ _ (by rw [exprWs_len]; omega)]
             simp
mutual
theorem exprT_J:∀(x:TExpr) (d:Nat),(cntE x d).tot=0→exprT x=J (exprW x)
 | .mk op n mod nm args,d,h=>by
   have ho:=okE h
   unfold exprT exprW
   rw [exprTs_J args (d+1) ho.sub]
   exact exprO_J ho.len1 ho.len2 ho.kind.1
theorem exprTs_J:∀(l:List TExpr) (d:Nat),(cntEs l d).tot=0→exprTs l=(exprWs l).map J
 | [],_,_=>rfl
 | x::r,d,h=>by
   obtain ⟨h1,h2⟩:=okEs h
   unfold exprTs exprWs
   rw [exprT_J x d h1,exprTs_J r d h2]; rfl
end
structure OkS (op:Int) (mod nm:Tx) (args:List TExpr) (body other:List TStmt) (d:Nat):Prop where
 kind:1≤op∧op≤7
 name:badName (within_ op 1 3) mod nm=false
 nargs:badArgs (stmtArgsT op) args.length=false
 few:args.length≤3
 exprs:(cntEs args 1).tot=0
 form:bodyBad op body.length other.length=false
 body:(inner op||decide (0<body.length))=true→(blkC (d+1) body.length (cntSs body (d+1))).tot=0
 other:0<other.length→(blkC (d+1) other.length (cntSs other (d+1))).tot=0
theorem okS {op:Int} {mod nm:Tx} {args:List TExpr} {body other:List TStmt} {d:Nat} (h:(cntS (.mk op mod nm args body other) d).tot=0):OkS op mod nm args body other d:=by
 unfold cntS at h
 obtain ⟨h,h6⟩:=tot0 h
 obtain ⟨h,h5⟩:=tot0 h
 obtain ⟨h,h4⟩:=tot0 h
 obtain ⟨h,h3⟩:=tot0 h
 obtain ⟨h1,h2⟩:=tot0 h
 have hk:=noteK0 h1
 obtain ⟨e1,e2⟩:=shS_ref hk
 unfold shapeC at h2
 obtain ⟨h2,h7⟩:=tot0 h2
 obtain ⟨h8,h9⟩:=tot0 h2
 rw [shS_kind] at hk
 have hfew:=noteM0 h7
 refine ⟨by simp [within_] at hk; omega,by rw [←e1]; exact noteF0 h8,by rw [←e2]; exact noteF0 h9,by simp at hfew; omega,h3,noteF0 h4,fun hb=>?_,fun hb=>?_⟩
 · rw [if_pos hb] at h5; exact h5
 · rw [if_pos hb] at h6; exact h6
theorem blkC0 {d len:Nat} {c:Cnt} (h:(blkC d len c).tot=0):d≤6∧len≤10∧c.tot=0:=by
 unfold blkC at h
 split at h
 · cases h
 · obtain ⟨h1,h2⟩:=tot0 h
   have:=noteM0 h1
   simp at this
   exact ⟨by omega,by omega,h2⟩
theorem okSs {x:TStmt} {r:List TStmt} {d:Nat} (h:(cntSs (x::r) d).tot=0):(cntS x d).tot=0∧(cntSs r d).tot=0:=by
 unfold cntSs at h; exact tot0 h
theorem OkS.len {op:Int} {mod nm:Tx} {args:List TExpr} {body other:List TStmt} {d:Nat} (h:OkS op mod nm args body other d) (ho:op≠3):args.length=if op=2 then 2 else 1:=by
 have:=h.nargs
 unfold badArgs stmtArgsT at this
 by_cases h2:op=2
 · rw [if_pos h2] at this ⊢; simp at this; omega
 · rw [if_neg h2,if_neg ho] at this; rw [if_neg h2]; simp at this; omega
theorem OkS.noBody {op:Int} {mod nm:Tx} {args:List TExpr} {body other:List TStmt} {d:Nat} (h:OkS op mod nm args body other d):((op≠4∧op≠5)→body=[])∧(op≠4→other=[]):=by
 have:=h.form
 unfold bodyBad inner at this
 rw [Bool.or_eq_false_iff] at this
 refine ⟨fun ⟨a,b⟩=>?_,fun a=>?_⟩
 · have h1:=this.1
   simpa [a,b] using h1
 · have h1:=this.2
   simpa [a] using h1
def Sp (l:List Tx):Tx:=l.flatMap fun w=>w++[32]
theorem Sp_app (a b:List Tx):Sp (a++b)=Sp a++Sp b:=by simp [Sp]
theorem Sp_cons (x:Tx) (b:List Tx):Sp (x::b)=x++[32]++Sp b:=by simp [Sp]
theorem Sp_nil:Sp []=[]:=rfl
theorem J_Sp:∀{l:List Tx},l≠[]→J l++[32]=Sp l
 | [],h=>absurd rfl h
 | [x],_=>by rw [J_one]; simp [Sp]
 | x::y::r,_=>by
   rw [J_cons (by simp),Sp_cons,←J_Sp (l:=y::r) (by simp)]; simp
theorem stmtW_ne:∀x:TStmt,stmtW x≠[]
 | .mk op mod nm args body other=>by
   unfold stmtW stmtO
   split<;>simp
theorem J_blk {l:List Tx} {t:Tx} (h:t=Sp l):blkT t=J (blkW l):=by
 subst h
 unfold blkT blkW
 by_cases hl:l=[]
 · subst hl; rfl
 · rw [J_app (by simp) (by simp),J_app (by simp) hl,J_one,J_one,←J_Sp hl]; simp
theorem blkW_ne (l:List Tx):blkW l≠[]:=by simp [blkW]
theorem stmtO_J {op:Int} {mod nm:Tx} {args:List TExpr} {body other:List TStmt} {d:Nat} (h:OkS op mod nm args body other d) {b o:Tx} (hb:b=Sp (stmtWs body)) (ho:o=Sp (stmtWs other)) :
   stmtTO op mod nm ((exprWs args).map J) b other.length o=J (stmtO op mod nm (exprWs args) (stmtWs body) other.length (stmtWs other)):=by
 have hr:=refW_ne mod nm
 have hk:=h.kind
 have hlen:=exprWs_len args
 unfold stmtTO stmtO
 rcases (by omega:op=1∨op=2∨op=3∨op=4∨op=5∨op=6∨op=7) with rfl | rfl | rfl | rfl | rfl | rfl | rfl
 · have hl:=h.len (by decide)
   have ha:=at_ne (l:=args) (i:=0) (by simp at hl; omega)
   simp only [if_true,if_false,reduceCtorEq,Int.reduceEq,or_self]
   rw [J_app (by simp) (by simp),J_app (by simp) ha,J_app hr (by simp),J_one,J_one,J_ref,at_map _ _ (by simp at hl; omega)]
   simp
 · have hl:=h.len (by decide)
   have ha:=at_ne (l:=args) (i:=0) (by simp at hl; omega)
   have hb:=at_ne (l:=args) (i:=1) (by simp at hl; omega)
   simp only [if_true,if_false,Int.reduceEq,or_self]
   rw [J_app (by simp) (by simp),J_app (by simp) hb,J_app (by simp) (by simp),J_app (by simp) ha,J_app hr (by simp),J_cons (l:=[[61]]) (by simp),J_one,J_one,J_one,J_ref,at_map _ _ (by simp at hl; omega),at_map _ _ (by simp at hl; omega)]
   simp
 · simp only [if_true,if_false,Int.reduceEq,or_self]
   rw [J_app (by simp [argsW]) (by simp),J_app hr (by simp [argsW]),J_one,J_ref,J_args (exprWs_ne args)]
   simp
 · have hl:=h.len (by decide)
   have ha:=at_ne (l:=args) (i:=0) (by simp at hl; omega)
   simp only [if_true,if_false,Int.reduceEq,or_false,true_or]
   by_cases hol:0<other.length
   · rw [if_pos hol,if_pos hol,J_app (by simp [blkW]) (by simp),J_app (by simp) (blkW_ne _),J_app (by simp) (blkW_ne _),J_app (by simp) ha,J_one,J_one,←J_blk hb,←J_blk ho,at_map _ _ (by simp at hl; omega)]
     simp
   · rw [if_neg hol,if_neg hol,List.append_nil,List.append_nil,J_app (by simp) (blkW_ne _),J_app (by simp) ha,J_one,←J_blk hb,at_map _ _ (by simp at hl; omega)]
 · have hl:=h.len (by decide)
   have ha:=at_ne (l:=args) (i:=0) (by simp at hl; omega)
   have hno:=h.noBody.2 (by decide)
   subst hno
   simp only [if_true,if_false,Int.reduceEq,or_true,List.length_nil,Nat.lt_irrefl,List.append_nil]
   rw [J_app (by simp) (blkW_ne _),J_app (by simp) ha,J_one,←J_blk hb,at_map _ _ (by simp at hl; omega)]
 · have hl:=h.len (by decide)
   have ha:=at_ne (l:=args) (i:=0) (by simp at hl; omega)
   simp only [if_true,if_false,Int.reduceEq,or_self]
   rw [J_app (by simp) (by simp),J_app (by simp) ha,J_one,J_one,at_map _ _ (by simp at hl; omega)]
   simp
 · have hl:=h.len (by decide)
   have ha:=at_ne (l:=args) (i:=0) (by simp at hl; omega)
   simp only [if_true,if_false,Int.reduceEq,or_self]
   rw [J_app (by simp) (by simp),J_app (by simp) ha,J_one,J_one,at_map _ _ (by simp at hl; omega)]
   simp
mutual
theorem stmtT_J:∀(x:TStmt) (d:Nat),(cntS x d).tot=0→stmtT x=J (stmtW x)
 | .mk op mod nm args body other,d,h=>by
   have ho:=okS h
   unfold stmtT stmtW
   rw [exprTs_J args 1 ho.exprs]
   refine stmtO_J ho ?_ ?_
   · by_cases hb:(inner op||decide (0<body.length))=true
     · exact stmtTs_J body (d+1) (blkC0 (ho.body hb)).2.2
     · have:body=[]:=by
         simp at hb
         exact hb.2
       subst this; rfl
   · by_cases hb:0<other.length
     · exact stmtTs_J other (d+1) (blkC0 (ho.other hb)).2.2
     · have:other=[]:=List.eq_nil_of_length_eq_zero (by omega)
       subst this; rfl
theorem stmtTs_J:∀(l:List TStmt) (d:Nat),(cntSs l d).tot=0→stmtTs l=Sp (stmtWs l)
 | [],_,_=>rfl
 | x::r,d,h=>by
   obtain ⟨h1,h2⟩:=okSs h
   unfold stmtTs stmtWs
   rw [stmtT_J x d h1,stmtTs_J r d h2,Sp_app,J_Sp (stmtW_ne x)]
end
theorem blockT_J {l:List TStmt} {d:Nat} (h:(cntB l d).tot=0):blockT l=J (blockW l):=by
 unfold cntB at h
 exact J_blk (stmtTs_J l d (blkC0 h).2.2)
def pubT (b:Bool):Tx:=if b=true then w_pub++[32] else []
def useT (u:Tx):Tx:=w_use++[32]++u++[32,59,32]
def locT (u:Tx):Tx:=w_local++[32]++u++[32,59,32]
def declTO (d:TDecl):Tx:=if d.kind=1 then w_const++[32]++d.nm++[32,61,32]++Lib.itoa d.n++[32,59,32] else if d.kind=2 then w_var++[32]++d.nm++[32,59,32] else w_array++[32]++d.nm++[32,91,32]++Lib.itoa d.n++[32,93,32,59,32]
def declT (d:TDecl):Tx:=pubT d.pub++declTO d
def procT (p:TProc):Tx:=pubT p.pub++(w_proc++[32]++p.nm++[32,40]++argsT p.params++[32,41,32])++p.locs.flatMap locT++(blockT p.body++[32])
def modT (m:TMod):Tx:=(w_module++[32]++m.nm++[32,123,32])++m.uses.flatMap useT++m.decls.flatMap declT++m.procs.flatMap procT++(w_main++[32]++blockT m.main++[32,125])
theorem Sp_flat {α:Type} {f:α→Tx} {g:α→List Tx}:∀{l:List α},(∀x ∈ l,f x=Sp (g x))→l.flatMap f=Sp (l.flatMap g)
 | [],_=>rfl
 | x::r,h=>by
   rw [List.flatMap_cons,List.flatMap_cons,Sp_app,h x (by simp),Sp_flat fun y hy=>h y (List.mem_cons_of_mem _ hy)]
theorem pubT_Sp (b:Bool):pubT b=Sp (pubW b):=by cases b<;>simp [pubT,pubW,Sp]
theorem useT_Sp (u:Tx):useT u=Sp (useW u):=by simp [useT,useW,Sp]
theorem locT_Sp (u:Tx):locT u=Sp (locW u):=by simp [locT,locW,Sp]
theorem declC_kind {d:TDecl} (h:(declC d).tot=0):d.kind=1∨d.kind=2∨d.kind=3:=by
 unfold declC at h
 obtain ⟨_,h⟩:=tot0 h
 by_cases h1:d.kind=1
 · exact .inl h1
 · rw [if_neg h1] at h
   by_cases h2:d.kind=2
   · exact .inr (.inl h2)
   · rw [if_neg h2] at h
     by_cases h3:d.kind=3
     · exact .inr (.inr h3)
     · rw [if_neg h3] at h; cases h
theorem declT_Sp {d:TDecl} (h:(declC d).tot=0):declT d=Sp (declW d):=by
 unfold declT declW
 rw [Sp_app,Sp_app,←pubT_Sp,List.append_assoc]
 congr 1
 unfold declTO declO
 rcases declC_kind h with h1 | h1 | h1<;>simp [h1,Sp]
theorem procT_Sp {p:TProc} (h:(procC p).tot=0):procT p=Sp (procW p):=by
 unfold procC at h
 obtain ⟨_,hb⟩:=tot0 h
 have ha:=J_args (l:=p.params.map fun s=>[s]) (by simp)
 have hm:(p.params.map fun s=>[s]).map J=p.params:=by simp [Function.comp_def,J_one]
 rw [hm] at ha
 have hs:=J_Sp (l:=argsW (p.params.map fun s=>[s])) (by simp [argsW])
 rw [ha] at hs
 have e:Sp (procW p)=Sp (pubW p.pub)++(Sp [w_proc,p.nm]++Sp (argsW (p.params.map fun s=>[s])))++Sp (p.locs.flatMap locW)++Sp (blockW p.body):=by
   unfold procW argsW
   simp only [Sp_app,Sp_cons,Sp_nil]
   simp
 rw [e,←hs,←pubT_Sp,←Sp_flat (f:=locT) fun x _=>locT_Sp x,←J_Sp (l:=blockW p.body) (blkW_ne _),←blockT_J hb]
 simp [procT,Sp]
theorem declsC0:∀{l:List TDecl},(declsC l).tot=0→∀d ∈ l,(declC d).tot=0
 | [],_,d,hd=>by simp at hd
 | x::r,h,d,hd=>by
   unfold declsC at h
   obtain ⟨h1,h2⟩:=tot0 h
   rcases List.mem_cons.1 hd with rfl | hd
   · exact h1
   · exact declsC0 h2 d hd
theorem procsC0:∀{l:List TProc},(procsC l).tot=0→∀d ∈ l,(procC d).tot=0
 | [],_,d,hd=>by simp at hd
 | x::r,h,d,hd=>by
   unfold procsC at h
   obtain ⟨h1,h2⟩:=tot0 h
   rcases List.mem_cons.1 hd with rfl | hd
   · exact h1
   · exact procsC0 h2 d hd
theorem modT_J {m:TMod} (h:(modC m).tot=0):modT m=J (modW m):=by
 unfold modC at h
 obtain ⟨h,hb⟩:=tot0 h
 obtain ⟨h,hp⟩:=tot0 h
 obtain ⟨_,hd⟩:=tot0 h
 have hne:[w_module,m.nm,[123]]++m.uses.flatMap useW++m.decls.flatMap declW++m.procs.flatMap procW++[w_main]++blockW m.main≠[]:=by simp
 unfold modW
 rw [J_app hne (by simp),J_one,J_Sp hne]
 simp only [Sp_app]
 rw [←J_Sp (l:=blockW m.main) (blkW_ne _),←blockT_J hb,←Sp_flat (f:=useT) fun x _=>useT_Sp x,←Sp_flat (f:=declT) fun x hx=>declT_Sp (declsC0 hd x hx),←Sp_flat (f:=procT) fun x hx=>procT_Sp (procsC0 hp x hx)]
 simp [modT,Sp]
theorem err0 {c:Cnt}:errC c=0↔c.tot=0:=by
 unfold errC Cnt.tot
 split
 · omega
 · split
   · omega
   · split<;>omega
end Go.Bw
end
section
namespace Go.Bw
open Go
set_option linter.unusedVariables false
set_option linter.unusedSimpArgs false
def putTok (s:Tx):Tok:=match Lib.atoiAll s with
 | .ok v=>⟨2,v,[]⟩
 | _=>if nameB s=true then ⟨1,0,s⟩ else ⟨3,0,s⟩
def okTok (t:Tok):Prop:=kindT t=true∧tokOk t=true
theorem sign_atoi:∀u ∈ signL,putTok [u]=⟨3,0,[u]⟩:=by decide
theorem name_atoi {s:Tx} (h:nameB s=true):putTok s=⟨1,0,s⟩:=by
 cases s with
 | nil=>simp [nameB] at h
 | cons c r=>
   have hl:letterB (c.toNat:Int)=true:=by
     simp only [nameB,Bool.and_eq_true] at h
     simpa using h.1.2
   have hc:97≤c.toNat:=by simp [letterB] at hl; omega
   have ha:∀v,Lib.atoiAll (c::r)≠.ok v:=by
     intro v hv
     rw [Lib.atoiAll_plain c r (by omega) (by omega)] at hv
     unfold Lib.parseMag Lib.parseUint10 at hv
     rw [if_neg (by simp),if_neg (by omega)] at hv
     cases hv
   unfold putTok
   cases hs:Lib.atoiAll (c::r) with
   | ok v=>exact absurd hs (ha v)
   | _=>simp [h]
theorem put_itoa {n:Int} (h0:0≤n) (h1:n≤1099511627775):putTok (Lib.itoa n)=⟨2,n,[]⟩:=by
 unfold putTok
 rw [itoa_pos h0,atoiAll_digits (by omega)]
 simp; omega
theorem tok_put {t:Tok} (h:okTok t):putTok (tokTxt t)=t:=by
 obtain ⟨hk,ht⟩:=h
 obtain ⟨k,n,s⟩:=t
 have hk':k=1∨k=2∨k=3:=by simp [kindT] at hk; omega
 rcases hk' with rfl | rfl | rfl
 · simp only [tokOk,if_pos,Bool.and_eq_true,beq_iff_eq] at ht
   obtain ⟨rfl,hn⟩:=ht
   exact name_atoi hn
 · have:s=[]∧0≤n∧n≤1099511627775:=by simpa [tokOk] using ht
   obtain ⟨rfl,h0,h1⟩:=this
   exact put_itoa h0 h1
 · have:n=0∧s.length=1∧signB (s[0]?.getD 0)=true:=by simpa [tokOk] using ht
   obtain ⟨rfl,hl,hs⟩:=this
   match s,hl with
   | [c],_=>exact sign_atoi c (by simpa [signB] using hs)
def goodW (w:Tx):Prop:=okTok (putTok w)∧tokTxt (putTok w)=w
theorem good_name {s:Tx} (h:nameB s=true):goodW s:=by
 unfold goodW
 rw [name_atoi h]
 exact ⟨⟨rfl,by simp [tokOk,h]⟩,rfl⟩
theorem good_sign {u:UInt8} (h:u ∈ signL):goodW [u]:=by
 unfold goodW
 rw [sign_atoi u h]
 exact ⟨⟨rfl,by simp [tokOk,signB,h]⟩,rfl⟩
theorem good_num {n:Int} (h0:0≤n) (h1:n≤1099511627775):goodW (Lib.itoa n):=by
 unfold goodW
 rw [put_itoa h0 h1]
 exact ⟨⟨rfl,by simp [tokOk]; omega⟩,rfl⟩
theorem joinT_put {l:List Tx} (h:∀w ∈ l,goodW w):joinT (l.map putTok)=J l:=by
 unfold joinT J
 congr 1
 rw [List.map_map]
 conv=>rhs; rw [←List.map_id l]
 exact List.map_congr_left fun w hw=>(h w hw).2
theorem nameT_B {s:Tx} (h:nameT s=true):nameB s=true:=by
 simp only [nameT,Bool.and_eq_true] at h; exact h.1
theorem badName_ref {mod nm:Tx} (h:badName true mod nm=false):(mod=[]∨nameT mod=true)∧nameT nm=true:=by
 unfold badName at h
 cases hm:(mod==[]) with
 | true=>simp [hm] at h; simp at hm; exact ⟨.inl hm,by simpa using h⟩
 | false=>simp [hm] at h; exact ⟨.inr h.1,h.2⟩
theorem badName_no {mod nm:Tx} (h:badName false mod nm=false):mod=[]∧nm=[]:=by
 unfold badName at h
 rw [app_nil] at h
 simpa using h
theorem good_ref {mod nm:Tx} (h:badName true mod nm=false):∀w ∈ refW mod nm,goodW w:=by
 obtain ⟨h1,h2⟩:=badName_ref h
 intro w hw
 unfold refW at hw
 split at hw
 · rw [List.mem_singleton] at hw; subst hw; exact good_name (nameT_B h2)
 · rename_i hm
   have:nameT mod=true:=h1.resolve_left (by simpa using hm)
   simp only [List.mem_cons,List.not_mem_nil,or_false] at hw
   rcases hw with rfl | rfl | rfl
   · exact good_name (nameT_B this)
   · exact good_sign (by decide)
   · exact good_name (nameT_B h2)
theorem good_comma {l:List (List Tx)} (h:∀x ∈ l,∀w ∈ x,goodW w):∀w ∈ commaW l,goodW w:=by
 induction l with
 | nil=>intro w hw; simp [commaW] at hw
 | cons x r ih=>
   cases r with
   | nil=>intro w hw; exact h x (by simp) w hw
   | cons y r=>
     intro w hw
     simp only [commaW,List.mem_append,List.mem_singleton] at hw
     rcases hw with (hw | rfl) | hw
     · exact h x (by simp) w hw
     · exact good_sign (by decide)
     · exact ih (fun z hz=>h z (List.mem_cons_of_mem _ hz)) w hw
theorem good_args {l:List (List Tx)} (h:∀x ∈ l,∀w ∈ x,goodW w):∀w ∈ argsW l,goodW w:=by
 intro w hw
 simp only [argsW,List.mem_append,List.mem_singleton] at hw
 rcases hw with (rfl | hw) | rfl
 · exact good_sign (by decide)
 · exact good_comma h w hw
 · exact good_sign (by decide)
theorem at_mem {l:List (List Tx)} {i:Nat} {w:Tx} (h:w ∈ at_ l i):∃x ∈ l,w ∈ x:=by
 unfold at_ at h
 cases hx:l[i]? with
 | none=>simp [hx] at h
 | some x=>rw [hx] at h; exact ⟨x,List.mem_of_getElem? hx,h⟩
theorem good_op {op:Int} (h:7≤op∧op≤15):goodW (opW op):=by
 have:op=7∨op=8∨op=9∨op=10∨op=11∨op=12∨op=13∨op=14∨op=15:=by omega
 rcases this with rfl | rfl | rfl | rfl | rfl | rfl | rfl | rfl | rfl<;>exact good_sign (by decide)
theorem numBad1 {n:Int} (h:numBad 1 n=false):0≤n∧n≤1099511627775:=by
 simp [numBad] at h; omega
theorem good_exprO {op n:Int} {mod nm:Tx} {args:List TExpr} {d:Nat} (h:OkE op n mod nm args d) (hA:∀x ∈ exprWs args,∀w ∈ x,goodW w):∀w ∈ exprO op n mod nm (exprWs args),goodW w:=by
 have hk:=h.kind
 have hat:∀i w,w ∈ at_ (exprWs args) i→goodW w:=fun i w hw=>by
   obtain ⟨x,hx,hwx⟩:=at_mem hw
   exact hA x hx w hwx
 intro w hw
 unfold exprO at hw
 have hn:=h.name
 by_cases h1:op=1
 · subst h1
   rw [if_pos rfl,List.mem_singleton] at hw
   subst hw
   obtain ⟨a,b⟩:=numBad1 h.num
   exact good_num a b
 rw [if_neg h1] at hw
 by_cases h2:op=2
 · rw [if_pos h2,List.mem_singleton] at hw; subst hw; exact good_name (by decide)
 rw [if_neg h2] at hw
 by_cases h3:op=3
 · subst h3; rw [if_pos rfl] at hw; exact good_ref hn w hw
 rw [if_neg h3] at hw
 by_cases h4:op=4
 · subst h4
   rw [if_pos rfl] at hw
   simp only [List.mem_append,List.mem_singleton] at hw
   rcases hw with ((hw | rfl) | hw) | rfl
   · exact good_ref hn w hw
   · exact good_sign (by decide)
   · exact hat _ _ hw
   · exact good_sign (by decide)
 rw [if_neg h4] at hw
 by_cases h5:op=5
 · subst h5
   rw [if_pos rfl,List.mem_append] at hw
   rcases hw with hw | hw
   · exact good_ref hn w hw
   · exact good_args hA w hw
 rw [if_neg h5] at hw
 by_cases h6:op=6
 · rw [if_pos h6,List.mem_append,List.mem_singleton] at hw
   rcases hw with rfl | hw
   · exact good_sign (by decide)
   · exact hat _ _ hw
 rw [if_neg h6] at hw
 simp only [List.mem_append,List.mem_singleton] at hw
 rcases hw with (((rfl | hw) | rfl) | hw) | rfl
 · exact good_sign (by decide)
 · exact hat _ _ hw
 · exact good_op ⟨by omega,hk.2⟩
 · exact hat _ _ hw
 · exact good_sign (by decide)
mutual
theorem good_expr:∀(x:TExpr) (d:Nat),(cntE x d).tot=0→∀w ∈ exprW x,goodW w
 | .mk op n mod nm args,d,h=>by
   have ho:=okE h
   unfold exprW
   exact good_exprO ho (good_exprs args (d+1) ho.sub)
theorem good_exprs:∀(l:List TExpr) (d:Nat),(cntEs l d).tot=0→∀x ∈ exprWs l,∀w ∈ x,goodW w
 | [],_,_=>by intro x hx; simp [exprWs] at hx
 | y::r,d,h=>by
   obtain ⟨h1,h2⟩:=okEs h
   intro x hx
   unfold exprWs at hx
   rcases List.mem_cons.1 hx with rfl | hx
   · exact good_expr y d h1
   · exact good_exprs r d h2 x hx
end
theorem good_blk {l:List Tx} (h:∀w ∈ l,goodW w):∀w ∈ blkW l,goodW w:=by
 intro w hw
 simp only [blkW,List.mem_append,List.mem_singleton] at hw
 rcases hw with (rfl | hw) | rfl
 · exact good_sign (by decide)
 · exact h w hw
 · exact good_sign (by decide)
theorem good_stmtO {op:Int} {mod nm:Tx} {args:List TExpr} {body other:List TStmt} {d:Nat} (h:OkS op mod nm args body other d) (hb:∀w ∈ stmtWs body,goodW w) (ho:∀w ∈ stmtWs other,goodW w) :
   ∀w ∈ stmtO op mod nm (exprWs args) (stmtWs body) other.length (stmtWs other),goodW w:=by
 have hk:=h.kind
 have hA:=good_exprs args 1 h.exprs
 have hat:∀i w,w ∈ at_ (exprWs args) i→goodW w:=fun i w hw=>by
   obtain ⟨x,hx,hwx⟩:=at_mem hw
   exact hA x hx w hwx
 have hn:=h.name
 intro w hw
 unfold stmtO at hw
 rcases (by omega:op=1∨op=2∨op=3∨op=4∨op=5∨op=6∨op=7) with rfl | rfl | rfl | rfl | rfl | rfl | rfl
 · simp only [if_true,if_false,reduceCtorEq,Int.reduceEq,or_self,List.mem_append,List.mem_singleton] at hw
   rcases hw with ((hw | rfl) | hw) | rfl
   · exact good_ref hn w hw
   · exact good_sign (by decide)
   · exact hat _ _ hw
   · exact good_sign (by decide)
 · simp only [if_true,if_false,reduceCtorEq,Int.reduceEq,or_self,List.mem_append,List.mem_singleton,List.mem_cons,List.not_mem_nil,or_false] at hw
   rcases hw with ((((hw | rfl) | hw) | (rfl | rfl)) | hw) | rfl
   · exact good_ref hn w hw
   · exact good_sign (by decide)
   · exact hat _ _ hw
   · exact good_sign (by decide)
   · exact good_sign (by decide)
   · exact hat _ _ hw
   · exact good_sign (by decide)
 · simp only [if_true,if_false,reduceCtorEq,Int.reduceEq,or_self,List.mem_append,List.mem_singleton] at hw
   rcases hw with (hw | hw) | rfl
   · exact good_ref hn w hw
   · exact good_args hA w hw
   · exact good_sign (by decide)
 · simp only [if_true,if_false,reduceCtorEq,Int.reduceEq,or_false,true_or,List.mem_append,List.mem_singleton] at hw
   rcases hw with ((rfl | hw) | hw) | hw
   · exact good_name (by decide)
   · exact hat _ _ hw
   · exact good_blk hb w hw
   · split at hw
     · simp only [List.mem_append,List.mem_singleton] at hw
       rcases hw with rfl | hw
       · exact good_name (by decide)
       · exact good_blk ho w hw
     · simp at hw
 · simp only [if_true,if_false,reduceCtorEq,Int.reduceEq,or_true,List.mem_append,List.mem_singleton] at hw
   rcases hw with ((rfl | hw) | hw) | hw
   · exact good_name (by decide)
   · exact hat _ _ hw
   · exact good_blk hb w hw
   · split at hw
     · simp only [List.mem_append,List.mem_singleton] at hw
       rcases hw with rfl | hw
       · exact good_name (by decide)
       · exact good_blk ho w hw
     · simp at hw
 · simp only [if_true,if_false,reduceCtorEq,Int.reduceEq,or_self,List.mem_append,List.mem_singleton] at hw
   rcases hw with (rfl | hw) | rfl
   · exact good_name (by decide)
   · exact hat _ _ hw
   · exact good_sign (by decide)
 · simp only [if_true,if_false,reduceCtorEq,Int.reduceEq,or_self,List.mem_append,List.mem_singleton] at hw
   rcases hw with (rfl | hw) | rfl
   · exact good_name (by decide)
   · exact hat _ _ hw
   · exact good_sign (by decide)
theorem OkS.bodyTot {op:Int} {mod nm:Tx} {args:List TExpr} {body other:List TStmt} {d:Nat} (ho:OkS op mod nm args body other d):(cntSs body (d+1)).tot=0∧(cntSs other (d+1)).tot=0:=by
 constructor
 · by_cases hb:(inner op||decide (0<body.length))=true
   · exact (blkC0 (ho.body hb)).2.2
   · have:body=[]:=by
       simp at hb
       exact hb.2
     subst this; rfl
 · by_cases hb:0<other.length
   · exact (blkC0 (ho.other hb)).2.2
   · have:other=[]:=List.eq_nil_of_length_eq_zero (by omega)
     subst this; rfl
mutual
theorem good_stmt:∀(x:TStmt) (d:Nat),(cntS x d).tot=0→∀w ∈ stmtW x,goodW w
 | .mk op mod nm args body other,d,h=>by
   have ho:=okS h
   unfold stmtW
   exact good_stmtO ho (good_stmts body (d+1) ho.bodyTot.1) (good_stmts other (d+1) ho.bodyTot.2)
theorem good_stmts:∀(l:List TStmt) (d:Nat),(cntSs l d).tot=0→∀w ∈ stmtWs l,goodW w
 | [],_,_=>by intro x hx; simp [stmtWs] at hx
 | y::r,d,h=>by
   obtain ⟨h1,h2⟩:=okSs h
   intro w hw
   unfold stmtWs at hw
   rcases List.mem_append.1 hw with hw | hw
   · exact good_stmt y d h1 w hw
   · exact good_stmts r d h2 w hw
end
theorem cntN0:∀{l:List Tx},(cntN l).tot=0→∀s ∈ l,nameT s=true
 | [],_,s,hs=>by simp at hs
 | x::r,h,s,hs=>by
   unfold cntN at h
   obtain ⟨h1,h2⟩:=tot0 h
   rcases List.mem_cons.1 hs with rfl | hs
   · simpa using noteF0 h1
   · exact cntN0 h2 s hs
structure OkD (d:TDecl):Prop where
 name:nameT d.nm=true
 kind:d.kind=1∨d.kind=2∨d.kind=3
 n1:d.kind=1→0≤d.n∧d.n≤1099511627775
 n2:d.kind=2→d.n=0
 n3:d.kind=3→1≤d.n∧d.n≤32
theorem okD {d:TDecl} (h:(declC d).tot=0):OkD d:=by
 have hk:=declC_kind h
 unfold declC at h
 obtain ⟨h1,h2⟩:=tot0 h
 refine ⟨cntN0 h1 d.nm (by simp),hk,fun e=>?_,fun e=>?_,fun e=>?_⟩
 · rw [if_pos e] at h2
   have:=noteF0 h2
   simp at this; omega
 · rw [if_neg (by omega),if_pos e] at h2
   have:=noteF0 h2
   simpa using this
 · rw [if_neg (by omega),if_neg (by omega),if_pos e] at h2
   have:=noteF0 h2
   simp at this; omega
theorem good_decl {d:TDecl} (h:(declC d).tot=0):∀w ∈ declW d,goodW w:=by
 have ho:=okD h
 have hnm:=good_name (nameT_B ho.name)
 intro w hw
 simp only [declW,List.mem_append,List.mem_singleton] at hw
 rcases hw with (hw | hw) | rfl
 · unfold pubW at hw
   split at hw
   · rw [List.mem_singleton] at hw; subst hw; exact good_name (by decide)
   · simp at hw
 · unfold declO at hw
   rcases ho.kind with e | e | e
   · obtain ⟨a,b⟩:=ho.n1 e
     rw [if_pos e] at hw
     simp only [List.mem_cons,List.not_mem_nil,or_false] at hw
     rcases hw with rfl | rfl | rfl | rfl
     · exact good_name (by decide)
     · exact hnm
     · exact good_sign (by decide)
     · exact good_num a b
   · rw [if_neg (by omega),if_pos e] at hw
     simp only [List.mem_cons,List.not_mem_nil,or_false] at hw
     rcases hw with rfl | rfl
     · exact good_name (by decide)
     · exact hnm
   · obtain ⟨a,b⟩:=ho.n3 e
     rw [if_neg (by omega),if_neg (by omega),if_pos e] at hw
     simp only [List.mem_cons,List.not_mem_nil,or_false] at hw
     rcases hw with rfl | rfl | rfl | rfl | rfl
     · exact good_name (by decide)
     · exact hnm
     · exact good_sign (by decide)
     · exact good_num (by omega) (by omega)
     · exact good_sign (by decide)
 · exact good_sign (by decide)
structure OkP (p:TProc):Prop where
 name:nameT p.nm=true
 params:∀s ∈ p.params,nameT s=true
 locs:∀s ∈ p.locs,nameT s=true
 few:p.params.length≤3∧p.locs.length≤4
 body:(cntB p.body 1).tot=0
theorem okP {p:TProc} (h:(procC p).tot=0):OkP p:=by
 unfold procC at h
 obtain ⟨h,h5⟩:=tot0 h
 obtain ⟨h,h4⟩:=tot0 h
 obtain ⟨h,h3⟩:=tot0 h
 obtain ⟨h1,h2⟩:=tot0 h
 have:=noteM0 h4
 simp at this
 exact ⟨cntN0 h1 p.nm (by simp),cntN0 h2,cntN0 h3,by omega,h5⟩
theorem good_block {l:List TStmt} {d:Nat} (h:(cntB l d).tot=0):∀w ∈ blockW l,goodW w:=by
 unfold cntB at h
 exact good_blk (good_stmts l d (blkC0 h).2.2)
theorem good_proc {p:TProc} (h:(procC p).tot=0):∀w ∈ procW p,goodW w:=by
 have ho:=okP h
 intro w hw
 simp only [procW,List.mem_append,List.mem_singleton,List.mem_cons,List.not_mem_nil,or_false,List.mem_flatMap] at hw
 rcases hw with ((((hw | (rfl | rfl | rfl)) | hw) | rfl) | ⟨s,hs,hw⟩) | hw
 · unfold pubW at hw
   split at hw
   · rw [List.mem_singleton] at hw; subst hw; exact good_name (by decide)
   · simp at hw
 · exact good_name (by decide)
 · exact good_name (nameT_B ho.name)
 · exact good_sign (by decide)
 · refine good_comma (fun x hx w hw=>?_) w hw
   obtain ⟨s,hs,rfl⟩:=List.mem_map.1 hx
   rw [List.mem_singleton] at hw
   subst hw
   exact good_name (nameT_B (ho.params _ hs))
 · exact good_sign (by decide)
 · simp only [locW,List.mem_cons,List.not_mem_nil,or_false] at hw
   rcases hw with rfl | rfl | rfl
   · exact good_name (by decide)
   · exact good_name (nameT_B (ho.locs _ hs))
   · exact good_sign (by decide)
 · exact good_block ho.body w hw
structure OkM (m:TMod):Prop where
 name:nameT m.nm=true
 uses:∀s ∈ m.uses,nameT s=true
 few:m.uses.length≤3∧m.decls.length≤10∧m.procs.length≤6
 decls:∀d ∈ m.decls,(declC d).tot=0
 procs:∀p ∈ m.procs,(procC p).tot=0
 main:(cntB m.main 1).tot=0
theorem okM {m:TMod} (h:(modC m).tot=0):OkM m:=by
 unfold modC at h
 obtain ⟨h,h6⟩:=tot0 h
 obtain ⟨h,h5⟩:=tot0 h
 obtain ⟨h,h4⟩:=tot0 h
 obtain ⟨h,h3⟩:=tot0 h
 obtain ⟨h1,h2⟩:=tot0 h
 have:=noteM0 h3
 simp at this
 exact ⟨cntN0 h1 m.nm (by simp),cntN0 h2,by omega,declsC0 h4,procsC0 h5,h6⟩
theorem good_mod {m:TMod} (h:(modC m).tot=0):∀w ∈ modW m,goodW w:=by
 have ho:=okM h
 intro w hw
 simp only [modW,List.mem_append,List.mem_singleton,List.mem_cons,List.not_mem_nil,or_false,List.mem_flatMap] at hw
 rcases hw with ((((((rfl | rfl | rfl) | ⟨s,hs,hw⟩) | ⟨d,hd,hw⟩) | ⟨p,hp,hw⟩) | rfl) | hw) | rfl
 · exact good_name (by decide)
 · exact good_name (nameT_B ho.name)
 · exact good_sign (by decide)
 · simp only [useW,List.mem_cons,List.not_mem_nil,or_false] at hw
   rcases hw with rfl | rfl | rfl
   · exact good_name (by decide)
   · exact good_name (nameT_B (ho.uses _ hs))
   · exact good_sign (by decide)
 · exact good_decl (ho.decls d hd) w hw
 · exact good_proc (ho.procs p hp) w hw
 · exact good_name (by decide)
 · exact good_block ho.main w hw
 · exact good_sign (by decide)
def showM (m:TMod):Tx×Int:=if checkM m=0 then (J (modW m),0) else ([],checkM m)
end Go.Bw
end
section
namespace Go.Bw
open Go
set_option linter.unusedVariables false
set_option linter.unusedSimpArgs false
abbrev Tk:=List Tok
def hasT (s:Tx):Tk→Option Tk
 | []=>none
 | t::r=>if (t.text==s)=true then some r else none
def nextT (k:Int):Tk→Option (Tok×Tk)
 | []=>none
 | t::r=>if t.kind=k then some (t,r) else none
def namP (l:Tk):Option (Tx×Tk):=(nextT 1 l).bind fun p=>if nameT p.1.text=true then some (p.1.text,p.2) else none
def numP (l:Tk):Option (Int×Tk):=(nextT 2 l).map fun p=>(p.1.n,p.2)
def refP (l:Tk):Option ((Tx×Tx)×Tk):=(namP l).bind fun a=>match hasT [46] a.2 with
 | some r=>(namP r).map fun b=>((a.1,b.1),b.2)
 | none=>some (([],a.1),a.2)
def argsL (pe:Tk→Option (TExpr×Tk)):Nat→Tk→Option (List TExpr×Tk)
 | 0,_=>none
 | n+1,l=>(pe l).bind fun x=>match hasT [41] x.2 with
   | some r=>some ([x.1],r)
   | none=>match hasT [44] x.2 with
     | some r=>(argsL pe n r).map fun q=>(x.1::q.1,q.2)
     | none=>none
def argsP (pe:Tk→Option (TExpr×Tk)) (l:Tk):Option (List TExpr×Tk):=match hasT [41] l with
 | some r=>some ([],r)
 | none=>argsL pe (l.length+1) l
def opP:List Tx→Nat→Tk→Option (Nat×Tk)
 | [],_,_=>none
 | w::ws,i,l=>match hasT w l with
   | some r=>some (i,r)
   | none=>opP ws (i+1) l
def twoP (pe:Tk→Option (TExpr×Tk)) (l:Tk):Option (TExpr×Tk):=(pe l).bind fun a=>(opP opsL 0 a.2).bind fun o=>(pe o.2).bind fun b=>(hasT [41] b.2).map fun r=>(TExpr.mk (7+(o.1:Int)) 0 [] [] [a.1,b.1],r)
def tailP (pe:Tk→Option (TExpr×Tk)) (mod nm:Tx) (l:Tk):Option (TExpr×Tk):=match hasT [91] l with
 | some r=>(pe r).bind fun x=>(hasT [93] x.2).map fun r=>(TExpr.mk 4 0 mod nm [x.1],r)
 | none=>match hasT [40] l with
   | some r=>(argsP pe r).map fun q=>(TExpr.mk 5 0 mod nm q.1,q.2)
   | none=>some (TExpr.mk 3 0 mod nm [],l)
def restP (pe:Tk→Option (TExpr×Tk)) (l:Tk):Option (TExpr×Tk):=match hasT w_in l with
 | some r=>some (TExpr.mk 2 0 [] [] [],r)
 | none=>match hasT [33] l with
   | some r=>(pe r).map fun x=>(TExpr.mk 6 0 [] [] [x.1],x.2)
   | none=>match hasT [40] l with
     | some r=>twoP pe r
     | none=>(refP l).bind fun p=>tailP pe p.1.1 p.1.2 p.2
def exprP:Nat→Tk→Option (TExpr×Tk)
 | 0,_=>none
 | f+1,l=>match l with
   | []=>none
   | t::r=>if t.kind=2 then some (TExpr.mk 1 t.n [] [] [],r) else restP (exprP f) (t::r)
def simpleP (l:Tk):Option (TStmt×Tk):=match hasT w_return l with
 | some r=>(exprP 6 r).map fun x=>(TStmt.mk 6 [] [] [x.1] [] [],x.2)
 | none=>match hasT w_out l with
   | some r=>(exprP 6 r).map fun x=>(TStmt.mk 7 [] [] [x.1] [] [],x.2)
   | none=>(refP l).bind fun p=>match hasT [40] p.2 with
     | some r=>(argsP (exprP 6) r).map fun q=>(TStmt.mk 3 p.1.1 p.1.2 q.1 [] [],q.2)
     | none=>match hasT [91] p.2 with
       | some r=>(exprP 6 r).bind fun i=>(hasT [93] i.2).bind fun r=>(hasT [61] r).bind fun r=>(exprP 6 r).map fun x=>(TStmt.mk 2 p.1.1 p.1.2 [i.1,x.1] [] [],x.2)
       | none=>(hasT [61] p.2).bind fun r=>(exprP 6 r).map fun x=>(TStmt.mk 1 p.1.1 p.1.2 [x.1] [] [],x.2)
def stmtP (pb:Tk→Option (List TStmt×Tk)) (l:Tk):Option (TStmt×Tk):=match hasT w_if l with
 | some r=>(exprP 6 r).bind fun x=>(pb x.2).bind fun b=>match hasT w_else b.2 with
   | some r=>(pb r).bind fun o=>if o.1.length=0 then none else some (TStmt.mk 4 [] [] [x.1] b.1 o.1,o.2)
   | none=>some (TStmt.mk 4 [] [] [x.1] b.1 [],b.2)
 | none=>match hasT w_while l with
   | some r=>(exprP 6 r).bind fun x=>(pb x.2).map fun b=>(TStmt.mk 5 [] [] [x.1] b.1 [],b.2)
   | none=>(simpleP l).bind fun s=>(hasT [59] s.2).map fun r=>(s.1,r)
def stmtsL (ps:Tk→Option (TStmt×Tk)):Nat→Tk→Option (List TStmt×Tk)
 | 0,_=>none
 | n+1,l=>match hasT [125] l with
   | some r=>some ([],r)
   | none=>(ps l).bind fun s=>(stmtsL ps n s.2).map fun q=>(s.1::q.1,q.2)
def blockP:Nat→Tk→Option (List TStmt×Tk)
 | 0,_=>none
 | f+1,l=>(hasT [123] l).bind fun r=>stmtsL (stmtP (blockP f)) (r.length+1) r
def declP (pub:Bool) (l:Tk):Option (Option TDecl×Tk):=match hasT w_const l with
 | some r=>(namP r).bind fun a=>(hasT [61] a.2).bind fun r=>(numP r).bind fun n=>(hasT [59] n.2).map fun r=>(some ⟨1,a.1,pub,n.1⟩,r)
 | none=>match hasT w_var l with
   | some r=>(namP r).bind fun a=>(hasT [59] a.2).map fun r=>(some ⟨2,a.1,pub,0⟩,r)
   | none=>match hasT w_array l with
     | some r=>(namP r).bind fun a=>(hasT [91] a.2).bind fun r=>(numP r).bind fun n=>(hasT [93] n.2).bind fun r=>(hasT [59] r).map fun r=>(some ⟨3,a.1,pub,n.1⟩,r)
     | none=>some (none,l)
def pubP (l:Tk):Bool×Tk:=((hasT w_pub l).isSome,(hasT w_pub l).getD l)
def declsL:Nat→Bool→Tk→Option ((List TDecl×Bool)×Tk)
 | 0,_,_=>none
 | n+1,pub,l=>(declP pub l).bind fun d=>match d.1 with
   | none=>some (([],pub),d.2)
   | some x=>(declsL n (pubP d.2).1 (pubP d.2).2).map fun q=>((x::q.1.1,q.1.2),q.2)
def paramsL:Nat→Bool→Tk→Option (List Tx×Tk)
 | 0,_,_=>none
 | n+1,first,l=>match hasT [41] l with
   | some r=>some ([],r)
   | none=>(if first=true then some l else hasT [44] l).bind fun l=>(namP l).bind fun a=>(paramsL n false a.2).map fun q=>(a.1::q.1,q.2)
def locsL:Nat→Tk→Option (List Tx×Tk)
 | 0,_=>none
 | n+1,l=>match hasT w_local l with
   | some r=>(namP r).bind fun a=>(hasT [59] a.2).bind fun r=>(locsL n r).map fun q=>(a.1::q.1,q.2)
   | none=>some ([],l)
def procP (pub:Bool) (l:Tk):Option (TProc×Tk):=(namP l).bind fun a=>(hasT [40] a.2).bind fun r=>(paramsL (r.length+1) true r).bind fun ps=>(locsL (ps.2.length+1) ps.2).bind fun ls=>(blockP 6 ls.2).map fun b=>(⟨a.1,pub,ps.1,ls.1,b.1⟩,b.2)
def procsL:Nat→Bool→Tk→Option ((List TProc×Bool)×Tk)
 | 0,_,_=>none
 | n+1,pub,l=>match hasT w_proc l with
   | some r=>(procP pub r).bind fun p=>(procsL n (pubP p.2).1 (pubP p.2).2).map fun q=>((p.1::q.1.1,q.1.2),q.2)
   | none=>some (([],pub),l)
def usesL:Nat→Tk→Option (List Tx×Tk)
 | 0,_=>none
 | n+1,l=>match hasT w_use l with
   | some r=>(namP r).bind fun a=>(hasT [59] a.2).bind fun r=>(usesL n r).map fun q=>(a.1::q.1,q.2)
   | none=>some ([],l)
def modP (l:Tk):Option (TMod×Tk):=(hasT w_module l).bind fun r=>(namP r).bind fun a=>(hasT [123] a.2).bind fun r=>(usesL (r.length+1) r).bind fun u=>
 (declsL ((pubP u.2).2.length+1) (pubP u.2).1 (pubP u.2).2).bind fun d=>(procsL (d.2.length+1) d.1.2 d.2).bind fun p=>if p.1.2=true then none else
 (hasT w_main p.2).bind fun r=>(blockP 6 r).bind fun b=>(hasT [125] b.2).map fun r=>(⟨a.1,u.1,d.1.1,p.1.1,b.1⟩,r)
def AllOk (l:Tk):Prop:=∀t ∈ l,okTok t
def Eats (l:Tk) (ws:List Tx) (r:Tk):Prop:=AllOk l∧l=ws.map putTok++r
theorem Eats.ok {l r:Tk} {ws:List Tx} (h:Eats l ws r):AllOk r:=fun t ht=>h.1 t (by rw [h.2]; exact List.mem_append_right _ ht)
theorem Eats.trans {l r q:Tk} {a b:List Tx} (h:Eats l a r) (k:Eats r b q):Eats l (a++b) q:=⟨h.1,by rw [h.2,k.2]; simp⟩
theorem Eats.nil {l:Tk} (h:AllOk l):Eats l [] l:=⟨h,rfl⟩
theorem Eats.cast {l r:Tk} {a b:List Tx} (h:Eats l a r) (e:a=b):Eats l b r:=e▸h
theorem hasT_eats {s:Tx} {l r:Tk} (hl:AllOk l) (hs:s≠[]) (h:hasT s l=some r):Eats l [s] r:=by
 cases l with
 | nil=>cases h
 | cons t q=>
   simp only [hasT] at h
   split at h
   · rename_i ht
     injection h with h
     subst h
     simp only [beq_iff_eq] at ht
     refine ⟨hl,?_⟩
     have hok:=hl t (by simp)
     have e:tokTxt t=s:=by
       unfold tokTxt
       rw [if_neg]
       · exact ht
       · intro hk
         have:=hok.2
         unfold tokOk at this
         rw [if_neg (by omega),if_pos hk] at this
         simp [ht,hs] at this
     simp [←e,tok_put hok]
   · cases h
theorem namP_eats {l r:Tk} {a:Tx} (hl:AllOk l) (h:namP l=some (a,r)):Eats l [a] r∧nameT a=true:=by
 cases l with
 | nil=>cases h
 | cons t q=>
   unfold namP nextT at h
   dsimp only at h
   by_cases hk:t.kind=1
   · rw [if_pos hk] at h
     simp only [Option.bind_some] at h
     split at h
     · rename_i hn
       injection h with h
       injection h with h1 h2
       subst h1 h2
       refine ⟨⟨hl,?_⟩,hn⟩
       have hok:=hl t (by simp)
       have e:tokTxt t=t.text:=by rw [tokTxt,if_neg (by omega)]
       rw [←e]
       simp [tok_put hok]
     · cases h
   · rw [if_neg hk] at h; cases h
theorem numP_eats {l r:Tk} {n:Int} (hl:AllOk l) (h:numP l=some (n,r)):Eats l [Lib.itoa n] r:=by
 cases l with
 | nil=>cases h
 | cons t q=>
   unfold numP nextT at h
   dsimp only at h
   by_cases hk:t.kind=2
   · rw [if_pos hk] at h
     simp only [Option.map_some] at h
     injection h with h
     injection h with h1 h2
     subst h1 h2
     refine ⟨hl,?_⟩
     have hok:=hl t (by simp)
     have e:tokTxt t=Lib.itoa t.n:=by rw [tokTxt,if_pos hk]
     rw [←e]
     simp [tok_put hok]
   · rw [if_neg hk] at h; cases h
theorem refP_eats {l r:Tk} {mod nm:Tx} (hl:AllOk l) (h:refP l=some ((mod,nm),r)):Eats l (refW mod nm) r:=by
 unfold refP at h
 obtain ⟨⟨a,q⟩,h1,h2⟩:=Option.bind_eq_some_iff.1 h
 obtain ⟨e1,n1⟩:=namP_eats hl h1
 simp only at h2
 cases hd:hasT [46] q with
 | none=>
   rw [hd] at h2
   simp only [Option.some.injEq,Prod.mk.injEq] at h2
   obtain ⟨⟨rfl,rfl⟩,rfl⟩:=h2
   exact e1
 | some q2=>
   rw [hd] at h2
   obtain ⟨⟨b,q3⟩,h3,h4⟩:=Option.map_eq_some_iff.1 h2
   simp only [Prod.mk.injEq] at h4
   obtain ⟨⟨rfl,rfl⟩,rfl⟩:=h4
   have e2:=hasT_eats e1.ok (by simp) hd
   obtain ⟨e3,n3⟩:=namP_eats e2.ok h3
   refine ((e1.trans e2).trans e3).cast ?_
   unfold refW
   rw [if_neg]
   · rfl
   · intro hm
     simp only [beq_iff_eq] at hm
     subst hm
     simp [nameT,nameB] at n1
def Sound (pe:Tk→Option (TExpr×Tk)):Prop:=∀l x r,AllOk l→pe l=some (x,r)→Eats l (exprW x) r
theorem argsL_eats {pe:Tk→Option (TExpr×Tk)} (hp:Sound pe):∀(n:Nat) (l:Tk) (xs:List TExpr) (r:Tk),AllOk l→argsL pe n l=some (xs,r)→Eats l (commaW (exprWs xs)++[[41]]) r
 | 0,_,_,_,_,h=>by cases h
 | n+1,l,xs,r,hl,h=>by
   unfold argsL at h
   obtain ⟨⟨x,q⟩,h1,h2⟩:=Option.bind_eq_some_iff.1 h
   have e1:=hp l x q hl h1
   simp only at h2
   cases hd:hasT [41] q with
   | some q2=>
     rw [hd] at h2
     simp only [Option.some.injEq,Prod.mk.injEq] at h2
     obtain ⟨rfl,rfl⟩:=h2
     exact e1.trans (hasT_eats e1.ok (by simp) hd)
   | none=>
     rw [hd] at h2
     simp only at h2
     cases hc:hasT [44] q with
     | none=>rw [hc] at h2; cases h2
     | some q2=>
       rw [hc] at h2
       obtain ⟨⟨ys,q3⟩,h3,h4⟩:=Option.map_eq_some_iff.1 h2
       simp only [Prod.mk.injEq] at h4
       obtain ⟨rfl,rfl⟩:=h4
       have e2:=hasT_eats e1.ok (by simp) hc
       have e3:=argsL_eats hp n q2 ys q3 e2.ok h3
       refine ((e1.trans e2).trans e3).cast ?_
       cases ys with
       | nil=>exfalso; cases n with
         | zero=>cases h3
         | succ n=>
           unfold argsL at h3
           obtain ⟨⟨y,q4⟩,_,h5⟩:=Option.bind_eq_some_iff.1 h3
           simp only at h5
           split at h5
           · simp at h5
           · split at h5
             · obtain ⟨z,_,h6⟩:=Option.map_eq_some_iff.1 h5
               simp at h6
             · cases h5
       | cons y ys=>simp [exprWs,commaW]
theorem argsP_eats {pe:Tk→Option (TExpr×Tk)} (hp:Sound pe) {l r q:Tk} {xs:List TExpr} (hl:AllOk l) (hq:hasT [40] l=some q) (h:argsP pe q=some (xs,r)):Eats l (argsW (exprWs xs)) r:=by
 have e0:=hasT_eats hl (by simp) hq
 unfold argsP at h
 cases hd:hasT [41] q with
 | some q2=>
   rw [hd] at h
   simp only [Option.some.injEq,Prod.mk.injEq] at h
   obtain ⟨rfl,rfl⟩:=h
   exact e0.trans (hasT_eats e0.ok (by simp) hd)
 | none=>
   rw [hd] at h
   exact (e0.trans (argsL_eats hp _ q xs r e0.ok h)).cast (by simp [argsW])
theorem opP_eats:∀(ws:List Tx) (i:Nat) (l r:Tk) (k:Nat),AllOk l→(∀w ∈ ws,w≠[])→opP ws i l=some (k,r)→∃j,k=i+j∧∃w,ws[j]? = some w∧Eats l [w] r
 | [],_,_,_,_,_,_,h=>by cases h
 | w::ws,i,l,r,k,hl,hw,h=>by
   unfold opP at h
   cases hd:hasT w l with
   | some q=>
     rw [hd] at h
     simp only [Option.some.injEq,Prod.mk.injEq] at h
     obtain ⟨rfl,rfl⟩:=h
     exact ⟨0,rfl,w,rfl,hasT_eats hl (hw w (by simp)) hd⟩
   | none=>
     rw [hd] at h
     obtain ⟨j,h1,v,h2,h3⟩:=opP_eats ws (i+1) l r k hl (fun v hv=>hw v (List.mem_cons_of_mem _ hv)) h
     exact ⟨j+1,by omega,v,by simpa using h2,h3⟩
theorem exprW_mk (op n:Int) (mod nm:Tx) (args:List TExpr):exprW (.mk op n mod nm args)=exprO op n mod nm (exprWs args):=by rw [exprW]
theorem twoP_eats {pe:Tk→Option (TExpr×Tk)} (hp:Sound pe) {l r q:Tk} {x:TExpr} (hl:AllOk l) (hq:hasT [40] l=some q) (h:twoP pe q=some (x,r)):Eats l (exprW x) r:=by
 have e0:=hasT_eats hl (by simp) hq
 unfold twoP at h
 obtain ⟨⟨a,q1⟩,h1,h2⟩:=Option.bind_eq_some_iff.1 h
 obtain ⟨⟨o,q2⟩,h3,h4⟩:=Option.bind_eq_some_iff.1 h2
 obtain ⟨⟨b,q3⟩,h5,h6⟩:=Option.bind_eq_some_iff.1 h4
 obtain ⟨q4,h7,h8⟩:=Option.map_eq_some_iff.1 h6
 simp only [Prod.mk.injEq] at h8
 obtain ⟨rfl,rfl⟩:=h8
 have e1:=hp q a q1 e0.ok h1
 obtain ⟨j,hj,w,hw,e2⟩:=opP_eats opsL 0 q1 q2 o e1.ok (by decide) h3
 have e3:=hp q2 b q3 e2.ok h5
 have e4:=hasT_eats e3.ok (by simp) h7
 refine ((((e0.trans e1).trans e2).trans e3).trans e4).cast ?_
 obtain rfl:o=j:=by omega
 have hlt:o<9:=(List.getElem?_eq_some_iff.1 hw).1
 have hop:opW (7+(o:Int))=w:=by
   unfold opW
   rw [show ((7+(o:Int))-7).toNat=o by omega,hw]; rfl
 rw [exprW_mk,exprO,if_neg (by omega),if_neg (by omega),if_neg (by omega),if_neg (by omega),if_neg (by omega),if_neg (by omega),hop]
 simp [exprWs,at_]
theorem tailP_eats {pe:Tk→Option (TExpr×Tk)} (hp:Sound pe) {l l0 r:Tk} {mod nm:Tx} {x:TExpr} (h0:Eats l0 (refW mod nm) l) (h:tailP pe mod nm l=some (x,r)):Eats l0 (exprW x) r:=by
 unfold tailP at h
 cases hd:hasT [91] l with
 | some q=>
   rw [hd] at h
   obtain ⟨⟨y,q1⟩,h1,h2⟩:=Option.bind_eq_some_iff.1 h
   obtain ⟨q2,h3,h4⟩:=Option.map_eq_some_iff.1 h2
   simp only [Prod.mk.injEq] at h4
   obtain ⟨rfl,rfl⟩:=h4
   have e1:=hasT_eats h0.ok (by simp) hd
   have e2:=hp q y q1 e1.ok h1
   have e3:=hasT_eats e2.ok (by simp) h3
   exact (((h0.trans e1).trans e2).trans e3).cast (by simp [exprW,exprO,exprWs,at_])
 | none=>
   rw [hd] at h
   simp only at h
   cases hc:hasT [40] l with
   | some q=>
     rw [hc] at h
     obtain ⟨⟨xs,q1⟩,h1,h2⟩:=Option.map_eq_some_iff.1 h
     simp only [Prod.mk.injEq] at h2
     obtain ⟨rfl,rfl⟩:=h2
     exact (h0.trans (argsP_eats hp h0.ok hc h1)).cast (by simp [exprW,exprO])
   | none=>
     rw [hc] at h
     simp only [Option.some.injEq,Prod.mk.injEq] at h
     obtain ⟨rfl,rfl⟩:=h
     exact h0.cast (by simp [exprW,exprO])
theorem restP_eats {pe:Tk→Option (TExpr×Tk)} (hp:Sound pe):Sound (restP pe):=by
 intro l x r hl h
 unfold restP at h
 cases hd:hasT w_in l with
 | some q=>
   rw [hd] at h
   simp only [Option.some.injEq,Prod.mk.injEq] at h
   obtain ⟨rfl,rfl⟩:=h
   exact (hasT_eats hl (by decide) hd).cast (by simp [exprW,exprO])
 | none=>
   rw [hd] at h
   simp only at h
   cases hn:hasT [33] l with
   | some q=>
     rw [hn] at h
     obtain ⟨⟨y,q1⟩,h1,h2⟩:=Option.map_eq_some_iff.1 h
     simp only [Prod.mk.injEq] at h2
     obtain ⟨rfl,rfl⟩:=h2
     have e1:=hasT_eats hl (by simp) hn
     exact (e1.trans (hp q y q1 e1.ok h1)).cast (by simp [exprW,exprO,exprWs,at_])
   | none=>
     rw [hn] at h
     simp only at h
     cases hc:hasT [40] l with
     | some q=>rw [hc] at h; exact twoP_eats hp hl hc h
     | none=>
       rw [hc] at h
       obtain ⟨⟨⟨mod,nm⟩,q⟩,h1,h2⟩:=Option.bind_eq_some_iff.1 h
       exact tailP_eats hp (refP_eats hl h1) h2
theorem exprP_eats:∀f,Sound (exprP f)
 | 0=>fun _ _ _ _ h=>by cases h
 | f+1=>by
   intro l x r hl h
   cases l with
   | nil=>cases h
   | cons t q=>
     unfold exprP at h
     by_cases hk:t.kind=2
     · simp only [if_pos hk,Option.some.injEq,Prod.mk.injEq] at h
       obtain ⟨rfl,rfl⟩:=h
       refine ⟨hl,?_⟩
       have hok:=hl t (by simp)
       have e:tokTxt t=Lib.itoa t.n:=by rw [tokTxt,if_pos hk]
       have e2:exprW (TExpr.mk 1 t.n [] [] [])=[Lib.itoa t.n]:=by simp [exprW,exprO]
       rw [e2,←e]
       simp [tok_put hok]
     · simp only [if_neg hk] at h
       exact restP_eats (exprP_eats f) _ x r hl h
end Go.Bw
end
section
namespace Go.Bw
open Go
set_option linter.unusedVariables false
set_option linter.unusedSimpArgs false
theorem stmtW_mk (op:Int) (mod nm:Tx) (args:List TExpr) (body other:List TStmt):stmtW (.mk op mod nm args body other)=stmtO op mod nm (exprWs args) (stmtWs body) other.length (stmtWs other):=by rw [stmtW]
theorem simpleP_eats {l r:Tk} {s:TStmt} (hl:AllOk l) (h:simpleP l=some (s,r)):∃ws,stmtW s=ws++[[59]]∧Eats l ws r:=by
 have hp:=exprP_eats 6
 unfold simpleP at h
 cases h1:hasT w_return l with
 | some q=>
   rw [h1] at h
   obtain ⟨⟨x,q1⟩,h2,h3⟩:=Option.map_eq_some_iff.1 h
   simp only [Prod.mk.injEq] at h3
   obtain ⟨rfl,rfl⟩:=h3
   have e1:=hasT_eats hl (by decide) h1
   exact ⟨[w_return]++exprW x,by simp [stmtW_mk,stmtO,exprWs,at_],e1.trans (hp q x q1 e1.ok h2)⟩
 | none=>
   rw [h1] at h
   simp only at h
   cases h2:hasT w_out l with
   | some q=>
     rw [h2] at h
     obtain ⟨⟨x,q1⟩,h3,h4⟩:=Option.map_eq_some_iff.1 h
     simp only [Prod.mk.injEq] at h4
     obtain ⟨rfl,rfl⟩:=h4
     have e1:=hasT_eats hl (by decide) h2
     exact ⟨[w_out]++exprW x,by simp [stmtW_mk,stmtO,exprWs,at_],e1.trans (hp q x q1 e1.ok h3)⟩
   | none=>
     rw [h2] at h
     obtain ⟨⟨⟨mod,nm⟩,q⟩,h3,h4⟩:=Option.bind_eq_some_iff.1 h
     have e0:=refP_eats hl h3
     simp only at h4
     cases h5:hasT [40] q with
     | some q1=>
       rw [h5] at h4
       obtain ⟨⟨xs,q2⟩,h6,h7⟩:=Option.map_eq_some_iff.1 h4
       simp only [Prod.mk.injEq] at h7
       obtain ⟨rfl,rfl⟩:=h7
       exact ⟨refW mod nm++argsW (exprWs xs),by simp [stmtW_mk,stmtO],e0.trans (argsP_eats hp e0.ok h5 h6)⟩
     | none=>
       rw [h5] at h4
       simp only at h4
       cases h6:hasT [91] q with
       | some q1=>
         rw [h6] at h4
         obtain ⟨⟨i,q2⟩,h7,h8⟩:=Option.bind_eq_some_iff.1 h4
         obtain ⟨q3,h9,h10⟩:=Option.bind_eq_some_iff.1 h8
         obtain ⟨q4,h11,h12⟩:=Option.bind_eq_some_iff.1 h10
         obtain ⟨⟨x,q5⟩,h13,h14⟩:=Option.map_eq_some_iff.1 h12
         simp only [Prod.mk.injEq] at h14
         obtain ⟨rfl,rfl⟩:=h14
         have e1:=hasT_eats e0.ok (by simp) h6
         have e2:=hp _ _ _ e1.ok h7
         have e3:=hasT_eats e2.ok (by simp) h9
         have e4:=hasT_eats e3.ok (by simp) h11
         have e5:=hp _ _ _ e4.ok h13
         exact ⟨refW mod nm++[[91]]++exprW i++[[93],[61]]++exprW x,by simp [stmtW_mk,stmtO,exprWs,at_],(((((e0.trans e1).trans e2).trans e3).trans e4).trans e5).cast (by simp)⟩
       | none=>
         rw [h6] at h4
         obtain ⟨q1,h7,h8⟩:=Option.bind_eq_some_iff.1 h4
         obtain ⟨⟨x,q2⟩,h9,h10⟩:=Option.map_eq_some_iff.1 h8
         simp only [Prod.mk.injEq] at h10
         obtain ⟨rfl,rfl⟩:=h10
         have e1:=hasT_eats e0.ok (by simp) h7
         have e2:=hp _ _ _ e1.ok h9
         exact ⟨refW mod nm++[[61]]++exprW x,by simp [stmtW_mk,stmtO,exprWs,at_],(e0.trans e1).trans e2⟩
def SoundB (pb:Tk→Option (List TStmt×Tk)):Prop:=∀l x r,AllOk l→pb l=some (x,r)→Eats l (blockW x) r
theorem stmtP_eats {pb:Tk→Option (List TStmt×Tk)} (hb:SoundB pb) {l r:Tk} {s:TStmt} (hl:AllOk l) (h:stmtP pb l=some (s,r)):Eats l (stmtW s) r:=by
 have hp:=exprP_eats 6
 unfold stmtP at h
 cases h1:hasT w_if l with
 | some q=>
   rw [h1] at h
   obtain ⟨⟨x,q1⟩,h2,h3⟩:=Option.bind_eq_some_iff.1 h
   obtain ⟨⟨b,q2⟩,h4,h5⟩:=Option.bind_eq_some_iff.1 h3
   have e1:=hasT_eats hl (by decide) h1
   have e2:=hp _ _ _ e1.ok h2
   have e3:=hb _ _ _ e2.ok h4
   simp only at h5
   cases h6:hasT w_else q2 with
   | some q3=>
     rw [h6] at h5
     obtain ⟨⟨o,q4⟩,h7,h8⟩:=Option.bind_eq_some_iff.1 h5
     simp only at h8
     split at h8
     · cases h8
     · rename_i ho
       simp only [Option.some.injEq,Prod.mk.injEq] at h8
       obtain ⟨rfl,rfl⟩:=h8
       have e4:=hasT_eats e3.ok (by decide) h6
       have e5:=hb _ _ _ e4.ok h7
       refine ((((e1.trans e2).trans e3).trans e4).trans e5).cast ?_
       rw [stmtW_mk]
       simp only [stmtO,Int.reduceEq,or_false,true_or,if_true,if_false]
       rw [if_pos (by omega)]
       simp [exprWs,at_,blockW]
   | none=>
     rw [h6] at h5
     simp only [Option.some.injEq,Prod.mk.injEq] at h5
     obtain ⟨rfl,rfl⟩:=h5
     exact ((e1.trans e2).trans e3).cast (by simp [stmtW_mk,stmtO,exprWs,at_,blockW])
 | none=>
   rw [h1] at h
   simp only at h
   cases h2:hasT w_while l with
   | some q=>
     rw [h2] at h
     obtain ⟨⟨x,q1⟩,h3,h4⟩:=Option.bind_eq_some_iff.1 h
     obtain ⟨⟨b,q2⟩,h5,h6⟩:=Option.map_eq_some_iff.1 h4
     simp only [Prod.mk.injEq] at h6
     obtain ⟨rfl,rfl⟩:=h6
     have e1:=hasT_eats hl (by decide) h2
     have e2:=hp _ _ _ e1.ok h3
     have e3:=hb _ _ _ e2.ok h5
     exact ((e1.trans e2).trans e3).cast (by simp [stmtW_mk,stmtO,exprWs,at_,blockW])
   | none=>
     rw [h2] at h
     obtain ⟨⟨s',q⟩,h3,h4⟩:=Option.bind_eq_some_iff.1 h
     obtain ⟨q1,h5,h6⟩:=Option.map_eq_some_iff.1 h4
     simp only [Prod.mk.injEq] at h6
     obtain ⟨rfl,rfl⟩:=h6
     obtain ⟨ws,e1,e2⟩:=simpleP_eats hl h3
     exact (e2.trans (hasT_eats e2.ok (by simp) h5)).cast e1.symm
theorem stmtsL_eats {ps:Tk→Option (TStmt×Tk)} (hp:∀l x r,AllOk l→ps l=some (x,r)→Eats l (stmtW x) r):∀(n:Nat) (l:Tk) (xs:List TStmt) (r:Tk),AllOk l→stmtsL ps n l=some (xs,r)→Eats l (stmtWs xs++[[125]]) r
 | 0,_,_,_,_,h=>by cases h
 | n+1,l,xs,r,hl,h=>by
   unfold stmtsL at h
   cases hd:hasT [125] l with
   | some q=>
     rw [hd] at h
     simp only [Option.some.injEq,Prod.mk.injEq] at h
     obtain ⟨rfl,rfl⟩:=h
     exact (hasT_eats hl (by simp) hd).cast (by simp [stmtWs])
   | none=>
     rw [hd] at h
     obtain ⟨⟨s,q⟩,h1,h2⟩:=Option.bind_eq_some_iff.1 h
     obtain ⟨⟨ys,q1⟩,h3,h4⟩:=Option.map_eq_some_iff.1 h2
     simp only [Prod.mk.injEq] at h4
     obtain ⟨rfl,rfl⟩:=h4
     have e1:=hp l s q hl h1
     exact (e1.trans (stmtsL_eats hp n q ys q1 e1.ok h3)).cast (by simp [stmtWs])
theorem blockP_eats:∀f,SoundB (blockP f)
 | 0=>fun _ _ _ _ h=>by cases h
 | f+1=>by
   intro l x r hl h
   unfold blockP at h
   obtain ⟨q,h1,h2⟩:=Option.bind_eq_some_iff.1 h
   have e1:=hasT_eats hl (by simp) h1
   exact (e1.trans (stmtsL_eats (fun l x r hl h=>stmtP_eats (blockP_eats f) hl h) _ q x r e1.ok h2)).cast (by simp [blockW,blkW])
def pubD (d:TDecl):List Tx:=declO d++[[59]]
theorem declP_eats {pub:Bool} {l r:Tk} {d:TDecl} (hl:AllOk l) (h:declP pub l=some (some d,r)):Eats l (pubD d) r∧d.pub=pub:=by
 unfold declP at h
 cases h1:hasT w_const l with
 | some q=>
   rw [h1] at h
   obtain ⟨⟨a,q1⟩,h2,h3⟩:=Option.bind_eq_some_iff.1 h
   obtain ⟨q2,h4,h5⟩:=Option.bind_eq_some_iff.1 h3
   obtain ⟨⟨n,q3⟩,h6,h7⟩:=Option.bind_eq_some_iff.1 h5
   obtain ⟨q4,h8,h9⟩:=Option.map_eq_some_iff.1 h7
   simp only [Prod.mk.injEq,Option.some.injEq] at h9
   obtain ⟨rfl,rfl⟩:=h9
   have e1:=hasT_eats hl (by decide) h1
   have e2:=(namP_eats e1.ok h2).1
   have e3:=hasT_eats e2.ok (by simp) h4
   have e4:=numP_eats e3.ok h6
   have e5:=hasT_eats e4.ok (by simp) h8
   exact ⟨((((e1.trans e2).trans e3).trans e4).trans e5).cast (by simp [pubD,declO]),rfl⟩
 | none=>
   rw [h1] at h
   simp only at h
   cases h2:hasT w_var l with
   | some q=>
     rw [h2] at h
     obtain ⟨⟨a,q1⟩,h3,h4⟩:=Option.bind_eq_some_iff.1 h
     obtain ⟨q2,h5,h6⟩:=Option.map_eq_some_iff.1 h4
     simp only [Prod.mk.injEq,Option.some.injEq] at h6
     obtain ⟨rfl,rfl⟩:=h6
     have e1:=hasT_eats hl (by decide) h2
     have e2:=(namP_eats e1.ok h3).1
     have e3:=hasT_eats e2.ok (by simp) h5
     exact ⟨((e1.trans e2).trans e3).cast (by simp [pubD,declO]),rfl⟩
   | none=>
     rw [h2] at h
     simp only at h
     cases h3:hasT w_array l with
     | some q=>
       rw [h3] at h
       obtain ⟨⟨a,q1⟩,h4,h5⟩:=Option.bind_eq_some_iff.1 h
       obtain ⟨q2,h6,h7⟩:=Option.bind_eq_some_iff.1 h5
       obtain ⟨⟨n,q3⟩,h8,h9⟩:=Option.bind_eq_some_iff.1 h7
       obtain ⟨q4,h10,h11⟩:=Option.bind_eq_some_iff.1 h9
       obtain ⟨q5,h12,h13⟩:=Option.map_eq_some_iff.1 h11
       simp only [Prod.mk.injEq,Option.some.injEq] at h13
       obtain ⟨rfl,rfl⟩:=h13
       have e1:=hasT_eats hl (by decide) h3
       have e2:=(namP_eats e1.ok h4).1
       have e3:=hasT_eats e2.ok (by simp) h6
       have e4:=numP_eats e3.ok h8
       have e5:=hasT_eats e4.ok (by simp) h10
       have e6:=hasT_eats e5.ok (by simp) h12
       exact ⟨(((((e1.trans e2).trans e3).trans e4).trans e5).trans e6).cast (by simp [pubD,declO]),rfl⟩
     | none=>
       rw [h3] at h
       simp at h
theorem declP_none {pub:Bool} {l r:Tk} (h:declP pub l=some (none,r)):r=l:=by
 unfold declP at h
 split at h
 · obtain ⟨_,_,h⟩:=Option.bind_eq_some_iff.1 h
   obtain ⟨_,_,h⟩:=Option.bind_eq_some_iff.1 h
   obtain ⟨_,_,h⟩:=Option.bind_eq_some_iff.1 h
   obtain ⟨_,_,h⟩:=Option.map_eq_some_iff.1 h
   simp at h
 · split at h
   · obtain ⟨_,_,h⟩:=Option.bind_eq_some_iff.1 h
     obtain ⟨_,_,h⟩:=Option.map_eq_some_iff.1 h
     simp at h
   · split at h
     · obtain ⟨_,_,h⟩:=Option.bind_eq_some_iff.1 h
       obtain ⟨_,_,h⟩:=Option.bind_eq_some_iff.1 h
       obtain ⟨_,_,h⟩:=Option.bind_eq_some_iff.1 h
       obtain ⟨_,_,h⟩:=Option.bind_eq_some_iff.1 h
       obtain ⟨_,_,h⟩:=Option.map_eq_some_iff.1 h
       simp at h
     · simp at h; exact h.symm
theorem paramsL_eats:∀(n:Nat) (first:Bool) (l:Tk) (xs:List Tx) (r:Tk),AllOk l→paramsL n first l=some (xs,r)→Eats l ((if first=true∨xs=[] then [] else [[44]])++commaW (xs.map fun s=>[s])++[[41]]) r
 | 0,_,_,_,_,_,h=>by cases h
 | n+1,first,l,xs,r,hl,h=>by
   unfold paramsL at h
   cases hd:hasT [41] l with
   | some q=>
     rw [hd] at h
     simp only [Option.some.injEq,Prod.mk.injEq] at h
     obtain ⟨rfl,rfl⟩:=h
     exact (hasT_eats hl (by simp) hd).cast (by simp [commaW])
   | none=>
     rw [hd] at h
     obtain ⟨l1,h1,h2⟩:=Option.bind_eq_some_iff.1 h
     obtain ⟨⟨a,q⟩,h3,h4⟩:=Option.bind_eq_some_iff.1 h2
     obtain ⟨⟨ys,q1⟩,h5,h6⟩:=Option.map_eq_some_iff.1 h4
     simp only [Prod.mk.injEq] at h6
     obtain ⟨rfl,rfl⟩:=h6
     have e0:Eats l (if first=true then [] else [[44]]) l1:=by
       cases first with
       | true=>
         simp only [if_true,Option.some.injEq] at h1
         subst h1; exact Eats.nil hl
       | false=>exact hasT_eats hl (by simp) h1
     have e1:=(namP_eats e0.ok h3).1
     have e2:=paramsL_eats n false q ys q1 e1.ok h5
     refine ((e0.trans e1).trans e2).cast ?_
     cases ys with
     | nil=>cases first<;>simp [commaW]
     | cons y ys=>cases first<;>simp [commaW]
theorem locsL_eats:∀(n:Nat) (l:Tk) (xs:List Tx) (r:Tk),AllOk l→locsL n l=some (xs,r)→Eats l (xs.flatMap locW) r
 | 0,_,_,_,_,h=>by cases h
 | n+1,l,xs,r,hl,h=>by
   unfold locsL at h
   cases hd:hasT w_local l with
   | none=>
     rw [hd] at h
     simp only [Option.some.injEq,Prod.mk.injEq] at h
     obtain ⟨rfl,rfl⟩:=h
     exact Eats.nil hl
   | some q=>
     rw [hd] at h
     obtain ⟨⟨a,q1⟩,h1,h2⟩:=Option.bind_eq_some_iff.1 h
     obtain ⟨q2,h3,h4⟩:=Option.bind_eq_some_iff.1 h2
     obtain ⟨⟨ys,q3⟩,h5,h6⟩:=Option.map_eq_some_iff.1 h4
     simp only [Prod.mk.injEq] at h6
     obtain ⟨rfl,rfl⟩:=h6
     have e1:=hasT_eats hl (by decide) hd
     have e2:=(namP_eats e1.ok h1).1
     have e3:=hasT_eats e2.ok (by simp) h3
     exact (((e1.trans e2).trans e3).trans (locsL_eats n q2 ys q3 e3.ok h5)).cast (by simp [locW])
def procB (p:TProc):List Tx:=[p.nm,[40]]++commaW (p.params.map fun s=>[s])++[[41]]++p.locs.flatMap locW++blockW p.body
theorem procP_eats {pub:Bool} {l r:Tk} {p:TProc} (hl:AllOk l) (h:procP pub l=some (p,r)):Eats l (procB p) r∧p.pub=pub:=by
 unfold procP at h
 obtain ⟨⟨a,q1⟩,h1,h2⟩:=Option.bind_eq_some_iff.1 h
 obtain ⟨q2,h3,h4⟩:=Option.bind_eq_some_iff.1 h2
 obtain ⟨⟨ps,q3⟩,h5,h6⟩:=Option.bind_eq_some_iff.1 h4
 obtain ⟨⟨ls,q4⟩,h7,h8⟩:=Option.bind_eq_some_iff.1 h6
 obtain ⟨⟨b,q5⟩,h9,h10⟩:=Option.map_eq_some_iff.1 h8
 simp only [Prod.mk.injEq] at h10
 obtain ⟨rfl,rfl⟩:=h10
 have e1:=(namP_eats hl h1).1
 have e2:=hasT_eats e1.ok (by simp) h3
 have e3:=paramsL_eats _ _ _ _ _ e2.ok h5
 have e4:=locsL_eats _ _ _ _ e3.ok h7
 have e5:=blockP_eats 6 _ _ _ e4.ok h9
 exact ⟨((((e1.trans e2).trans e3).trans e4).trans e5).cast (by simp [procB]),rfl⟩
end Go.Bw
end
section
namespace Go.Bw
open Go
set_option linter.unusedVariables false
set_option linter.unusedSimpArgs false
def TW (l:List Tx):Tk:=l.map putTok
theorem TW_nil:TW []=[]:=rfl
theorem TW_app (a b:List Tx):TW (a++b)=TW a++TW b:=List.map_append
theorem TW_cons (x:Tx) (b:List Tx):TW (x::b)=putTok x::TW b:=rfl
theorem has_name {s w:Tx} {r:Tk} (h:nameB w=true):hasT s (putTok w::r)=if (w==s)=true then some r else none:=by
 rw [name_atoi h]; rfl
theorem has_sign {s:Tx} {u:UInt8} {r:Tk} (h:u ∈ signL):hasT s (putTok [u]::r)=if ([u]==s)=true then some r else none:=by
 rw [sign_atoi u h]; rfl
theorem has_num {s:Tx} {n:Int} {r:Tk} (h0:0≤n) (h1:n≤1099511627775) (hs:s≠[]):hasT s (putTok (Lib.itoa n)::r)=none:=by
 rw [put_itoa h0 h1]
 simp only [hasT]
 rw [if_neg]
 intro h
 simp only [beq_iff_eq] at h
 exact hs h.symm
theorem nam_name {w:Tx} {r:Tk} (h:nameT w=true):namP (putTok w::r)=some (w,r):=by
 rw [name_atoi (nameT_B h)]
 simp [namP,nextT,h]
theorem num_itoa {n:Int} {r:Tk} (h0:0≤n) (h1:n≤1099511627775):numP (putTok (Lib.itoa n)::r)=some (n,r):=by
 rw [put_itoa h0 h1]
 simp [numP,nextT]
theorem name_word {w s:Tx} (h:nameT w=true) (hs:s ∈ wordsL):(w==s)=false:=by
 rw [Bool.eq_false_iff]
 intro e
 simp only [beq_iff_eq] at e
 subst e
 simp only [nameT,Bool.and_eq_true,Bool.not_eq_true',List.contains_eq_mem,decide_eq_false_iff_not] at h
 exact h.2 hs
theorem name_sign {w:Tx} {u:UInt8} (h:nameB w=true) (hu:letterB (u.toNat:Int)=false):(w==[u])=false:=by
 rw [Bool.eq_false_iff]
 intro e
 simp only [beq_iff_eq] at e
 subst e
 simp only [nameB,Bool.and_eq_true] at h
 have:=h.1.2
 simp at this
 rw [this] at hu
 cases hu
theorem hasN {w s:Tx} {r:Tk} (h:nameT w=true) (hs:s ∈ wordsL):hasT s (putTok w::r)=none:=by
 rw [has_name (nameT_B h),name_word h hs]; rfl
theorem hasNS {w:Tx} {u:UInt8} {r:Tk} (h:nameT w=true) (hu:letterB (u.toNat:Int)=false):hasT [u] (putTok w::r)=none:=by
 rw [has_name (nameT_B h),name_sign (nameT_B h) hu]; rfl
structure Stop (q:Tk):Prop where
 dot:hasT [46] q=none
 br:hasT [91] q=none
 pa:hasT [40] q=none
theorem stop_sign {u:UInt8} {q:Tk} (h:u ∈ signL) (h1:u≠46) (h2:u≠91) (h3:u≠40):Stop (putTok [u]::q):=
 ⟨by rw [has_sign h,if_neg (by simpa using h1)],by rw [has_sign h,if_neg (by simpa using h2)],by rw [has_sign h,if_neg (by simpa using h3)]⟩
theorem refP_T {mod nm:Tx} {q:Tk} (h:badName true mod nm=false) (hq:hasT [46] q=none):refP (TW (refW mod nm)++q)=some ((mod,nm),q):=by
 obtain ⟨h1,h2⟩:=badName_ref h
 unfold refW
 split
 · rename_i hm
   simp only [beq_iff_eq] at hm
   subst hm
   show refP (putTok nm::q)=_
   unfold refP
   rw [nam_name h2]
   simp only [Option.bind_some]
   rw [hq]
 · rename_i hm
   have hm1:nameT mod=true:=h1.resolve_left (by simpa using hm)
   show refP (putTok mod::putTok [46]::putTok nm::q)=_
   unfold refP
   rw [nam_name hm1]
   simp only [Option.bind_some]
   rw [has_sign (by decide)]
   simp only [beq_self_eq_true,if_true]
   rw [nam_name h2]
   rfl
theorem refW_first {mod nm:Tx} (h:badName true mod nm=false):∃w r,refW mod nm=w::r∧nameT w=true:=by
 obtain ⟨h1,h2⟩:=badName_ref h
 unfold refW
 split
 · exact ⟨nm,[],rfl,h2⟩
 · rename_i hm
   exact ⟨mod,_,rfl,h1.resolve_left (by simpa using hm)⟩
theorem ref_has {mod nm s:Tx} {q:Tk} (h:badName true mod nm=false) (hs:s ∈ wordsL∨∃u,s=[u]∧letterB (u.toNat:Int)=false):hasT s (TW (refW mod nm)++q)=none:=by
 obtain ⟨w,r,e,hw⟩:=refW_first h
 rw [e]
 rcases hs with hs | ⟨u,rfl,hu⟩
 · exact hasN hw hs
 · exact hasNS hw hu
theorem exprP_ref {mod nm:Tx} {q:Tk} {f:Nat} (h:badName true mod nm=false) (hq:hasT [46] q=none):exprP (f+1) (TW (refW mod nm)++q)=tailP (exprP f) mod nm q:=by
 have hr:=refP_T h hq
 have e1:=ref_has (s:=w_in) (q:=q) h (.inl (by decide))
 have e2:=ref_has (s:=[33]) (q:=q) h (.inr ⟨33,rfl,by decide⟩)
 have e3:=ref_has (s:=[40]) (q:=q) h (.inr ⟨40,rfl,by decide⟩)
 obtain ⟨w,r,e,hw⟩:=refW_first h
 rw [e] at hr e1 e2 e3 ⊢
 rw [TW_cons,List.cons_append] at hr e1 e2 e3 ⊢
 have hk:(putTok w).kind=1:=by rw [name_atoi (nameT_B hw)]
 unfold exprP
 simp only []
 rw [if_neg (by omega)]
 unfold restP
 rw [e1,e2,e3]
 simp only []
 rw [hr]
 rfl
theorem exprP_word {w:Tx} {r:Tk} {f:Nat} (hk:(putTok w).kind≠2):exprP (f+1) (putTok w::r)=restP (exprP f) (putTok w::r):=by
 rw [exprP,if_neg hk]
theorem kind_sign {u:UInt8} (h:u ∈ signL):(putTok [u]).kind≠2:=by
 rw [sign_atoi u h]
 show (3:Int)≠2
 decide
def stopB (u:UInt8):Bool:=signL.contains u&&(!(u==46)&&(!(u==91)&&!(u==40)))
theorem stopT (u:UInt8) (q:Tk) (h:stopB u=true):Stop (TW [[u]]++q):=by
 simp [stopB] at h
 exact stop_sign h.1 h.2.1 h.2.2.1 h.2.2.2
theorem stopC (u:UInt8) (q:Tk) (h:stopB u=true):Stop (putTok [u]::q):=stopT u q h
theorem restP_not {pe:Tk→Option (TExpr×Tk)} {r:Tk}:restP pe (putTok [33]::r)=(pe r).map fun x=>(TExpr.mk 6 0 [] [] [x.1],x.2):=by
 unfold restP
 rw [has_sign (by decide),has_sign (by decide)]
 rfl
theorem restP_two {pe:Tk→Option (TExpr×Tk)} {r:Tk}:restP pe (putTok [40]::r)=twoP pe r:=by
 unfold restP
 rw [has_sign (by decide),has_sign (by decide),has_sign (by decide)]
 rfl
theorem opP_T {q:Tk}:∀(j:Nat),j<9→opP opsL 0 (putTok ((opsL[j]?).getD [])::q)=some (j,q)
 | 0,_=>rfl
 | 1,_=>rfl
 | 2,_=>rfl
 | 3,_=>rfl
 | 4,_=>rfl
 | 5,_=>rfl
 | 6,_=>rfl
 | 7,_=>rfl
 | 8,_=>rfl
 | n+9,h=>absurd h (by omega)
theorem stop_op (op:Int) {q:Tk} (h:7≤op∧op≤15):Stop (putTok (opW op)::q):=by
 have:op=7∨op=8∨op=9∨op=10∨op=11∨op=12∨op=13∨op=14∨op=15:=by omega
 rcases this with rfl | rfl | rfl | rfl | rfl | rfl | rfl | rfl | rfl<;>exact stop_sign (by decide) (by decide) (by decide) (by decide)
theorem badName_E {op:Int} {mod nm:Tx} (h:badName (within_ op 3 5) mod nm=false):(3≤op∧op≤5→badName true mod nm=false)∧(¬(3≤op∧op≤5)→mod=[]∧nm=[]):=by
 refine ⟨fun hk=>?_,fun hk=>?_⟩
 · rw [show within_ op 3 5=true by simp [within_]; omega] at h; exact h
 · rw [show within_ op 3 5=false by rw [Bool.eq_false_iff]; simp [within_]; omega] at h; exact badName_no h
theorem numBad_no {op n:Int} (h:numBad op n=false) (hk:op≠1):n=0:=by
 simp [numBad,hk] at h; exact h
theorem argsW_len {l:List (List Tx)}:l.length≤(commaW l).length∨∃x ∈ l,x=[]:=by
 induction l with
 | nil=>exact .inl (Nat.zero_le _)
 | cons x r ih=>
   by_cases hx:x=[]
   · exact .inr ⟨x,by simp,hx⟩
   have hl:1≤x.length:=by cases x; exact absurd rfl hx; simp
   rcases ih with ih | ⟨y,hy,e⟩
   · cases r with
     | nil=>left; simpa [commaW] using hl
     | cons y r=>left; simp only [commaW,List.length_append,List.length_cons] at ih ⊢; omega
   · exact .inr ⟨y,List.mem_cons_of_mem _ hy,e⟩
theorem commaW_len (l:List TExpr):l.length≤(commaW (exprWs l)).length:=by
 rcases argsW_len (l:=exprWs l) with h | ⟨x,hx,e⟩
 · rwa [exprWs_len] at h
 · exact absurd e (exprWs_ne l x hx)
theorem exprW_no41:∀(x:TExpr) (d:Nat) (q:Tk),(cntE x d).tot=0→hasT [41] (TW (exprW x)++q)=none
 | .mk op n mod nm args,d,q,h=>by
   have ho:=okE h
   have hk:=ho.kind
   obtain ⟨hn1,hn2⟩:=badName_E ho.name
   unfold exprW exprO
   by_cases h1:op=1
   · subst h1
     obtain ⟨a,b⟩:=numBad1 ho.num
     exact has_num a b (by simp)
   rw [if_neg h1]
   by_cases h2:op=2
   · rw [if_pos h2]; rfl
   rw [if_neg h2]
   by_cases h35:op≤5
   · have hb:=hn1 ⟨by omega,h35⟩
     have hh:∀q,hasT [41] (TW (refW mod nm)++q)=none:=fun q=>ref_has hb (.inr ⟨41,rfl,by decide⟩)
     split
     · exact hh _
     · split
       · rw [List.append_assoc,List.append_assoc,TW_app,List.append_assoc]; exact hh _
       · rw [if_pos (by omega),TW_app,List.append_assoc]; exact hh _
   · rw [if_neg (by omega),if_neg (by omega),if_neg (by omega)]
     split<;>rfl
mutual
theorem exprP_T:∀(x:TExpr) (d:Nat),(cntE x d).tot=0→∀(f:Nat),f+d=7→∀(q:Tk),Stop q→exprP f (TW (exprW x)++q)=some (x,q)
 | .mk op n mod nm args,d,h,f,hf,q,hq=>by
   have ho:=okE h
   have hk:=ho.kind
   have hd:=ho.deep
   obtain ⟨f,rfl⟩:∃g,f=g+1:=⟨f-1,by omega⟩
   obtain ⟨hn1,hn2⟩:=badName_E ho.name
   have hargs:=exprPs_T args (d+1) ho.sub f (by omega)
   have hw:=exprW_mk op n mod nm args
   rw [hw]
   unfold exprO
   by_cases h1:op=1
   · subst h1
     obtain ⟨a,b⟩:=numBad1 ho.num
     obtain ⟨rfl,rfl⟩:=hn2 (by omega)
     have hz:args=[]:=by
       have:=ho.nargs
       simp [badArgs,exprArgsT] at this
       exact this
     subst hz
     show exprP (f+1) (putTok (Lib.itoa n)::q)=_
     rw [put_itoa a b,exprP]
     rfl
   rw [if_neg h1]
   have hn:=numBad_no ho.num h1
   subst hn
   by_cases h2:op=2
   · subst h2
     obtain ⟨rfl,rfl⟩:=hn2 (by omega)
     have hz:args=[]:=by
       have:=ho.nargs
       simp [badArgs,exprArgsT] at this
       exact this
     subst hz
     rfl
   rw [if_neg h2]
   by_cases h3:op=3
   · subst h3
     have hz:args=[]:=by
       have:=ho.nargs
       simp [badArgs,exprArgsT] at this
       exact this
     subst hz
     rw [if_pos rfl,exprP_ref (hn1 (by omega)) hq.dot]
     unfold tailP
     rw [hq.br,hq.pa]
   rw [if_neg h3]
   by_cases h4:op=4
   · subst h4
     have hl:=ho.len1 (.inl rfl)
     match args,hl,hargs with
     | [x],_,hargs=>
       rw [if_pos rfl]
       simp only [exprWs,at_,List.getElem?_cons_zero,Option.getD_some,TW_app,List.append_assoc]
       rw [exprP_ref (hn1 (by omega)) (by rfl)]
       unfold tailP
       rw [show hasT [91] (TW [[91]]++(TW (exprW x)++(TW [[93]]++q)))=some (TW (exprW x)++(TW [[93]]++q)) from rfl]
       simp only []
       rw [hargs.1 0 x rfl _ (stopT 93 _ (by decide))]
       rfl
   rw [if_neg h4]
   by_cases h5:op=5
   · subst h5
     rw [if_pos rfl]
     simp only [argsW,TW_app,List.append_assoc]
     rw [exprP_ref (hn1 (by omega)) (by rfl)]
     unfold tailP
     rw [show ∀r,hasT [91] (TW [[40]]++r)=none from fun r=>rfl,show ∀r,hasT [40] (TW [[40]]++r)=some r from fun r=>rfl]
     simp only []
     rw [hargs.2 q]
     rfl
   rw [if_neg h5]
   obtain ⟨rfl,rfl⟩:=hn2 (by omega)
   by_cases h6:op=6
   · subst h6
     have hl:=ho.len1 (.inr rfl)
     match args,hl,hargs with
     | [x],_,hargs=>
       rw [if_pos rfl]
       simp only [exprWs,at_,List.getElem?_cons_zero,Option.getD_some,TW_app,List.append_assoc]
       show exprP (f+1) (putTok [33]::(TW (exprW x)++q))=_
       rw [exprP_word (kind_sign (by decide)),restP_not,hargs.1 0 x rfl _ hq]
       rfl
   rw [if_neg h6]
   have hl:=ho.len2 (by omega)
   match args,hl,hargs with
   | [x,y],_,hargs=>
     simp only [exprWs,at_,List.getElem?_cons_zero,List.getElem?_cons_succ,Option.getD_some,TW_app,List.append_assoc]
     show exprP (f+1) (putTok [40]::(TW (exprW x)++(putTok (opW op)::(TW (exprW y)++(putTok [41]::q)))))=_
     rw [exprP_word (kind_sign (by decide)),restP_two,twoP,hargs.1 0 x rfl _ (stop_op op ⟨by omega,hk.2⟩)]
     simp only [Option.bind_some]
     rw [show opP opsL 0 (putTok (opW op)::(TW (exprW y)++(putTok [41]::q)))=some ((op-7).toNat,TW (exprW y)++(putTok [41]::q)) from opP_T _ (by omega)]
     simp only [Option.bind_some]
     rw [hargs.1 1 y rfl _ (stopC 41 _ (by decide))]
     simp only [Option.bind_some]
     rw [has_sign (by decide)]
     simp only [beq_self_eq_true,if_true,Option.map_some]
     rw [show (7:Int)+((op-7).toNat:Int)=op by omega]
theorem exprPs_T:∀(l:List TExpr) (d:Nat),(cntEs l d).tot=0→∀(f:Nat),f+d=7→
   (∀(i:Nat) (x:TExpr),l[i]? = some x→∀(q:Tk),Stop q→exprP f (TW (exprW x)++q)=some (x,q))∧
   (∀(q:Tk),argsP (exprP f) (TW (commaW (exprWs l))++(TW [[41]]++q))=some (l,q))
 | [],_,_,_,_=>⟨by simp,fun q=>rfl⟩
 | x::r,d,h,f,hf=>by
   obtain ⟨h1,h2⟩:=okEs h
   have hx:=exprP_T x d h1 f hf
   have hr:=exprPs_T r d h2 f hf
   have hall:∀(i:Nat) (y:TExpr),(x::r)[i]? = some y→∀(q:Tk),Stop q→exprP f (TW (exprW y)++q)=some (y,q):=by
     intro i y hy
     cases i with
     | zero=>simp at hy; subst hy; exact hx
     | succ i=>exact hr.1 i y (by simpa using hy)
   refine ⟨hall,fun q=>?_⟩
   have hlist:∀(l:List TExpr),(∀(i:Nat) (y:TExpr),l[i]? = some y→∀(q:Tk),Stop q→exprP f (TW (exprW y)++q)=some (y,q))→l≠[]→∀n,l.length≤n→argsL (exprP f) n (TW (commaW (exprWs l))++(TW [[41]]++q))=some (l,q):=by
     intro l
     induction l with
     | nil=>intro _ h; exact absurd rfl h
     | cons z t ih=>
       intro ha _ n hn
       obtain ⟨n,rfl⟩:∃m,n=m+1:=⟨n-1,by simp at hn; omega⟩
       cases t with
       | nil=>
         simp only [exprWs,commaW]
         unfold argsL
         rw [ha 0 z rfl _ (stopT 41 _ (by decide))]
         rfl
       | cons y t=>
         simp only [exprWs,commaW,TW_app,List.append_assoc]
         unfold argsL
         rw [ha 0 z rfl _ (stopT 44 _ (by decide))]
         simp only [Option.bind_some]
         rw [show ∀r,hasT [41] (TW [[44]]++r)=none from fun r=>rfl,show ∀r,hasT [44] (TW [[44]]++r)=some r from fun r=>rfl]
         simp only []
         have:=ih (fun i u hu=>ha (i+1) u (by simpa using hu)) (by simp) n (by simp at hn ⊢; omega)
         simp only [exprWs] at this
         rw [this]
         rfl
   have h41:hasT [41] (TW (commaW (exprWs (x::r)))++(TW [[41]]++q))=none:=by
     cases r with
     | nil=>simp only [exprWs,commaW]; exact exprW_no41 x d _ h1
     | cons y r=>simp only [exprWs,commaW,TW_app,List.append_assoc]; exact exprW_no41 x d _ h1
   unfold argsP
   rw [h41]
   simp only []
   refine hlist (x::r) hall (by simp) _ ?_
   have:=commaW_len (x::r)
   simp only [List.length_append,TW,List.length_map]
   omega
end
theorem badName_S {op:Int} {mod nm:Tx} (h:badName (within_ op 1 3) mod nm=false):(1≤op∧op≤3→badName true mod nm=false)∧(¬(1≤op∧op≤3)→mod=[]∧nm=[]):=by
 refine ⟨fun hk=>?_,fun hk=>?_⟩
 · rw [show within_ op 1 3=true by simp [within_]; omega] at h; exact h
 · rw [show within_ op 1 3=false by rw [Bool.eq_false_iff]; simp [within_]; omega] at h; exact badName_no h
theorem simpleP_ref {mod nm:Tx} {q:Tk} (h:badName true mod nm=false) (hq:hasT [46] q=none):simpleP (TW (refW mod nm)++q)=(match hasT [40] q with
     | some r=>(argsP (exprP 6) r).map fun q=>(TStmt.mk 3 mod nm q.1 [] [],q.2)
     | none=>match hasT [91] q with
       | some r=>(exprP 6 r).bind fun i=>(hasT [93] i.2).bind fun r=>(hasT [61] r).bind fun r=>(exprP 6 r).map fun x=>(TStmt.mk 2 mod nm [i.1,x.1] [] [],x.2)
       | none=>(hasT [61] q).bind fun r=>(exprP 6 r).map fun x=>(TStmt.mk 1 mod nm [x.1] [] [],x.2)):=by
 unfold simpleP
 rw [ref_has (s:=w_return) h (.inl (by decide)),ref_has (s:=w_out) h (.inl (by decide))]
 simp only []
 rw [refP_T h hq]
 rfl
theorem stmtP_simple {pb:Tk→Option (List TStmt×Tk)} {l:Tk} (h1:hasT w_if l=none) (h2:hasT w_while l=none):stmtP pb l=(simpleP l).bind fun s=>(hasT [59] s.2).map fun r=>(s.1,r):=by
 unfold stmtP
 rw [h1,h2]
def BackB (pb:Tk→Option (List TStmt×Tk)) (d:Nat):Prop:=∀(l:List TStmt),(cntB l d).tot=0→∀q,pb (TW (blockW l)++q)=some (l,q)
theorem stmtP_T {pb:Tk→Option (List TStmt×Tk)} {d:Nat} (hb:BackB pb (d+1)) (x:TStmt) (h:(cntS x d).tot=0) (q:Tk) (hq:hasT w_else q=none):stmtP pb (TW (stmtW x)++q)=some (x,q):=by
 obtain ⟨op,mod,nm,args,body,other⟩:=x
 have ho:=okS h
 have hk:=ho.kind
 have hx:=exprPs_T args 1 ho.exprs 6 rfl
 obtain ⟨hn1,hn2⟩:=badName_S ho.name
 obtain ⟨hb1,hb2⟩:=ho.noBody
 rw [stmtW_mk]
 unfold stmtO
 rcases (by omega:op=1∨op=2∨op=3∨op=4∨op=5∨op=6∨op=7) with rfl | rfl | rfl | rfl | rfl | rfl | rfl
 · have hl:=ho.len (by decide)
   obtain rfl:=hb1 (by decide)
   obtain rfl:=hb2 (by decide)
   have hn:=hn1 (by omega)
   match args,hl,hx with
   | [x],_,hx=>
     simp only [if_true,if_false,reduceCtorEq,Int.reduceEq,or_self,exprWs,at_,List.getElem?_cons_zero,Option.getD_some,TW_app,List.append_assoc]
     rw [stmtP_simple (ref_has hn (.inl (by decide))) (ref_has hn (.inl (by decide))),simpleP_ref hn (by rfl),show ∀r,hasT [40] (TW [[61]]++r)=none from fun r=>rfl,show ∀r,hasT [91] (TW [[61]]++r)=none from fun r=>rfl,show ∀r,hasT [61] (TW [[61]]++r)=some r from fun r=>rfl]
     simp only [Option.bind_some]
     rw [hx.1 0 x rfl _ (stopT 59 _ (by decide))]
     rfl
 · have hl:=ho.len (by decide)
   obtain rfl:=hb1 (by decide)
   obtain rfl:=hb2 (by decide)
   have hn:=hn1 (by omega)
   match args,hl,hx with
   | [x,y],_,hx=>
     simp only [if_true,if_false,Int.reduceEq,or_self,exprWs,at_,List.getElem?_cons_zero,List.getElem?_cons_succ,Option.getD_some,TW_app,List.append_assoc]
     rw [stmtP_simple (ref_has hn (.inl (by decide))) (ref_has hn (.inl (by decide))),simpleP_ref hn (by rfl),show ∀r,hasT [40] (TW [[91]]++r)=none from fun r=>rfl,show ∀r,hasT [91] (TW [[91]]++r)=some r from fun r=>rfl]
     simp only []
     rw [show ∀r,TW [[93],[61]]++r=TW [[93]]++(TW [[61]]++r) from fun r=>rfl,hx.1 0 x rfl _ (stopT 93 _ (by decide))]
     simp only [Option.bind_some]
     rw [show ∀r,hasT [93] (TW [[93]]++r)=some r from fun r=>rfl]
     simp only [Option.bind_some]
     rw [show ∀r,hasT [61] (TW [[61]]++r)=some r from fun r=>rfl]
     simp only [Option.bind_some]
     rw [hx.1 1 y rfl _ (stopT 59 _ (by decide))]
     rfl
 · obtain rfl:=hb1 (by decide)
   obtain rfl:=hb2 (by decide)
   have hn:=hn1 (by omega)
   simp only [if_true,if_false,Int.reduceEq,or_self,argsW,TW_app,List.append_assoc]
   rw [stmtP_simple (ref_has hn (.inl (by decide))) (ref_has hn (.inl (by decide))),simpleP_ref hn (by rfl),show ∀r,hasT [40] (TW [[40]]++r)=some r from fun r=>rfl]
   simp only []
   rw [hx.2]
   rfl
 · have hl:=ho.len (by decide)
   have hbb:=hb body (ho.body rfl)
   obtain ⟨rfl,rfl⟩:=hn2 (by omega)
   match args,hl,hx with
   | [x],_,hx=>
     simp only [if_true,if_false,Int.reduceEq,or_false,true_or,exprWs,at_,List.getElem?_cons_zero,Option.getD_some,TW_app,List.append_assoc]
     unfold stmtP
     rw [show ∀r,hasT w_if (TW [w_if]++r)=some r from fun r=>rfl]
     simp only []
     have hstop:∀r,Stop (TW (blkW (stmtWs body))++r):=fun r=>stopC 123 _ (by decide)
     rw [hx.1 0 x rfl _ (hstop _)]
     simp only [Option.bind_some]
     have hbb':∀q,pb (TW (blkW (stmtWs body))++q)=some (body,q):=hbb
     rw [hbb']
     simp only [Option.bind_some]
     by_cases hol:0<other.length
     · rw [if_pos hol]
       have hoo:∀q,pb (TW (blkW (stmtWs other))++q)=some (other,q):=hb other (ho.other hol)
       simp only [TW_app,List.append_assoc]
       rw [show ∀r,hasT w_else (TW [w_else]++r)=some r from fun r=>rfl]
       simp only []
       rw [hoo]
       simp only [Option.bind_some]
       rw [if_neg (by omega)]
     · rw [if_neg hol]
       have:other=[]:=List.eq_nil_of_length_eq_zero (by omega)
       subst this
       rw [TW_nil,List.nil_append,hq]
 · have hl:=ho.len (by decide)
   have hbb:∀q,pb (TW (blkW (stmtWs body))++q)=some (body,q):=hb body (ho.body rfl)
   obtain ⟨rfl,rfl⟩:=hn2 (by omega)
   obtain rfl:=hb2 (by decide)
   match args,hl,hx with
   | [x],_,hx=>
     simp only [if_true,if_false,Int.reduceEq,or_true,exprWs,at_,List.getElem?_cons_zero,Option.getD_some,TW_app,List.append_assoc,List.length_nil,Nat.lt_irrefl,TW_nil,List.nil_append]
     unfold stmtP
     rw [show ∀r,hasT w_if (TW [w_while]++r)=none from fun r=>rfl,show ∀r,hasT w_while (TW [w_while]++r)=some r from fun r=>rfl]
     simp only []
     have hstop:∀r,Stop (TW (blkW (stmtWs body))++r):=fun r=>stopC 123 _ (by decide)
     rw [hx.1 0 x rfl _ (hstop _)]
     simp only [Option.bind_some]
     rw [hbb]
     rfl
 · have hl:=ho.len (by decide)
   obtain rfl:=hb1 (by decide)
   obtain rfl:=hb2 (by decide)
   obtain ⟨rfl,rfl⟩:=hn2 (by omega)
   match args,hl,hx with
   | [x],_,hx=>
     simp only [if_true,if_false,Int.reduceEq,or_self,exprWs,at_,List.getElem?_cons_zero,Option.getD_some,TW_app,List.append_assoc]
     rw [stmtP_simple (by rfl) (by rfl)]
     unfold simpleP
     rw [show ∀r,hasT w_return (TW [w_return]++r)=some r from fun r=>rfl]
     simp only []
     rw [hx.1 0 x rfl _ (stopT 59 _ (by decide))]
     rfl
 · have hl:=ho.len (by decide)
   obtain rfl:=hb1 (by decide)
   obtain rfl:=hb2 (by decide)
   obtain ⟨rfl,rfl⟩:=hn2 (by omega)
   match args,hl,hx with
   | [x],_,hx=>
     simp only [if_true,if_false,Int.reduceEq,or_self,exprWs,at_,List.getElem?_cons_zero,Option.getD_some,TW_app,List.append_assoc]
     rw [stmtP_simple (by rfl) (by rfl)]
     unfold simpleP
     rw [show ∀r,hasT w_return (TW [w_out]++r)=none from fun r=>rfl,show ∀r,hasT w_out (TW [w_out]++r)=some r from fun r=>rfl]
     simp only []
     rw [hx.1 0 x rfl _ (stopT 59 _ (by decide))]
     rfl
theorem stmtW_first {x:TStmt} {d:Nat} (h:(cntS x d).tot=0):∃w r,stmtW x=w::r∧(nameT w=true∨w=w_if∨w=w_while∨w=w_return∨w=w_out):=by
 obtain ⟨op,mod,nm,args,body,other⟩:=x
 have ho:=okS h
 have hk:=ho.kind
 obtain ⟨hn1,hn2⟩:=badName_S ho.name
 rw [stmtW_mk]
 unfold stmtO
 by_cases h45:op=4∨op=5
 · rw [if_pos h45]
   refine ⟨_,_,rfl,?_⟩
   split<;>simp
 rw [if_neg h45]
 by_cases h6:op=6
 · rw [if_pos h6]; exact ⟨_,_,rfl,by simp⟩
 rw [if_neg h6]
 by_cases h7:op=7
 · rw [if_pos h7]; exact ⟨_,_,rfl,by simp⟩
 rw [if_neg h7]
 obtain ⟨w,r,e,hw⟩:=refW_first (hn1 (by omega))
 rw [e]
 by_cases h3:op=3
 · rw [if_pos h3]; exact ⟨_,_,rfl,.inl hw⟩
 rw [if_neg h3]
 by_cases h1:op=1
 · rw [if_pos h1]; exact ⟨_,_,rfl,.inl hw⟩
 rw [if_neg h1,if_pos (by omega)]
 exact ⟨_,_,rfl,.inl hw⟩
theorem first_no {w s:Tx} {r:Tk} (h:nameT w=true∨w=w_if∨w=w_while∨w=w_return∨w=w_out) (hs:s=w_else∨s=[125]):hasT s (putTok w::r)=none:=by
 rcases h with h | rfl | rfl | rfl | rfl
 · rcases hs with rfl | rfl
   · exact hasN h (by decide)
   · exact hasNS h (by decide)
 all_goals rcases hs with rfl | rfl<;>rfl
theorem stmt_no {x:TStmt} {d:Nat} {q:Tk} {s:Tx} (h:(cntS x d).tot=0) (hs:s=w_else∨s=[125]):hasT s (TW (stmtW x)++q)=none:=by
 obtain ⟨w,r,e,hw⟩:=stmtW_first h
 rw [e]
 exact first_no hw hs
theorem stmtsL_T {ps:Tk→Option (TStmt×Tk)} {d:Nat} (hp:∀(x:TStmt),(cntS x d).tot=0→∀q,hasT w_else q=none→ps (TW (stmtW x)++q)=some (x,q)) (q:Tk):∀(l:List TStmt),(cntSs l d).tot=0→∀n,l.length<n→stmtsL ps n (TW (stmtWs l)++(TW [[125]]++q))=some (l,q)
 | [],_,n,hn=>by
   obtain ⟨n,rfl⟩:∃m,n=m+1:=⟨n-1,by simp at hn; omega⟩
   rfl
 | x::r,h,n,hn=>by
   obtain ⟨n,rfl⟩:∃m,n=m+1:=⟨n-1,by simp at hn; omega⟩
   obtain ⟨h1,h2⟩:=okSs h
   have ih:=stmtsL_T hp q r h2 n (by simp at hn; omega)
   have hne:hasT w_else (TW (stmtWs r)++(TW [[125]]++q))=none:=by
     cases r with
     | nil=>rfl
     | cons y t=>
       unfold stmtWs
       rw [TW_app,List.append_assoc]
       exact stmt_no (okSs h2).1 (.inl rfl)
   unfold stmtWs stmtsL
   rw [TW_app,List.append_assoc,stmt_no h1 (.inr rfl)]
   simp only []
   rw [hp x h1 _ hne]
   simp only [Option.bind_some]
   rw [ih]
   rfl
theorem stmtWs_len:∀l:List TStmt,l.length≤(stmtWs l).length
 | []=>Nat.zero_le _
 | x::r=>by
   have:=stmtWs_len r
   have hx:1≤(stmtW x).length:=by
     have:=stmtW_ne x
     cases hw:stmtW x with
     | nil=>exact absurd hw this
     | cons _ _=>simp
   unfold stmtWs
   simp only [List.length_cons,List.length_append]
   omega
theorem blockP_T:∀(f d:Nat),f+d=7→BackB (blockP f) d
 | 0,d,hf=>fun l h=>by
   unfold cntB at h
   have:=blkC0 h
   omega
 | f+1,d,hf=>fun l h q=>by
   unfold cntB at h
   obtain ⟨h1,h2,h3⟩:=blkC0 h
   unfold blockP blockW blkW
   simp only [TW_app,List.append_assoc]
   rw [show ∀r,hasT [123] (TW [[123]]++r)=some r from fun r=>rfl]
   simp only [Option.bind_some]
   refine stmtsL_T (d:=d) (fun x hx q hq=>stmtP_T (d:=d) (blockP_T f (d+1) (by omega)) x hx q hq) q l h3 _ ?_
   have:=stmtWs_len l
   simp only [List.length_append,TW,List.length_map]
   omega
theorem pubP_pub {b:Bool} {q:Tk} (h:hasT w_pub q=none):pubP (TW (pubW b)++q)=(b,q):=by
 cases b with
 | true=>rfl
 | false=>show pubP q=_; unfold pubP; rw [h]; rfl
theorem pubD_no {d:TDecl} {q:Tk} (h:OkD d):hasT w_pub (TW (pubD d)++q)=none:=by
 unfold pubD declO
 rcases h.kind with e | e | e
 · rw [if_pos e]; rfl
 · rw [if_neg (by omega),if_pos e]; rfl
 · rw [if_neg (by omega),if_neg (by omega),if_pos e]; rfl
theorem declP_T {d:TDecl} {q:Tk} (h:OkD d):declP d.pub (TW (pubD d)++q)=some (some d,q):=by
 have hn:=h.name
 obtain ⟨kind,nm,pub,n⟩:=d
 unfold pubD declO
 rcases h.kind with e | e | e
 · obtain ⟨a,b⟩:=h.n1 e
   simp only at e a b hn
   subst e
   simp only [if_true]
   show declP pub (putTok w_const::putTok nm::putTok [61]::putTok (Lib.itoa n)::putTok [59]::q)=_
   unfold declP
   rw [show ∀r,hasT w_const (putTok w_const::r)=some r from fun r=>rfl]
   simp only []
   rw [nam_name hn]
   simp only [Option.bind_some]
   rw [show ∀r,hasT [61] (putTok [61]::r)=some r from fun r=>rfl]
   simp only [Option.bind_some]
   rw [num_itoa a b]
   rfl
 · have hz:=h.n2 e
   simp only at e hz hn
   subst e hz
   simp only [if_true,if_false,Int.reduceEq]
   show declP pub (putTok w_var::putTok nm::putTok [59]::q)=_
   unfold declP
   rw [show ∀r,hasT w_const (putTok w_var::r)=none from fun r=>rfl,show ∀r,hasT w_var (putTok w_var::r)=some r from fun r=>rfl]
   simp only []
   rw [nam_name hn]
   rfl
 · obtain ⟨a,b⟩:=h.n3 e
   simp only at e a b hn
   subst e
   simp only [if_true,if_false,Int.reduceEq]
   show declP pub (putTok w_array::putTok nm::putTok [91]::putTok (Lib.itoa n)::putTok [93]::putTok [59]::q)=_
   unfold declP
   rw [show ∀r,hasT w_const (putTok w_array::r)=none from fun r=>rfl,show ∀r,hasT w_var (putTok w_array::r)=none from fun r=>rfl,show ∀r,hasT w_array (putTok w_array::r)=some r from fun r=>rfl]
   simp only []
   rw [nam_name hn]
   simp only [Option.bind_some]
   rw [show ∀r,hasT [91] (putTok [91]::r)=some r from fun r=>rfl]
   simp only [Option.bind_some]
   rw [num_itoa (by omega) (by omega)]
   rfl
theorem declsL_T {Z:Tk} (hZ:∀pub,declP pub (pubP Z).2=some (none,(pubP Z).2)):∀(ds:List TDecl),(∀d ∈ ds,(declC d).tot=0)→∀n,ds.length<n→
   declsL n (pubP (TW (ds.flatMap declW)++Z)).1 (pubP (TW (ds.flatMap declW)++Z)).2=some ((ds,(pubP Z).1),(pubP Z).2)
 | [],_,n,hn=>by
   obtain ⟨n,rfl⟩:∃m,n=m+1:=⟨n-1,by simp at hn; omega⟩
   show declsL (n+1) (pubP Z).1 (pubP Z).2=_
   unfold declsL
   rw [hZ]
   rfl
 | d::r,h,n,hn=>by
   obtain ⟨n,rfl⟩:∃m,n=m+1:=⟨n-1,by simp at hn; omega⟩
   have hd:=okD (h d (by simp))
   have ih:=declsL_T hZ r (fun x hx=>h x (List.mem_cons_of_mem _ hx)) n (by simp at hn; omega)
   have e:TW ((d::r).flatMap declW)++Z=TW (pubW d.pub)++(TW (pubD d)++(TW (r.flatMap declW)++Z)):=by
     rw [List.flatMap_cons,declW]
     simp only [pubD,TW_app,List.append_assoc]
   rw [e,pubP_pub (pubD_no hd)]
   simp only []
   unfold declsL
   rw [declP_T hd]
   simp only [Option.bind_some]
   rw [ih]
   rfl
theorem paramsL_T {q:Tk}:∀(l:List Tx),(∀s ∈ l,nameT s=true)→∀(n:Nat) (first:Bool),l.length<n→
   paramsL n first (TW (if first=true∨l=[] then [] else [[44]])++(TW (commaW (l.map fun s=>[s]))++(TW [[41]]++q)))=some (l,q)
 | [],_,n,first,hn=>by
   obtain ⟨n,rfl⟩:∃m,n=m+1:=⟨n-1,by simp at hn; omega⟩
   rw [if_pos (.inr rfl)]
   rfl
 | x::r,h,n,first,hn=>by
   obtain ⟨n,rfl⟩:∃m,n=m+1:=⟨n-1,by simp at hn; omega⟩
   have hx:=h x (by simp)
   have ih:=paramsL_T (q:=q) r (fun s hs=>h s (List.mem_cons_of_mem _ hs)) n false (by simp at hn; omega)
   have e:TW (commaW ((x::r).map fun s=>[s]))++(TW [[41]]++q)=putTok x::(TW (if false=true∨r=[] then [] else [[44]])++(TW (commaW (r.map fun s=>[s]))++(TW [[41]]++q))):=by
     cases r with
     | nil=>rfl
     | cons y t=>rfl
   rw [e]
   cases first with
   | true=>
     simp only [true_or,if_true,TW_nil,List.nil_append]
     unfold paramsL
     rw [hasNS hx (by decide)]
     simp only [if_true,Option.bind_some]
     rw [nam_name hx]
     simp only [Option.bind_some]
     rw [ih]
     rfl
   | false=>
     have e2:(if false=true∨x::r=[] then ([]:List Tx) else [[44]])=[[44]]:=by simp
     rw [e2]
     unfold paramsL
     rw [show ∀r,hasT [41] (TW [[44]]++r)=none from fun r=>rfl,show ∀r,hasT [44] (TW [[44]]++r)=some r from fun r=>rfl]
     rw [if_neg (by simp)]
     simp only [Option.bind_some]
     rw [nam_name hx]
     simp only [Option.bind_some]
     rw [ih]
     rfl
theorem locsL_T {Z:Tk} (hZ:hasT w_local Z=none):∀(l:List Tx),(∀s ∈ l,nameT s=true)→∀n,l.length<n→locsL n (TW (l.flatMap locW)++Z)=some (l,Z)
 | [],_,n,hn=>by
   obtain ⟨n,rfl⟩:∃m,n=m+1:=⟨n-1,by simp at hn; omega⟩
   show locsL (n+1) Z=_
   unfold locsL
   rw [hZ]
 | x::r,h,n,hn=>by
   obtain ⟨n,rfl⟩:∃m,n=m+1:=⟨n-1,by simp at hn; omega⟩
   have ih:=locsL_T hZ r (fun s hs=>h s (List.mem_cons_of_mem _ hs)) n (by simp at hn; omega)
   show locsL (n+1) (putTok w_local::putTok x::putTok [59]::(TW (r.flatMap locW)++Z))=_
   unfold locsL
   rw [show ∀r,hasT w_local (putTok w_local::r)=some r from fun r=>rfl]
   simp only []
   rw [nam_name (h x (by simp))]
   simp only [Option.bind_some]
   rw [show ∀r,hasT [59] (putTok [59]::r)=some r from fun r=>rfl]
   simp only [Option.bind_some]
   rw [ih]
   rfl
theorem usesL_T {Z:Tk} (hZ:hasT w_use Z=none):∀(l:List Tx),(∀s ∈ l,nameT s=true)→∀n,l.length<n→usesL n (TW (l.flatMap useW)++Z)=some (l,Z)
 | [],_,n,hn=>by
   obtain ⟨n,rfl⟩:∃m,n=m+1:=⟨n-1,by simp at hn; omega⟩
   show usesL (n+1) Z=_
   unfold usesL
   rw [hZ]
 | x::r,h,n,hn=>by
   obtain ⟨n,rfl⟩:∃m,n=m+1:=⟨n-1,by simp at hn; omega⟩
   have ih:=usesL_T hZ r (fun s hs=>h s (List.mem_cons_of_mem _ hs)) n (by simp at hn; omega)
   show usesL (n+1) (putTok w_use::putTok x::putTok [59]::(TW (r.flatMap useW)++Z))=_
   unfold usesL
   rw [show ∀r,hasT w_use (putTok w_use::r)=some r from fun r=>rfl]
   simp only []
   rw [nam_name (h x (by simp))]
   simp only [Option.bind_some]
   rw [show ∀r,hasT [59] (putTok [59]::r)=some r from fun r=>rfl]
   simp only [Option.bind_some]
   rw [ih]
   rfl
theorem flat_len {f:Tx→List Tx} (hf:∀x,1≤(f x).length):∀l:List Tx,l.length≤(l.flatMap f).length
 | []=>Nat.zero_le _
 | x::r=>by
   have:=flat_len hf r; have:=hf x
   rw [List.flatMap_cons,List.length_append,List.length_cons]
   omega
theorem comma1_len:∀l:List Tx,l.length≤(commaW (l.map fun s=>[s])).length
 | []=>Nat.zero_le _
 | [x]=>Nat.le_refl _
 | x::y::r=>by
   have:=comma1_len (y::r)
   show _≤([x]++[[44]]++commaW ((y::r).map fun s=>[s])).length
   simp only [List.length_append,List.length_cons,List.length_nil] at this ⊢
   omega
theorem procP_T {p:TProc} {q:Tk} (h:OkP p):procP p.pub (TW (procB p)++q)=some (p,q):=by
 obtain ⟨nm,pub,params,locs,body⟩:=p
 unfold procP procB
 simp only [TW_app,List.append_assoc]
 rw [show ∀r,TW [nm,[40]]++r=putTok nm::(TW [[40]]++r) from fun r=>rfl,nam_name h.name]
 simp only [Option.bind_some]
 rw [show ∀r,hasT [40] (TW [[40]]++r)=some r from fun r=>rfl]
 simp only [Option.bind_some]
 have hp:=paramsL_T (q:=TW (locs.flatMap locW)++(TW (blockW body)++q)) params h.params ((TW (commaW (params.map fun s=>[s]))++(TW [[41]]++(TW (locs.flatMap locW)++(TW (blockW body)++q)))).length+1) true (by
   have:=comma1_len params
   simp only [List.length_append,TW,List.length_map] at this ⊢
   omega)
 simp only [true_or,if_true,TW_nil,List.nil_append] at hp
 rw [hp]
 simp only [Option.bind_some]
 rw [locsL_T (by rfl) locs h.locs _ (by
   have:=flat_len (f:=locW) (fun x=>by simp [locW]) locs
   simp only [List.length_append,TW,List.length_map]
   omega)]
 simp only [Option.bind_some]
 rw [blockP_T 6 1 rfl body h.body q]
 rfl
theorem procsL_T {Z:Tk} (hZ:hasT w_proc (pubP Z).2=none):∀(ds:List TProc),(∀d ∈ ds,(procC d).tot=0)→∀n,ds.length<n→
   procsL n (pubP (TW (ds.flatMap procW)++Z)).1 (pubP (TW (ds.flatMap procW)++Z)).2=some ((ds,(pubP Z).1),(pubP Z).2)
 | [],_,n,hn=>by
   obtain ⟨n,rfl⟩:∃m,n=m+1:=⟨n-1,by simp at hn; omega⟩
   show procsL (n+1) (pubP Z).1 (pubP Z).2=_
   unfold procsL
   rw [hZ]
 | d::r,h,n,hn=>by
   obtain ⟨n,rfl⟩:∃m,n=m+1:=⟨n-1,by simp at hn; omega⟩
   have hd:=okP (h d (by simp))
   have ih:=procsL_T hZ r (fun x hx=>h x (List.mem_cons_of_mem _ hx)) n (by simp at hn; omega)
   have e:TW ((d::r).flatMap procW)++Z=TW (pubW d.pub)++(putTok w_proc::(TW (procB d)++(TW (r.flatMap procW)++Z))):=by
     rw [List.flatMap_cons,procW,procB]
     simp only [TW_app,List.append_assoc]
     rfl
   rw [e,pubP_pub (by rfl)]
   simp only []
   unfold procsL
   rw [show ∀r,hasT w_proc (putTok w_proc::r)=some r from fun r=>rfl]
   simp only []
   rw [procP_T hd]
   simp only [Option.bind_some]
   rw [ih]
   rfl
theorem flat_len' {α:Type} {f:α→List Tx} (hf:∀x,1≤(f x).length):∀l:List α,l.length≤(l.flatMap f).length
 | []=>Nat.zero_le _
 | x::r=>by
   have:=flat_len' hf r; have:=hf x
   rw [List.flatMap_cons,List.length_append,List.length_cons]
   omega
theorem first_procs {ps:List TProc} {Z:Tk} (hZ:∃r,Z=putTok w_main::r):∃r,(pubP (TW (ps.flatMap procW)++Z)).2=putTok w_proc::r∨(pubP (TW (ps.flatMap procW)++Z)).2=putTok w_main::r:=by
 obtain ⟨r,rfl⟩:=hZ
 cases ps with
 | nil=>exact ⟨r,.inr rfl⟩
 | cons d t=>
   have e:TW ((d::t).flatMap procW)++(putTok w_main::r)=TW (pubW d.pub)++(putTok w_proc::(TW (procB d)++(TW (t.flatMap procW)++(putTok w_main::r)))):=by
     rw [List.flatMap_cons,procW,procB]
     simp only [TW_app,List.append_assoc]
     rfl
   rw [e,pubP_pub (by rfl)]
   exact ⟨_,.inl rfl⟩
theorem pub_len (l:Tk):l.length≤(pubP l).2.length+1:=by
 unfold pubP
 cases l with
 | nil=>simp
 | cons t r=>
   simp only [hasT]
   split
   · simp
   · simp
theorem modP_T {m:TMod} (h:(modC m).tot=0):modP (TW (modW m))=some (m,[]):=by
 have ho:=okM h
 obtain ⟨nm,uses,decls,procs,main⟩:=m
 have hmain:∀q,blockP 6 (TW (blockW main)++q)=some (main,q):=blockP_T 6 1 rfl main ho.main
 unfold modW
 simp only [TW_app,List.append_assoc]
 have hM:(∃r,(TW [w_main]++(TW (blockW main)++TW [[125]]))=putTok w_main::r):=⟨_,rfl⟩
 generalize hZ:TW [w_main]++(TW (blockW main)++TW [[125]])=Z at hM
 obtain ⟨rp,hp⟩:=first_procs (ps:=procs) hM
 show modP (putTok w_module::putTok nm::putTok [123]::(TW (uses.flatMap useW)++(TW (decls.flatMap declW)++(TW (procs.flatMap procW)++Z))))=_
 have hu:hasT w_use (TW (decls.flatMap declW)++(TW (procs.flatMap procW)++Z))=none:=by
   cases decls with
   | cons d t=>
     have hd:=okD (ho.decls d (by simp))
     rw [List.flatMap_cons,declW,TW_app,TW_app,TW_app]
     cases d.pub with
     | true=>rfl
     | false=>
       show hasT w_use (TW (declO d)++TW [[59]]++TW (t.flatMap declW)++_)=none
       unfold declO
       rcases hd.kind with e | e | e
       · rw [if_pos e]; rfl
       · rw [if_neg (by omega),if_pos e]; rfl
       · rw [if_neg (by omega),if_neg (by omega),if_pos e]; rfl
   | nil=>
     cases procs with
     | cons p t=>
       rw [List.flatMap_nil,TW_nil,List.nil_append,List.flatMap_cons,procW]
       simp only [TW_app,List.append_assoc]
       cases p.pub<;>rfl
     | nil=>obtain ⟨r,rfl⟩:=hM; rfl
 have hd:∀pub,declP pub (pubP (TW (procs.flatMap procW)++Z)).2=some (none,(pubP (TW (procs.flatMap procW)++Z)).2):=by
   intro pub
   rcases hp with e | e<;>rw [e]<;>rfl
 have hpr:hasT w_proc (pubP Z).2=none:=by
   obtain ⟨r,rfl⟩:=hM
   rfl
 unfold modP
 rw [show ∀r,hasT w_module (putTok w_module::r)=some r from fun r=>rfl]
 simp only [Option.bind_some]
 rw [nam_name ho.name]
 simp only [Option.bind_some]
 rw [show ∀r,hasT [123] (putTok [123]::r)=some r from fun r=>rfl]
 simp only [Option.bind_some]
 rw [usesL_T hu uses ho.uses _ (by
   have:=flat_len' (f:=useW) (fun x=>by simp [useW]) uses
   simp only [List.length_append,TW,List.length_map]
   omega)]
 simp only [Option.bind_some]
 have hdl:decls.length<(pubP (TW (decls.flatMap declW)++(TW (procs.flatMap procW)++Z))).2.length+1:=by
   have h1:=pub_len (TW (decls.flatMap declW)++(TW (procs.flatMap procW)++Z))
   have h2:=flat_len' (f:=declW) (fun x=>by simp [declW]; omega) decls
   obtain ⟨r,hr⟩:=hM
   rw [hr] at h1 ⊢
   simp only [List.length_append,TW,List.length_map,List.length_cons] at h1 h2 ⊢
   omega
 rw [declsL_T hd decls ho.decls _ hdl]
 simp only [Option.bind_some]
 have hpl:procs.length<(pubP (TW (procs.flatMap procW)++Z)).2.length+1:=by
   have h1:=pub_len (TW (procs.flatMap procW)++Z)
   have h2:=flat_len' (f:=procW) (fun x=>by simp [procW]; omega) procs
   obtain ⟨r,hr⟩:=hM
   rw [hr] at h1 ⊢
   simp only [List.length_append,TW,List.length_map,List.length_cons] at h1 h2 ⊢
   omega
 rw [procsL_T hpr procs ho.procs _ hpl]
 simp only [Option.bind_some]
 subst hZ
 show (if (pubP (putTok w_main::(TW (blockW main)++TW [[125]]))).1=true then none else _)=_
 rw [show ∀r,pubP (putTok w_main::r)=(false,putTok w_main::r) from fun r=>rfl]
 simp only [Bool.false_eq_true,if_false]
 show (hasT w_main (pubP (putTok w_main::(TW (blockW main)++TW [[125]]))).2).bind _=_
 rw [show ∀r,pubP (putTok w_main::r)=(false,putTok w_main::r) from fun r=>rfl]
 simp only []
 rw [show ∀r,hasT w_main (putTok w_main::r)=some r from fun r=>rfl]
 simp only [Option.bind_some]
 rw [hmain]
 rfl
end Go.Bw
end
section
namespace Go.Bw
open Go
set_option linter.unusedVariables false
set_option linter.unusedSimpArgs false
theorem hasT_ok {s:Tx} {l r:Tk} (hl:AllOk l) (h:hasT s l=some r):AllOk r:=by
 cases l with
 | nil=>cases h
 | cons t q=>
   simp only [hasT] at h
   split at h
   · injection h with h; subst h; exact fun x hx=>hl x (List.mem_cons_of_mem _ hx)
   · cases h
theorem stmtP_short {pb:Tk→Option (List TStmt×Tk)} (hs:SoundB pb) {l r:Tk} {x:TStmt} (hl:AllOk l) (h:stmtP pb l=some (x,r)):r.length<l.length:=by
 have e:=(stmtP_eats hs hl h).2
 have hne:=stmtW_ne x
 rw [e]
 cases hw:stmtW x with
 | nil=>exact absurd hw hne
 | cons w ws=>simp; omega
def noMod:TMod:=⟨[],[],[],[],[]⟩
def parseM (s:Tx):TMod×Int:=if (lexR s).2≠0 then (noMod,(lexR s).2) else match modP (lexR s).1 with
 | some (m,[])=>if checkM m=0 then (m,0) else (noMod,1)
 | _=>(noMod,1)
theorem lexR_ok {s:Tx} (h:(lexR s).2=0):AllOk (lexR s).1:=(checkT_zero (lex_checks h)).1
theorem TW_ok {m:TMod} (h:(modC m).tot=0):AllOk (TW (modW m)):=by
 intro t ht
 obtain ⟨w,hw,rfl⟩:=List.mem_map.1 ht
 exact (good_mod h w hw).1
theorem checkM_tot {m:TMod}:checkM m=0↔(modC m).tot=0:=err0
theorem parse_show {m:TMod} (h:checkM m=0) (hl:(J (modW m)).length≤4096):parseM (J (modW m))=(m,0):=by
 have ht:=checkM_tot.1 h
 have hj:=joinT_put (good_mod ht)
 have hlex:lexR (J (modW m))=(TW (modW m),0):=by
   unfold lexR
   rw [if_neg (by omega),←hj,show lexO (joinT (List.map putTok (modW m)))=some (TW (modW m)) from lexO_joinT (TW (modW m)) (TW_ok ht)]
 unfold parseM
 rw [hlex]
 simp only [ne_eq,not_true_eq_false,if_false]
 rw [modP_T ht]
 simp only
 rw [if_pos h]
end Go.Bw
end
section
namespace Go.Bw
open Go
set_option linter.unusedVariables false
set_option linter.unusedSimpArgs false
theorem hasT_w {s:Tx} {l q:Tk} (h:hasT s l=some q):l.length=q.length+1:=by
 cases l with
 | nil=>cases h
 | cons t r=>
   simp only [hasT] at h
   split at h
   · injection h with h; subst h; rfl
   · cases h
theorem nextT_w {k:Int} {l q:Tk} {t:Tok} (h:nextT k l=some (t,q)):l.length=q.length+1:=by
 cases l with
 | nil=>cases h
 | cons t r=>
   simp only [nextT] at h
   split at h
   · injection h with h; injection h with h1 h2; subst h2; rfl
   · cases h
theorem namP_w {l r:Tk} {a:Tx} (h:namP l=some (a,r)):a.length≤8∧l.length=r.length+1:=by
 unfold namP at h
 obtain ⟨⟨t,q⟩,h1,h2⟩:=Option.bind_eq_some_iff.1 h
 simp only at h2
 split at h2
 · rename_i hn
   simp only [Option.some.injEq,Prod.mk.injEq] at h2
   obtain ⟨rfl,rfl⟩:=h2
   refine ⟨?_,nextT_w h1⟩
   simp only [nameT,nameB,Bool.and_eq_true,decide_eq_true_eq] at hn
   exact hn.1.1.1.2
 · cases h2
theorem numP_w {l r:Tk} {a:Int} (h:numP l=some (a,r)):l.length=r.length+1:=by
 unfold numP at h
 obtain ⟨⟨t,q⟩,h1,h2⟩:=Option.map_eq_some_iff.1 h
 simp only [Prod.mk.injEq] at h2
 obtain ⟨_,rfl⟩:=h2
 exact nextT_w h1
theorem refP_w {l r:Tk} {p:Tx×Tx} (h:refP l=some (p,r)):p.1.length+p.2.length≤16∧r.length+1≤l.length:=by
 unfold refP at h
 obtain ⟨⟨a,q⟩,h1,h2⟩:=Option.bind_eq_some_iff.1 h
 obtain ⟨w1,w2⟩:=namP_w h1
 simp only at h2
 split at h2
 · rename_i q2 hd
   obtain ⟨⟨b,q3⟩,h3,h4⟩:=Option.map_eq_some_iff.1 h2
   simp only [Prod.mk.injEq] at h4
   obtain ⟨rfl,rfl⟩:=h4
   obtain ⟨w3,w4⟩:=namP_w h3
   have:=hasT_w hd
   simp only
   omega
 · simp only [Option.some.injEq,Prod.mk.injEq] at h2
   obtain ⟨rfl,rfl⟩:=h2
   simp only [List.length_nil]
   omega
def WB (pe:Tk→Option (TExpr×Tk)):Prop:=∀l x r,pe l=some (x,r)→wE x+18*r.length≤18*l.length
theorem argsL_w {pe:Tk→Option (TExpr×Tk)} (hp:WB pe):∀(n:Nat) (l:Tk) (xs:List TExpr) (r:Tk),argsL pe n l=some (xs,r)→wEs xs+18*r.length≤18*l.length
 | 0,_,_,_,h=>by cases h
 | n+1,l,xs,r,h=>by
   unfold argsL at h
   obtain ⟨⟨x,q⟩,h1,h2⟩:=Option.bind_eq_some_iff.1 h
   have w1:=hp l x q h1
   simp only at h2
   split at h2
   · rename_i q2 hd
     simp only [Option.some.injEq,Prod.mk.injEq] at h2
     obtain ⟨rfl,rfl⟩:=h2
     have:=hasT_w hd
     simp only [wEs]
     omega
   · split at h2
     · rename_i q2 hd
       obtain ⟨⟨ys,q3⟩,h3,h4⟩:=Option.map_eq_some_iff.1 h2
       simp only [Prod.mk.injEq] at h4
       obtain ⟨rfl,rfl⟩:=h4
       have:=hasT_w hd
       have:=argsL_w hp n q2 ys q3 h3
       simp only [wEs]
       omega
     · cases h2
theorem argsP_w {pe:Tk→Option (TExpr×Tk)} (hp:WB pe) {l r:Tk} {xs:List TExpr} (h:argsP pe l=some (xs,r)):wEs xs+18*r.length≤18*l.length:=by
 unfold argsP at h
 split at h
 · rename_i q hd
   simp only [Option.some.injEq,Prod.mk.injEq] at h
   obtain ⟨rfl,rfl⟩:=h
   have:=hasT_w hd
   simp only [wEs]
   omega
 · exact argsL_w hp _ _ _ _ h
theorem opP_w:∀(ws:List Tx) (i k:Nat) (l r:Tk),opP ws i l=some (k,r)→r.length+1≤l.length
 | [],_,_,_,_,h=>by cases h
 | w::ws,i,k,l,r,h=>by
   unfold opP at h
   split at h
   · rename_i q hd
     simp only [Option.some.injEq,Prod.mk.injEq] at h
     obtain ⟨_,rfl⟩:=h
     have:=hasT_w hd
     omega
   · exact opP_w ws _ _ _ _ h
theorem twoP_w {pe:Tk→Option (TExpr×Tk)} (hp:WB pe) {l r:Tk} {x:TExpr} (h:twoP pe l=some (x,r)):wE x+18*r.length≤18*l.length:=by
 unfold twoP at h
 obtain ⟨⟨a,q1⟩,h1,h2⟩:=Option.bind_eq_some_iff.1 h
 obtain ⟨⟨o,q2⟩,h3,h4⟩:=Option.bind_eq_some_iff.1 h2
 obtain ⟨⟨b,q3⟩,h5,h6⟩:=Option.bind_eq_some_iff.1 h4
 obtain ⟨q4,h7,h8⟩:=Option.map_eq_some_iff.1 h6
 simp only [Prod.mk.injEq] at h8
 obtain ⟨rfl,rfl⟩:=h8
 have w1:=hp _ _ _ h1
 have w2:=opP_w _ _ _ _ _ h3
 have w3:=hp _ _ _ h5
 have w4:=hasT_w h7
 simp only [wE,wEs,List.length_nil] at *
 omega
theorem tailP_w {pe:Tk→Option (TExpr×Tk)} (hp:WB pe) {l r:Tk} {mod nm:Tx} {x:TExpr} (hl:mod.length+nm.length≤16) (h:tailP pe mod nm l=some (x,r)):wE x+18*r.length≤17+18*l.length:=by
 unfold tailP at h
 split at h
 · rename_i q hd
   obtain ⟨⟨y,q1⟩,h1,h2⟩:=Option.bind_eq_some_iff.1 h
   obtain ⟨q2,h3,h4⟩:=Option.map_eq_some_iff.1 h2
   simp only [Prod.mk.injEq] at h4
   obtain ⟨rfl,rfl⟩:=h4
   have w1:=hasT_w hd
   have w2:=hp _ _ _ h1
   have w3:=hasT_w h3
   simp only [wE,wEs] at *
   omega
 · split at h
   · rename_i q hd
     obtain ⟨⟨xs,q1⟩,h1,h2⟩:=Option.map_eq_some_iff.1 h
     simp only [Prod.mk.injEq] at h2
     obtain ⟨rfl,rfl⟩:=h2
     have w1:=hasT_w hd
     have w2:=argsP_w hp h1
     simp only [wE] at *
     omega
   · simp only [Option.some.injEq,Prod.mk.injEq] at h
     obtain ⟨rfl,rfl⟩:=h
     simp only [wE,wEs] at *
     omega
theorem restP_w {pe:Tk→Option (TExpr×Tk)} (hp:WB pe):WB (restP pe):=by
 intro l x r h
 unfold restP at h
 split at h
 · rename_i q hd
   simp only [Option.some.injEq,Prod.mk.injEq] at h
   obtain ⟨rfl,rfl⟩:=h
   have:=hasT_w hd
   simp only [wE,wEs,List.length_nil]
   omega
 · split at h
   · rename_i q hd
     obtain ⟨⟨y,q1⟩,h1,h2⟩:=Option.map_eq_some_iff.1 h
     simp only [Prod.mk.injEq] at h2
     obtain ⟨rfl,rfl⟩:=h2
     have w1:=hasT_w hd
     have w2:=hp _ _ _ h1
     simp only [wE,wEs,List.length_nil]
     omega
   · split at h
     · rename_i q hd
       have w1:=hasT_w hd
       have w2:=twoP_w hp h
       omega
     · obtain ⟨⟨p,q⟩,h1,h2⟩:=Option.bind_eq_some_iff.1 h
       obtain ⟨w1,w2⟩:=refP_w h1
       have w3:=tailP_w hp w1 h2
       simp only at w3
       omega
theorem exprP_w:∀f,WB (exprP f)
 | 0=>fun _ _ _ h=>by cases h
 | f+1=>by
   intro l x r h
   cases l with
   | nil=>cases h
   | cons t q=>
     unfold exprP at h
     by_cases hk:t.kind=2
     · simp only [if_pos hk,Option.some.injEq,Prod.mk.injEq] at h
       obtain ⟨rfl,rfl⟩:=h
       simp only [wE,wEs,List.length_nil,List.length_cons]
       omega
     · simp only [if_neg hk] at h
       exact restP_w (exprP_w f) _ _ _ h
theorem simpleP_w {l r:Tk} {s:TStmt} (h:simpleP l=some (s,r)):wS s+18*r.length≤18*l.length:=by
 have hp:=exprP_w 6
 unfold simpleP at h
 split at h
 · rename_i q hd
   obtain ⟨⟨x,q1⟩,h2,h3⟩:=Option.map_eq_some_iff.1 h
   simp only [Prod.mk.injEq] at h3
   obtain ⟨rfl,rfl⟩:=h3
   have w1:=hasT_w hd
   have w2:=hp _ _ _ h2
   simp only [wS,wEs,wSs,List.length_nil]
   omega
 · split at h
   · rename_i q hd
     obtain ⟨⟨x,q1⟩,h2,h3⟩:=Option.map_eq_some_iff.1 h
     simp only [Prod.mk.injEq] at h3
     obtain ⟨rfl,rfl⟩:=h3
     have w1:=hasT_w hd
     have w2:=hp _ _ _ h2
     simp only [wS,wEs,wSs,List.length_nil]
     omega
   · obtain ⟨⟨⟨mod,nm⟩,q⟩,h3,h4⟩:=Option.bind_eq_some_iff.1 h
     obtain ⟨w0,w1⟩:=refP_w h3
     simp only at h4 w0
     split at h4
     · rename_i q1 hd
       obtain ⟨⟨xs,q2⟩,h6,h7⟩:=Option.map_eq_some_iff.1 h4
       simp only [Prod.mk.injEq] at h7
       obtain ⟨rfl,rfl⟩:=h7
       have w2:=hasT_w hd
       have w3:=argsP_w hp h6
       simp only [wS,wSs]
       omega
     · split at h4
       · rename_i q1 hd
         obtain ⟨⟨i,q2⟩,h7,h8⟩:=Option.bind_eq_some_iff.1 h4
         obtain ⟨q3,h9,h10⟩:=Option.bind_eq_some_iff.1 h8
         obtain ⟨q4,h11,h12⟩:=Option.bind_eq_some_iff.1 h10
         obtain ⟨⟨x,q5⟩,h13,h14⟩:=Option.map_eq_some_iff.1 h12
         simp only [Prod.mk.injEq] at h14
         obtain ⟨rfl,rfl⟩:=h14
         have w2:=hasT_w hd
         have w3:=hp _ _ _ h7
         have w4:=hasT_w h9
         have w5:=hasT_w h11
         have w6:=hp _ _ _ h13
         simp only [wS,wEs,wSs] at *
         omega
       · obtain ⟨q1,h7,h8⟩:=Option.bind_eq_some_iff.1 h4
         obtain ⟨⟨x,q2⟩,h9,h10⟩:=Option.map_eq_some_iff.1 h8
         simp only [Prod.mk.injEq] at h10
         obtain ⟨rfl,rfl⟩:=h10
         have w2:=hasT_w h7
         have w3:=hp _ _ _ h9
         simp only [wS,wEs,wSs]
         omega
def WBB (pb:Tk→Option (List TStmt×Tk)):Prop:=∀l x r,pb l=some (x,r)→wSs x+18*r.length≤18*l.length
theorem stmtP_w {pb:Tk→Option (List TStmt×Tk)} (hb:WBB pb) {l r:Tk} {s:TStmt} (h:stmtP pb l=some (s,r)):wS s+18*r.length≤18*l.length:=by
 have hp:=exprP_w 6
 unfold stmtP at h
 split at h
 · rename_i q hd
   obtain ⟨⟨x,q1⟩,h2,h3⟩:=Option.bind_eq_some_iff.1 h
   obtain ⟨⟨b,q2⟩,h4,h5⟩:=Option.bind_eq_some_iff.1 h3
   have w1:=hasT_w hd
   have w2:=hp _ _ _ h2
   have w3:=hb _ _ _ h4
   simp only at h5 w2 w3
   split at h5
   · rename_i q3 hd2
     obtain ⟨⟨o,q4⟩,h7,h8⟩:=Option.bind_eq_some_iff.1 h5
     have w4:=hasT_w hd2
     have w5:=hb _ _ _ h7
     simp only at h8
     split at h8
     · cases h8
     · simp only [Option.some.injEq,Prod.mk.injEq] at h8
       obtain ⟨rfl,rfl⟩:=h8
       simp only [wS,wEs,List.length_nil] at *
       omega
   · simp only [Option.some.injEq,Prod.mk.injEq] at h5
     obtain ⟨rfl,rfl⟩:=h5
     simp only [wS,wEs,wSs,List.length_nil] at *
     omega
 · split at h
   · rename_i q hd
     obtain ⟨⟨x,q1⟩,h2,h3⟩:=Option.bind_eq_some_iff.1 h
     obtain ⟨⟨b,q2⟩,h4,h5⟩:=Option.map_eq_some_iff.1 h3
     simp only [Prod.mk.injEq] at h5
     obtain ⟨rfl,rfl⟩:=h5
     have w1:=hasT_w hd
     have w2:=hp _ _ _ h2
     have w3:=hb _ _ _ h4
     simp only [wS,wEs,wSs,List.length_nil] at *
     omega
   · obtain ⟨⟨s',q⟩,h3,h4⟩:=Option.bind_eq_some_iff.1 h
     obtain ⟨q1,h5,h6⟩:=Option.map_eq_some_iff.1 h4
     simp only [Prod.mk.injEq] at h6
     obtain ⟨rfl,rfl⟩:=h6
     have w1:=simpleP_w h3
     have w2:=hasT_w h5
     simp only at *
     omega
theorem stmtsL_w {ps:Tk→Option (TStmt×Tk)} (hp:∀l x r,ps l=some (x,r)→wS x+18*r.length≤18*l.length):∀(n:Nat) (l:Tk) (xs:List TStmt) (r:Tk),stmtsL ps n l=some (xs,r)→wSs xs+18*r.length≤18*l.length
 | 0,_,_,_,h=>by cases h
 | n+1,l,xs,r,h=>by
   unfold stmtsL at h
   split at h
   · rename_i q hd
     simp only [Option.some.injEq,Prod.mk.injEq] at h
     obtain ⟨rfl,rfl⟩:=h
     have:=hasT_w hd
     simp only [wSs]
     omega
   · obtain ⟨⟨s,q⟩,h1,h2⟩:=Option.bind_eq_some_iff.1 h
     obtain ⟨⟨ys,q1⟩,h3,h4⟩:=Option.map_eq_some_iff.1 h2
     simp only [Prod.mk.injEq] at h4
     obtain ⟨rfl,rfl⟩:=h4
     have w1:=hp _ _ _ h1
     have w2:=stmtsL_w hp n q ys q1 h3
     simp only [wSs]
     omega
theorem blockP_w:∀f,WBB (blockP f)
 | 0=>fun _ _ _ h=>by cases h
 | f+1=>by
   intro l x r h
   unfold blockP at h
   obtain ⟨q,h1,h2⟩:=Option.bind_eq_some_iff.1 h
   have w1:=hasT_w h1
   have w2:=stmtsL_w (fun l x r hh=>stmtP_w (blockP_w f) hh) _ _ _ _ h2
   omega
theorem pubP_w (l:Tk):(pubP l).2.length≤l.length:=by
 unfold pubP
 cases h:hasT w_pub l with
 | none=>exact Nat.le_refl _
 | some q=>have:=hasT_w h; simp only [Option.getD_some]; omega
theorem declP_w {pub:Bool} {l r:Tk} {d:TDecl} (h:declP pub l=some (some d,r)):1+d.nm.length+18*r.length≤18*l.length:=by
 unfold declP at h
 split at h
 · rename_i q hd
   obtain ⟨⟨a,q1⟩,h2,h3⟩:=Option.bind_eq_some_iff.1 h
   obtain ⟨q2,h4,h5⟩:=Option.bind_eq_some_iff.1 h3
   obtain ⟨⟨n,q3⟩,h6,h7⟩:=Option.bind_eq_some_iff.1 h5
   obtain ⟨q4,h8,h9⟩:=Option.map_eq_some_iff.1 h7
   simp only [Prod.mk.injEq,Option.some.injEq] at h9
   obtain ⟨rfl,rfl⟩:=h9
   have w1:=hasT_w hd
   obtain ⟨w2,w3⟩:=namP_w h2
   have w4:=hasT_w h4
   have w5:=numP_w h6
   have w6:=hasT_w h8
   simp only at *
   omega
 · split at h
   · rename_i q hd
     obtain ⟨⟨a,q1⟩,h3,h4⟩:=Option.bind_eq_some_iff.1 h
     obtain ⟨q2,h5,h6⟩:=Option.map_eq_some_iff.1 h4
     simp only [Prod.mk.injEq,Option.some.injEq] at h6
     obtain ⟨rfl,rfl⟩:=h6
     have w1:=hasT_w hd
     obtain ⟨w2,w3⟩:=namP_w h3
     have w4:=hasT_w h5
     simp only at *
     omega
   · split at h
     · rename_i q hd
       obtain ⟨⟨a,q1⟩,h4,h5⟩:=Option.bind_eq_some_iff.1 h
       obtain ⟨q2,h6,h7⟩:=Option.bind_eq_some_iff.1 h5
       obtain ⟨⟨n,q3⟩,h8,h9⟩:=Option.bind_eq_some_iff.1 h7
       obtain ⟨q4,h10,h11⟩:=Option.bind_eq_some_iff.1 h9
       obtain ⟨q5,h12,h13⟩:=Option.map_eq_some_iff.1 h11
       simp only [Prod.mk.injEq,Option.some.injEq] at h13
       obtain ⟨rfl,rfl⟩:=h13
       have w1:=hasT_w hd
       obtain ⟨w2,w3⟩:=namP_w h4
       have w4:=hasT_w h6
       have w5:=numP_w h8
       have w6:=hasT_w h10
       have w7:=hasT_w h12
       simp only at *
       omega
     · simp at h
theorem declsL_w:∀(n:Nat) (pub:Bool) (l:Tk) (ds:List TDecl) (pub':Bool) (r:Tk),declsL n pub l=some ((ds,pub'),r)→wD ds+18*r.length≤18*l.length
 | 0,_,_,_,_,_,h=>by cases h
 | n+1,pub,l,ds,pub',r,h=>by
   unfold declsL at h
   obtain ⟨⟨o,q⟩,g1,h2⟩:=Option.bind_eq_some_iff.1 h
   cases o with
   | none=>
     have:=declP_none g1
     simp only [Option.some.injEq,Prod.mk.injEq] at h2
     obtain ⟨⟨h3,_⟩,h4⟩:=h2
     rw [←h3,←h4,this]
     simp [wD]
   | some x=>
     obtain ⟨⟨⟨ys,pb⟩,q1⟩,g3,g4⟩:=Option.map_eq_some_iff.1 h2
     simp only [Prod.mk.injEq] at g4
     obtain ⟨⟨rfl,rfl⟩,rfl⟩:=g4
     have w1:=declP_w g1
     have w2:=declsL_w n _ _ _ _ _ g3
     have w3:=pubP_w q
     simp only [wD] at *
     omega
theorem paramsL_w:∀(n:Nat) (first:Bool) (l:Tk) (xs:List Tx) (r:Tk),paramsL n first l=some (xs,r)→wN xs+18*r.length≤18*l.length
 | 0,_,_,_,_,h=>by cases h
 | n+1,first,l,xs,r,h=>by
   unfold paramsL at h
   split at h
   · rename_i q hd
     simp only [Option.some.injEq,Prod.mk.injEq] at h
     obtain ⟨rfl,rfl⟩:=h
     have:=hasT_w hd
     simp only [wN]
     omega
   · obtain ⟨l1,h1,h2⟩:=Option.bind_eq_some_iff.1 h
     obtain ⟨⟨a,q⟩,h3,h4⟩:=Option.bind_eq_some_iff.1 h2
     obtain ⟨⟨ys,q1⟩,h5,h6⟩:=Option.map_eq_some_iff.1 h4
     simp only [Prod.mk.injEq] at h6
     obtain ⟨rfl,rfl⟩:=h6
     have w0:l1.length≤l.length:=by
       cases first with
       | true=>simp only [if_true,Option.some.injEq] at h1; subst h1; exact Nat.le_refl _
       | false=>have:=hasT_w (s:=[44]) (l:=l) (q:=l1) h1; omega
     obtain ⟨w1,w2⟩:=namP_w h3
     have w3:=paramsL_w n false q ys q1 h5
     simp only [wN] at *
     omega
theorem locsL_w:∀(n:Nat) (l:Tk) (xs:List Tx) (r:Tk),locsL n l=some (xs,r)→wN xs+18*r.length≤18*l.length
 | 0,_,_,_,h=>by cases h
 | n+1,l,xs,r,h=>by
   unfold locsL at h
   split at h
   · rename_i q hd
     obtain ⟨⟨a,q1⟩,h1,h2⟩:=Option.bind_eq_some_iff.1 h
     obtain ⟨q2,h3,h4⟩:=Option.bind_eq_some_iff.1 h2
     obtain ⟨⟨ys,q3⟩,h5,h6⟩:=Option.map_eq_some_iff.1 h4
     simp only [Prod.mk.injEq] at h6
     obtain ⟨rfl,rfl⟩:=h6
     have w0:=hasT_w hd
     obtain ⟨w1,w2⟩:=namP_w h1
     have w3:=hasT_w h3
     have w4:=locsL_w n q2 ys q3 h5
     simp only [wN] at *
     omega
   · simp only [Option.some.injEq,Prod.mk.injEq] at h
     obtain ⟨rfl,rfl⟩:=h
     simp [wN]
theorem usesL_w:∀(n:Nat) (l:Tk) (xs:List Tx) (r:Tk),usesL n l=some (xs,r)→wN xs+18*r.length≤18*l.length
 | 0,_,_,_,h=>by cases h
 | n+1,l,xs,r,h=>by
   unfold usesL at h
   split at h
   · rename_i q hd
     obtain ⟨⟨a,q1⟩,h1,h2⟩:=Option.bind_eq_some_iff.1 h
     obtain ⟨q2,h3,h4⟩:=Option.bind_eq_some_iff.1 h2
     obtain ⟨⟨ys,q3⟩,h5,h6⟩:=Option.map_eq_some_iff.1 h4
     simp only [Prod.mk.injEq] at h6
     obtain ⟨rfl,rfl⟩:=h6
     have w0:=hasT_w hd
     obtain ⟨w1,w2⟩:=namP_w h1
     have w3:=hasT_w h3
     have w4:=usesL_w n q2 ys q3 h5
     simp only [wN] at *
     omega
   · simp only [Option.some.injEq,Prod.mk.injEq] at h
     obtain ⟨rfl,rfl⟩:=h
     simp [wN]
theorem procP_w {pub:Bool} {l r:Tk} {p:TProc} (h:procP pub l=some (p,r)):p.nm.length+wN p.params+wN p.locs+wSs p.body+18*r.length≤18*l.length:=by
 unfold procP at h
 obtain ⟨⟨a,q1⟩,h1,h2⟩:=Option.bind_eq_some_iff.1 h
 obtain ⟨q2,h3,h4⟩:=Option.bind_eq_some_iff.1 h2
 obtain ⟨⟨ps,q3⟩,h5,h6⟩:=Option.bind_eq_some_iff.1 h4
 obtain ⟨⟨ls,q4⟩,h7,h8⟩:=Option.bind_eq_some_iff.1 h6
 obtain ⟨⟨b,q5⟩,h9,h10⟩:=Option.map_eq_some_iff.1 h8
 simp only [Prod.mk.injEq] at h10
 obtain ⟨rfl,rfl⟩:=h10
 obtain ⟨w1,w2⟩:=namP_w h1
 have w3:=hasT_w h3
 have w4:=paramsL_w _ _ _ _ _ h5
 have w5:=locsL_w _ _ _ _ h7
 have w6:=blockP_w 6 _ _ _ h9
 simp only at *
 omega
theorem procsL_w:∀(n:Nat) (pub:Bool) (l:Tk) (ds:List TProc) (pub':Bool) (r:Tk),procsL n pub l=some ((ds,pub'),r)→wP ds+18*r.length≤18*l.length
 | 0,_,_,_,_,_,h=>by cases h
 | n+1,pub,l,ds,pub',r,h=>by
   unfold procsL at h
   split at h
   · rename_i q hd
     obtain ⟨⟨p,q1⟩,g1,h2⟩:=Option.bind_eq_some_iff.1 h
     obtain ⟨⟨⟨ys,pb⟩,q2⟩,g3,g4⟩:=Option.map_eq_some_iff.1 h2
     simp only [Prod.mk.injEq] at g4
     obtain ⟨⟨rfl,rfl⟩,rfl⟩:=g4
     have w0:=hasT_w hd
     have w1:=procP_w g1
     have w2:=procsL_w n _ _ _ _ _ g3
     have w3:=pubP_w q1
     simp only [wP] at *
     omega
   · simp only [Option.some.injEq,Prod.mk.injEq] at h
     obtain ⟨⟨rfl,rfl⟩,rfl⟩:=h
     simp [wP]
theorem modP_w {l r:Tk} {m:TMod} (h:modP l=some (m,r)):wM m+18*r.length≤18*l.length:=by
 unfold modP at h
 obtain ⟨q1,h1,h⟩:=Option.bind_eq_some_iff.1 h
 obtain ⟨⟨a,q2⟩,h2,h⟩:=Option.bind_eq_some_iff.1 h
 obtain ⟨q3,h3,h⟩:=Option.bind_eq_some_iff.1 h
 obtain ⟨⟨us,q4⟩,h4,h⟩:=Option.bind_eq_some_iff.1 h
 obtain ⟨⟨⟨ds,pub1⟩,q5⟩,h5,h⟩:=Option.bind_eq_some_iff.1 h
 obtain ⟨⟨⟨ps,pub2⟩,q6⟩,h6,h⟩:=Option.bind_eq_some_iff.1 h
 simp only at h
 split at h
 · cases h
 · obtain ⟨q7,h7,h⟩:=Option.bind_eq_some_iff.1 h
   obtain ⟨⟨b,q8⟩,h8,h⟩:=Option.bind_eq_some_iff.1 h
   obtain ⟨q9,h9,h10⟩:=Option.map_eq_some_iff.1 h
   simp only [Prod.mk.injEq] at h10
   obtain ⟨rfl,rfl⟩:=h10
   have w1:=hasT_w h1
   obtain ⟨w2,w3⟩:=namP_w h2
   have w4:=hasT_w h3
   have w5:=usesL_w _ _ _ _ h4
   have w6:=declsL_w _ _ _ _ _ _ h5
   have w7:=pubP_w q4
   have w8:=procsL_w _ _ _ _ _ _ h6
   have w9:=hasT_w h7
   have w10:=blockP_w 6 _ _ _ h8
   have w11:=hasT_w h9
   simp only [wM] at *
   omega
end Go.Bw
end
section
namespace Go.Bw
open Go
set_option linter.unusedVariables false
set_option linter.unusedSimpArgs false
def Ok8 (l:Tk):Prop:=∀t ∈ l,t.kind=1→t.text.length≤8
structure Go1 (l r:Tk):Prop where
 ok:Ok8 r
 le:r.length≤l.length
theorem Go1.trans {a b c:Tk} (h:Go1 a b) (g:Go1 b c):Go1 a c:=⟨g.ok,Nat.le_trans g.le h.le⟩
structure GoE (l:Tk) (p:TExpr×Tk):Prop extends Go1 l p.2 where
 w:wE p.1+40*p.2.length≤20+40*l.length
structure GoS (l:Tk) (p:TStmt×Tk):Prop extends Go1 l p.2 where
 w:wS p.1+80*p.2.length≤80*l.length∨(p.2.length=l.length∧wS p.1≤40)
structure GoB (l:Tk) (p:List TStmt×Tk):Prop extends Go1 l p.2 where
 w:wSs p.1+80*p.2.length≤80*l.length
end Go.Bw
end
section
namespace Go.Proofs
open Go.Shelf
def Tryz.lays137_ren:Go.Shelf.Ren:=⟨fun | 137=>77 | 217=>102 | 266=>122 | n=>n,fun | 9=>9 | 5=>5 | 3=>3 | n=>n,fun | n=>n⟩
theorem Tryz.lays137:Go.Proofs.Lays.n137 Tryz.prog Tryz.lays137_ren:={
 mixed:=by kernel_rfl
 f137:=Tryz.func77.trans (congrArg some (by kernel_rfl))
 f217:=Tryz.func102.trans (congrArg some (by kernel_rfl))
 f266:=Tryz.func122.trans (congrArg some (by kernel_rfl))
 t3:=Tryz.underlying3
 a3:=Tryz.isAgg3
 z3:=Tryz.sizeOf3
 v3:=Tryz.zeroValue3
 t5:=Tryz.underlying5
 a5:=Tryz.isAgg5
 z5:=Tryz.sizeOf5
 v5:=Tryz.zeroValue5
 t9:=Tryz.underlying9
 a9:=Tryz.isAgg9
 z9:=Tryz.sizeOf9
 v9:=Tryz.zeroValue9 }
def Tryz.laysM171_ren:Go.Shelf.Ren:=⟨fun | 171=>25 | 243=>45 | 246=>73 | 283=>97 | 284=>98 | 285=>99 | 286=>100 | 129=>118 | 317=>117 | 318=>119 | 319=>120 | 320=>121 | 337=>127 | 338=>128 | n=>n,fun | 3=>3 | 9=>9 | 2=>2 | 4=>4 | 171=>134 | 0=>0 | 53=>135 | 37=>91 | 5=>5 | 173=>138 | 212=>153 | 51=>154 | 20=>20 | 213=>155 | 46=>156 | 232=>170 | 233=>171 | n=>n,fun | 17=>0 | 18=>4 | 19=>5 | n=>n⟩
theorem Tryz.laysM171:Go.Proofs.LaysM.n171 Tryz.prog Tryz.laysM171_ren:={
 mixed:=by kernel_rfl
 f129:=Tryz.func118.trans (congrArg some (by kernel_rfl))
 f171:=Tryz.func25.trans (congrArg some (by kernel_rfl))
 f243:=Tryz.func45.trans (congrArg some (by kernel_rfl))
 f246:=Tryz.func73.trans (congrArg some (by kernel_rfl))
 f283:=Tryz.func97.trans (congrArg some (by kernel_rfl))
 f284:=Tryz.func98.trans (congrArg some (by kernel_rfl))
 f285:=Tryz.func99.trans (congrArg some (by kernel_rfl))
 f286:=Tryz.func100.trans (congrArg some (by kernel_rfl))
 f317:=Tryz.func117.trans (congrArg some (by kernel_rfl))
 f318:=Tryz.func119.trans (congrArg some (by kernel_rfl))
 f319:=Tryz.func120.trans (congrArg some (by kernel_rfl))
 f320:=Tryz.func121.trans (congrArg some (by kernel_rfl))
 f337:=Tryz.func127.trans (congrArg some (by kernel_rfl))
 f338:=Tryz.func128.trans (congrArg some (by kernel_rfl))
 t0:=Tryz.underlying0
 a0:=Tryz.isAgg0
 z0:=Tryz.sizeOf0
 v0:=Tryz.zeroValue0
 t2:=Tryz.underlying2
 a2:=Tryz.isAgg2
 z2:=Tryz.sizeOf2
 v2:=Tryz.zeroValue2
 t3:=Tryz.underlying3
 a3:=Tryz.isAgg3
 z3:=Tryz.sizeOf3
 v3:=Tryz.zeroValue3
 t4:=Tryz.underlying4
 a4:=Tryz.isAgg4
 z4:=Tryz.sizeOf4
 v4:=Tryz.zeroValue4
 t5:=Tryz.underlying5
 a5:=Tryz.isAgg5
 z5:=Tryz.sizeOf5
 v5:=Tryz.zeroValue5
 t9:=Tryz.underlying9
 a9:=Tryz.isAgg9
 z9:=Tryz.sizeOf9
 v9:=Tryz.zeroValue9
 t20:=Tryz.underlying20
 a20:=Tryz.isAgg20
 z20:=Tryz.sizeOf20
 v20:=Tryz.zeroValue20
 t37:=Tryz.underlying91
 a37:=Tryz.isAgg91
 z37:=Tryz.sizeOf91
 v37:=Tryz.zeroValue91
 t46:=Tryz.underlying156
 a46:=Tryz.isAgg156
 z46:=Tryz.sizeOf156
 v46:=Tryz.zeroValue156
 t51:=Tryz.underlying154
 a51:=Tryz.isAgg154
 z51:=Tryz.sizeOf154
 v51:=Tryz.zeroValue154
 t53:=Tryz.underlying135
 a53:=Tryz.isAgg135
 z53:=Tryz.sizeOf135
 v53:=Tryz.zeroValue135
 t171:=Tryz.underlying134
 a171:=Tryz.isAgg134
 z171:=Tryz.sizeOf134
 v171:=Tryz.zeroValue134
 t173:=Tryz.underlying138
 a173:=Tryz.isAgg138
 z173:=Tryz.sizeOf138
 v173:=Tryz.zeroValue138
 t212:=Tryz.underlying153
 a212:=Tryz.isAgg153
 z212:=Tryz.sizeOf153
 v212:=Tryz.zeroValue153
 t213:=Tryz.underlying155
 a213:=Tryz.isAgg155
 z213:=Tryz.sizeOf155
 t232:=Tryz.underlying170
 a232:=Tryz.isAgg170
 z232:=Tryz.sizeOf170
 v232:=Tryz.zeroValue170
 t233:=Tryz.underlying171
 a233:=Tryz.isAgg171
 z233:=Tryz.sizeOf171
 v233:=Tryz.zeroValue171
 g17:=by kernel_rfl
 g18:=by kernel_rfl
 g19:=by kernel_rfl
 i0:=by kernel_rfl
 i2:=by kernel_rfl
 i3:=by kernel_rfl
 i4:=by kernel_rfl
 i5:=by kernel_rfl
 i9:=by kernel_rfl
 i20:=by kernel_rfl
 i37:=by kernel_rfl
 i46:=by kernel_rfl
 i51:=by kernel_rfl
 i53:=by kernel_rfl
 i171:=by kernel_rfl
 i173:=by kernel_rfl
 i212:=by kernel_rfl
 i232:=by kernel_rfl
 i233:=by kernel_rfl
 m17:=by kernel_rfl
 m18:=by kernel_rfl
 m19:=by kernel_rfl }
def Tryz.laysC172_ren:Go.Shelf.Ren:=⟨fun | 172=>71 | 244=>92 | 245=>93 | 247=>111 | 279=>112 | 280=>113 | 281=>114 | 282=>115 | 287=>124 | 316=>125 | 171=>25 | 205=>126 | 321=>129 | 322=>130 | 243=>45 | 246=>73 | 283=>97 | 284=>98 | 285=>99 | 286=>100 | 129=>118 | 317=>117 | 318=>119 | 319=>120 | 320=>121 | 337=>127 | 338=>128 | n=>n,fun | 9=>9 | 3=>3 | 75=>113 | 76=>114 | 4=>4 | 5=>5 | 167=>144 | 37=>91 | 0=>0 | 85=>145 | 2=>2 | 168=>147 | 53=>135 | 175=>158 | 46=>156 | 210=>162 | 127=>166 | 145=>169 | 143=>167 | 21=>21 | 171=>134 | 173=>138 | 212=>153 | 51=>154 | 20=>20 | 213=>155 | 232=>170 | 233=>171 | 80=>40 | n=>n,fun | 15=>1 | 16=>2 | 17=>0 | 18=>4 | 19=>5 | n=>n⟩
theorem Tryz.laysC172:Go.Proofs.LaysC.n172 Tryz.prog Tryz.laysC172_ren:={
 mixed:=by kernel_rfl
 f129:=Tryz.func118.trans (congrArg some (by kernel_rfl))
 f171:=Tryz.func25.trans (congrArg some (by kernel_rfl))
 f172:=Tryz.func71.trans (congrArg some (by kernel_rfl))
 f205:=Tryz.func126.trans (congrArg some (by kernel_rfl))
 f243:=Tryz.func45.trans (congrArg some (by kernel_rfl))
 f244:=Tryz.func92.trans (congrArg some (by kernel_rfl))
 f245:=Tryz.func93.trans (congrArg some (by kernel_rfl))
 f246:=Tryz.func73.trans (congrArg some (by kernel_rfl))
 f247:=Tryz.func111.trans (congrArg some (by kernel_rfl))
 f279:=Tryz.func112.trans (congrArg some (by kernel_rfl))
 f280:=Tryz.func113.trans (congrArg some (by kernel_rfl))
 f281:=Tryz.func114.trans (congrArg some (by kernel_rfl))
 f282:=Tryz.func115.trans (congrArg some (by kernel_rfl))
 f283:=Tryz.func97.trans (congrArg some (by kernel_rfl))
 f284:=Tryz.func98.trans (congrArg some (by kernel_rfl))
 f285:=Tryz.func99.trans (congrArg some (by kernel_rfl))
 f286:=Tryz.func100.trans (congrArg some (by kernel_rfl))
 f287:=Tryz.func124.trans (congrArg some (by kernel_rfl))
 f316:=Tryz.func125.trans (congrArg some (by kernel_rfl))
 f317:=Tryz.func117.trans (congrArg some (by kernel_rfl))
 f318:=Tryz.func119.trans (congrArg some (by kernel_rfl))
 f319:=Tryz.func120.trans (congrArg some (by kernel_rfl))
 f320:=Tryz.func121.trans (congrArg some (by kernel_rfl))
 f321:=Tryz.func129.trans (congrArg some (by kernel_rfl))
 f322:=Tryz.func130.trans (congrArg some (by kernel_rfl))
 f337:=Tryz.func127.trans (congrArg some (by kernel_rfl))
 f338:=Tryz.func128.trans (congrArg some (by kernel_rfl))
 t0:=Tryz.underlying0
 a0:=Tryz.isAgg0
 z0:=Tryz.sizeOf0
 v0:=Tryz.zeroValue0
 t2:=Tryz.underlying2
 a2:=Tryz.isAgg2
 z2:=Tryz.sizeOf2
 v2:=Tryz.zeroValue2
 t3:=Tryz.underlying3
 a3:=Tryz.isAgg3
 z3:=Tryz.sizeOf3
 v3:=Tryz.zeroValue3
 t4:=Tryz.underlying4
 a4:=Tryz.isAgg4
 z4:=Tryz.sizeOf4
 v4:=Tryz.zeroValue4
 t5:=Tryz.underlying5
 a5:=Tryz.isAgg5
 z5:=Tryz.sizeOf5
 v5:=Tryz.zeroValue5
 t9:=Tryz.underlying9
 a9:=Tryz.isAgg9
 z9:=Tryz.sizeOf9
 v9:=Tryz.zeroValue9
 t20:=Tryz.underlying20
 a20:=Tryz.isAgg20
 z20:=Tryz.sizeOf20
 v20:=Tryz.zeroValue20
 t21:=Tryz.underlying21
 a21:=Tryz.isAgg21
 z21:=Tryz.sizeOf21
 v21:=Tryz.zeroValue21
 t37:=Tryz.underlying91
 a37:=Tryz.isAgg91
 z37:=Tryz.sizeOf91
 v37:=Tryz.zeroValue91
 t46:=Tryz.underlying156
 a46:=Tryz.isAgg156
 z46:=Tryz.sizeOf156
 v46:=Tryz.zeroValue156
 t51:=Tryz.underlying154
 a51:=Tryz.isAgg154
 z51:=Tryz.sizeOf154
 v51:=Tryz.zeroValue154
 t53:=Tryz.underlying135
 a53:=Tryz.isAgg135
 z53:=Tryz.sizeOf135
 v53:=Tryz.zeroValue135
 t75:=Tryz.underlying113
 a75:=Tryz.isAgg113
 z75:=Tryz.sizeOf113
 v75:=Tryz.zeroValue113
 t76:=Tryz.underlying114
 a76:=Tryz.isAgg114
 z76:=Tryz.sizeOf114
 v76:=Tryz.zeroValue114
 t85:=Tryz.underlying145
 a85:=Tryz.isAgg145
 z85:=Tryz.sizeOf145
 v85:=Tryz.zeroValue145
 t127:=Tryz.underlying166
 a127:=Tryz.isAgg166
 z127:=Tryz.sizeOf166
 v127:=Tryz.zeroValue166
 t143:=Tryz.underlying167
 a143:=Tryz.isAgg167
 z143:=Tryz.sizeOf167
 v143:=Tryz.zeroValue167
 t145:=Tryz.underlying169
 a145:=Tryz.isAgg169
 z145:=Tryz.sizeOf169
 v145:=Tryz.zeroValue169
 t167:=Tryz.underlying144
 a167:=Tryz.isAgg144
 z167:=Tryz.sizeOf144
 v167:=Tryz.zeroValue144
 t168:=Tryz.underlying147
 a168:=Tryz.isAgg147
 z168:=Tryz.sizeOf147
 v168:=Tryz.zeroValue147
 t171:=Tryz.underlying134
 a171:=Tryz.isAgg134
 z171:=Tryz.sizeOf134
 v171:=Tryz.zeroValue134
 t173:=Tryz.underlying138
 a173:=Tryz.isAgg138
 z173:=Tryz.sizeOf138
 v173:=Tryz.zeroValue138
 t175:=Tryz.underlying158
 a175:=Tryz.isAgg158
 z175:=Tryz.sizeOf158
 v175:=Tryz.zeroValue158
 t210:=Tryz.underlying162
 a210:=Tryz.isAgg162
 z210:=Tryz.sizeOf162
 v210:=Tryz.zeroValue162
 t212:=Tryz.underlying153
 a212:=Tryz.isAgg153
 z212:=Tryz.sizeOf153
 v212:=Tryz.zeroValue153
 t213:=Tryz.underlying155
 a213:=Tryz.isAgg155
 z213:=Tryz.sizeOf155
 t232:=Tryz.underlying170
 a232:=Tryz.isAgg170
 z232:=Tryz.sizeOf170
 v232:=Tryz.zeroValue170
 t233:=Tryz.underlying171
 a233:=Tryz.isAgg171
 z233:=Tryz.sizeOf171
 v233:=Tryz.zeroValue171
 g15:=by kernel_rfl
 g16:=by kernel_rfl
 g17:=by kernel_rfl
 g18:=by kernel_rfl
 g19:=by kernel_rfl
 t80:=Tryz.underlying40
 a80:=Tryz.isAgg40
 z80:=Tryz.sizeOf40
 v80:=Tryz.zeroValue40
 i0:=by kernel_rfl
 i2:=by kernel_rfl
 i3:=by kernel_rfl
 i4:=by kernel_rfl
 i5:=by kernel_rfl
 i9:=by kernel_rfl
 i20:=by kernel_rfl
 i21:=by kernel_rfl
 i37:=by kernel_rfl
 i46:=by kernel_rfl
 i51:=by kernel_rfl
 i53:=by kernel_rfl
 i75:=by kernel_rfl
 i76:=by kernel_rfl
 i80:=by kernel_rfl
 i85:=by kernel_rfl
 i127:=by kernel_rfl
 i143:=by kernel_rfl
 i145:=by kernel_rfl
 i167:=by kernel_rfl
 i168:=by kernel_rfl
 i171:=by kernel_rfl
 i173:=by kernel_rfl
 i175:=by kernel_rfl
 i210:=by kernel_rfl
 i212:=by kernel_rfl
 i232:=by kernel_rfl
 i233:=by kernel_rfl
 m15:=by kernel_rfl
 m16:=by kernel_rfl
 m17:=by kernel_rfl
 m18:=by kernel_rfl
 m19:=by kernel_rfl
 c0:=by kernel_rfl
 c2:=by kernel_rfl
 c3:=by kernel_rfl
 c4:=by kernel_rfl
 c5:=by kernel_rfl
 c9:=by kernel_rfl
 c20:=by kernel_rfl
 c21:=by kernel_rfl
 c37:=by kernel_rfl
 c46:=by kernel_rfl
 c51:=by kernel_rfl
 c53:=by kernel_rfl
 c75:=by kernel_rfl
 c76:=by kernel_rfl
 c80:=by kernel_rfl
 c85:=by kernel_rfl
 c127:=by kernel_rfl
 c143:=by kernel_rfl
 c145:=by kernel_rfl
 c167:=by kernel_rfl
 c168:=by kernel_rfl
 c171:=by kernel_rfl
 c173:=by kernel_rfl
 c175:=by kernel_rfl
 c210:=by kernel_rfl
 c212:=by kernel_rfl
 c213:=by kernel_rfl
 c232:=by kernel_rfl
 c233:=by kernel_rfl }
end Go.Proofs
end
section
namespace Go.Proofs.YtjfldjidhkfnbaaGreatDoor
open Go.Bw
set_option linter.unusedVariables false
set_option linter.unusedSimpArgs false
open Go.Proofs
def within (n low high:Int):Bool:=decide (low≤n)&&decide (n≤high)
theorem within_nat (n:Nat):within (n:Int) 1 8=(decide (1≤n)&&decide (n≤8)):=by
 rw [Bool.eq_iff_iff]
 simp [within]
 omega
theorem lex_cond (n:Nat) (u:Int):(((((n:Int)==0)||decide (8<(n:Int)))||decide (u<97))||decide (122<u)) = !((decide (1≤n)&&decide (n≤8))&&letterB u):=by
 rw [Bool.eq_iff_iff]
 simp [letterB]
 omega
theorem at0 {s:List UInt8} {i:Nat} (h:i<s.length):s[i]? = some (s[i]?.getD 0):=by rw [List.getElem?_eq_getElem h]; rfl
theorem all_no {s:List UInt8} {p:UInt8→Bool} {i:Nat} (h:i<s.length) (hp:p (s[i]?.getD 0)=false):s.all p=false:=by
 rw [List.all_eq_false]
 exact ⟨_,List.mem_of_getElem? (at0 h),by simp [hp]⟩
theorem all_yes {s:List UInt8} {p:UInt8→Bool} (h:∀i,i<s.length→p (s[i]?.getD 0)=true):s.all p=true:=by
 rw [List.all_eq_true]
 intro x hx
 obtain ⟨i,hi⟩:=List.getElem?_of_mem hx
 have:=h i (List.getElem?_eq_some_iff.1 hi).1
 rw [hi] at this
 exact this
theorem indexByte_ge0 (u:UInt8):∀s:List UInt8,decide (0≤Lib.indexByte s u)=s.contains u
 | []=>rfl
 | b::l=>by
   have ih:=indexByte_ge0 u l
   have hge:=Lib.indexByte_ge l u
   unfold Lib.indexByte
   by_cases hb:b=u
   · subst hb; simp
   · have h1:(b==u)=false:=by simpa using hb
     have h2:(u==b)=false:=by simpa using fun h=>hb h.symm
     rw [if_neg (by simp [h1]),List.contains_cons,h2,Bool.false_or,←ih]
     split
     · rename_i h; simp at h; simp [h]
     · rename_i h; simp at h
       rw [Bool.eq_iff_iff]; simp; omega
theorem tmod_10 (n:Nat):(n:Int).tmod 10=((n % 10:Nat):Int):=rfl
theorem tdiv_10 (n:Nat):(n:Int).tdiv 10=((n / 10:Nat):Int):=rfl
theorem wrap_dig (n:Nat):IntKind.u8.wrap (48+((n % 10:Nat):Int))=((UInt8.ofNat (48+n % 10)).toNat:Int):=by
 have h:n % 10<10:=Nat.mod_lt _ (by decide)
 generalize n % 10=m at h
 unfold IntKind.wrap
 simp [IntKind.signed,IntKind.bits,UInt8.toNat_ofNat']
theorem toNat_inj {u v:UInt8} (h:(u.toNat:Int)=(v.toNat:Int)):u=v:=UInt8.toNat_inj.1 (by omega)
theorem us9:Tryz.prog.underlying 9=some .string:=by kernel_rfl
theorem en40:Enters Tryz.prog 40:=enters_of Tryz.func40 (by kernel_rfl) rfl
theorem en81:Enters Tryz.prog 81:=enters_of Tryz.func81 (by kernel_rfl) rfl
theorem en82:Enters Tryz.prog 82:=enters_of Tryz.func82 (by kernel_rfl) rfl
theorem en47:Enters Tryz.prog 47:=enters_of Tryz.func47 (by kernel_rfl) rfl
theorem en77:Enters Tryz.prog 77:=enters_of Tryz.func77 (by kernel_rfl) rfl
theorem ui3:Tryz.prog.underlying 3=some (.int .i64):=by kernel_rfl
theorem ui5:Tryz.prog.underlying 5=some (.int .u8):=by kernel_rfl
theorem el91:EltOk Tryz.prog 91 5 (.int .u8 0) 1 1:=eltOk_of (by kernel_rfl)
theorem en27:Enters Tryz.prog 27:=enters_of Tryz.func27 (by kernel_rfl) rfl
theorem within_any (n low high:Int) (w:World) :
   Calls Tryz.prog 40 #[.int .i64 n,.int .i64 low,.int .i64 high] w fun e w'=>e = .returned (.bool (within n low high))∧Ext w w':=by
 refine enter Tryz.func40 rfl 15 rfl rfl ?_
 refine CWd (W':=Ws w [] [] []) (fun _ e=>by subst e; exact Ws.init (by simp)) ?_
 refine Cs (Cr ?_)
 refine V0 (Ya rfl) ?_
 refine Ln (Et (Cs (Cr ?_)))
 refine V0 (Ym rfl) ?_
 refine V0 (Ym rfl) ?_
 refine V0 (yl_ge rfl rfl) ?_
 refine V0 (Ym rfl) ?_
 apply WL.and 3 rfl rfl rfl rfl (.inl rfl) rfl rfl rfl rfl rfl
 ·
  intro hg0
  refine Lv (.g rfl rfl rfl) rfl (Ym rfl) ?_
  refine Lv (.g rfl rfl rfl) rfl (Ym rfl) ?_
  refine Lv (.g rfl rfl rfl) rfl (yl_le rfl rfl) ?_
  exact Gt 3 rfl rfl rfl
 refine V0 (Ya rfl) ?_
 refine Ln (Et (Crt ?_))
 refine WE.ret1 rfl rfl fun w' hw=>?_
 exact ⟨rfl,hw.fr⟩
theorem letter_any (u:Int) (w:World) :
   Calls Tryz.prog 81 #[.int .u8 u] w fun e w'=>e = .returned (.bool (letterB u))∧Ext w w':=by
 refine enter Tryz.func81 rfl 9 rfl rfl ?_
 refine CWd (W':=Ws w [] [] []) (fun _ e=>by subst e; exact Ws.init (by simp)) ?_
 refine Cs (Cr ?_)
 refine V0 (Ya rfl) ?_
 refine Ln (Et (Cs (Cr ?_)))
 refine V0 (Ym rfl) ?_
 refine V0 (yl_ge rfl rfl) ?_
 refine V0 (Ym rfl) ?_
 apply WL.and 2 rfl rfl rfl rfl (.inl rfl) rfl rfl rfl rfl rfl
 ·
  intro hg0
  refine Lv (.g rfl rfl rfl) rfl (Ym rfl) ?_
  refine Lv (.g rfl rfl rfl) rfl (yl_le rfl rfl) ?_
  exact Gt 2 rfl rfl rfl
 refine V0 (Ya rfl) ?_
 refine Ln (Et (Crt ?_))
 refine WE.ret1 rfl rfl fun w' hw=>?_
 exact ⟨rfl,hw.fr⟩
theorem digit_any (u:Int) (w:World) :
   Calls Tryz.prog 82 #[.int .u8 u] w fun e w'=>e = .returned (.bool (digitB u))∧Ext w w':=by
 refine enter Tryz.func82 rfl 9 rfl rfl ?_
 refine CWd (W':=Ws w [] [] []) (fun _ e=>by subst e; exact Ws.init (by simp)) ?_
 refine Cs (Cr ?_)
 refine V0 (Ya rfl) ?_
 refine Ln (Et (Cs (Cr ?_)))
 refine V0 (Ym rfl) ?_
 refine V0 (yl_ge rfl rfl) ?_
 refine V0 (Ym rfl) ?_
 apply WL.and 2 rfl rfl rfl rfl (.inl rfl) rfl rfl rfl rfl rfl
 ·
  intro hg0
  refine Lv (.g rfl rfl rfl) rfl (Ym rfl) ?_
  refine Lv (.g rfl rfl rfl) rfl (yl_le rfl rfl) ?_
  exact Gt 2 rfl rfl rfl
 refine V0 (Ya rfl) ?_
 refine Ln (Et (Crt ?_))
 refine WE.ret1 rfl rfl fun w' hw=>?_
 exact ⟨rfl,hw.fr⟩
theorem plain_char (u:Int) (w:World) :
   Calls Tryz.prog 47 #[.int .u8 u] w fun e w'=>e = .returned (.bool (letterB u||digitB u))∧Ext w w':=by
 refine enter Tryz.func47 rfl 17 rfl rfl ?_
 refine CWd (W':=Ws w [] [] []) (fun _ e=>by subst e; exact Ws.init (by simp)) ?_
 refine Cs (Cr ?_)
 refine V0 (Ya rfl) ?_
 refine Ln (Et (Cs (Cr ?_)))
 refine V0 (Ym rfl) ?_
 refine V0 (yl_ge rfl rfl) ?_
 refine V0 (Ym rfl) ?_
 apply WL.and 2 rfl rfl rfl rfl (.inl rfl) rfl rfl rfl rfl rfl
 ·
  intro hg0
  refine Lv (.g rfl rfl rfl) rfl (Ym rfl) ?_
  refine Lv (.g rfl rfl rfl) rfl (yl_le rfl rfl) ?_
  exact Gt 2 rfl rfl rfl
 refine V0 (Ym rfl) ?_
 apply WL.or 6 rfl rfl rfl rfl (.inl rfl) rfl rfl rfl rfl rfl
 ·
  intro hg1
  refine Lv (.g rfl rfl rfl) rfl (Ym rfl) ?_
  refine Lv (.g rfl rfl rfl) rfl (yl_ge rfl rfl) ?_
  refine Lv (.g rfl rfl rfl) rfl (Ym rfl) ?_
  apply WL.and 2 rfl rfl rfl rfl (.g rfl rfl rfl) rfl rfl rfl rfl rfl
  ·
   intro hg2
   refine Lv (.g rfl rfl rfl) rfl (Ym rfl) ?_
   refine Lv (.g rfl rfl rfl) rfl (yl_le rfl rfl) ?_
   exact Gt 2 rfl rfl rfl
  exact Gt 4 rfl rfl rfl
 refine V0 (Ya rfl) ?_
 refine Ln (Et (Crt ?_))
 refine WE.ret1 rfl rfl fun w' hw=>?_
 exact ⟨rfl,hw.fr⟩
theorem isName_any (s:List UInt8) (w:World) :
   Calls Tryz.prog 57 #[st s] w fun e w'=>e = .returned (.bool (nameB s))∧Ext w w':=by
 refine enter Tryz.func57 rfl 32 rfl rfl ?_
 refine CWd (W':=Ws w [] [] []) (fun _ e=>by subst e; exact Ws.init (by simp)) ?_
 refine Cs (Cr ?_)
 refine V0 (Ya rfl) ?_
 refine Ln (Et (Cs (Cs (Cr ?_))))
 refine V0 (Ym rfl) ?_
 refine V0 (yl_lens us9 rfl) ?_
 refine Lp (.inl rfl) rfl en40 rfl (fun w hw=>within_any _ _ _ w) ?_
 refine V0 (yl_not rfl) ?_
 refine V0 (Ym rfl) ?_
 apply WL.or 4 rfl rfl rfl rfl (.inl rfl) rfl rfl rfl rfl rfl
 ·
  intro hg0
  have h0:0<s.length:=by simp [within] at hg0; omega
  have hu0:=at0 h0
  refine Lv (.g rfl rfl rfl) rfl (Ym rfl) ?_
  refine Lv (.g rfl rfl rfl) rfl (yl_idxk us9 rfl rfl hu0) ?_
  refine Lp (.g rfl rfl rfl) rfl en81 rfl (fun w hw=>letter_any _ w) ?_
  refine Lv (.g rfl rfl rfl) rfl (yl_not rfl) ?_
  exact Gt 4 rfl rfl rfl
 refine Ln (Et ?_)
 refine Cc rfl (fun hc0=>?_) (fun hc0=>?_)
 ·
  have hn:nameB s=false:=by
    unfold nameB
    rw [within_nat] at hc0
    revert hc0
    generalize (decide (1≤s.length)&&decide (s.length≤8))=A
    generalize letterB ((s[0]?.getD 0).toNat)=B
    cases A<;>cases B<;>simp
  refine Cs (Cr ?_)
  refine V0 (Ya rfl) ?_
  refine Ln (Et (Crt (Er ?_)))
  refine WE.ret1 rfl rfl fun w' hw=>?_
  exact ⟨by rw [hn],hw.fr⟩
 ·
  have hok:((decide (1≤s.length)&&decide (s.length≤8))&&letterB ((s[0]?.getD 0).toNat))=true:=by
    rw [within_nat] at hc0
    revert hc0
    generalize (decide (1≤s.length)&&decide (s.length≤8))=A
    generalize letterB ((s[0]?.getD 0).toNat)=B
    cases A<;>cases B<;>simp
  have h8:s.length≤8:=by simp at hok; omega
  refine Ck (Et (Cs (Cs (Cr ?_))))
  refine V0 (Ya rfl) ?_
  refine Ln (Et (Cb ?_))
  refine CW (ι:=Nat) (fun i=>[(3,.int .i64 (i:Int))]) [(0,_)] (fun i=>i≤s.length∧∀j,j<i→charB (s[j]?.getD 0)=true) (fun i=>s.length-i) 0 ⟨Nat.zero_le _,by simp⟩ (sc rfl (sc rfl sn)) ?_
  intro i ⟨hi,hall⟩
  refine Cs (Cs (Cr ?_))
  refine V0 (Ym rfl) ?_
  refine V0 (Ym rfl) ?_
  refine V0 (yl_lens us9 rfl) ?_
  refine V0 (yl_lt rfl rfl) ?_
  refine Ln (Et ?_)
  refine Cc rfl (fun hc1=>?_) (fun hc1=>?_)
  ·
   have hlt:i<s.length:=by simpa using hc1
   have hui:=at0 hlt
   refine Ck (Et (Cs (Cb (Cs (Cr ?_)))))
   refine V0 (Ym rfl) ?_
   refine V0 (Ym rfl) ?_
   refine V0 (yl_idxk us9 rfl rfl hui) ?_
   refine Lp (.inl rfl) rfl en81 rfl (fun w hw=>letter_any _ w) ?_
   refine V0 (yl_not rfl) ?_
   refine V0 (Ym rfl) ?_
   apply WL.and 5 rfl rfl rfl rfl (.inl rfl) rfl rfl rfl rfl rfl
   ·
    intro hg1
    refine Lv (.g rfl rfl rfl) rfl (Ym rfl) ?_
    refine Lv (.g rfl rfl rfl) rfl (Ym rfl) ?_
    refine Lv (.g rfl rfl rfl) rfl (yl_idxk us9 rfl rfl hui) ?_
    refine Lp (.g rfl rfl rfl) rfl en82 rfl (fun w hw=>digit_any _ w) ?_
    refine Lv (.g rfl rfl rfl) rfl (yl_not rfl) ?_
    exact Gt 5 rfl rfl rfl
   refine Ln (Et ?_)
   refine Cc rfl (fun hc2=>?_) (fun hc2=>?_)
   ·
    have hch:charB (s[i]?.getD 0)=false:=by unfold charB; revert hc2; cases letterB _<;>cases digitB _<;>simp
    refine Cs (Cr ?_)
    refine V0 (Ya rfl) ?_
    refine Ln (Et (Crt (Ebr (Er (Er ?_)))))
    refine Ebr (Er ?_)
    refine WE.ret1 rfl rfl fun w' hw=>?_
    exact ⟨by unfold nameB; rw [all_no hlt hch]; simp,hw.fr⟩
   ·
    have hch:charB (s[i]?.getD 0)=true:=by unfold charB; revert hc2; cases letterB _<;>cases digitB _<;>simp
    refine Ck (Eb (Et (Cr ?_)))
    refine V0 (Ym rfl) ?_
    refine V0 (Yi rfl rfl rfl (by omega)) ?_
    refine V0 (Ya rfl) ?_
    refine Ln ?_
    exact Ea (i+1) (by omega) ⟨by omega,fun j hj=>by rcases Nat.lt_succ_iff_lt_or_eq.1 hj with h | rfl; exact hall j h; exact hch⟩ (sc rfl (sc rfl sn)) (fun _ h=>h)
  ·
   have hge:¬i<s.length:=by simpa using hc1
   refine Ce (Ex (Ex (Ebh (Et (Cs ?_)))))
   refine Cr ?_
   refine V0 (Ya rfl) ?_
   refine Ln (Et (Crt ?_))
   refine WE.ret1 rfl rfl fun w' hw=>?_
   exact ⟨by unfold nameB; rw [all_yes fun j hj=>hall j (by omega),hok]; rfl,hw.fr⟩
theorem lexName_any (s:List UInt8) (w:World) :
   Calls Tryz.prog 66 #[st s] w fun e w'=>e = .returned (.bool (nameB s))∧Ext w w':=by
 refine enter Tryz.func66 rfl 33 rfl rfl ?_
 refine CWd (W':=Ws w [] [] []) (fun _ e=>by subst e; exact Ws.init (by simp)) ?_
 refine Cs (Cr ?_)
 refine V0 (Ya rfl) ?_
 refine Ln (Et (Cs (Cs (Cr ?_))))
 refine V0 (Ym rfl) ?_
 refine V0 (yl_lens us9 rfl) ?_
 refine V0 (yl_eq rfl rfl) ?_
 refine V0 (Ym rfl) ?_
 apply WL.or 3 rfl rfl rfl rfl (.inl rfl) rfl rfl rfl rfl rfl
 ·
  intro hg0
  refine Lv (.g rfl rfl rfl) rfl (Ym rfl) ?_
  refine Lv (.g rfl rfl rfl) rfl (yl_lens us9 rfl) ?_
  refine Lv (.g rfl rfl rfl) rfl (yl_gt rfl rfl) ?_
  exact Gt 3 rfl rfl rfl
 refine V0 (Ym rfl) ?_
 apply WL.or 3 rfl rfl rfl rfl (.inl rfl) rfl rfl rfl rfl rfl
 ·
  intro hg1
  have h0:0<s.length:=by
    rcases Nat.eq_zero_or_pos s.length with h | h
    · simp [h] at hg1
    · exact h
  have hu0:=at0 h0
  refine Lv (.g rfl rfl rfl) rfl (Ym rfl) ?_
  refine Lv (.g rfl rfl rfl) rfl (yl_idxk us9 rfl rfl (by assumption)) ?_
  refine Lv (.g rfl rfl rfl) rfl (yl_lt rfl rfl) ?_
  exact Gt 3 rfl rfl rfl
 refine V0 (Ym rfl) ?_
 apply WL.or 3 rfl rfl rfl rfl (.inl rfl) rfl rfl rfl rfl rfl
 ·
  intro hg2
  have h0:0<s.length:=by
    rcases Nat.eq_zero_or_pos s.length with h | h
    · simp [h] at hg2
    · exact h
  have hu0:=at0 h0
  refine Lv (.g rfl rfl rfl) rfl (Ym rfl) ?_
  refine Lv (.g rfl rfl rfl) rfl (yl_idxk us9 rfl rfl hu0) ?_
  refine Lv (.g rfl rfl rfl) rfl (yl_gt rfl rfl) ?_
  exact Gt 3 rfl rfl rfl
 refine Ln (Et ?_)
 refine Cc rfl (fun hc0=>?_) (fun hc0=>?_)
 ·
  rw [lex_cond] at hc0
  have hn:nameB s=false:=by
    unfold nameB
    simp only [Bool.not_eq_true'] at hc0
    rw [hc0]; rfl
  refine Cs (Cr ?_)
  refine V0 (Ya rfl) ?_
  refine Ln (Et (Crt (Er ?_)))
  refine WE.ret1 rfl rfl fun w' hw=>?_
  exact ⟨by rw [hn],hw.fr⟩
 ·
  rw [lex_cond] at hc0
  have hok:((decide (1≤s.length)&&decide (s.length≤8))&&letterB ((s[0]?.getD 0).toNat))=true:=by simpa using hc0
  have h8:s.length≤8:=by simp at hok; omega
  refine Ck (Et (Cs (Cs (Cr ?_))))
  refine V0 (Ym rfl) ?_
  refine V0 (yl_lens us9 rfl) ?_
  refine V0 (Ym rfl) ?_
  refine Ln (Et (Cb ?_))
  refine CW (ι:=Nat) (fun i=>[(24,.int .i64 (i:Int))]) [(0,_),(23,_)] (fun i=>i≤s.length∧∀j,j<i→charB (s[j]?.getD 0)=true) (fun i=>s.length-i) 0 ⟨Nat.zero_le _,by simp⟩ (sc rfl (sc rfl (sc rfl sn))) ?_
  intro i ⟨hi,hall⟩
  refine Cs (Cr ?_)
  refine V0 (yl_lt rfl rfl) ?_
  refine Ln (Et (Cs ?_))
  refine Cc rfl (fun hc1=>?_) (fun hc1=>?_)
  ·
   have hlt:i<s.length:=by simpa using hc1
   have hui:=at0 hlt
   refine Ck (Et (Cs (Cb (Cs (Cr ?_)))))
   refine V0 (Ym rfl) ?_
   refine V0 (Ya rfl) ?_
   refine Ln (Et (Cs (Cr ?_)))
   refine V0 (Ym rfl) ?_
   refine V0 (Ym rfl) ?_
   refine V0 (yl_idxk us9 rfl rfl hui) ?_
   refine Lp (.inl rfl) rfl en47 rfl (fun w hw=>plain_char _ w) ?_
   refine V0 (yl_not rfl) ?_
   refine Ln (Et ?_)
   refine Cc rfl (fun hc2=>?_) (fun hc2=>?_)
   ·
    have hch:charB (s[i]?.getD 0)=false:=by unfold charB; revert hc2; cases letterB _<;>cases digitB _<;>simp
    refine Cs (Cr ?_)
    refine V0 (Ya rfl) ?_
    refine Ln (Et (Crt (Ebr (Er (Er ?_)))))
    refine Ebr (Er ?_)
    refine WE.ret1 rfl rfl fun w' hw=>?_
    exact ⟨by unfold nameB; rw [all_no hlt hch]; simp,hw.fr⟩
   ·
    have hch:charB (s[i]?.getD 0)=true:=by unfold charB; revert hc2; cases letterB _<;>cases digitB _<;>simp
    refine Ck (Eb (Et (Cr ?_)))
    refine V0 (Yi rfl rfl rfl (by omega)) ?_
    refine V0 (Ym rfl) ?_
    refine Ln ?_
    exact Ea (i+1) (by omega) ⟨by omega,fun j hj=>by rcases Nat.lt_succ_iff_lt_or_eq.1 hj with h | rfl; exact hall j h; exact hch⟩ (sc rfl (sc rfl (sc rfl sn))) (fun _ h=>h)
  ·
   have hge:¬i<s.length:=by simpa using hc1
   refine Ce (Ex (Ex (Ebh (Et (Cs ?_)))))
   refine Cr ?_
   refine V0 (Ya rfl) ?_
   refine Ln (Et (Crt ?_))
   refine WE.ret1 rfl rfl fun w' hw=>?_
   exact ⟨by unfold nameB; rw [all_yes fun j hj=>hall j (by omega),hok]; rfl,hw.fr⟩
theorem indexByte_any (s:List UInt8) (u:UInt8) (w:World):Calls Tryz.prog 77 #[st s,.int .u8 (u.toNat:Int)] w fun e w'=>e = .returned (.int .i64 (Lib.indexByte s u))∧Ext w w':=
 (Any.strings_IndexByte Go.Proofs.Tryz.lays137 ⟨s.toArray⟩ (u.toNat:Int) w).mono fun e w' h=>by
   obtain ⟨h1,h2⟩:=h
   subst h2
   have e1:((u.toNat:Int)).toNat.toUInt8=u:=by simp
   rw [e1] at h1
   exact ⟨h1,Fr.refl _ _⟩
theorem lexSign_any (u:UInt8) (w:World) :
   Calls Tryz.prog 49 #[.int .u8 (u.toNat:Int)] w fun e w'=>e = .returned (.bool (signB u))∧Ext w w':=by
 refine enter Tryz.func49 rfl 6 rfl rfl ?_
 refine CWd (W':=Ws w [] [] []) (fun _ e=>by subst e; exact Ws.init (by simp)) ?_
 refine Cs (Cr ?_)
 refine V0 (Ya rfl) ?_
 refine Ln (Et (Cs (Cr ?_)))
 refine V0 (Ym rfl) ?_
 refine Lp (.inl rfl) rfl en77 rfl (fun w hw=>indexByte_any signL u w) ?_
 refine V0 (yl_ge rfl rfl) ?_
 refine V0 (Ya rfl) ?_
 refine Ln (Et (Crt ?_))
 refine WE.ret1 rfl rfl fun w' hw=>?_
 exact ⟨by rw [indexByte_ge0]; rfl,hw.fr⟩
theorem digits_any (n:Nat) (w:World) (hn:n≤9223372036854775807) :
   Calls Tryz.prog 27 #[.int .i64 (n:Int)] w fun e w'=>e = .returned (st (Lib.decDigits n))∧Ext w w':=by
 induction n using Nat.strongRecOn generalizing w
 rename_i n ih
 refine enter Tryz.func27 rfl 18 rfl rfl ?_
 refine CWd (W':=Ws w [] [] []) (fun _ e=>by subst e; exact Ws.init (by simp)) ?_
 refine Cs (Cr ?_)
 refine V0 (Ya rfl) ?_
 refine Ln (Et (Cs (Cr ?_)))
 refine V0 (Ym rfl) ?_
 refine V0 (yl_rem rfl rfl (by decide)) ?_
 rw [tmod_10 n]
 refine V0 (yl_addv (48+((n % 10:Nat):Int)) rfl rfl rfl (by omega)) ?_
 refine V0 (yl_cvi ui3 ui5 rfl) ?_
 rw [wrap_dig n]
 refine Lb (.inl rfl) rfl el91 rfl rfl rfl rfl fun b8=>?_
 refine V0 (yl_b2s 0 Tryz.underlying91 Tryz.underlying5 Tryz.underlying9 rfl (bs:=[UInt8.ofNat (48+n % 10)]) rfl rfl) ?_
 refine V0 (Ya rfl) ?_
 refine Ln (Et (Cs (Cs (Cr ?_))))
 refine V0 (Ym rfl) ?_
 refine V0 (yl_lt rfl rfl) ?_
 refine Ln (Et ?_)
 refine Cc rfl (fun hc0=>?_) (fun hc0=>?_)
 ·
  have hlt:n<10:=by simp at hc0; omega
  refine Cs (Cr ?_)
  refine V0 (Ym rfl) ?_
  refine V0 (Ya rfl) ?_
  refine Ln (Et (Crt (Er ?_)))
  refine WE.ret1 rfl rfl fun w' hw=>?_
  exact ⟨by rw [Lib.decDigits,dif_pos hlt,Nat.mod_eq_of_lt hlt],hw.fr⟩
 ·
  have hlt:¬n<10:=by simp at hc0; omega
  obtain ⟨q,hq⟩:∃q,q=n / 10:=⟨_,rfl⟩
  have hl1:q<n:=by omega
  have hl2:q≤9223372036854775807:=by omega
  refine Ck (Et (Cs (Cr ?_)))
  refine V0 (Ym rfl) ?_
  refine V0 (yl_quo rfl rfl (by decide)) ?_
  rw [tdiv_10 n,←hq,wrap_in (by omega)]
  refine Lp (.inl rfl) rfl en27 rfl (fun w hw=>by
      have:=ih q hl1 w hl2
      exact this) ?_
  refine V0 (Ym rfl) ?_
  refine V0 (yl_cats rfl rfl (by have:=decDigits_len 18 q (by omega); simp; omega)) ?_
  refine V0 (Ya rfl) ?_
  refine Ln (Et (Crt ?_))
  refine WE.ret1 rfl rfl fun w' hw=>?_
  exact ⟨by conv=>rhs; rw [Lib.decDigits,dif_neg hlt,←hq],hw.fr⟩
end Go.Proofs.YtjfldjidhkfnbaaGreatDoor
end
section
namespace Go.Proofs.YtjfldjidhkfnbaaGreatDoor
open Go.Bw
set_option linter.unusedVariables false
set_option linter.unusedSimpArgs false
theorem any_true {α:Type} {p:α→Bool} {l:List α} {j:Nat} {x:α} (hj:l[j]? = some x) (h:p x=true):l.any p=true:=List.any_eq_true.2 ⟨x,List.mem_of_getElem? hj,h⟩
theorem any_false {α:Type} {p:α→Bool} {l:List α} (h:∀(j:Nat) (x:α),l[j]? = some x→p x=false):l.any p=false:=by
 rw [List.any_eq_false]
 intro x hx
 obtain ⟨j,hj⟩:=List.getElem?_of_mem hx
 simp [h j x hj]
theorem take_snoc {α:Type} {l:List α} {i:Nat} {x:α} (h:l[i]? = some x):l.take (i+1)=l.take i++[x]:=by rw [List.take_add_one,h]; rfl
theorem fo66_0:fieldOff Tryz.prog 66 0=some 0:=by kernel_rfl
theorem na3:nonAgg Tryz.prog 3=true:=by kernel_rfl
theorem fo66_1:fieldOff Tryz.prog 66 1=some 1:=by kernel_rfl
theorem fo66_2:fieldOff Tryz.prog 66 2=some 2:=by kernel_rfl
theorem na9:nonAgg Tryz.prog 9=true:=by kernel_rfl
theorem es61:elemSz Tryz.prog 61=some 3:=by kernel_rfl
theorem ag66:aggOf Tryz.prog 66=some 3:=by kernel_rfl
end Go.Proofs.YtjfldjidhkfnbaaGreatDoor
end
section
namespace Go.Proofs.YtjfldjidhkfnbaaGreatDoor
open Go.Bw
set_option linter.unusedVariables false
set_option linter.unusedSimpArgs false
def atoiV (s:List UInt8):Int:=match Lib.atoiAll s with | .ok v=>v | .range=>Lib.atoiSat s | _=>0
def atoiK (s:List UInt8):Bool:=match Lib.atoiAll s with | .ok _=>true | _=>false
theorem atoiV_in (s:List UInt8) : -9223372036854775808≤atoiV s∧atoiV s≤9223372036854775807:=by
 unfold atoiV
 cases h:Lib.atoiAll s with
 | ok v=>exact Lib.atoiAll_bounds h
 | range=>exact Lib.atoiSat_bounds s
 | _=>simp
theorem wordP_no {s:List UInt8} (h:nameB s=false):wordP s=(⟨2,atoiV s,[]⟩,((atoiK s&&decide (0≤atoiV s))&&decide (atoiV s≤1099511627775))&&(Lib.itoa (atoiV s)==s)):=by
 rw [wordP,if_neg (by simp [h])]
 unfold atoiV atoiK
 cases Lib.atoiAll s<;>simp
theorem lexO_no {s:List UInt8} {l:List Tok} {t:List UInt8} (h:lexO s=(lexO t).map (l++·)) (ht:lexO t=none):¬4096<s.length→lexR s=([],1):=fun hl=>by
 rw [lexR,if_neg hl,h,ht]; rfl
theorem lexO_yes {s:List UInt8} {l:List Tok} (h:lexO s=(lexO []).map (l++·)):¬4096<s.length→lexR s=(l,0):=fun hl=>by
 rw [lexR,if_neg hl,h]; simp [lexO_nil]
theorem map_app {o:Option (List Tok)} {l:List Tok} {t:Tok}:(o.map (t::·)).map (l++·)=o.map ((l++[t])++·):=by
 cases o<;>simp
theorem en57:Enters Tryz.prog 57:=enters_of Tryz.func57 (by kernel_rfl) rfl
theorem pl66:placesP Tryz.prog 66=some [(0,1),(1,1),(2,1)]:=by kernel_rfl
theorem zr66:zeroOf Tryz.prog 66=some (.agg #[.int .i64 0,.int .i64 0,st []]):=by kernel_rfl
theorem el61:EltOk Tryz.prog 61 66 (.agg #[.int .i64 0,.int .i64 0,st []]) 3 32:=eltOk_of (by kernel_rfl)
end Go.Proofs.YtjfldjidhkfnbaaGreatDoor
end
section
namespace Go.Proofs.YtjfldjidhkfnbaaGreatDoor
open Go.Bw
set_option linter.unusedVariables false
set_option linter.unusedSimpArgs false
abbrev Laid (H:View):Prop:=LaidV Tryz.prog 0 1 2 H
def powNm : String := (Rows.treeChecksRow.laid.map (·.1)).getD 2 ""
theorem powName:Tryz.prog.globalNamed powNm=some 0:=by kernel_rfl
theorem itoa_any (G:View) (n:Int) (h0 : -9223372036854775808≤n) (h1:n≤9223372036854775807) (w:World) (hG:Le G w) (hz:Laid G) :
   Calls Tryz.prog 25 #[.int .i64 n] w fun e w'=>e = .returned (st (Lib.itoa n))∧Ext w w':=
 (Any.strconv_Itoa Go.Proofs.Tryz.laysM171 n h0 h1 w (hz.tab hG powName)).mono fun e w' h=>by
   obtain ⟨h1,k,os,rfl⟩:=h
   exact ⟨h1,ext_grow w k os⟩
theorem atoi_any (G:View) (s:List UInt8) (hs:s.length≤4096) (w:World) (hG:Le G w) (hz:Laid G) :
   Calls Tryz.prog 71 #[st s] w fun e w'=>∃r:Value,e = .returned (.tuple #[.int .i64 (atoiV s),r])∧Ext w w'∧ErrIs r (atoiK s):=by
 have hsz:(ByteArray.mk s.toArray).size=s.length:=size_st s
 cases h:Lib.atoiAll s with
 | ok v=>
   refine (Any.strconv_Atoi_ok Go.Proofs.Tryz.laysC172 ⟨s.toArray⟩ (by rw [hsz]; omega) v h w).mono fun e w' hh=>?_
   obtain ⟨h1,h2⟩:=hh
   refine ⟨.nilIface,by simp only [atoiV,h]; exact h1,?_,by simp [ErrIs,atoiK,h]⟩
   rcases h2 with rfl | ⟨t,rfl⟩
   · exact Fr.refl _ _
   · exact Ext.of_below (Lib.bytesWorld_below _ _ _)
 | range=>
   obtain ⟨ev,hv,hev⟩:=hz.rng
   refine (Any.strconv_Atoi_range Go.Proofs.Tryz.laysC172 ⟨s.toArray⟩ (by rw [hsz]; omega) h ev w (hG.cell hv) hev).mono fun e w' hh=>?_
   obtain ⟨N,h1,_,_,h2⟩:=hh
   exact ⟨_,by simp only [atoiV,h]; exact h1,Ext.of_below h2,by simp [ErrIs,atoiK,h]⟩
 | _=>
   obtain ⟨ev,hv,hev⟩:=hz.syn
   refine (Any.strconv_Atoi_syntax Go.Proofs.Tryz.laysC172 ⟨s.toArray⟩ (by rw [hsz]; omega) h ev w (hG.cell hv) hev).mono fun e w' hh=>?_
   obtain ⟨N,h1,_,_,h2⟩:=hh
   exact ⟨_,by simp only [atoiV,h]; exact h1,Ext.of_below h2,by simp [ErrIs,atoiK,h]⟩
theorem uif113:Tryz.prog.underlying 113=some (.interface (Tryz.prog.methodsAt 113)):=by kernel_rfl
theorem en66:Enters Tryz.prog 66:=enters_of Tryz.func66 (by kernel_rfl) rfl
theorem sz66:sizeP Tryz.prog 66=some 3:=by kernel_rfl
theorem en71:Enters Tryz.prog 71:=enters_of Tryz.func71 (by kernel_rfl) rfl
theorem en25:Enters Tryz.prog 25:=enters_of Tryz.func25 (by kernel_rfl) rfl
theorem en48:Enters Tryz.prog 48:=enters_of Tryz.func48 (by kernel_rfl) rfl
theorem en49:Enters Tryz.prog 49:=enters_of Tryz.func49 (by kernel_rfl) rfl
theorem word_any (G:View) (s:List UInt8) (hs:s.length≤4096) (w:World) (hG:Le G w) (hz:Laid G) :
   Calls Tryz.prog 48 #[st s] w fun e w'=>e = .returned (.tuple #[.agg #[.int .i64 (wordP s).1.kind,.int .i64 (wordP s).1.n,st (wordP s).1.text],.bool (wordP s).2])∧Ext w w':=by
 refine enter Tryz.func48 rfl 33 rfl rfl ?_
 refine CWd (W':=Ws w [] [] [G]) (fun _ e=>by subst e; exact Ws.init (by simp [hG])) ?_
 refine Cs (Cr ?_)
 refine WL.alloc (.inl rfl) rfl zr66 fun b2=>?_
 refine V0 (Ya rfl) ?_
 refine Ln (Et (Cs (Cs (Cr ?_))))
 refine V0 (Ym rfl) ?_
 refine Lp (.inl rfl) rfl en66 rfl (fun w hw=>lexName_any _ w) ?_
 refine Ln (Et ?_)
 refine Cc rfl (fun hc0=>?_) (fun hc0=>?_)
 ·
  have hW:wordP s=(⟨1,0,s⟩,true):=by rw [wordP,if_pos hc0]
  refine Cs (Cr ?_)
  refine V0 (Ym rfl) ?_
  refine V0 (Yb zr66 pl66 rfl rfl) ?_
  refine Lst 0 (.inl rfl) rfl rfl rfl sz66 rfl rfl rfl ?_
  refine V0 (Ya rfl) ?_
  refine Ln (Et (Crt (Er ?_)))
  refine WE.retc2 0 rfl rfl rfl rfl ag66 rfl fun w' hw=>?_
  rw [hW]
  exact ⟨rfl,hw.fr⟩
 ·
  have hW:=wordP_no hc0
  have hin:=atoiV_in s
  refine Ck (Et (Cs (Cr ?_)))
  refine V0 (Ym rfl) ?_
  refine Ld (.inl rfl) rfl en71 rfl (fun r:Value=>.tuple #[.int .i64 (atoiV s),r]) (fun _ r=>ErrIs r (atoiK s)) (fun w hw=>atoi_any G s hs w (hw.vs _ (by simp)) hz) ?_
  intro F12 r12 hf12 h12
  refine V0 (Ym rfl) ?_
  refine V0 (Yx rfl rfl) ?_
  refine V0 (Yx rfl rfl) ?_
  refine V0 (Ya rfl) ?_
  refine V0 (Ya rfl) ?_
  refine Ln (Et (Cs (Cr ?_)))
  refine V0 (Ym rfl) ?_
  refine V0 (Yb zr66 pl66 rfl rfl) ?_
  refine V0 (Ym rfl) ?_
  refine V0 (yl_eqnr (atoiK s) uif113 rfl h12) ?_
  refine V0 (Ym rfl) ?_
  apply WL.and 2 rfl rfl rfl rfl (.inl rfl) rfl rfl rfl rfl rfl
  ·
   intro hg0
   refine Lv (.g rfl rfl rfl) rfl (Ym rfl) ?_
   refine Lv (.g rfl rfl rfl) rfl (yl_ge rfl rfl) ?_
   exact Gt 2 rfl rfl rfl
  refine V0 (Ym rfl) ?_
  apply WL.and 2 rfl rfl rfl rfl (.inl rfl) rfl rfl rfl rfl rfl
  ·
   intro hg1
   refine Lv (.g rfl rfl rfl) rfl (Ym rfl) ?_
   refine Lv (.g rfl rfl rfl) rfl (yl_le rfl rfl) ?_
   exact Gt 2 rfl rfl rfl
  refine V0 (Ym rfl) ?_
  apply WL.and 4 rfl rfl rfl rfl (.inl rfl) rfl rfl rfl rfl rfl
  ·
   intro hg2
   refine Lv (.g rfl rfl rfl) rfl (Ym rfl) ?_
   refine Lp (.g rfl rfl rfl) rfl en25 rfl (fun w hw=>itoa_any G _ hin.1 hin.2 w (hw.vs _ (by simp)) hz) ?_
   refine Lv (.g rfl rfl rfl) rfl (Ym rfl) ?_
   refine Lv (.g rfl rfl rfl) rfl (yl_eqs rfl rfl) ?_
   exact Gt 4 rfl rfl rfl
  refine Lst 0 (.inl rfl) rfl rfl rfl sz66 rfl rfl rfl ?_
  refine V0 (Ya rfl) ?_
  refine Ln (Et (Crt ?_))
  refine WE.retc2 0 rfl rfl rfl rfl ag66 rfl fun w' hw=>?_
  rw [hW]
  exact ⟨rfl,hw.fr⟩
theorem lex_any (G:View) (s:List UInt8) (w:World) (hG:Le G w) (hz:Laid G) :
   Calls Tryz.prog 29 #[st s] w fun e w'=>∃r:Option Addr×Nat,e = .returned (.tuple #[.slice r.1 (lexR s).1.length r.2,.int .i64 (lexR s).2])∧Ext w w'∧Sl rdTok 3 (nv w w') r.1 r.2 (lexR s).1:=by
 refine enter Tryz.func29 rfl 66 rfl rfl ?_
 refine CWd (W':=Ws w [] [] [G]) (fun _ e=>by subst e; exact Ws.init (by simp [hG])) ?_
 refine Cs (Cr ?_)
 refine V0 (Ya rfl) ?_
 refine V0 (Ya rfl) ?_
 refine Ln (Et (Cs (Cs (Cr ?_))))
 refine V0 (Ym rfl) ?_
 refine V0 (yl_lens us9 rfl) ?_
 refine V0 (yl_gt rfl rfl) ?_
 refine Ln (Et ?_)
 refine Cc rfl (fun hc0=>?_) (fun hc0=>?_)
 ·
  have hl:4096<s.length:=by simp at hc0; omega
  have hR:lexR s=([],2):=by rw [lexR,if_pos hl]
  refine Cs (Cr ?_)
  refine V0 (Ya rfl) ?_
  refine V0 (Ya rfl) ?_
  refine Ln (Et (Crt (Er ?_)))
  refine WE.retR (rs_2 rfl (rv_tmp rfl) (rv_tmp rfl)) fun w' hw=>?_
  rw [hR]
  exact ⟨(none,0),rfl,hw.fr,Sl.nil⟩
 ·
  have hl:¬4096<s.length:=by simp at hc0; omega
  refine Ck (Et (Cs (Cr ?_)))
  refine V0 (Ya rfl) ?_
  refine LW (fun _ h=>h.osl_nil 66 3) ?_
  refine Ln (Et (Cs (Cb ?_)))
  refine CK (ι:=List UInt8×List Tok×Option Addr×Nat) (fun g=>[(0,st g.1),(4,.slice g.2.2.1 g.2.1.length g.2.2.2)]) [] (fun g=>Ws w [] [osT 66 3 Tok.cells g.2.2.1 g.2.2.2 (g.2.1)] [G]) (fun g=>g.2.1.length+g.1.length≤s.length∧lexO s=(lexO g.1).map (g.2.1++·)) (fun g=>g.1.length) (s,[],none,0) ⟨by simp,by simp⟩ (sc rfl (sc rfl sn)) (fun _ h=>h) ?_
  intro g ⟨hgl,hO⟩
  refine Cs (Cs (Cr ?_))
  refine V0 (Ym rfl) ?_
  refine V0 (yl_nes rfl rfl) ?_
  refine Ln (Et ?_)
  refine Cc rfl (fun hc1=>?_) (fun hc1=>?_)
  ·
   obtain ⟨u,r,hcr⟩:∃u r,g.1=u::r:=by
     cases hg1:g.1 with
     | nil=>rw [hg1] at hc1; simp at hc1
     | cons u r=>exact ⟨u,r,rfl⟩
   have hcl:g.1.length=r.length+1:=by rw [hcr]; rfl
   refine Ck (Et (Cb (Cs (Cr ?_))))
   refine V0 (Ya rfl) ?_
   refine Ln (Et (Cs (Cb ?_)))
   refine CW (ι:=Nat) (fun i=>[(5,.int .i64 (i:Int))]) [(0,_),(4,_)] (fun i=>i≤g.1.length∧∀j,j<i→charB (g.1[j]?.getD 0)=true) (fun i=>g.1.length-i) 0 ⟨Nat.zero_le _,by simp⟩ (sc rfl (sc rfl (sc rfl sn))) ?_
   intro i ⟨hi,hall⟩
   refine Cs (Cs (Cr ?_))
   refine V0 (Ym rfl) ?_
   refine V0 (Ym rfl) ?_
   refine V0 (yl_lens us9 rfl) ?_
   refine V0 (yl_lt rfl rfl) ?_
   refine V0 (Ym rfl) ?_
   apply WL.and 4 rfl rfl rfl rfl (.inl rfl) rfl rfl rfl rfl rfl
   ·
    intro hg0
    have hlt:i<g.1.length:=by simpa using hg0
    have hu0:=at0 hlt
    refine Lv (.g rfl rfl rfl) rfl (Ym rfl) ?_
    refine Lv (.g rfl rfl rfl) rfl (Ym rfl) ?_
    refine Lv (.g rfl rfl rfl) rfl (yl_idxk us9 rfl rfl hu0) ?_
    refine Lp (.g rfl rfl rfl) rfl en47 rfl (fun w hw=>plain_char _ w) ?_
    exact Gt 4 rfl rfl rfl
   refine Ln (Et ?_)
   refine Cc rfl (fun hc2=>?_) (fun hc2=>?_)
   ·
    have hlt:i<g.1.length:=by
      simp only [Bool.and_eq_true,decide_eq_true_eq] at hc2
      omega
    have hch:charB (g.1[i]?.getD 0)=true:=by
      simp only [Bool.and_eq_true] at hc2
      exact hc2.2
    refine Ck (Et (Cb (Cr ?_)))
    refine V0 (Ym rfl) ?_
    refine V0 (Yi rfl rfl rfl (by omega)) ?_
    refine V0 (Ya rfl) ?_
    refine Ln (Eb ?_)
    exact Ea (i+1) (by omega) ⟨by omega,fun j hj=>by rcases Nat.lt_succ_iff_lt_or_eq.1 hj with h | rfl; exact hall j h; exact hch⟩ (sc rfl (sc rfl (sc rfl sn))) (fun _ h=>h)
   ·
    have hrn:runC g.1=i:=by
      refine runC_spec _ _ hi hall ?_
      rcases Nat.lt_or_ge i g.1.length with h | h
      · right
        rw [decide_eq_true (by omega:((i:Nat):Int)<(g.1.length:Int)),Bool.true_and] at hc2
        exact hc2
      · left; omega
    have hu1:g.1[0]? = some u:=by rw [hcr]; rfl
    refine Ce (Ex (Ex (Ebh (Et (Cs ?_)))))
    refine Cs (Cr ?_)
    refine V0 (Ym rfl) ?_
    refine V0 (yl_idxk us9 rfl rfl (i:=0) hu1) ?_
    refine V0 (Ya rfl) ?_
    refine Ln (Et (Cb (Cs (Cr ?_))))
    refine V0 (Ym rfl) ?_
    refine V0 (yl_gt rfl rfl) ?_
    refine V0 (Ya rfl) ?_
    refine Ln (Et ?_)
    refine Cc rfl (fun hc3=>?_) (fun hc3=>?_)
    ·
     have h0n:0<i:=by simp at hc3; omega
     refine Cs (Cr ?_)
     refine V0 (Ym rfl) ?_
     refine V0 (Ym rfl) ?_
     refine V0 (yl_ssh Tryz.underlying9 rfl rfl (by omega) (by omega)) ?_
     rw [Int.toNat_natCast]
     refine Lp (.inl rfl) rfl en48 rfl (fun w hw=>word_any G _ (by simp; omega) w (hw.vs _ (by simp)) hz) ?_
     refine V0 (Ym rfl) ?_
     refine V0 (Yx rfl rfl) ?_
     refine V0 (Yx rfl rfl) ?_
     refine WL.alloc (.inl rfl) rfl zr66 fun b7=>?_
     refine Lst 0 (.inl rfl) rfl rfl rfl sz66 rfl rfl rfl ?_
     refine V0 (Ya rfl) ?_
     refine Ln (Et (Cs (Cs (Cr ?_))))
     refine V0 (Ym rfl) ?_
     refine V0 (yl_not rfl) ?_
     refine Ln (Et ?_)
     refine Cc rfl (fun hc4=>?_) (fun hc4=>?_)
     ·
      have hR:lexR s=([],1):=lexO_no hO (by rw [lexO_word (by omega),hrn,word_same,if_neg (by simpa using hc4)]) hl
      refine Cs (Cr ?_)
      refine V0 (Ya rfl) ?_
      refine V0 (Ya rfl) ?_
      refine Ln (Et (Crt (Er (Ebr (Er ?_)))))
      refine Ebr (Er (Ebr (Er ?_)))
      refine WE.retR (rs_2 rfl (rv_tmp rfl) (rv_tmp rfl)) fun w' hw=>?_
      rw [hR]
      exact ⟨(none,0),rfl,hw.fr,Sl.nil⟩
     ·
      have hwt:wordT (g.1.take i)=some ((wordP (g.1.take i)).1):=by rw [word_same,if_pos (by simpa using hc4)]
      refine Ck (Et (Cs (Cr ?_)))
      refine V0 (Ym rfl) ?_
      refine V0 (Yda 0 rfl rfl ag66 rfl) ?_
      refine Lb (.inl rfl) rfl el61 rfl rfl rfl rfl fun b42=>?_
      refine Lrb 0 (.cells (Tok.cells ((wordP (g.1.take i)).1)).toArray 66 (0,0)) rfl rfl ?_
      refine LA ((wordP (g.1.take i)).1) 2 0 (.inl rfl) rfl el61 rfl rfl rfl rfl rfl rfl (by omega) (by omega) fun a43 c43=>?_
      refine V0 (Ya rfl) ?_
      refine Ln (Et (Cs (Cr ?_)))
      refine V0 (Ym rfl) ?_
      refine V0 (Ym rfl) ?_
      refine V0 (yl_sst Tryz.underlying9 rfl rfl (by omega) (by omega)) ?_
      rw [Int.toNat_natCast]
      refine V0 (Ya rfl) ?_
      refine Ln (Et (Ce (Ebm rfl (Ex (Ebh ?_)))))
      exact Ea ((g.1.drop i,g.2.1++[(wordP (g.1.take i)).1],a43,c43):List UInt8×List Tok×Option Addr×Nat) (by dsimp only; simp; omega) ⟨by dsimp only; simp; omega,by
          dsimp only
          rw [hO,lexO_word (by omega),hrn,hwt]
          simp only
          rw [map_app]⟩ (sc rfl (sc rfl sn)) (fun _ h=>Ws.drop (L:=[_,_]) h)
    ·
     have h0c:runC (u::r)=0:=by rw [←hcr,hrn]; simp at hc3; omega
     refine Cs (Cr ?_)
     refine V0 (Ym rfl) ?_
     refine Lp (.inl rfl) rfl en49 rfl (fun w hw=>lexSign_any _ w) ?_
     refine V0 (Ya rfl) ?_
     refine Ln (Et ?_)
     refine Cc rfl (fun hc5=>?_) (fun hc5=>?_)
     ·
      refine Cr ?_
      refine V0 (Ym rfl) ?_
      refine V0 (Ym rfl) ?_
      refine V0 (yl_ssh Tryz.underlying9 rfl rfl (by omega) (by omega)) ?_
      rw [show g.1.take (1:Int).toNat=[u] by rw [hcr]; rfl]
      refine V0 (Yb zr66 pl66 rfl rfl) ?_
      refine Lb (.inl rfl) rfl el61 rfl rfl rfl rfl fun b54=>?_
      refine Lrb 0 (.cells (Tok.cells (Tok.mk 3 0 [u])).toArray 66 (0,0)) rfl rfl ?_
      refine LA (Tok.mk 3 0 [u]) 1 0 (.inl rfl) rfl el61 rfl rfl rfl rfl rfl rfl (by omega) (by omega) fun a55 c55=>?_
      refine V0 (Ya rfl) ?_
      refine Ln (Eb (Et (Cr ?_)))
      refine V0 (Ym rfl) ?_
      refine V0 (yl_sst Tryz.underlying9 rfl rfl (by omega) (by omega)) ?_
      rw [show g.1.drop (1:Int).toNat=r by rw [hcr]; rfl]
      refine V0 (Ya rfl) ?_
      refine Ln (Eb ?_)
      exact Ea ((r,g.2.1++[Tok.mk 3 0 [u]],a55,c55):List UInt8×List Tok×Option Addr×Nat) (by dsimp only; omega) ⟨by dsimp only; simp; omega,by
          dsimp only
          rw [hO,hcr,lexO_sign h0c (by simpa using hc5),map_app]⟩ (sc rfl (sc rfl sn)) (fun _ h=>Ws.drop (L:=[_]) h)
     ·
      refine Cs (Cr ?_)
      refine V0 (Ym rfl) ?_
      refine V0 (yl_ne rfl rfl) ?_
      refine V0 (Ym rfl) ?_
      apply WL.and 2 rfl rfl rfl rfl (.inl rfl) rfl rfl rfl rfl rfl
      ·
       intro hg1
       refine Lv (.g rfl rfl rfl) rfl (Ym rfl) ?_
       refine Lv (.g rfl rfl rfl) rfl (yl_ne rfl rfl) ?_
       exact Gt 2 rfl rfl rfl
      refine V0 (Ya rfl) ?_
      refine Ln (Et ?_)
      refine Cc rfl (fun hc6=>?_) (fun hc6=>?_)
      ·
       have hbl:¬(u=32∨u=10):=by
         rintro (h | h)<;>rw [h] at hc6<;>simp at hc6
       have hR:lexR s=([],1):=lexO_no hO (by rw [hcr,lexO_bad h0c (by simpa using hc5) hbl]) hl
       refine Cs (Cr ?_)
       refine V0 (Ya rfl) ?_
       refine V0 (Ya rfl) ?_
       refine Ln (Et (Crt (Ebr (Er (Ebr ?_)))))
       refine Er (Ebr (Er ?_))
       refine WE.retR (rs_2 rfl (rv_tmp rfl) (rv_tmp rfl)) fun w' hw=>?_
       rw [hR]
       exact ⟨(none,0),rfl,hw.fr,Sl.nil⟩
      ·
       have hbl:u=32∨u=10:=by
         simp only [bne,Bool.and_eq_false_iff,Bool.not_eq_false',beq_iff_eq] at hc6
         rcases hc6 with h | h
         · left; exact toNat_inj (by simpa using h)
         · right; exact toNat_inj (by simpa using h)
       refine Ck (Eb (Et (Cr ?_)))
       refine V0 (Ym rfl) ?_
       refine V0 (yl_sst Tryz.underlying9 rfl rfl (by omega) (by omega)) ?_
       rw [show g.1.drop (1:Int).toNat=r by rw [hcr]; rfl]
       refine V0 (Ya rfl) ?_
       refine Ln (Eb ?_)
       exact Ea ((r,g.2.1,g.2.2.1,g.2.2.2):List UInt8×List Tok×Option Addr×Nat) (by dsimp only; omega) ⟨by dsimp only; omega,by
           dsimp only
           rw [hO,hcr,lexO_blank h0c (by simpa using hc5) hbl]⟩ (sc rfl (sc rfl sn)) (fun _ h=>h)
  ·
   have hge:g.1=[]:=by simpa using hc1
   have hR:lexR s=(g.2.1,0):=by
     rw [hge] at hO
     exact lexO_yes hO hl
   refine Ce (Ex (Ex (Ebh (Et (Cs ?_)))))
   refine Cr ?_
   refine V0 (Ym rfl) ?_
   refine V0 (Ya rfl) ?_
   refine V0 (Ya rfl) ?_
   refine Ln (Et (Crt ?_))
   refine WE.retR (rs_2 rfl (rv_tmp rfl) (rv_tmp rfl)) fun w' hw=>?_
   rw [hR]
   exact ⟨(g.2.2.1,g.2.2.2),rfl,hw.fr,hw.slT 0 rfl Tok.cells_len (fun _ _ _ _ h=>h)⟩
end Go.Proofs.YtjfldjidhkfnbaaGreatDoor
end
section
namespace Go.Proofs.YtjfldjidhkfnbaaGreatDoor
open Go.Bw
set_option linter.unusedVariables false
set_option linter.unusedSimpArgs false
abbrev kI:Int→Value:=fun n:Int=>Value.int .i64 n
def vS (r:Bool) (a:Int):Value:=.agg #[.bool r,.int .i64 a]
def exprsK (n:Nat):List (GEnt Int):=[(1,vS false 0,0),(2,vS false 0,1),(3,vS true 0,2),(4,vS true 1,3),(5,vS true (-1),4),(6,vS false 1,5)]++(List.range n).map fun j=>(((7+j:Nat):Int),vS false 2,6+j)
def stmtsK:List (GEnt Int):=[(1,vS true 1,0),(2,vS true 2,1),(3,vS true (-1),2),(4,vS false 1,3),(5,vS false 1,4),(6,vS false 1,5),(7,vS false 1,6)]
theorem exprs_step (n:Nat) (h:n<9):gobj kI (gput ((7+n:Nat):Int) (vS false 2) (exprsK n) (6+n)) (gclock ((7+n:Nat):Int) (exprsK n) (6+n))=gobj kI (exprsK (n+1)) (6+(n+1)):=by
 match n,h with
 | 0,_=>rfl
 | 1,_=>rfl
 | 2,_=>rfl
 | 3,_=>rfl
 | 4,_=>rfl
 | 5,_=>rfl
 | 6,_=>rfl
 | 7,_=>rfl
 | 8,_=>rfl
theorem exprs_get (op:Int):gget op (exprsK 9) (vS false 0)=vS ((shE op).getD (false,0)).1 ((shE op).getD (false,0)).2∧ghas op (exprsK 9) = !(shE op).isNone:=by
 by_cases h1:op=1
 · subst h1; exact ⟨rfl,rfl⟩
 by_cases h2:op=2
 · subst h2; exact ⟨rfl,rfl⟩
 by_cases h3:op=3
 · subst h3; exact ⟨rfl,rfl⟩
 by_cases h4:op=4
 · subst h4; exact ⟨rfl,rfl⟩
 by_cases h5:op=5
 · subst h5; exact ⟨rfl,rfl⟩
 by_cases h6:op=6
 · subst h6; exact ⟨rfl,rfl⟩
 by_cases h7:op=7
 · subst h7; exact ⟨rfl,rfl⟩
 by_cases h8:op=8
 · subst h8; exact ⟨rfl,rfl⟩
 by_cases h9:op=9
 · subst h9; exact ⟨rfl,rfl⟩
 by_cases h10:op=10
 · subst h10; exact ⟨rfl,rfl⟩
 by_cases h11:op=11
 · subst h11; exact ⟨rfl,rfl⟩
 by_cases h12:op=12
 · subst h12; exact ⟨rfl,rfl⟩
 by_cases h13:op=13
 · subst h13; exact ⟨rfl,rfl⟩
 by_cases h14:op=14
 · subst h14; exact ⟨rfl,rfl⟩
 by_cases h15:op=15
 · subst h15; exact ⟨rfl,rfl⟩
 have hn:shE op=none:=by
   unfold shE
   rw [if_neg (by omega),if_neg h3,if_neg h4,if_neg h5,if_neg h6,if_neg (by omega)]
 have hf:gfind op (exprsK 9) 0=none:=by
   show gfind op [(1,vS false 0,0),(2,vS false 0,1),(3,vS true 0,2),(4,vS true 1,3),(5,vS true (-1),4),(6,vS false 1,5),(7,vS false 2,6),(8,vS false 2,7),(9,vS false 2,8),(10,vS false 2,9),(11,vS false 2,10),(12,vS false 2,11),(13,vS false 2,12),(14,vS false 2,13),(15,vS false 2,14)] 0=none
   simp [gfind,h1,h2,h3,h4,h5,h6,h7,h8,h9,h10,h11,h12,h13,h14,h15]
 rw [gget,ghas,hf,hn]
 exact ⟨rfl,rfl⟩
theorem stmts_get (op:Int):gget op stmtsK (vS false 0)=vS ((shS op).getD (false,0)).1 ((shS op).getD (false,0)).2∧ghas op stmtsK = !(shS op).isNone:=by
 by_cases h1:op=1
 · subst h1; exact ⟨rfl,rfl⟩
 by_cases h2:op=2
 · subst h2; exact ⟨rfl,rfl⟩
 by_cases h3:op=3
 · subst h3; exact ⟨rfl,rfl⟩
 by_cases h4:op=4
 · subst h4; exact ⟨rfl,rfl⟩
 by_cases h5:op=5
 · subst h5; exact ⟨rfl,rfl⟩
 by_cases h6:op=6
 · subst h6; exact ⟨rfl,rfl⟩
 by_cases h7:op=7
 · subst h7; exact ⟨rfl,rfl⟩
 have hn:shS op=none:=by
   unfold shS
   rw [if_neg h1,if_neg h2,if_neg h3,if_neg (by omega)]
 have hf:gfind op stmtsK 0=none:=by simp [stmtsK,gfind,h1,h2,h3,h4,h5,h6,h7]
 rw [gget,ghas,hf,hn]
 exact ⟨rfl,rfl⟩
theorem cntN_app:∀a b:List Tx,cntN (a++b)=cntN a+cntN b
 | [],b=>by apply Cnt.ext'<;>simp [Cnt.add_f,Cnt.add_m,Cnt.add_k,cntN,c0]
 | x::a,b=>by
   rw [List.cons_append,show ∀q,cntN (x::q)=noteF (!nameT x)+cntN q from fun _=>rfl,cntN_app a b,show ∀q,cntN (x::q)=noteF (!nameT x)+cntN q from fun _=>rfl,Cnt.add_assoc']
theorem cntN_one (s:Tx):cntN [s]=noteF (!nameT s):=rfl
theorem cntN_take {l:List Tx} {i:Nat} {s:Tx} (h:l[i]? = some s):cntN (l.take (i+1))=cntN (l.take i)+noteF (!nameT s):=by rw [take_snoc h,cntN_app,cntN_one]
theorem add_c0 (c:Cnt):c+c0=c:=rfl
theorem tot_f (c:Cnt):c.f≤c.tot:=by unfold Cnt.tot; omega
theorem tot_m (c:Cnt):c.m≤c.tot:=by unfold Cnt.tot; omega
theorem tot_k (c:Cnt):c.k≤c.tot:=by unfold Cnt.tot; omega
theorem el22:EltOk Tryz.prog 22 9 (st []) 1 16:=eltOk_of (by kernel_rfl)
theorem es22:elemSz Tryz.prog 22=some 1:=by kernel_rfl
theorem en87:Enters Tryz.prog 87:=enters_of Tryz.func87 (by kernel_rfl) rfl
theorem en68:Enters Tryz.prog 68:=enters_of Tryz.func68 (by kernel_rfl) rfl
theorem en67:Enters Tryz.prog 67:=enters_of Tryz.func67 (by kernel_rfl) rfl
theorem pl83:placesP Tryz.prog 83=some [(0,1),(1,1)]:=by kernel_rfl
theorem zr83:zeroOf Tryz.prog 83=some (.agg #[.bool false,.int .i64 0]):=by kernel_rfl
theorem um45:Tryz.prog.underlying 45=some (.map 3 83):=by kernel_rfl
theorem mixed:Tryz.prog.follows .mixedOrders=true:=by kernel_rfl
theorem fo49_0:fieldOff Tryz.prog 49 0=some 0:=by kernel_rfl
theorem ar47:arrP Tryz.prog 47=some (10,1):=by kernel_rfl
theorem sz3:sizeP Tryz.prog 3=some 1:=by kernel_rfl
theorem reserved_any (w:World) :
   Calls Tryz.prog 68 #[] w fun e w'=>∃r:Option Addr×Nat,e = .returned (.slice r.1 wordsL.length r.2)∧Ext w w'∧Sl rdStr 1 (nv w w') r.1 r.2 wordsL:=by
 refine enter Tryz.func68 rfl 2 rfl rfl ?_
 refine CWd (W':=Ws w [] [] []) (fun _ e=>by subst e; exact Ws.init (by simp)) ?_
 refine Cs (Cr ?_)
 refine V0 (Ya rfl) ?_
 refine Ln (Et (Cs (Cr ?_)))
 refine Lb (.inl rfl) rfl el22 rfl rfl rfl rfl fun b1=>?_
 refine V0 (Ya rfl) ?_
 refine Ln (Et (Crt ?_))
 refine WE.retR (rs_1 rfl (rv_tmp rfl)) fun w' hw=>?_
 exact ⟨(some ⟨b1,0,none⟩,15),rfl,hw.fr,⟨show wordsL.length≤15 by decide,show 15≤9223372036854775807 by decide,by simp,fun j x hj=>⟨b1,0,rfl,fun k v hk=>hw.nvc 0 rfl (by
     have:k<1:=(List.getElem?_eq_some_iff.1 hk).1
     show (wordsL.flatMap strC)[0+j*1+k]? = some v
     rw [Nat.zero_add,flat_get strC_len hj this]; exact hk)⟩⟩⟩
theorem indexS_any (H:View) (a:Option Addr) (c:Nat) (l:List Tx) (s:Tx) (w:World) (hH:Le H w) (hm:Sl rdStr 1 H a c l) :
   Calls Tryz.prog 87 #[.slice a l.length c,st s] w fun e w'=>(∃n:Int,e = .returned (.int .i64 n)∧decide (0≤n)=l.contains s)∧Ext w w':=by
 have hcap:=hm.cap
 have hmax:=hm.max
 refine enter Tryz.func87 rfl 19 rfl rfl ?_
 refine CWd (W':=Ws w [] [] [H]) (fun _ e=>by subst e; exact Ws.init (by simp [hH])) ?_
 refine Cs (Cr ?_)
 refine V0 (Ya rfl) ?_
 refine Ln (Et (Cs (Cs (Cr ?_))))
 refine V0 (Ym rfl) ?_
 refine V0 (Yn es22 rfl) ?_
 refine V0 (Ym rfl) ?_
 refine Ln (Et (Cb ?_))
 refine CW (ι:=Nat) (fun i=>[(8,.int .i64 (i:Int))]) [(0,_),(1,_),(7,_)] (fun i=>i≤l.length∧∀j,j<i→l[j]?≠some s) (fun i=>l.length-i) 0 ⟨Nat.zero_le _,by simp⟩ (sc rfl (sc rfl (sc rfl (sc rfl sn)))) ?_
 intro i ⟨hi,hall⟩
 refine Cs (Cr ?_)
 refine V0 (yl_lt rfl rfl) ?_
 refine Ln (Et (Cs ?_))
 refine Cc rfl (fun hc0=>?_) (fun hc0=>?_)
 ·
  have hlt:i<l.length:=by simpa using hc0
  obtain ⟨x,hxi⟩:∃x,l[i]? = some x:=⟨_,List.getElem?_eq_getElem hlt⟩
  obtain ⟨pbx,pox,ha,hrow⟩:=hm.elt i x hxi
  have hrow:RdC H pbx (pox+i*1) (strC x):=hrow
  refine Ck (Et (Cs (Cb (Cs (Cr ?_)))))
  refine V0 (Ym rfl) ?_
  refine V0 (Ya rfl) ?_
  refine Ln (Et (Cs (Cr ?_)))
  refine V0 (Ym rfl) ?_
  refine V0 (Ym rfl) ?_
  refine V0 (Ym rfl) ?_
  refine V0 (Yo es22 rfl rfl (by assumption) (by omega)) ?_
  refine V0 (yl_ld 0 na9 rfl rfl (hrow 0 _ rfl)) ?_
  refine V0 (yl_eqs rfl rfl) ?_
  refine Ln (Et ?_)
  refine Cc rfl (fun hc1=>?_) (fun hc1=>?_)
  ·
   have heq:s=x:=by simpa using hc1
   refine Cs (Cr ?_)
   refine V0 (Ym rfl) ?_
   refine V0 (Ya rfl) ?_
   refine Ln (Et (Crt (Ebr (Er (Er ?_)))))
   refine Ebr (Er ?_)
   refine WE.ret1 rfl rfl fun w' hw=>?_
   refine ⟨⟨_,rfl,?_⟩,hw.fr⟩
   rw [decide_eq_true (by omega),List.contains_iff_mem.2 (by rw [heq]; exact List.mem_of_getElem? hxi)]
  ·
   have hne:¬s=x:=by simpa using hc1
   refine Ck (Eb (Et (Cr ?_)))
   refine V0 (Yi rfl rfl rfl (by omega)) ?_
   refine V0 (Ym rfl) ?_
   refine Ln ?_
   exact Ea (i+1) (by omega) ⟨by omega,fun j hj=>by rcases Nat.lt_succ_iff_lt_or_eq.1 hj with h | rfl; exact hall j h; rw [hxi]; intro e; injection e with e; exact hne e.symm⟩ (sc rfl (sc rfl (sc rfl (sc rfl sn)))) (fun _ h=>h)
 ·
  have hge:¬i<l.length:=by simpa using hc0
  have hno:l.contains s=false:=by
    rw [Bool.eq_false_iff]
    intro h
    rw [List.contains_iff_mem] at h
    obtain ⟨j,hj⟩:=List.getElem?_of_mem h
    exact hall j (by have:=(List.getElem?_eq_some_iff.1 hj).1; omega) hj
  refine Ce (Ex (Ex (Ebh (Et (Cs ?_)))))
  refine Cr ?_
  refine V0 (Ya rfl) ?_
  refine Ln (Et (Crt ?_))
  refine WE.ret1 rfl rfl fun w' hw=>?_
  refine ⟨⟨_,rfl,?_⟩,hw.fr⟩
  rw [hno]; rfl
theorem containsS_any (H:View) (a:Option Addr) (c:Nat) (l:List Tx) (s:Tx) (w:World) (hH:Le H w) (hm:Sl rdStr 1 H a c l) :
   Calls Tryz.prog 67 #[.slice a l.length c,st s] w fun e w'=>e = .returned (.bool (l.contains s))∧Ext w w':=by
 refine enter Tryz.func67 rfl 9 rfl rfl ?_
 refine CWd (W':=Ws w [] [] [H]) (fun _ e=>by subst e; exact Ws.init (by simp [hH])) ?_
 refine Cs (Cr ?_)
 refine V0 (Ya rfl) ?_
 refine Ln (Et (Cs (Cr ?_)))
 refine V0 (Ym rfl) ?_
 refine V0 (Ym rfl) ?_
 refine Ld (.inl rfl) rfl en87 rfl (fun n:Int=>.int .i64 n) (fun _ n=>decide (0≤n)=l.contains s) (fun w hw=>(indexS_any H a c l s w (hw.vs _ (by simp)) hm).mono fun e w' h=>by
     obtain ⟨⟨n,h1,h2⟩,h3⟩:=h
     exact ⟨n,h1,h3,h2⟩) ?_
 intro F7 n7 hf7 h7
 refine V0 (yl_ge rfl rfl) ?_
 refine V0 (Ya rfl) ?_
 refine Ln (Et (Crt ?_))
 refine WE.ret1 rfl rfl fun w' hw=>?_
 exact ⟨by rw [h7],hw.fr⟩
theorem treeName_any (s:Tx) (w:World) :
   Calls Tryz.prog 36 #[st s] w fun e w'=>e = .returned (.bool (nameT s))∧Ext w w':=by
 refine enter Tryz.func36 rfl 11 rfl rfl ?_
 refine CWd (W':=Ws w [] [] []) (fun _ e=>by subst e; exact Ws.init (by simp)) ?_
 refine Cs (Cr ?_)
 refine V0 (Ya rfl) ?_
 refine Ln (Et (Cs (Cr ?_)))
 refine V0 (Ym rfl) ?_
 refine Lp (.inl rfl) rfl en66 rfl (fun w hw=>lexName_any _ w) ?_
 refine V0 (Ym rfl) ?_
 apply WL.and 4 rfl rfl rfl rfl (.inl rfl) rfl rfl rfl rfl rfl
 ·
  intro hg0
  refine Ld (.g rfl rfl rfl) rfl en68 rfl (fun r:Option Addr×Nat=>.slice r.1 wordsL.length r.2) (fun H r=>Sl rdStr 1 H r.1 r.2 wordsL) (fun w hw=>reserved_any w) ?_
  intro F6 r6 hf6 h6
  refine Lv (.g rfl rfl rfl) rfl (Ym rfl) ?_
  refine Lp (.g rfl rfl rfl) rfl en67 rfl (fun w hw=>containsS_any F6 r6.1 r6.2 wordsL s w (hw.vs _ (by simp)) h6) ?_
  refine Lv (.g rfl rfl rfl) rfl (yl_not rfl) ?_
  refine WL.wk ?_ (Gt 4 rfl rfl rfl)
  exact fun _ h=>Ws.drops (h) (fun _ hm=>List.mem_append_right [_] hm)
 refine V0 (Ya rfl) ?_
 refine Ln (Et (Crt ?_))
 refine WE.ret1 rfl rfl fun w' hw=>?_
 exact ⟨rfl,hw.fr⟩
theorem exprs_any (w:World) :
   Calls Tryz.prog 17 #[] w fun e w'=>∃b:Nat,e = .returned (.map (some b))∧Ws w [] [blk b (gobj kI (exprsK 9) 15)] [] w':=by
 refine enter Tryz.func17 rfl 19 rfl rfl ?_
 refine CWd (W':=Ws w [] [] []) (fun _ e=>by subst e; exact Ws.init (by simp)) ?_
 refine Cs (Cr ?_)
 refine V0 (Ya rfl) ?_
 refine Ln (Et (Cs (Cr ?_)))
 refine WL.gmk (fun n:Int=>Value.int .i64 n) (.inl rfl) rfl fun b3=>?_
 refine V0 (Yb zr83 pl83 rfl rfl) ?_
 refine WL.gins 0 keyInt (.inl rfl) um45 ui3 rfl rfl rfl rfl ?_
 refine V0 (Yb zr83 pl83 rfl rfl) ?_
 refine WL.gins 0 keyInt (.inl rfl) um45 ui3 rfl rfl rfl rfl ?_
 refine V0 (Yb zr83 pl83 rfl rfl) ?_
 refine WL.gins 0 keyInt (.inl rfl) um45 ui3 rfl rfl rfl rfl ?_
 refine V0 (Yb zr83 pl83 rfl rfl) ?_
 refine WL.gins 0 keyInt (.inl rfl) um45 ui3 rfl rfl rfl rfl ?_
 refine V0 (Yb zr83 pl83 rfl rfl) ?_
 refine WL.gins 0 keyInt (.inl rfl) um45 ui3 rfl rfl rfl rfl ?_
 refine V0 (Yb zr83 pl83 rfl rfl) ?_
 refine WL.gins 0 keyInt (.inl rfl) um45 ui3 rfl rfl rfl rfl ?_
 refine V0 (Ym rfl) ?_
 refine Lrb 0 (gobj kI (exprsK 0) (6+0)) rfl rfl ?_
 refine V0 (Ya rfl) ?_
 refine Ln (Et (Cs (Cs (Cr ?_))))
 refine V0 (Ya rfl) ?_
 refine Ln (Et (Cb ?_))
 refine CK (ι:=Nat) (fun i=>[(2,.int .i64 ((7+i:Nat):Int))]) [(0,_),(1,_)] (fun i=>Ws w [] [blk b3 (gobj kI (exprsK i) (6+i))] []) (fun i=>i≤9) (fun i=>9-i) 0 (Nat.zero_le _) (sc rfl (sc rfl (sc rfl sn))) (fun _ h=>h) ?_
 intro i hi
 refine Cs (Cs (Cr ?_))
 refine V0 (Ym rfl) ?_
 refine V0 (yl_le rfl rfl) ?_
 refine Ln (Et ?_)
 refine Cc rfl (fun hc0=>?_) (fun hc0=>?_)
 ·
  have hlt:i<9:=by simp at hc0; omega
  refine Ck (Et (Cs (Cb (Cr ?_))))
  refine V0 (Ym rfl) ?_
  refine V0 (Ym rfl) ?_
  refine V0 (Yb zr83 pl83 rfl rfl) ?_
  refine WL.gset 0 keyInt (.inl rfl) um45 ui3 rfl rfl rfl rfl ?_
  refine Ln (Eb (Et (Cr ?_)))
  refine V0 (Ym rfl) ?_
  refine V0 (yl_addv (((7+i:Nat):Int)+1) rfl rfl rfl (by omega)) ?_
  refine V0 (Ya rfl) ?_
  refine Ln ?_
  rw [show (((7+i:Nat):Int)+1)=((7+(i+1):Nat):Int) by omega]
  exact Ea (i+1) (by omega) (by omega) (sc rfl (sc rfl (sc rfl sn))) (fun _ h=>by
    have h:=Ws.reL h 0 rfl (congrArg (blk b3) (exprs_step i hlt))
    exact h)
 ·
  have hie:i=9:=by simp at hc0; omega
  subst hie
  refine Ce (Ex (Ex (Ebh (Et (Cs ?_)))))
  refine Cr ?_
  refine V0 (Ym rfl) ?_
  refine V0 (Ya rfl) ?_
  refine Ln (Et (Crt ?_))
  refine WE.retR (rs_1 rfl (rv_tmp rfl)) fun w' hw=>?_
  exact ⟨b3,rfl,hw⟩
theorem stmts_any (w:World) :
   Calls Tryz.prog 18 #[] w fun e w'=>∃b:Nat,e = .returned (.map (some b))∧Ws w [] [blk b (gobj kI stmtsK 7)] [] w':=by
 refine enter Tryz.func18 rfl 10 rfl rfl ?_
 refine CWd (W':=Ws w [] [] []) (fun _ e=>by subst e; exact Ws.init (by simp)) ?_
 refine Cs (Cr ?_)
 refine V0 (Ya rfl) ?_
 refine Ln (Et (Cs (Cr ?_)))
 refine WL.gmk (fun n:Int=>Value.int .i64 n) (.inl rfl) rfl fun b1=>?_
 refine V0 (Yb zr83 pl83 rfl rfl) ?_
 refine WL.gins 0 keyInt (.inl rfl) um45 ui3 rfl rfl rfl rfl ?_
 refine V0 (Yb zr83 pl83 rfl rfl) ?_
 refine WL.gins 0 keyInt (.inl rfl) um45 ui3 rfl rfl rfl rfl ?_
 refine V0 (Yb zr83 pl83 rfl rfl) ?_
 refine WL.gins 0 keyInt (.inl rfl) um45 ui3 rfl rfl rfl rfl ?_
 refine V0 (Yb zr83 pl83 rfl rfl) ?_
 refine WL.gins 0 keyInt (.inl rfl) um45 ui3 rfl rfl rfl rfl ?_
 refine V0 (Yb zr83 pl83 rfl rfl) ?_
 refine WL.gins 0 keyInt (.inl rfl) um45 ui3 rfl rfl rfl rfl ?_
 refine V0 (Yb zr83 pl83 rfl rfl) ?_
 refine WL.gins 0 keyInt (.inl rfl) um45 ui3 rfl rfl rfl rfl ?_
 refine V0 (Yb zr83 pl83 rfl rfl) ?_
 refine WL.gins 0 keyInt (.inl rfl) um45 ui3 rfl rfl rfl rfl ?_
 refine V0 (Ym rfl) ?_
 refine V0 (Ya rfl) ?_
 refine Ln (Et (Crt ?_))
 refine WE.retR (rs_1 rfl (rv_tmp rfl)) fun w' hw=>?_
 exact ⟨b1,rfl,hw⟩
theorem note1_any (vb be bs:Nat) (c:Cnt) (b:Bool) (w:World) (hb:c.tot≤4611686018427387904) (hw:Ws w [vb] [blk vb (.cells #[.int .i64 0,.int .i64 ((c).f:Int),.int .i64 ((c).m:Int),.int .i64 0,.int .i64 ((c).k:Int),.int .i64 0,.int .i64 0,.int .i64 0,.int .i64 0,.int .i64 0,.map (some be),.map (some bs)] 49 (0,0))] [] w) :
   Calls Tryz.prog 20 #[.pointer (some ⟨vb,0,none⟩),.bool b,.int .i64 1] w fun e w'=>e = .returned (.tuple #[])∧Ws w [vb] [blk vb (.cells #[.int .i64 0,.int .i64 ((c+noteF b).f:Int),.int .i64 ((c+noteF b).m:Int),.int .i64 0,.int .i64 ((c+noteF b).k:Int),.int .i64 0,.int .i64 0,.int .i64 0,.int .i64 0,.int .i64 0,.map (some be),.map (some bs)] 49 (0,0))] [] w':=by
 have hf:=tot_f c
 refine enter Tryz.func20 rfl 17 rfl rfl ?_
 refine CWd (W':=Ws w [vb] [blk vb (.cells #[.int .i64 0,.int .i64 ((c).f:Int),.int .i64 ((c).m:Int),.int .i64 0,.int .i64 ((c).k:Int),.int .i64 0,.int .i64 0,.int .i64 0,.int .i64 0,.int .i64 0,.map (some be),.map (some bs)] 49 (0,0))] []) (fun _ e=>by subst e; exact hw) ?_
 refine Cs (Cr ?_)
 refine V0 (Ym rfl) ?_
 refine Ln (Et ?_)
 refine Cc rfl (fun hc0=>?_) (fun hc0=>?_)
 ·
  subst hc0
  refine WC.draws1 0 [(0,true),(1,true),(2,true),(3,true),(4,true),(7,true),(8,true),(5,false),(6,true),(9,true),(10,false)] mixed (by kernel_rfl) (fun _ _ _ d _ h=>by cases d<;>exact h) ?_
  refine Dq rfl (.inl rfl) rfl (fun _ h=>by have h:=Ws.out 0 h; exact h) (Ym rfl) ?_
  refine Dq rfl (.inl rfl) rfl (fun _ h=>by have h:=Ws.out 0 h; exact h) (Ym rfl) ?_
  refine Dq rfl (.inl rfl) rfl (fun _ h=>by have h:=Ws.out 0 h; exact h) (yl_nil rfl) ?_
  refine Dq rfl (.inl rfl) rfl (fun _ h=>by have h:=Ws.out 0 h; exact h) (Yf fo49_0 rfl) ?_
  refine Dq rfl (.inl rfl) rfl (fun _ h=>by have h:=Ws.out 0 h; exact h) (yl_iar (i:=1) ar47 rfl rfl (by decide)) ?_
  refine Dq rfl (.inl rfl) rfl (fun _ h=>by have h:=Ws.out 0 h; exact h) (yl_nil rfl) ?_
  refine Dq rfl (.inl rfl) rfl (fun _ h=>by have h:=Ws.out 0 h; exact h) (Yf fo49_0 rfl) ?_
  refine De rfl (fun _ h=>by have h:=Ws.out 0 h; exact h) ?_
  refine V0 (Yd 0 rfl rfl rfl na3) ?_
  refine Ln (Ed ?_)
  refine Dq rfl (.inl rfl) rfl (fun _ h=>by have h:=Ws.out 0 h; exact h) (Yi rfl rfl rfl (by omega)) ?_
  refine Dq rfl (.inl rfl) rfl (fun _ h=>by have h:=Ws.out 0 h; exact h) (yl_iar (i:=1) ar47 rfl rfl (by decide)) ?_
  refine De rfl (fun _ h=>by have h:=Ws.out 0 h; exact h) ?_
  refine Lst 0 (.inl rfl) rfl rfl rfl sz3 rfl rfl rfl ?_
  refine Ln (Ed ?_)
  refine WD.nil (fun _ h=>by have h:=Ws.out 0 h; exact h) ?_
  refine WE.end0 rfl fun w' hw=>?_
  exact ⟨rfl,hw⟩
 ·
  subst hc0
  refine Ck ?_
  refine WE.end0 rfl fun w' hw=>?_
  exact ⟨rfl,hw⟩
theorem note2_any (vb be bs:Nat) (c:Cnt) (b:Bool) (w:World) (hb:c.tot≤4611686018427387904) (hw:Ws w [vb] [blk vb (.cells #[.int .i64 0,.int .i64 ((c).f:Int),.int .i64 ((c).m:Int),.int .i64 0,.int .i64 ((c).k:Int),.int .i64 0,.int .i64 0,.int .i64 0,.int .i64 0,.int .i64 0,.map (some be),.map (some bs)] 49 (0,0))] [] w) :
   Calls Tryz.prog 20 #[.pointer (some ⟨vb,0,none⟩),.bool b,.int .i64 2] w fun e w'=>e = .returned (.tuple #[])∧Ws w [vb] [blk vb (.cells #[.int .i64 0,.int .i64 ((c+noteM b).f:Int),.int .i64 ((c+noteM b).m:Int),.int .i64 0,.int .i64 ((c+noteM b).k:Int),.int .i64 0,.int .i64 0,.int .i64 0,.int .i64 0,.int .i64 0,.map (some be),.map (some bs)] 49 (0,0))] [] w':=by
 have hm:=tot_m c
 refine enter Tryz.func20 rfl 17 rfl rfl ?_
 refine CWd (W':=Ws w [vb] [blk vb (.cells #[.int .i64 0,.int .i64 ((c).f:Int),.int .i64 ((c).m:Int),.int .i64 0,.int .i64 ((c).k:Int),.int .i64 0,.int .i64 0,.int .i64 0,.int .i64 0,.int .i64 0,.map (some be),.map (some bs)] 49 (0,0))] []) (fun _ e=>by subst e; exact hw) ?_
 refine Cs (Cr ?_)
 refine V0 (Ym rfl) ?_
 refine Ln (Et ?_)
 refine Cc rfl (fun hc0=>?_) (fun hc0=>?_)
 ·
  subst hc0
  refine WC.draws1 0 [(0,true),(1,true),(2,true),(3,true),(4,true),(7,true),(8,true),(5,false),(6,true),(9,true),(10,false)] mixed (by kernel_rfl) (fun _ _ _ d _ h=>by cases d<;>exact h) ?_
  refine Dq rfl (.inl rfl) rfl (fun _ h=>by have h:=Ws.out 0 h; exact h) (Ym rfl) ?_
  refine Dq rfl (.inl rfl) rfl (fun _ h=>by have h:=Ws.out 0 h; exact h) (Ym rfl) ?_
  refine Dq rfl (.inl rfl) rfl (fun _ h=>by have h:=Ws.out 0 h; exact h) (yl_nil rfl) ?_
  refine Dq rfl (.inl rfl) rfl (fun _ h=>by have h:=Ws.out 0 h; exact h) (Yf fo49_0 rfl) ?_
  refine Dq rfl (.inl rfl) rfl (fun _ h=>by have h:=Ws.out 0 h; exact h) (yl_iar (i:=2) ar47 rfl rfl (by decide)) ?_
  refine Dq rfl (.inl rfl) rfl (fun _ h=>by have h:=Ws.out 0 h; exact h) (yl_nil rfl) ?_
  refine Dq rfl (.inl rfl) rfl (fun _ h=>by have h:=Ws.out 0 h; exact h) (Yf fo49_0 rfl) ?_
  refine De rfl (fun _ h=>by have h:=Ws.out 0 h; exact h) ?_
  refine V0 (Yd 0 rfl rfl rfl na3) ?_
  refine Ln (Ed ?_)
  refine Dq rfl (.inl rfl) rfl (fun _ h=>by have h:=Ws.out 0 h; exact h) (Yi rfl rfl rfl (by omega)) ?_
  refine Dq rfl (.inl rfl) rfl (fun _ h=>by have h:=Ws.out 0 h; exact h) (yl_iar (i:=2) ar47 rfl rfl (by decide)) ?_
  refine De rfl (fun _ h=>by have h:=Ws.out 0 h; exact h) ?_
  refine Lst 0 (.inl rfl) rfl rfl rfl sz3 rfl rfl rfl ?_
  refine Ln (Ed ?_)
  refine WD.nil (fun _ h=>by have h:=Ws.out 0 h; exact h) ?_
  refine WE.end0 rfl fun w' hw=>?_
  exact ⟨rfl,hw⟩
 ·
  subst hc0
  refine Ck ?_
  refine WE.end0 rfl fun w' hw=>?_
  exact ⟨rfl,hw⟩
theorem note4_any (vb be bs:Nat) (c:Cnt) (b:Bool) (w:World) (hb:c.tot≤4611686018427387904) (hw:Ws w [vb] [blk vb (.cells #[.int .i64 0,.int .i64 ((c).f:Int),.int .i64 ((c).m:Int),.int .i64 0,.int .i64 ((c).k:Int),.int .i64 0,.int .i64 0,.int .i64 0,.int .i64 0,.int .i64 0,.map (some be),.map (some bs)] 49 (0,0))] [] w) :
   Calls Tryz.prog 20 #[.pointer (some ⟨vb,0,none⟩),.bool b,.int .i64 4] w fun e w'=>e = .returned (.tuple #[])∧Ws w [vb] [blk vb (.cells #[.int .i64 0,.int .i64 ((c+noteK b).f:Int),.int .i64 ((c+noteK b).m:Int),.int .i64 0,.int .i64 ((c+noteK b).k:Int),.int .i64 0,.int .i64 0,.int .i64 0,.int .i64 0,.int .i64 0,.map (some be),.map (some bs)] 49 (0,0))] [] w':=by
 have hk:=tot_k c
 refine enter Tryz.func20 rfl 17 rfl rfl ?_
 refine CWd (W':=Ws w [vb] [blk vb (.cells #[.int .i64 0,.int .i64 ((c).f:Int),.int .i64 ((c).m:Int),.int .i64 0,.int .i64 ((c).k:Int),.int .i64 0,.int .i64 0,.int .i64 0,.int .i64 0,.int .i64 0,.map (some be),.map (some bs)] 49 (0,0))] []) (fun _ e=>by subst e; exact hw) ?_
 refine Cs (Cr ?_)
 refine V0 (Ym rfl) ?_
 refine Ln (Et ?_)
 refine Cc rfl (fun hc0=>?_) (fun hc0=>?_)
 ·
  subst hc0
  refine WC.draws1 0 [(0,true),(1,true),(2,true),(3,true),(4,true),(7,true),(8,true),(5,false),(6,true),(9,true),(10,false)] mixed (by kernel_rfl) (fun _ _ _ d _ h=>by cases d<;>exact h) ?_
  refine Dq rfl (.inl rfl) rfl (fun _ h=>by have h:=Ws.out 0 h; exact h) (Ym rfl) ?_
  refine Dq rfl (.inl rfl) rfl (fun _ h=>by have h:=Ws.out 0 h; exact h) (Ym rfl) ?_
  refine Dq rfl (.inl rfl) rfl (fun _ h=>by have h:=Ws.out 0 h; exact h) (yl_nil rfl) ?_
  refine Dq rfl (.inl rfl) rfl (fun _ h=>by have h:=Ws.out 0 h; exact h) (Yf fo49_0 rfl) ?_
  refine Dq rfl (.inl rfl) rfl (fun _ h=>by have h:=Ws.out 0 h; exact h) (yl_iar (i:=4) ar47 rfl rfl (by decide)) ?_
  refine Dq rfl (.inl rfl) rfl (fun _ h=>by have h:=Ws.out 0 h; exact h) (yl_nil rfl) ?_
  refine Dq rfl (.inl rfl) rfl (fun _ h=>by have h:=Ws.out 0 h; exact h) (Yf fo49_0 rfl) ?_
  refine De rfl (fun _ h=>by have h:=Ws.out 0 h; exact h) ?_
  refine V0 (Yd 0 rfl rfl rfl na3) ?_
  refine Ln (Ed ?_)
  refine Dq rfl (.inl rfl) rfl (fun _ h=>by have h:=Ws.out 0 h; exact h) (Yi rfl rfl rfl (by omega)) ?_
  refine Dq rfl (.inl rfl) rfl (fun _ h=>by have h:=Ws.out 0 h; exact h) (yl_iar (i:=4) ar47 rfl rfl (by decide)) ?_
  refine De rfl (fun _ h=>by have h:=Ws.out 0 h; exact h) ?_
  refine Lst 0 (.inl rfl) rfl rfl rfl sz3 rfl rfl rfl ?_
  refine Ln (Ed ?_)
  refine WD.nil (fun _ h=>by have h:=Ws.out 0 h; exact h) ?_
  refine WE.end0 rfl fun w' hw=>?_
  exact ⟨rfl,hw⟩
 ·
  subst hc0
  refine Ck ?_
  refine WE.end0 rfl fun w' hw=>?_
  exact ⟨rfl,hw⟩
end Go.Proofs.YtjfldjidhkfnbaaGreatDoor
end
section
namespace Go.Proofs.YtjfldjidhkfnbaaGreatDoor
open Go.Bw
set_option linter.unusedVariables false
set_option linter.unusedSimpArgs false
theorem cntN_len:∀l:List Tx,(cntN l).tot≤l.length
 | []=>Nat.le_refl _
 | s::r=>by
   have:=cntN_len r; have:=noteF_tot (!nameT s)
   rw [show cntN (s::r)=noteF (!nameT s)+cntN r from rfl,Cnt.tot_add,List.length_cons]
   omega
theorem int_lt3 (n:Nat):decide ((3:Int)<(n:Int))=decide (3<n):=by rw [Bool.eq_iff_iff]; simp; omega
theorem cntE_eq (x:TExpr) (d:Nat):cntE x d=if 6<d then ⟨0,1,0⟩ else noteK (shE x.op).isNone+shapeC ((shE x.op).getD (false,0)) x.mod x.nm x.args.length+noteF (numBad x.op x.n)+cntEs x.args (d+1):=by
 cases x; rw [cntE]; rfl
theorem cntEs_app (d:Nat):∀a b:List TExpr,cntEs (a++b) d=cntEs a d+cntEs b d
 | [],b=>by apply Cnt.ext'<;>simp [Cnt.add_f,Cnt.add_m,Cnt.add_k,cntEs,c0]
 | x::a,b=>by
   rw [List.cons_append,show ∀q,cntEs (x::q) d=cntE x d+cntEs q d from fun q=>by rw [cntEs],cntEs_app d a b,show ∀q,cntEs (x::q) d=cntE x d+cntEs q d from fun q=>by rw [cntEs],Cnt.add_assoc']
theorem cntEs_take {l:List TExpr} {i:Nat} {x:TExpr} (d:Nat) (h:l[i]? = some x):cntEs (l.take (i+1)) d=cntEs (l.take i) d+cntE x d:=by
 rw [take_snoc h,cntEs_app,show cntEs [x] d=cntE x d+c0 by rw [cntEs,cntEs],add_c0]
theorem wEs_take:∀(l:List TExpr) (i:Nat),wEs (l.take i)≤wEs l
 | [],i=>by simp
 | x::r,0=>by simp [wEs]
 | x::r,i+1=>by have:=wEs_take r i; simp only [List.take_succ_cons,wEs]; omega
theorem wEs_upto {l:List TExpr} {i:Nat} {x:TExpr} (h:l[i]? = some x):wEs (l.take i)+wE x≤wEs l:=by
 have h2:=wEs_take l (i+1)
 rw [take_snoc h] at h2
 have:∀a b:List TExpr,wEs (a++b)=wEs a+wEs b:=by
   intro a b
   induction a with
   | nil=>simp [wEs]
   | cons y a ih=>simp only [List.cons_append,wEs,ih]; omega
 rw [this] at h2
 simp only [wEs] at h2
 omega
theorem cntS_eq (x:TStmt) (d:Nat):cntS x d=noteK (shS x.op).isNone+shapeC ((shS x.op).getD (false,0)) x.mod x.nm x.args.length+cntEs x.args 1+noteF (bodyBad x.op x.body.length x.other.length)
     + (if (inner x.op||decide (0<x.body.length))=true then cntB x.body (d+1) else c0)+(if 0<x.other.length then cntB x.other (d+1) else c0):=by
 cases x; rw [cntS]; rfl
theorem cntSs_app (d:Nat):∀a b:List TStmt,cntSs (a++b) d=cntSs a d+cntSs b d
 | [],b=>by apply Cnt.ext'<;>simp [Cnt.add_f,Cnt.add_m,Cnt.add_k,cntSs,c0]
 | x::a,b=>by
   rw [List.cons_append,show ∀q,cntSs (x::q) d=cntS x d+cntSs q d from fun q=>by rw [cntSs],cntSs_app d a b,show ∀q,cntSs (x::q) d=cntS x d+cntSs q d from fun q=>by rw [cntSs],Cnt.add_assoc']
theorem cntSs_take {l:List TStmt} {i:Nat} {x:TStmt} (d:Nat) (h:l[i]? = some x):cntSs (l.take (i+1)) d=cntSs (l.take i) d+cntS x d:=by
 rw [take_snoc h,cntSs_app,show cntSs [x] d=cntS x d+c0 by rw [cntSs,cntSs],add_c0]
theorem wSs_take:∀(l:List TStmt) (i:Nat),wSs (l.take i)≤wSs l
 | [],i=>by simp
 | x::r,0=>by simp [wSs]
 | x::r,i+1=>by have:=wSs_take r i; simp only [List.take_succ_cons,wSs]; omega
theorem wSs_upto {l:List TStmt} {i:Nat} {x:TStmt} (h:l[i]? = some x):wSs (l.take i)+wS x≤wSs l:=by
 have h2:=wSs_take l (i+1)
 rw [take_snoc h] at h2
 have:∀a b:List TStmt,wSs (a++b)=wSs a+wSs b:=by
   intro a b
   induction a with
   | nil=>simp [wSs]
   | cons y a ih=>simp only [List.cons_append,wSs,ih]; omega
 rw [this] at h2
 simp only [wSs] at h2
 omega
theorem en36:Enters Tryz.prog 36:=enters_of Tryz.func36 (by kernel_rfl) rfl
theorem en20:Enters Tryz.prog 20:=enters_of Tryz.func20 (by kernel_rfl) rfl
theorem fo53_1:fieldOff Tryz.prog 53 1=some 1:=by kernel_rfl
theorem en19:Enters Tryz.prog 19:=enters_of Tryz.func19 (by kernel_rfl) rfl
theorem fo53_0:fieldOff Tryz.prog 53 0=some 0:=by kernel_rfl
theorem fo53_3:fieldOff Tryz.prog 53 3=some 3:=by kernel_rfl
theorem fo83_0:fieldOff Tryz.prog 83 0=some 0:=by kernel_rfl
theorem na4:nonAgg Tryz.prog 4=true:=by kernel_rfl
theorem fo83_1:fieldOff Tryz.prog 83 1=some 1:=by kernel_rfl
theorem names_any (vb be bs:Nat) (H:View) (a:Option Addr) (n:Nat) (l:List Tx) (c:Cnt) (w:World) (hm:Sl rdStr 1 H a n l) (hb:c.tot+l.length≤4611686018427387904) (hw:Ws w [vb] [blk vb (.cells #[.int .i64 0,.int .i64 ((c).f:Int),.int .i64 ((c).m:Int),.int .i64 0,.int .i64 ((c).k:Int),.int .i64 0,.int .i64 0,.int .i64 0,.int .i64 0,.int .i64 0,.map (some be),.map (some bs)] 49 (0,0))] [H] w) :
   Calls Tryz.prog 19 #[.pointer (some ⟨vb,0,none⟩),.slice a l.length n] w fun e w'=>e = .returned (.tuple #[])∧Ws w [vb] [blk vb (.cells #[.int .i64 0,.int .i64 ((c+cntN l).f:Int),.int .i64 ((c+cntN l).m:Int),.int .i64 0,.int .i64 ((c+cntN l).k:Int),.int .i64 0,.int .i64 0,.int .i64 0,.int .i64 0,.int .i64 0,.map (some be),.map (some bs)] 49 (0,0))] [H] w':=by
 have hcap:=hm.cap
 have hmax:=hm.max
 refine enter Tryz.func19 rfl 18 rfl rfl ?_
 refine CWd (W':=Ws w [vb] [blk vb (.cells #[.int .i64 0,.int .i64 ((c).f:Int),.int .i64 ((c).m:Int),.int .i64 0,.int .i64 ((c).k:Int),.int .i64 0,.int .i64 0,.int .i64 0,.int .i64 0,.int .i64 0,.map (some be),.map (some bs)] 49 (0,0))] [H]) (fun _ e=>by subst e; exact hw) ?_
 refine Cs (Cr ?_)
 refine V0 (Ym rfl) ?_
 refine V0 (Yn es22 rfl) ?_
 refine V0 (Ym rfl) ?_
 refine Ln (Et (Cb ?_))
 refine CK (ι:=Nat) (fun i=>[(8,.int .i64 (i:Int))]) [(0,_),(6,_),(7,_)] (fun i=>Ws w [vb] [blk vb (.cells #[.int .i64 0,.int .i64 ((c+cntN (l.take i)).f:Int),.int .i64 ((c+cntN (l.take i)).m:Int),.int .i64 0,.int .i64 ((c+cntN (l.take i)).k:Int),.int .i64 0,.int .i64 0,.int .i64 0,.int .i64 0,.int .i64 0,.map (some be),.map (some bs)] 49 (0,0))] [H]) (fun i=>i≤l.length) (fun i=>l.length-i) 0 (Nat.zero_le _) (sc rfl (sc rfl (sc rfl (sc rfl sn)))) (fun _ h=>h) ?_
 intro i hi
 refine Cs (Cr ?_)
 refine V0 (yl_lt rfl rfl) ?_
 refine Ln (Et (Cs ?_))
 refine Cc rfl (fun hc0=>?_) (fun hc0=>?_)
 ·
  have hlt:i<l.length:=by simpa using hc0
  obtain ⟨x,hxi⟩:∃x,l[i]? = some x:=⟨_,List.getElem?_eq_getElem hlt⟩
  obtain ⟨pbx,pox,ha,hrow⟩:=hm.elt i x hxi
  have hrow:RdC H pbx (pox+i*1) (strC x):=hrow
  have e2:c+cntN (l.take i)+noteF (!nameT x)=c+cntN (l.take (i+1)):=by rw [cntN_take hxi,Cnt.add_assoc']
  have hbt:(c+cntN (l.take i)).tot≤4611686018427387904:=by
    rw [Cnt.tot_add]
    have:=cntN_len (l.take i)
    simp at this
    omega
  refine Ck (Et (Cs (Cb (Cs (Cr ?_)))))
  refine V0 (Yo es22 rfl rfl (by assumption) (by omega)) ?_
  refine V0 (yl_ld 0 na9 rfl rfl (hrow 0 _ rfl)) ?_
  refine V0 (Ya rfl) ?_
  refine Ln (Et (Cr ?_))
  refine V0 (Ym rfl) ?_
  refine V0 (Ym rfl) ?_
  refine Lp (.inl rfl) rfl en36 rfl (fun w hw=>treeName_any _ w) ?_
  refine V0 (yl_not rfl) ?_
  refine Lf 0 rfl ?_
  refine WL.callw0 [_] _ [blk vb (.cells #[.int .i64 0,.int .i64 ((c+cntN (l.take i)+noteF (!nameT x)).f:Int),.int .i64 ((c+cntN (l.take i)+noteF (!nameT x)).m:Int),.int .i64 0,.int .i64 ((c+cntN (l.take i)+noteF (!nameT x)).k:Int),.int .i64 0,.int .i64 0,.int .i64 0,.int .i64 0,.int .i64 0,.map (some be),.map (some bs)] 49 (0,0))] (.inl rfl) rfl en20 rfl rfl [] (by simp) (fun w hw=>note1_any vb be bs (c+cntN (l.take i)) (!nameT x) w (hbt) hw) ?_
  refine Ln (Eb (Et (Cr ?_)))
  refine V0 (Yi rfl rfl rfl (by omega)) ?_
  refine V0 (Ym rfl) ?_
  refine Ln ?_
  rw [e2]
  exact Ea (i+1) (by omega) (by omega) (sc rfl (sc rfl (sc rfl (sc rfl sn)))) (fun _ h=>h)
 ·
  have hge:¬i<l.length:=by simpa using hc0
  have hT:l.take i=l:=List.take_of_length_le (by omega)
  rw [hT]
  refine Ce (Ex (Ex (Ebh ?_)))
  refine WE.end0 rfl fun w' hw=>?_
  exact ⟨rfl,hw⟩
theorem vdecl_any (vb be bs:Nat) (d:TDecl) (c:Cnt) (w:World) (hb:c.tot+4≤4611686018427387904) (hw:Ws w [vb] [blk vb (.cells #[.int .i64 0,.int .i64 ((c).f:Int),.int .i64 ((c).m:Int),.int .i64 0,.int .i64 ((c).k:Int),.int .i64 0,.int .i64 0,.int .i64 0,.int .i64 0,.int .i64 0,.map (some be),.map (some bs)] 49 (0,0))] [] w) :
   Calls Tryz.prog 21 #[.pointer (some ⟨vb,0,none⟩),.agg #[.int .i64 d.kind,st d.nm,.bool d.pub,.int .i64 d.n]] w fun e w'=>e = .returned (.tuple #[])∧Ws w [vb] [blk vb (.cells #[.int .i64 0,.int .i64 ((c+declC d).f:Int),.int .i64 ((c+declC d).m:Int),.int .i64 0,.int .i64 ((c+declC d).k:Int),.int .i64 0,.int .i64 0,.int .i64 0,.int .i64 0,.int .i64 0,.map (some be),.map (some bs)] 49 (0,0))] [] w':=by
 have hbt:(c+cntN [d.nm]).tot≤4611686018427387904:=by
   rw [Cnt.tot_add]
   have:=cntN_len [d.nm]
   simp at this
   omega
 refine enter Tryz.func21 rfl 44 rfl rfl ?_
 refine CWd (W':=Ws w [vb] [blk vb (.cells #[.int .i64 0,.int .i64 ((c).f:Int),.int .i64 ((c).m:Int),.int .i64 0,.int .i64 ((c).k:Int),.int .i64 0,.int .i64 0,.int .i64 0,.int .i64 0,.int .i64 0,.map (some be),.map (some bs)] 49 (0,0))] []) (fun _ e=>by subst e; exact hw) ?_
 refine Cs (Cr ?_)
 refine WL.box (.inl rfl) rfl rfl fun b3=>?_
 refine Ln (Et (Cs (Cr ?_)))
 refine V0 (Ym rfl) ?_
 refine V0 (Yf fo53_1 rfl) ?_
 refine V0 (Yd 0 rfl rfl rfl na9) ?_
 refine Lb (.inl rfl) rfl el22 rfl rfl rfl rfl fun b7=>?_
 refine Lsv (T:=9) (m:=1) 0 [d.nm] rfl rfl (show 1≤1 by decide) (by decide) fun H7 hH7=>?_
 refine Lf 1 rfl ?_
 refine WL.callw0 [_] _ [blk vb (.cells #[.int .i64 0,.int .i64 ((c+cntN [d.nm]).f:Int),.int .i64 ((c+cntN [d.nm]).m:Int),.int .i64 0,.int .i64 ((c+cntN [d.nm]).k:Int),.int .i64 0,.int .i64 0,.int .i64 0,.int .i64 0,.int .i64 0,.map (some be),.map (some bs)] 49 (0,0))] (.inl rfl) rfl en19 rfl rfl [H7] (by simp) (fun w hw=>names_any vb be bs H7 _ _ [d.nm] (c) w hH7 (by show c.tot+1≤_; omega) hw) ?_
 refine Ln (Et (Cs (Cr ?_)))
 refine V0 (Yf fo53_0 rfl) ?_
 refine V0 (Yd 1 rfl rfl rfl na3) ?_
 refine Ln (Et (Cb (Cs (Cr ?_))))
 refine V0 (yl_eq rfl rfl) ?_
 refine V0 (Ya rfl) ?_
 refine Ln (Et ?_)
 refine Cc rfl (fun hc0=>?_) (fun hc0=>?_)
 ·
  have hk:d.kind=1:=by simpa using hc0
  have e2:∀b,(b=(decide (d.n<0)||decide (1099511627775<d.n)))→c+cntN [d.nm]+noteF b=c+declC d:=fun b hb=>by rw [hb,declC,if_pos hk,Cnt.add_assoc']
  refine Cr ?_
  refine V0 (Ym rfl) ?_
  refine V0 (Yf fo53_3 rfl) ?_
  refine V0 (Yd 1 rfl rfl rfl na3) ?_
  refine V0 (yl_lt rfl rfl) ?_
  refine V0 (Ym rfl) ?_
  apply WL.or 3 rfl rfl rfl rfl (.inl rfl) rfl rfl rfl rfl rfl
  ·
   intro hg0
   refine Lv (.g rfl rfl rfl) rfl (Yf fo53_3 rfl) ?_
   refine Lv (.g rfl rfl rfl) rfl (Yd 1 rfl rfl rfl na3) ?_
   refine Lv (.g rfl rfl rfl) rfl (yl_gt rfl rfl) ?_
   exact Gt 3 rfl rfl rfl
  refine Lf 0 rfl ?_
  refine WL.callw0 [_] _ [blk vb (.cells #[.int .i64 0,.int .i64 ((c+cntN [d.nm]+noteF (decide (d.n<0)||decide (1099511627775<d.n))).f:Int),.int .i64 ((c+cntN [d.nm]+noteF (decide (d.n<0)||decide (1099511627775<d.n))).m:Int),.int .i64 0,.int .i64 ((c+cntN [d.nm]+noteF (decide (d.n<0)||decide (1099511627775<d.n))).k:Int),.int .i64 0,.int .i64 0,.int .i64 0,.int .i64 0,.int .i64 0,.map (some be),.map (some bs)] 49 (0,0))] (.inl rfl) rfl en20 rfl rfl [] (by simp) (fun w hw=>note1_any vb be bs (c+cntN [d.nm]) (decide (d.n<0)||decide (1099511627775<d.n)) w (hbt) hw) ?_
  refine Ln (Eb ?_)
  refine WE.end0 rfl fun w' hw=>?_
  rw [e2 _ rfl] at hw
  exact ⟨rfl,Ws.drops (Ws.keep (L:=[_]) hw) (fun _ hm=>List.mem_append_right [_] hm)⟩
 ·
  have hk:¬d.kind=1:=by simpa using hc0
  refine Cs (Cr ?_)
  refine V0 (yl_eq rfl rfl) ?_
  refine V0 (Ya rfl) ?_
  refine Ln (Et ?_)
  refine Cc rfl (fun hc1=>?_) (fun hc1=>?_)
  ·
   have hk2:d.kind=2:=by simpa using hc1
   have e2:∀b,(b=(!(d.n==0)))→c+cntN [d.nm]+noteF b=c+declC d:=fun b hb=>by rw [hb,declC,if_neg hk,if_pos hk2,Cnt.add_assoc']
   refine Cr ?_
   refine V0 (Ym rfl) ?_
   refine V0 (Yf fo53_3 rfl) ?_
   refine V0 (Yd 1 rfl rfl rfl na3) ?_
   refine V0 (yl_ne rfl rfl) ?_
   refine Lf 0 rfl ?_
   refine WL.callw0 [_] _ [blk vb (.cells #[.int .i64 0,.int .i64 ((c+cntN [d.nm]+noteF (!(d.n==0))).f:Int),.int .i64 ((c+cntN [d.nm]+noteF (!(d.n==0))).m:Int),.int .i64 0,.int .i64 ((c+cntN [d.nm]+noteF (!(d.n==0))).k:Int),.int .i64 0,.int .i64 0,.int .i64 0,.int .i64 0,.int .i64 0,.map (some be),.map (some bs)] 49 (0,0))] (.inl rfl) rfl en20 rfl rfl [] (by simp) (fun w hw=>note1_any vb be bs (c+cntN [d.nm]) (!(d.n==0)) w (hbt) hw) ?_
   refine Ln (Eb ?_)
   refine WE.end0 rfl fun w' hw=>?_
   rw [e2 _ rfl] at hw
   exact ⟨rfl,Ws.drops (Ws.keep (L:=[_]) hw) (fun _ hm=>List.mem_append_right [_] hm)⟩
  ·
   have hk2:¬d.kind=2:=by simpa using hc1
   refine Cs (Cr ?_)
   refine V0 (yl_eq rfl rfl) ?_
   refine V0 (Ya rfl) ?_
   refine Ln (Et ?_)
   refine Cc rfl (fun hc2=>?_) (fun hc2=>?_)
   ·
    have hk3:d.kind=3:=by simpa using hc2
    have e2:∀b,(b=(decide (d.n<1)||decide (32<d.n)))→c+cntN [d.nm]+noteF b=c+declC d:=fun b hb=>by rw [hb,declC,if_neg hk,if_neg hk2,if_pos hk3,Cnt.add_assoc']
    refine Cr ?_
    refine V0 (Ym rfl) ?_
    refine V0 (Yf fo53_3 rfl) ?_
    refine V0 (Yd 1 rfl rfl rfl na3) ?_
    refine V0 (yl_lt rfl rfl) ?_
    refine V0 (Ym rfl) ?_
    apply WL.or 3 rfl rfl rfl rfl (.inl rfl) rfl rfl rfl rfl rfl
    ·
     intro hg1
     refine Lv (.g rfl rfl rfl) rfl (Yf fo53_3 rfl) ?_
     refine Lv (.g rfl rfl rfl) rfl (Yd 1 rfl rfl rfl na3) ?_
     refine Lv (.g rfl rfl rfl) rfl (yl_gt rfl rfl) ?_
     exact Gt 3 rfl rfl rfl
    refine Lf 0 rfl ?_
    refine WL.callw0 [_] _ [blk vb (.cells #[.int .i64 0,.int .i64 ((c+cntN [d.nm]+noteF (decide (d.n<1)||decide (32<d.n))).f:Int),.int .i64 ((c+cntN [d.nm]+noteF (decide (d.n<1)||decide (32<d.n))).m:Int),.int .i64 0,.int .i64 ((c+cntN [d.nm]+noteF (decide (d.n<1)||decide (32<d.n))).k:Int),.int .i64 0,.int .i64 0,.int .i64 0,.int .i64 0,.int .i64 0,.map (some be),.map (some bs)] 49 (0,0))] (.inl rfl) rfl en20 rfl rfl [] (by simp) (fun w hw=>note1_any vb be bs (c+cntN [d.nm]) (decide (d.n<1)||decide (32<d.n)) w (hbt) hw) ?_
    refine Ln (Eb ?_)
    refine WE.end0 rfl fun w' hw=>?_
    rw [e2 _ rfl] at hw
    exact ⟨rfl,Ws.drops (Ws.keep (L:=[_]) hw) (fun _ hm=>List.mem_append_right [_] hm)⟩
   ·
    have hk3:¬d.kind=3:=by simpa using hc2
    have e2:∀b,(b=true)→c+cntN [d.nm]+noteK b=c+declC d:=fun b hb=>by rw [hb,declC,if_neg hk,if_neg hk2,if_neg hk3,Cnt.add_assoc']
    refine Cr ?_
    refine V0 (Ym rfl) ?_
    refine Lf 0 rfl ?_
    refine WL.callw0 [_] _ [blk vb (.cells #[.int .i64 0,.int .i64 ((c+cntN [d.nm]+noteK (true)).f:Int),.int .i64 ((c+cntN [d.nm]+noteK (true)).m:Int),.int .i64 0,.int .i64 ((c+cntN [d.nm]+noteK (true)).k:Int),.int .i64 0,.int .i64 0,.int .i64 0,.int .i64 0,.int .i64 0,.map (some be),.map (some bs)] 49 (0,0))] (.inl rfl) rfl en20 rfl rfl [] (by simp) (fun w hw=>note4_any vb be bs (c+cntN [d.nm]) (true) w (hbt) hw) ?_
    refine Ln (Eb ?_)
    refine WE.end0 rfl fun w' hw=>?_
    rw [e2 _ rfl] at hw
    exact ⟨rfl,Ws.drops (Ws.keep (L:=[_]) hw) (fun _ hm=>List.mem_append_right [_] hm)⟩
theorem vshape_any (vb be bs:Nat) (r:Bool) (a:Int) (mod nm:Tx) (len:Nat) (c:Cnt) (w:World) (hb:c.tot+4≤4611686018427387904) (hl:mod.length+nm.length≤9223372036854775807) (hw:Ws w [vb] [blk vb (.cells #[.int .i64 0,.int .i64 ((c).f:Int),.int .i64 ((c).m:Int),.int .i64 0,.int .i64 ((c).k:Int),.int .i64 0,.int .i64 0,.int .i64 0,.int .i64 0,.int .i64 0,.map (some be),.map (some bs)] 49 (0,0))] [] w) :
   Calls Tryz.prog 37 #[.pointer (some ⟨vb,0,none⟩),.agg #[.bool r,.int .i64 a],st mod,st nm,.int .i64 (len:Int)] w fun e w'=>e = .returned (.tuple #[])∧Ws w [vb] [blk vb (.cells #[.int .i64 0,.int .i64 ((c+shapeC (r,a) mod nm len).f:Int),.int .i64 ((c+shapeC (r,a) mod nm len).m:Int),.int .i64 0,.int .i64 ((c+shapeC (r,a) mod nm len).k:Int),.int .i64 0,.int .i64 0,.int .i64 0,.int .i64 0,.int .i64 0,.map (some be),.map (some bs)] 49 (0,0))] [] w':=by
 have h1:(c+noteF (badName r mod nm)).tot≤4611686018427387904:=by rw [Cnt.tot_add]; have:=noteF_tot (badName r mod nm); omega
 have h2:(c+noteF (badName r mod nm)+noteF (badArgs a len)).tot≤4611686018427387904:=by rw [Cnt.tot_add,Cnt.tot_add]; have:=noteF_tot (badName r mod nm); have:=noteF_tot (badArgs a len); omega
 have e3:c+noteF (badName r mod nm)+noteF (badArgs a len)+noteM (decide (3<len))=c+shapeC (r,a) mod nm len:=by rw [shapeC,Cnt.add_assoc',Cnt.add_assoc',Cnt.add_assoc']
 refine enter Tryz.func37 rfl 54 rfl rfl ?_
 refine CWd (W':=Ws w [vb] [blk vb (.cells #[.int .i64 0,.int .i64 ((c).f:Int),.int .i64 ((c).m:Int),.int .i64 0,.int .i64 ((c).k:Int),.int .i64 0,.int .i64 0,.int .i64 0,.int .i64 0,.int .i64 0,.map (some be),.map (some bs)] 49 (0,0))] []) (fun _ e=>by subst e; exact hw) ?_
 refine Cs (Cr ?_)
 refine WL.box (.inl rfl) rfl rfl fun b6=>?_
 refine Ln (Et (Cs (Cr ?_)))
 refine V0 (Ym rfl) ?_
 refine V0 (Yf fo83_0 rfl) ?_
 refine V0 (Yd 0 rfl rfl rfl na4) ?_
 refine V0 (Ym rfl) ?_
 apply WL.and 12 rfl rfl rfl rfl (.inl rfl) rfl rfl rfl rfl rfl
 ·
  intro hg0
  refine Lv (.g rfl rfl rfl) rfl (Ym rfl) ?_
  refine Lv (.g rfl rfl rfl) rfl (yl_nes rfl rfl) ?_
  refine Lv (.g rfl rfl rfl) rfl (Ym rfl) ?_
  apply WL.and 3 rfl rfl rfl rfl (.g rfl rfl rfl) rfl rfl rfl rfl rfl
  ·
   intro hg1
   refine Lv (.g rfl rfl rfl) rfl (Ym rfl) ?_
   refine Lp (.g rfl rfl rfl) rfl en36 rfl (fun w hw=>treeName_any _ w) ?_
   refine Lv (.g rfl rfl rfl) rfl (yl_not rfl) ?_
   exact Gt 3 rfl rfl rfl
  refine Lv (.g rfl rfl rfl) rfl (Ym rfl) ?_
  apply WL.or 3 rfl rfl rfl rfl (.g rfl rfl rfl) rfl rfl rfl rfl rfl
  ·
   intro hg2
   refine Lv (.g rfl rfl rfl) rfl (Ym rfl) ?_
   refine Lp (.g rfl rfl rfl) rfl en36 rfl (fun w hw=>treeName_any _ w) ?_
   refine Lv (.g rfl rfl rfl) rfl (yl_not rfl) ?_
   exact Gt 3 rfl rfl rfl
  exact Gt 6 rfl rfl rfl
 refine V0 (Ym rfl) ?_
 apply WL.or 9 rfl rfl rfl rfl (.inl rfl) rfl rfl rfl rfl rfl
 ·
  intro hg3
  refine Lv (.g rfl rfl rfl) rfl (Yf fo83_0 rfl) ?_
  refine Lv (.g rfl rfl rfl) rfl (Yd 0 rfl rfl rfl na4) ?_
  refine Lv (.g rfl rfl rfl) rfl (yl_not rfl) ?_
  refine Lv (.g rfl rfl rfl) rfl (Ym rfl) ?_
  apply WL.and 4 rfl rfl rfl rfl (.g rfl rfl rfl) rfl rfl rfl rfl rfl
  ·
   intro hg4
   refine Lv (.g rfl rfl rfl) rfl (Ym rfl) ?_
   refine Lv (.g rfl rfl rfl) rfl (Ym rfl) ?_
   refine Lv (.g rfl rfl rfl) rfl (yl_cats rfl rfl hl) ?_
   refine Lv (.g rfl rfl rfl) rfl (yl_nes rfl rfl) ?_
   exact Gt 4 rfl rfl rfl
  exact Gt 5 rfl rfl rfl
 refine Lf 1 rfl ?_
 refine WL.callw0 [_] _ [blk vb (.cells #[.int .i64 0,.int .i64 ((c+noteF (badName r mod nm)).f:Int),.int .i64 ((c+noteF (badName r mod nm)).m:Int),.int .i64 0,.int .i64 ((c+noteF (badName r mod nm)).k:Int),.int .i64 0,.int .i64 0,.int .i64 0,.int .i64 0,.int .i64 0,.map (some be),.map (some bs)] 49 (0,0))] (.inl rfl) rfl en20 rfl rfl [] (by simp) (fun w hw=>note1_any vb be bs (c) (badName r mod nm) w (by omega) hw) ?_
 refine Ln (Et (Cs (Cr ?_)))
 refine V0 (Ym rfl) ?_
 refine V0 (Yf fo83_1 rfl) ?_
 refine V0 (Yd 1 rfl rfl rfl na3) ?_
 refine V0 (yl_ge rfl rfl) ?_
 refine V0 (Ym rfl) ?_
 apply WL.and 4 rfl rfl rfl rfl (.inl rfl) rfl rfl rfl rfl rfl
 ·
  intro hg5
  refine Lv (.g rfl rfl rfl) rfl (Ym rfl) ?_
  refine Lv (.g rfl rfl rfl) rfl (Yf fo83_1 rfl) ?_
  refine Lv (.g rfl rfl rfl) rfl (Yd 1 rfl rfl rfl na3) ?_
  refine Lv (.g rfl rfl rfl) rfl (yl_ne rfl rfl) ?_
  exact Gt 4 rfl rfl rfl
 refine Lf 0 rfl ?_
 refine WL.callw0 [_] _ [blk vb (.cells #[.int .i64 0,.int .i64 ((c+noteF (badName r mod nm)+noteF (badArgs a len)).f:Int),.int .i64 ((c+noteF (badName r mod nm)+noteF (badArgs a len)).m:Int),.int .i64 0,.int .i64 ((c+noteF (badName r mod nm)+noteF (badArgs a len)).k:Int),.int .i64 0,.int .i64 0,.int .i64 0,.int .i64 0,.int .i64 0,.map (some be),.map (some bs)] 49 (0,0))] (.inl rfl) rfl en20 rfl rfl [] (by simp) (fun w hw=>note1_any vb be bs (c+noteF (badName r mod nm)) (badArgs a len) w (h1) hw) ?_
 refine Ln (Et (Cr ?_))
 refine V0 (Ym rfl) ?_
 refine V0 (Ym rfl) ?_
 refine V0 (yl_gt rfl rfl) ?_
 rw [int_lt3]
 refine Lf 0 rfl ?_
 refine WL.callw0 [_] _ [blk vb (.cells #[.int .i64 0,.int .i64 ((c+noteF (badName r mod nm)+noteF (badArgs a len)+noteM (decide (3<len))).f:Int),.int .i64 ((c+noteF (badName r mod nm)+noteF (badArgs a len)+noteM (decide (3<len))).m:Int),.int .i64 0,.int .i64 ((c+noteF (badName r mod nm)+noteF (badArgs a len)+noteM (decide (3<len))).k:Int),.int .i64 0,.int .i64 0,.int .i64 0,.int .i64 0,.int .i64 0,.map (some be),.map (some bs)] 49 (0,0))] (.inl rfl) rfl en20 rfl rfl [] (by simp) (fun w hw=>note2_any vb be bs (c+noteF (badName r mod nm)+noteF (badArgs a len)) (decide (3<len)) w (h2) hw) ?_
 refine Ln ?_
 refine WE.end0 rfl fun w' hw=>?_
 rw [e3] at hw
 exact ⟨rfl,Ws.keep (L:=[_]) hw⟩
end Go.Proofs.YtjfldjidhkfnbaaGreatDoor
end
section
namespace Go.Proofs.YtjfldjidhkfnbaaGreatDoor
open Go.Bw
set_option linter.unusedVariables false
set_option linter.unusedSimpArgs false
theorem fo49_1:fieldOff Tryz.prog 49 1=some 10:=by kernel_rfl
theorem na45:nonAgg Tryz.prog 45=true:=by kernel_rfl
theorem fo81_0:fieldOff Tryz.prog 81 0=some 0:=by kernel_rfl
theorem sz83:sizeP Tryz.prog 83=some 2:=by kernel_rfl
theorem ag83:aggOf Tryz.prog 83=some 2:=by kernel_rfl
theorem fo81_2:fieldOff Tryz.prog 81 2=some 2:=by kernel_rfl
theorem fo81_3:fieldOff Tryz.prog 81 3=some 3:=by kernel_rfl
theorem fo81_4:fieldOff Tryz.prog 81 4=some 4:=by kernel_rfl
theorem na41:nonAgg Tryz.prog 41=true:=by kernel_rfl
theorem es41:elemSz Tryz.prog 41=some 5:=by kernel_rfl
theorem en37:Enters Tryz.prog 37:=enters_of Tryz.func37 (by kernel_rfl) rfl
theorem fo81_1:fieldOff Tryz.prog 81 1=some 1:=by kernel_rfl
theorem ag81:aggOf Tryz.prog 81=some 5:=by kernel_rfl
theorem zr81:zeroOf Tryz.prog 81=some (.agg #[.int .i64 0,.int .i64 0,st [],st [],.slice none 0 0]):=by kernel_rfl
theorem sz81:sizeP Tryz.prog 81=some 5:=by kernel_rfl
theorem en38:Enters Tryz.prog 38:=enters_of Tryz.func38 (by kernel_rfl) rfl
theorem vexpr_any (vb be bs:Nat) (H:View) (k:Nat) (x:TExpr) (a:Option Addr) (n:Nat) (d:Nat) (c:Cnt) (w:World) (hm:Sl (RdE k) 5 H a n x.args) (hb:c.tot+8*wE x≤1152921504606846976) (hw:Ws w [vb,be,bs] [blk vb (.cells #[.int .i64 0,.int .i64 ((c).f:Int),.int .i64 ((c).m:Int),.int .i64 0,.int .i64 ((c).k:Int),.int .i64 0,.int .i64 0,.int .i64 0,.int .i64 0,.int .i64 0,.map (some be),.map (some bs)] 49 (0,0)),blk be (gobj kI (exprsK 9) 15),blk bs (gobj kI stmtsK 7)] [H] w) :
   Calls Tryz.prog 38 #[.pointer (some ⟨vb,0,none⟩),.agg #[.int .i64 x.op,.int .i64 x.n,st x.mod,st x.nm,.slice a x.args.length n],.int .i64 (d:Int)] w fun e w'=>e = .returned (.tuple #[])∧Ws w [vb,be,bs] [blk vb (.cells #[.int .i64 0,.int .i64 ((c+cntE x d).f:Int),.int .i64 ((c+cntE x d).m:Int),.int .i64 0,.int .i64 ((c+cntE x d).k:Int),.int .i64 0,.int .i64 0,.int .i64 0,.int .i64 0,.int .i64 0,.map (some be),.map (some bs)] 49 (0,0)),blk be (gobj kI (exprsK 9) 15),blk bs (gobj kI stmtsK 7)] [H] w':=by
 induction k using Nat.strongRecOn generalizing x a n d c w
 rename_i k ih
 have hcap:=hm.cap
 have hmax:=hm.max
 have hw8:=wE_eq x
 have hge:gget x.op (exprsK 9) (.agg #[.bool false,.int .i64 0]) = .agg #[.bool ((shE x.op).getD (false,0)).1,.int .i64 ((shE x.op).getD (false,0)).2]:=(exprs_get x.op).1
 have hgh:=(exprs_get x.op).2
 have t1:=noteK_tot (shE x.op).isNone
 have t2:=shapeC_tot ((shE x.op).getD (false,0)) x.mod x.nm x.args.length
 have t3:=noteF_tot (numBad x.op x.n)
 refine enter Tryz.func38 rfl 76 rfl rfl ?_
 refine CWd (W':=Ws w [vb,be,bs] [blk vb (.cells #[.int .i64 0,.int .i64 ((c).f:Int),.int .i64 ((c).m:Int),.int .i64 0,.int .i64 ((c).k:Int),.int .i64 0,.int .i64 0,.int .i64 0,.int .i64 0,.int .i64 0,.map (some be),.map (some bs)] 49 (0,0)),blk be (gobj kI (exprsK 9) 15),blk bs (gobj kI stmtsK 7)] [H]) (fun _ e=>by subst e; exact hw) ?_
 refine Cs (Cr ?_)
 refine WL.box (.inl rfl) rfl rfl fun b4=>?_
 refine Ln (Et (Cs (Cs (Cr ?_))))
 refine V0 (Ym rfl) ?_
 refine V0 (yl_gt rfl rfl) ?_
 refine Ln (Et ?_)
 refine Cc rfl (fun hc0=>?_) (fun hc0=>?_)
 ·
  have hd:6<d:=by simp at hc0; omega
  refine Cs (Cr ?_)
  refine V0 (Ym rfl) ?_
  refine Lf 1 rfl ?_
  refine WL.callw0 [_] _ [blk vb (.cells #[.int .i64 0,.int .i64 ((c+noteM (true)).f:Int),.int .i64 ((c+noteM (true)).m:Int),.int .i64 0,.int .i64 ((c+noteM (true)).k:Int),.int .i64 0,.int .i64 0,.int .i64 0,.int .i64 0,.int .i64 0,.map (some be),.map (some bs)] 49 (0,0))] (.inl rfl) rfl en20 rfl rfl [] (by simp) (fun w hw=>note2_any vb be bs (c) (true) w (by omega) hw) ?_
  refine Ln (Et (Crt (Er ?_)))
  refine WE.ret0 rfl fun w' hw=>?_
  rw [show c+cntE x d=c+noteM true by rw [cntE_eq,if_pos hd]; rfl]
  exact ⟨rfl,(by have h:=hw; have h:=h.fronti 3 rfl; have h:=h.fronti 3 rfl; have h:=h.fronti 2 rfl; exact Ws.keep (L:=[_,_,_]) h)⟩
 ·
  have hd:¬6<d:=by simp at hc0; omega
  have hE:c+cntE x d=c+noteK (shE x.op).isNone+shapeC ((shE x.op).getD (false,0)) x.mod x.nm x.args.length+noteF (numBad x.op x.n)+cntEs x.args (d+1):=by rw [cntE_eq,if_neg hd,Cnt.add_assoc',Cnt.add_assoc',Cnt.add_assoc',Cnt.add_assoc',Cnt.add_assoc']
  have hT1:(c+noteK (shE x.op).isNone).tot≤1152921504606846980:=by rw [Cnt.tot_add]; omega
  have hT2:(c+noteK (shE x.op).isNone+shapeC ((shE x.op).getD (false,0)) x.mod x.nm x.args.length).tot≤1152921504606846990:=by rw [Cnt.tot_add,Cnt.tot_add]; omega
  refine Ck (Et (Cs ?_))
  refine WC.draws0 [(0,true),(1,true),(2,true),(3,true),(4,true),(5,true),(6,true),(7,true),(8,true),(9,true),(10,false),(11,false),(12,false)] mixed (by kernel_rfl) (fun _ _ _ d _ h=>by cases d<;>exact h) ?_
  refine Dq rfl (.inl rfl) rfl (fun _ h=>h) (Ym rfl) ?_
  refine Dq rfl (.inl rfl) rfl (fun _ h=>h) (yl_nil rfl) ?_
  refine Dq rfl (.inl rfl) rfl (fun _ h=>h) (Yf fo49_1 rfl) ?_
  refine Dq rfl (.inl rfl) rfl (fun _ h=>h) (Yd 1 rfl rfl rfl na45) ?_
  refine Dq rfl (.inl rfl) rfl (fun _ h=>h) (Yf fo81_0 rfl) ?_
  refine Dq rfl (.inl rfl) rfl (fun _ h=>h) (Yd 0 rfl rfl rfl na3) ?_
  refine Dq rfl (.inl rfl) rfl (fun _ h=>h) (yl_glook2 2 keyInt um45 ui3 zr83 rfl rfl rfl) ?_
  rw [hge,hgh]
  refine Dq rfl (.inl rfl) rfl (fun _ h=>h) (Ym rfl) ?_
  refine Dq rfl (.inl rfl) rfl (fun _ h=>h) (Yx rfl rfl) ?_
  refine Dq rfl (.inl rfl) rfl (fun _ h=>h) (Yx rfl rfl) ?_
  refine De rfl (fun _ h=>h) ?_
  refine WL.alloc (.inl rfl) rfl zr83 fun b6=>?_
  refine Ln (Ed ?_)
  refine De rfl (fun _ h=>by have h:=Ws.drop (L:=[_]) (L':=_) h; exact h) ?_
  refine Lst 0 (.inl rfl) rfl rfl rfl sz83 rfl rfl rfl ?_
  refine Ln (Ed ?_)
  refine De rfl (fun _ h=>by have h:=Ws.drop (L:=[_]) (L':=_) h; exact h) ?_
  refine V0 (Ya rfl) ?_
  refine Ln (Ed ?_)
  refine WD.nil (fun _ h=>by have h:=Ws.drop (L:=[_]) (L':=_) h; exact h) ?_
  refine Et (Cs (Cr ?_))
  refine V0 (Ym rfl) ?_
  refine V0 (Ym rfl) ?_
  refine V0 (yl_not rfl) ?_
  rw [Bool.not_not]
  refine Lf 2 rfl ?_
  refine WL.callw0 [_] _ [blk vb (.cells #[.int .i64 0,.int .i64 ((c+noteK ((shE x.op).isNone)).f:Int),.int .i64 ((c+noteK ((shE x.op).isNone)).m:Int),.int .i64 0,.int .i64 ((c+noteK ((shE x.op).isNone)).k:Int),.int .i64 0,.int .i64 0,.int .i64 0,.int .i64 0,.int .i64 0,.map (some be),.map (some bs)] 49 (0,0))] (.inl rfl) rfl en20 rfl rfl [] (by simp) (fun w hw=>note4_any vb be bs (c) ((shE x.op).isNone) w (by omega) hw) ?_
  refine Ln (Et (Cs (Cr ?_)))
  refine V0 (Ym rfl) ?_
  refine V0 (Yda 1 rfl rfl ag83 rfl) ?_
  refine V0 (Yf fo81_2 rfl) ?_
  refine V0 (Yd 2 rfl rfl rfl na9) ?_
  refine V0 (Yf fo81_3 rfl) ?_
  refine V0 (Yd 2 rfl rfl rfl na9) ?_
  refine V0 (Yf fo81_4 rfl) ?_
  refine V0 (Yd 2 rfl rfl rfl na41) ?_
  refine V0 (Yn es41 rfl) ?_
  refine Lf 0 rfl ?_
  refine WL.callw0 [_] _ [blk vb (.cells #[.int .i64 0,.int .i64 ((c+noteK (shE x.op).isNone+shapeC ((shE x.op).getD (false,0)) x.mod x.nm x.args.length).f:Int),.int .i64 ((c+noteK (shE x.op).isNone+shapeC ((shE x.op).getD (false,0)) x.mod x.nm x.args.length).m:Int),.int .i64 0,.int .i64 ((c+noteK (shE x.op).isNone+shapeC ((shE x.op).getD (false,0)) x.mod x.nm x.args.length).k:Int),.int .i64 0,.int .i64 0,.int .i64 0,.int .i64 0,.int .i64 0,.map (some be),.map (some bs)] 49 (0,0))] (.inl rfl) rfl en37 rfl rfl [] (by simp) (fun w hw=>vshape_any vb be bs ((shE x.op).getD (false,0)).1 ((shE x.op).getD (false,0)).2 x.mod x.nm x.args.length (c+noteK (shE x.op).isNone) w (by omega) (by omega) hw) ?_
  refine Ln (Et (Cs (Cr ?_)))
  refine V0 (Ym rfl) ?_
  refine V0 (Yf fo81_0 rfl) ?_
  refine V0 (Yd 2 rfl rfl rfl na3) ?_
  refine V0 (yl_eq rfl rfl) ?_
  refine V0 (Ym rfl) ?_
  apply WL.and 8 rfl rfl rfl rfl (.inl rfl) rfl rfl rfl rfl rfl
  ·
   intro hg0
   refine Lv (.g rfl rfl rfl) rfl (Yf fo81_1 rfl) ?_
   refine Lv (.g rfl rfl rfl) rfl (Yd 2 rfl rfl rfl na3) ?_
   refine Lv (.g rfl rfl rfl) rfl (yl_lt rfl rfl) ?_
   refine Lv (.g rfl rfl rfl) rfl (Ym rfl) ?_
   apply WL.or 3 rfl rfl rfl rfl (.g rfl rfl rfl) rfl rfl rfl rfl rfl
   ·
    intro hg1
    refine Lv (.g rfl rfl rfl) rfl (Yf fo81_1 rfl) ?_
    refine Lv (.g rfl rfl rfl) rfl (Yd 2 rfl rfl rfl na3) ?_
    refine Lv (.g rfl rfl rfl) rfl (yl_gt rfl rfl) ?_
    exact Gt 3 rfl rfl rfl
   exact Gt 5 rfl rfl rfl
  refine V0 (Ym rfl) ?_
  apply WL.or 8 rfl rfl rfl rfl (.inl rfl) rfl rfl rfl rfl rfl
  ·
   intro hg2
   refine Lv (.g rfl rfl rfl) rfl (Yf fo81_0 rfl) ?_
   refine Lv (.g rfl rfl rfl) rfl (Yd 2 rfl rfl rfl na3) ?_
   refine Lv (.g rfl rfl rfl) rfl (yl_ne rfl rfl) ?_
   refine Lv (.g rfl rfl rfl) rfl (Ym rfl) ?_
   apply WL.and 3 rfl rfl rfl rfl (.g rfl rfl rfl) rfl rfl rfl rfl rfl
   ·
    intro hg3
    refine Lv (.g rfl rfl rfl) rfl (Yf fo81_1 rfl) ?_
    refine Lv (.g rfl rfl rfl) rfl (Yd 2 rfl rfl rfl na3) ?_
    refine Lv (.g rfl rfl rfl) rfl (yl_ne rfl rfl) ?_
    exact Gt 3 rfl rfl rfl
   exact Gt 5 rfl rfl rfl
  refine Lf 0 rfl ?_
  refine WL.callw0 [_] _ [blk vb (.cells #[.int .i64 0,.int .i64 ((c+noteK (shE x.op).isNone+shapeC ((shE x.op).getD (false,0)) x.mod x.nm x.args.length+noteF (numBad x.op x.n)).f:Int),.int .i64 ((c+noteK (shE x.op).isNone+shapeC ((shE x.op).getD (false,0)) x.mod x.nm x.args.length+noteF (numBad x.op x.n)).m:Int),.int .i64 0,.int .i64 ((c+noteK (shE x.op).isNone+shapeC ((shE x.op).getD (false,0)) x.mod x.nm x.args.length+noteF (numBad x.op x.n)).k:Int),.int .i64 0,.int .i64 0,.int .i64 0,.int .i64 0,.int .i64 0,.map (some be),.map (some bs)] 49 (0,0))] (.inl rfl) rfl en20 rfl rfl [] (by simp) (fun w hw=>note1_any vb be bs (c+noteK (shE x.op).isNone+shapeC ((shE x.op).getD (false,0)) x.mod x.nm x.args.length) (numBad x.op x.n) w (by omega) hw) ?_
  refine Ln (Et (Cs (Cr ?_)))
  refine V0 (Yf fo81_4 rfl) ?_
  refine V0 (Yd 2 rfl rfl rfl na41) ?_
  refine V0 (Yn es41 rfl) ?_
  refine V0 (Ym rfl) ?_
  refine Ln (Et (Cb ?_))
  refine CK (ι:=Nat) (fun i=>[(66,.int .i64 (i:Int))]) [(0,_),(2,_),(64,_),(65,_)] (fun i=>Ws w [vb,be,bs] [blk vb (.cells #[.int .i64 0,.int .i64 ((c+noteK (shE x.op).isNone+shapeC ((shE x.op).getD (false,0)) x.mod x.nm x.args.length+noteF (numBad x.op x.n)+cntEs (x.args.take i) (d+1)).f:Int),.int .i64 ((c+noteK (shE x.op).isNone+shapeC ((shE x.op).getD (false,0)) x.mod x.nm x.args.length+noteF (numBad x.op x.n)+cntEs (x.args.take i) (d+1)).m:Int),.int .i64 0,.int .i64 ((c+noteK (shE x.op).isNone+shapeC ((shE x.op).getD (false,0)) x.mod x.nm x.args.length+noteF (numBad x.op x.n)+cntEs (x.args.take i) (d+1)).k:Int),.int .i64 0,.int .i64 0,.int .i64 0,.int .i64 0,.int .i64 0,.map (some be),.map (some bs)] 49 (0,0)),blk be (gobj kI (exprsK 9) 15),blk bs (gobj kI stmtsK 7)] [H]) (fun i=>i≤x.args.length) (fun i=>x.args.length-i) 0 (Nat.zero_le _) (sc rfl (sc rfl (sc rfl (sc rfl (sc rfl sn))))) (fun _ h=>by have h:=h.fronti 4 rfl; have h:=h.fronti 4 rfl; have h:=h.fronti 2 rfl; have h:=Ws.keep (L:=[_,_,_]) h; exact h) ?_
  intro i hi
  refine Cs (Cr ?_)
  refine V0 (yl_lt rfl rfl) ?_
  refine Ln (Et (Cs ?_))
  refine Cc rfl (fun hc1=>?_) (fun hc1=>?_)
  ·
   have hlt:i<x.args.length:=by simpa using hc1
   obtain ⟨y,hyi⟩:∃q,x.args[i]? = some q:=⟨_,List.getElem?_eq_getElem hlt⟩
   obtain ⟨pby,poy,hay,hry⟩:=hm.elt i y hyi
   obtain ⟨k',rfl⟩:∃k',k=k'+1:=by
     cases k with
     | zero=>exact hry.elim
     | succ k'=>exact ⟨k',rfl⟩
   obtain ⟨ya,yn,hrow,hsub⟩:=hry
   have hup:=wEs_upto hyi
   have hle:=cntEs_le (x.args.take i) (d+1)
   have hbi:(c+noteK (shE x.op).isNone+shapeC ((shE x.op).getD (false,0)) x.mod x.nm x.args.length+noteF (numBad x.op x.n)+cntEs (x.args.take i) (d+1)).tot+8*wE y≤1152921504606846976:=by rw [Cnt.tot_add,Cnt.tot_add,Cnt.tot_add,Cnt.tot_add]; omega
   have e2:c+noteK (shE x.op).isNone+shapeC ((shE x.op).getD (false,0)) x.mod x.nm x.args.length+noteF (numBad x.op x.n)+cntEs (x.args.take i) (d+1)+cntE y (d+1)=c+noteK (shE x.op).isNone+shapeC ((shE x.op).getD (false,0)) x.mod x.nm x.args.length+noteF (numBad x.op x.n)+cntEs (x.args.take (i+1)) (d+1):=by rw [cntEs_take (d+1) hyi,←Cnt.add_assoc']
   refine Ck (Et (Cs (Cb (Cs (Cr ?_)))))
   refine V0 (Yo es41 rfl rfl hay (by omega)) ?_
   refine V0 (yl_lda 0 ag81 rfl rfl rfl (hrow)) ?_
   refine WL.alloc (.inl rfl) rfl zr81 fun b9=>?_
   refine Lst 0 (.inl rfl) rfl rfl rfl sz81 rfl rfl rfl ?_
   refine Ln (Et (Cr ?_))
   refine V0 (Ym rfl) ?_
   refine V0 (Yda 0 rfl rfl ag81 rfl) ?_
   refine V0 (Ym rfl) ?_
   refine V0 (Yi rfl rfl rfl (by omega)) ?_
   refine Lf 3 rfl ?_
   refine Lf 3 rfl ?_
   refine Lf 3 rfl ?_
   refine WL.callw0 [_,_,_] _ [blk vb (.cells #[.int .i64 0,.int .i64 ((c+noteK (shE x.op).isNone+shapeC ((shE x.op).getD (false,0)) x.mod x.nm x.args.length+noteF (numBad x.op x.n)+cntEs (x.args.take i) (d+1)+cntE y (d+1)).f:Int),.int .i64 ((c+noteK (shE x.op).isNone+shapeC ((shE x.op).getD (false,0)) x.mod x.nm x.args.length+noteF (numBad x.op x.n)+cntEs (x.args.take i) (d+1)+cntE y (d+1)).m:Int),.int .i64 0,.int .i64 ((c+noteK (shE x.op).isNone+shapeC ((shE x.op).getD (false,0)) x.mod x.nm x.args.length+noteF (numBad x.op x.n)+cntEs (x.args.take i) (d+1)+cntE y (d+1)).k:Int),.int .i64 0,.int .i64 0,.int .i64 0,.int .i64 0,.int .i64 0,.map (some be),.map (some bs)] 49 (0,0)),blk be (gobj kI (exprsK 9) 15),blk bs (gobj kI stmtsK 7)] (.inl rfl) rfl en38 rfl rfl [H] (by simp) (fun w hw=>by
       have:=ih k' (by omega) y ya yn (d+1) (c+noteK (shE x.op).isNone+shapeC ((shE x.op).getD (false,0)) x.mod x.nm x.args.length+noteF (numBad x.op x.n)+cntEs (x.args.take i) (d+1)) w hsub hbi hw
       exact this) ?_
   refine Ln (Eb (Et (Cr ?_)))
   refine V0 (Yi rfl rfl rfl (by omega)) ?_
   refine V0 (Ym rfl) ?_
   refine Ln ?_
   rw [e2]
   exact Ea (i+1) (by omega) (by omega) (sc rfl (sc rfl (sc rfl (sc rfl (sc rfl sn))))) (fun _ h=>by have h:=h.fronti 2 rfl; have h:=h.fronti 2 rfl; have h:=h.fronti 2 rfl; have h:=Ws.keep (L:=[_,_,_]) h; exact h)
  ·
   have hge2:¬i<x.args.length:=by simpa using hc1
   rw [List.take_of_length_le (by omega),←hE]
   refine Ce (Ex (Ex (Ebh ?_)))
   refine WE.end0 rfl fun w' hw=>?_
   exact ⟨rfl,hw⟩
end Go.Proofs.YtjfldjidhkfnbaaGreatDoor
end
section
namespace Go.Proofs.YtjfldjidhkfnbaaGreatDoor
open Go.Bw
set_option linter.unusedVariables false
set_option linter.unusedSimpArgs false
theorem c0_add (c:Cnt):c0+c=c:=by apply Cnt.ext'<;>simp [Cnt.add_f,Cnt.add_m,Cnt.add_k,c0]
theorem int_lt0 (n:Nat):decide ((0:Int)<(n:Int))=decide (0<n):=by rw [Bool.eq_iff_iff]; simp
theorem int_lt10 (n:Nat):decide ((10:Int)<(n:Int))=decide (10<n):=by rw [Bool.eq_iff_iff]; simp; omega
theorem cntB_eq {l:List TStmt} {d:Nat} (h:¬6<d):cntB l d=noteM (decide (10<l.length))+cntSs l d:=by rw [cntB,blkC,if_neg h]
theorem es25:elemSz Tryz.prog 25=some 6:=by kernel_rfl
theorem ag43:aggOf Tryz.prog 43=some 6:=by kernel_rfl
theorem zr43:zeroOf Tryz.prog 43=some (.agg #[.int .i64 0,st [],st [],.slice none 0 0,.slice none 0 0,.slice none 0 0]):=by kernel_rfl
theorem sz43:sizeP Tryz.prog 43=some 6:=by kernel_rfl
theorem fo49_2:fieldOff Tryz.prog 49 2=some 11:=by kernel_rfl
theorem fo43_0:fieldOff Tryz.prog 43 0=some 0:=by kernel_rfl
theorem fo43_1:fieldOff Tryz.prog 43 1=some 1:=by kernel_rfl
theorem fo43_2:fieldOff Tryz.prog 43 2=some 2:=by kernel_rfl
theorem fo43_3:fieldOff Tryz.prog 43 3=some 3:=by kernel_rfl
theorem fo43_4:fieldOff Tryz.prog 43 4=some 4:=by kernel_rfl
theorem na25:nonAgg Tryz.prog 25=true:=by kernel_rfl
theorem fo43_5:fieldOff Tryz.prog 43 5=some 5:=by kernel_rfl
theorem en22:Enters Tryz.prog 22:=enters_of Tryz.func22 (by kernel_rfl) rfl
theorem vblock_any (vb be bs:Nat) (H:View) (ke k:Nat) (l:List TStmt) (a:Option Addr) (n:Nat) (d:Nat) (c:Cnt) (w:World) (hm:Sl (RdS ke k) 6 H a n l) (hb:c.tot+2+8*wSs l≤1152921504606846976) (hw:Ws w [vb,be,bs] [blk vb (.cells #[.int .i64 0,.int .i64 ((c).f:Int),.int .i64 ((c).m:Int),.int .i64 0,.int .i64 ((c).k:Int),.int .i64 0,.int .i64 0,.int .i64 0,.int .i64 0,.int .i64 0,.map (some be),.map (some bs)] 49 (0,0)),blk be (gobj kI (exprsK 9) 15),blk bs (gobj kI stmtsK 7)] [H] w) :
   Calls Tryz.prog 22 #[.pointer (some ⟨vb,0,none⟩),.slice a l.length n,.int .i64 (d:Int)] w fun e w'=>e = .returned (.tuple #[])∧Ws w [vb,be,bs] [blk vb (.cells #[.int .i64 0,.int .i64 ((c+cntB l d).f:Int),.int .i64 ((c+cntB l d).m:Int),.int .i64 0,.int .i64 ((c+cntB l d).k:Int),.int .i64 0,.int .i64 0,.int .i64 0,.int .i64 0,.int .i64 0,.map (some be),.map (some bs)] 49 (0,0)),blk be (gobj kI (exprsK 9) 15),blk bs (gobj kI stmtsK 7)] [H] w':=by
 induction k using Nat.strongRecOn generalizing l a n d c w
 rename_i k ih
 have hcap:=hm.cap
 have hmax:=hm.max
 have tM:=noteM_tot (decide (10<l.length))
 refine enter Tryz.func22 rfl 116 rfl rfl ?_
 refine CWd (W':=Ws w [vb,be,bs] [blk vb (.cells #[.int .i64 0,.int .i64 ((c).f:Int),.int .i64 ((c).m:Int),.int .i64 0,.int .i64 ((c).k:Int),.int .i64 0,.int .i64 0,.int .i64 0,.int .i64 0,.int .i64 0,.map (some be),.map (some bs)] 49 (0,0)),blk be (gobj kI (exprsK 9) 15),blk bs (gobj kI stmtsK 7)] [H]) (fun _ e=>by subst e; exact hw) ?_
 refine Cs (Cs (Cr ?_))
 refine V0 (Ym rfl) ?_
 refine V0 (yl_gt rfl rfl) ?_
 refine Ln (Et ?_)
 refine Cc rfl (fun hc0=>?_) (fun hc0=>?_)
 ·
  have hd:6<d:=by simp at hc0; omega
  refine Cs (Cr ?_)
  refine V0 (Ym rfl) ?_
  refine Lf 0 rfl ?_
  refine WL.callw0 [_] _ [blk vb (.cells #[.int .i64 0,.int .i64 ((c+noteM (true)).f:Int),.int .i64 ((c+noteM (true)).m:Int),.int .i64 0,.int .i64 ((c+noteM (true)).k:Int),.int .i64 0,.int .i64 0,.int .i64 0,.int .i64 0,.int .i64 0,.map (some be),.map (some bs)] 49 (0,0))] (.inl rfl) rfl en20 rfl rfl [] (by simp) (fun w hw=>note2_any vb be bs (c) (true) w (by omega) hw) ?_
  refine Ln (Et (Crt (Er ?_)))
  refine WE.ret0 rfl fun w' hw=>?_
  rw [show c+cntB l d=c+noteM true by rw [cntB,blkC,if_pos hd]; rfl]
  exact ⟨rfl,hw⟩
 ·
  have hd:¬6<d:=by simp at hc0; omega
  refine Ck (Et (Cs (Cr ?_)))
  refine V0 (Ym rfl) ?_
  refine V0 (Ym rfl) ?_
  refine V0 (Yn es25 rfl) ?_
  refine V0 (yl_gt rfl rfl) ?_
  rw [int_lt10]
  refine Lf 0 rfl ?_
  refine WL.callw0 [_] _ [blk vb (.cells #[.int .i64 0,.int .i64 ((c+noteM (decide (10<l.length))).f:Int),.int .i64 ((c+noteM (decide (10<l.length))).m:Int),.int .i64 0,.int .i64 ((c+noteM (decide (10<l.length))).k:Int),.int .i64 0,.int .i64 0,.int .i64 0,.int .i64 0,.int .i64 0,.map (some be),.map (some bs)] 49 (0,0))] (.inl rfl) rfl en20 rfl rfl [] (by simp) (fun w hw=>note2_any vb be bs (c) (decide (10<l.length)) w (by omega) hw) ?_
  refine Ln (Et (Cs (Cr ?_)))
  refine V0 (Ym rfl) ?_
  refine V0 (Yn es25 rfl) ?_
  refine V0 (Ym rfl) ?_
  refine Ln (Et (Cb ?_))
  refine CK (ι:=Nat) (fun i=>[(24,.int .i64 (i:Int))]) [(0,_),(2,_),(22,_),(23,_)] (fun i=>Ws w [vb,be,bs] [blk vb (.cells #[.int .i64 0,.int .i64 ((c+noteM (decide (10<l.length))+cntSs (l.take i) d).f:Int),.int .i64 ((c+noteM (decide (10<l.length))+cntSs (l.take i) d).m:Int),.int .i64 0,.int .i64 ((c+noteM (decide (10<l.length))+cntSs (l.take i) d).k:Int),.int .i64 0,.int .i64 0,.int .i64 0,.int .i64 0,.int .i64 0,.map (some be),.map (some bs)] 49 (0,0)),blk be (gobj kI (exprsK 9) 15),blk bs (gobj kI stmtsK 7)] [H]) (fun i=>i≤l.length) (fun i=>l.length-i) 0 (Nat.zero_le _) (sc rfl (sc rfl (sc rfl (sc rfl (sc rfl sn))))) (fun _ h=>h) ?_
  intro i hi
  refine Cs (Cr ?_)
  refine V0 (yl_lt rfl rfl) ?_
  refine Ln (Et (Cs ?_))
  refine Cc rfl (fun hc1=>?_) (fun hc1=>?_)
  ·
   have hlt:i<l.length:=by simpa using hc1
   obtain ⟨y,hyi⟩:∃q,l[i]? = some q:=⟨_,List.getElem?_eq_getElem hlt⟩
   obtain ⟨pby,poy,hay,hry⟩:=hm.elt i y hyi
   obtain ⟨k',rfl⟩:∃k',k=k'+1:=by
     cases k with
     | zero=>exact hry.elim
     | succ k'=>exact ⟨k',rfl⟩
   obtain ⟨ya,yn,y2,m2,y3,m3,hrow,hs1,hs2,hs3⟩:=hry
   have hup:=wSs_upto hyi
   have hwy:=wS_eq y
   have hle:=cntSs_le (l.take i) d
   have t1:=noteK_tot (shS y.op).isNone
   have t2:=shapeC_tot ((shS y.op).getD (false,0)) y.mod y.nm y.args.length
   have t3:=noteF_tot (bodyBad y.op y.body.length y.other.length)
   have t4:=cntEs_le y.args 1
   have t5:=cntB_le y.body (d+1)
   have hge:gget y.op stmtsK (.agg #[.bool false,.int .i64 0]) = .agg #[.bool ((shS y.op).getD (false,0)).1,.int .i64 ((shS y.op).getD (false,0)).2]:=(stmts_get y.op).1
   have hgh:=(stmts_get y.op).2
   have cap1:=hs1.cap
   have max1:=hs1.max
   have cap2:=hs2.cap
   have max2:=hs2.max
   have cap3:=hs3.cap
   have max3:=hs3.max
   have hb1:(c+noteM (decide (10<l.length))+cntSs (l.take i) d).tot≤1152921504606846976:=by simp only [Cnt.tot_add]; omega
   have hb2:(c+noteM (decide (10<l.length))+cntSs (l.take i) d+noteK (shS y.op).isNone).tot+4≤1152921504606846976:=by simp only [Cnt.tot_add]; omega
   have hb4:(c+noteM (decide (10<l.length))+cntSs (l.take i) d+noteK (shS y.op).isNone+shapeC ((shS y.op).getD (false,0)) y.mod y.nm y.args.length+cntEs y.args 1).tot≤1152921504606846976:=by simp only [Cnt.tot_add]; omega
   have hb5:(c+noteM (decide (10<l.length))+cntSs (l.take i) d+noteK (shS y.op).isNone+shapeC ((shS y.op).getD (false,0)) y.mod y.nm y.args.length+cntEs y.args 1+noteF (bodyBad y.op y.body.length y.other.length)).tot+2+8*wSs y.body≤1152921504606846976:=by simp only [Cnt.tot_add]; omega
   have hb6:(c+noteM (decide (10<l.length))+cntSs (l.take i) d+noteK (shS y.op).isNone+shapeC ((shS y.op).getD (false,0)) y.mod y.nm y.args.length+cntEs y.args 1+noteF (bodyBad y.op y.body.length y.other.length)+cntB y.body (d+1)).tot+2+8*wSs y.other≤1152921504606846976:=by simp only [Cnt.tot_add]; omega
   have hb7:(c+noteM (decide (10<l.length))+cntSs (l.take i) d+noteK (shS y.op).isNone+shapeC ((shS y.op).getD (false,0)) y.mod y.nm y.args.length+cntEs y.args 1+noteF (bodyBad y.op y.body.length y.other.length)).tot+2+8*wSs y.other≤1152921504606846976:=by simp only [Cnt.tot_add]; omega
   refine Ck (Et (Cs (Cb (Cs (Cr ?_)))))
   refine V0 (Yo es25 rfl rfl hay (by omega)) ?_
   refine V0 (yl_lda 0 ag43 rfl rfl rfl (hrow)) ?_
   refine WL.alloc (.inl rfl) rfl zr43 fun b7=>?_
   refine Lst 0 (.inl rfl) rfl rfl rfl sz43 rfl rfl rfl ?_
   refine Ln (Et (Cs ?_))
   refine WC.draws0 [(0,true),(1,true),(2,true),(3,true),(4,true),(5,true),(6,true),(7,true),(8,true),(9,true),(10,false),(11,false),(12,false)] mixed (by kernel_rfl) (fun _ _ _ d _ h=>by cases d<;>exact h) ?_
   refine Dq rfl (.inl rfl) rfl (fun _ h=>h) (Ym rfl) ?_
   refine Dq rfl (.inl rfl) rfl (fun _ h=>h) (yl_nil rfl) ?_
   refine Dq rfl (.inl rfl) rfl (fun _ h=>h) (Yf fo49_2 rfl) ?_
   refine Dq rfl (.inl rfl) rfl (fun _ h=>h) (Yd 1 rfl rfl rfl na45) ?_
   refine Dq rfl (.inl rfl) rfl (fun _ h=>h) (Yf fo43_0 rfl) ?_
   refine Dq rfl (.inl rfl) rfl (fun _ h=>h) (Yd 0 rfl rfl rfl na3) ?_
   refine Dq rfl (.inl rfl) rfl (fun _ h=>h) (yl_glook2 3 keyInt um45 ui3 zr83 rfl rfl rfl) ?_
   rw [hge,hgh]
   refine Dq rfl (.inl rfl) rfl (fun _ h=>h) (Ym rfl) ?_
   refine Dq rfl (.inl rfl) rfl (fun _ h=>h) (Yx rfl rfl) ?_
   refine Dq rfl (.inl rfl) rfl (fun _ h=>h) (Yx rfl rfl) ?_
   refine De rfl (fun _ h=>h) ?_
   refine WL.alloc (.inl rfl) rfl zr83 fun b8=>?_
   refine Ln (Ed ?_)
   refine De rfl (fun _ h=>by have h:=Ws.drop (L:=[_]) (L':=_) h; exact h) ?_
   refine Lst 0 (.inl rfl) rfl rfl rfl sz83 rfl rfl rfl ?_
   refine Ln (Ed ?_)
   refine De rfl (fun _ h=>by have h:=Ws.drop (L:=[_]) (L':=_) h; exact h) ?_
   refine V0 (Ya rfl) ?_
   refine Ln (Ed ?_)
   refine WD.nil (fun _ h=>by have h:=Ws.drop (L:=[_]) (L':=_) h; exact h) ?_
   refine Et (Cs (Cr ?_))
   refine V0 (Ym rfl) ?_
   refine V0 (Ym rfl) ?_
   refine V0 (yl_not rfl) ?_
   rw [Bool.not_not]
   refine Lf 2 rfl ?_
   refine WL.callw0 [_] _ [blk vb (.cells #[.int .i64 0,.int .i64 ((c+noteM (decide (10<l.length))+cntSs (l.take i) d+noteK ((shS y.op).isNone)).f:Int),.int .i64 ((c+noteM (decide (10<l.length))+cntSs (l.take i) d+noteK ((shS y.op).isNone)).m:Int),.int .i64 0,.int .i64 ((c+noteM (decide (10<l.length))+cntSs (l.take i) d+noteK ((shS y.op).isNone)).k:Int),.int .i64 0,.int .i64 0,.int .i64 0,.int .i64 0,.int .i64 0,.map (some be),.map (some bs)] 49 (0,0))] (.inl rfl) rfl en20 rfl rfl [] (by simp) (fun w hw=>note4_any vb be bs (c+noteM (decide (10<l.length))+cntSs (l.take i) d) ((shS y.op).isNone) w (by omega) hw) ?_
   refine Ln (Et (Cs (Cr ?_)))
   refine V0 (Ym rfl) ?_
   refine V0 (Yda 1 rfl rfl ag83 rfl) ?_
   refine V0 (Yf fo43_1 rfl) ?_
   refine V0 (Yd 2 rfl rfl rfl na9) ?_
   refine V0 (Yf fo43_2 rfl) ?_
   refine V0 (Yd 2 rfl rfl rfl na9) ?_
   refine V0 (Yf fo43_3 rfl) ?_
   refine V0 (Yd 2 rfl rfl rfl na41) ?_
   refine V0 (Yn es41 rfl) ?_
   refine Lf 0 rfl ?_
   refine WL.callw0 [_] _ [blk vb (.cells #[.int .i64 0,.int .i64 ((c+noteM (decide (10<l.length))+cntSs (l.take i) d+noteK (shS y.op).isNone+shapeC ((shS y.op).getD (false,0)) y.mod y.nm y.args.length).f:Int),.int .i64 ((c+noteM (decide (10<l.length))+cntSs (l.take i) d+noteK (shS y.op).isNone+shapeC ((shS y.op).getD (false,0)) y.mod y.nm y.args.length).m:Int),.int .i64 0,.int .i64 ((c+noteM (decide (10<l.length))+cntSs (l.take i) d+noteK (shS y.op).isNone+shapeC ((shS y.op).getD (false,0)) y.mod y.nm y.args.length).k:Int),.int .i64 0,.int .i64 0,.int .i64 0,.int .i64 0,.int .i64 0,.map (some be),.map (some bs)] 49 (0,0))] (.inl rfl) rfl en37 rfl rfl [] (by simp) (fun w hw=>vshape_any vb be bs ((shS y.op).getD (false,0)).1 ((shS y.op).getD (false,0)).2 y.mod y.nm y.args.length (c+noteM (decide (10<l.length))+cntSs (l.take i) d+noteK (shS y.op).isNone) w (by omega) (by omega) hw) ?_
   refine Ln (Et (Cs (Cs (Cr ?_))))
   refine V0 (Yf fo43_3 rfl) ?_
   refine V0 (Yd 2 rfl rfl rfl na41) ?_
   refine V0 (Yn es41 rfl) ?_
   refine V0 (Ym rfl) ?_
   refine Ln (Et (Cb ?_))
   refine CK (ι:=Nat) (fun j=>[(55,.int .i64 (j:Int))]) [(0,_),(2,_),(7,_),(22,_),(23,_),(24,_),(53,_),(54,_)] (fun j=>Ws w [vb,be,bs] ([blk vb (.cells #[.int .i64 0,.int .i64 ((c+noteM (decide (10<l.length))+cntSs (l.take i) d+noteK (shS y.op).isNone+shapeC ((shS y.op).getD (false,0)) y.mod y.nm y.args.length+cntEs (y.args.take j) 1).f:Int),.int .i64 ((c+noteM (decide (10<l.length))+cntSs (l.take i) d+noteK (shS y.op).isNone+shapeC ((shS y.op).getD (false,0)) y.mod y.nm y.args.length+cntEs (y.args.take j) 1).m:Int),.int .i64 0,.int .i64 ((c+noteM (decide (10<l.length))+cntSs (l.take i) d+noteK (shS y.op).isNone+shapeC ((shS y.op).getD (false,0)) y.mod y.nm y.args.length+cntEs (y.args.take j) 1).k:Int),.int .i64 0,.int .i64 0,.int .i64 0,.int .i64 0,.int .i64 0,.map (some be),.map (some bs)] 49 (0,0)),blk be (gobj kI (exprsK 9) 15),blk bs (gobj kI stmtsK 7)]++[blk b7 (.cells (stmtV y ya yn y2 m2 y3 m3).toArray 43 (0,0))]) [H]) (fun j=>j≤y.args.length) (fun j=>y.args.length-j) 0 (Nat.zero_le _) (sc rfl (sc rfl (sc rfl (sc rfl (sc rfl (sc rfl (sc rfl (sc rfl (sc rfl sn))))))))) (fun _ h=>by have h:=h.fronti 2 rfl; have h:=h.fronti 4 rfl; have h:=h.fronti 4 rfl; have h:=h.fronti 3 rfl; have h:=Ws.keep (L:=[_,_,_,_]) h; exact h) ?_
   intro j hj
   refine Cs (Cr ?_)
   refine V0 (yl_lt rfl rfl) ?_
   refine Ln (Et (Cs ?_))
   refine Cc rfl (fun hc2=>?_) (fun hc2=>?_)
   ·
    have hlt:j<y.args.length:=by simpa using hc2
    obtain ⟨z,hzi⟩:∃q,y.args[j]? = some q:=⟨_,List.getElem?_eq_getElem hlt⟩
    obtain ⟨pbz,poz,haz,hrz⟩:=hs1.elt j z hzi
    obtain ⟨ke',rfl⟩:∃ke',ke=ke'+1:=by
      cases ke with
      | zero=>exact hrz.elim
      | succ k'=>exact ⟨k',rfl⟩
    obtain ⟨za,zn,hrow2,hsub⟩:=hrz
    have hup2:=wEs_upto hzi
    have hle2:=cntEs_le (y.args.take j) 1
    have hbj:(c+noteM (decide (10<l.length))+cntSs (l.take i) d+noteK (shS y.op).isNone+shapeC ((shS y.op).getD (false,0)) y.mod y.nm y.args.length+cntEs (y.args.take j) 1).tot+8*wE z≤1152921504606846976:=by simp only [Cnt.tot_add]; omega
    have e2:c+noteM (decide (10<l.length))+cntSs (l.take i) d+noteK (shS y.op).isNone+shapeC ((shS y.op).getD (false,0)) y.mod y.nm y.args.length+cntEs (y.args.take j) 1+cntE z 1=c+noteM (decide (10<l.length))+cntSs (l.take i) d+noteK (shS y.op).isNone+shapeC ((shS y.op).getD (false,0)) y.mod y.nm y.args.length+cntEs (y.args.take (j+1)) 1:=by rw [cntEs_take 1 hzi,←Cnt.add_assoc']
    refine Ck (Et (Cs (Cb (Cs (Cr ?_)))))
    refine V0 (Yo es41 rfl rfl haz (by omega)) ?_
    refine V0 (yl_lda 0 ag81 rfl rfl rfl (hrow2)) ?_
    refine WL.alloc (.inl rfl) rfl zr81 fun b11=>?_
    refine Lst 0 (.inl rfl) rfl rfl rfl sz81 rfl rfl rfl ?_
    refine Ln (Et (Cr ?_))
    refine V0 (Ym rfl) ?_
    refine V0 (Yda 0 rfl rfl ag81 rfl) ?_
    refine Lf 3 rfl ?_
    refine Lf 3 rfl ?_
    refine Lf 3 rfl ?_
    refine WL.callw0 [_,_,_] _ [blk vb (.cells #[.int .i64 0,.int .i64 ((c+noteM (decide (10<l.length))+cntSs (l.take i) d+noteK (shS y.op).isNone+shapeC ((shS y.op).getD (false,0)) y.mod y.nm y.args.length+cntEs (y.args.take j) 1+cntE z 1).f:Int),.int .i64 ((c+noteM (decide (10<l.length))+cntSs (l.take i) d+noteK (shS y.op).isNone+shapeC ((shS y.op).getD (false,0)) y.mod y.nm y.args.length+cntEs (y.args.take j) 1+cntE z 1).m:Int),.int .i64 0,.int .i64 ((c+noteM (decide (10<l.length))+cntSs (l.take i) d+noteK (shS y.op).isNone+shapeC ((shS y.op).getD (false,0)) y.mod y.nm y.args.length+cntEs (y.args.take j) 1+cntE z 1).k:Int),.int .i64 0,.int .i64 0,.int .i64 0,.int .i64 0,.int .i64 0,.map (some be),.map (some bs)] 49 (0,0)),blk be (gobj kI (exprsK 9) 15),blk bs (gobj kI stmtsK 7)] (.inl rfl) rfl en38 rfl rfl [H] (by simp) (fun w hw=>by
        have:=vexpr_any vb be bs H ke' z za zn 1 (c+noteM (decide (10<l.length))+cntSs (l.take i) d+noteK (shS y.op).isNone+shapeC ((shS y.op).getD (false,0)) y.mod y.nm y.args.length+cntEs (y.args.take j) 1) w hsub hbj hw
        exact this) ?_
    refine Ln (Eb (Et (Cr ?_)))
    refine V0 (Yi rfl rfl rfl (by omega)) ?_
    refine V0 (Ym rfl) ?_
    refine Ln ?_
    rw [e2]
    exact Ea (j+1) (by omega) (by omega) (sc rfl (sc rfl (sc rfl (sc rfl (sc rfl (sc rfl (sc rfl (sc rfl (sc rfl sn))))))))) (fun _ h=>by have h:=h.fronti 4 rfl; have h:=h.fronti 3 rfl; have h:=h.fronti 3 rfl; have h:=h.fronti 3 rfl; have h:=Ws.keep (L:=[_,_,_,_]) h; exact h)
   ·
    have hge3:¬j<y.args.length:=by simpa using hc2
    rw [List.take_of_length_le (by omega:y.args.length≤j)]
    refine Ce (Ex (Ex (Ebh (Et (Cs ?_)))))
    refine Cr ?_
    refine V0 (Yf fo43_0 rfl) ?_
    refine V0 (Yd 3 rfl rfl rfl na3) ?_
    refine V0 (yl_eq rfl rfl) ?_
    refine V0 (Ym rfl) ?_
    apply WL.or 3 rfl rfl rfl rfl (.inl rfl) rfl rfl rfl rfl rfl
    ·
     intro hg0
     refine Lv (.g rfl rfl rfl) rfl (Yf fo43_0 rfl) ?_
     refine Lv (.g rfl rfl rfl) rfl (Yd 3 rfl rfl rfl na3) ?_
     refine Lv (.g rfl rfl rfl) rfl (yl_eq rfl rfl) ?_
     exact Gt 3 rfl rfl rfl
    refine V0 (Ya rfl) ?_
    refine Ln (Et (Cs (Cr ?_)))
    refine V0 (Ym rfl) ?_
    refine V0 (Ym rfl) ?_
    refine V0 (yl_not rfl) ?_
    refine V0 (Ym rfl) ?_
    apply WL.and 4 rfl rfl rfl rfl (.inl rfl) rfl rfl rfl rfl rfl
    ·
     intro hg1
     refine Lv (.g rfl rfl rfl) rfl (Yf fo43_4 rfl) ?_
     refine Lv (.g rfl rfl rfl) rfl (Yd 3 rfl rfl rfl na25) ?_
     refine Lv (.g rfl rfl rfl) rfl (Yn es25 rfl) ?_
     refine Lv (.g rfl rfl rfl) rfl (yl_gt rfl rfl) ?_
     rw [int_lt0]
     exact Gt 4 rfl rfl rfl
    refine V0 (Ym rfl) ?_
    apply WL.or 9 rfl rfl rfl rfl (.inl rfl) rfl rfl rfl rfl rfl
    ·
     intro hg2
     refine Lv (.g rfl rfl rfl) rfl (Yf fo43_0 rfl) ?_
     refine Lv (.g rfl rfl rfl) rfl (Yd 3 rfl rfl rfl na3) ?_
     refine Lv (.g rfl rfl rfl) rfl (yl_ne rfl rfl) ?_
     refine Lv (.g rfl rfl rfl) rfl (Ym rfl) ?_
     apply WL.and 4 rfl rfl rfl rfl (.g rfl rfl rfl) rfl rfl rfl rfl rfl
     ·
      intro hg3
      refine Lv (.g rfl rfl rfl) rfl (Yf fo43_5 rfl) ?_
      refine Lv (.g rfl rfl rfl) rfl (Yd 3 rfl rfl rfl na25) ?_
      refine Lv (.g rfl rfl rfl) rfl (Yn es25 rfl) ?_
      refine Lv (.g rfl rfl rfl) rfl (yl_gt rfl rfl) ?_
      rw [int_lt0]
      exact Gt 4 rfl rfl rfl
     exact Gt 5 rfl rfl rfl
    refine Lf 0 rfl ?_
    refine WL.callw0 [_] _ [blk vb (.cells #[.int .i64 0,.int .i64 ((c+noteM (decide (10<l.length))+cntSs (l.take i) d+noteK (shS y.op).isNone+shapeC ((shS y.op).getD (false,0)) y.mod y.nm y.args.length+cntEs y.args 1+noteF (bodyBad y.op y.body.length y.other.length)).f:Int),.int .i64 ((c+noteM (decide (10<l.length))+cntSs (l.take i) d+noteK (shS y.op).isNone+shapeC ((shS y.op).getD (false,0)) y.mod y.nm y.args.length+cntEs y.args 1+noteF (bodyBad y.op y.body.length y.other.length)).m:Int),.int .i64 0,.int .i64 ((c+noteM (decide (10<l.length))+cntSs (l.take i) d+noteK (shS y.op).isNone+shapeC ((shS y.op).getD (false,0)) y.mod y.nm y.args.length+cntEs y.args 1+noteF (bodyBad y.op y.body.length y.other.length)).k:Int),.int .i64 0,.int .i64 0,.int .i64 0,.int .i64 0,.int .i64 0,.map (some be),.map (some bs)] 49 (0,0))] (.inl rfl) rfl en20 rfl rfl [] (by simp) (fun w hw=>note1_any vb be bs (c+noteM (decide (10<l.length))+cntSs (l.take i) d+noteK (shS y.op).isNone+shapeC ((shS y.op).getD (false,0)) y.mod y.nm y.args.length+cntEs y.args 1) (bodyBad y.op y.body.length y.other.length) w (by omega) hw) ?_
    refine Ln (Et (Cs (Cs (Cr ?_))))
    refine V0 (Ym rfl) ?_
    refine V0 (Ym rfl) ?_
    apply WL.or 4 rfl rfl rfl rfl (.inl rfl) rfl rfl rfl rfl rfl
    ·
     intro hg4
     refine Lv (.g rfl rfl rfl) rfl (Yf fo43_4 rfl) ?_
     refine Lv (.g rfl rfl rfl) rfl (Yd 3 rfl rfl rfl na25) ?_
     refine Lv (.g rfl rfl rfl) rfl (Yn es25 rfl) ?_
     refine Lv (.g rfl rfl rfl) rfl (yl_gt rfl rfl) ?_
     rw [int_lt0]
     exact Gt 4 rfl rfl rfl
    refine Ln (Et ?_)
    refine Cc rfl (fun hc3=>?_) (fun hc3=>?_)
    ·
     have e3:(if (inner y.op||decide (0<y.body.length))=true then cntB y.body (d+1) else c0)=cntB y.body (d+1):=if_pos hc3
     refine Cr ?_
     refine V0 (Ym rfl) ?_
     refine V0 (Yf fo43_4 rfl) ?_
     refine V0 (Yd 3 rfl rfl rfl na25) ?_
     refine V0 (Ym rfl) ?_
     refine V0 (Yi rfl rfl rfl (by omega)) ?_
     refine Lf 2 rfl ?_
     refine Lf 2 rfl ?_
     refine Lf 2 rfl ?_
     refine WL.callw0 [_,_,_] _ [blk vb (.cells #[.int .i64 0,.int .i64 ((c+noteM (decide (10<l.length))+cntSs (l.take i) d+noteK (shS y.op).isNone+shapeC ((shS y.op).getD (false,0)) y.mod y.nm y.args.length+cntEs y.args 1+noteF (bodyBad y.op y.body.length y.other.length)+cntB y.body (d+1)).f:Int),.int .i64 ((c+noteM (decide (10<l.length))+cntSs (l.take i) d+noteK (shS y.op).isNone+shapeC ((shS y.op).getD (false,0)) y.mod y.nm y.args.length+cntEs y.args 1+noteF (bodyBad y.op y.body.length y.other.length)+cntB y.body (d+1)).m:Int),.int .i64 0,.int .i64 ((c+noteM (decide (10<l.length))+cntSs (l.take i) d+noteK (shS y.op).isNone+shapeC ((shS y.op).getD (false,0)) y.mod y.nm y.args.length+cntEs y.args 1+noteF (bodyBad y.op y.body.length y.other.length)+cntB y.body (d+1)).k:Int),.int .i64 0,.int .i64 0,.int .i64 0,.int .i64 0,.int .i64 0,.map (some be),.map (some bs)] 49 (0,0)),blk be (gobj kI (exprsK 9) 15),blk bs (gobj kI stmtsK 7)] (.inl rfl) rfl en22 rfl rfl [H] (by simp) (fun w hw=>by
         have:=ih k' (by omega) y.body y2 m2 (d+1) (c+noteM (decide (10<l.length))+cntSs (l.take i) d+noteK (shS y.op).isNone+shapeC ((shS y.op).getD (false,0)) y.mod y.nm y.args.length+cntEs y.args 1+noteF (bodyBad y.op y.body.length y.other.length)) w hs2 hb5 hw
         exact this) ?_
     refine Ln (Et (Cs (Cr ?_)))
     refine V0 (Yf fo43_5 rfl) ?_
     refine V0 (Yd 3 rfl rfl rfl na25) ?_
     refine V0 (Yn es25 rfl) ?_
     refine V0 (yl_gt rfl rfl) ?_
     rw [int_lt0]
     refine Ln (Et ?_)
     refine Cc rfl (fun hc4=>?_) (fun hc4=>?_)
     ·
      have e4:(if 0<y.other.length then cntB y.other (d+1) else c0)=cntB y.other (d+1):=if_pos (by simpa using hc4)
      refine Cr ?_
      refine V0 (Ym rfl) ?_
      refine V0 (Yf fo43_5 rfl) ?_
      refine V0 (Yd 3 rfl rfl rfl na25) ?_
      refine V0 (Ym rfl) ?_
      refine V0 (Yi rfl rfl rfl (by omega)) ?_
      refine Lf 2 rfl ?_
      refine Lf 2 rfl ?_
      refine Lf 2 rfl ?_
      refine WL.callw0 [_,_,_] _ [blk vb (.cells #[.int .i64 0,.int .i64 ((c+noteM (decide (10<l.length))+cntSs (l.take i) d+noteK (shS y.op).isNone+shapeC ((shS y.op).getD (false,0)) y.mod y.nm y.args.length+cntEs y.args 1+noteF (bodyBad y.op y.body.length y.other.length)+cntB y.body (d+1)+cntB y.other (d+1)).f:Int),.int .i64 ((c+noteM (decide (10<l.length))+cntSs (l.take i) d+noteK (shS y.op).isNone+shapeC ((shS y.op).getD (false,0)) y.mod y.nm y.args.length+cntEs y.args 1+noteF (bodyBad y.op y.body.length y.other.length)+cntB y.body (d+1)+cntB y.other (d+1)).m:Int),.int .i64 0,.int .i64 ((c+noteM (decide (10<l.length))+cntSs (l.take i) d+noteK (shS y.op).isNone+shapeC ((shS y.op).getD (false,0)) y.mod y.nm y.args.length+cntEs y.args 1+noteF (bodyBad y.op y.body.length y.other.length)+cntB y.body (d+1)+cntB y.other (d+1)).k:Int),.int .i64 0,.int .i64 0,.int .i64 0,.int .i64 0,.int .i64 0,.map (some be),.map (some bs)] 49 (0,0)),blk be (gobj kI (exprsK 9) 15),blk bs (gobj kI stmtsK 7)] (.inl rfl) rfl en22 rfl rfl [H] (by simp) (fun w hw=>by
          have:=ih k' (by omega) y.other y3 m3 (d+1) (c+noteM (decide (10<l.length))+cntSs (l.take i) d+noteK (shS y.op).isNone+shapeC ((shS y.op).getD (false,0)) y.mod y.nm y.args.length+cntEs y.args 1+noteF (bodyBad y.op y.body.length y.other.length)+cntB y.body (d+1)) w hs3 hb6 hw
          exact this) ?_
      refine Ln (Eb (Et (Cr ?_)))
      refine V0 (Yi rfl rfl rfl (by omega)) ?_
      refine V0 (Ym rfl) ?_
      refine Ln ?_
      rw [show c+noteM (decide (10<l.length))+cntSs (l.take i) d+noteK (shS y.op).isNone+shapeC ((shS y.op).getD (false,0)) y.mod y.nm y.args.length+cntEs y.args 1+noteF (bodyBad y.op y.body.length y.other.length)+cntB y.body (d+1)+cntB y.other (d+1)=c+noteM (decide (10<l.length))+cntSs (l.take (i+1)) d by rw [cntSs_take d hyi,cntS_eq,e3,e4]; simp only [Cnt.add_assoc',add_c0,c0_add]]
      exact Ea (i+1) (by omega) (by omega) (sc rfl (sc rfl (sc rfl (sc rfl (sc rfl sn))))) (fun _ h=>by have h:=h.fronti 2 rfl; have h:=h.fronti 2 rfl; have h:=h.fronti 2 rfl; have h:=Ws.keep (L:=[_,_,_]) h; exact h)
     ·
      have e4:(if 0<y.other.length then cntB y.other (d+1) else c0)=c0:=if_neg (by simpa using hc4)
      refine Ck (Eb (Et (Cr ?_)))
      refine V0 (Yi rfl rfl rfl (by omega)) ?_
      refine V0 (Ym rfl) ?_
      refine Ln ?_
      rw [show c+noteM (decide (10<l.length))+cntSs (l.take i) d+noteK (shS y.op).isNone+shapeC ((shS y.op).getD (false,0)) y.mod y.nm y.args.length+cntEs y.args 1+noteF (bodyBad y.op y.body.length y.other.length)+cntB y.body (d+1)=c+noteM (decide (10<l.length))+cntSs (l.take (i+1)) d by rw [cntSs_take d hyi,cntS_eq,e3,e4]; simp only [Cnt.add_assoc',add_c0,c0_add]]
      exact Ea (i+1) (by omega) (by omega) (sc rfl (sc rfl (sc rfl (sc rfl (sc rfl sn))))) (fun _ h=>by have h:=h.fronti 2 rfl; have h:=h.fronti 2 rfl; have h:=h.fronti 2 rfl; have h:=Ws.keep (L:=[_,_,_]) h; exact h)
    ·
     have e3:(if (inner y.op||decide (0<y.body.length))=true then cntB y.body (d+1) else c0)=c0:=if_neg (fun e=>by rw [show (inner y.op||decide (0<y.body.length))=false from hc3] at e; cases e)
     refine Ck (Et (Cs (Cr ?_)))
     refine V0 (Yf fo43_5 rfl) ?_
     refine V0 (Yd 3 rfl rfl rfl na25) ?_
     refine V0 (Yn es25 rfl) ?_
     refine V0 (yl_gt rfl rfl) ?_
     rw [int_lt0]
     refine Ln (Et ?_)
     refine Cc rfl (fun hc4=>?_) (fun hc4=>?_)
     ·
      have e4:(if 0<y.other.length then cntB y.other (d+1) else c0)=cntB y.other (d+1):=if_pos (by simpa using hc4)
      refine Cr ?_
      refine V0 (Ym rfl) ?_
      refine V0 (Yf fo43_5 rfl) ?_
      refine V0 (Yd 3 rfl rfl rfl na25) ?_
      refine V0 (Ym rfl) ?_
      refine V0 (Yi rfl rfl rfl (by omega)) ?_
      refine Lf 2 rfl ?_
      refine Lf 2 rfl ?_
      refine Lf 2 rfl ?_
      refine WL.callw0 [_,_,_] _ [blk vb (.cells #[.int .i64 0,.int .i64 ((c+noteM (decide (10<l.length))+cntSs (l.take i) d+noteK (shS y.op).isNone+shapeC ((shS y.op).getD (false,0)) y.mod y.nm y.args.length+cntEs y.args 1+noteF (bodyBad y.op y.body.length y.other.length)+cntB y.other (d+1)).f:Int),.int .i64 ((c+noteM (decide (10<l.length))+cntSs (l.take i) d+noteK (shS y.op).isNone+shapeC ((shS y.op).getD (false,0)) y.mod y.nm y.args.length+cntEs y.args 1+noteF (bodyBad y.op y.body.length y.other.length)+cntB y.other (d+1)).m:Int),.int .i64 0,.int .i64 ((c+noteM (decide (10<l.length))+cntSs (l.take i) d+noteK (shS y.op).isNone+shapeC ((shS y.op).getD (false,0)) y.mod y.nm y.args.length+cntEs y.args 1+noteF (bodyBad y.op y.body.length y.other.length)+cntB y.other (d+1)).k:Int),.int .i64 0,.int .i64 0,.int .i64 0,.int .i64 0,.int .i64 0,.map (some be),.map (some bs)] 49 (0,0)),blk be (gobj kI (exprsK 9) 15),blk bs (gobj kI stmtsK 7)] (.inl rfl) rfl en22 rfl rfl [H] (by simp) (fun w hw=>by
          have:=ih k' (by omega) y.other y3 m3 (d+1) (c+noteM (decide (10<l.length))+cntSs (l.take i) d+noteK (shS y.op).isNone+shapeC ((shS y.op).getD (false,0)) y.mod y.nm y.args.length+cntEs y.args 1+noteF (bodyBad y.op y.body.length y.other.length)) w hs3 hb7 hw
          exact this) ?_
      refine Ln (Eb (Et (Cr ?_)))
      refine V0 (Yi rfl rfl rfl (by omega)) ?_
      refine V0 (Ym rfl) ?_
      refine Ln ?_
      rw [show c+noteM (decide (10<l.length))+cntSs (l.take i) d+noteK (shS y.op).isNone+shapeC ((shS y.op).getD (false,0)) y.mod y.nm y.args.length+cntEs y.args 1+noteF (bodyBad y.op y.body.length y.other.length)+cntB y.other (d+1)=c+noteM (decide (10<l.length))+cntSs (l.take (i+1)) d by rw [cntSs_take d hyi,cntS_eq,e3,e4]; simp only [Cnt.add_assoc',add_c0,c0_add]]
      exact Ea (i+1) (by omega) (by omega) (sc rfl (sc rfl (sc rfl (sc rfl (sc rfl sn))))) (fun _ h=>by have h:=h.fronti 2 rfl; have h:=h.fronti 2 rfl; have h:=h.fronti 2 rfl; have h:=Ws.keep (L:=[_,_,_]) h; exact h)
     ·
      have e4:(if 0<y.other.length then cntB y.other (d+1) else c0)=c0:=if_neg (by simpa using hc4)
      refine Ck (Eb (Et (Cr ?_)))
      refine V0 (Yi rfl rfl rfl (by omega)) ?_
      refine V0 (Ym rfl) ?_
      refine Ln ?_
      rw [show c+noteM (decide (10<l.length))+cntSs (l.take i) d+noteK (shS y.op).isNone+shapeC ((shS y.op).getD (false,0)) y.mod y.nm y.args.length+cntEs y.args 1+noteF (bodyBad y.op y.body.length y.other.length)=c+noteM (decide (10<l.length))+cntSs (l.take (i+1)) d by rw [cntSs_take d hyi,cntS_eq,e3,e4]; simp only [Cnt.add_assoc',add_c0,c0_add]]
      exact Ea (i+1) (by omega) (by omega) (sc rfl (sc rfl (sc rfl (sc rfl (sc rfl sn))))) (fun _ h=>by have h:=h.fronti 2 rfl; have h:=h.fronti 2 rfl; have h:=h.fronti 2 rfl; have h:=Ws.keep (L:=[_,_,_]) h; exact h)
  ·
   have hge2:¬i<l.length:=by simpa using hc1
   rw [List.take_of_length_le (by omega),Cnt.add_assoc',←cntB_eq hd]
   refine Ce (Ex (Ex (Ebh ?_)))
   refine WE.end0 rfl fun w' hw=>?_
   exact ⟨rfl,hw⟩
end Go.Proofs.YtjfldjidhkfnbaaGreatDoor
end
