/- GenRight: what is generated is a right object, all jumps of a part stay in it (proved in the second form, bulk at most 1048576). -/
import Derived.Ground.Names2Prog
import Derived.Ground.SlgnProg
import Derived.Lib.AtoiErrMem
import Derived.Maps.Own
import Derived.Maps.Range
import Derived.Shelf.LaysC
import Derived.Shelf.LaysM
import Derived.Shelf.Slices.Clone
import Derived.Shelf.SlicesE.Clone
import Derived.Shelf.Small.Strs
import Derived.Shelf.Strconv.Atoi
import Derived.Shelf.Strconv.AtoiAll
import Derived.Shelf.Strconv.AtoiErrFast
import Derived.Shelf.Strconv.AtoiFail
import Derived.Shelf.Strconv.AtoiInnerAll
import Derived.Shelf.Strconv.AtoiLong
import Derived.Shelf.Strconv.Clone
import Derived.Shelf.Strconv.Itoa0
import Derived.Shelf.Strconv.Itoa1
import Derived.Shelf.Strconv.Itoa2
import Derived.Shelf.Strconv.Itoa3
import Derived.Shelf.Strconv.Lower
import Derived.Shelf.Strconv.ParseInt10
import Derived.Shelf.Strconv.ParseIntEmpty
import Derived.Shelf.Strconv.ParseUint10
import Derived.Shelf.Strconv.ParseUint10Any
import Derived.Shelf.Strconv.ParseUint10Empty
import Derived.Shelf.Strconv.RangeError
import Derived.Shelf.Strconv.SyntaxError
import Derived.Shelf.Strconv.ToError
import Derived.Shelf.Strconv.ToErrorRange
import Derived.Shelf.Strings.Search1
import Derived.Sort.KeysCollected
import Derived.Test.YtpjekjnehiinnaaGreatDoorProg
import Derived.Test.YtpjekjnehiinnaaGreatDoorRows
import Derived.Test.YtpjekjnehiinnaaGreatDoorK1
set_option linter.unusedVariables false
set_option linter.unusedSimpArgs false
section
namespace Go.Bw
open Go
structure FItem where
 kind:Int
 n:Int
 pl:Int
 name:List UInt8
deriving DecidableEq
def FItem.cells (x:FItem):List Value:=[.int .i64 x.kind,.int .i64 x.n,.int .i64 x.pl,st x.name]
theorem FItem.cells_len (x:FItem):x.cells.length=4:=rfl
theorem FItem.one (x:FItem):x.cells.all (·.oneCell')=true:=rfl
def rdItem (H:View) (b o:Nat) (x:FItem):Prop:=RdC H b o x.cells
theorem rdItem_mono {H H':View} (h:VLe H H') (b o:Nat) (x:FItem) (r:rdItem H b o x):rdItem H' b o x:=RdC.mono h r
def itemOk (x:FItem):Bool:=!((((((((!(nameB x.name)||!(within_ x.kind 1 4))||!(within_ x.n 0 1099511627775))||!(within_ x.pl 0 320))||(x.kind==1&&x.pl != 0))||(x.kind==2&&x.n != 0))||(x.kind==3&&!(within_ x.n 1 32)))||(x.kind==4&&decide (3<x.n))))
theorem item_kind {x:FItem} {lo hi mx:Int} (h:(x.kind=1∧lo=0∧hi=1099511627775∧mx=0)∨(x.kind=2∧lo=0∧hi=0∧mx=320)∨(x.kind=3∧lo=1∧hi=32∧mx=320)∨(x.kind=4∧lo=0∧hi=3∧mx=320)) :
   ((((nameB x.name&&decide (lo≤x.n))&&decide (x.n≤hi))&&decide (0≤x.pl))&&decide (x.pl≤mx))=itemOk x:=by
 unfold itemOk
 generalize nameB x.name=b
 rw [Bool.eq_iff_iff]
 cases b
 · simp
 · rcases h with ⟨h,rfl,rfl,rfl⟩ | ⟨h,rfl,rfl,rfl⟩ | ⟨h,rfl,rfl,rfl⟩ | ⟨h,rfl,rfl,rfl⟩<;>simp [within_,h]<;>omega
theorem item_none {x:FItem} (h1:x.kind≠1) (h2:x.kind≠2) (h3:x.kind≠3) (h4:x.kind≠4):itemOk x=false:=by
 unfold itemOk
 have:within_ x.kind 1 4=false:=by simp [within_]; omega
 simp [this]
def twiceB (l:List (List UInt8)):Bool:=(List.range l.length).any fun i=>(List.range i).any fun j=>l[i]?.getD []==l[j]?.getD []
theorem twice_yes {l:List (List UInt8)} {i j:Nat} (hi:i<l.length) (hj:j<i) (h:(l[i]?.getD []==l[j]?.getD [])=true):twiceB l=true:=by
 unfold twiceB
 exact List.any_eq_true.2 ⟨i,by simpa using hi,List.any_eq_true.2 ⟨j,by simpa using hj,h⟩⟩
theorem twice_iff {l:List (List UInt8)}:twiceB l=true↔∃i j,i<l.length∧j<i∧l[i]? = l[j]?:=by
 constructor
 · intro h
   unfold twiceB at h
   obtain ⟨i,hi,h⟩:=List.any_eq_true.1 h
   obtain ⟨j,hj,h⟩:=List.any_eq_true.1 h
   have hi:i<l.length:=by simpa using hi
   have hj:j<i:=by simpa using hj
   refine ⟨i,j,hi,hj,?_⟩
   rw [List.getElem?_eq_getElem hi,List.getElem?_eq_getElem (by omega)] at h ⊢
   simpa using h
 · rintro ⟨i,j,hi,hj,h⟩
   exact twice_yes hi hj (by rw [h]; simp)
theorem nodup_twice {l:List (List UInt8)}:l.Nodup↔twiceB l=false:=by
 constructor
 · intro h
   rw [Bool.eq_false_iff]
   intro ht
   obtain ⟨i,j,hi,hj,e⟩:=twice_iff.1 ht
   have:=(List.getElem?_inj hi h).1 e
   omega
 · intro h
   show List.Pairwise _ l
   rw [List.pairwise_iff_getElem]
   intro i j hi hj hij e
   have:=twice_iff.2 ⟨j,i,hj,hij,by rw [List.getElem?_eq_getElem hi,List.getElem?_eq_getElem hj,e]⟩
   rw [h] at this; cases this
def faceE (name:List UInt8) (items:List FItem):Int:=
 if 16<items.length then 2 else if (items.all itemOk&&(!(twiceB (items.map (·.name))||!(nameB name))))=true then 0 else 1
theorem fall_yes {items:List FItem} (h:∀(j:Nat) (x:FItem),items[j]? = some x→itemOk x=true):items.all itemOk=true:=by
 rw [List.all_eq_true]
 intro x hx
 obtain ⟨j,hj⟩:=List.getElem?_of_mem hx
 exact h j x hj
theorem fall_no {items:List FItem} {j:Nat} {x:FItem} (hj:items[j]? = some x) (h:itemOk x=false):items.all itemOk=false:=by
 rw [List.all_eq_false]
 exact ⟨x,List.mem_of_getElem? hj,by simp [h]⟩
def declItem (at_:Int) (d:TDecl):FItem:=⟨d.kind,d.n,if d.kind=1 then 0 else at_,d.nm⟩
def dSz (d:TDecl):Int:=if d.kind=2 then 1 else if d.kind=3 then d.n else 0
def dSum:List TDecl→Int
 | []=>0
 | d::r=>dSz d+dSum r
def declsI:List TDecl→Int→List FItem
 | [],_=>[]
 | d::r,a=>declItem a d::declsI r (a+dSz d)
def procItem (i:Nat) (p:TProc):FItem:=⟨4,(p.params.length:Int),(i:Int),p.nm⟩
def procsI:List TProc→Nat→List FItem
 | [],_=>[]
 | p::r,i=>procItem i p::procsI r (i+1)
theorem dSum_snoc:∀(l:List TDecl) (d:TDecl),dSum (l++[d])=dSum l+dSz d
 | [],d=>by simp [dSum]
 | x::l,d=>by simp only [List.cons_append,dSum,dSum_snoc l d]; omega
theorem declsI_snoc:∀(l:List TDecl) (d:TDecl) (a:Int),declsI (l++[d]) a=declsI l a++[declItem (a+dSum l) d]
 | [],d,a=>by simp [declsI,dSum]
 | x::l,d,a=>by
   simp only [List.cons_append,declsI,declsI_snoc l d,dSum]
   rw [show a+dSz x+dSum l=a+(dSz x+dSum l) by omega]
theorem procsI_snoc:∀(l:List TProc) (p:TProc) (i:Nat),procsI (l++[p]) i=procsI l i++[procItem (i+l.length) p]
 | [],p,i=>by simp [procsI]
 | x::l,p,i=>by
   simp only [List.cons_append,procsI,procsI_snoc l p,List.length_cons]
   rw [show i+1+l.length=i+(l.length+1) by omega]
theorem declsI_len:∀(l:List TDecl) (a:Int),(declsI l a).length=l.length
 | [],_=>rfl
 | x::l,a=>by simp [declsI,declsI_len l]
theorem procsI_len:∀(l:List TProc) (i:Nat),(procsI l i).length=l.length
 | [],_=>rfl
 | x::l,i=>by simp [procsI,procsI_len l]
def itemsM (m:TMod):List FItem:=declsI m.decls 0++procsI m.procs 0
def dataM (m:TMod):Int:=dSum m.decls
def pubsM (m:TMod):List Bool:=m.decls.map (·.pub)++m.procs.map (·.pub)
theorem itemsM_len (m:TMod):(itemsM m).length=m.decls.length+m.procs.length:=by simp [itemsM,declsI_len,procsI_len]
theorem pubsM_len (m:TMod):(pubsM m).length=m.decls.length+m.procs.length:=by simp [pubsM]
def pubI:List FItem→List Bool→List FItem
 | x::l,p::ps=>(if p=true then [x] else [])++pubI l ps
 | _,_=>[]
theorem pubI_snoc:∀{l:List FItem} {ps:List Bool} {x:FItem} {p:Bool},l.length=ps.length→pubI (l++[x]) (ps++[p])=pubI l ps++(if p=true then [x] else [])
 | [],[],x,p,_=>by simp [pubI]
 | y::l,q::ps,x,p,h=>by simp only [List.cons_append,pubI,pubI_snoc (l:=l) (ps:=ps) (by simpa using h),List.append_assoc]
 | [],q::ps,x,p,h=>by simp at h
 | y::l,[],x,p,h=>by simp at h
theorem pubI_take {l:List FItem} {ps:List Bool} {i:Nat} {x:FItem} {p:Bool} (hl:l.length=ps.length) (hx:l[i]? = some x) (hp:ps[i]? = some p):pubI (l.take (i+1)) (ps.take (i+1))=pubI (l.take i) (ps.take i)++(if p=true then [x] else []):=by
 rw [List.take_add_one,List.take_add_one,hx,hp]
 exact pubI_snoc (by simp; omega)
theorem pubI_le:∀(l:List FItem) (ps:List Bool),(pubI l ps).length≤l.length
 | [],_=>by simp [pubI]
 | x::l,[]=>by simp [pubI]
 | x::l,p::ps=>by
   have:=pubI_le l ps
   simp only [pubI,List.length_append,List.length_cons]
   split<;>simp<;>omega
def faceM (m:TMod):(List UInt8×List FItem)×Int:=
 if checkM m≠0 then (([],[]),checkM m) else if (twiceB ((itemsM m).map (·.name))||twiceB m.uses)=true then (([],[]),6) else ((m.nm,pubI (itemsM m) (pubsM m)),0)
inductive TNode where
 | mk (op n m pl:Int) (args:List TNode)
inductive TAct where
 | mk (op n m pl:Int) (args:List TNode) (body other:List TAct)
def TNode.op:TNode→Int | .mk o _ _ _ _=>o
def TNode.n:TNode→Int | .mk _ n _ _ _=>n
def TNode.m:TNode→Int | .mk _ _ m _ _=>m
def TNode.pl:TNode→Int | .mk _ _ _ p _=>p
def TNode.args:TNode→List TNode | .mk _ _ _ _ a=>a
def TAct.op:TAct→Int | .mk o _ _ _ _ _ _=>o
def TAct.n:TAct→Int | .mk _ n _ _ _ _ _=>n
def TAct.m:TAct→Int | .mk _ _ m _ _ _ _=>m
def TAct.pl:TAct→Int | .mk _ _ _ p _ _ _=>p
def TAct.args:TAct→List TNode | .mk _ _ _ _ a _ _=>a
def TAct.body:TAct→List TAct | .mk _ _ _ _ _ b _=>b
def TAct.other:TAct→List TAct | .mk _ _ _ _ _ _ o=>o
structure TPart where
 params:Int
 locals:Int
 body:List TAct
structure TUnit where
 nm:List UInt8
 uses:List (List UInt8)
 data:Int
 parts:List TPart
 main:List TAct
def noUnit:TUnit:=⟨[],[],0,[],[]⟩
def nodeV (e:TNode) (a:Option Addr) (c:Nat):List Value:=[.int .i64 e.op,.int .i64 e.n,.int .i64 e.m,.int .i64 e.pl,.slice a e.args.length c]
def RdN:Nat→View→Nat→Nat→TNode→Prop
 | 0=>fun _ _ _ _=>False
 | k+1=>fun H b o e=>∃a c,RdC H b o (nodeV e a c)∧Sl (RdN k) 5 H a c e.args
structure AAt where
 s1:Option Addr×Nat
 s2:Option Addr×Nat
 s3:Option Addr×Nat
def actV (s:TAct) (r:AAt):List Value:=[.int .i64 s.op,.int .i64 s.n,.int .i64 s.m,.int .i64 s.pl,.slice r.s1.1 s.args.length r.s1.2,.slice r.s2.1 s.body.length r.s2.2,.slice r.s3.1 s.other.length r.s3.2]
def RdA (ke:Nat):Nat→View→Nat→Nat→TAct→Prop
 | 0=>fun _ _ _ _=>False
 | k+1=>fun H b o s=>∃r:AAt,RdC H b o (actV s r)∧Sl (RdN ke) 5 H r.s1.1 r.s1.2 s.args∧Sl (RdA ke k) 7 H r.s2.1 r.s2.2 s.body∧Sl (RdA ke k) 7 H r.s3.1 r.s3.2 s.other
def partV (p:TPart) (r:Option Addr×Nat):List Value:=[.int .i64 p.params,.int .i64 p.locals,.slice r.1 p.body.length r.2]
def RdPt (ke ks:Nat) (H:View) (b o:Nat) (p:TPart):Prop:=∃r:Option Addr×Nat,RdC H b o (partV p r)∧Sl (RdA ke ks) 7 H r.1 r.2 p.body
structure UAt where
 s1:Option Addr×Nat
 s2:Option Addr×Nat
 s3:Option Addr×Nat
def unitV (u:TUnit) (r:UAt):List Value:=[st u.nm,.slice r.s1.1 u.uses.length r.s1.2,.int .i64 u.data,.slice r.s2.1 u.parts.length r.s2.2,.slice r.s3.1 u.main.length r.s3.2]
structure RdU (ke ks:Nat) (H:View) (r:UAt) (u:TUnit):Prop where
 uses:Sl rdStr 1 H r.s1.1 r.s1.2 u.uses
 parts:Sl (RdPt ke ks) 3 H r.s2.1 r.s2.2 u.parts
 main:Sl (RdA ke ks) 7 H r.s3.1 r.s3.2 u.main
def noUAt:UAt:=⟨(none,0),(none,0),(none,0)⟩
theorem noUnit_rd {ke ks:Nat} (H:View):RdU ke ks H noUAt noUnit:=⟨Sl.nil,Sl.nil,Sl.nil⟩
theorem RdN_mono {H H':View} (hH:VLe H H'):∀{k k':Nat},k≤k'→∀(b o:Nat) (e:TNode),RdN k H b o e→RdN k' H' b o e
 | 0,_,_,_,_,_,h=>h.elim
 | k+1,0,hk,_,_,_,_=>absurd hk (by omega)
 | k+1,k'+1,hk,b,o,e,h=>by
   obtain ⟨a,c,h1,h2⟩:=h
   exact ⟨a,c,RdC.mono hH h1,h2.imp fun b o x hx=>RdN_mono hH (by omega) b o x hx⟩
theorem RdA_mono {H H':View} (hH:VLe H H') {ke ke':Nat} (hke:ke≤ke'):∀{k k':Nat},k≤k'→∀(b o:Nat) (e:TAct),RdA ke k H b o e→RdA ke' k' H' b o e
 | 0,_,_,_,_,_,h=>h.elim
 | k+1,0,hk,_,_,_,_=>absurd hk (by omega)
 | k+1,k'+1,hk,b,o,e,h=>by
   obtain ⟨r,h1,h2,h3,h4⟩:=h
   exact ⟨r,RdC.mono hH h1,h2.imp fun b o x hx=>RdN_mono hH hke b o x hx,h3.imp fun b o x hx=>RdA_mono hH hke (by omega) b o x hx,h4.imp fun b o x hx=>RdA_mono hH hke (by omega) b o x hx⟩
theorem RdPt_mono {H H':View} (hH:VLe H H') {ke ke' ks ks':Nat} (hke:ke≤ke') (hks:ks≤ks') (b o:Nat) (p:TPart) (h:RdPt ke ks H b o p):RdPt ke' ks' H' b o p:=by
 obtain ⟨r,h1,h2⟩:=h
 exact ⟨r,RdC.mono hH h1,h2.imp fun b o x hx=>RdA_mono hH hke hks b o x hx⟩
theorem slN_mv {H N:View} {k c:Nat} {a:Option Addr} {l:List TNode} (h:Sl (RdN k) 5 H a c l) (hv:VLe H N):Sl (RdN k) 5 N a c l:=h.imp fun b o x hx=>RdN_mono hv (Nat.le_refl _) b o x hx
theorem slA_mv {H N:View} {ke k c:Nat} {a:Option Addr} {l:List TAct} (h:Sl (RdA ke k) 7 H a c l) (hv:VLe H N):Sl (RdA ke k) 7 N a c l:=h.imp fun b o x hx=>RdA_mono hv (Nat.le_refl _) (Nat.le_refl _) b o x hx
theorem slPt_mv {H N:View} {ke k c:Nat} {a:Option Addr} {l:List TPart} (h:Sl (RdPt ke k) 3 H a c l) (hv:VLe H N):Sl (RdPt ke k) 3 N a c l:=h.imp fun b o x hx=>RdPt_mono hv (Nat.le_refl _) (Nat.le_refl _) b o x hx
theorem RdU.mv {ke ks:Nat} {H N:View} {r:UAt} {u:TUnit} (h:RdU ke ks H r u) (hv:VLe H N):RdU ke ks N r u:=⟨h.uses.imp fun b o x hx=>rdStr_mono hv b o x hx,slPt_mv h.parts hv,slA_mv h.main hv⟩
def Xs {X:Type} (R:View→X→Prop) (J:View) (es:List X):Prop:=∀e ∈ es,R J e
theorem Xs.nil {X:Type} {R:View→X→Prop} (J:View):Xs R J []:=by intro e h; simp at h
theorem Xs.mono {X:Type} {R:View→X→Prop} (hm:∀{A B:View} {x:X},VLe A B→R A x→R B x) {J J':View} {es:List X} (h:Xs R J es) (hv:VLe J J'):Xs R J' es:=fun e he=>hm hv (h e he)
theorem Xs.snoc {X:Type} {R:View→X→Prop} (hm:∀{A B:View} {x:X},VLe A B→R A x→R B x) {J J1 J2:View} {es:List X} {e:X} (h:Xs R J es) (h1:VLe J J2) (h2:VLe J1 J2) (he:R J1 e):Xs R J2 (es++[e]):=by
 intro x hx
 rcases List.mem_append.1 hx with hx | hx
 · exact hm h1 (h x hx)
 · rw [List.mem_singleton] at hx
   subst hx
   exact hm h2 he
theorem slX_of {X T:Type} {t:X→T} {rdX:View→Nat→Nat→X→Prop} {rd:View→Nat→Nat→T→Prop} {R:View→X→Prop} {k:Nat} {H J N:View} {c:Nat} {a:Option Addr} {es:List X} (h:Sl rdX k H a c es) (hes:Xs R J es)
   (hj:∀b o e,rdX H b o e→R J e→rd N b o (t e)):Sl rd k N a c (es.map t):=by
 refine ⟨by simpa using h.cap,h.max,h.spot,fun i x hx=>?_⟩
 rw [List.getElem?_map] at hx
 obtain ⟨e,he,rfl⟩:=Option.map_eq_some_iff.1 hx
 obtain ⟨b,o,h1,h2⟩:=h.elt i e he
 exact ⟨b,o,h1,hj b _ e h2 (hes e (List.mem_of_getElem? he))⟩
abbrev XN:=TNode×Option Addr×Nat
def XN.cells (e:XN):List Value:=nodeV e.1 e.2.1 e.2.2
theorem XN.cells_len (e:XN):(XN.cells e).length=5:=rfl
theorem XN.one (e:XN):(XN.cells e).all (·.oneCell')=true:=rfl
def rdXN (H:View) (b o:Nat) (e:XN):Prop:=RdC H b o (XN.cells e)
def SlN (k:Nat) (J:View) (e:XN):Prop:=Sl (RdN k) 5 J e.2.1 e.2.2 e.1.args
theorem SlN.mv {k:Nat} {A B:View} {e:XN} (hv:VLe A B) (h:SlN k A e):SlN k B e:=slN_mv h hv
theorem slN_of {k:Nat} {H J N:View} {c:Nat} {a:Option Addr} {es:List XN} (h:Sl rdXN 5 H a c es) (hv:VLe H N) (hJ:VLe J N) (hes:Xs (SlN k) J es):Sl (RdN (k+1)) 5 N a c (es.map (·.1)):=
 slX_of h hes fun b o e h1 h2=>⟨e.2.1,e.2.2,RdC.mono hv h1,SlN.mv hJ h2⟩
abbrev XA:=TAct×AAt
def XA.cells (e:XA):List Value:=actV e.1 e.2
theorem XA.cells_len (e:XA):(XA.cells e).length=7:=rfl
theorem XA.one (e:XA):(XA.cells e).all (·.oneCell')=true:=rfl
def rdXA (H:View) (b o:Nat) (e:XA):Prop:=RdC H b o (XA.cells e)
structure SlA (ke k:Nat) (N:View) (e:XA):Prop where
 args:Sl (RdN ke) 5 N e.2.s1.1 e.2.s1.2 e.1.args
 body:Sl (RdA ke k) 7 N e.2.s2.1 e.2.s2.2 e.1.body
 other:Sl (RdA ke k) 7 N e.2.s3.1 e.2.s3.2 e.1.other
theorem SlA.mv {ke k:Nat} {A B:View} {e:XA} (hv:VLe A B) (h:SlA ke k A e):SlA ke k B e:=⟨slN_mv h.args hv,slA_mv h.body hv,slA_mv h.other hv⟩
theorem slA_of {ke k:Nat} {H J N:View} {c:Nat} {a:Option Addr} {es:List XA} (h:Sl rdXA 7 H a c es) (hv:VLe H N) (hJ:VLe J N) (hes:Xs (SlA ke k) J es):Sl (RdA ke (k+1)) 7 N a c (es.map (·.1)):=
 slX_of h hes fun b o e h1 h2=>⟨e.2,RdC.mono hv h1,(SlA.mv hJ h2).args,(SlA.mv hJ h2).body,(SlA.mv hJ h2).other⟩
abbrev XP:=TPart×Option Addr×Nat
def XP.cells (e:XP):List Value:=partV e.1 e.2
theorem XP.cells_len (e:XP):(XP.cells e).length=3:=rfl
theorem XP.one (e:XP):(XP.cells e).all (·.oneCell')=true:=rfl
def rdXP (H:View) (b o:Nat) (e:XP):Prop:=RdC H b o (XP.cells e)
def SlPt (ke k:Nat) (J:View) (e:XP):Prop:=Sl (RdA ke k) 7 J e.2.1 e.2.2 e.1.body
theorem SlPt.mv {ke k:Nat} {A B:View} {e:XP} (hv:VLe A B) (h:SlPt ke k A e):SlPt ke k B e:=slA_mv h hv
theorem slPt_of {ke k:Nat} {H J N:View} {c:Nat} {a:Option Addr} {es:List XP} (h:Sl rdXP 3 H a c es) (hv:VLe H N) (hJ:VLe J N) (hes:Xs (SlPt ke k) J es):Sl (RdPt ke k) 3 N a c (es.map (·.1)):=
 slX_of h hes fun b o e h1 h2=>⟨e.2,RdC.mono hv h1,SlPt.mv hJ h2⟩
end Go.Bw
end
section
namespace Go.Bw
open Go Go.RowKit
open Go.ChangeShapes Go.WideShapes Go.ChangeAt Go.RowKit Go.Joins Go.Deep
structure FaceTy (P:Program) (tI tT tX tXs tF tFs:TypeId) (x f:Array Field):Prop where
 uI:P.underlying tI=some (.int .i64)
 uT:P.underlying tT=some .string
 uX:P.underlying tX=some (.struct x)
 rX:(inRow P 0 x.toList&&Nat.beq (P.cellsOf tX) x.size)=true
 fX:x.map (·.type) = #[tI,tI,tI,tT]
 uXs:P.underlying tXs=some (.slice tX)
 uF:P.underlying tF=some (.struct f)
 rF:(inRow P 0 f.toList&&Nat.beq (P.cellsOf tF) f.size)=true
 fF:f.map (·.type) = #[tT,tXs]
 uFs:P.underlying tFs=some (.slice tF)
end Go.Bw
end
section
namespace Go.Bw
open Go Go.RowKit
section
variable {κ:Type} [BEq κ] [LawfulBEq κ] {kd:TypeDesc} {kv:κ→Value}
variable {P:Program} {l:List (Nat×Value)} {w0:World} {F:List Nat} {L:List Asr} {Vs:List View} {ty:TypeId} {pos:String} {af:Array Edge} {g:Option (Nat×Bool)}
theorem yl_glookv {dd:Option Tmp} {t kt e:TypeId} {x y:Operand} {b c:Nat} {m:List (GEnt κ)} {k:κ} {z:Value} (i:Nat) {H:View} (hH:Vs[i]? = some H) (hkk:KeyOk kd kv) (ht:P.underlying t=some (.map kt e)) (hk:P.underlying kt=some kd) (hz:zeroOf P e=some z) (hx:opv l x=some (.map (some b))) (hy:opv l y=some (kv k)) (hb:H b=some (gobj kv m c)) :
   Yl P l (Ws w0 F L Vs) ⟨dd,.lookup t x y false,ty,pos,af,g⟩ (gget k m z):=by
 intro ρ w hρ hw
 simp [execOp,hρ x _ hx,hρ y _ hy,run_glook (P:=P) (k:=k) false hkk ht hk hz (hw.vs H (mem_of_idx hH) b _ hb:w.heap[b]? = some (gobj kv m c))]
theorem yl_glook2v {dd:Option Tmp} {t kt e:TypeId} {x y:Operand} {b c:Nat} {m:List (GEnt κ)} {k:κ} {z:Value} (i:Nat) {H:View} (hH:Vs[i]? = some H) (hkk:KeyOk kd kv) (ht:P.underlying t=some (.map kt e)) (hk:P.underlying kt=some kd) (hz:zeroOf P e=some z) (hx:opv l x=some (.map (some b))) (hy:opv l y=some (kv k)) (hb:H b=some (gobj kv m c)) :
   Yl P l (Ws w0 F L Vs) ⟨dd,.lookup t x y true,ty,pos,af,g⟩ (.tuple #[gget k m z,.bool (ghas k m)]):=by
 intro ρ w hρ hw
 simp [execOp,hρ x _ hx,hρ y _ hy,run_glook (P:=P) (k:=k) true hkk ht hk hz (hw.vs H (mem_of_idx hH) b _ hb:w.heap[b]? = some (gobj kv m c))]
end
theorem Ws.nvb {w0 w:World} {L:List Asr} {Vs:List View} (h:Ws w0 [] L Vs w) (i:Nat) {b:Nat} {ob:Obj} (hL:L[i]? = some (blk b ob)):nv w0 w b=some ob:=by
 have hb:w.heap[b]? = some ob:=h.kn _ (mem_of_idx hL)
 have hn:w0.heap.size≤b:=by
   rcases h.own _ (mem_of_idx hL) b (by simp [blk]) with h' | h'
   · cases h'
   · exact h'
 unfold nv
 rw [if_pos hn]
 exact hb
section
variable {Q:Exit→Act→World→Prop} {n:Nat} {ds:List Deferred} {l:List (Nat×Value)} {w0:World} {F:List Nat} {L:List Asr} {Vs:List View}
theorem WE.reblk {e:Exit} {b:Nat} {ob:Obj} (i:Nat) (ob':Obj) (hL:L[i]? = some (blk b ob)) (he:ob=ob') (h:WE Q e n ds l (Ws w0 F (L.set i (blk b ob')) Vs)):WE Q e n ds l (Ws w0 F L Vs):=by
 subst he
 have:L.set i (blk b ob)=L:=by
   obtain ⟨hi,he⟩:=List.getElem?_eq_some_iff.1 hL
   rw [←he]
   exact List.set_getElem_self hi
 rwa [this] at h
end
theorem Ws.hvw {w0 w:World} {F:List Nat} {L:List Asr} {Vs:List View} (h:Ws w0 F L Vs w) (i:Nat) {b:Nat} {ob:Obj} (hL:L[i]? = some (blk b ob)):hv w b=some ob:=h.kn _ (mem_of_idx hL)
theorem vc_blk {H:View} {b k:Nat} {ob:Obj} {v:Value} (h:H b=some ob) (hc:cellIn ob k=some v):vc H b k=some v:=by
 unfold vc
 rw [h]
 exact hc
section
variable {P:Program} {ops:Array Oper} {Q:Exit→Act→World→Prop} {n:Nat} {ds:List Deferred} {l:List (Nat×Value)} {w0:World} {F:List Nat} {L:List Asr} {Vs:List View} {rest:List Oper} {d:Nat} {ty:TypeId} {pos:String} {af:Array Edge} {g:Option (Nat×Bool)}
theorem WL.callpx {ι κ:Type} {f:FuncId} {args:Array Operand} {ts:Array TypeId} {vs:List Value} (hg:GOk ops l g) (hn:Nat.blt d n=true) (hf:Enters P f) (ha:evs l args.toList=some vs)
   (v:ι→Value) (R:ι→Prop) (ch:κ→List PanicEntry) (Rp:κ→Prop)
   (hC:∀w,Ws w0 F L Vs w→Calls P f vs.toArray w fun e w'=>(∃i,e = .returned (v i)∧Ext w w'∧R i)∨(∃j,e = .panicked (ch j)∧Ext w w'∧Rp j))
   (hp:∀j,Rp j→WE Q (.panic (ch j)) n ds l (Ws w0 F L Vs))
   (hr:∀i,R i→WL P ops Q n ds ((d,v i)::l) (Ws w0 F L Vs) rest) :
   WL P ops Q n ds l (Ws w0 F L Vs) (⟨some d,.call ⟨.value (.func f),args,ts⟩,ty,pos,af,g⟩::rest):=
 WL.callx hg hn hf ha v (fun i w'=>R i∧Ws w0 F L Vs w') (fun c w'=>∃j,c=ch j∧Rp j∧Ws w0 F L Vs w') (fun w hw=>(hC w hw).mono fun e w' h=>by
   rcases h with ⟨i,h1,h2,h3⟩ | ⟨j,h1,h2,h3⟩
   · exact .inl ⟨i,h1,h3,hw.ext h2⟩
   · exact .inr ⟨_,h1,j,O,h3,hw.ext h2⟩) (fun i a w ha hw=>hr i hw.1 a w ha hw.2) (fun c a w ha hw=>by
   obtain ⟨j,rfl,h1,h2⟩:=hw
   exact hp j h1 a w ha h2)
theorem WL.calldx {ι κ:Type} {f:FuncId} {args:Array Operand} {ts:Array TypeId} {vs:List Value} (hg:GOk ops l g) (hn:Nat.blt d n=true) (hf:Enters P f) (ha:evs l args.toList=some vs)
   (v:ι→Value) (R:View→ι→Prop) (ch:κ→List PanicEntry) (Rp:κ→Prop)
   (hC:∀w,Ws w0 F L Vs w→Calls P f vs.toArray w fun e w'=>(∃i,e = .returned (v i)∧Ext w w'∧R (nv w w') i)∨(∃j,e = .panicked (ch j)∧Ext w w'∧Rp j))
   (hp:∀j,Rp j→WE Q (.panic (ch j)) n ds l (Ws w0 F L Vs))
   (hr:∀H i,Fresh w0 H→R H i→WL P ops Q n ds ((d,v i)::l) (Ws w0 F L (H::Vs)) rest) :
   WL P ops Q n ds l (Ws w0 F L Vs) (⟨some d,.call ⟨.value (.func f),args,ts⟩,ty,pos,af,g⟩::rest):=
 WL.callx (ι:=View×ι) hg hn hf ha (fun i=>v i.2) (fun i w'=>(Fresh w0 i.1∧R i.1 i.2)∧Ws w0 F L (i.1::Vs) w') (fun c w'=>∃j,c=ch j∧Rp j∧Ws w0 F L Vs w') (fun w hw=>(hC w hw).mono fun e w' h=>by
   rcases h with ⟨i,h1,h2,h3⟩ | ⟨j,h1,h2,h3⟩
   · exact .inl ⟨(nv w w',i),h1,⟨(nv_fresh w w').mono hw.fr.size,h3⟩,hw.view h2 (nv_le w w') (nv_fresh w w')⟩
   · exact .inr ⟨_,h1,j,O,h3,hw.ext h2⟩) (fun i a w ha hw=>hr i.1 i.2 hw.1.1 hw.1.2 a w ha hw.2) (fun c a w ha hw=>by
   obtain ⟨j,rfl,h1,h2⟩:=hw
   exact hp j h1 a w ha h2)
end
section
variable {P:Program} {l:List (Nat×Value)} {W:World→Prop} {ty:TypeId} {pos:String} {af:Array Edge} {g:Option (Nat×Bool)}
theorem yl_taY {dd:Option Tmp} {x:Operand} {s xt:TypeId} {v:Value} {fs:Array Field} (hu:P.underlying s=some (.struct fs)) (hx:opv l x=some (.iface s v)):Yl P l W ⟨dd,.typeAssert x xt s true,ty,pos,af,g⟩ (.tuple #[v,.bool true]):=by
 intro ρ w hρ _
 simp [execOp,hρ x _ hx,Instr.typeAssert,run_underlying hu]
theorem yl_taN {dd:Option Tmp} {x:Operand} {s xt:TypeId} {z:Value} {fs:Array Field} (hu:P.underlying s=some (.struct fs)) (hz:zeroOf P s=some z) (hx:opv l x=some .nilIface):Yl P l W ⟨dd,.typeAssert x xt s true,ty,pos,af,g⟩ (.tuple #[z,.bool false]):=by
 intro ρ w hρ _
 simp [execOp,hρ x _ hx,Instr.typeAssert,run_underlying hu,run_zero hz]
end
def boolC (b:Bool):List Value:=[.bool b]
def rdBool (H:View) (b o:Nat) (x:Bool):Prop:=RdC H b o (boolC x)
theorem boolC_len (b:Bool):(boolC b).length=1:=rfl
end Go.Bw
end
section
namespace Go.Bw
open Go
structure Scp where
 locs:List (List UInt8)
 own:List FItem
 uses:List (List UInt8)
 faces:List (List FItem)
def idxOf (nm:List UInt8):List (List UInt8)→Nat→Option Nat
 | [],_=>none
 | s::r,i=>if s=nm then some i else idxOf nm r (i+1)
def findI (nm:List UInt8):List FItem→Option FItem
 | []=>none
 | x::r=>if x.name=nm then some x else findI nm r
def findU (mod nm:List UInt8):List (List UInt8)→List (List FItem)→Nat→Option (Int×FItem)
 | u::us,f::fs,k=>if u=mod then (match findI nm f with | some x=>some (((k+1:Nat):Int),x) | none=>findU mod nm us fs (k+1)) else findU mod nm us fs (k+1)
 | _,_,_=>none
def locItem (i:Nat):FItem:=⟨0,0,(i:Int),[]⟩
def findT (σ:Scp) (mod nm:List UInt8):Option (Int×FItem):=
 if mod=[] then (match idxOf nm σ.locs 0 with
   | some i=>some (-1,locItem i)
   | none=>(findI nm σ.own).map fun x=>(0,x))
 else findU mod nm σ.uses σ.faces 0
def er (a b:Int):Int:=if a=0 then b else a
theorem er_0 (b:Int):er 0 b=b:=rfl
theorem er_r (a:Int):er a 0=a:=by unfold er; split<;>simp_all
theorem er_assoc (a b c:Int):er (er a b) c=er a (er b c):=by unfold er; split<;>simp_all
theorem er_ne {a b:Int} (h:a≠0):er a b=a:=by unfold er; rw [if_neg h]
structure RN where
 op:Int
 n:Int
 m:Int
 pl:Int
 e:Int
def resE (σ:Scp) (op n:Int) (mod nm:List UInt8) (len:Nat):RN:=
 if within_ op 3 5=true then (match findT σ mod nm with
   | none=>⟨op,n,0,0,5⟩
   | some (m,it)=>
     if m = -1 then ⟨16,n,0,it.pl,if op=3 then 0 else 7⟩
     else if op=3∧it.kind=1 then ⟨1,it.n,0,0,0⟩
     else if op=3∧it.kind=2 then ⟨op,n,m,it.pl,0⟩
     else if op=4∧it.kind=3 then ⟨op,it.n,m,it.pl,0⟩
     else if op=5∧it.kind=4 then ⟨op,n,m,it.pl,if it.n=(len:Int) then 0 else 8⟩
     else ⟨op,n,0,0,7⟩)
 else ⟨op,n,0,0,0⟩
def resS (σ:Scp) (op:Int) (mod nm:List UInt8) (len:Nat):RN:=
 if within_ op 1 3=true then (match findT σ mod nm with
   | none=>⟨op,0,0,0,5⟩
   | some (m,it)=>
     if op=1∧(m = -1∨it.kind=2) then ⟨op,0,m,it.pl,0⟩
     else if m = -1 then ⟨op,0,0,0,7⟩
     else if op=2∧it.kind=3 then ⟨op,it.n,m,it.pl,0⟩
     else if op=3∧it.kind=4 then ⟨op,0,m,it.pl,if it.n=(len:Int) then 0 else 8⟩
     else ⟨op,0,0,0,7⟩)
 else ⟨op,0,0,0,0⟩
mutual
def nodeT (σ:Scp):TExpr→TNode
 | .mk op n mod nm args=>.mk (resE σ op n mod nm args.length).op (resE σ op n mod nm args.length).n (resE σ op n mod nm args.length).m (resE σ op n mod nm args.length).pl (nodesT σ args)
def nodesT (σ:Scp):List TExpr→List TNode
 | []=>[]
 | x::r=>nodeT σ x::nodesT σ r
end
mutual
def errE (σ:Scp):TExpr→Int
 | .mk op n mod nm args=>er (resE σ op n mod nm args.length).e (errEs σ args)
def errEs (σ:Scp):List TExpr→Int
 | []=>0
 | x::r=>er (errE σ x) (errEs σ r)
end
mutual
def actT (σ:Scp):TStmt→TAct
 | .mk op mod nm args body other=>.mk (resS σ op mod nm args.length).op (resS σ op mod nm args.length).n (resS σ op mod nm args.length).m (resS σ op mod nm args.length).pl (nodesT σ args) (actsT σ body) (actsT σ other)
def actsT (σ:Scp):List TStmt→List TAct
 | []=>[]
 | x::r=>actT σ x::actsT σ r
end
mutual
def errS (σ:Scp):TStmt→Int
 | .mk op mod nm args body other=>er (resS σ op mod nm args.length).e (er (errEs σ args) (er (errSs σ body) (errSs σ other)))
def errSs (σ:Scp):List TStmt→Int
 | []=>0
 | x::r=>er (errS σ x) (errSs σ r)
end
theorem nodeT_eq (σ:Scp) (x:TExpr):nodeT σ x = .mk (resE σ x.op x.n x.mod x.nm x.args.length).op (resE σ x.op x.n x.mod x.nm x.args.length).n (resE σ x.op x.n x.mod x.nm x.args.length).m (resE σ x.op x.n x.mod x.nm x.args.length).pl (nodesT σ x.args):=by
 cases x; rw [nodeT]; rfl
theorem errE_eq (σ:Scp) (x:TExpr):errE σ x=er (resE σ x.op x.n x.mod x.nm x.args.length).e (errEs σ x.args):=by cases x; rw [errE]; rfl
theorem actT_eq (σ:Scp) (x:TStmt):actT σ x = .mk (resS σ x.op x.mod x.nm x.args.length).op (resS σ x.op x.mod x.nm x.args.length).n (resS σ x.op x.mod x.nm x.args.length).m (resS σ x.op x.mod x.nm x.args.length).pl (nodesT σ x.args) (actsT σ x.body) (actsT σ x.other):=by
 cases x; rw [actT]; rfl
theorem errS_eq (σ:Scp) (x:TStmt):errS σ x=er (resS σ x.op x.mod x.nm x.args.length).e (er (errEs σ x.args) (er (errSs σ x.body) (errSs σ x.other))):=by cases x; rw [errS]; rfl
theorem nodesT_map (σ:Scp):∀l,nodesT σ l=l.map (nodeT σ)
 | []=>by rw [nodesT]; rfl
 | x::r=>by rw [nodesT,nodesT_map σ r]; rfl
theorem actsT_map (σ:Scp):∀l,actsT σ l=l.map (actT σ)
 | []=>by rw [actsT]; rfl
 | x::r=>by rw [actsT,actsT_map σ r]; rfl
def ers {α:Type} (f:α→Int):List α→Int
 | []=>0
 | x::r=>er (f x) (ers f r)
theorem ers_app {α:Type} (f:α→Int):∀a b:List α,ers f (a++b)=er (ers f a) (ers f b)
 | [],b=>rfl
 | x::a,b=>by simp only [List.cons_append,ers,ers_app f a b,er_assoc]
theorem ers_take {α:Type} (f:α→Int) {l:List α} {i:Nat} {x:α} (h:l[i]? = some x):ers f (l.take (i+1))=er (ers f (l.take i)) (f x):=by
 rw [List.take_add_one,h,ers_app]
 show er _ (er (f x) 0)=_
 rw [er_r]
theorem ers_hit {α:Type} (f:α→Int) {l:List α} {i:Nat} {x:α} (h:l[i]? = some x) (h0:ers f (l.take i)=0) (hx:f x≠0):ers f l=f x:=by
 have e:l=l.take i++l.drop i:=(List.take_append_drop i l).symm
 rw [e,ers_app,h0,er_0]
 have hd:l.drop i=x::l.drop (i+1):=by
   obtain ⟨hlt,hx'⟩:=List.getElem?_eq_some_iff.1 h
   rw [List.drop_eq_getElem_cons hlt,hx']
 rw [hd,ers,er_ne hx]
theorem errEs_ers (σ:Scp):∀l,errEs σ l=ers (errE σ) l
 | []=>by rw [errEs]; rfl
 | x::r=>by rw [errEs,errEs_ers σ r]; rfl
theorem errSs_ers (σ:Scp):∀l,errSs σ l=ers (errS σ) l
 | []=>by rw [errSs]; rfl
 | x::r=>by rw [errSs,errSs_ers σ r]; rfl
def scpM (m:TMod) (fs:List (List UInt8×List FItem)) (locs:List (List UInt8)):Scp:=⟨locs,itemsM m,m.uses,fs.map (·.2)⟩
def partT (m:TMod) (fs:List (List UInt8×List FItem)) (p:TProc):TPart:=⟨(p.params.length:Int),(p.locs.length:Int),actsT (scpM m fs (p.params++p.locs)) p.body⟩
def errP (m:TMod) (fs:List (List UInt8×List FItem)) (p:TProc):Int:=er (if twiceB (p.params++p.locs)=true then 6 else 0) (errSs (scpM m fs (p.params++p.locs)) p.body)
def unitT (m:TMod) (fs:List (List UInt8×List FItem)):TUnit:=⟨m.nm,m.uses,dataM m,m.procs.map (partT m fs),actsT (scpM m fs []) m.main⟩
def errU (m:TMod) (fs:List (List UInt8×List FItem)):Int:=er (ers (errP m fs) m.procs) (errSs (scpM m fs []) m.main)
def facesOk:List (List UInt8)→List (List UInt8×List FItem)→Bool
 | u::us,f::fs=>((faceE f.1 f.2==0)&&(f.1==u))&&facesOk us fs
 | _,_=>true
def resolveM (m:TMod) (fs:List (List UInt8×List FItem)):TUnit×Int:=
 if (faceM m).2≠0 then (noUnit,(faceM m).2) else if fs.length≠m.uses.length then (noUnit,8) else if facesOk m.uses fs=false then (noUnit,1)
 else if errU m fs≠0 then (noUnit,errU m fs) else (unitT m fs,0)
def tabI (l:List FItem) (s:Nat):List (GEnt (List UInt8)):=match l with
 | []=>[]
 | x::r=>(x.name,.agg x.cells.toArray,s)::tabI r (s+1)
def tabL (l:List (List UInt8)) (s:Nat):List (GEnt (List UInt8)):=match l with
 | []=>[]
 | x::r=>(x,.int .i64 ((s+1:Nat):Int),s)::tabL r (s+1)
theorem tabL_len:∀(l:List (List UInt8)) (s:Nat),(tabL l s).length=l.length
 | [],_=>rfl
 | x::r,s=>by rw [tabL,List.length_cons,tabL_len r,List.length_cons]
theorem tabI_snoc:∀(l:List FItem) (x:FItem) (s:Nat),tabI (l++[x]) s=tabI l s++[(x.name,.agg x.cells.toArray,s+l.length)]
 | [],x,s=>rfl
 | y::r,x,s=>by
   rw [List.cons_append,tabI,tabI_snoc r x,tabI,List.cons_append,List.length_cons,show s+1+r.length=s+(r.length+1) by omega]
theorem tabL_snoc:∀(l:List (List UInt8)) (x:List UInt8) (s:Nat),tabL (l++[x]) s=tabL l s++[(x,.int .i64 ((s+l.length+1:Nat):Int),s+l.length)]
 | [],x,s=>rfl
 | y::r,x,s=>by
   rw [List.cons_append,tabL,tabL_snoc r x,tabL,List.cons_append,List.length_cons,show s+1+r.length=s+(r.length+1) by omega]
theorem tabI_find (nm:List UInt8):∀(l:List FItem) (s i:Nat),(gfind nm (tabI l s) i).map (·.2)=(findI nm l).map fun x=>.agg x.cells.toArray
 | [],_,_=>rfl
 | x::r,s,i=>by
   rw [tabI,gfind,findI]
   by_cases h:x.name=nm
   · simp [h]
   · rw [if_neg (by simpa using fun e=>h e.symm),if_neg h]
     exact tabI_find nm r (s+1) (i+1)
theorem tabL_find (nm:List UInt8):∀(l:List (List UInt8)) (s i:Nat),(gfind nm (tabL l s) i).map (·.2)=(idxOf nm l s).map fun k=>.int .i64 ((k+1:Nat):Int)
 | [],_,_=>rfl
 | x::r,s,i=>by
   rw [tabL,gfind,idxOf]
   by_cases h:x=nm
   · simp [h]
   · rw [if_neg (by simpa using fun e=>h e.symm),if_neg h]
     exact tabL_find nm r (s+1) (i+1)
theorem tabI_get (nm:List UInt8) (l:List FItem) (z:Value):gget nm (tabI l 0) z=(match findI nm l with | some x=>.agg x.cells.toArray | none=>z)∧ghas nm (tabI l 0)=(findI nm l).isSome:=by
 have h:=tabI_find nm l 0 0
 unfold gget ghas
 cases hf:gfind nm (tabI l 0) 0 with
 | none=>rw [hf] at h; cases hi:findI nm l with | none=>exact ⟨rfl,rfl⟩ | some x=>rw [hi] at h; cases h
 | some r=>rw [hf] at h; cases hi:findI nm l with
   | none=>rw [hi] at h; cases h
   | some x=>rw [hi] at h; simp at h; exact ⟨by simp [h],rfl⟩
theorem tabL_get (nm:List UInt8) (l:List (List UInt8)):gget nm (tabL l 0) (.int .i64 0) = .int .i64 (match idxOf nm l 0 with | some k=>((k+1:Nat):Int) | none=>0):=by
 have h:=tabL_find nm l 0 0
 unfold gget
 cases hf:gfind nm (tabL l 0) 0 with
 | none=>rw [hf] at h; cases hi:idxOf nm l 0 with | none=>rfl | some x=>rw [hi] at h; cases h
 | some r=>rw [hf] at h; cases hi:idxOf nm l 0 with
   | none=>rw [hi] at h; cases h
   | some x=>rw [hi] at h; simp at h; simp [h]
theorem findI_none {nm:List UInt8}:∀{l:List FItem},findI nm l=none↔nm ∉ l.map (·.name)
 | []=>by simp [findI]
 | x::r=>by
   rw [findI]
   by_cases h:x.name=nm
   · simp [h]
   · rw [if_neg h,findI_none (l:=r)]
     simp [Ne.symm h,eq_comm,h]
theorem idxOf_none {nm:List UInt8}:∀{l:List (List UInt8)} {s:Nat},idxOf nm l s=none↔nm ∉ l
 | [],_=>by simp [idxOf]
 | x::r,s=>by
   rw [idxOf]
   by_cases h:x=nm
   · simp [h]
   · rw [if_neg h,idxOf_none (l:=r)]
     simp only [List.mem_cons,not_or]
     exact ⟨fun hr=>⟨fun e=>h e.symm,hr⟩,fun hr=>hr.2⟩
theorem tabI_put {l:List FItem} {x:FItem} (h:x.name ∉ l.map (·.name)):gput x.name (.agg x.cells.toArray) (tabI l 0) l.length=tabI (l++[x]) 0∧gclock x.name (tabI l 0) l.length=(l++[x]).length:=by
 have hf:gfind x.name (tabI l 0) 0=none:=by
   have:=tabI_find x.name l 0 0
   rw [findI_none.2 h] at this
   simpa using this
 unfold gput gclock
 rw [hf,tabI_snoc]
 simp
theorem tabL_put {l:List (List UInt8)} {x:List UInt8} (h:x ∉ l):gput x (.int .i64 ((l.length+1:Nat):Int)) (tabL l 0) l.length=tabL (l++[x]) 0∧gclock x (tabL l 0) l.length=(l++[x]).length:=by
 have hf:gfind x (tabL l 0) 0=none:=by
   have:=tabL_find x l 0 0
   rw [idxOf_none.2 h] at this
   simpa using this
 unfold gput gclock
 rw [hf,tabL_snoc]
 simp
theorem idxOf_le {nm:List UInt8}:∀{l:List (List UInt8)} {s k:Nat},idxOf nm l s=some k→s≤k∧l[k-s]? = some nm
 | [],_,_,h=>by cases h
 | x::r,s,k,h=>by
   rw [idxOf] at h
   split at h
   · rename_i hx; injection h with h; subst h; simp [hx]
   · obtain ⟨h1,h2⟩:=idxOf_le h
     refine ⟨by omega,?_⟩
     rw [show k-s=(k-(s+1))+1 by omega]; simpa using h2
theorem findU_none {mod nm:List UInt8}:∀{us:List (List UInt8)} {fs:List (List FItem)} {s:Nat},mod ∉ us→findU mod nm us fs s=none
 | [],_,_,_=>by simp [findU]
 | u::us,[],_,_=>by simp [findU]
 | u::us,f::fs,s,h=>by
   rw [findU,if_neg (fun e=>h (by simp [e])),findU_none (fun hm=>h (List.mem_cons_of_mem _ hm))]
theorem findU_at {mod nm:List UInt8}:∀{us:List (List UInt8)} {fs:List (List FItem)} {s:Nat},us.Nodup→us.length=fs.length→
   findU mod nm us fs s=(idxOf mod us s).bind fun k=>(fs[k-s]?).bind fun f=>(findI nm f).map fun x=>(((k+1:Nat):Int),x)
 | [],[],_,_,_=>by simp [findU,idxOf]
 | [],f::fs,_,_,h=>by simp at h
 | u::us,[],_,_,h=>by simp at h
 | u::us,f::fs,s,hn,hl=>by
   rw [findU,idxOf]
   have hn':=List.nodup_cons.1 hn
   by_cases h:u=mod
   · rw [if_pos h,if_pos h]
     simp only [Option.bind_some,Nat.sub_self,List.getElem?_cons_zero]
     cases findI nm f with
     | none=>simp only [Option.map_none]; exact findU_none (h▸hn'.1)
     | some x=>rfl
   · rw [if_neg h,if_neg h,findU_at hn'.2 (by simpa using hl)]
     cases hi:idxOf mod us (s+1) with
     | none=>rfl
     | some k=>
       have:=(idxOf_le hi).1
       simp only [Option.bind_some]
       rw [show k-s=(k-(s+1))+1 by omega,List.getElem?_cons_succ]
end Go.Bw
end
section
namespace Go.Bw
open Go
structure KnW where
 is_:Bool
 data:Int
 parts:List Int
def KnW.cells (k:KnW) (r:Option Addr×Nat):List Value:=[.bool k.is_,.int .i64 k.data,.slice r.1 k.parts.length r.2]
def n1C (x:Int):List Value:=[.int .i64 x]
theorem n1C_len (x:Int):(n1C x).length=1:=rfl
def rdN1 (H:View) (b o:Nat) (x:Int):Prop:=RdC H b o (n1C x)
def rdKn (H:View) (b o:Nat) (k:KnW):Prop:=∃r:Option Addr×Nat,RdC H b o (k.cells r)∧Sl rdN1 1 H r.1 r.2 k.parts
def knM (u:TUnit):KnW:=⟨true,u.data,u.parts.map (·.params)⟩
def noKn:KnW:=⟨false,0,[]⟩
def dataC (ks:List KnW) (m pl:Int):Bool:=((decide (m<0)||decide ((ks.length:Int)≤m))||decide (pl<0))||decide (512<pl)
def dataB (ks:List KnW) (m pl n:Int):Bool:=if dataC ks m pl=true then false else match ks[m.toNat]? with
 | some k=>if k.is_=true then decide (pl+n≤k.data) else n==1||decide (pl+n≤512)
 | none=>false
def partC (ks:List KnW) (m pl:Int):Bool:=(decide (m<0)||decide ((ks.length:Int)≤m))||decide (pl<0)
def partB (ks:List KnW) (m pl n:Int):Bool:=if partC ks m pl=true then false else match ks[m.toNat]? with
 | some k=>if k.is_=true then decide (pl<(k.parts.length:Int))&&(k.parts[pl.toNat]?).getD 0==n else decide (pl<6)&&decide (n≤3)
 | none=>false
def localB (locs pl:Int):Bool:=decide (0≤pl)&&decide (pl<locs)
def arrayB (n:Int):Bool:=decide (1≤n)&&decide (n≤32)
theorem dataB_no {ks:List KnW} {m pl:Int} (n:Int) (h:dataC ks m pl=true):dataB ks m pl n=false:=by rw [dataB,if_pos h]
theorem dataC_in {ks:List KnW} {m pl:Int} (h:dataC ks m pl=false):(∃mi:Nat,m=mi∧mi<ks.length)∧0≤pl∧pl≤512:=by
 unfold dataC at h
 simp only [Bool.or_eq_false_iff,decide_eq_false_iff_not] at h
 exact ⟨⟨m.toNat,by omega,by omega⟩,by omega,by omega⟩
theorem dataB_at {ks:List KnW} {mi:Nat} {pl n:Int} {k:KnW} (h:dataC ks mi pl=false) (hk:ks[mi]? = some k):dataB ks mi pl n=if k.is_=true then decide (pl+n≤k.data) else n==1||decide (pl+n≤512):=by
 rw [dataB,if_neg (by rw [h]; decide),Int.toNat_natCast,hk]
theorem partB_no {ks:List KnW} {m pl:Int} (n:Int) (h:partC ks m pl=true):partB ks m pl n=false:=by rw [partB,if_pos h]
theorem partC_in {ks:List KnW} {m pl:Int} (h:partC ks m pl=false):(∃mi:Nat,m=mi∧mi<ks.length)∧∃p:Nat,pl=p:=by
 unfold partC at h
 simp only [Bool.or_eq_false_iff,decide_eq_false_iff_not] at h
 exact ⟨⟨m.toNat,by omega,by omega⟩,pl.toNat,by omega⟩
theorem partB_at {ks:List KnW} {mi:Nat} {pl n:Int} {k:KnW} (h:partC ks mi pl=false) (hk:ks[mi]? = some k):partB ks mi pl n=if k.is_=true then decide (pl<(k.parts.length:Int))&&(k.parts[pl.toNat]?).getD 0==n else decide (pl<6)&&decide (n≤3):=by
 rw [partB,if_neg (by rw [h]; decide),Int.toNat_natCast,hk]
def node1 (ks:List KnW) (locs op n m pl:Int) (len:Nat):Bool:=
 if op=1 then ((((m==0)&&(pl==0))&&((len:Int)==0))&&decide (0≤n))&&decide (n≤1099511627775)
 else if op=3 then ((n==0)&&((len:Int)==0))&&dataB ks m pl 1
 else if op=4 then (arrayB n&&((len:Int)==1))&&dataB ks m pl n
 else if op=5 then (n==0)&&partB ks m pl len
 else if op=16 then (((m==0)&&(n==0))&&((len:Int)==0))&&localB locs pl
 else if op=2 then (((m==0)&&(pl==0))&&(n==0))&&((len:Int)==0)
 else if op=6 then (((m==0)&&(pl==0))&&(n==0))&&((len:Int)==1)
 else if 7≤op∧op≤15 then (((m==0)&&(pl==0))&&(n==0))&&((len:Int)==2)
 else false
def act1 (ks:List KnW) (locs op n m pl:Int) (na nb no:Nat):Bool:=
 if op=1 then (((((nb:Int)+no==0)&&((na:Int)==1))&&(n==0))&&(((m==-1)&&localB locs pl)||dataB ks m pl 1))
 else if op=2 then (((((nb:Int)+no==0)&&((na:Int)==2))&&arrayB n)&&dataB ks m pl n)
 else if op=3 then ((((nb:Int)+no==0)&&(n==0))&&partB ks m pl na)
 else if op=4 then (((m==0)&&(pl==0))&&(n==0))&&((na:Int)==1)
 else if op=5 then ((((m==0)&&(pl==0))&&(n==0))&&((na:Int)==1))&&((no:Int)==0)
 else if op=6∨op=7 then ((((m==0)&&(pl==0))&&(n==0))&&((nb:Int)+no==0))&&((na:Int)==1)
 else false
mutual
def nodeK (ks:List KnW) (locs:Int):TNode→Nat→Bool
 | .mk op n m pl args,d=>decide (d≤6)&&(node1 ks locs op n m pl args.length&&nodesK ks locs args (d+1))
def nodesK (ks:List KnW) (locs:Int):List TNode→Nat→Bool
 | [],_=>true
 | x::r,d=>nodeK ks locs x d&&nodesK ks locs r d
end
theorem nodeK_eq (ks:List KnW) (locs:Int) (x:TNode) (d:Nat):nodeK ks locs x d=(decide (d≤6)&&(node1 ks locs x.op x.n x.m x.pl x.args.length&&nodesK ks locs x.args (d+1))):=by cases x; rw [nodeK]; rfl
theorem nodesK_all (ks:List KnW) (locs:Int) (d:Nat):∀l,nodesK ks locs l d=l.all (nodeK ks locs · d)
 | []=>by rw [nodesK]; rfl
 | x::r=>by rw [nodesK,nodesK_all ks locs d r]; rfl
def ifWh (op:Int):Bool:=(op==4)||(op==5)
mutual
def actK (ks:List KnW) (locs:Int):TAct→Nat→Bool
 | .mk op n m pl args body other,d=>act1 ks locs op n m pl args.length body.length other.length&&(nodesK ks locs args 1&&((!(ifWh op)||(decide (d+1≤6)&&(decide (body.length≤10)&&actsA ks locs body (d+1))))&&(!(decide (0<other.length))||(decide (d+1≤6)&&(decide (other.length≤10)&&actsA ks locs other (d+1))))))
def actsA (ks:List KnW) (locs:Int):List TAct→Nat→Bool
 | [],_=>true
 | x::r,d=>actK ks locs x d&&actsA ks locs r d
end
def actsK (ks:List KnW) (locs:Int) (l:List TAct) (d:Nat):Bool:=decide (d≤6)&&(decide (l.length≤10)&&actsA ks locs l d)
theorem actK_eq (ks:List KnW) (locs:Int) (x:TAct) (d:Nat):actK ks locs x d=(act1 ks locs x.op x.n x.m x.pl x.args.length x.body.length x.other.length&&(nodesK ks locs x.args 1&&((!(ifWh x.op)||actsK ks locs x.body (d+1))&&(!(decide (0<x.other.length))||actsK ks locs x.other (d+1))))):=by cases x; rw [actK]; rfl
theorem actsA_all (ks:List KnW) (locs:Int) (d:Nat):∀l,actsA ks locs l d=l.all (actK ks locs · d)
 | []=>by rw [actsA]; rfl
 | x::r=>by rw [actsA,actsA_all ks locs d r]; rfl
theorem nodeC (ks:List KnW) (locs:Int) (x:TNode) (d:Nat):((decide (6<(d:Int))||!(node1 ks locs x.op x.n x.m x.pl x.args.length))||!(nodesK ks locs x.args (d+1))) = !(nodeK ks locs x d):=by
 rw [nodeK_eq,show decide (6<(d:Int)) = !(decide (d≤6)) by rw [Bool.eq_iff_iff]; simp; omega]
 cases decide (d≤6)<;>cases node1 ks locs x.op x.n x.m x.pl x.args.length<;>cases nodesK ks locs x.args (d+1)<;>rfl
theorem actC (ks:List KnW) (locs:Int) (x:TAct) (d:Nat):(((!(act1 ks locs x.op x.n x.m x.pl x.args.length x.body.length x.other.length)||!(nodesK ks locs x.args 1))||(((x.op==4)||(x.op==5))&&!(actsK ks locs x.body (d+1))))||(decide (0<(x.other.length:Int))&&!(actsK ks locs x.other (d+1)))) = !(actK ks locs x d):=by
 rw [actK_eq,show decide (0<(x.other.length:Int))=decide (0<x.other.length) by rw [Bool.eq_iff_iff]; simp]
 unfold ifWh
 cases act1 ks locs x.op x.n x.m x.pl x.args.length x.body.length x.other.length<;>cases nodesK ks locs x.args 1<;>cases ((x.op==4)||(x.op==5))<;>cases actsK ks locs x.body (d+1)<;>cases decide (0<x.other.length)<;>cases actsK ks locs x.other (d+1)<;>rfl
theorem actsC (ks:List KnW) (locs:Int) (l:List TAct) (d:Nat):(decide (6<(d:Int))||decide (10<(l.length:Int)))=true→actsK ks locs l d=false:=by
 intro h
 unfold actsK
 have h2:¬(d≤6∧l.length≤10):=by simp at h; omega
 by_cases h3:d≤6
 · rw [decide_eq_false (by omega:¬l.length≤10)]; simp
 · rw [decide_eq_false h3]; simp
theorem actsC_in {l:List TAct} {d:Nat} (h:(decide (6<(d:Int))||decide (10<(l.length:Int)))=false):d≤6∧l.length≤10:=by simp at h; omega
theorem actsK_at (ks:List KnW) (locs:Int) {l:List TAct} {d:Nat} (h:d≤6∧l.length≤10):actsK ks locs l d=l.all (actK ks locs · d):=by
 unfold actsK; rw [decide_eq_true h.1,decide_eq_true h.2,actsA_all]; rfl
theorem all_hit {α:Type} {f:α→Bool} {l:List α} {i:Nat} {x:α} (h:l[i]? = some x) (hx:f x=false):l.all f=false:=by
 cases he:l.all f with
 | false=>rfl
 | true=>rw [List.all_eq_true.1 he x (List.mem_of_getElem? h)] at hx; cases hx
theorem all_take {α:Type} {f:α→Bool} {l:List α} {i:Nat} {x:α} (h:l[i]? = some x) (ha:(l.take i).all f=true) (hx:f x=true):(l.take (i+1)).all f=true:=by
 rw [List.take_add_one,h,List.all_append,ha]
 simp [hx]
def partOk (ks:List KnW) (p:TPart):Bool:=!(((decide (p.params<0)||decide (3<p.params))||decide (p.locals<0))||decide (4<p.locals))&&actsK ks (p.params+p.locals) p.body 1
def usesK (nm:List UInt8) (us:List (List UInt8)):Bool:=!(twiceB (nm::us))&&us.all nameB
def headC (u:TUnit):Bool:=(((!(nameB u.nm)||decide (3<(u.uses.length:Int)))||decide (u.data<0))||decide (512<u.data))||decide (6<(u.parts.length:Int))
def fineU (u:TUnit) (kn:List KnW):Bool:=usesK u.nm u.uses&&(!(headC u)&&(u.parts.all (partOk (knM u::kn))&&actsK (knM u::kn) 0 u.main 1))
def namesU (l:List TUnit):List (List UInt8):=l.map (·.nm)
def aheadB (l:List TUnit):Bool:=(List.range l.length).all fun n=>((l[n]?.map (·.uses)).getD []).all fun s=>((namesU l).take n).contains s
def dataOk:List TUnit→Int→Bool
 | [],_=>true
 | u::r,room=>!(decide (u.data<0)||decide (room<u.data))&&dataOk r (room-u.data)
def usesKn (l:List TUnit) (u:TUnit):List KnW:=u.uses.map fun s=>match idxOf s (namesU l) 0 with
 | some i=>(l[i]?.map knM).getD noKn
 | none=>noKn
def checkUs (l:List TUnit):Int:=
 if (decide ((l.length:Int)<1)||decide (4<(l.length:Int)))=true then 2 else if aheadB l=false then 9 else if twiceB (namesU l)=true then 6
 else if dataOk l 512=false then 1 else if (l.all fun u=>fineU u (usesKn l u))=true then 0 else 1
end Go.Bw
end
section
namespace Go.Bw
open Go
def ltT (x y:List UInt8):Bool:=Op.bytesLess x y
def namesL (l:List TMod):List (List UInt8):=l.map (·.nm)
def placeL (l:List TMod) (s:List UInt8):Option Nat:=idxOf s (namesL l) 0
def nmAt (l:List TMod) (i:Nat):List UInt8:=(l[i]?.map (·.nm)).getD []
def usesAt (l:List TMod) (i:Nat):List (List UInt8):=(l[i]?.map (·.uses)).getD []
structure OrdOk (l:List TMod):Prop where
 few:l.length≤4
 mods:∀m ∈ l,checkM m=0
 nd:(namesL l).Nodup
 uses:∀m ∈ l,∀s ∈ m.uses,∃j,placeL l s=some j
theorem placeL_at {l:List TMod} {s:List UInt8} {j:Nat} (h:placeL l s=some j):j<l.length∧nmAt l j=s:=by
 have h2:=(idxOf_le h).2
 rw [Nat.sub_zero] at h2
 unfold namesL at h2
 rw [List.getElem?_map] at h2
 obtain ⟨m,hm,e⟩:=Option.map_eq_some_iff.1 h2
 exact ⟨(List.getElem?_eq_some_iff.1 hm).1,by rw [nmAt,hm]; exact e⟩
theorem nmAt_get {l:List TMod} {i:Nat} {m:TMod} (h:l[i]? = some m):nmAt l i=m.nm:=by rw [nmAt,h]; rfl
theorem usesAt_get {l:List TMod} {i:Nat} {m:TMod} (h:l[i]? = some m):usesAt l i=m.uses:=by rw [usesAt,h]; rfl
theorem names_get {l:List TMod} {i:Nat} {m:TMod} (h:l[i]? = some m):(namesL l)[i]? = some m.nm:=by unfold namesL; rw [List.getElem?_map,h]; rfl
theorem names_len (l:List TMod):(namesL l).length=l.length:=by simp [namesL]
theorem nm_inj {l:List TMod} (hn:(namesL l).Nodup) {i j:Nat} (hi:i<l.length) (hj:j<l.length) (h:nmAt l i=nmAt l j):i=j:=by
 have e:(namesL l)[i]? = (namesL l)[j]?:=by
   rw [names_get (List.getElem?_eq_getElem hi),names_get (List.getElem?_eq_getElem hj),←nmAt_get (List.getElem?_eq_getElem hi),←nmAt_get (List.getElem?_eq_getElem hj),h]
 exact (List.getElem?_inj (by rw [names_len]; exact hi) hn).1 e
theorem place_nm {l:List TMod} (hn:(namesL l).Nodup) {i:Nat} (hi:i<l.length):placeL l (nmAt l i)=some i:=by
 cases hp:placeL l (nmAt l i) with
 | none=>
   refine absurd ?_ (idxOf_none.1 hp)
   rw [nmAt_get (List.getElem?_eq_getElem hi)]
   exact List.mem_of_getElem? (names_get (List.getElem?_eq_getElem hi))
 | some j=>
   obtain ⟨h1,h2⟩:=placeL_at hp
   rw [nm_inj hn h1 hi h2]
def doneS (l:List TMod) (d:List Nat) (s:List UInt8):Bool:=match placeL l s with | some j=>d.contains j | none=>false
def readyB (l:List TMod) (d:List Nat) (i:Nat):Bool:=!d.contains i&&(usesAt l i).all (doneS l d)
structure Best (l:List TMod) (d:List Nat) (b:Nat):Prop where
 lt:b<l.length
 ready:readyB l d b=true
 least:∀i,i<l.length→readyB l d i=true→i=b∨ltT (nmAt l b) (nmAt l i)=true
inductive Greedy (l:List TMod):List Nat→Prop where
 | nil:Greedy l []
 | snoc {d:List Nat} {b:Nat}:Greedy l d→Best l d b→Greedy l (d++[b])
def usesN (l:List TMod) (s:List UInt8):List (List UInt8):=match placeL l s with | some i=>usesAt l i | none=>[]
inductive Reach (l:List TMod) (a:List UInt8):List UInt8→Prop where
 | base {s:List UInt8}:s ∈ usesN l a→Reach l a s
 | step {b s:List UInt8}:Reach l a b→s ∈ usesN l b→Reach l a s
structure ClosedN (l:List TMod) (a:List UInt8) (S:List UInt8→Prop):Prop where
 base:∀s ∈ usesN l a,S s
 step:∀b,S b→∀s ∈ usesN l b,S s
 sound:∀s,S s→Reach l a s
theorem ClosedN.iff {l:List TMod} {a:List UInt8} {S:List UInt8→Prop} (h:ClosedN l a S) (s:List UInt8):S s↔Reach l a s:=
 ⟨h.sound s,fun hr=>by
   induction hr with
   | base h1=>exact h.base _ h1
   | step _ h1 ih=>exact h.step _ ih _ h1⟩
theorem gput_len {κ:Type} [BEq κ] (k:κ) (v:Value) (m:List (GEnt κ)) (c:Nat):(gput k v m c).length≤m.length+1:=by
 unfold gput
 split<;>simp
end Go.Bw
end
section
namespace Go.Bw
open Go
def SortedUp {α:Type} (R:α→α→Prop) (d:List α) (i:Nat):Prop:=∀(x y:Nat) (a b:α),x<y→y<i→d[x]? = some a→d[y]? = some b→R a b
structure InsInv {α:Type} (R:α→α→Prop) (d0 d:List α) (i j:Nat):Prop where
 perm:d.Perm d0
 ji:j≤i
 il:i<d.length
 ord:∀(x y:Nat) (a b:α),x<y→y≤i→x≠j→y≠j→d[x]? = some a→d[y]? = some b→R a b
 up:∀(y:Nat) (a b:α),j<y→y≤i→d[j]? = some a→d[y]? = some b→R a b
end Go.Bw
end
section
namespace Go.Bw
open Go Go.RowKit Go.Maps Go.Sort
open Go.WideElems (Fit rd rg pl rd_val rd_mk rg_of)
structure MapOk (M:List (GEnt (List UInt8))) (c:Nat):Prop where
 nd:(M.map (·.1)).Nodup
 len:∀e ∈ M,e.1.length≤maxLen
 size:M.length≤maxLen
 born:M.map (·.2.2)=List.range M.length
 clock:c=M.length
end Go.Bw
end
section
namespace Go.Bw
open Go
section
variable {κ:Type} [BEq κ] [LawfulBEq κ]
theorem gfind_some (k:κ):∀(m:List (GEnt κ)) (i j:Nat) (v:Value),gfind k m i=some (j,v)→i≤j∧∃b,m[j-i]? = some (k,v,b)
 | [],i,j,v,h=>by simp [gfind] at h
 | e::r,i,j,v,h=>by
   simp only [gfind] at h
   split at h
   · rename_i he
     have he2:e.1=k:=(eq_of_beq he).symm
     injection h with h
     injection h with h1 h2
     subst h1 h2
     exact ⟨Nat.le_refl _,e.2.2,by rw [Nat.sub_self,List.getElem?_cons_zero,←he2]⟩
   · obtain ⟨h1,b,h2⟩:=gfind_some k r (i+1) j v h
     refine ⟨by omega,b,?_⟩
     rw [show j-i=(j-(i+1))+1 by omega,List.getElem?_cons_succ]
     exact h2
theorem gfind_none (k:κ):∀(m:List (GEnt κ)) (i:Nat),gfind k m i=none↔k ∉ m.map (·.1)
 | [],i=>by simp [gfind]
 | e::r,i=>by
   simp only [gfind,List.map_cons,List.mem_cons,not_or]
   split
   · rename_i he
     have he2:e.1=k:=(eq_of_beq he).symm
     exact ⟨fun h=>(by cases h),fun h=>absurd he2.symm h.1⟩
   · rename_i he
     have he2:¬k=e.1:=fun e2=>he (by simp [e2])
     rw [gfind_none k r (i+1)]
     exact ⟨fun h=>⟨he2,h⟩,fun h=>h.2⟩
theorem gput_keys (k:κ) (v:Value) (m:List (GEnt κ)) (c:Nat):((k ∈ m.map (·.1))∧(gput k v m c).map (·.1)=m.map (·.1)∧(gput k v m c).map (·.2.2)=m.map (·.2.2)∧gclock k m c=c)∨
   (k ∉ m.map (·.1)∧gput k v m c=m++[(k,v,c)]∧gclock k m c=c+1):=by
 unfold gput gclock
 cases hf:gfind k m 0 with
 | none=>exact .inr ⟨(gfind_none k m 0).1 hf,rfl,rfl⟩
 | some r=>
   obtain ⟨j,u⟩:=r
   obtain ⟨_,b,hb⟩:=gfind_some k m 0 j u hf
   rw [Nat.sub_zero] at hb
   refine .inl ⟨List.mem_map.2 ⟨_,List.mem_of_getElem? hb,O⟩,?_,?_,O⟩
   all_goals
     apply List.ext_getElem?
     intro i
     simp only [List.getElem?_map,List.getElem?_modify]
     by_cases hij:j=i
     · subst hij; rw [hb]; simp
     · simp [hij]
theorem gget_gput (k:κ) (v:Value) (m:List (GEnt κ)) (c:Nat) (z:Value):gget k (gput k v m c) z=v:=by
 have key:∃e,gfind k (gput k v m c) 0=some (e,v):=by
   unfold gput
   cases hf:gfind k m 0 with
   | none=>
     have h1:∀(m:List (GEnt κ)) (i:Nat),gfind k m i=none→gfind k (m++[(k,v,c)]) i=some (i+m.length,v):=by
       intro m
       induction m with
       | nil=>intro i _; simp [gfind]
       | cons e r ih=>
         intro i h
         simp only [gfind,List.cons_append] at h ⊢
         split at h
         · cases h
         · rename_i he
           rw [if_neg he,ih _ h,List.length_cons]
           congr 2
           omega
     exact ⟨_,h1 m 0 hf⟩
   | some r=>
     obtain ⟨j,u⟩:=r
     have h1:∀(m:List (GEnt κ)) (i:Nat),gfind k m i=some (j,u)→gfind k (m.modify (j-i) fun e=>(k,v,e.2.2)) i=some (j,v):=by
       intro m
       induction m with
       | nil=>intro i h; simp [gfind] at h
       | cons e r ih=>
         intro i h
         simp only [gfind] at h
         split at h
         · injection h with h
           injection h with h1 h2
           subst h1
           rw [Nat.sub_self]
           simp [gfind]
         · rename_i he
           have hle:=(gfind_some k r (i+1) j u h).1
           rw [show j-i=(j-(i+1))+1 by omega,List.modify_succ_cons,gfind,if_neg he]
           exact ih _ h
     exact ⟨_,h1 m 0 hf⟩
 obtain ⟨e,he⟩:=key
 unfold gget
 rw [he]
end
structure NeedSt (M:List (GEnt (List UInt8))) (c p:Nat):Prop where
 nd:(M.map (·.1)).Nodup
 born:M.map (·.2.2)=List.range M.length
 clock:c=M.length
 cnt:∀x v,gget x M (.int .i64 0)=v→∃n:Nat,n≤p∧v = .int .i64 (n:Int)∧(n=0↔x ∉ M.map (·.1))
theorem gget_other {κ:Type} [BEq κ] [LawfulBEq κ] {k k':κ} (v:Value) (m:List (GEnt κ)) (c:Nat) (z:Value) (h:k'≠k):gget k' (gput k v m c) z=gget k' m z:=by
 have h1:∀(m:List (GEnt κ)) (i:Nat),(gfind k' (m++[(k,v,c)]) i).map (·.2)=(gfind k' m i).map (·.2):=by
   intro m
   induction m with
   | nil=>intro i; simp [gfind,h]
   | cons e r ih=>intro i; simp only [gfind,List.cons_append]; split<;>simp [ih]
 have h2:∀(m:List (GEnt κ)) (i j:Nat),(m[j]?.map (·.1)=some k)→(gfind k' (m.modify j fun e=>(k,v,e.2.2)) i).map (·.2)=(gfind k' m i).map (·.2):=by
   intro m
   induction m with
   | nil=>intro i j hj; simp at hj
   | cons e r ih=>
     intro i j hj
     cases j with
     | zero=>
       have hj2:e.1=k:=by simpa using hj
       have hne:¬(k'==e.1)=true:=by rw [hj2]; simpa using h
       have hne2:¬(k'==k)=true:=by simpa using h
       rw [List.modify_zero_cons,gfind,gfind,if_neg hne,if_neg (show ¬(k'==(k,v,e.2.2).1)=true from hne2)]
     | succ j=>
       rw [List.modify_succ_cons,gfind,gfind]
       split
       · rfl
       · exact ih _ _ (by simpa using hj)
 have h3:(gfind k' (gput k v m c) 0).map (·.2)=(gfind k' m 0).map (·.2):=by
   unfold gput
   cases hf:gfind k m 0 with
   | none=>exact h1 m 0
   | some r=>
     obtain ⟨j,u⟩:=r
     obtain ⟨_,b,hb⟩:=gfind_some k m 0 j u hf
     rw [Nat.sub_zero] at hb
     exact h2 m 0 j (by rw [hb]; rfl)
 unfold gget
 cases ha:gfind k' (gput k v m c) 0 with
 | none=>rw [ha] at h3; cases hb:gfind k' m 0 with | none=>rfl | some r=>rw [hb] at h3; cases h3
 | some q=>rw [ha] at h3; cases hb:gfind k' m 0 with
   | none=>rw [hb] at h3; cases h3
   | some r=>rw [hb] at h3; simp at h3; simp [h3]
theorem NeedSt.put {M:List (GEnt (List UInt8))} {c p n:Nat} {x:List UInt8} (h:NeedSt M c p) (hn:n≤p) (h0:n=0↔x ∉ M.map (·.1)) :
   NeedSt (gput x (.int .i64 ((n+1:Nat):Int)) M c) (gclock x M c) (p+1)∧(gput x (.int .i64 ((n+1:Nat):Int)) M c).map (·.1)=(if n=0 then M.map (·.1)++[x] else M.map (·.1)):=by
 have hcnt:∀y v,gget y (gput x (.int .i64 ((n+1:Nat):Int)) M c) (.int .i64 0)=v→∃k:Nat,k≤p+1∧v = .int .i64 (k:Int)∧(k=0↔y ∉ (if n=0 then M.map (·.1)++[x] else M.map (·.1))):=by
   intro y v hv
   by_cases hy:y=x
   · subst hy
     rw [gget_gput] at hv
     refine ⟨n+1,by omega,hv.symm,?_⟩
     split
     · simp
     · rename_i hne
       exact ⟨fun h=>by omega,fun h2=>absurd (h0.2 h2) hne⟩
   · rw [gget_other _ _ _ _ hy] at hv
     obtain ⟨k,h1,h2,h3⟩:=h.cnt y v hv
     refine ⟨k,by omega,h2,h3.trans ?_⟩
     split
     · simp [hy]
     · rfl
 rcases gput_keys x (.int .i64 ((n+1:Nat):Int)) M c with ⟨h1,h2,h3,h4⟩ | ⟨h1,h2,h3⟩
 · have hne:¬n=0:=fun e=>h0.1 e h1
   rw [if_neg hne] at hcnt ⊢
   have hlen:(gput x (.int .i64 ((n+1:Nat):Int)) M c).length=M.length:=by have:=congrArg List.length h2; simpa using this
   exact ⟨⟨by rw [h2]; exact h.nd,by rw [h3,hlen]; exact h.born,by rw [h4,hlen]; exact h.clock,fun y v hv=>by rw [h2]; exact hcnt y v hv⟩,h2⟩
 · have he:n=0:=h0.2 h1
   rw [if_pos he] at hcnt ⊢
   have hk:(gput x (.int .i64 ((n+1:Nat):Int)) M c).map (·.1)=M.map (·.1)++[x]:=by rw [h2]; simp
   refine ⟨⟨?_,?_,?_,fun y v hv=>by rw [hk]; exact hcnt y v hv⟩,hk⟩
   · rw [hk,List.nodup_append]
     exact ⟨h.nd,by simp,fun a ha b hb e=>by rw [List.mem_singleton] at hb; subst hb; subst e; exact h1 ha⟩
   · rw [h2,List.map_append,h.born,List.length_append,List.length_singleton,List.range_succ,h.clock]; rfl
   · rw [h3,h2,h.clock]; simp
structure NeedW (l:List TMod) (nm:List UInt8) (ds nx:List (List UInt8)):Prop where
 base:∀s ∈ usesN l nm,s ∈ ds∨s ∈ nx
 step:∀b ∈ ds,∀s ∈ usesN l b,s ∈ ds∨s ∈ nx
 sound:∀s,s ∈ ds∨s ∈ nx→Reach l nm s
theorem NeedW.old {l:List TMod} {nm x:List UInt8} {ds r:List (List UInt8)} (h:NeedW l nm ds (x::r)) (hx:x ∈ ds):NeedW l nm ds r:=by
 have key:∀s,s ∈ ds∨s ∈ x::r→s ∈ ds∨s ∈ r:=fun s hs=>by
   rcases hs with hs | hs
   · exact .inl hs
   · rcases List.mem_cons.1 hs with e | hs
     · subst e; exact .inl hx
     · exact .inr hs
 exact ⟨fun s hs=>key s (h.base s hs),fun b hb s hs=>key s (h.step b hb s hs),fun s hs=>h.sound s (hs.imp id (List.mem_cons_of_mem _))⟩
theorem NeedW.new {l:List TMod} {nm x:List UInt8} {ds r:List (List UInt8)} (h:NeedW l nm ds (x::r)):NeedW l nm (ds++[x]) (r++usesN l x):=by
 have key:∀s,s ∈ ds∨s ∈ x::r→s ∈ ds++[x]∨s ∈ r++usesN l x:=fun s hs=>by
   rcases hs with hs | hs
   · exact .inl (List.mem_append_left _ hs)
   · rcases List.mem_cons.1 hs with e | hs
     · subst e; exact .inl (by simp)
     · exact .inr (List.mem_append_left _ hs)
 refine ⟨fun s hs=>key s (h.base s hs),fun b hb s hs=>?_,fun s hs=>?_⟩
 · rcases List.mem_append.1 hb with hb | hb
   · exact key s (h.step b hb s hs)
   · rw [List.mem_singleton] at hb; subst hb
     exact .inr (List.mem_append_right _ hs)
 · rcases hs with hs | hs
   · rcases List.mem_append.1 hs with hs | hs
     · exact h.sound s (.inl hs)
     · rw [List.mem_singleton] at hs; subst hs
       exact h.sound _ (.inr (by simp))
   · rcases List.mem_append.1 hs with hs | hs
     · exact h.sound s (.inr (List.mem_cons_of_mem _ hs))
     · exact .step (h.sound x (.inr (by simp))) hs
theorem NeedW.fin {l:List TMod} {nm:List UInt8} {ds:List (List UInt8)} (h:NeedW l nm ds []) (s:List UInt8):s ∈ ds↔Reach l nm s:=
 ClosedN.iff (S:=fun s=>s ∈ ds) ⟨fun s hs=>(h.base s hs).resolve_right (by simp),fun b hb s hs=>(h.step b hb s hs).resolve_right (by simp),fun s hs=>h.sound s (.inl hs)⟩ s
end Go.Bw
end
section
namespace Go.Bw
open Go
def tab1 (l:List (List UInt8)) (s:Nat):List (GEnt (List UInt8)):=match l with
 | []=>[]
 | x::r=>(x,.int .i64 1,s)::tab1 r (s+1)
theorem tab1_snoc:∀(l:List (List UInt8)) (x:List UInt8) (s:Nat),tab1 (l++[x]) s=tab1 l s++[(x,.int .i64 1,s+l.length)]
 | [],x,s=>rfl
 | y::r,x,s=>by
   rw [List.cons_append,tab1,tab1_snoc r x,tab1,List.cons_append,List.length_cons,show s+1+r.length=s+(r.length+1) by omega]
theorem tab1_find (nm:List UInt8):∀(l:List (List UInt8)) (s i:Nat),(gfind nm (tab1 l s) i).map (·.2)=if l.contains nm=true then some (.int .i64 1) else none
 | [],_,_=>rfl
 | x::r,s,i=>by
   rw [tab1,gfind]
   by_cases h:x=nm
   · subst h; simp
   · rw [if_neg (by simpa using fun e=>h e.symm),tab1_find nm r (s+1) (i+1)]
     have h2:¬nm=x:=fun e=>h e.symm
     simp [h2]
theorem tab1_get (nm:List UInt8) (l:List (List UInt8)):gget nm (tab1 l 0) (.int .i64 0) = .int .i64 (if l.contains nm=true then 1 else 0):=by
 have h:=tab1_find nm l 0 0
 unfold gget
 cases hf:gfind nm (tab1 l 0) 0 with
 | none=>rw [hf] at h; split at h<;>simp_all
 | some r=>rw [hf] at h; split at h<;>simp_all
theorem tab1_put {x:List UInt8} {l:List (List UInt8)} (h:l.contains x=false):gput x (.int .i64 1) (tab1 l 0) l.length=tab1 (l++[x]) 0∧gclock x (tab1 l 0) l.length=(l++[x]).length:=by
 have hf:=tab1_find x l 0 0
 rw [if_neg (by rw [h]; decide)] at hf
 have h0:gfind x (tab1 l 0) 0=none:=by cases hg:gfind x (tab1 l 0) 0 with | none=>rfl | some r=>rw [hg] at hf; cases hf
 unfold gput gclock
 rw [h0,tab1_snoc]
 simp
structure UTab (ns:List (List UInt8)) (i:Nat) (M:List (GEnt (List UInt8))) (c:Nat):Prop where
 mem:∀s,∃v:Nat,gget s M (.int .i64 0) = .int .i64 (v:Int)∧(v=0↔s ∉ ns.take i)
 tab:((ns.take i).Nodup∧M=tabL (ns.take i) 0∧c=i)∨(¬(ns.take i).Nodup∧M.length<i)
theorem uTab_nil (ns:List (List UInt8)):UTab ns 0 [] 0:=⟨fun s=>⟨0,rfl,by simp⟩,.inl ⟨by simp,rfl,rfl⟩⟩
theorem UTab.old {ns:List (List UInt8)} {i c:Nat} {M:List (GEnt (List UInt8))} {x:List UInt8} (h:UTab ns i M c) (hx:ns[i]? = some x) (hm:x ∈ ns.take i):UTab ns (i+1) M c:=by
 have hT:ns.take (i+1)=ns.take i++[x]:=by rw [List.take_add_one,hx]; rfl
 refine ⟨fun s=>?_,.inr ⟨fun hn=>?_,?_⟩⟩
 · obtain ⟨v,h1,h2⟩:=h.mem s
   refine ⟨v,h1,h2.trans ?_⟩
   rw [hT,List.mem_append,List.mem_singleton]
   constructor
   · rintro h3 (h4 | h4)
     · exact h3 h4
     · subst h4; exact h3 hm
   · exact fun h3 h4=>h3 (.inl h4)
 · rw [hT,List.nodup_append] at hn
   exact hn.2.2 x hm x (by simp) O
 · have hlt:=(List.getElem?_eq_some_iff.1 hx).1
   rcases h.tab with ⟨_,rfl,_⟩ | ⟨_,h3⟩
   · rw [tabL_len]; simp; omega
   · omega
theorem UTab.new {ns:List (List UInt8)} {i c:Nat} {M:List (GEnt (List UInt8))} {x:List UInt8} (h:UTab ns i M c) (hx:ns[i]? = some x) (hm:x ∉ ns.take i):UTab ns (i+1) (gput x (.int .i64 ((i+1:Nat):Int)) M c) (gclock x M c):=by
 have hT:ns.take (i+1)=ns.take i++[x]:=by rw [List.take_add_one,hx]; rfl
 have hlt:=(List.getElem?_eq_some_iff.1 hx).1
 have hl:(ns.take i).length=i:=by simp; omega
 refine ⟨fun s=>?_,?_⟩
 · by_cases e:s=x
   · subst e
     exact ⟨i+1,gget_gput s _ M c _,by rw [hT]; simp⟩
   · obtain ⟨v,h1,h2⟩:=h.mem s
     refine ⟨v,by rw [gget_other _ M c _ e]; exact h1,h2.trans ?_⟩
     rw [hT]; simp [e]
 · rcases h.tab with ⟨h1,rfl,rfl⟩ | ⟨h1,h3⟩
   · left
     have hp:=tabL_put (l:=ns.take c) (x:=x) hm
     rw [hl] at hp
     refine ⟨?_,by rw [hp.1,hT],by rw [hp.2]; simp; omega⟩
     rw [hT,List.nodup_append]
     refine ⟨h1,by simp,fun a ha b hb e=>?_⟩
     rw [List.mem_singleton] at hb; subst hb; subst e; exact hm ha
   · right
     refine ⟨fun hn=>h1 ?_,?_⟩
     · rw [hT,List.nodup_append] at hn; exact hn.1
     · have:=gput_len x (.int .i64 ((i+1:Nat):Int)) M c
       omega
theorem usesK_no {nm s:List UInt8} {us:List (List UInt8)} {i:Nat} (h:us[i]? = some s) (hx:(nm::us.take i).contains s=true∨nameB s=false):usesK nm us=false:=by
 unfold usesK
 rcases hx with hx | hx
 · have h2:twiceB (nm::us)=true:=by
     have hn:¬(nm::us).Nodup:=fun hn=>by
       have e:nm::us=(nm::us.take i)++us.drop i:=by simp
       rw [e,List.nodup_append] at hn
       refine hn.2.2 s (by simpa using hx) s ?_ O
       have:us.drop i=s::us.drop (i+1):=by
         rw [List.drop_eq_getElem_cons (List.getElem?_eq_some_iff.1 h).1,(List.getElem?_eq_some_iff.1 h).2]
       rw [this]; simp
     rw [nodup_twice] at hn
     simpa using hn
   rw [h2]; rfl
 · rw [all_hit h hx]; simp
theorem usesK_yes {nm:List UInt8} {us:List (List UInt8)} (h1:(nm::us).Nodup) (h2:us.all nameB=true):usesK nm us=true:=by
 unfold usesK; rw [nodup_twice.1 h1,h2]; rfl
end Go.Bw
end
section
namespace Go.Bw
open Go
structure Wm where
 data:List Int
 inp:List Int
 out:List Int
 ticks:Nat
 calls:Nat
inductive Rz (σ α:Type) where
 | ok (a:α) (s:σ)
 | ov (e:Int) (w:Wm)
def Rz.bind {σ α β:Type} (r:Rz σ α) (f:α→σ→Rz σ β):Rz σ β:=match r with
 | .ok a s=>f a s
 | .ov e w=>.ov e w
structure Fm where
 loc:List Int
 val:Int
 w:Wm
structure Env where
 l:List TUnit
 uses:List (List Nat)
 bases:List Nat
 lim:Nat
def Env.mod (P:Env) (u:Nat) (m:Int):Nat:=(((P.uses[u]?).getD [])[m.toNat]?).getD 0
def Env.at_ (P:Env) (u:Nat) (m pl:Int):Nat:=(P.bases[P.mod u m]?).getD 0+pl.toNat
def tickW (P:Env) (w:Wm):Rz Wm Unit:=if w.ticks=P.lim then .ov 3 w else .ok () { w with ticks:=w.ticks+1 }
abbrev Ev:=List Int→Wm→Rz Wm Int
abbrev Cl:=Nat→List Int→List TAct→Wm→Rz Wm Int
def Rz.fr {α:Type} (f:Fm) (r:Rz Wm α):Rz Fm α:=match r with
 | .ok a w=>.ok a { f with w:=w }
 | .ov e w=>.ov e w
def basesU:List TUnit→Nat→List Nat
 | [],_=>[]
 | u::r,s=>s::basesU r (s+u.data.toNat)
def usesU (l:List TUnit):List (List Nat):=(List.range l.length).map fun n=>n::((l[n]?.map (·.uses)).getD []).map fun s=>(idxOf s (namesU l) 0).getD 0
structure Res where
 fin:Int
 out:List Int
 data:List Int
 ticks:Int
end Go.Bw
end
section
namespace Go.Bw
open Go
structure ProgOk (l:List TUnit):Prop where
 few:1≤l.length∧l.length≤4
 ahead:aheadB l=true
 nd:(namesU l).Nodup
 data:dataOk l 512=true
 fine:∀u ∈ l,fineU u (usesKn l u)=true
theorem checkUs_zero {l:List TUnit}:checkUs l=0↔ProgOk l:=by
 unfold checkUs
 constructor
 · intro h
   split at h
   · cases h
   · rename_i h1
     split at h
     · cases h
     · rename_i h2
       split at h
       · cases h
       · rename_i h3
         split at h
         · cases h
         · rename_i h4
           split at h
           · rename_i h5
             refine ⟨by simp at h1; omega,by simpa using h2,nodup_twice.2 (by simpa using h3),by simpa using h4,fun u hu=>List.all_eq_true.1 h5 u hu⟩
           · cases h
 · intro h
   have:=h.few
   rw [if_neg (by simp; omega),if_neg (by rw [h.ahead]; decide),if_neg (by rw [nodup_twice.1 h.nd]; decide),if_neg (by rw [h.data]; decide),if_pos (List.all_eq_true.2 fun u hu=>h.fine u hu)]
theorem fine_parts {u:TUnit} {kn:List KnW} (h:fineU u kn=true):(∀p ∈ u.parts,partOk (knM u::kn) p=true)∧actsK (knM u::kn) 0 u.main 1=true∧headC u=false∧usesK u.nm u.uses=true:=by
 unfold fineU at h
 obtain ⟨h1,h2⟩:=Bool.and_eq_true_iff.1 h
 obtain ⟨h2,h3⟩:=Bool.and_eq_true_iff.1 h2
 obtain ⟨h3,h4⟩:=Bool.and_eq_true_iff.1 h3
 exact ⟨fun p hp=>List.all_eq_true.1 h3 p hp,h4,by simpa using h2,h1⟩
theorem part_fine {kn:List KnW} {p:TPart} (h:partOk kn p=true):0≤p.params∧p.params≤3∧0≤p.locals∧p.locals≤4∧actsK kn (p.params+p.locals) p.body 1=true:=by
 unfold partOk at h
 obtain ⟨h1,h2⟩:=Bool.and_eq_true_iff.1 h
 have h1:(((decide (p.params<0)||decide (3<p.params))||decide (p.locals<0))||decide (4<p.locals))=false:=by simpa using h1
 simp only [Bool.or_eq_false_iff,decide_eq_false_iff_not] at h1
 exact ⟨by omega,by omega,by omega,by omega,h2⟩
end Go.Bw
end
section
namespace Go.Bw
open Go Go.RowKit
open Go.ChangeShapes Go.WideShapes Go.ChangeAt Go.RowKit Go.Joins Go.Deep
mutual
def wNd:TNode→Nat
 | .mk _ _ _ _ args=>1+wNds args
def wNds:List TNode→Nat
 | []=>0
 | x::r=>wNd x+wNds r
end
mutual
def wAc:TAct→Nat
 | .mk _ _ _ _ args body other=>1+wNds args+wAcs body+wAcs other
def wAcs:List TAct→Nat
 | []=>0
 | x::r=>wAc x+wAcs r
end
def wPt (p:TPart):Nat:=1+wAcs p.body
def wPts:List TPart→Nat
 | []=>0
 | p::r=>wPt p+wPts r
def wUn (u:TUnit):Nat:=1+u.nm.length+wN u.uses+wPts u.parts+wAcs u.main
def wUns:List TUnit→Nat
 | []=>0
 | u::r=>wUn u+wUns r
def rdUn (n:Nat) (H:View) (b o:Nat) (u:TUnit):Prop:=∃r:UAt,RdC H b o (unitV u r)∧RdU n n H r u
structure UnitTy (P:Program) (tN tA tP tU tNs tAs tPs tTs:TypeId) (e s p m:Array Field) (tI tT:TypeId):Prop where
 uI:P.underlying tI=some (.int .i64)
 uT:P.underlying tT=some .string
 cT:P.cellsOf tT=1
 uN:P.underlying tN=some (.struct e)
 rN:(inRow P 0 e.toList&&Nat.beq (P.cellsOf tN) e.size)=true
 fN:e.map (·.type) = #[tI,tI,tI,tI,tNs]
 uNs:P.underlying tNs=some (.slice tN)
 uA:P.underlying tA=some (.struct s)
 rA:(inRow P 0 s.toList&&Nat.beq (P.cellsOf tA) s.size)=true
 fA:s.map (·.type) = #[tI,tI,tI,tI,tNs,tAs,tAs]
 uAs:P.underlying tAs=some (.slice tA)
 uP:P.underlying tP=some (.struct p)
 rP:(inRow P 0 p.toList&&Nat.beq (P.cellsOf tP) p.size)=true
 fP:p.map (·.type) = #[tI,tI,tAs]
 uPs:P.underlying tPs=some (.slice tP)
 uTs:P.underlying tTs=some (.slice tT)
 uU:P.underlying tU=some (.struct m)
 rU:(inRow P 0 m.toList&&Nat.beq (P.cellsOf tU) m.size)=true
 fU:m.map (·.type) = #[tT,tTs,tI,tPs,tAs]
section
variable {P:Program} {H:Type} {enc:TypeId×Value→H} {w:World} {base:Nat} {spare:Nat→Bool} {held:Bool} (K:Bulk H)
variable {tN tA tP tU tNs tAs tPs tTs tI tT tUs:TypeId} {e s p m:Array Field}
theorem node_x (T:UnitTy P tN tA tP tU tNs tAs tPs tTs e s p m tI tT) (hsp:∀b,spare b=true):∀(fuel:Nat) (cs:List Value) (x:DataW H×List MemPlace),DataW.trod enc P w base spare held fuel tN cs=some x→∃(y:TNode) (a:Option Addr) (c:Nat),cs=nodeV y a c∧Sl (RdN fuel) 5 (hv w) a c y.args∧wNd y≤K.B x.1:=by
 intro fuel
 induction fuel using Nat.strongRecOn with
 | _ fuel ih=>
 intro cs x h
 obtain ⟨hl,ys,n,hn,hx,hyl,hf⟩:=fields_x T.uN T.rN h
 have hsz:=size_of T.fN
 simp at hsz
 obtain ⟨f0,g0,q0⟩:=fld_of T.fN (j:=0) rfl
 obtain ⟨f1,g1,q1⟩:=fld_of T.fN (j:=1) rfl
 obtain ⟨f2,g2,q2⟩:=fld_of T.fN (j:=2) rfl
 obtain ⟨f3,g3,q3⟩:=fld_of T.fN (j:=3) rfl
 obtain ⟨f4,g4,q4⟩:=fld_of T.fN (j:=4) rfl
 obtain ⟨v0,y0,i0,j0,t0⟩:=hf 0 f0 g0
 obtain ⟨v1,y1,i1,j1,t1⟩:=hf 1 f1 g1
 obtain ⟨v2,y2,i2,j2,t2⟩:=hf 2 f2 g2
 obtain ⟨v3,y3,i3,j3,t3⟩:=hf 3 f3 g3
 obtain ⟨v4,y4,i4,j4,t4⟩:=hf 4 f4 g4
 rw [q0] at t0; rw [q1] at t1; rw [q2] at t2; rw [q3] at t3; rw [q4] at t4
 obtain ⟨op,rfl⟩:=int_x T.uI t0
 obtain ⟨nn,rfl⟩:=int_x T.uI t1
 obtain ⟨mm,rfl⟩:=int_x T.uI t2
 obtain ⟨pp,rfl⟩:=int_x T.uI t3
 obtain ⟨a,c,args,rfl,hsl,hw⟩:=slice_x (rd:=RdN fuel) K wNd wNds rfl (fun _ _=>rfl) T.uNs ((row_cells T.rN).trans hsz) (by omega) hsp (fun n' cs' y hn' ht _=>by
   obtain ⟨z,a,c,rfl,hs,hz⟩:=ih n' (by omega) cs' y ht
   refine ⟨z,fun b o hr=>?_,hz⟩
   obtain ⟨k,rfl⟩:∃k,fuel=k+1:=⟨fuel-1,by omega⟩
   exact ⟨a,c,hr,hs.imp fun b o y hy=>RdN_mono (VLe.refl _) (by omega) b o y hy⟩) t4
 refine ⟨TNode.mk op nn mm pp args,a,c,?_,hsl,?_⟩
 · match cs,hl.trans hsz with
   | [c0,c1,c2,c3,c4],_=>
     simp at i0 i1 i2 i3 i4
     subst i0 i1 i2 i3 i4
     rfl
 · match ys,hyl.trans hsz with
   | [d0,d1,d2,d3,d4],_=>
     simp at j0 j1 j2 j3 j4
     subst j0 j1 j2 j3 j4
     rw [hx]
     simp only [List.map_cons,List.map_nil,K.agg,K.cons,K.nil,wNd]
     omega
theorem act_x (T:UnitTy P tN tA tP tU tNs tAs tPs tTs e s p m tI tT) (hsp:∀b,spare b=true):∀(fuel:Nat) (cs:List Value) (x:DataW H×List MemPlace),DataW.trod enc P w base spare held fuel tA cs=some x→∃(y:TAct) (q:AAt),cs=actV y q∧Sl (RdN fuel) 5 (hv w) q.s1.1 q.s1.2 y.args∧Sl (RdA fuel fuel) 7 (hv w) q.s2.1 q.s2.2 y.body∧Sl (RdA fuel fuel) 7 (hv w) q.s3.1 q.s3.2 y.other∧wAc y≤K.B x.1:=by
 intro fuel
 induction fuel using Nat.strongRecOn with
 | _ fuel ih=>
 intro cs x h
 obtain ⟨hl,ys,n,hn,hx,hyl,hf⟩:=fields_x T.uA T.rA h
 have hsz:=size_of T.fA
 simp at hsz
 obtain ⟨f0,g0,q0⟩:=fld_of T.fA (j:=0) rfl
 obtain ⟨f1,g1,q1⟩:=fld_of T.fA (j:=1) rfl
 obtain ⟨f2,g2,q2⟩:=fld_of T.fA (j:=2) rfl
 obtain ⟨f3,g3,q3⟩:=fld_of T.fA (j:=3) rfl
 obtain ⟨f4,g4,q4⟩:=fld_of T.fA (j:=4) rfl
 obtain ⟨f5,g5,q5⟩:=fld_of T.fA (j:=5) rfl
 obtain ⟨f6,g6,q6⟩:=fld_of T.fA (j:=6) rfl
 obtain ⟨v0,y0,i0,j0,t0⟩:=hf 0 f0 g0
 obtain ⟨v1,y1,i1,j1,t1⟩:=hf 1 f1 g1
 obtain ⟨v2,y2,i2,j2,t2⟩:=hf 2 f2 g2
 obtain ⟨v3,y3,i3,j3,t3⟩:=hf 3 f3 g3
 obtain ⟨v4,y4,i4,j4,t4⟩:=hf 4 f4 g4
 obtain ⟨v5,y5,i5,j5,t5⟩:=hf 5 f5 g5
 obtain ⟨v6,y6,i6,j6,t6⟩:=hf 6 f6 g6
 rw [q0] at t0; rw [q1] at t1; rw [q2] at t2; rw [q3] at t3; rw [q4] at t4; rw [q5] at t5; rw [q6] at t6
 have hszN:=size_of T.fN
 simp at hszN
 have hS:∀n' (cs':List Value) (y:DataW H×List MemPlace),n'<n→DataW.trod enc P w base spare held n' tA cs'=some y→cs'.length=7→∃z:TAct,(∀b o,RdC (hv w) b o cs'→RdA fuel fuel (hv w) b o z)∧wAc z≤K.B y.1:=fun n' cs' y hn' ht _=>by
   obtain ⟨z,q,rfl,h1,h2,h3,hz⟩:=ih n' (by omega) cs' y ht
   refine ⟨z,fun b o hr=>?_,hz⟩
   obtain ⟨k,rfl⟩:∃k,fuel=k+1:=⟨fuel-1,by omega⟩
   exact ⟨q,hr,h1.imp fun b o y hy=>RdN_mono (VLe.refl _) (by omega) b o y hy,h2.imp fun b o y hy=>RdA_mono (VLe.refl _) (by omega) (by omega) b o y hy,h3.imp fun b o y hy=>RdA_mono (VLe.refl _) (by omega) (by omega) b o y hy⟩
 obtain ⟨op,rfl⟩:=int_x T.uI t0
 obtain ⟨nn,rfl⟩:=int_x T.uI t1
 obtain ⟨mm,rfl⟩:=int_x T.uI t2
 obtain ⟨pp,rfl⟩:=int_x T.uI t3
 obtain ⟨a1,c1,args,rfl,hs1,w1⟩:=slice_x (rd:=RdN fuel) K wNd wNds rfl (fun _ _=>rfl) T.uNs ((row_cells T.rN).trans hszN) (by omega) hsp (fun n' cs' y hn' ht _=>by
   obtain ⟨z,a,c,rfl,hs,hz⟩:=node_x K T hsp n' cs' y ht
   refine ⟨z,fun b o hr=>?_,hz⟩
   obtain ⟨k,rfl⟩:∃k,fuel=k+1:=⟨fuel-1,by omega⟩
   exact ⟨a,c,hr,hs.imp fun b o y hy=>RdN_mono (VLe.refl _) (by omega) b o y hy⟩) t4
 obtain ⟨a2,c2,body,rfl,hs2,w2⟩:=slice_x (rd:=RdA fuel fuel) K wAc wAcs rfl (fun _ _=>rfl) T.uAs ((row_cells T.rA).trans hsz) (by omega) hsp hS t5
 obtain ⟨a3,c3,other,rfl,hs3,w3⟩:=slice_x (rd:=RdA fuel fuel) K wAc wAcs rfl (fun _ _=>rfl) T.uAs ((row_cells T.rA).trans hsz) (by omega) hsp hS t6
 refine ⟨TAct.mk op nn mm pp args body other,⟨(a1,c1),(a2,c2),(a3,c3)⟩,?_,hs1,hs2,hs3,?_⟩
 · match cs,hl.trans hsz with
   | [c0,c1,c2,c3,c4,c5,c6],_=>
     simp at i0 i1 i2 i3 i4 i5 i6
     subst i0 i1 i2 i3 i4 i5 i6
     rfl
 · match ys,hyl.trans hsz with
   | [d0,d1,d2,d3,d4,d5,d6],_=>
     simp at j0 j1 j2 j3 j4 j5 j6
     subst j0 j1 j2 j3 j4 j5 j6
     rw [hx]
     simp only [List.map_cons,List.map_nil,K.agg,K.cons,K.nil,wAc]
     omega
theorem acts_x (T:UnitTy P tN tA tP tU tNs tAs tPs tTs e s p m tI tT) (hsp:∀b,spare b=true) {fuel:Nat} {v:Value} {x:DataW H×List MemPlace} (h:DataW.trod enc P w base spare held fuel tAs [v]=some x):∃(a:Option Addr) (c:Nat) (l:List TAct),v = .slice a l.length c∧Sl (RdA fuel fuel) 7 (hv w) a c l∧wAcs l≤K.B x.1:=by
 have hsz:=size_of T.fA
 simp at hsz
 refine slice_x (rd:=RdA fuel fuel) K wAc wAcs O (fun _ _=>rfl) T.uAs ((row_cells T.rA).trans hsz) (by omega) hsp (fun n' cs' y hn' ht _=>?_) h
 obtain ⟨z,q,rfl,h1,h2,h3,hz⟩:=act_x K T hsp n' cs' y ht
 refine ⟨z,fun b o hr=>?_,hz⟩
 obtain ⟨k,rfl⟩:∃k,fuel=k+1:=⟨fuel-1,by omega⟩
 exact ⟨q,hr,h1.imp fun b o y hy=>RdN_mono (VLe.refl _) (by omega) b o y hy,h2.imp fun b o y hy=>RdA_mono (VLe.refl _) (by omega) (by omega) b o y hy,h3.imp fun b o y hy=>RdA_mono (VLe.refl _) (by omega) (by omega) b o y hy⟩
theorem txts_x (T:UnitTy P tN tA tP tU tNs tAs tPs tTs e s p m tI tT) (hsp:∀b,spare b=true) {fuel:Nat} {v:Value} {x:DataW H×List MemPlace} (h:DataW.trod enc P w base spare held fuel tTs [v]=some x):∃(a:Option Addr) (c:Nat) (l:List (List UInt8)),v = .slice a l.length c∧Sl rdStr 1 (hv w) a c l∧wN l≤K.B x.1:=by
 refine slice_x (rd:=rdStr) K (fun s=>1+s.length) wN O (fun _ _=>rfl) T.uTs T.cT (by omega) hsp (fun n' cs' y hn' ht hl=>?_) h
 match cs',hl with
 | [u],_=>
   obtain ⟨l,rfl,hb⟩:=str_x K T.uT ht
   exact ⟨l,fun b o hr=>hr,by omega⟩
theorem part_x (T:UnitTy P tN tA tP tU tNs tAs tPs tTs e s p m tI tT) (hsp:∀b,spare b=true) {fuel:Nat} {cs:List Value} {x:DataW H×List MemPlace} (h:DataW.trod enc P w base spare held fuel tP cs=some x):∃(y:TPart) (q:Option Addr×Nat),cs=partV y q∧Sl (RdA fuel fuel) 7 (hv w) q.1 q.2 y.body∧wPt y≤K.B x.1:=by
 obtain ⟨hl,ys,n,hn,hx,hyl,hf⟩:=fields_x T.uP T.rP h
 have hsz:=size_of T.fP
 simp at hsz
 obtain ⟨f0,g0,q0⟩:=fld_of T.fP (j:=0) rfl
 obtain ⟨f1,g1,q1⟩:=fld_of T.fP (j:=1) rfl
 obtain ⟨f2,g2,q2⟩:=fld_of T.fP (j:=2) rfl
 obtain ⟨v0,y0,i0,j0,t0⟩:=hf 0 f0 g0
 obtain ⟨v1,y1,i1,j1,t1⟩:=hf 1 f1 g1
 obtain ⟨v2,y2,i2,j2,t2⟩:=hf 2 f2 g2
 rw [q0] at t0; rw [q1] at t1; rw [q2] at t2
 obtain ⟨pp,rfl⟩:=int_x T.uI t0
 obtain ⟨ll,rfl⟩:=int_x T.uI t1
 obtain ⟨a,c,bd,rfl,h1,w1⟩:=acts_x K T hsp t2
 refine ⟨⟨pp,ll,bd⟩,(a,c),?_,h1.imp fun b o y hy=>RdA_mono (VLe.refl _) (by omega) (by omega) b o y hy,?_⟩
 · match cs,hl.trans hsz with
   | [c0,c1,c2],_=>
     simp at i0 i1 i2
     subst i0 i1 i2
     rfl
 · match ys,hyl.trans hsz with
   | [d0,d1,d2],_=>
     simp at j0 j1 j2
     subst j0 j1 j2
     rw [hx]
     simp only [List.map_cons,List.map_nil,K.agg,K.cons,K.nil,wPt]
     omega
theorem unit_x (T:UnitTy P tN tA tP tU tNs tAs tPs tTs e s p m tI tT) (hsp:∀b,spare b=true) {fuel:Nat} {cs:List Value} {x:DataW H×List MemPlace} (h:DataW.trod enc P w base spare held fuel tU cs=some x):∃(y:TUnit) (r:UAt),cs=unitV y r∧RdU fuel fuel (hv w) r y∧wUn y≤K.B x.1:=by
 obtain ⟨hl,ys,n,hn,hx,hyl,hf⟩:=fields_x T.uU T.rU h
 have hsz:=size_of T.fU
 simp at hsz
 obtain ⟨f0,g0,q0⟩:=fld_of T.fU (j:=0) rfl
 obtain ⟨f1,g1,q1⟩:=fld_of T.fU (j:=1) rfl
 obtain ⟨f2,g2,q2⟩:=fld_of T.fU (j:=2) rfl
 obtain ⟨f3,g3,q3⟩:=fld_of T.fU (j:=3) rfl
 obtain ⟨f4,g4,q4⟩:=fld_of T.fU (j:=4) rfl
 obtain ⟨v0,y0,i0,j0,t0⟩:=hf 0 f0 g0
 obtain ⟨v1,y1,i1,j1,t1⟩:=hf 1 f1 g1
 obtain ⟨v2,y2,i2,j2,t2⟩:=hf 2 f2 g2
 obtain ⟨v3,y3,i3,j3,t3⟩:=hf 3 f3 g3
 obtain ⟨v4,y4,i4,j4,t4⟩:=hf 4 f4 g4
 rw [q0] at t0; rw [q1] at t1; rw [q2] at t2; rw [q3] at t3; rw [q4] at t4
 have hszP:=size_of T.fP
 simp at hszP
 obtain ⟨nm,rfl,b0⟩:=str_x K T.uT t0
 obtain ⟨a1,c1,us,rfl,h1,w1⟩:=txts_x K T hsp t1
 obtain ⟨dd,rfl⟩:=int_x T.uI t2
 obtain ⟨a2,c2,ps,rfl,h2,w2⟩:=slice_x (rd:=RdPt fuel fuel) K wPt wPts rfl (fun _ _=>rfl) T.uPs ((row_cells T.rP).trans hszP) (by omega) hsp (fun n' cs' y hn' ht _=>by
   obtain ⟨z,q,rfl,h1,hz⟩:=part_x K T hsp ht
   exact ⟨z,fun b o hr=>⟨q,hr,h1.imp fun b o y hy=>RdA_mono (VLe.refl _) (by omega) (by omega) b o y hy⟩,hz⟩) t3
 obtain ⟨a3,c3,mn,rfl,h3,w3⟩:=acts_x K T hsp t4
 refine ⟨⟨nm,us,dd,ps,mn⟩,⟨(a1,c1),(a2,c2),(a3,c3)⟩,?_,⟨h1,h2,h3.imp fun b o y hy=>RdA_mono (VLe.refl _) (by omega) (by omega) b o y hy⟩,?_⟩
 · match cs,hl.trans hsz with
   | [c0,c1,c2,c3,c4],_=>
     simp at i0 i1 i2 i3 i4
     subst i0 i1 i2 i3 i4
     rfl
 · match ys,hyl.trans hsz with
   | [d0,d1,d2,d3,d4],_=>
     simp at j0 j1 j2 j3 j4
     subst j0 j1 j2 j3 j4
     rw [hx]
     simp only [List.map_cons,List.map_nil,K.agg,K.cons,K.nil,wUn]
     omega
theorem open_units (T:UnitTy P tN tA tP tU tNs tAs tPs tTs e s p m tI tT) (hsp:∀b,spare b=true) (uUs:P.underlying tUs=some (.slice tU)) {r:_root_.Go.Reach} {b0:Nat} {v:Value} {x:DataW H} {pl:List MemPlace} (hval:Value.okWide P w r b0 tUs v) (h:DataW.Trod enc P w base spare held tUs v x pl) :
   ∃(a:Option Addr) (c n:Nat) (l:List TUnit),v = .slice a l.length c∧Sl (rdUn n) 5 (hv w) a c l∧wUns l≤K.B x:=by
 obtain ⟨a,k,c,rfl⟩:=okWide_slice uUs hval
 obtain ⟨fuel,h⟩:=h
 have hsz:=size_of T.fU
 simp at hsz
 obtain ⟨a,c,l,h1,h2,h3⟩:=slice_x (rd:=rdUn fuel) K wUn wUns rfl (fun _ _=>rfl) uUs ((row_cells T.rU).trans hsz) (by omega) hsp (fun n' cs' y hn' ht _=>by
   obtain ⟨z,q,rfl,hr,hw⟩:=unit_x K T hsp ht
   exact ⟨z,fun b o hc=>⟨q,hc,hr.uses,hr.parts.imp fun b o x hx=>RdPt_mono (VLe.refl _) (by omega) (by omega) b o x hx,hr.main.imp fun b o x hx=>RdA_mono (VLe.refl _) (by omega) (by omega) b o x hx⟩,hw⟩) h
 exact ⟨a,c,fuel,l,h1,h2,h3⟩
theorem wUns_mem:∀{l:List TUnit} {u:TUnit},u ∈ l→wUn u≤wUns l
 | x::r,u,h=>by
   rcases List.mem_cons.1 h with e | h
   · subst e; exact Nat.le_add_right _ _
   · have:=wUns_mem h; show wUn u≤wUn x+wUns r; omega
end
end Go.Bw
end
section
namespace Go.Bw
open Go
structure InsG where
 op:Int
 a:Int
 b:Int
structure FixE where
 at_:Int
 kind:Int
 m:Int
structure Gs where
 code:List InsG
 fix:List FixE
abbrev Gk:=Gs→Gs
def putG (l:List InsG) (g:Gs):Gs:={ g with code:=g.code++l }
def fixG (i:InsG) (kind m:Int) (g:Gs):Gs:=⟨g.code++[i],g.fix++[⟨(g.code.length:Int),kind,m⟩]⟩
def landG (n:Nat) (g:Gs):Gs:={ g with code:=g.code.modify n fun i=>{ i with a:=(g.code.length:Int) } }
def kidG (ks:List Gk) (i:Nat):Gk:=(ks[i]?).getD id
def allG (ks:List Gk) (g:Gs):Gs:=ks.foldl (fun g k=>k g) g
def andG (k0 k1:Gk) (g:Gs):Gs:=
 let g1:=k0 g
 let g3:=putG [⟨22,0,0⟩] (k1 (fixG ⟨12,0,0⟩ 1 0 g1))
 landG g3.code.length (putG [⟨1,0,0⟩] (landG g1.code.length (fixG ⟨11,0,0⟩ 1 0 g3)))
def orG (k0 k1:Gk) (g:Gs):Gs:=
 let g1:=k0 g
 let g3:=putG [⟨1,1,0⟩] (fixG ⟨12,0,0⟩ 1 0 g1)
 landG g3.code.length (putG [⟨22,0,0⟩] (k1 (landG g1.code.length (fixG ⟨11,0,0⟩ 1 0 g3))))
def nodeGo (op n m pl:Int) (ks:List Gk) (g:Gs):Gs:=
 if op=1 then putG [⟨1,n,0⟩] g
 else if op=2 then putG [⟨18,0,0⟩] g
 else if op=16 then putG [⟨2,pl,0⟩] g
 else if op=3 then fixG ⟨4,pl,0⟩ 3 m g
 else if op=4 then putG [⟨7,0,0⟩] (fixG ⟨6,pl,n⟩ 3 m (kidG ks 0 g))
 else if op=5 then fixG ⟨13,pl,0⟩ 2 m (allG ks g)
 else if op=7 then andG (kidG ks 0) (kidG ks 1) g
 else if op=8 then orG (kidG ks 0) (kidG ks 1) g
 else if op=6 then putG [⟨9,0,0⟩] (allG ks g)
 else putG [⟨10,op,0⟩] (allG ks g)
mutual
def nodeG:TNode→Gs→Gs
 | .mk op n m pl args,g=>nodeGo op n m pl (kidsG args) g
def kidsG:List TNode→List Gk
 | []=>[]
 | x::r=>(fun g=>nodeG x g)::kidsG r
end
theorem nodeG_eq (x:TNode) (g:Gs):nodeG x g=nodeGo x.op x.n x.m x.pl (kidsG x.args) g:=by cases x; rw [nodeG]; rfl
theorem kidsG_map:∀l,kidsG l=l.map nodeG
 | []=>by rw [kidsG]; rfl
 | x::r=>by rw [kidsG,kidsG_map r]; rfl
def nodesG (l:List TNode) (g:Gs):Gs:=l.foldl (fun g x=>nodeG x g) g
theorem allG_nodes (l:List TNode) (g:Gs):allG (kidsG l) g=nodesG l g:=by rw [kidsG_map]; unfold allG nodesG; rw [List.foldl_map]
theorem nodesG_take {l:List TNode} {i:Nat} {x:TNode} (h:l[i]? = some x) (g:Gs):nodesG (l.take (i+1)) g=nodeG x (nodesG (l.take i) g):=by
 unfold nodesG; rw [List.take_add_one,h]; simp
def ifG (k0 body other:Gk) (ol:Nat) (g:Gs):Gs:=
 let g1:=k0 g
 let g3:=body (fixG ⟨12,0,0⟩ 1 0 g1)
 if 0<ol then landG g3.code.length (other (landG g1.code.length (fixG ⟨11,0,0⟩ 1 0 g3))) else landG g1.code.length g3
def whileG (k0 body:Gk) (g:Gs):Gs:=
 let g1:=k0 g
 landG g1.code.length (fixG ⟨11,(g.code.length:Int),0⟩ 1 0 (body (putG [⟨16,0,0⟩] (fixG ⟨12,0,0⟩ 1 0 g1))))
def actGo (op n m pl:Int) (ks:List Gk) (body other:Gk) (ol:Nat) (g:Gs):Gs:=
 if op=1 then (if m<0 then putG [⟨3,pl,0⟩] (kidG ks 0 g) else fixG ⟨5,pl,0⟩ 3 m (kidG ks 0 g))
 else if op=2 then putG [⟨8,0,0⟩] (kidG ks 1 (fixG ⟨6,pl,n⟩ 3 m (kidG ks 0 g)))
 else if op=3 then putG [⟨17,0,0⟩] (fixG ⟨13,pl,0⟩ 2 m (allG ks g))
 else if op=4 then ifG (kidG ks 0) body other ol g
 else if op=5 then whileG (kidG ks 0) body g
 else if op=6 then putG [⟨15,0,0⟩] (kidG ks 0 g)
 else if op=7 then putG [⟨19,0,0⟩] (kidG ks 0 g)
 else g
mutual
def actG:TAct→Gs→Gs
 | .mk op n m pl args body other,g=>actGo op n m pl (kidsG args) (fun g=>actsG body g) (fun g=>actsG other g) other.length g
def actsG:List TAct→Gs→Gs
 | [],g=>g
 | x::r,g=>actsG r (actG x g)
end
theorem actG_eq (x:TAct) (g:Gs):actG x g=actGo x.op x.n x.m x.pl (kidsG x.args) (fun g=>actsG x.body g) (fun g=>actsG x.other g) x.other.length g:=by cases x; rw [actG]; rfl
theorem actsG_app:∀(a b:List TAct) (g:Gs),actsG (a++b) g=actsG b (actsG a g)
 | [],b,g=>by rw [actsG]; rfl
 | x::r,b,g=>by rw [List.cons_append,actsG,actsG_app r b,actsG]
theorem actsG_take {l:List TAct} {i:Nat} {x:TAct} (h:l[i]? = some x) (g:Gs):actsG (l.take (i+1)) g=actG x (actsG (l.take i) g):=by
 rw [List.take_add_one,h]
 show actsG (l.take i++[x]) g=_
 rw [actsG_app,actsG,actsG]
def partG (params locals:Int) (body:List TAct) (g:Gs):Gs:=putG [⟨1,0,0⟩,⟨15,0,0⟩] (actsG body (putG [⟨14,params,locals⟩] g))
def partsG:List TPart→Gs→List Nat×Gs
 | [],g=>([],g)
 | p::r,g=>(g.code.length::(partsG r (partG p.params p.locals p.body g)).1,(partsG r (partG p.params p.locals p.body g)).2)
theorem partsG_snoc:∀(a:List TPart) (p:TPart) (g:Gs),partsG (a++[p]) g=((partsG a g).1++[(partsG a g).2.code.length],partG p.params p.locals p.body (partsG a g).2)
 | [],p,g=>rfl
 | x::r,p,g=>by rw [List.cons_append,partsG,partsG_snoc r p]; rfl
structure GObj where
 nm:List UInt8
 uses:List (List UInt8)
 data:Int
 g:Gs
 ents:List Nat
 main:Nat
def noObj:GObj:=⟨[],[],0,⟨[],[]⟩,[],0⟩
def aloneB (u:TUnit):Bool:=fineU u (List.replicate u.uses.length noKn)
def unitG (u:TUnit):GObj:=
 let r:=partsG u.parts ⟨[],[]⟩
 ⟨u.nm,u.uses,u.data,partG 0 0 u.main r.2,r.1,r.2.code.length⟩
def genM (u:TUnit):GObj×Int:=if aloneB u=false then (noObj,1) else if 2048<(unitG u).g.code.length then (noObj,2) else (unitG u,0)
structure GL (c:Nat) (g g':Gs):Prop where
 lo:g.code.length≤g'.code.length
 hi:g'.code.length≤g.code.length+c
 flo:g.fix.length≤g'.fix.length
 fhi:g'.fix.length≤g.fix.length+c
theorem GL.refl (c:Nat) (g:Gs):GL c g g:=⟨Nat.le_refl _,Nat.le_add_right _ _,Nat.le_refl _,Nat.le_add_right _ _⟩
theorem GL.trans {a b:Nat} {g g' g'':Gs} (h:GL a g g') (k:GL b g' g''):GL (a+b) g g'':=⟨Nat.le_trans h.lo k.lo,by have:=h.hi; have:=k.hi; omega,Nat.le_trans h.flo k.flo,by have:=h.fhi; have:=k.fhi; omega⟩
theorem GL.mono {a b:Nat} {g g':Gs} (h:GL a g g') (hab:a≤b):GL b g g':=⟨h.lo,by have:=h.hi; omega,h.flo,by have:=h.fhi; omega⟩
theorem put_len (l:List InsG) (g:Gs):GL l.length g (putG l g):=⟨by simp [putG],by simp [putG],Nat.le_refl _,Nat.le_add_right _ _⟩
theorem fix_len (i:InsG) (k m:Int) (g:Gs):GL 1 g (fixG i k m g):=⟨by simp [fixG],by simp [fixG],by simp [fixG],by simp [fixG]⟩
theorem land_len (n:Nat) (g:Gs):GL 0 g (landG n g):=⟨by simp [landG],by simp [landG],Nat.le_refl _,Nat.le_refl _⟩
theorem all_len {ks:List Gk} {cs:List Nat} (h:ks.length=cs.length) (hk:∀(i:Nat) k c,ks[i]? = some k→cs[i]? = some c→∀g,GL c g (k g)):∀g,GL cs.sum g (allG ks g):=by
 induction ks generalizing cs with
 | nil=>intro g; cases cs with | nil=>exact .refl _ _ | cons c r=>cases h
 | cons k r ih=>
   intro g
   cases cs with
   | nil=>cases h
   | cons c cr=>
     have h1:=hk 0 k c rfl rfl g
     have h2:=ih (cs:=cr) (by simpa using h) (fun i k' c' a b=>hk (i+1) k' c' (by simpa using a) (by simpa using b)) (k g)
     exact h1.trans h2
theorem kid_len {ks:List Gk} {cs:List Nat} (h:ks.length=cs.length) (hk:∀(i:Nat) k c,ks[i]? = some k→cs[i]? = some c→∀g,GL c g (k g)) (i:Nat):∀g,GL ((cs[i]?).getD 0) g (kidG ks i g):=fun g=>by
 unfold kidG
 cases hi:ks[i]? with
 | none=>exact .refl _ _
 | some k=>
   have hlt:=(List.getElem?_eq_some_iff.1 hi).1
   obtain ⟨c,hc⟩:∃c,cs[i]? = some c:=⟨_,List.getElem?_eq_getElem (by omega)⟩
   rw [hc]
   exact hk i k c hi hc g
theorem get_sum:∀(cs:List Nat),(cs[0]?).getD 0+(cs[1]?).getD 0≤cs.sum
 | []=>by simp
 | [a]=>by simp
 | a::b::r=>by simp only [List.getElem?_cons_zero,List.getElem?_cons_succ,Option.getD_some,List.sum_cons]; omega
mutual
theorem nodeG_len:∀(x:TNode) (g:Gs),GL (8*wNd x) g (nodeG x g)
 | .mk op n m pl args,g=>by
   rw [nodeG]
   have hk:=kidsG_len args
   have hl:(kidsG args).length=(args.map fun x=>8*wNd x).length:=by rw [kidsG_map]; simp
   have hs:(args.map fun x=>8*wNd x).sum=8*wNds args:=sum_wNd args
   have ha:=all_len hl hk
   have h0:=kid_len hl hk 0
   have h1:=kid_len hl hk 1
   have h2:=get_sum (args.map fun x=>8*wNd x)
   rw [hs] at ha h2
   have hw:wNd (.mk op n m pl args)=1+wNds args:=by rw [wNd]
   rw [hw]
   unfold nodeGo
   split
   · exact (put_len _ g).mono (by simp only [List.length_cons,List.length_nil]; omega)
   · split
     · exact (put_len _ g).mono (by simp only [List.length_cons,List.length_nil]; omega)
     · split
       · exact (put_len _ g).mono (by simp only [List.length_cons,List.length_nil]; omega)
       · split
         · exact (fix_len _ _ _ g).mono (by omega)
         · split
           · exact (((h0 g).trans (fix_len _ _ _ _)).trans (put_len _ _)).mono (by simp only [List.length_cons,List.length_nil]; omega)
           · split
             · exact ((ha g).trans (fix_len _ _ _ _)).mono (by omega)
             · split
               · unfold andG
                 exact (((((((h0 g).trans (fix_len _ _ _ _)).trans (h1 _)).trans (put_len _ _)).trans (fix_len _ _ _ _)).trans (land_len _ _)).trans (put_len _ _) |>.trans (land_len _ _)).mono (by simp only [List.length_cons,List.length_nil]; omega)
               · split
                 · unfold orG
                   exact (((((((h0 g).trans (fix_len _ _ _ _)).trans (put_len _ _)).trans (fix_len _ _ _ _)).trans (land_len _ _)).trans (h1 _)).trans (put_len _ _) |>.trans (land_len _ _)).mono (by simp only [List.length_cons,List.length_nil]; omega)
                 · split
                   · exact ((ha g).trans (put_len _ _)).mono (by simp only [List.length_cons,List.length_nil]; omega)
                   · exact ((ha g).trans (put_len _ _)).mono (by simp only [List.length_cons,List.length_nil]; omega)
theorem kidsG_len:∀(l:List TNode) (i:Nat) k c,(kidsG l)[i]? = some k→(l.map fun x=>8*wNd x)[i]? = some c→∀g,GL c g (k g)
 | [],i,k,c,h,_,g=>by rw [kidsG] at h; simp at h
 | x::r,0,k,c,h,hc,g=>by
   rw [kidsG] at h
   simp at h hc
   subst h hc
   exact nodeG_len x g
 | x::r,i+1,k,c,h,hc,g=>by
   rw [kidsG] at h
   exact kidsG_len r i k c (by simpa using h) (by simpa using hc) g
theorem sum_wNd:∀(l:List TNode),(l.map fun x=>8*wNd x).sum=8*wNds l
 | []=>by simp [wNds]
 | x::r=>by rw [List.map_cons,List.sum_cons,sum_wNd r,wNds]; omega
end
mutual
theorem actG_len:∀(x:TAct) (g:Gs),GL (8*wAc x) g (actG x g)
 | .mk op n m pl args body other,g=>by
   rw [actG]
   have hk:=kidsG_len args
   have hl:(kidsG args).length=(args.map fun x=>8*wNd x).length:=by rw [kidsG_map]; simp
   have ha:=all_len hl hk
   have h0:=kid_len hl hk 0
   have h1:=kid_len hl hk 1
   have h2:=get_sum (args.map fun x=>8*wNd x)
   rw [sum_wNd] at ha h2
   have hb:=actsG_len body
   have ho:=actsG_len other
   have hw:wAc (.mk op n m pl args body other)=1+wNds args+wAcs body+wAcs other:=by rw [wAc]
   rw [hw]
   unfold actGo
   split
   · split
     · exact ((h0 g).trans (put_len _ _)).mono (by simp only [List.length_cons,List.length_nil]; omega)
     · exact ((h0 g).trans (fix_len _ _ _ _)).mono (by omega)
   · split
     · exact ((((h0 g).trans (fix_len _ _ _ _)).trans (h1 _)).trans (put_len _ _)).mono (by simp only [List.length_cons,List.length_nil]; omega)
     · split
       · exact (((ha g).trans (fix_len _ _ _ _)).trans (put_len _ _)).mono (by simp only [List.length_cons,List.length_nil]; omega)
       · split
         · unfold ifG
           dsimp only
           split
           · exact ((((((h0 g).trans (fix_len _ _ _ _)).trans (hb _)).trans (fix_len _ _ _ _)).trans (land_len _ _)).trans (ho _) |>.trans (land_len _ _)).mono (by omega)
           · exact ((((h0 g).trans (fix_len _ _ _ _)).trans (hb _)).trans (land_len _ _)).mono (by omega)
         · split
           · unfold whileG
             exact ((((((h0 g).trans (fix_len _ _ _ _)).trans (put_len _ _)).trans (hb _)).trans (fix_len _ _ _ _)).trans (land_len _ _)).mono (by simp only [List.length_cons,List.length_nil]; omega)
           · split
             · exact ((h0 g).trans (put_len _ _)).mono (by simp only [List.length_cons,List.length_nil]; omega)
             · split
               · exact ((h0 g).trans (put_len _ _)).mono (by simp only [List.length_cons,List.length_nil]; omega)
               · exact .refl _ _
theorem actsG_len:∀(l:List TAct) (g:Gs),GL (8*wAcs l) g (actsG l g)
 | [],g=>by rw [actsG]; exact .refl _ _
 | x::r,g=>by
   rw [actsG,wAcs]
   exact ((actG_len x g).trans (actsG_len r _)).mono (by omega)
end
theorem partG_len (pa lo:Int) (b:List TAct) (g:Gs):GL (8*(1+wAcs b)) g (partG pa lo b g):=by
 unfold partG
 exact (((put_len _ g).trans (actsG_len b _)).trans (put_len _ _)).mono (by simp only [List.length_cons,List.length_nil]; omega)
theorem partsG_len:∀(l:List TPart) (g:Gs),GL (8*wPts l) g (partsG l g).2∧(partsG l g).1.length=l.length
 | [],g=>⟨.refl _ _,rfl⟩
 | p::r,g=>by
   have ih:=partsG_len r (partG p.params p.locals p.body g)
   refine ⟨?_,by simp [partsG,ih.2]⟩
   rw [partsG,wPts]
   exact ((partG_len p.params p.locals p.body g).trans ih.1).mono (by unfold wPt; omega)
end Go.Bw
end
section
namespace Go.Bw
open Go Go.RowKit
section
variable {P:Program} {ops:Array Oper} {Q:Exit→Act→World→Prop} {n:Nat} {ds:List Deferred} {l:List (Nat×Value)} {w0:World} {F:List Nat} {L:List Asr} {Vs:List View} {rest:List Oper}
 {ty:TypeId} {pos:String} {af:Array Edge} {g:Option (Nat×Bool)} {d:Nat}
theorem WL.callvw {ι:Type} {f:FuncId} {cx:Operand} {caps:Array Value} {args:Array Operand} {ts:Array TypeId} {vs:List Value} (L1 L2:List Asr) (hg:GOk ops l g) (hn:Nat.blt d n=true) (hf:Enters P f) (hcx:opv l cx=some (.func (.func f) #[] caps)) (ha:evs l args.toList=some vs) (hL:L=L1++L2)
   (v:ι→Value) (L1':ι→List Asr) (R:ι→Prop) (Vs':List View) (hV:∀H ∈ Vs',H ∈ Vs)
   (hC:∀w,Ws w (L1.flatMap Asr.ids) L1 Vs' w→Calls P f (vs.toArray++caps) w fun e w'=>∃i,e = .returned (v i)∧R i∧Ws w (L1.flatMap Asr.ids) (L1' i) Vs' w')
   (hr:∀i,R i→WL P ops Q n ds ((d,v i)::l) (Ws w0 F (L1' i++L2) Vs) rest) :
   WL P ops Q n ds l (Ws w0 F L Vs) (⟨some d,.call ⟨.value cx,args,ts⟩,ty,pos,af,g⟩::rest):=
 WL.callvwx (κ:=Empty) L1 L2 hg hn hf hcx ha hL v L1' R (fun _=>[]) (fun _=>[]) (fun _=>False) Vs' hV (fun w hw=>(hC w hw).mono fun e w' h=>.inl h) (fun j=>nomatch j) hr
end
def InsG.cells (x:InsG):List Value:=[.int .i64 x.op,.int .i64 x.a,.int .i64 x.b]
theorem InsG.cells_len (x:InsG):x.cells.length=3:=rfl
theorem InsG.one (x:InsG):x.cells.all (·.oneCell')=true:=rfl
def rdIG (H:View) (b o:Nat) (x:InsG):Prop:=RdC H b o x.cells
def FixE.cells (x:FixE):List Value:=[.int .i64 x.at_,.int .i64 x.kind,.int .i64 x.m]
theorem FixE.cells_len (x:FixE):x.cells.length=3:=rfl
theorem FixE.one (x:FixE):x.cells.all (·.oneCell')=true:=rfl
def rdFE (H:View) (b o:Nat) (x:FixE):Prop:=RdC H b o x.cells
structure ObjK where
 nm:List UInt8
 v1:Value
 data:Int
 v5:Value
 v6:Value
structure GsA where
 g:Gs
 ca:Option Addr×Nat
 fa:Option Addr×Nat
def gob (T:TypeId) (K:ObjK) (t:GsA):Obj:=.cells #[st K.nm,K.v1,.int .i64 K.data,.slice t.ca.1 t.g.code.length t.ca.2,.slice t.fa.1 t.g.fix.length t.fa.2,K.v5,K.v6] T (0,0)
abbrev gown (T tI tF:TypeId) (sb:Nat) (K:ObjK) (t:GsA):List Asr:=[blk sb (gob T K t),osT tI 3 InsG.cells t.ca.1 t.ca.2 t.g.code,osT tF 3 FixE.cells t.fa.1 t.fa.2 t.g.fix]
theorem kidG_at {l:List TNode} {i:Nat} {y:TNode} (h:l[i]? = some y):kidG (kidsG l) i=nodeG y:=by
 unfold kidG; rw [kidsG_map,List.getElem?_map,h]; rfl
theorem wNd_mem:∀{l:List TNode} {i:Nat} {x:TNode},l[i]? = some x→wNds (l.take (i+1))=wNds (l.take i)+wNd x∧wNds (l.take (i+1))≤wNds l
 | [],_,_,h=>by simp at h
 | y::r,0,x,h=>by
   simp at h; subst h
   simp [wNds]
 | y::r,i+1,x,h=>by
   obtain ⟨h1,h2⟩:=wNd_mem (l:=r) (i:=i) (by simpa using h)
   simp only [List.take_succ_cons,wNds]
   omega
theorem wAc_mem:∀{l:List TAct} {i:Nat} {x:TAct},l[i]? = some x→wAcs (l.take (i+1))=wAcs (l.take i)+wAc x∧wAcs (l.take (i+1))≤wAcs l
 | [],_,_,h=>by simp at h
 | y::r,0,x,h=>by
   simp at h; subst h
   simp [wAcs]
 | y::r,i+1,x,h=>by
   obtain ⟨h1,h2⟩:=wAc_mem (l:=r) (i:=i) (by simpa using h)
   simp only [List.take_succ_cons,wAcs]
   omega
theorem nodesG_len (l:List TNode) (g:Gs):GL (8*wNds l) g (nodesG l g):=by
 have hl:(kidsG l).length=(l.map fun x=>8*wNd x).length:=by rw [kidsG_map]; simp
 have h:=all_len hl (kidsG_len l) g
 rw [allG_nodes,sum_wNd] at h
 exact h
theorem wNd_eq (x:TNode):wNd x=1+wNds x.args:=by cases x; rw [wNd]; rfl
theorem wAc_eq (x:TAct):wAc x=1+wNds x.args+wAcs x.body+wAcs x.other:=by cases x; rw [wAc]; rfl
theorem modify_set {l:List InsG} {n:Nat} {x:InsG} (f:InsG→InsG) (h:l[n]? = some x):l.modify n f=l.set n (f x):=by
 apply List.ext_getElem?
 intro i
 rw [List.getElem?_modify,List.getElem?_set]
 by_cases e:n=i
 · subst e
   obtain ⟨h1,h2⟩:=List.getElem?_eq_some_iff.1 h
   simp [h1,h2]
 · simp [e]
theorem landG_at {n:Nat} {g:Gs} {x:InsG} (h:g.code[n]? = some x):landG n g = { g with code:=g.code.set n ⟨x.op,(g.code.length:Int),x.b⟩ }:=by
 unfold landG; rw [modify_set _ h]
theorem node1_len {kn:List KnW} {locs op n m pl:Int} {len:Nat} (h:node1 kn locs op n m pl len=true):(op=4∨op=6→len=1)∧(7≤op∧op≤15→len=2)∧1≤op∧op≤16:=by
 unfold node1 at h
 split at h
 · subst_vars; omega
 · split at h
   · subst_vars; omega
   · split at h
     · subst_vars; simp at h; omega
     · split at h
       · subst_vars; omega
       · split at h
         · subst_vars; omega
         · split at h
           · subst_vars; omega
           · split at h
             · subst_vars; simp at h; omega
             · split at h
               · simp at h; omega
               · cases h
theorem act1_len {kn:List KnW} {locs op n m pl:Int} {na nb no:Nat} (h:act1 kn locs op n m pl na nb no=true):(op=1∨op=4∨op=5∨op=6∨op=7→na=1)∧(op=2→na=2)∧1≤op∧op≤7:=by
 unfold act1 at h
 split at h
 · subst_vars; simp at h; omega
 · split at h
   · subst_vars; simp at h; omega
   · split at h
     · subst_vars; omega
     · split at h
       · subst_vars; simp at h; omega
       · split at h
         · subst_vars; simp at h; omega
         · split at h
           · simp at h; omega
           · cases h
def NodeOk (x:TNode):Prop:=∃kn locs d,nodeK kn locs x d=true
def NodesOk (l:List TNode):Prop:=∃kn locs d,nodesK kn locs l d=true
def ActOk (x:TAct):Prop:=∃kn locs d,actK kn locs x d=true
def ActsOk (l:List TAct):Prop:=∃kn locs d,actsA kn locs l d=true
theorem NodesOk.at_ {l:List TNode} (h:NodesOk l) {i:Nat} {x:TNode} (hx:l[i]? = some x):NodeOk x:=by
 obtain ⟨kn,locs,d,h⟩:=h
 rw [nodesK_all] at h
 exact ⟨kn,locs,d,List.all_eq_true.1 h x (List.mem_of_getElem? hx)⟩
theorem NodeOk.args {x:TNode} (h:NodeOk x):NodesOk x.args∧(x.op=4∨x.op=6→x.args.length=1)∧(7≤x.op∧x.op≤15→x.args.length=2)∧1≤x.op∧x.op≤16:=by
 obtain ⟨kn,locs,d,h⟩:=h
 rw [nodeK_eq] at h
 obtain ⟨_,h⟩:=Bool.and_eq_true_iff.1 h
 obtain ⟨h1,h2⟩:=Bool.and_eq_true_iff.1 h
 exact ⟨⟨kn,locs,_,h2⟩,node1_len h1⟩
theorem ActsOk.at_ {l:List TAct} (h:ActsOk l) {i:Nat} {x:TAct} (hx:l[i]? = some x):ActOk x:=by
 obtain ⟨kn,locs,d,h⟩:=h
 rw [actsA_all] at h
 exact ⟨kn,locs,d,List.all_eq_true.1 h x (List.mem_of_getElem? hx)⟩
theorem ActOk.parts {x:TAct} (h:ActOk x):NodesOk x.args∧(x.op=4∨x.op=5→ActsOk x.body)∧ActsOk x.other∧(x.op=1∨x.op=4∨x.op=5∨x.op=6∨x.op=7→x.args.length=1)∧(x.op=2→x.args.length=2)∧1≤x.op∧x.op≤7:=by
 obtain ⟨kn,locs,d,h⟩:=h
 rw [actK_eq] at h
 obtain ⟨h1,h⟩:=Bool.and_eq_true_iff.1 h
 obtain ⟨h2,h⟩:=Bool.and_eq_true_iff.1 h
 obtain ⟨h3,h4⟩:=Bool.and_eq_true_iff.1 h
 refine ⟨⟨kn,locs,_,h2⟩,fun hw=>?_,?_,act1_len h1⟩
 · have:ifWh x.op=true:=by unfold ifWh; simpa using hw
   rw [this] at h3
   have h5:actsK kn locs x.body (d+1)=true:=by simpa using h3
   unfold actsK at h5
   exact ⟨kn,locs,d+1,(Bool.and_eq_true_iff.1 (Bool.and_eq_true_iff.1 h5).2).2⟩
 · by_cases h0:0<x.other.length
   · rw [decide_eq_true h0] at h4
     have h5:actsK kn locs x.other (d+1)=true:=by simpa using h4
     unfold actsK at h5
     exact ⟨kn,locs,d+1,(Bool.and_eq_true_iff.1 (Bool.and_eq_true_iff.1 h5).2).2⟩
   · have:x.other=[]:=List.eq_nil_of_length_eq_zero (by omega)
     rw [this]
     exact ⟨kn,locs,d,by rw [actsA]⟩
theorem madeCells_flat {α:Type} {f:α→List Value} {x:α} {zs:Array Value} (h:zs.toList=f x) (hpos:0<(f x).length) (k:Nat):madeCells zs (k*(f x).length)=((List.replicate k x).flatMap f).toArray:=by
 apply Array.ext'
 simp only [madeCells]
 have hs:zs.size=(f x).length:=by rw [←h]; simp
 have hl:((List.replicate k x).flatMap f).length=k*(f x).length:=by
   induction k with
   | zero=>simp
   | succ k ih=>rw [List.replicate_succ,List.flatMap_cons,List.length_append,ih,Nat.succ_mul]; omega
 apply List.ext_getElem
 · simp [hl]
 · intro i h1 h2
   simp
   have key:∀(k i:Nat) (hi:i<k*(f x).length),((List.replicate k x).flatMap f)[i]? = (f x)[i % (f x).length]?:=by
     intro k
     induction k with
     | zero=>intro i hi; omega
     | succ k ih=>
       intro i hi
       rw [List.replicate_succ,List.flatMap_cons,List.getElem?_append]
       split
       · rename_i hlt; rw [Nat.mod_eq_of_lt hlt]
       · rename_i hge
         rw [Nat.succ_mul] at hi
         rw [ih (i-(f x).length) (by omega),←Nat.mod_eq_sub_mod (by omega)]
   have hi:i<k*(f x).length:=by rw [←hl]; exact h2
   have h3:=key k i hi
   have hm:=Nat.mod_lt i hpos
   rw [List.getElem?_eq_getElem h2,List.getElem?_eq_getElem hm] at h3
   injection h3 with h3
   rw [h3]
   have hz:zs[i % zs.size]? = (f x)[i % (f x).length]?:=by rw [hs,←h]; simp
   rw [List.getElem?_eq_getElem hm] at hz
   rw [getElem!_def,hz]
theorem gsL9:(∀i k m g,(fixG i k m g).code.length=g.code.length+1)∧(∀i k m g,(fixG i k m g).fix.length=g.fix.length+1)∧(∀l g,(putG l g).code.length=g.code.length+l.length)∧(∀l g,(putG l g).fix.length=g.fix.length)∧(∀n g,(landG n g).code.length=g.code.length)∧(∀n g,(landG n g).fix.length=g.fix.length)∧(∀(x:InsG) l,(x::l).length=l.length+1)∧([]:List InsG).length=0:=by
 refine ⟨fun _ _ _ _=>?_,fun _ _ _ _=>?_,fun _ _=>?_,fun _ _=>rfl,fun _ _=>?_,fun _ _=>rfl,fun _ _=>rfl,O⟩<;>simp [fixG,putG,landG]
end Go.Bw
end
section
namespace Go.Bw
open Go Go.RowKit
def ntC (x:Nat):List Value:=[.int .i64 (x:Int)]
theorem ntC_len (x:Nat):(ntC x).length=1:=rfl
def rdNt (H:View) (b o:Nat) (x:Nat):Prop:=RdC H b o (ntC x)
structure OAt where
 s1:Option Addr×Nat
 s2:Option Addr×Nat
 s3:Option Addr×Nat
 s4:Option Addr×Nat
def objV (o:GObj) (q:OAt):List Value:=[st o.nm,.slice q.s1.1 o.uses.length q.s1.2,.int .i64 o.data,.slice q.s2.1 o.g.code.length q.s2.2,.slice q.s3.1 o.g.fix.length q.s3.2,.slice q.s4.1 o.ents.length q.s4.2,.int .i64 (o.main:Int)]
structure RdOb (H:View) (q:OAt) (o:GObj):Prop where
 uses:Sl rdStr 1 H q.s1.1 q.s1.2 o.uses
 code:Sl rdIG 3 H q.s2.1 q.s2.2 o.g.code
 fix:Sl rdFE 3 H q.s3.1 q.s3.2 o.g.fix
 ents:Sl rdNt 1 H q.s4.1 q.s4.2 o.ents
def noOAt:OAt:=⟨(none,0),(none,0),(none,0),(none,0)⟩
theorem noObj_rd (H:View):RdOb H noOAt noObj:=⟨Sl.nil,Sl.nil,Sl.nil,Sl.nil⟩
theorem wPts_mem:∀{l:List TPart} {i:Nat} {x:TPart},l[i]? = some x→wPts (l.take (i+1))=wPts (l.take i)+wPt x∧wPts (l.take (i+1))≤wPts l
 | [],_,_,h=>by simp at h
 | y::r,0,x,h=>by
   simp at h; subst h
   simp [wPts]
 | y::r,i+1,x,h=>by
   obtain ⟨h1,h2⟩:=wPts_mem (l:=r) (i:=i) (by simpa using h)
   simp only [List.take_succ_cons,wPts]
   omega
theorem partsG_take {l:List TPart} {i:Nat} {x:TPart} (h:l[i]? = some x) (g:Gs):partsG (l.take (i+1)) g=((partsG (l.take i) g).1++[(partsG (l.take i) g).2.code.length],partG x.params x.locals x.body (partsG (l.take i) g).2):=by
 rw [List.take_add_one,h]
 exact partsG_snoc _ _ _
theorem acts_of {kn:List KnW} {locs:Int} {l:List TAct} (h:actsK kn locs l 1=true):ActsOk l:=by
 unfold actsK at h
 exact ⟨kn,locs,1,(Bool.and_eq_true_iff.1 (Bool.and_eq_true_iff.1 h).2).2⟩
theorem wPts_len:∀l:List TPart,l.length≤wPts l
 | []=>Nat.zero_le _
 | s::r=>by have:=wPts_len r; simp only [List.length_cons,wPts,wPt]; omega
theorem wUn_eq (u:TUnit):wUn u=1+u.nm.length+wN u.uses+wPts u.parts+wAcs u.main:=rfl
theorem alone_parts {u:TUnit} (h:aloneB u=true):(∀p ∈ u.parts,ActsOk p.body)∧ActsOk u.main:=by
 obtain ⟨h1,h2,_,_⟩:=fine_parts h
 exact ⟨fun p hp=>acts_of (part_fine (h1 p hp)).2.2.2.2,acts_of h2⟩
end Go.Bw
end
section
namespace Go.Bw
open Go
structure Ren (l l':List TMod) (f:Nat→Nat):Prop where
 len:l'.length=l.length
 inv:∀k,f (f k)=k
 lt:∀k,k<l.length→f k<l.length
 get:∀k,k<l.length→l'[f k]? = l[k]?
theorem Ren.nm {l l':List TMod} {f:Nat→Nat} (h:Ren l l' f) {k:Nat} (hk:k<l.length):nmAt l' (f k)=nmAt l k:=by unfold nmAt; rw [h.get k hk]
theorem Ren.us {l l':List TMod} {f:Nat→Nat} (h:Ren l l' f) {k:Nat} (hk:k<l.length):usesAt l' (f k)=usesAt l k:=by unfold usesAt; rw [h.get k hk]
theorem Ren.back {l l':List TMod} {f:Nat→Nat} (h:Ren l l' f):Ren l' l f:=⟨h.len.symm,h.inv,fun k hk=>by rw [h.len] at hk ⊢; exact h.lt k hk,fun k hk=>by
 rw [h.len] at hk
 have:=h.get (f k) (h.lt k hk)
 rw [h.inv] at this
 exact this.symm⟩
theorem Ren.mem {l l':List TMod} {f:Nat→Nat} (h:Ren l l' f) {m:TMod} (hm:m ∈ l):m ∈ l':=by
 obtain ⟨k,hk⟩:=List.getElem?_of_mem hm
 have hlt:=(List.getElem?_eq_some_iff.1 hk).1
 rw [←h.get k hlt] at hk
 exact List.mem_of_getElem? hk
theorem Ren.nodup {l l':List TMod} {f:Nat→Nat} (h:Ren l l' f) (hn:(namesL l).Nodup):(namesL l').Nodup:=by
 unfold List.Nodup
 rw [List.pairwise_iff_getElem]
 intro i j hi hj hij e
 rw [names_len] at hi hj
 have h1:nmAt l' i=nmAt l' j:=by
   have e1:=names_get (List.getElem?_eq_getElem hi)
   have e2:=names_get (List.getElem?_eq_getElem hj)
   rw [List.getElem?_eq_getElem (by rw [names_len]; exact hi)] at e1
   rw [List.getElem?_eq_getElem (by rw [names_len]; exact hj)] at e2
   injection e1 with e1
   injection e2 with e2
   rw [nmAt_get (List.getElem?_eq_getElem hi),nmAt_get (List.getElem?_eq_getElem hj),←e1,←e2,e]
 have hb:=h.back
 rw [←hb.nm hi,←hb.nm hj] at h1
 have h2:=nm_inj hn (by have:=hb.lt i hi; rw [h.len] at this; exact this) (by have:=hb.lt j hj; rw [h.len] at this; exact this) h1
 have h3:=congrArg f h2
 rw [h.inv,h.inv] at h3
 omega
theorem Ren.place {l l':List TMod} {f:Nat→Nat} (h:Ren l l' f) (hn:(namesL l).Nodup) {s:List UInt8} {p:Nat} (hp:placeL l s=some p):placeL l' s=some (f p):=by
 obtain ⟨h1,h2⟩:=placeL_at hp
 have h3:=place_nm (h.nodup hn) (i:=f p) (by rw [h.len]; exact h.lt p h1)
 rw [h.nm h1,h2] at h3
 exact h3
theorem Ren.ok {l l':List TMod} {f:Nat→Nat} (h:Ren l l' f) (ho:OrdOk l):OrdOk l':=
 ⟨by rw [h.len]; exact ho.few,fun m hm=>ho.mods m (h.back.mem hm),h.nodup ho.nd,fun m hm s hs=>by
   obtain ⟨p,hp⟩:=ho.uses m (h.back.mem hm) s hs
   exact ⟨f p,h.place ho.nd hp⟩⟩
theorem Ren.contains {l l':List TMod} {f:Nat→Nat} (h:Ren l l' f) (d:List Nat) (x:Nat):(d.map f).contains (f x)=d.contains x:=by
 rw [Bool.eq_iff_iff]
 simp only [List.contains_iff_mem,List.mem_map]
 constructor
 · rintro ⟨y,hy,e⟩
   have:=congrArg f e
   rw [h.inv,h.inv] at this
   rw [←this]; exact hy
 · exact fun hx=>⟨x,hx,O⟩
theorem Ren.ready {l l':List TMod} {f:Nat→Nat} (h:Ren l l' f) (ho:OrdOk l) (d:List Nat) {x:Nat} (hx:x<l.length):readyB l' (d.map f) (f x)=readyB l d x:=by
 unfold readyB
 rw [h.contains,h.us hx]
 congr 1
 have key:∀u:List (List UInt8),(∀s ∈ u,∃p,placeL l s=some p)→u.all (doneS l' (d.map f))=u.all (doneS l d):=by
   intro u
   induction u with
   | nil=>intro _; rfl
   | cons s r ih=>
     intro hu
     obtain ⟨p,hp⟩:=hu s (by simp)
     rw [List.all_cons,List.all_cons,ih fun s hs=>hu s (by simp [hs])]
     congr 1
     unfold doneS
     rw [hp,h.place ho.nd hp]
     exact h.contains d p
 refine key _ fun s hs=>?_
 rw [usesAt_get (List.getElem?_eq_getElem hx)] at hs
 exact ho.uses _ (List.getElem_mem hx) s hs
end Go.Bw
end
section
namespace Go.Bw
open Go
def SubM (a b:List Bool):Prop:=∀j:Nat,a[j]? = some true→b[j]? = some true
theorem SubM.refl (a:List Bool):SubM a a:=fun _ h=>h
theorem SubM.count:∀{a b:List Bool},a.length=b.length→SubM a b→a.count true≤b.count true∧(b.count true≤a.count true→a=b)
 | [],[],_,_=>⟨Nat.le_refl _,fun _=>rfl⟩
 | [],_::_,h,_=>by cases h
 | _::_,[],h,_=>by cases h
 | x::a,y::b,h,hs=>by
   obtain ⟨h1,h2⟩:=SubM.count (a:=a) (b:=b) (by simpa using h) fun j hj=>by simpa using hs (j+1) (by simpa using hj)
   have h0:x=true→y=true:=fun e=>by simpa using hs 0 (by simp [e])
   cases x<;>cases y<;>simp at h0 ⊢
   · exact ⟨h1,h2⟩
   · exact ⟨by omega,by omega⟩
   · exact ⟨h1,h2⟩
theorem SubM.set (a:List Bool) (p:Nat):SubM a (a.set p true):=fun j h=>by
 have hlt:=(List.getElem?_eq_some_iff.1 h).1
 rw [List.getElem?_set]
 by_cases e:p=j
 · subst e; simp [hlt]
 · rw [if_neg e]; exact h
theorem SubM.trans {a b c:List Bool} (h:SubM a b) (k:SubM b c):SubM a c:=fun j hj=>k j (h j hj)
def actM (l:List TMod) (nm:List UInt8) (S:List Bool) (j:Nat):Prop:=S[j]? = some true∨nmAt l j=nm
def metM (l:List TMod) (S:List Bool) (s:List UInt8):Prop:=∃p,placeL l s=some p∧S[p]? = some true
theorem metM.sub {l:List TMod} {a b:List Bool} {s:List UInt8} (h:metM l a s) (hs:SubM a b):metM l b s:=let ⟨p,h1,h2⟩:=h; ⟨p,h1,hs p h2⟩
def ClosedM (l:List TMod) (nm:List UInt8) (S:List Bool):Prop:=∀j,j<l.length→actM l nm S j→∀s ∈ usesAt l j,metM l S s
structure MkOk (l:List TMod) (nm:List UInt8) (S:List Bool):Prop where
 len:S.length=l.length
 sound:∀j,S[j]? = some true→Go.Bw.Reach l nm (nmAt l j)
structure RoundM (l:List TMod) (nm:List UInt8) (S0 S:List Bool) (j:Nat):Prop where
 ok:MkOk l nm S
 sub:SubM S0 S
 same:ClosedM l nm S0→S=S0
 done:∀i,i<j→actM l nm S0 i→∀s ∈ usesAt l i,metM l S s
theorem RoundM.next {l:List TMod} {nm:List UInt8} {S0 S:List Bool} {j:Nat} (h:RoundM l nm S0 S j) (hj:actM l nm S0 j→∀s ∈ usesAt l j,metM l S s):RoundM l nm S0 S (j+1):=
 ⟨h.ok,h.sub,h.same,fun i hi hia=>by
   rcases Nat.lt_succ_iff_lt_or_eq.1 hi with h2 | h2
   · exact h.done i h2 hia
   · subst h2; exact hj hia⟩
def ltR (a b:List UInt8):Prop:=ltT a b=true
def mkNames (l:List TMod) (S:List Bool) (i:Nat):List (List UInt8):=((List.range i).filter fun j=>(S[j]?).getD false).map (nmAt l)
structure NamesM (l:List TMod) (S:List Bool) (i:Nat) (out:List (List UInt8)):Prop where
 perm:out.Perm (mkNames l S i)
 up:SortedUp ltR out out.length
end Go.Bw
end
section
namespace Go.Bw
open Go
def chooseN (n m:Int):Int:=(if n<0 then IntKind.i64.wrap (-(IntKind.i64.wrap (n+1))) else n).tmod m
theorem chooseN_in {n m:Int} (h : -9223372036854775808≤n) (h2:n≤9223372036854775807) (hm:0<m):0≤chooseN n m∧chooseN n m<m:=by
 unfold chooseN
 by_cases hn:n<0
 · rw [if_pos hn,wrap_in (n:=n+1) (by omega),wrap_in (by omega)]
   exact ⟨Int.tmod_nonneg _ (by omega),Int.tmod_lt_of_pos _ (by omega)⟩
 · rw [if_neg hn]
   exact ⟨Int.tmod_nonneg _ (by omega),Int.tmod_lt_of_pos _ (by omega)⟩
theorem chooseN_nat {n:Int} {k:Nat} (h : -9223372036854775808≤n∧n≤9223372036854775807) (hk:0<k):∃j:Nat,j<k∧chooseN n (k:Int)=(j:Int):=by
 obtain ⟨h1,h2⟩:=chooseN_in h.1 h.2 (m:=(k:Int)) (by omega)
 exact ⟨(chooseN n (k:Int)).toNat,by omega,by omega⟩
end Go.Bw
end
section
namespace Go.Bw
open Go
theorem choices {α β:Type} {p:Nat→α→β→Prop}:∀(l:List α) (s:Nat),(∀i x,l[i]? = some x→∃r,p (s+i) x r)→∃ys:List (α×β),ys.map (·.1)=l∧∀(i:Nat) y,ys[i]? = some y→p (s+i) y.1 y.2
 | [],_,_=>⟨[],rfl,fun i y h=>by simp at h⟩
 | x::l,s,h=>by
   obtain ⟨r,hr⟩:=h 0 x rfl
   obtain ⟨ys,h1,h2⟩:=choices l (s+1) fun i y hy=>by
     obtain ⟨r,hr⟩:=h (i+1) y hy
     exact ⟨r,by rw [show s+1+i=s+(i+1) by omega]; exact hr⟩
   refine ⟨(x,r)::ys,by simp [h1],fun i y hy=>?_⟩
   cases i with
   | zero=>simp at hy; subst hy; exact hr
   | succ i=>rw [show s+(i+1)=s+1+i by omega]; exact h2 i y (by simpa using hy)
end Go.Bw
end
section
namespace Go.Bw
open Go
abbrev Tx:=List UInt8
def w_module:List UInt8:=[109,111,100,117,108,101]
def w_use:List UInt8:=[117,115,101]
def w_pub:List UInt8:=[112,117,98]
def w_const:List UInt8:=[99,111,110,115,116]
def w_var:List UInt8:=[118,97,114]
def w_array:List UInt8:=[97,114,114,97,121]
def w_proc:List UInt8:=[112,114,111,99]
def w_local:List UInt8:=[108,111,99,97,108]
def w_main:List UInt8:=[109,97,105,110]
def w_if:List UInt8:=[105,102]
def w_else:List UInt8:=[101,108,115,101]
def w_while:List UInt8:=[119,104,105,108,101]
def w_return:List UInt8:=[114,101,116,117,114,110]
def w_out:List UInt8:=[111,117,116]
def w_in:List UInt8:=[105,110]
def J (l:List Tx):Tx:=Lib.join l [32]
def refW (mod nm:Tx):List Tx:=if (mod==[])=true then [nm] else [mod,[46],nm]
def opsL:List Tx:=[[38],[124],[43],[45],[42],[47],[37],[61],[60]]
def opW (op:Int):Tx:=(opsL[(op-7).toNat]?).getD []
def commaW:List (List Tx)→List Tx
 | []=>[]
 | [x]=>x
 | x::y::r=>x++[[44]]++commaW (y::r)
def argsW (l:List (List Tx)):List Tx:=[[40]]++commaW l++[[41]]
def at_ (l:List (List Tx)) (i:Nat):List Tx:=(l[i]?).getD []
def exprO (op n:Int) (mod nm:Tx) (A:List (List Tx)):List Tx:=
 if op=1 then [Lib.itoa n] else if op=2 then [w_in] else if op=3 then refW mod nm else if op=4 then refW mod nm++[[91]]++at_ A 0++[[93]] else if op=5 then refW mod nm++argsW A
 else if op=6 then [[33]]++at_ A 0 else [[40]]++at_ A 0++[opW op]++at_ A 1++[[41]]
mutual
def exprW:TExpr→List Tx
 | .mk op n mod nm args=>exprO op n mod nm (exprWs args)
def exprWs:List TExpr→List (List Tx)
 | []=>[]
 | x::r=>exprW x::exprWs r
end
def blkW (l:List Tx):List Tx:=[[123]]++l++[[125]]
def stmtO (op:Int) (mod nm:Tx) (A:List (List Tx)) (b:List Tx) (ol:Nat) (o:List Tx):List Tx:=
 if op=4∨op=5 then [if op=5 then w_while else w_if]++at_ A 0++blkW b++(if 0<ol then [w_else]++blkW o else [])
 else (if op=6 then [w_return]++at_ A 0 else if op=7 then [w_out]++at_ A 0 else if op=3 then refW mod nm++argsW A else if op=1 then refW mod nm++[[61]]++at_ A 0 else if op=2 then refW mod nm++[[91]]++at_ A 0++[[93],[61]]++at_ A 1 else [])++[[59]]
mutual
def stmtW:TStmt→List Tx
 | .mk op mod nm args body other=>stmtO op mod nm (exprWs args) (stmtWs body) other.length (stmtWs other)
def stmtWs:List TStmt→List Tx
 | []=>[]
 | x::r=>stmtW x++stmtWs r
end
def blockW (l:List TStmt):List Tx:=blkW (stmtWs l)
def locW (u:Tx):List Tx:=[w_local,u,[59]]
def declO (d:TDecl):List Tx:=if d.kind=1 then [w_const,d.nm,[61],Lib.itoa d.n] else if d.kind=2 then [w_var,d.nm] else if d.kind=3 then [w_array,d.nm,[91],Lib.itoa d.n,[93]] else []
theorem tot0 {a b:Cnt} (h:(a+b).tot=0):a.tot=0∧b.tot=0:=by
 rw [Cnt.tot_add] at h; omega
theorem noteF0 {b:Bool} (h:(noteF b).tot=0):b=false:=by cases b; rfl; cases h
theorem noteM0 {b:Bool} (h:(noteM b).tot=0):b=false:=by cases b; rfl; cases h
structure OkE (op n:Int) (mod nm:Tx) (args:List TExpr) (d:Nat):Prop where
 deep:d≤6
 kind:1≤op∧op≤15
 name:badName (within_ op 3 5) mod nm=false
 nargs:badArgs (exprArgsT op) args.length=false
 few:args.length≤3
 num:numBad op n=false
 sub:(cntEs args (d+1)).tot=0
theorem refW_ne (mod nm:Tx):refW mod nm≠[]:=by unfold refW; split<;>simp
theorem exprW_ne:∀x:TExpr,exprW x≠[]
 | .mk op n mod nm args=>by
   unfold exprW exprO argsW
   have:=refW_ne mod nm
   repeat' split
   all_goals simp_all
structure OkS (op:Int) (mod nm:Tx) (args:List TExpr) (body other:List TStmt) (d:Nat):Prop where
 kind:1≤op∧op≤7
 name:badName (within_ op 1 3) mod nm=false
 nargs:badArgs (stmtArgsT op) args.length=false
 few:args.length≤3
 exprs:(cntEs args 1).tot=0
 form:bodyBad op body.length other.length=false
 body:(inner op||decide (0<body.length))=true→(blkC (d+1) body.length (cntSs body (d+1))).tot=0
 other:0<other.length→(blkC (d+1) other.length (cntSs other (d+1))).tot=0
theorem OkS.len {op:Int} {mod nm:Tx} {args:List TExpr} {body other:List TStmt} {d:Nat} (h:OkS op mod nm args body other d) (ho:op≠3):args.length=if op=2 then 2 else 1:=by
 have:=h.nargs
 unfold badArgs stmtArgsT at this
 by_cases h2:op=2
 · rw [if_pos h2] at this ⊢; simp at this; omega
 · rw [if_neg h2,if_neg ho] at this; rw [if_neg h2]; simp at this; omega
theorem stmtW_ne:∀x:TStmt,stmtW x≠[]
 | .mk op mod nm args body other=>by
   unfold stmtW stmtO
   split<;>simp
theorem declC_kind {d:TDecl} (h:(declC d).tot=0):d.kind=1∨d.kind=2∨d.kind=3:=by
 unfold declC at h
 obtain ⟨_,h⟩:=tot0 h
 by_cases h1:d.kind=1
 · exact .inl h1
 · rw [if_neg h1] at h
   by_cases h2:d.kind=2
   · exact .inr (.inl h2)
   · rw [if_neg h2] at h
     by_cases h3:d.kind=3
     · exact .inr (.inr h3)
     · rw [if_neg h3] at h; cases h
theorem declsC0:∀{l:List TDecl},(declsC l).tot=0→∀d ∈ l,(declC d).tot=0
 | [],_,d,hd=>by simp at hd
 | x::r,h,d,hd=>by
   unfold declsC at h
   obtain ⟨h1,h2⟩:=tot0 h
   rcases List.mem_cons.1 hd with rfl | hd
   · exact h1
   · exact declsC0 h2 d hd
theorem procsC0:∀{l:List TProc},(procsC l).tot=0→∀d ∈ l,(procC d).tot=0
 | [],_,d,hd=>by simp at hd
 | x::r,h,d,hd=>by
   unfold procsC at h
   obtain ⟨h1,h2⟩:=tot0 h
   rcases List.mem_cons.1 hd with rfl | hd
   · exact h1
   · exact procsC0 h2 d hd
theorem err0 {c:Cnt}:errC c=0↔c.tot=0:=by
 unfold errC Cnt.tot
 split
 · omega
 · split
   · omega
   · split<;>omega
end Go.Bw
end
section
namespace Go.Bw
open Go
def putTok (s:Tx):Tok:=match Lib.atoiAll s with
 | .ok v=>⟨2,v,[]⟩
 | _=>if nameB s=true then ⟨1,0,s⟩ else ⟨3,0,s⟩
def okTok (t:Tok):Prop:=kindT t=true∧tokOk t=true
theorem sign_atoi:∀u ∈ signL,putTok [u]=⟨3,0,[u]⟩:=by decide
theorem name_atoi {s:Tx} (h:nameB s=true):putTok s=⟨1,0,s⟩:=by
 cases s with
 | nil=>simp [nameB] at h
 | cons c r=>
   have hl:letterB (c.toNat:Int)=true:=by
     simp only [nameB,Bool.and_eq_true] at h
     simpa using h.1.2
   have hc:97≤c.toNat:=by simp [letterB] at hl; omega
   have ha:∀v,Lib.atoiAll (c::r)≠.ok v:=by
     intro v hv
     rw [Lib.atoiAll_plain c r (by omega) (by omega)] at hv
     unfold Lib.parseMag Lib.parseUint10 at hv
     rw [if_neg (by simp),if_neg (by omega)] at hv
     cases hv
   unfold putTok
   cases hs:Lib.atoiAll (c::r) with
   | ok v=>exact absurd hs (ha v)
   | _=>simp [h]
theorem put_itoa {n:Int} (h0:0≤n) (h1:n≤1099511627775):putTok (Lib.itoa n)=⟨2,n,[]⟩:=by
 unfold putTok
 rw [itoa_pos h0,atoiAll_digits (by omega)]
 simp; omega
theorem tok_put {t:Tok} (h:okTok t):putTok (tokTxt t)=t:=by
 obtain ⟨hk,ht⟩:=h
 obtain ⟨k,n,s⟩:=t
 have hk':k=1∨k=2∨k=3:=by simp [kindT] at hk; omega
 rcases hk' with rfl | rfl | rfl
 · simp only [tokOk,if_pos,Bool.and_eq_true,beq_iff_eq] at ht
   obtain ⟨rfl,hn⟩:=ht
   exact name_atoi hn
 · have:s=[]∧0≤n∧n≤1099511627775:=by simpa [tokOk] using ht
   obtain ⟨rfl,h0,h1⟩:=this
   exact put_itoa h0 h1
 · have:n=0∧s.length=1∧signB (s[0]?.getD 0)=true:=by simpa [tokOk] using ht
   obtain ⟨rfl,hl,hs⟩:=this
   match s,hl with
   | [c],_=>exact sign_atoi c (by simpa [signB] using hs)
theorem cntN0:∀{l:List Tx},(cntN l).tot=0→∀s ∈ l,nameT s=true
 | [],_,s,hs=>by simp at hs
 | x::r,h,s,hs=>by
   unfold cntN at h
   obtain ⟨h1,h2⟩:=tot0 h
   rcases List.mem_cons.1 hs with rfl | hs
   · simpa using noteF0 h1
   · exact cntN0 h2 s hs
structure OkD (d:TDecl):Prop where
 name:nameT d.nm=true
 kind:d.kind=1∨d.kind=2∨d.kind=3
 n1:d.kind=1→0≤d.n∧d.n≤1099511627775
 n2:d.kind=2→d.n=0
 n3:d.kind=3→1≤d.n∧d.n≤32
theorem okD {d:TDecl} (h:(declC d).tot=0):OkD d:=by
 have hk:=declC_kind h
 unfold declC at h
 obtain ⟨h1,h2⟩:=tot0 h
 refine ⟨cntN0 h1 d.nm (by simp),hk,fun e=>?_,fun e=>?_,fun e=>?_⟩
 · rw [if_pos e] at h2
   have:=noteF0 h2
   simp at this; omega
 · rw [if_neg (by omega),if_pos e] at h2
   have:=noteF0 h2
   simpa using this
 · rw [if_neg (by omega),if_neg (by omega),if_pos e] at h2
   have:=noteF0 h2
   simp at this; omega
structure OkP (p:TProc):Prop where
 name:nameT p.nm=true
 params:∀s ∈ p.params,nameT s=true
 locs:∀s ∈ p.locs,nameT s=true
 few:p.params.length≤3∧p.locs.length≤4
 body:(cntB p.body 1).tot=0
theorem okP {p:TProc} (h:(procC p).tot=0):OkP p:=by
 unfold procC at h
 obtain ⟨h,h5⟩:=tot0 h
 obtain ⟨h,h4⟩:=tot0 h
 obtain ⟨h,h3⟩:=tot0 h
 obtain ⟨h1,h2⟩:=tot0 h
 have:=noteM0 h4
 simp at this
 exact ⟨cntN0 h1 p.nm (by simp),cntN0 h2,cntN0 h3,by omega,h5⟩
structure OkM (m:TMod):Prop where
 name:nameT m.nm=true
 uses:∀s ∈ m.uses,nameT s=true
 few:m.uses.length≤3∧m.decls.length≤10∧m.procs.length≤6
 decls:∀d ∈ m.decls,(declC d).tot=0
 procs:∀p ∈ m.procs,(procC p).tot=0
 main:(cntB m.main 1).tot=0
theorem okM {m:TMod} (h:(modC m).tot=0):OkM m:=by
 unfold modC at h
 obtain ⟨h,h6⟩:=tot0 h
 obtain ⟨h,h5⟩:=tot0 h
 obtain ⟨h,h4⟩:=tot0 h
 obtain ⟨h,h3⟩:=tot0 h
 obtain ⟨h1,h2⟩:=tot0 h
 have:=noteM0 h3
 simp at this
 exact ⟨cntN0 h1 m.nm (by simp),cntN0 h2,by omega,declsC0 h4,procsC0 h5,h6⟩
end Go.Bw
end
section
namespace Go.Bw
open Go
abbrev Tk:=List Tok
def hasT (s:Tx):Tk→Option Tk
 | []=>none
 | t::r=>if (t.text==s)=true then some r else none
def nextT (k:Int):Tk→Option (Tok×Tk)
 | []=>none
 | t::r=>if t.kind=k then some (t,r) else none
def namP (l:Tk):Option (Tx×Tk):=(nextT 1 l).bind fun p=>if nameT p.1.text=true then some (p.1.text,p.2) else none
def numP (l:Tk):Option (Int×Tk):=(nextT 2 l).map fun p=>(p.1.n,p.2)
def refP (l:Tk):Option ((Tx×Tx)×Tk):=(namP l).bind fun a=>match hasT [46] a.2 with
 | some r=>(namP r).map fun b=>((a.1,b.1),b.2)
 | none=>some (([],a.1),a.2)
def argsL (pe:Tk→Option (TExpr×Tk)):Nat→Tk→Option (List TExpr×Tk)
 | 0,_=>none
 | n+1,l=>(pe l).bind fun x=>match hasT [41] x.2 with
   | some r=>some ([x.1],r)
   | none=>match hasT [44] x.2 with
     | some r=>(argsL pe n r).map fun q=>(x.1::q.1,q.2)
     | none=>none
def argsP (pe:Tk→Option (TExpr×Tk)) (l:Tk):Option (List TExpr×Tk):=match hasT [41] l with
 | some r=>some ([],r)
 | none=>argsL pe (l.length+1) l
def opP:List Tx→Nat→Tk→Option (Nat×Tk)
 | [],_,_=>none
 | w::ws,i,l=>match hasT w l with
   | some r=>some (i,r)
   | none=>opP ws (i+1) l
def twoP (pe:Tk→Option (TExpr×Tk)) (l:Tk):Option (TExpr×Tk):=(pe l).bind fun a=>(opP opsL 0 a.2).bind fun o=>(pe o.2).bind fun b=>(hasT [41] b.2).map fun r=>(TExpr.mk (7+(o.1:Int)) 0 [] [] [a.1,b.1],r)
def tailP (pe:Tk→Option (TExpr×Tk)) (mod nm:Tx) (l:Tk):Option (TExpr×Tk):=match hasT [91] l with
 | some r=>(pe r).bind fun x=>(hasT [93] x.2).map fun r=>(TExpr.mk 4 0 mod nm [x.1],r)
 | none=>match hasT [40] l with
   | some r=>(argsP pe r).map fun q=>(TExpr.mk 5 0 mod nm q.1,q.2)
   | none=>some (TExpr.mk 3 0 mod nm [],l)
def restP (pe:Tk→Option (TExpr×Tk)) (l:Tk):Option (TExpr×Tk):=match hasT w_in l with
 | some r=>some (TExpr.mk 2 0 [] [] [],r)
 | none=>match hasT [33] l with
   | some r=>(pe r).map fun x=>(TExpr.mk 6 0 [] [] [x.1],x.2)
   | none=>match hasT [40] l with
     | some r=>twoP pe r
     | none=>(refP l).bind fun p=>tailP pe p.1.1 p.1.2 p.2
def exprP:Nat→Tk→Option (TExpr×Tk)
 | 0,_=>none
 | f+1,l=>match l with
   | []=>none
   | t::r=>if t.kind=2 then some (TExpr.mk 1 t.n [] [] [],r) else restP (exprP f) (t::r)
def simpleP (l:Tk):Option (TStmt×Tk):=match hasT w_return l with
 | some r=>(exprP 6 r).map fun x=>(TStmt.mk 6 [] [] [x.1] [] [],x.2)
 | none=>match hasT w_out l with
   | some r=>(exprP 6 r).map fun x=>(TStmt.mk 7 [] [] [x.1] [] [],x.2)
   | none=>(refP l).bind fun p=>match hasT [40] p.2 with
     | some r=>(argsP (exprP 6) r).map fun q=>(TStmt.mk 3 p.1.1 p.1.2 q.1 [] [],q.2)
     | none=>match hasT [91] p.2 with
       | some r=>(exprP 6 r).bind fun i=>(hasT [93] i.2).bind fun r=>(hasT [61] r).bind fun r=>(exprP 6 r).map fun x=>(TStmt.mk 2 p.1.1 p.1.2 [i.1,x.1] [] [],x.2)
       | none=>(hasT [61] p.2).bind fun r=>(exprP 6 r).map fun x=>(TStmt.mk 1 p.1.1 p.1.2 [x.1] [] [],x.2)
def stmtP (pb:Tk→Option (List TStmt×Tk)) (l:Tk):Option (TStmt×Tk):=match hasT w_if l with
 | some r=>(exprP 6 r).bind fun x=>(pb x.2).bind fun b=>match hasT w_else b.2 with
   | some r=>(pb r).bind fun o=>if o.1.length=0 then none else some (TStmt.mk 4 [] [] [x.1] b.1 o.1,o.2)
   | none=>some (TStmt.mk 4 [] [] [x.1] b.1 [],b.2)
 | none=>match hasT w_while l with
   | some r=>(exprP 6 r).bind fun x=>(pb x.2).map fun b=>(TStmt.mk 5 [] [] [x.1] b.1 [],b.2)
   | none=>(simpleP l).bind fun s=>(hasT [59] s.2).map fun r=>(s.1,r)
def stmtsL (ps:Tk→Option (TStmt×Tk)):Nat→Tk→Option (List TStmt×Tk)
 | 0,_=>none
 | n+1,l=>match hasT [125] l with
   | some r=>some ([],r)
   | none=>(ps l).bind fun s=>(stmtsL ps n s.2).map fun q=>(s.1::q.1,q.2)
def blockP:Nat→Tk→Option (List TStmt×Tk)
 | 0,_=>none
 | f+1,l=>(hasT [123] l).bind fun r=>stmtsL (stmtP (blockP f)) (r.length+1) r
def declP (pub:Bool) (l:Tk):Option (Option TDecl×Tk):=match hasT w_const l with
 | some r=>(namP r).bind fun a=>(hasT [61] a.2).bind fun r=>(numP r).bind fun n=>(hasT [59] n.2).map fun r=>(some ⟨1,a.1,pub,n.1⟩,r)
 | none=>match hasT w_var l with
   | some r=>(namP r).bind fun a=>(hasT [59] a.2).map fun r=>(some ⟨2,a.1,pub,0⟩,r)
   | none=>match hasT w_array l with
     | some r=>(namP r).bind fun a=>(hasT [91] a.2).bind fun r=>(numP r).bind fun n=>(hasT [93] n.2).bind fun r=>(hasT [59] r).map fun r=>(some ⟨3,a.1,pub,n.1⟩,r)
     | none=>some (none,l)
def pubP (l:Tk):Bool×Tk:=((hasT w_pub l).isSome,(hasT w_pub l).getD l)
def declsL:Nat→Bool→Tk→Option ((List TDecl×Bool)×Tk)
 | 0,_,_=>none
 | n+1,pub,l=>(declP pub l).bind fun d=>match d.1 with
   | none=>some (([],pub),d.2)
   | some x=>(declsL n (pubP d.2).1 (pubP d.2).2).map fun q=>((x::q.1.1,q.1.2),q.2)
def paramsL:Nat→Bool→Tk→Option (List Tx×Tk)
 | 0,_,_=>none
 | n+1,first,l=>match hasT [41] l with
   | some r=>some ([],r)
   | none=>(if first=true then some l else hasT [44] l).bind fun l=>(namP l).bind fun a=>(paramsL n false a.2).map fun q=>(a.1::q.1,q.2)
def locsL:Nat→Tk→Option (List Tx×Tk)
 | 0,_=>none
 | n+1,l=>match hasT w_local l with
   | some r=>(namP r).bind fun a=>(hasT [59] a.2).bind fun r=>(locsL n r).map fun q=>(a.1::q.1,q.2)
   | none=>some ([],l)
def procP (pub:Bool) (l:Tk):Option (TProc×Tk):=(namP l).bind fun a=>(hasT [40] a.2).bind fun r=>(paramsL (r.length+1) true r).bind fun ps=>(locsL (ps.2.length+1) ps.2).bind fun ls=>(blockP 6 ls.2).map fun b=>(⟨a.1,pub,ps.1,ls.1,b.1⟩,b.2)
def procsL:Nat→Bool→Tk→Option ((List TProc×Bool)×Tk)
 | 0,_,_=>none
 | n+1,pub,l=>match hasT w_proc l with
   | some r=>(procP pub r).bind fun p=>(procsL n (pubP p.2).1 (pubP p.2).2).map fun q=>((p.1::q.1.1,q.1.2),q.2)
   | none=>some (([],pub),l)
def usesL:Nat→Tk→Option (List Tx×Tk)
 | 0,_=>none
 | n+1,l=>match hasT w_use l with
   | some r=>(namP r).bind fun a=>(hasT [59] a.2).bind fun r=>(usesL n r).map fun q=>(a.1::q.1,q.2)
   | none=>some ([],l)
def modP (l:Tk):Option (TMod×Tk):=(hasT w_module l).bind fun r=>(namP r).bind fun a=>(hasT [123] a.2).bind fun r=>(usesL (r.length+1) r).bind fun u=>
 (declsL ((pubP u.2).2.length+1) (pubP u.2).1 (pubP u.2).2).bind fun d=>(procsL (d.2.length+1) d.1.2 d.2).bind fun p=>if p.1.2=true then none else
 (hasT w_main p.2).bind fun r=>(blockP 6 r).bind fun b=>(hasT [125] b.2).map fun r=>(⟨a.1,u.1,d.1.1,p.1.1,b.1⟩,r)
def AllOk (l:Tk):Prop:=∀t ∈ l,okTok t
def Eats (l:Tk) (ws:List Tx) (r:Tk):Prop:=AllOk l∧l=ws.map putTok++r
theorem Eats.ok {l r:Tk} {ws:List Tx} (h:Eats l ws r):AllOk r:=fun t ht=>h.1 t (by rw [h.2]; exact List.mem_append_right _ ht)
theorem Eats.trans {l r q:Tk} {a b:List Tx} (h:Eats l a r) (k:Eats r b q):Eats l (a++b) q:=⟨h.1,by rw [h.2,k.2]; simp⟩
theorem Eats.nil {l:Tk} (h:AllOk l):Eats l [] l:=⟨h,rfl⟩
theorem Eats.cast {l r:Tk} {a b:List Tx} (h:Eats l a r) (e:a=b):Eats l b r:=e▸h
theorem hasT_eats {s:Tx} {l r:Tk} (hl:AllOk l) (hs:s≠[]) (h:hasT s l=some r):Eats l [s] r:=by
 cases l with
 | nil=>cases h
 | cons t q=>
   simp only [hasT] at h
   split at h
   · rename_i ht
     injection h with h
     subst h
     simp only [beq_iff_eq] at ht
     refine ⟨hl,?_⟩
     have hok:=hl t (by simp)
     have e:tokTxt t=s:=by
       unfold tokTxt
       rw [if_neg]
       · exact ht
       · intro hk
         have:=hok.2
         unfold tokOk at this
         rw [if_neg (by omega),if_pos hk] at this
         simp [ht,hs] at this
     simp [←e,tok_put hok]
   · cases h
theorem namP_eats {l r:Tk} {a:Tx} (hl:AllOk l) (h:namP l=some (a,r)):Eats l [a] r∧nameT a=true:=by
 cases l with
 | nil=>cases h
 | cons t q=>
   unfold namP nextT at h
   dsimp only at h
   by_cases hk:t.kind=1
   · rw [if_pos hk] at h
     simp only [Option.bind_some] at h
     split at h
     · rename_i hn
       injection h with h
       injection h with h1 h2
       subst h1 h2
       refine ⟨⟨hl,?_⟩,hn⟩
       have hok:=hl t (by simp)
       have e:tokTxt t=t.text:=by rw [tokTxt,if_neg (by omega)]
       rw [←e]
       simp [tok_put hok]
     · cases h
   · rw [if_neg hk] at h; cases h
theorem numP_eats {l r:Tk} {n:Int} (hl:AllOk l) (h:numP l=some (n,r)):Eats l [Lib.itoa n] r:=by
 cases l with
 | nil=>cases h
 | cons t q=>
   unfold numP nextT at h
   dsimp only at h
   by_cases hk:t.kind=2
   · rw [if_pos hk] at h
     simp only [Option.map_some] at h
     injection h with h
     injection h with h1 h2
     subst h1 h2
     refine ⟨hl,?_⟩
     have hok:=hl t (by simp)
     have e:tokTxt t=Lib.itoa t.n:=by rw [tokTxt,if_pos hk]
     rw [←e]
     simp [tok_put hok]
   · rw [if_neg hk] at h; cases h
theorem refP_eats {l r:Tk} {mod nm:Tx} (hl:AllOk l) (h:refP l=some ((mod,nm),r)):Eats l (refW mod nm) r:=by
 unfold refP at h
 obtain ⟨⟨a,q⟩,h1,h2⟩:=Option.bind_eq_some_iff.1 h
 obtain ⟨e1,n1⟩:=namP_eats hl h1
 simp only at h2
 cases hd:hasT [46] q with
 | none=>
   rw [hd] at h2
   simp only [Option.some.injEq,Prod.mk.injEq] at h2
   obtain ⟨⟨rfl,rfl⟩,rfl⟩:=h2
   exact e1
 | some q2=>
   rw [hd] at h2
   obtain ⟨⟨b,q3⟩,h3,h4⟩:=Option.map_eq_some_iff.1 h2
   simp only [Prod.mk.injEq] at h4
   obtain ⟨⟨rfl,rfl⟩,rfl⟩:=h4
   have e2:=hasT_eats e1.ok (by simp) hd
   obtain ⟨e3,n3⟩:=namP_eats e2.ok h3
   refine ((e1.trans e2).trans e3).cast ?_
   unfold refW
   rw [if_neg]
   · rfl
   · intro hm
     simp only [beq_iff_eq] at hm
     subst hm
     simp [nameT,nameB] at n1
def Sound (pe:Tk→Option (TExpr×Tk)):Prop:=∀l x r,AllOk l→pe l=some (x,r)→Eats l (exprW x) r
theorem argsL_eats {pe:Tk→Option (TExpr×Tk)} (hp:Sound pe):∀(n:Nat) (l:Tk) (xs:List TExpr) (r:Tk),AllOk l→argsL pe n l=some (xs,r)→Eats l (commaW (exprWs xs)++[[41]]) r
 | 0,_,_,_,_,h=>by cases h
 | n+1,l,xs,r,hl,h=>by
   unfold argsL at h
   obtain ⟨⟨x,q⟩,h1,h2⟩:=Option.bind_eq_some_iff.1 h
   have e1:=hp l x q hl h1
   simp only at h2
   cases hd:hasT [41] q with
   | some q2=>
     rw [hd] at h2
     simp only [Option.some.injEq,Prod.mk.injEq] at h2
     obtain ⟨rfl,rfl⟩:=h2
     exact e1.trans (hasT_eats e1.ok (by simp) hd)
   | none=>
     rw [hd] at h2
     simp only at h2
     cases hc:hasT [44] q with
     | none=>rw [hc] at h2; cases h2
     | some q2=>
       rw [hc] at h2
       obtain ⟨⟨ys,q3⟩,h3,h4⟩:=Option.map_eq_some_iff.1 h2
       simp only [Prod.mk.injEq] at h4
       obtain ⟨rfl,rfl⟩:=h4
       have e2:=hasT_eats e1.ok (by simp) hc
       have e3:=argsL_eats hp n q2 ys q3 e2.ok h3
       refine ((e1.trans e2).trans e3).cast ?_
       cases ys with
       | nil=>exfalso; cases n with
         | zero=>cases h3
         | succ n=>
           unfold argsL at h3
           obtain ⟨⟨y,q4⟩,_,h5⟩:=Option.bind_eq_some_iff.1 h3
           simp only at h5
           split at h5
           · simp at h5
           · split at h5
             · obtain ⟨z,_,h6⟩:=Option.map_eq_some_iff.1 h5
               simp at h6
             · cases h5
       | cons y ys=>simp [exprWs,commaW]
theorem argsP_eats {pe:Tk→Option (TExpr×Tk)} (hp:Sound pe) {l r q:Tk} {xs:List TExpr} (hl:AllOk l) (hq:hasT [40] l=some q) (h:argsP pe q=some (xs,r)):Eats l (argsW (exprWs xs)) r:=by
 have e0:=hasT_eats hl (by simp) hq
 unfold argsP at h
 cases hd:hasT [41] q with
 | some q2=>
   rw [hd] at h
   simp only [Option.some.injEq,Prod.mk.injEq] at h
   obtain ⟨rfl,rfl⟩:=h
   exact e0.trans (hasT_eats e0.ok (by simp) hd)
 | none=>
   rw [hd] at h
   exact (e0.trans (argsL_eats hp _ q xs r e0.ok h)).cast (by simp [argsW])
theorem opP_eats:∀(ws:List Tx) (i:Nat) (l r:Tk) (k:Nat),AllOk l→(∀w ∈ ws,w≠[])→opP ws i l=some (k,r)→∃j,k=i+j∧∃w,ws[j]? = some w∧Eats l [w] r
 | [],_,_,_,_,_,_,h=>by cases h
 | w::ws,i,l,r,k,hl,hw,h=>by
   unfold opP at h
   cases hd:hasT w l with
   | some q=>
     rw [hd] at h
     simp only [Option.some.injEq,Prod.mk.injEq] at h
     obtain ⟨rfl,rfl⟩:=h
     exact ⟨0,O,w,O,hasT_eats hl (hw w (by simp)) hd⟩
   | none=>
     rw [hd] at h
     obtain ⟨j,h1,v,h2,h3⟩:=opP_eats ws (i+1) l r k hl (fun v hv=>hw v (List.mem_cons_of_mem _ hv)) h
     exact ⟨j+1,by omega,v,by simpa using h2,h3⟩
theorem exprW_mk (op n:Int) (mod nm:Tx) (args:List TExpr):exprW (.mk op n mod nm args)=exprO op n mod nm (exprWs args):=by rw [exprW]
theorem twoP_eats {pe:Tk→Option (TExpr×Tk)} (hp:Sound pe) {l r q:Tk} {x:TExpr} (hl:AllOk l) (hq:hasT [40] l=some q) (h:twoP pe q=some (x,r)):Eats l (exprW x) r:=by
 have e0:=hasT_eats hl (by simp) hq
 unfold twoP at h
 obtain ⟨⟨a,q1⟩,h1,h2⟩:=Option.bind_eq_some_iff.1 h
 obtain ⟨⟨o,q2⟩,h3,h4⟩:=Option.bind_eq_some_iff.1 h2
 obtain ⟨⟨b,q3⟩,h5,h6⟩:=Option.bind_eq_some_iff.1 h4
 obtain ⟨q4,h7,h8⟩:=Option.map_eq_some_iff.1 h6
 simp only [Prod.mk.injEq] at h8
 obtain ⟨rfl,rfl⟩:=h8
 have e1:=hp q a q1 e0.ok h1
 obtain ⟨j,hj,w,hw,e2⟩:=opP_eats opsL 0 q1 q2 o e1.ok (by decide) h3
 have e3:=hp q2 b q3 e2.ok h5
 have e4:=hasT_eats e3.ok (by simp) h7
 refine ((((e0.trans e1).trans e2).trans e3).trans e4).cast ?_
 obtain rfl:o=j:=by omega
 have hlt:o<9:=(List.getElem?_eq_some_iff.1 hw).1
 have hop:opW (7+(o:Int))=w:=by
   unfold opW
   rw [show ((7+(o:Int))-7).toNat=o by omega,hw]; rfl
 rw [exprW_mk,exprO,if_neg (by omega),if_neg (by omega),if_neg (by omega),if_neg (by omega),if_neg (by omega),if_neg (by omega),hop]
 simp [exprWs,at_]
theorem tailP_eats {pe:Tk→Option (TExpr×Tk)} (hp:Sound pe) {l l0 r:Tk} {mod nm:Tx} {x:TExpr} (h0:Eats l0 (refW mod nm) l) (h:tailP pe mod nm l=some (x,r)):Eats l0 (exprW x) r:=by
 unfold tailP at h
 cases hd:hasT [91] l with
 | some q=>
   rw [hd] at h
   obtain ⟨⟨y,q1⟩,h1,h2⟩:=Option.bind_eq_some_iff.1 h
   obtain ⟨q2,h3,h4⟩:=Option.map_eq_some_iff.1 h2
   simp only [Prod.mk.injEq] at h4
   obtain ⟨rfl,rfl⟩:=h4
   have e1:=hasT_eats h0.ok (by simp) hd
   have e2:=hp q y q1 e1.ok h1
   have e3:=hasT_eats e2.ok (by simp) h3
   exact (((h0.trans e1).trans e2).trans e3).cast (by simp [exprW,exprO,exprWs,at_])
 | none=>
   rw [hd] at h
   simp only at h
   cases hc:hasT [40] l with
   | some q=>
     rw [hc] at h
     obtain ⟨⟨xs,q1⟩,h1,h2⟩:=Option.map_eq_some_iff.1 h
     simp only [Prod.mk.injEq] at h2
     obtain ⟨rfl,rfl⟩:=h2
     exact (h0.trans (argsP_eats hp h0.ok hc h1)).cast (by simp [exprW,exprO])
   | none=>
     rw [hc] at h
     simp only [Option.some.injEq,Prod.mk.injEq] at h
     obtain ⟨rfl,rfl⟩:=h
     exact h0.cast (by simp [exprW,exprO])
theorem restP_eats {pe:Tk→Option (TExpr×Tk)} (hp:Sound pe):Sound (restP pe):=by
 intro l x r hl h
 unfold restP at h
 cases hd:hasT w_in l with
 | some q=>
   rw [hd] at h
   simp only [Option.some.injEq,Prod.mk.injEq] at h
   obtain ⟨rfl,rfl⟩:=h
   exact (hasT_eats hl (by decide) hd).cast (by simp [exprW,exprO])
 | none=>
   rw [hd] at h
   simp only at h
   cases hn:hasT [33] l with
   | some q=>
     rw [hn] at h
     obtain ⟨⟨y,q1⟩,h1,h2⟩:=Option.map_eq_some_iff.1 h
     simp only [Prod.mk.injEq] at h2
     obtain ⟨rfl,rfl⟩:=h2
     have e1:=hasT_eats hl (by simp) hn
     exact (e1.trans (hp q y q1 e1.ok h1)).cast (by simp [exprW,exprO,exprWs,at_])
   | none=>
     rw [hn] at h
     simp only at h
     cases hc:hasT [40] l with
     | some q=>rw [hc] at h; exact twoP_eats hp hl hc h
     | none=>
       rw [hc] at h
       obtain ⟨⟨⟨mod,nm⟩,q⟩,h1,h2⟩:=Option.bind_eq_some_iff.1 h
       exact tailP_eats hp (refP_eats hl h1) h2
theorem exprP_eats:∀f,Sound (exprP f)
 | 0=>fun _ _ _ _ h=>by cases h
 | f+1=>by
   intro l x r hl h
   cases l with
   | nil=>cases h
   | cons t q=>
     unfold exprP at h
     by_cases hk:t.kind=2
     · simp only [if_pos hk,Option.some.injEq,Prod.mk.injEq] at h
       obtain ⟨rfl,rfl⟩:=h
       refine ⟨hl,?_⟩
       have hok:=hl t (by simp)
       have e:tokTxt t=Lib.itoa t.n:=by rw [tokTxt,if_pos hk]
       have e2:exprW (TExpr.mk 1 t.n [] [] [])=[Lib.itoa t.n]:=by simp [exprW,exprO]
       rw [e2,←e]
       simp [tok_put hok]
     · simp only [if_neg hk] at h
       exact restP_eats (exprP_eats f) _ x r hl h
end Go.Bw
end
section
namespace Go.Bw
open Go
theorem stmtW_mk (op:Int) (mod nm:Tx) (args:List TExpr) (body other:List TStmt):stmtW (.mk op mod nm args body other)=stmtO op mod nm (exprWs args) (stmtWs body) other.length (stmtWs other):=by rw [stmtW]
theorem simpleP_eats {l r:Tk} {s:TStmt} (hl:AllOk l) (h:simpleP l=some (s,r)):∃ws,stmtW s=ws++[[59]]∧Eats l ws r:=by
 have hp:=exprP_eats 6
 unfold simpleP at h
 cases h1:hasT w_return l with
 | some q=>
   rw [h1] at h
   obtain ⟨⟨x,q1⟩,h2,h3⟩:=Option.map_eq_some_iff.1 h
   simp only [Prod.mk.injEq] at h3
   obtain ⟨rfl,rfl⟩:=h3
   have e1:=hasT_eats hl (by decide) h1
   exact ⟨[w_return]++exprW x,by simp [stmtW_mk,stmtO,exprWs,at_],e1.trans (hp q x q1 e1.ok h2)⟩
 | none=>
   rw [h1] at h
   simp only at h
   cases h2:hasT w_out l with
   | some q=>
     rw [h2] at h
     obtain ⟨⟨x,q1⟩,h3,h4⟩:=Option.map_eq_some_iff.1 h
     simp only [Prod.mk.injEq] at h4
     obtain ⟨rfl,rfl⟩:=h4
     have e1:=hasT_eats hl (by decide) h2
     exact ⟨[w_out]++exprW x,by simp [stmtW_mk,stmtO,exprWs,at_],e1.trans (hp q x q1 e1.ok h3)⟩
   | none=>
     rw [h2] at h
     obtain ⟨⟨⟨mod,nm⟩,q⟩,h3,h4⟩:=Option.bind_eq_some_iff.1 h
     have e0:=refP_eats hl h3
     simp only at h4
     cases h5:hasT [40] q with
     | some q1=>
       rw [h5] at h4
       obtain ⟨⟨xs,q2⟩,h6,h7⟩:=Option.map_eq_some_iff.1 h4
       simp only [Prod.mk.injEq] at h7
       obtain ⟨rfl,rfl⟩:=h7
       exact ⟨refW mod nm++argsW (exprWs xs),by simp [stmtW_mk,stmtO],e0.trans (argsP_eats hp e0.ok h5 h6)⟩
     | none=>
       rw [h5] at h4
       simp only at h4
       cases h6:hasT [91] q with
       | some q1=>
         rw [h6] at h4
         obtain ⟨⟨i,q2⟩,h7,h8⟩:=Option.bind_eq_some_iff.1 h4
         obtain ⟨q3,h9,h10⟩:=Option.bind_eq_some_iff.1 h8
         obtain ⟨q4,h11,h12⟩:=Option.bind_eq_some_iff.1 h10
         obtain ⟨⟨x,q5⟩,h13,h14⟩:=Option.map_eq_some_iff.1 h12
         simp only [Prod.mk.injEq] at h14
         obtain ⟨rfl,rfl⟩:=h14
         have e1:=hasT_eats e0.ok (by simp) h6
         have e2:=hp _ _ _ e1.ok h7
         have e3:=hasT_eats e2.ok (by simp) h9
         have e4:=hasT_eats e3.ok (by simp) h11
         have e5:=hp _ _ _ e4.ok h13
         exact ⟨refW mod nm++[[91]]++exprW i++[[93],[61]]++exprW x,by simp [stmtW_mk,stmtO,exprWs,at_],(((((e0.trans e1).trans e2).trans e3).trans e4).trans e5).cast (by simp)⟩
       | none=>
         rw [h6] at h4
         obtain ⟨q1,h7,h8⟩:=Option.bind_eq_some_iff.1 h4
         obtain ⟨⟨x,q2⟩,h9,h10⟩:=Option.map_eq_some_iff.1 h8
         simp only [Prod.mk.injEq] at h10
         obtain ⟨rfl,rfl⟩:=h10
         have e1:=hasT_eats e0.ok (by simp) h7
         have e2:=hp _ _ _ e1.ok h9
         exact ⟨refW mod nm++[[61]]++exprW x,by simp [stmtW_mk,stmtO,exprWs,at_],(e0.trans e1).trans e2⟩
def SoundB (pb:Tk→Option (List TStmt×Tk)):Prop:=∀l x r,AllOk l→pb l=some (x,r)→Eats l (blockW x) r
theorem stmtP_eats {pb:Tk→Option (List TStmt×Tk)} (hb:SoundB pb) {l r:Tk} {s:TStmt} (hl:AllOk l) (h:stmtP pb l=some (s,r)):Eats l (stmtW s) r:=by
 have hp:=exprP_eats 6
 unfold stmtP at h
 cases h1:hasT w_if l with
 | some q=>
   rw [h1] at h
   obtain ⟨⟨x,q1⟩,h2,h3⟩:=Option.bind_eq_some_iff.1 h
   obtain ⟨⟨b,q2⟩,h4,h5⟩:=Option.bind_eq_some_iff.1 h3
   have e1:=hasT_eats hl (by decide) h1
   have e2:=hp _ _ _ e1.ok h2
   have e3:=hb _ _ _ e2.ok h4
   simp only at h5
   cases h6:hasT w_else q2 with
   | some q3=>
     rw [h6] at h5
     obtain ⟨⟨o,q4⟩,h7,h8⟩:=Option.bind_eq_some_iff.1 h5
     simp only at h8
     split at h8
     · cases h8
     · rename_i ho
       simp only [Option.some.injEq,Prod.mk.injEq] at h8
       obtain ⟨rfl,rfl⟩:=h8
       have e4:=hasT_eats e3.ok (by decide) h6
       have e5:=hb _ _ _ e4.ok h7
       refine ((((e1.trans e2).trans e3).trans e4).trans e5).cast ?_
       rw [stmtW_mk]
       simp only [stmtO,Int.reduceEq,or_false,true_or,if_true,if_false]
       rw [if_pos (by omega)]
       simp [exprWs,at_,blockW]
   | none=>
     rw [h6] at h5
     simp only [Option.some.injEq,Prod.mk.injEq] at h5
     obtain ⟨rfl,rfl⟩:=h5
     exact ((e1.trans e2).trans e3).cast (by simp [stmtW_mk,stmtO,exprWs,at_,blockW])
 | none=>
   rw [h1] at h
   simp only at h
   cases h2:hasT w_while l with
   | some q=>
     rw [h2] at h
     obtain ⟨⟨x,q1⟩,h3,h4⟩:=Option.bind_eq_some_iff.1 h
     obtain ⟨⟨b,q2⟩,h5,h6⟩:=Option.map_eq_some_iff.1 h4
     simp only [Prod.mk.injEq] at h6
     obtain ⟨rfl,rfl⟩:=h6
     have e1:=hasT_eats hl (by decide) h2
     have e2:=hp _ _ _ e1.ok h3
     have e3:=hb _ _ _ e2.ok h5
     exact ((e1.trans e2).trans e3).cast (by simp [stmtW_mk,stmtO,exprWs,at_,blockW])
   | none=>
     rw [h2] at h
     obtain ⟨⟨s',q⟩,h3,h4⟩:=Option.bind_eq_some_iff.1 h
     obtain ⟨q1,h5,h6⟩:=Option.map_eq_some_iff.1 h4
     simp only [Prod.mk.injEq] at h6
     obtain ⟨rfl,rfl⟩:=h6
     obtain ⟨ws,e1,e2⟩:=simpleP_eats hl h3
     exact (e2.trans (hasT_eats e2.ok (by simp) h5)).cast e1.symm
theorem stmtsL_eats {ps:Tk→Option (TStmt×Tk)} (hp:∀l x r,AllOk l→ps l=some (x,r)→Eats l (stmtW x) r):∀(n:Nat) (l:Tk) (xs:List TStmt) (r:Tk),AllOk l→stmtsL ps n l=some (xs,r)→Eats l (stmtWs xs++[[125]]) r
 | 0,_,_,_,_,h=>by cases h
 | n+1,l,xs,r,hl,h=>by
   unfold stmtsL at h
   cases hd:hasT [125] l with
   | some q=>
     rw [hd] at h
     simp only [Option.some.injEq,Prod.mk.injEq] at h
     obtain ⟨rfl,rfl⟩:=h
     exact (hasT_eats hl (by simp) hd).cast (by simp [stmtWs])
   | none=>
     rw [hd] at h
     obtain ⟨⟨s,q⟩,h1,h2⟩:=Option.bind_eq_some_iff.1 h
     obtain ⟨⟨ys,q1⟩,h3,h4⟩:=Option.map_eq_some_iff.1 h2
     simp only [Prod.mk.injEq] at h4
     obtain ⟨rfl,rfl⟩:=h4
     have e1:=hp l s q hl h1
     exact (e1.trans (stmtsL_eats hp n q ys q1 e1.ok h3)).cast (by simp [stmtWs])
theorem blockP_eats:∀f,SoundB (blockP f)
 | 0=>fun _ _ _ _ h=>by cases h
 | f+1=>by
   intro l x r hl h
   unfold blockP at h
   obtain ⟨q,h1,h2⟩:=Option.bind_eq_some_iff.1 h
   have e1:=hasT_eats hl (by simp) h1
   exact (e1.trans (stmtsL_eats (fun l x r hl h=>stmtP_eats (blockP_eats f) hl h) _ q x r e1.ok h2)).cast (by simp [blockW,blkW])
def pubD (d:TDecl):List Tx:=declO d++[[59]]
theorem declP_eats {pub:Bool} {l r:Tk} {d:TDecl} (hl:AllOk l) (h:declP pub l=some (some d,r)):Eats l (pubD d) r∧d.pub=pub:=by
 unfold declP at h
 cases h1:hasT w_const l with
 | some q=>
   rw [h1] at h
   obtain ⟨⟨a,q1⟩,h2,h3⟩:=Option.bind_eq_some_iff.1 h
   obtain ⟨q2,h4,h5⟩:=Option.bind_eq_some_iff.1 h3
   obtain ⟨⟨n,q3⟩,h6,h7⟩:=Option.bind_eq_some_iff.1 h5
   obtain ⟨q4,h8,h9⟩:=Option.map_eq_some_iff.1 h7
   simp only [Prod.mk.injEq,Option.some.injEq] at h9
   obtain ⟨rfl,rfl⟩:=h9
   have e1:=hasT_eats hl (by decide) h1
   have e2:=(namP_eats e1.ok h2).1
   have e3:=hasT_eats e2.ok (by simp) h4
   have e4:=numP_eats e3.ok h6
   have e5:=hasT_eats e4.ok (by simp) h8
   exact ⟨((((e1.trans e2).trans e3).trans e4).trans e5).cast (by simp [pubD,declO]),O⟩
 | none=>
   rw [h1] at h
   simp only at h
   cases h2:hasT w_var l with
   | some q=>
     rw [h2] at h
     obtain ⟨⟨a,q1⟩,h3,h4⟩:=Option.bind_eq_some_iff.1 h
     obtain ⟨q2,h5,h6⟩:=Option.map_eq_some_iff.1 h4
     simp only [Prod.mk.injEq,Option.some.injEq] at h6
     obtain ⟨rfl,rfl⟩:=h6
     have e1:=hasT_eats hl (by decide) h2
     have e2:=(namP_eats e1.ok h3).1
     have e3:=hasT_eats e2.ok (by simp) h5
     exact ⟨((e1.trans e2).trans e3).cast (by simp [pubD,declO]),O⟩
   | none=>
     rw [h2] at h
     simp only at h
     cases h3:hasT w_array l with
     | some q=>
       rw [h3] at h
       obtain ⟨⟨a,q1⟩,h4,h5⟩:=Option.bind_eq_some_iff.1 h
       obtain ⟨q2,h6,h7⟩:=Option.bind_eq_some_iff.1 h5
       obtain ⟨⟨n,q3⟩,h8,h9⟩:=Option.bind_eq_some_iff.1 h7
       obtain ⟨q4,h10,h11⟩:=Option.bind_eq_some_iff.1 h9
       obtain ⟨q5,h12,h13⟩:=Option.map_eq_some_iff.1 h11
       simp only [Prod.mk.injEq,Option.some.injEq] at h13
       obtain ⟨rfl,rfl⟩:=h13
       have e1:=hasT_eats hl (by decide) h3
       have e2:=(namP_eats e1.ok h4).1
       have e3:=hasT_eats e2.ok (by simp) h6
       have e4:=numP_eats e3.ok h8
       have e5:=hasT_eats e4.ok (by simp) h10
       have e6:=hasT_eats e5.ok (by simp) h12
       exact ⟨(((((e1.trans e2).trans e3).trans e4).trans e5).trans e6).cast (by simp [pubD,declO]),O⟩
     | none=>
       rw [h3] at h
       simp at h
theorem declP_none {pub:Bool} {l r:Tk} (h:declP pub l=some (none,r)):r=l:=by
 unfold declP at h
 split at h
 · obtain ⟨_,_,h⟩:=Option.bind_eq_some_iff.1 h
   obtain ⟨_,_,h⟩:=Option.bind_eq_some_iff.1 h
   obtain ⟨_,_,h⟩:=Option.bind_eq_some_iff.1 h
   obtain ⟨_,_,h⟩:=Option.map_eq_some_iff.1 h
   simp at h
 · split at h
   · obtain ⟨_,_,h⟩:=Option.bind_eq_some_iff.1 h
     obtain ⟨_,_,h⟩:=Option.map_eq_some_iff.1 h
     simp at h
   · split at h
     · obtain ⟨_,_,h⟩:=Option.bind_eq_some_iff.1 h
       obtain ⟨_,_,h⟩:=Option.bind_eq_some_iff.1 h
       obtain ⟨_,_,h⟩:=Option.bind_eq_some_iff.1 h
       obtain ⟨_,_,h⟩:=Option.bind_eq_some_iff.1 h
       obtain ⟨_,_,h⟩:=Option.map_eq_some_iff.1 h
       simp at h
     · simp at h; exact h.symm
theorem paramsL_eats:∀(n:Nat) (first:Bool) (l:Tk) (xs:List Tx) (r:Tk),AllOk l→paramsL n first l=some (xs,r)→Eats l ((if first=true∨xs=[] then [] else [[44]])++commaW (xs.map fun s=>[s])++[[41]]) r
 | 0,_,_,_,_,_,h=>by cases h
 | n+1,first,l,xs,r,hl,h=>by
   unfold paramsL at h
   cases hd:hasT [41] l with
   | some q=>
     rw [hd] at h
     simp only [Option.some.injEq,Prod.mk.injEq] at h
     obtain ⟨rfl,rfl⟩:=h
     exact (hasT_eats hl (by simp) hd).cast (by simp [commaW])
   | none=>
     rw [hd] at h
     obtain ⟨l1,h1,h2⟩:=Option.bind_eq_some_iff.1 h
     obtain ⟨⟨a,q⟩,h3,h4⟩:=Option.bind_eq_some_iff.1 h2
     obtain ⟨⟨ys,q1⟩,h5,h6⟩:=Option.map_eq_some_iff.1 h4
     simp only [Prod.mk.injEq] at h6
     obtain ⟨rfl,rfl⟩:=h6
     have e0:Eats l (if first=true then [] else [[44]]) l1:=by
       cases first with
       | true=>
         simp only [if_true,Option.some.injEq] at h1
         subst h1; exact Eats.nil hl
       | false=>exact hasT_eats hl (by simp) h1
     have e1:=(namP_eats e0.ok h3).1
     have e2:=paramsL_eats n false q ys q1 e1.ok h5
     refine ((e0.trans e1).trans e2).cast ?_
     cases ys with
     | nil=>cases first<;>simp [commaW]
     | cons y ys=>cases first<;>simp [commaW]
theorem locsL_eats:∀(n:Nat) (l:Tk) (xs:List Tx) (r:Tk),AllOk l→locsL n l=some (xs,r)→Eats l (xs.flatMap locW) r
 | 0,_,_,_,_,h=>by cases h
 | n+1,l,xs,r,hl,h=>by
   unfold locsL at h
   cases hd:hasT w_local l with
   | none=>
     rw [hd] at h
     simp only [Option.some.injEq,Prod.mk.injEq] at h
     obtain ⟨rfl,rfl⟩:=h
     exact Eats.nil hl
   | some q=>
     rw [hd] at h
     obtain ⟨⟨a,q1⟩,h1,h2⟩:=Option.bind_eq_some_iff.1 h
     obtain ⟨q2,h3,h4⟩:=Option.bind_eq_some_iff.1 h2
     obtain ⟨⟨ys,q3⟩,h5,h6⟩:=Option.map_eq_some_iff.1 h4
     simp only [Prod.mk.injEq] at h6
     obtain ⟨rfl,rfl⟩:=h6
     have e1:=hasT_eats hl (by decide) hd
     have e2:=(namP_eats e1.ok h1).1
     have e3:=hasT_eats e2.ok (by simp) h3
     exact (((e1.trans e2).trans e3).trans (locsL_eats n q2 ys q3 e3.ok h5)).cast (by simp [locW])
def procB (p:TProc):List Tx:=[p.nm,[40]]++commaW (p.params.map fun s=>[s])++[[41]]++p.locs.flatMap locW++blockW p.body
theorem procP_eats {pub:Bool} {l r:Tk} {p:TProc} (hl:AllOk l) (h:procP pub l=some (p,r)):Eats l (procB p) r∧p.pub=pub:=by
 unfold procP at h
 obtain ⟨⟨a,q1⟩,h1,h2⟩:=Option.bind_eq_some_iff.1 h
 obtain ⟨q2,h3,h4⟩:=Option.bind_eq_some_iff.1 h2
 obtain ⟨⟨ps,q3⟩,h5,h6⟩:=Option.bind_eq_some_iff.1 h4
 obtain ⟨⟨ls,q4⟩,h7,h8⟩:=Option.bind_eq_some_iff.1 h6
 obtain ⟨⟨b,q5⟩,h9,h10⟩:=Option.map_eq_some_iff.1 h8
 simp only [Prod.mk.injEq] at h10
 obtain ⟨rfl,rfl⟩:=h10
 have e1:=(namP_eats hl h1).1
 have e2:=hasT_eats e1.ok (by simp) h3
 have e3:=paramsL_eats _ _ _ _ _ e2.ok h5
 have e4:=locsL_eats _ _ _ _ e3.ok h7
 have e5:=blockP_eats 6 _ _ _ e4.ok h9
 exact ⟨((((e1.trans e2).trans e3).trans e4).trans e5).cast (by simp [procB]),O⟩
end Go.Bw
end
section
namespace Go.Bw
open Go
structure Stop (q:Tk):Prop where
 dot:hasT [46] q=none
 br:hasT [91] q=none
 pa:hasT [40] q=none
end Go.Bw
end
section
namespace Go.Bw
open Go
theorem hasT_ok {s:Tx} {l r:Tk} (hl:AllOk l) (h:hasT s l=some r):AllOk r:=by
 cases l with
 | nil=>cases h
 | cons t q=>
   simp only [hasT] at h
   split at h
   · injection h with h; subst h; exact fun x hx=>hl x (List.mem_cons_of_mem _ hx)
   · cases h
theorem stmtP_short {pb:Tk→Option (List TStmt×Tk)} (hs:SoundB pb) {l r:Tk} {x:TStmt} (hl:AllOk l) (h:stmtP pb l=some (x,r)):r.length<l.length:=by
 have e:=(stmtP_eats hs hl h).2
 have hne:=stmtW_ne x
 rw [e]
 cases hw:stmtW x with
 | nil=>exact absurd hw hne
 | cons w ws=>simp; omega
def noMod:TMod:=⟨[],[],[],[],[]⟩
def parseM (s:Tx):TMod×Int:=if (lexR s).2≠0 then (noMod,(lexR s).2) else match modP (lexR s).1 with
 | some (m,[])=>if checkM m=0 then (m,0) else (noMod,1)
 | _=>(noMod,1)
theorem lexR_ok {s:Tx} (h:(lexR s).2=0):AllOk (lexR s).1:=(checkT_zero (lex_checks h)).1
theorem checkM_tot {m:TMod}:checkM m=0↔(modC m).tot=0:=err0
end Go.Bw
end
section
namespace Go.Bw
open Go
theorem hasT_w {s:Tx} {l q:Tk} (h:hasT s l=some q):l.length=q.length+1:=by
 cases l with
 | nil=>cases h
 | cons t r=>
   simp only [hasT] at h
   split at h
   · injection h with h; subst h; rfl
   · cases h
theorem nextT_w {k:Int} {l q:Tk} {t:Tok} (h:nextT k l=some (t,q)):l.length=q.length+1:=by
 cases l with
 | nil=>cases h
 | cons t r=>
   simp only [nextT] at h
   split at h
   · injection h with h; injection h with h1 h2; subst h2; rfl
   · cases h
theorem namP_w {l r:Tk} {a:Tx} (h:namP l=some (a,r)):a.length≤8∧l.length=r.length+1:=by
 unfold namP at h
 obtain ⟨⟨t,q⟩,h1,h2⟩:=Option.bind_eq_some_iff.1 h
 simp only at h2
 split at h2
 · rename_i hn
   simp only [Option.some.injEq,Prod.mk.injEq] at h2
   obtain ⟨rfl,rfl⟩:=h2
   refine ⟨?_,nextT_w h1⟩
   simp only [nameT,nameB,Bool.and_eq_true,decide_eq_true_eq] at hn
   exact hn.1.1.1.2
 · cases h2
theorem numP_w {l r:Tk} {a:Int} (h:numP l=some (a,r)):l.length=r.length+1:=by
 unfold numP at h
 obtain ⟨⟨t,q⟩,h1,h2⟩:=Option.map_eq_some_iff.1 h
 simp only [Prod.mk.injEq] at h2
 obtain ⟨_,rfl⟩:=h2
 exact nextT_w h1
theorem refP_w {l r:Tk} {p:Tx×Tx} (h:refP l=some (p,r)):p.1.length+p.2.length≤16∧r.length+1≤l.length:=by
 unfold refP at h
 obtain ⟨⟨a,q⟩,h1,h2⟩:=Option.bind_eq_some_iff.1 h
 obtain ⟨w1,w2⟩:=namP_w h1
 simp only at h2
 split at h2
 · rename_i q2 hd
   obtain ⟨⟨b,q3⟩,h3,h4⟩:=Option.map_eq_some_iff.1 h2
   simp only [Prod.mk.injEq] at h4
   obtain ⟨rfl,rfl⟩:=h4
   obtain ⟨w3,w4⟩:=namP_w h3
   have:=hasT_w hd
   simp only
   omega
 · simp only [Option.some.injEq,Prod.mk.injEq] at h2
   obtain ⟨rfl,rfl⟩:=h2
   simp only [List.length_nil]
   omega
def WB (pe:Tk→Option (TExpr×Tk)):Prop:=∀l x r,pe l=some (x,r)→wE x+18*r.length≤18*l.length
theorem argsL_w {pe:Tk→Option (TExpr×Tk)} (hp:WB pe):∀(n:Nat) (l:Tk) (xs:List TExpr) (r:Tk),argsL pe n l=some (xs,r)→wEs xs+18*r.length≤18*l.length
 | 0,_,_,_,h=>by cases h
 | n+1,l,xs,r,h=>by
   unfold argsL at h
   obtain ⟨⟨x,q⟩,h1,h2⟩:=Option.bind_eq_some_iff.1 h
   have w1:=hp l x q h1
   simp only at h2
   split at h2
   · rename_i q2 hd
     simp only [Option.some.injEq,Prod.mk.injEq] at h2
     obtain ⟨rfl,rfl⟩:=h2
     have:=hasT_w hd
     simp only [wEs]
     omega
   · split at h2
     · rename_i q2 hd
       obtain ⟨⟨ys,q3⟩,h3,h4⟩:=Option.map_eq_some_iff.1 h2
       simp only [Prod.mk.injEq] at h4
       obtain ⟨rfl,rfl⟩:=h4
       have:=hasT_w hd
       have:=argsL_w hp n q2 ys q3 h3
       simp only [wEs]
       omega
     · cases h2
theorem argsP_w {pe:Tk→Option (TExpr×Tk)} (hp:WB pe) {l r:Tk} {xs:List TExpr} (h:argsP pe l=some (xs,r)):wEs xs+18*r.length≤18*l.length:=by
 unfold argsP at h
 split at h
 · rename_i q hd
   simp only [Option.some.injEq,Prod.mk.injEq] at h
   obtain ⟨rfl,rfl⟩:=h
   have:=hasT_w hd
   simp only [wEs]
   omega
 · exact argsL_w hp _ _ _ _ h
theorem opP_w:∀(ws:List Tx) (i k:Nat) (l r:Tk),opP ws i l=some (k,r)→r.length+1≤l.length
 | [],_,_,_,_,h=>by cases h
 | w::ws,i,k,l,r,h=>by
   unfold opP at h
   split at h
   · rename_i q hd
     simp only [Option.some.injEq,Prod.mk.injEq] at h
     obtain ⟨_,rfl⟩:=h
     have:=hasT_w hd
     omega
   · exact opP_w ws _ _ _ _ h
theorem twoP_w {pe:Tk→Option (TExpr×Tk)} (hp:WB pe) {l r:Tk} {x:TExpr} (h:twoP pe l=some (x,r)):wE x+18*r.length≤18*l.length:=by
 unfold twoP at h
 obtain ⟨⟨a,q1⟩,h1,h2⟩:=Option.bind_eq_some_iff.1 h
 obtain ⟨⟨o,q2⟩,h3,h4⟩:=Option.bind_eq_some_iff.1 h2
 obtain ⟨⟨b,q3⟩,h5,h6⟩:=Option.bind_eq_some_iff.1 h4
 obtain ⟨q4,h7,h8⟩:=Option.map_eq_some_iff.1 h6
 simp only [Prod.mk.injEq] at h8
 obtain ⟨rfl,rfl⟩:=h8
 have w1:=hp _ _ _ h1
 have w2:=opP_w _ _ _ _ _ h3
 have w3:=hp _ _ _ h5
 have w4:=hasT_w h7
 simp only [wE,wEs,List.length_nil] at *
 omega
theorem tailP_w {pe:Tk→Option (TExpr×Tk)} (hp:WB pe) {l r:Tk} {mod nm:Tx} {x:TExpr} (hl:mod.length+nm.length≤16) (h:tailP pe mod nm l=some (x,r)):wE x+18*r.length≤17+18*l.length:=by
 unfold tailP at h
 split at h
 · rename_i q hd
   obtain ⟨⟨y,q1⟩,h1,h2⟩:=Option.bind_eq_some_iff.1 h
   obtain ⟨q2,h3,h4⟩:=Option.map_eq_some_iff.1 h2
   simp only [Prod.mk.injEq] at h4
   obtain ⟨rfl,rfl⟩:=h4
   have w1:=hasT_w hd
   have w2:=hp _ _ _ h1
   have w3:=hasT_w h3
   simp only [wE,wEs] at *
   omega
 · split at h
   · rename_i q hd
     obtain ⟨⟨xs,q1⟩,h1,h2⟩:=Option.map_eq_some_iff.1 h
     simp only [Prod.mk.injEq] at h2
     obtain ⟨rfl,rfl⟩:=h2
     have w1:=hasT_w hd
     have w2:=argsP_w hp h1
     simp only [wE] at *
     omega
   · simp only [Option.some.injEq,Prod.mk.injEq] at h
     obtain ⟨rfl,rfl⟩:=h
     simp only [wE,wEs] at *
     omega
theorem restP_w {pe:Tk→Option (TExpr×Tk)} (hp:WB pe):WB (restP pe):=by
 intro l x r h
 unfold restP at h
 split at h
 · rename_i q hd
   simp only [Option.some.injEq,Prod.mk.injEq] at h
   obtain ⟨rfl,rfl⟩:=h
   have:=hasT_w hd
   simp only [wE,wEs,List.length_nil]
   omega
 · split at h
   · rename_i q hd
     obtain ⟨⟨y,q1⟩,h1,h2⟩:=Option.map_eq_some_iff.1 h
     simp only [Prod.mk.injEq] at h2
     obtain ⟨rfl,rfl⟩:=h2
     have w1:=hasT_w hd
     have w2:=hp _ _ _ h1
     simp only [wE,wEs,List.length_nil]
     omega
   · split at h
     · rename_i q hd
       have w1:=hasT_w hd
       have w2:=twoP_w hp h
       omega
     · obtain ⟨⟨p,q⟩,h1,h2⟩:=Option.bind_eq_some_iff.1 h
       obtain ⟨w1,w2⟩:=refP_w h1
       have w3:=tailP_w hp w1 h2
       simp only at w3
       omega
theorem exprP_w:∀f,WB (exprP f)
 | 0=>fun _ _ _ h=>by cases h
 | f+1=>by
   intro l x r h
   cases l with
   | nil=>cases h
   | cons t q=>
     unfold exprP at h
     by_cases hk:t.kind=2
     · simp only [if_pos hk,Option.some.injEq,Prod.mk.injEq] at h
       obtain ⟨rfl,rfl⟩:=h
       simp only [wE,wEs,List.length_nil,List.length_cons]
       omega
     · simp only [if_neg hk] at h
       exact restP_w (exprP_w f) _ _ _ h
theorem simpleP_w {l r:Tk} {s:TStmt} (h:simpleP l=some (s,r)):wS s+18*r.length≤18*l.length:=by
 have hp:=exprP_w 6
 unfold simpleP at h
 split at h
 · rename_i q hd
   obtain ⟨⟨x,q1⟩,h2,h3⟩:=Option.map_eq_some_iff.1 h
   simp only [Prod.mk.injEq] at h3
   obtain ⟨rfl,rfl⟩:=h3
   have w1:=hasT_w hd
   have w2:=hp _ _ _ h2
   simp only [wS,wEs,wSs,List.length_nil]
   omega
 · split at h
   · rename_i q hd
     obtain ⟨⟨x,q1⟩,h2,h3⟩:=Option.map_eq_some_iff.1 h
     simp only [Prod.mk.injEq] at h3
     obtain ⟨rfl,rfl⟩:=h3
     have w1:=hasT_w hd
     have w2:=hp _ _ _ h2
     simp only [wS,wEs,wSs,List.length_nil]
     omega
   · obtain ⟨⟨⟨mod,nm⟩,q⟩,h3,h4⟩:=Option.bind_eq_some_iff.1 h
     obtain ⟨w0,w1⟩:=refP_w h3
     simp only at h4 w0
     split at h4
     · rename_i q1 hd
       obtain ⟨⟨xs,q2⟩,h6,h7⟩:=Option.map_eq_some_iff.1 h4
       simp only [Prod.mk.injEq] at h7
       obtain ⟨rfl,rfl⟩:=h7
       have w2:=hasT_w hd
       have w3:=argsP_w hp h6
       simp only [wS,wSs]
       omega
     · split at h4
       · rename_i q1 hd
         obtain ⟨⟨i,q2⟩,h7,h8⟩:=Option.bind_eq_some_iff.1 h4
         obtain ⟨q3,h9,h10⟩:=Option.bind_eq_some_iff.1 h8
         obtain ⟨q4,h11,h12⟩:=Option.bind_eq_some_iff.1 h10
         obtain ⟨⟨x,q5⟩,h13,h14⟩:=Option.map_eq_some_iff.1 h12
         simp only [Prod.mk.injEq] at h14
         obtain ⟨rfl,rfl⟩:=h14
         have w2:=hasT_w hd
         have w3:=hp _ _ _ h7
         have w4:=hasT_w h9
         have w5:=hasT_w h11
         have w6:=hp _ _ _ h13
         simp only [wS,wEs,wSs] at *
         omega
       · obtain ⟨q1,h7,h8⟩:=Option.bind_eq_some_iff.1 h4
         obtain ⟨⟨x,q2⟩,h9,h10⟩:=Option.map_eq_some_iff.1 h8
         simp only [Prod.mk.injEq] at h10
         obtain ⟨rfl,rfl⟩:=h10
         have w2:=hasT_w h7
         have w3:=hp _ _ _ h9
         simp only [wS,wEs,wSs]
         omega
def WBB (pb:Tk→Option (List TStmt×Tk)):Prop:=∀l x r,pb l=some (x,r)→wSs x+18*r.length≤18*l.length
theorem stmtP_w {pb:Tk→Option (List TStmt×Tk)} (hb:WBB pb) {l r:Tk} {s:TStmt} (h:stmtP pb l=some (s,r)):wS s+18*r.length≤18*l.length:=by
 have hp:=exprP_w 6
 unfold stmtP at h
 split at h
 · rename_i q hd
   obtain ⟨⟨x,q1⟩,h2,h3⟩:=Option.bind_eq_some_iff.1 h
   obtain ⟨⟨b,q2⟩,h4,h5⟩:=Option.bind_eq_some_iff.1 h3
   have w1:=hasT_w hd
   have w2:=hp _ _ _ h2
   have w3:=hb _ _ _ h4
   simp only at h5 w2 w3
   split at h5
   · rename_i q3 hd2
     obtain ⟨⟨o,q4⟩,h7,h8⟩:=Option.bind_eq_some_iff.1 h5
     have w4:=hasT_w hd2
     have w5:=hb _ _ _ h7
     simp only at h8
     split at h8
     · cases h8
     · simp only [Option.some.injEq,Prod.mk.injEq] at h8
       obtain ⟨rfl,rfl⟩:=h8
       simp only [wS,wEs,List.length_nil] at *
       omega
   · simp only [Option.some.injEq,Prod.mk.injEq] at h5
     obtain ⟨rfl,rfl⟩:=h5
     simp only [wS,wEs,wSs,List.length_nil] at *
     omega
 · split at h
   · rename_i q hd
     obtain ⟨⟨x,q1⟩,h2,h3⟩:=Option.bind_eq_some_iff.1 h
     obtain ⟨⟨b,q2⟩,h4,h5⟩:=Option.map_eq_some_iff.1 h3
     simp only [Prod.mk.injEq] at h5
     obtain ⟨rfl,rfl⟩:=h5
     have w1:=hasT_w hd
     have w2:=hp _ _ _ h2
     have w3:=hb _ _ _ h4
     simp only [wS,wEs,wSs,List.length_nil] at *
     omega
   · obtain ⟨⟨s',q⟩,h3,h4⟩:=Option.bind_eq_some_iff.1 h
     obtain ⟨q1,h5,h6⟩:=Option.map_eq_some_iff.1 h4
     simp only [Prod.mk.injEq] at h6
     obtain ⟨rfl,rfl⟩:=h6
     have w1:=simpleP_w h3
     have w2:=hasT_w h5
     simp only at *
     omega
theorem stmtsL_w {ps:Tk→Option (TStmt×Tk)} (hp:∀l x r,ps l=some (x,r)→wS x+18*r.length≤18*l.length):∀(n:Nat) (l:Tk) (xs:List TStmt) (r:Tk),stmtsL ps n l=some (xs,r)→wSs xs+18*r.length≤18*l.length
 | 0,_,_,_,h=>by cases h
 | n+1,l,xs,r,h=>by
   unfold stmtsL at h
   split at h
   · rename_i q hd
     simp only [Option.some.injEq,Prod.mk.injEq] at h
     obtain ⟨rfl,rfl⟩:=h
     have:=hasT_w hd
     simp only [wSs]
     omega
   · obtain ⟨⟨s,q⟩,h1,h2⟩:=Option.bind_eq_some_iff.1 h
     obtain ⟨⟨ys,q1⟩,h3,h4⟩:=Option.map_eq_some_iff.1 h2
     simp only [Prod.mk.injEq] at h4
     obtain ⟨rfl,rfl⟩:=h4
     have w1:=hp _ _ _ h1
     have w2:=stmtsL_w hp n q ys q1 h3
     simp only [wSs]
     omega
theorem blockP_w:∀f,WBB (blockP f)
 | 0=>fun _ _ _ h=>by cases h
 | f+1=>by
   intro l x r h
   unfold blockP at h
   obtain ⟨q,h1,h2⟩:=Option.bind_eq_some_iff.1 h
   have w1:=hasT_w h1
   have w2:=stmtsL_w (fun l x r hh=>stmtP_w (blockP_w f) hh) _ _ _ _ h2
   omega
theorem pubP_w (l:Tk):(pubP l).2.length≤l.length:=by
 unfold pubP
 cases h:hasT w_pub l with
 | none=>exact Nat.le_refl _
 | some q=>have:=hasT_w h; simp only [Option.getD_some]; omega
theorem declP_w {pub:Bool} {l r:Tk} {d:TDecl} (h:declP pub l=some (some d,r)):1+d.nm.length+18*r.length≤18*l.length:=by
 unfold declP at h
 split at h
 · rename_i q hd
   obtain ⟨⟨a,q1⟩,h2,h3⟩:=Option.bind_eq_some_iff.1 h
   obtain ⟨q2,h4,h5⟩:=Option.bind_eq_some_iff.1 h3
   obtain ⟨⟨n,q3⟩,h6,h7⟩:=Option.bind_eq_some_iff.1 h5
   obtain ⟨q4,h8,h9⟩:=Option.map_eq_some_iff.1 h7
   simp only [Prod.mk.injEq,Option.some.injEq] at h9
   obtain ⟨rfl,rfl⟩:=h9
   have w1:=hasT_w hd
   obtain ⟨w2,w3⟩:=namP_w h2
   have w4:=hasT_w h4
   have w5:=numP_w h6
   have w6:=hasT_w h8
   simp only at *
   omega
 · split at h
   · rename_i q hd
     obtain ⟨⟨a,q1⟩,h3,h4⟩:=Option.bind_eq_some_iff.1 h
     obtain ⟨q2,h5,h6⟩:=Option.map_eq_some_iff.1 h4
     simp only [Prod.mk.injEq,Option.some.injEq] at h6
     obtain ⟨rfl,rfl⟩:=h6
     have w1:=hasT_w hd
     obtain ⟨w2,w3⟩:=namP_w h3
     have w4:=hasT_w h5
     simp only at *
     omega
   · split at h
     · rename_i q hd
       obtain ⟨⟨a,q1⟩,h4,h5⟩:=Option.bind_eq_some_iff.1 h
       obtain ⟨q2,h6,h7⟩:=Option.bind_eq_some_iff.1 h5
       obtain ⟨⟨n,q3⟩,h8,h9⟩:=Option.bind_eq_some_iff.1 h7
       obtain ⟨q4,h10,h11⟩:=Option.bind_eq_some_iff.1 h9
       obtain ⟨q5,h12,h13⟩:=Option.map_eq_some_iff.1 h11
       simp only [Prod.mk.injEq,Option.some.injEq] at h13
       obtain ⟨rfl,rfl⟩:=h13
       have w1:=hasT_w hd
       obtain ⟨w2,w3⟩:=namP_w h4
       have w4:=hasT_w h6
       have w5:=numP_w h8
       have w6:=hasT_w h10
       have w7:=hasT_w h12
       simp only at *
       omega
     · simp at h
theorem declsL_w:∀(n:Nat) (pub:Bool) (l:Tk) (ds:List TDecl) (pub':Bool) (r:Tk),declsL n pub l=some ((ds,pub'),r)→wD ds+18*r.length≤18*l.length
 | 0,_,_,_,_,_,h=>by cases h
 | n+1,pub,l,ds,pub',r,h=>by
   unfold declsL at h
   obtain ⟨⟨o,q⟩,g1,h2⟩:=Option.bind_eq_some_iff.1 h
   cases o with
   | none=>
     have:=declP_none g1
     simp only [Option.some.injEq,Prod.mk.injEq] at h2
     obtain ⟨⟨h3,_⟩,h4⟩:=h2
     rw [←h3,←h4,this]
     simp [wD]
   | some x=>
     obtain ⟨⟨⟨ys,pb⟩,q1⟩,g3,g4⟩:=Option.map_eq_some_iff.1 h2
     simp only [Prod.mk.injEq] at g4
     obtain ⟨⟨rfl,rfl⟩,rfl⟩:=g4
     have w1:=declP_w g1
     have w2:=declsL_w n _ _ _ _ _ g3
     have w3:=pubP_w q
     simp only [wD] at *
     omega
theorem paramsL_w:∀(n:Nat) (first:Bool) (l:Tk) (xs:List Tx) (r:Tk),paramsL n first l=some (xs,r)→wN xs+18*r.length≤18*l.length
 | 0,_,_,_,_,h=>by cases h
 | n+1,first,l,xs,r,h=>by
   unfold paramsL at h
   split at h
   · rename_i q hd
     simp only [Option.some.injEq,Prod.mk.injEq] at h
     obtain ⟨rfl,rfl⟩:=h
     have:=hasT_w hd
     simp only [wN]
     omega
   · obtain ⟨l1,h1,h2⟩:=Option.bind_eq_some_iff.1 h
     obtain ⟨⟨a,q⟩,h3,h4⟩:=Option.bind_eq_some_iff.1 h2
     obtain ⟨⟨ys,q1⟩,h5,h6⟩:=Option.map_eq_some_iff.1 h4
     simp only [Prod.mk.injEq] at h6
     obtain ⟨rfl,rfl⟩:=h6
     have w0:l1.length≤l.length:=by
       cases first with
       | true=>simp only [if_true,Option.some.injEq] at h1; subst h1; exact Nat.le_refl _
       | false=>have:=hasT_w (s:=[44]) (l:=l) (q:=l1) h1; omega
     obtain ⟨w1,w2⟩:=namP_w h3
     have w3:=paramsL_w n false q ys q1 h5
     simp only [wN] at *
     omega
theorem locsL_w:∀(n:Nat) (l:Tk) (xs:List Tx) (r:Tk),locsL n l=some (xs,r)→wN xs+18*r.length≤18*l.length
 | 0,_,_,_,h=>by cases h
 | n+1,l,xs,r,h=>by
   unfold locsL at h
   split at h
   · rename_i q hd
     obtain ⟨⟨a,q1⟩,h1,h2⟩:=Option.bind_eq_some_iff.1 h
     obtain ⟨q2,h3,h4⟩:=Option.bind_eq_some_iff.1 h2
     obtain ⟨⟨ys,q3⟩,h5,h6⟩:=Option.map_eq_some_iff.1 h4
     simp only [Prod.mk.injEq] at h6
     obtain ⟨rfl,rfl⟩:=h6
     have w0:=hasT_w hd
     obtain ⟨w1,w2⟩:=namP_w h1
     have w3:=hasT_w h3
     have w4:=locsL_w n q2 ys q3 h5
     simp only [wN] at *
     omega
   · simp only [Option.some.injEq,Prod.mk.injEq] at h
     obtain ⟨rfl,rfl⟩:=h
     simp [wN]
theorem usesL_w:∀(n:Nat) (l:Tk) (xs:List Tx) (r:Tk),usesL n l=some (xs,r)→wN xs+18*r.length≤18*l.length
 | 0,_,_,_,h=>by cases h
 | n+1,l,xs,r,h=>by
   unfold usesL at h
   split at h
   · rename_i q hd
     obtain ⟨⟨a,q1⟩,h1,h2⟩:=Option.bind_eq_some_iff.1 h
     obtain ⟨q2,h3,h4⟩:=Option.bind_eq_some_iff.1 h2
     obtain ⟨⟨ys,q3⟩,h5,h6⟩:=Option.map_eq_some_iff.1 h4
     simp only [Prod.mk.injEq] at h6
     obtain ⟨rfl,rfl⟩:=h6
     have w0:=hasT_w hd
     obtain ⟨w1,w2⟩:=namP_w h1
     have w3:=hasT_w h3
     have w4:=usesL_w n q2 ys q3 h5
     simp only [wN] at *
     omega
   · simp only [Option.some.injEq,Prod.mk.injEq] at h
     obtain ⟨rfl,rfl⟩:=h
     simp [wN]
theorem procP_w {pub:Bool} {l r:Tk} {p:TProc} (h:procP pub l=some (p,r)):p.nm.length+wN p.params+wN p.locs+wSs p.body+18*r.length≤18*l.length:=by
 unfold procP at h
 obtain ⟨⟨a,q1⟩,h1,h2⟩:=Option.bind_eq_some_iff.1 h
 obtain ⟨q2,h3,h4⟩:=Option.bind_eq_some_iff.1 h2
 obtain ⟨⟨ps,q3⟩,h5,h6⟩:=Option.bind_eq_some_iff.1 h4
 obtain ⟨⟨ls,q4⟩,h7,h8⟩:=Option.bind_eq_some_iff.1 h6
 obtain ⟨⟨b,q5⟩,h9,h10⟩:=Option.map_eq_some_iff.1 h8
 simp only [Prod.mk.injEq] at h10
 obtain ⟨rfl,rfl⟩:=h10
 obtain ⟨w1,w2⟩:=namP_w h1
 have w3:=hasT_w h3
 have w4:=paramsL_w _ _ _ _ _ h5
 have w5:=locsL_w _ _ _ _ h7
 have w6:=blockP_w 6 _ _ _ h9
 simp only at *
 omega
theorem procsL_w:∀(n:Nat) (pub:Bool) (l:Tk) (ds:List TProc) (pub':Bool) (r:Tk),procsL n pub l=some ((ds,pub'),r)→wP ds+18*r.length≤18*l.length
 | 0,_,_,_,_,_,h=>by cases h
 | n+1,pub,l,ds,pub',r,h=>by
   unfold procsL at h
   split at h
   · rename_i q hd
     obtain ⟨⟨p,q1⟩,g1,h2⟩:=Option.bind_eq_some_iff.1 h
     obtain ⟨⟨⟨ys,pb⟩,q2⟩,g3,g4⟩:=Option.map_eq_some_iff.1 h2
     simp only [Prod.mk.injEq] at g4
     obtain ⟨⟨rfl,rfl⟩,rfl⟩:=g4
     have w0:=hasT_w hd
     have w1:=procP_w g1
     have w2:=procsL_w n _ _ _ _ _ g3
     have w3:=pubP_w q1
     simp only [wP] at *
     omega
   · simp only [Option.some.injEq,Prod.mk.injEq] at h
     obtain ⟨⟨rfl,rfl⟩,rfl⟩:=h
     simp [wP]
theorem modP_w {l r:Tk} {m:TMod} (h:modP l=some (m,r)):wM m+18*r.length≤18*l.length:=by
 unfold modP at h
 obtain ⟨q1,h1,h⟩:=Option.bind_eq_some_iff.1 h
 obtain ⟨⟨a,q2⟩,h2,h⟩:=Option.bind_eq_some_iff.1 h
 obtain ⟨q3,h3,h⟩:=Option.bind_eq_some_iff.1 h
 obtain ⟨⟨us,q4⟩,h4,h⟩:=Option.bind_eq_some_iff.1 h
 obtain ⟨⟨⟨ds,pub1⟩,q5⟩,h5,h⟩:=Option.bind_eq_some_iff.1 h
 obtain ⟨⟨⟨ps,pub2⟩,q6⟩,h6,h⟩:=Option.bind_eq_some_iff.1 h
 simp only at h
 split at h
 · cases h
 · obtain ⟨q7,h7,h⟩:=Option.bind_eq_some_iff.1 h
   obtain ⟨⟨b,q8⟩,h8,h⟩:=Option.bind_eq_some_iff.1 h
   obtain ⟨q9,h9,h10⟩:=Option.map_eq_some_iff.1 h
   simp only [Prod.mk.injEq] at h10
   obtain ⟨rfl,rfl⟩:=h10
   have w1:=hasT_w h1
   obtain ⟨w2,w3⟩:=namP_w h2
   have w4:=hasT_w h3
   have w5:=usesL_w _ _ _ _ h4
   have w6:=declsL_w _ _ _ _ _ _ h5
   have w7:=pubP_w q4
   have w8:=procsL_w _ _ _ _ _ _ h6
   have w9:=hasT_w h7
   have w10:=blockP_w 6 _ _ _ h8
   have w11:=hasT_w h9
   simp only [wM] at *
   omega
end Go.Bw
end
section
namespace Go.Proofs
open Go.Shelf
def Tryz.lays137_ren:Go.Shelf.Ren:=⟨fun | 137=>133 | 217=>147 | 266=>159 | n=>n,fun | 9=>9 | 5=>5 | 3=>3 | n=>n,fun | n=>n⟩
theorem Tryz.lays137:Go.Proofs.Lays.n137 Tryz.prog Tryz.lays137_ren:={
 mixed:=by kernel_rfl
 f137:=Tryz.func133.trans (congrArg some (by kernel_rfl))
 f217:=Tryz.func147.trans (congrArg some (by kernel_rfl))
 f266:=Tryz.func159.trans (congrArg some (by kernel_rfl))
 t3:=Tryz.underlying3
 a3:=Tryz.isAgg3
 z3:=Tryz.sizeOf3
 v3:=Tryz.zeroValue3
 t5:=Tryz.underlying5
 a5:=Tryz.isAgg5
 z5:=Tryz.sizeOf5
 v5:=Tryz.zeroValue5
 t9:=Tryz.underlying9
 a9:=Tryz.isAgg9
 z9:=Tryz.sizeOf9
 v9:=Tryz.zeroValue9 }
def Tryz.laysM171_ren:Go.Shelf.Ren:=⟨fun | 171=>132 | 243=>146 | 246=>158 | 283=>165 | 284=>166 | 285=>167 | 286=>168 | 129=>173 | 317=>172 | 318=>174 | 319=>175 | 320=>176 | 337=>177 | 338=>178 | n=>n,fun | 3=>3 | 9=>9 | 2=>2 | 4=>4 | 171=>269 | 0=>0 | 53=>261 | 37=>253 | 5=>5 | 173=>272 | 212=>282 | 51=>283 | 20=>20 | 213=>284 | 46=>264 | 232=>287 | 233=>288 | n=>n,fun | 17=>3 | 18=>4 | 19=>5 | n=>n⟩
theorem Tryz.laysM171:Go.Proofs.LaysM.n171 Tryz.prog Tryz.laysM171_ren:={
 mixed:=by kernel_rfl
 f129:=Tryz.func173.trans (congrArg some (by kernel_rfl))
 f171:=Tryz.func132.trans (congrArg some (by kernel_rfl))
 f243:=Tryz.func146.trans (congrArg some (by kernel_rfl))
 f246:=Tryz.func158.trans (congrArg some (by kernel_rfl))
 f283:=Tryz.func165.trans (congrArg some (by kernel_rfl))
 f284:=Tryz.func166.trans (congrArg some (by kernel_rfl))
 f285:=Tryz.func167.trans (congrArg some (by kernel_rfl))
 f286:=Tryz.func168.trans (congrArg some (by kernel_rfl))
 f317:=Tryz.func172.trans (congrArg some (by kernel_rfl))
 f318:=Tryz.func174.trans (congrArg some (by kernel_rfl))
 f319:=Tryz.func175.trans (congrArg some (by kernel_rfl))
 f320:=Tryz.func176.trans (congrArg some (by kernel_rfl))
 f337:=Tryz.func177.trans (congrArg some (by kernel_rfl))
 f338:=Tryz.func178.trans (congrArg some (by kernel_rfl))
 t0:=Tryz.underlying0
 a0:=Tryz.isAgg0
 z0:=Tryz.sizeOf0
 v0:=Tryz.zeroValue0
 t2:=Tryz.underlying2
 a2:=Tryz.isAgg2
 z2:=Tryz.sizeOf2
 v2:=Tryz.zeroValue2
 t3:=Tryz.underlying3
 a3:=Tryz.isAgg3
 z3:=Tryz.sizeOf3
 v3:=Tryz.zeroValue3
 t4:=Tryz.underlying4
 a4:=Tryz.isAgg4
 z4:=Tryz.sizeOf4
 v4:=Tryz.zeroValue4
 t5:=Tryz.underlying5
 a5:=Tryz.isAgg5
 z5:=Tryz.sizeOf5
 v5:=Tryz.zeroValue5
 t9:=Tryz.underlying9
 a9:=Tryz.isAgg9
 z9:=Tryz.sizeOf9
 v9:=Tryz.zeroValue9
 t20:=Tryz.underlying20
 a20:=Tryz.isAgg20
 z20:=Tryz.sizeOf20
 v20:=Tryz.zeroValue20
 t37:=Tryz.underlying253
 a37:=Tryz.isAgg253
 z37:=Tryz.sizeOf253
 v37:=Tryz.zeroValue253
 t46:=Tryz.underlying264
 a46:=Tryz.isAgg264
 z46:=Tryz.sizeOf264
 v46:=Tryz.zeroValue264
 t51:=Tryz.underlying283
 a51:=Tryz.isAgg283
 z51:=Tryz.sizeOf283
 v51:=Tryz.zeroValue283
 t53:=Tryz.underlying261
 a53:=Tryz.isAgg261
 z53:=Tryz.sizeOf261
 v53:=Tryz.zeroValue261
 t171:=Tryz.underlying269
 a171:=Tryz.isAgg269
 z171:=Tryz.sizeOf269
 v171:=Tryz.zeroValue269
 t173:=Tryz.underlying272
 a173:=Tryz.isAgg272
 z173:=Tryz.sizeOf272
 v173:=Tryz.zeroValue272
 t212:=Tryz.underlying282
 a212:=Tryz.isAgg282
 z212:=Tryz.sizeOf282
 v212:=Tryz.zeroValue282
 t213:=Tryz.underlying284
 a213:=Tryz.isAgg284
 z213:=Tryz.sizeOf284
 t232:=Tryz.underlying287
 a232:=Tryz.isAgg287
 z232:=Tryz.sizeOf287
 v232:=Tryz.zeroValue287
 t233:=Tryz.underlying288
 a233:=Tryz.isAgg288
 z233:=Tryz.sizeOf288
 v233:=Tryz.zeroValue288
 g17:=by kernel_rfl
 g18:=by kernel_rfl
 g19:=by kernel_rfl
 i0:=by kernel_rfl
 i2:=by kernel_rfl
 i3:=by kernel_rfl
 i4:=by kernel_rfl
 i5:=by kernel_rfl
 i9:=by kernel_rfl
 i20:=by kernel_rfl
 i37:=by kernel_rfl
 i46:=by kernel_rfl
 i51:=by kernel_rfl
 i53:=by kernel_rfl
 i171:=by kernel_rfl
 i173:=by kernel_rfl
 i212:=by kernel_rfl
 i232:=by kernel_rfl
 i233:=by kernel_rfl
 m17:=by kernel_rfl
 m18:=by kernel_rfl
 m19:=by kernel_rfl }
def Tryz.laysC172_ren:Go.Shelf.Ren:=⟨fun | 172=>131 | 244=>144 | 245=>145 | 247=>153 | 279=>154 | 280=>155 | 281=>156 | 282=>157 | 287=>162 | 316=>163 | 171=>132 | 205=>164 | 321=>170 | 322=>171 | 243=>146 | 246=>158 | 283=>165 | 284=>166 | 285=>167 | 286=>168 | 129=>173 | 317=>172 | 318=>174 | 319=>175 | 320=>176 | 337=>177 | 338=>178 | n=>n,fun | 9=>9 | 3=>3 | 75=>227 | 76=>228 | 4=>4 | 5=>5 | 167=>252 | 37=>253 | 0=>0 | 85=>254 | 2=>2 | 168=>256 | 53=>261 | 175=>262 | 46=>264 | 210=>267 | 127=>277 | 145=>280 | 143=>278 | 21=>21 | 171=>269 | 173=>272 | 212=>282 | 51=>283 | 20=>20 | 213=>284 | 232=>287 | 233=>288 | 80=>115 | n=>n,fun | 15=>0 | 16=>1 | 17=>3 | 18=>4 | 19=>5 | n=>n⟩
theorem Tryz.laysC172:Go.Proofs.LaysC.n172 Tryz.prog Tryz.laysC172_ren:={
 mixed:=by kernel_rfl
 f129:=Tryz.func173.trans (congrArg some (by kernel_rfl))
 f171:=Tryz.func132.trans (congrArg some (by kernel_rfl))
 f172:=Tryz.func131.trans (congrArg some (by kernel_rfl))
 f205:=Tryz.func164.trans (congrArg some (by kernel_rfl))
 f243:=Tryz.func146.trans (congrArg some (by kernel_rfl))
 f244:=Tryz.func144.trans (congrArg some (by kernel_rfl))
 f245:=Tryz.func145.trans (congrArg some (by kernel_rfl))
 f246:=Tryz.func158.trans (congrArg some (by kernel_rfl))
 f247:=Tryz.func153.trans (congrArg some (by kernel_rfl))
 f279:=Tryz.func154.trans (congrArg some (by kernel_rfl))
 f280:=Tryz.func155.trans (congrArg some (by kernel_rfl))
 f281:=Tryz.func156.trans (congrArg some (by kernel_rfl))
 f282:=Tryz.func157.trans (congrArg some (by kernel_rfl))
 f283:=Tryz.func165.trans (congrArg some (by kernel_rfl))
 f284:=Tryz.func166.trans (congrArg some (by kernel_rfl))
 f285:=Tryz.func167.trans (congrArg some (by kernel_rfl))
 f286:=Tryz.func168.trans (congrArg some (by kernel_rfl))
 f287:=Tryz.func162.trans (congrArg some (by kernel_rfl))
 f316:=Tryz.func163.trans (congrArg some (by kernel_rfl))
 f317:=Tryz.func172.trans (congrArg some (by kernel_rfl))
 f318:=Tryz.func174.trans (congrArg some (by kernel_rfl))
 f319:=Tryz.func175.trans (congrArg some (by kernel_rfl))
 f320:=Tryz.func176.trans (congrArg some (by kernel_rfl))
 f321:=Tryz.func170.trans (congrArg some (by kernel_rfl))
 f322:=Tryz.func171.trans (congrArg some (by kernel_rfl))
 f337:=Tryz.func177.trans (congrArg some (by kernel_rfl))
 f338:=Tryz.func178.trans (congrArg some (by kernel_rfl))
 t0:=Tryz.underlying0
 a0:=Tryz.isAgg0
 z0:=Tryz.sizeOf0
 v0:=Tryz.zeroValue0
 t2:=Tryz.underlying2
 a2:=Tryz.isAgg2
 z2:=Tryz.sizeOf2
 v2:=Tryz.zeroValue2
 t3:=Tryz.underlying3
 a3:=Tryz.isAgg3
 z3:=Tryz.sizeOf3
 v3:=Tryz.zeroValue3
 t4:=Tryz.underlying4
 a4:=Tryz.isAgg4
 z4:=Tryz.sizeOf4
 v4:=Tryz.zeroValue4
 t5:=Tryz.underlying5
 a5:=Tryz.isAgg5
 z5:=Tryz.sizeOf5
 v5:=Tryz.zeroValue5
 t9:=Tryz.underlying9
 a9:=Tryz.isAgg9
 z9:=Tryz.sizeOf9
 v9:=Tryz.zeroValue9
 t20:=Tryz.underlying20
 a20:=Tryz.isAgg20
 z20:=Tryz.sizeOf20
 v20:=Tryz.zeroValue20
 t21:=Tryz.underlying21
 a21:=Tryz.isAgg21
 z21:=Tryz.sizeOf21
 v21:=Tryz.zeroValue21
 t37:=Tryz.underlying253
 a37:=Tryz.isAgg253
 z37:=Tryz.sizeOf253
 v37:=Tryz.zeroValue253
 t46:=Tryz.underlying264
 a46:=Tryz.isAgg264
 z46:=Tryz.sizeOf264
 v46:=Tryz.zeroValue264
 t51:=Tryz.underlying283
 a51:=Tryz.isAgg283
 z51:=Tryz.sizeOf283
 v51:=Tryz.zeroValue283
 t53:=Tryz.underlying261
 a53:=Tryz.isAgg261
 z53:=Tryz.sizeOf261
 v53:=Tryz.zeroValue261
 t75:=Tryz.underlying227
 a75:=Tryz.isAgg227
 z75:=Tryz.sizeOf227
 v75:=Tryz.zeroValue227
 t76:=Tryz.underlying228
 a76:=Tryz.isAgg228
 z76:=Tryz.sizeOf228
 v76:=Tryz.zeroValue228
 t85:=Tryz.underlying254
 a85:=Tryz.isAgg254
 z85:=Tryz.sizeOf254
 v85:=Tryz.zeroValue254
 t127:=Tryz.underlying277
 a127:=Tryz.isAgg277
 z127:=Tryz.sizeOf277
 v127:=Tryz.zeroValue277
 t143:=Tryz.underlying278
 a143:=Tryz.isAgg278
 z143:=Tryz.sizeOf278
 v143:=Tryz.zeroValue278
 t145:=Tryz.underlying280
 a145:=Tryz.isAgg280
 z145:=Tryz.sizeOf280
 v145:=Tryz.zeroValue280
 t167:=Tryz.underlying252
 a167:=Tryz.isAgg252
 z167:=Tryz.sizeOf252
 v167:=Tryz.zeroValue252
 t168:=Tryz.underlying256
 a168:=Tryz.isAgg256
 z168:=Tryz.sizeOf256
 v168:=Tryz.zeroValue256
 t171:=Tryz.underlying269
 a171:=Tryz.isAgg269
 z171:=Tryz.sizeOf269
 v171:=Tryz.zeroValue269
 t173:=Tryz.underlying272
 a173:=Tryz.isAgg272
 z173:=Tryz.sizeOf272
 v173:=Tryz.zeroValue272
 t175:=Tryz.underlying262
 a175:=Tryz.isAgg262
 z175:=Tryz.sizeOf262
 v175:=Tryz.zeroValue262
 t210:=Tryz.underlying267
 a210:=Tryz.isAgg267
 z210:=Tryz.sizeOf267
 v210:=Tryz.zeroValue267
 t212:=Tryz.underlying282
 a212:=Tryz.isAgg282
 z212:=Tryz.sizeOf282
 v212:=Tryz.zeroValue282
 t213:=Tryz.underlying284
 a213:=Tryz.isAgg284
 z213:=Tryz.sizeOf284
 t232:=Tryz.underlying287
 a232:=Tryz.isAgg287
 z232:=Tryz.sizeOf287
 v232:=Tryz.zeroValue287
 t233:=Tryz.underlying288
 a233:=Tryz.isAgg288
 z233:=Tryz.sizeOf288
 v233:=Tryz.zeroValue288
 g15:=by kernel_rfl
 g16:=by kernel_rfl
 g17:=by kernel_rfl
 g18:=by kernel_rfl
 g19:=by kernel_rfl
 t80:=Tryz.underlying115
 a80:=Tryz.isAgg115
 z80:=Tryz.sizeOf115
 v80:=Tryz.zeroValue115
 i0:=by kernel_rfl
 i2:=by kernel_rfl
 i3:=by kernel_rfl
 i4:=by kernel_rfl
 i5:=by kernel_rfl
 i9:=by kernel_rfl
 i20:=by kernel_rfl
 i21:=by kernel_rfl
 i37:=by kernel_rfl
 i46:=by kernel_rfl
 i51:=by kernel_rfl
 i53:=by kernel_rfl
 i75:=by kernel_rfl
 i76:=by kernel_rfl
 i80:=by kernel_rfl
 i85:=by kernel_rfl
 i127:=by kernel_rfl
 i143:=by kernel_rfl
 i145:=by kernel_rfl
 i167:=by kernel_rfl
 i168:=by kernel_rfl
 i171:=by kernel_rfl
 i173:=by kernel_rfl
 i175:=by kernel_rfl
 i210:=by kernel_rfl
 i212:=by kernel_rfl
 i232:=by kernel_rfl
 i233:=by kernel_rfl
 m15:=by kernel_rfl
 m16:=by kernel_rfl
 m17:=by kernel_rfl
 m18:=by kernel_rfl
 m19:=by kernel_rfl
 c0:=by kernel_rfl
 c2:=by kernel_rfl
 c3:=by kernel_rfl
 c4:=by kernel_rfl
 c5:=by kernel_rfl
 c9:=by kernel_rfl
 c20:=by kernel_rfl
 c21:=by kernel_rfl
 c37:=by kernel_rfl
 c46:=by kernel_rfl
 c51:=by kernel_rfl
 c53:=by kernel_rfl
 c75:=by kernel_rfl
 c76:=by kernel_rfl
 c80:=by kernel_rfl
 c85:=by kernel_rfl
 c127:=by kernel_rfl
 c143:=by kernel_rfl
 c145:=by kernel_rfl
 c167:=by kernel_rfl
 c168:=by kernel_rfl
 c171:=by kernel_rfl
 c173:=by kernel_rfl
 c175:=by kernel_rfl
 c210:=by kernel_rfl
 c212:=by kernel_rfl
 c213:=by kernel_rfl
 c232:=by kernel_rfl
 c233:=by kernel_rfl }
end Go.Proofs
end
section
namespace Go.Proofs.YtpjekjnehiinnaaGreatDoor
open Go.Bw
open Go.Proofs
theorem lex_cond (n:Nat) (u:Int):(((((n:Int)==0)||decide (8<(n:Int)))||decide (u<97))||decide (122<u)) = !((decide (1≤n)&&decide (n≤8))&&letterB u):=by
 rw [Bool.eq_iff_iff]
 simp [letterB]
 omega
theorem at0 {s:List UInt8} {i:Nat} (h:i<s.length):s[i]? = some (s[i]?.getD 0):=by rw [List.getElem?_eq_getElem h]; rfl
theorem all_no {s:List UInt8} {p:UInt8→Bool} {i:Nat} (h:i<s.length) (hp:p (s[i]?.getD 0)=false):s.all p=false:=by
 rw [List.all_eq_false]
 exact ⟨_,List.mem_of_getElem? (at0 h),by simp [hp]⟩
theorem all_yes {s:List UInt8} {p:UInt8→Bool} (h:∀i,i<s.length→p (s[i]?.getD 0)=true):s.all p=true:=by
 rw [List.all_eq_true]
 intro x hx
 obtain ⟨i,hi⟩:=List.getElem?_of_mem hx
 have:=h i (List.getElem?_eq_some_iff.1 hi).1
 rw [hi] at this
 exact this
theorem indexByte_ge0 (u:UInt8):∀s:List UInt8,decide (0≤Lib.indexByte s u)=s.contains u
 | []=>rfl
 | b::l=>by
   have ih:=indexByte_ge0 u l
   have hge:=Lib.indexByte_ge l u
   unfold Lib.indexByte
   by_cases hb:b=u
   · subst hb; simp
   · have h1:(b==u)=false:=by simpa using hb
     have h2:(u==b)=false:=by simpa using fun h=>hb h.symm
     rw [if_neg (by simp [h1]),List.contains_cons,h2,Bool.false_or,←ih]
     split
     · rename_i h; simp at h; simp [h]
     · rename_i h; simp at h
       rw [Bool.eq_iff_iff]; simp; omega
theorem toNat_inj {u v:UInt8} (h:(u.toNat:Int)=(v.toNat:Int)):u=v:=UInt8.toNat_inj.1 (by omega)
theorem us9:Tryz.prog.underlying 9=some .string:=by kernel_rfl
theorem en60:Enters Tryz.prog 60:=enters_of Tryz.func60 (by kernel_rfl) rfl
theorem en133:Enters Tryz.prog 133:=enters_of Tryz.func133 (by kernel_rfl) rfl
theorem plain_char (u:Int) (w:World) :
   Calls Tryz.prog 60 #[.int .u8 u] w fun e w'=>e = .returned (.bool (letterB u||digitB u))∧Ext w w':=by
 refine enter Tryz.func60 O 17 O O ?_
 refine CWd (W':=Ws w [] [] []) (fun _ e=>by subst e; exact Ws.init (by simp)) ?_
 refine Cs (Cr (V0 (Ya O) (Ln (Et (Cs (Cr (V0 (Ym O) (V0 (yl_ge O O) (V0 (Ym O) ?_)))))))))
 apply La 2 O O O O Y O O O O O
 ·
  intro hg0
  refine Vg (Ym O) (Vg (yl_le O O) ?_)
  exact Gt 2 O O O
 refine V0 (Ym O) ?_
 apply Lo 6 O O O O Y O O O O O
 ·
  intro hg1
  refine Vg (Ym O) (Vg (yl_ge O O) (Vg (Ym O) ?_))
  apply La 2 O O O O (.g O O O) O O O O O
  ·
   intro hg2
   refine Vg (Ym O) (Vg (yl_le O O) ?_)
   exact Gt 2 O O O
  exact Gt 4 O O O
 refine V0 (Ya O) (Ln (Et (Crt ?_)))
 refine R1 O O fun w' hw=>?_
 exact ⟨O,hw.fr⟩
theorem lexName_any (s:List UInt8) (w:World) :
   Calls Tryz.prog 41 #[st s] w fun e w'=>e = .returned (.bool (nameB s))∧Ext w w':=by
 refine enter Tryz.func41 O 33 O O ?_
 refine CWd (W':=Ws w [] [] []) (fun _ e=>by subst e; exact Ws.init (by simp)) ?_
 refine Cs (Cr (V0 (Ya O) (Ln (Et (Cs (Cs (Cr (V0 (Ym O) (V0 (yl_lens us9 O) (V0 (yl_eq O O) ?_))))))))))
 refine V0 (Ym O) ?_
 apply Lo 3 O O O O Y O O O O O
 ·
  intro hg0
  refine Vg (Ym O) (Vg (yl_lens us9 O) (Vg (yl_gt O O) ?_))
  exact Gt 3 O O O
 refine V0 (Ym O) ?_
 apply Lo 3 O O O O Y O O O O O
 ·
  intro hg1
  have h0:0<s.length:=by
    rcases Nat.eq_zero_or_pos s.length with h | h
    · simp [h] at hg1
    · exact h
  have hu0:=at0 h0
  refine Vg (Ym O) ?_
  refine Vg (yl_idxk us9 O O (by assumption)) ?_
  refine Vg (yl_lt O O) ?_
  exact Gt 3 O O O
 refine V0 (Ym O) ?_
 apply Lo 3 O O O O Y O O O O O
 ·
  intro hg2
  have h0:0<s.length:=by
    rcases Nat.eq_zero_or_pos s.length with h | h
    · simp [h] at hg2
    · exact h
  have hu0:=at0 h0
  refine Vg (Ym O) (Vg (yl_idxk us9 O O hu0) (Vg (yl_gt O O) ?_))
  exact Gt 3 O O O
 refine Ln (Et ?_)
 refine Cc O (fun hc0=>?_) (fun hc0=>?_)
 ·
  rw [lex_cond] at hc0
  have hn:nameB s=false:=by
    unfold nameB
    simp only [Bool.not_eq_true'] at hc0
    rw [hc0]; rfl
  refine Cs (Cr (V0 (Ya O) (Ln (Et (Crt (Er ?_))))))
  refine R1 O O fun w' hw=>?_
  exact ⟨by rw [hn],hw.fr⟩
 rw [lex_cond] at hc0
 have hok:((decide (1≤s.length)&&decide (s.length≤8))&&letterB ((s[0]?.getD 0).toNat))=true:=by simpa using hc0
 have h8:s.length≤8:=by simp at hok; omega
 refine Ck (Et (Cs (Cs (Cr (V0 (Ym O) (V0 (yl_lens us9 O) (V0 (Ym O) (Ln (Et (Cb ?_))))))))))
 refine CW (ι:=Nat) (fun i=>[(24,.int .i64 (i:Int))]) [(0,_),(23,_)] (fun i=>i≤s.length∧∀j,j<i→charB (s[j]?.getD 0)=true) (fun i=>s.length-i) 0 ⟨Nat.zero_le _,by simp⟩ (sc O (sc O (sc O sn))) ?_
 intro i ⟨hi,hall⟩
 refine Cs (Cr (V0 (yl_lt O O) (Ln (Et (Cs ?_)))))
 refine Cc O (fun hc1=>?_) (fun hc1=>?_)
 ·
  have hlt:i<s.length:=by simpa using hc1
  have hui:=at0 hlt
  refine Ck (Et (Cs (Cb (Cs (Cr (V0 (Ym O) (V0 (Ya O) (Ln (Et (Cs (Cr (V0 (Ym O) (V0 (Ym O) ?_)))))))))))))
  refine V0 (yl_idxk us9 O O hui) ?_
  refine Lp Y O en60 O (fun w hw=>plain_char _ w) ?_
  refine V0 (yl_not O) (Ln (Et ?_))
  refine Cc O (fun hc2=>?_) (fun hc2=>?_)
  ·
   have hch:charB (s[i]?.getD 0)=false:=by unfold charB; revert hc2; cases letterB _<;>cases digitB _<;>simp
   refine Cs (Cr (V0 (Ya O) (Ln (Et (Crt (Ebr (Er (Er (Ebr (Er ?_))))))))))
   refine R1 O O fun w' hw=>?_
   exact ⟨by unfold nameB; rw [all_no hlt hch]; simp,hw.fr⟩
  have hch:charB (s[i]?.getD 0)=true:=by unfold charB; revert hc2; cases letterB _<;>cases digitB _<;>simp
  refine Ck (Eb (Et (Cr ?_)))
  refine V0 (Yi O O O (by omega)) ?_
  refine V0 (Ym O) (Ln ?_)
  exact Ea (i+1) (by omega) ⟨by omega,fun j hj=>by rcases Nat.lt_succ_iff_lt_or_eq.1 hj with h | rfl; exact hall j h; exact hch⟩ (sc rfl (sc rfl (sc rfl sn))) (fun _ h=>h)
 have hge:¬i<s.length:=by simpa using hc1
 refine Ce (Ex (Ex (Ebh (Et (Cs (Cr (V0 (Ya O) (Ln (Et (Crt ?_))))))))))
 refine R1 O O fun w' hw=>?_
 exact ⟨by unfold nameB; rw [all_yes fun j hj=>hall j (by omega),hok]; rfl,hw.fr⟩
theorem indexByte_any (s:List UInt8) (u:UInt8) (w:World):Calls Tryz.prog 133 #[st s,.int .u8 (u.toNat:Int)] w fun e w'=>e = .returned (.int .i64 (Lib.indexByte s u))∧Ext w w':=
 (Any.strings_IndexByte Go.Proofs.Tryz.lays137 ⟨s.toArray⟩ (u.toNat:Int) w).mono fun e w' h=>by
   obtain ⟨h1,h2⟩:=h
   subst h2
   have e1:((u.toNat:Int)).toNat.toUInt8=u:=by simp
   rw [e1] at h1
   exact ⟨h1,Fr.refl _ _⟩
theorem lexSign_any (u:UInt8) (w:World) :
   Calls Tryz.prog 99 #[.int .u8 (u.toNat:Int)] w fun e w'=>e = .returned (.bool (signB u))∧Ext w w':=by
 refine enter Tryz.func99 O 6 O O ?_
 refine CWd (W':=Ws w [] [] []) (fun _ e=>by subst e; exact Ws.init (by simp)) ?_
 refine Cs (Cr (V0 (Ya O) (Ln (Et (Cs (Cr (V0 (Ym O) ?_)))))))
 refine Lp Y O en133 O (fun w hw=>indexByte_any signL u w) ?_
 refine V0 (yl_ge O O) (V0 (Ya O) (Ln (Et (Crt ?_))))
 refine R1 O O fun w' hw=>?_
 exact ⟨by rw [indexByte_ge0]; rfl,hw.fr⟩
end Go.Proofs.YtpjekjnehiinnaaGreatDoor
end
section
namespace Go.Proofs.YtpjekjnehiinnaaGreatDoor
open Go.Bw
theorem take_snoc {α:Type} {l:List α} {i:Nat} {x:α} (h:l[i]? = some x):l.take (i+1)=l.take i++[x]:=by rw [List.take_add_one,h]; rfl
end Go.Proofs.YtpjekjnehiinnaaGreatDoor
end
section
namespace Go.Proofs.YtpjekjnehiinnaaGreatDoor
open Go.Bw
def atoiV (s:List UInt8):Int:=match Lib.atoiAll s with | .ok v=>v | .range=>Lib.atoiSat s | _=>0
def atoiK (s:List UInt8):Bool:=match Lib.atoiAll s with | .ok _=>true | _=>false
theorem atoiV_in (s:List UInt8) : -9223372036854775808≤atoiV s∧atoiV s≤9223372036854775807:=by
 unfold atoiV
 cases h:Lib.atoiAll s with
 | ok v=>exact Lib.atoiAll_bounds h
 | range=>exact Lib.atoiSat_bounds s
 | _=>simp
theorem wordP_no {s:List UInt8} (h:nameB s=false):wordP s=(⟨2,atoiV s,[]⟩,((atoiK s&&decide (0≤atoiV s))&&decide (atoiV s≤1099511627775))&&(Lib.itoa (atoiV s)==s)):=by
 rw [wordP,if_neg (by simp [h])]
 unfold atoiV atoiK
 cases Lib.atoiAll s<;>simp
theorem lexO_no {s:List UInt8} {l:List Tok} {t:List UInt8} (h:lexO s=(lexO t).map (l++·)) (ht:lexO t=none):¬4096<s.length→lexR s=([],1):=fun hl=>by
 rw [lexR,if_neg hl,h,ht]; rfl
theorem lexO_yes {s:List UInt8} {l:List Tok} (h:lexO s=(lexO []).map (l++·)):¬4096<s.length→lexR s=(l,0):=fun hl=>by
 rw [lexR,if_neg hl,h]; simp [lexO_nil]
theorem map_app {o:Option (List Tok)} {l:List Tok} {t:Tok}:(o.map (t::·)).map (l++·)=o.map ((l++[t])++·):=by
 cases o<;>simp
end Go.Proofs.YtpjekjnehiinnaaGreatDoor
end
section
namespace Go.Proofs.YtpjekjnehiinnaaGreatDoor
open Go.Bw
abbrev Laid (H:View):Prop:=LaidV Tryz.prog 3 0 1 H
def powNm : String := (Rows.genMakesRow.laid.map (·.1)).getD 2 ""
theorem powName:Tryz.prog.globalNamed powNm=some 3:=by kernel_rfl
theorem itoa_any (G:View) (n:Int) (h0 : -9223372036854775808≤n) (h1:n≤9223372036854775807) (w:World) (hG:Le G w) (hz:Laid G) :
   Calls Tryz.prog 132 #[.int .i64 n] w fun e w'=>e = .returned (st (Lib.itoa n))∧Ext w w':=
 (Any.strconv_Itoa Go.Proofs.Tryz.laysM171 n h0 h1 w (hz.tab hG powName)).mono fun e w' h=>by
   obtain ⟨h1,k,os,rfl⟩:=h
   exact ⟨h1,ext_grow w k os⟩
theorem atoi_any (G:View) (s:List UInt8) (hs:s.length≤4096) (w:World) (hG:Le G w) (hz:Laid G) :
   Calls Tryz.prog 131 #[st s] w fun e w'=>∃r:Value,e = .returned (.tuple #[.int .i64 (atoiV s),r])∧Ext w w'∧ErrIs r (atoiK s):=by
 have hsz:(ByteArray.mk s.toArray).size=s.length:=size_st s
 cases h:Lib.atoiAll s with
 | ok v=>
   refine (Any.strconv_Atoi_ok Go.Proofs.Tryz.laysC172 ⟨s.toArray⟩ (by rw [hsz]; omega) v h w).mono fun e w' hh=>?_
   obtain ⟨h1,h2⟩:=hh
   refine ⟨.nilIface,by simp only [atoiV,h]; exact h1,?_,by simp [ErrIs,atoiK,h]⟩
   rcases h2 with rfl | ⟨t,rfl⟩
   · exact Fr.refl _ _
   · exact Ext.of_below (Lib.bytesWorld_below _ _ _)
 | range=>
   obtain ⟨ev,hv,hev⟩:=hz.rng
   refine (Any.strconv_Atoi_range Go.Proofs.Tryz.laysC172 ⟨s.toArray⟩ (by rw [hsz]; omega) h ev w (hG.cell hv) hev).mono fun e w' hh=>?_
   obtain ⟨N,h1,_,_,h2⟩:=hh
   exact ⟨_,by simp only [atoiV,h]; exact h1,Ext.of_below h2,by simp [ErrIs,atoiK,h]⟩
 | _=>
   obtain ⟨ev,hv,hev⟩:=hz.syn
   refine (Any.strconv_Atoi_syntax Go.Proofs.Tryz.laysC172 ⟨s.toArray⟩ (by rw [hsz]; omega) h ev w (hG.cell hv) hev).mono fun e w' hh=>?_
   obtain ⟨N,h1,_,_,h2⟩:=hh
   exact ⟨_,by simp only [atoiV,h]; exact h1,Ext.of_below h2,by simp [ErrIs,atoiK,h]⟩
theorem uif227:Tryz.prog.underlying 227=some (.interface (Tryz.prog.methodsAt 227)):=by kernel_rfl
theorem zr194:zeroOf Tryz.prog 194=some (.agg #[.int .i64 0,.int .i64 0,st []]):=by kernel_rfl
theorem en41:Enters Tryz.prog 41:=enters_of Tryz.func41 (by kernel_rfl) rfl
theorem pl194:placesP Tryz.prog 194=some [(0,1),(1,1),(2,1)]:=by kernel_rfl
theorem sz194:sizeP Tryz.prog 194=some 3:=by kernel_rfl
theorem ag194:aggOf Tryz.prog 194=some 3:=by kernel_rfl
theorem en131:Enters Tryz.prog 131:=enters_of Tryz.func131 (by kernel_rfl) rfl
theorem en132:Enters Tryz.prog 132:=enters_of Tryz.func132 (by kernel_rfl) rfl
theorem en98:Enters Tryz.prog 98:=enters_of Tryz.func98 (by kernel_rfl) rfl
theorem el169:EltOk Tryz.prog 169 194 (.agg #[.int .i64 0,.int .i64 0,st []]) 3 32:=eltOk_of (by kernel_rfl)
theorem en99:Enters Tryz.prog 99:=enters_of Tryz.func99 (by kernel_rfl) rfl
theorem word_any (G:View) (s:List UInt8) (hs:s.length≤4096) (w:World) (hG:Le G w) (hz:Laid G) :
   Calls Tryz.prog 98 #[st s] w fun e w'=>e = .returned (.tuple #[.agg #[.int .i64 (wordP s).1.kind,.int .i64 (wordP s).1.n,st (wordP s).1.text],.bool (wordP s).2])∧Ext w w':=by
 refine enter Tryz.func98 O 33 O O ?_
 refine CWd (W':=Ws w [] [] [G]) (fun _ e=>by subst e; exact Ws.init (by simp [hG])) ?_
 refine Cs (Cr ?_)
 refine Al Y O zr194 fun b2=>?_
 refine V0 (Ya O) (Ln (Et (Cs (Cs (Cr (V0 (Ym O) ?_))))))
 refine Lp Y O en41 O (fun w hw=>lexName_any _ w) ?_
 refine Ln (Et ?_)
 refine Cc O (fun hc0=>?_) (fun hc0=>?_)
 ·
  have hW:wordP s=(⟨1,0,s⟩,true):=by rw [wordP,if_pos hc0]
  refine Cs (Cr (V0 (Ym O) (V0 (Yb zr194 pl194 O O) (Lst 0 Y O O O sz194 O O O (V0 (Ya O) (Ln (Et (Crt (Er ?_)))))))))
  refine WE.retc2 0 O O O O ag194 O fun w' hw=>?_
  rw [hW]
  exact ⟨O,hw.fr⟩
 have hW:=wordP_no hc0
 have hin:=atoiV_in s
 refine Ck (Et (Cs (Cr (V0 (Ym O) ?_))))
 refine Ld Y O en131 O (fun r:Value=>.tuple #[.int .i64 (atoiV s),r]) (fun _ r=>ErrIs r (atoiK s)) (fun w hw=>atoi_any G s hs w (hw.vs _ (by simp)) hz) ?_
 intro F12 r12 hf12 h12
 refine V0 (Ym O) (V0 (Yx O O) (V0 (Yx O O) (V0 (Ya O) (V0 (Ya O) (Ln (Et (Cs (Cr ?_))))))))
 refine V0 (Ym O) (V0 (Yb zr194 pl194 O O) (V0 (Ym O) (V0 (yl_eqnr (atoiK s) uif227 O h12) (V0 (Ym O) ?_))))
 apply La 2 O O O O Y O O O O O
 ·
  intro hg0
  refine Vg (Ym O) (Vg (yl_ge O O) ?_)
  exact Gt 2 O O O
 refine V0 (Ym O) ?_
 apply La 2 O O O O Y O O O O O
 ·
  intro hg1
  refine Vg (Ym O) (Vg (yl_le O O) ?_)
  exact Gt 2 O O O
 refine V0 (Ym O) ?_
 apply La 4 O O O O Y O O O O O
 ·
  intro hg2
  refine Vg (Ym O) ?_
  refine Lp (.g O O O) O en132 O (fun w hw=>itoa_any G _ hin.1 hin.2 w (hw.vs _ (by simp)) hz) ?_
  refine Vg (Ym O) (Vg (yl_eqs O O) ?_)
  exact Gt 4 O O O
 refine Lst 0 Y O O O sz194 O O O (V0 (Ya O) (Ln (Et (Crt ?_))))
 refine WE.retc2 0 O O O O ag194 O fun w' hw=>?_
 rw [hW]
 exact ⟨O,hw.fr⟩
theorem lex_any (G:View) (s:List UInt8) (w:World) (hG:Le G w) (hz:Laid G) :
   Calls Tryz.prog 77 #[st s] w fun e w'=>∃r:Option Addr×Nat,e = .returned (.tuple #[.slice r.1 (lexR s).1.length r.2,.int .i64 (lexR s).2])∧Ext w w'∧Sl rdTok 3 (nv w w') r.1 r.2 (lexR s).1:=by
 refine enter Tryz.func77 O 66 O O ?_
 refine CWd (W':=Ws w [] [] [G]) (fun _ e=>by subst e; exact Ws.init (by simp [hG])) ?_
 refine Cs (Cr (V0 (Ya O) (V0 (Ya O) (Ln (Et (Cs (Cs (Cr (V0 (Ym O) (V0 (yl_lens us9 O) ?_))))))))))
 refine V0 (yl_gt O O) (Ln (Et ?_))
 refine Cc O (fun hc0=>?_) (fun hc0=>?_)
 ·
  have hl:4096<s.length:=by simp at hc0; omega
  have hR:lexR s=([],2):=by rw [lexR,if_pos hl]
  refine Cs (Cr (V0 (Ya O) (V0 (Ya O) (Ln (Et (Crt (Er ?_)))))))
  refine WE.retR (rs_2 O (rv_tmp O) (rv_tmp O)) fun w' hw=>?_
  rw [hR]
  exact ⟨(none,0),O,hw.fr,Sl.nil⟩
 have hl:¬4096<s.length:=by simp at hc0; omega
 refine Ck (Et (Cs (Cr (V0 (Ya O) ?_))))
 refine LW (fun _ h=>h.osl_nil 194 3) ?_
 refine Ln (Et (Cs (Cb ?_)))
 refine CLk (ι:=List UInt8×List Tok×Option Addr×Nat) (fun g=>[(0,st g.1),(4,.slice g.2.2.1 g.2.1.length g.2.2.2)]) [] (fun g=>Ws w [] [osT 194 3 Tok.cells g.2.2.1 g.2.2.2 (g.2.1)] [G]) (fun g=>g.2.1.length+g.1.length≤s.length∧lexO s=(lexO g.1).map (g.2.1++·)) (fun g=>g.1.length) (s,[],none,0) ⟨by simp,by simp⟩ (sc O (sc O sn)) (fun _ h=>h) ?_
 intro g ⟨hgl,hO⟩
 refine Cs (Cs (Cr (V0 (Ym O) (V0 (yl_nes O O) (Ln (Et ?_))))))
 refine Cc O (fun hc1=>?_) (fun hc1=>?_)
 ·
  obtain ⟨u,r,hcr⟩:∃u r,g.1=u::r:=by
    cases hg1:g.1 with
    | nil=>rw [hg1] at hc1; simp at hc1
    | cons u r=>exact ⟨u,r,rfl⟩
  have hcl:g.1.length=r.length+1:=by rw [hcr]; rfl
  refine Ck (Et (Cb (Cs (Cr (V0 (Ya O) (Ln (Et (Cs (Cb ?_)))))))))
  refine CW (ι:=Nat) (fun i=>[(5,.int .i64 (i:Int))]) [(0,_),(4,_)] (fun i=>i≤g.1.length∧∀j,j<i→charB (g.1[j]?.getD 0)=true) (fun i=>g.1.length-i) 0 ⟨Nat.zero_le _,by simp⟩ (sc O (sc O (sc O sn))) ?_
  intro i ⟨hi,hall⟩
  refine Cs (Cs (Cr (V0 (Ym O) (V0 (Ym O) (V0 (yl_lens us9 O) (V0 (yl_lt O O) (V0 (Ym O) ?_)))))))
  apply La 4 O O O O Y O O O O O
  ·
   intro hg0
   have hlt:i<g.1.length:=by simpa using hg0
   have hu0:=at0 hlt
   refine Vg (Ym O) (Vg (Ym O) (Vg (yl_idxk us9 O O hu0) ?_))
   refine Lp (.g O O O) O en60 O (fun w hw=>plain_char _ w) ?_
   exact Gt 4 O O O
  refine Ln (Et ?_)
  refine Cc O (fun hc2=>?_) (fun hc2=>?_)
  ·
   have hlt:i<g.1.length:=by
     simp only [Bool.and_eq_true,decide_eq_true_eq] at hc2
     omega
   have hch:charB (g.1[i]?.getD 0)=true:=by
     simp only [Bool.and_eq_true] at hc2
     exact hc2.2
   refine Ck (Et (Cb (Cr (V0 (Ym O) ?_))))
   refine V0 (Yi O O O (by omega)) ?_
   refine V0 (Ya O) (Ln (Eb ?_))
   exact Ea (i+1) (by omega) ⟨by omega,fun j hj=>by rcases Nat.lt_succ_iff_lt_or_eq.1 hj with h | rfl; exact hall j h; exact hch⟩ (sc rfl (sc rfl (sc rfl sn))) (fun _ h=>h)
  have hrn:runC g.1=i:=by
    refine runC_spec _ _ hi hall ?_
    rcases Nat.lt_or_ge i g.1.length with h | h
    · right
      rw [decide_eq_true (by omega:((i:Nat):Int)<(g.1.length:Int)),Bool.true_and] at hc2
      exact hc2
    · left; omega
  have hu1:g.1[0]? = some u:=by rw [hcr]; rfl
  refine Ce (Ex (Ex (Ebh (Et (Cs (Cs (Cr (V0 (Ym O) (V0 (yl_idxk us9 O O (i:=0) hu1) (V0 (Ya O) (Ln (Et (Cb (Cs (Cr ?_)))))))))))))))
  refine V0 (Ym O) (V0 (yl_gt O O) (V0 (Ya O) (Ln (Et ?_))))
  refine Cc O (fun hc3=>?_) (fun hc3=>?_)
  ·
   have h0n:0<i:=by simp at hc3; omega
   refine Cs (Cr (V0 (Ym O) (V0 (Ym O) ?_)))
   refine V0 (yl_ssh Tryz.underlying9 O O (by omega) (by omega)) ?_
   rw [Int.toNat_natCast]
   refine Lp Y O en98 O (fun w hw=>word_any G _ (by simp; omega) w (hw.vs _ (by simp)) hz) ?_
   refine V0 (Ym O) (V0 (Yx O O) (V0 (Yx O O) ?_))
   refine Al Y O zr194 fun b7=>?_
   refine Lst 0 Y O O O sz194 O O O (V0 (Ya O) (Ln (Et (Cs (Cs (Cr (V0 (Ym O) (V0 (yl_not O) (Ln (Et ?_))))))))))
   refine Cc O (fun hc4=>?_) (fun hc4=>?_)
   ·
    have hR:lexR s=([],1):=lexO_no hO (by rw [lexO_word (by omega),hrn,word_same,if_neg (by simpa using hc4)]) hl
    refine Cs (Cr (V0 (Ya O) (V0 (Ya O) (Ln (Et (Crt (Er (Ebr (Er (Ebr (Er (Ebr (Er ?_)))))))))))))
    refine WE.retR (rs_2 O (rv_tmp O) (rv_tmp O)) fun w' hw=>?_
    rw [hR]
    exact ⟨(none,0),O,hw.fr,Sl.nil⟩
   have hwt:wordT (g.1.take i)=some ((wordP (g.1.take i)).1):=by rw [word_same,if_pos (by simpa using hc4)]
   refine Ck (Et (Cs (Cr (V0 (Ym O) (V0 (Yda 0 O O ag194 O) ?_)))))
   refine Lb Y O el169 O O O O fun b42=>?_
   refine Lrb 0 (.cells (Tok.cells ((wordP (g.1.take i)).1)).toArray 194 (0,0)) O O ?_
   refine LA ((wordP (g.1.take i)).1) 2 0 Y O el169 O O O O O O (by omega) (by omega) fun a43 c43=>?_
   refine V0 (Ya O) (Ln (Et (Cs (Cr (V0 (Ym O) (V0 (Ym O) ?_))))))
   refine V0 (yl_sst Tryz.underlying9 O O (by omega) (by omega)) ?_
   rw [Int.toNat_natCast]
   refine V0 (Ya O) (Ln (Et (Ce (Ebm O (Ex (Ebh ?_))))))
   exact Ea ((g.1.drop i,g.2.1++[(wordP (g.1.take i)).1],a43,c43):List UInt8×List Tok×Option Addr×Nat) (by dsimp only; simp; omega) ⟨by dsimp only; simp; omega,by
       dsimp only
       rw [hO,lexO_word (by omega),hrn,hwt]
       simp only
       rw [map_app]⟩ (sc rfl (sc rfl sn)) (fun _ h=>Wd 2 h)
  have h0c:runC (u::r)=0:=by rw [←hcr,hrn]; simp at hc3; omega
  refine Cs (Cr (V0 (Ym O) ?_))
  refine Lp Y O en99 O (fun w hw=>lexSign_any _ w) ?_
  refine V0 (Ya O) (Ln (Et ?_))
  refine Cc O (fun hc5=>?_) (fun hc5=>?_)
  ·
   refine Cr (V0 (Ym O) (V0 (Ym O) ?_))
   refine V0 (yl_ssh Tryz.underlying9 O O (by omega) (by omega)) ?_
   rw [show g.1.take (1:Int).toNat=[u] by rw [hcr]; rfl]
   refine V0 (Yb zr194 pl194 O O) ?_
   refine Lb Y O el169 O O O O fun b54=>?_
   refine Lrb 0 (.cells (Tok.cells (Tok.mk 3 0 [u])).toArray 194 (0,0)) O O ?_
   refine LA (Tok.mk 3 0 [u]) 1 0 Y O el169 O O O O O O (by omega) (by omega) fun a55 c55=>?_
   refine V0 (Ya O) (Ln (Eb (Et (Cr (V0 (Ym O) ?_)))))
   refine V0 (yl_sst Tryz.underlying9 O O (by omega) (by omega)) ?_
   rw [show g.1.drop (1:Int).toNat=r by rw [hcr]; rfl]
   refine V0 (Ya O) (Ln (Eb ?_))
   exact Ea ((r,g.2.1++[Tok.mk 3 0 [u]],a55,c55):List UInt8×List Tok×Option Addr×Nat) (by dsimp only; omega) ⟨by dsimp only; simp; omega,by
       dsimp only
       rw [hO,hcr,lexO_sign h0c (by simpa using hc5),map_app]⟩ (sc rfl (sc rfl sn)) (fun _ h=>Wd 1 h)
  refine Cs (Cr (V0 (Ym O) (V0 (yl_ne O O) (V0 (Ym O) ?_))))
  apply La 2 O O O O Y O O O O O
  ·
   intro hg1
   refine Vg (Ym O) (Vg (yl_ne O O) ?_)
   exact Gt 2 O O O
  refine V0 (Ya O) (Ln (Et ?_))
  refine Cc O (fun hc6=>?_) (fun hc6=>?_)
  ·
   have hbl:¬(u=32∨u=10):=by
     rintro (h | h)<;>rw [h] at hc6<;>simp at hc6
   have hR:lexR s=([],1):=lexO_no hO (by rw [hcr,lexO_bad h0c (by simpa using hc5) hbl]) hl
   refine Cs (Cr (V0 (Ya O) (V0 (Ya O) (Ln (Et (Crt (Ebr (Er (Ebr (Er (Ebr (Er ?_))))))))))))
   refine WE.retR (rs_2 O (rv_tmp O) (rv_tmp O)) fun w' hw=>?_
   rw [hR]
   exact ⟨(none,0),O,hw.fr,Sl.nil⟩
  have hbl:u=32∨u=10:=by
    simp only [bne,Bool.and_eq_false_iff,Bool.not_eq_false',beq_iff_eq] at hc6
    rcases hc6 with h | h
    · left; exact toNat_inj (by simpa using h)
    · right; exact toNat_inj (by simpa using h)
  refine Ck (Eb (Et (Cr (V0 (Ym O) ?_))))
  refine V0 (yl_sst Tryz.underlying9 O O (by omega) (by omega)) ?_
  rw [show g.1.drop (1:Int).toNat=r by rw [hcr]; rfl]
  refine V0 (Ya O) (Ln (Eb ?_))
  exact Ea ((r,g.2.1,g.2.2.1,g.2.2.2):List UInt8×List Tok×Option Addr×Nat) (by dsimp only; omega) ⟨by dsimp only; omega,by
      dsimp only
      rw [hO,hcr,lexO_blank h0c (by simpa using hc5) hbl]⟩ (sc rfl (sc rfl sn)) (fun _ h=>h)
 have hge:g.1=[]:=by simpa using hc1
 have hR:lexR s=(g.2.1,0):=by
   rw [hge] at hO
   exact lexO_yes hO hl
 refine Ce (Ex (Ex (Ebh (Et (Cs (Cr (V0 (Ym O) (V0 (Ya O) (V0 (Ya O) (Ln (Et (Crt ?_))))))))))))
 refine WE.retR (rs_2 O (rv_tmp O) (rv_tmp O)) fun w' hw=>?_
 rw [hR]
 exact ⟨(g.2.2.1,g.2.2.2),O,hw.fr,hw.slT 0 O Tok.cells_len (fun _ _ _ _ h=>h)⟩
end Go.Proofs.YtpjekjnehiinnaaGreatDoor
end
section
namespace Go.Proofs.YtpjekjnehiinnaaGreatDoor
open Go.Bw
abbrev kI:Int→Value:=fun n:Int=>Value.int .i64 n
def vS (r:Bool) (a:Int):Value:=.agg #[.bool r,.int .i64 a]
def exprsK (n:Nat):List (GEnt Int):=[(1,vS false 0,0),(2,vS false 0,1),(3,vS true 0,2),(4,vS true 1,3),(5,vS true (-1),4),(6,vS false 1,5)]++(List.range n).map fun j=>(((7+j:Nat):Int),vS false 2,6+j)
def stmtsK:List (GEnt Int):=[(1,vS true 1,0),(2,vS true 2,1),(3,vS true (-1),2),(4,vS false 1,3),(5,vS false 1,4),(6,vS false 1,5),(7,vS false 1,6)]
theorem exprs_step (n:Nat) (h:n<9):gobj kI (gput ((7+n:Nat):Int) (vS false 2) (exprsK n) (6+n)) (gclock ((7+n:Nat):Int) (exprsK n) (6+n))=gobj kI (exprsK (n+1)) (6+(n+1)):=by
 match n,h with
 | 0,_=>rfl
 | 1,_=>rfl
 | 2,_=>rfl
 | 3,_=>rfl
 | 4,_=>rfl
 | 5,_=>rfl
 | 6,_=>rfl
 | 7,_=>rfl
 | 8,_=>rfl
theorem exprs_get (op:Int):gget op (exprsK 9) (vS false 0)=vS ((shE op).getD (false,0)).1 ((shE op).getD (false,0)).2∧ghas op (exprsK 9) = !(shE op).isNone:=by
 by_cases h1:op=1
 · subst h1; exact ⟨rfl,rfl⟩
 by_cases h2:op=2
 · subst h2; exact ⟨rfl,rfl⟩
 by_cases h3:op=3
 · subst h3; exact ⟨rfl,rfl⟩
 by_cases h4:op=4
 · subst h4; exact ⟨rfl,rfl⟩
 by_cases h5:op=5
 · subst h5; exact ⟨rfl,rfl⟩
 by_cases h6:op=6
 · subst h6; exact ⟨rfl,rfl⟩
 by_cases h7:op=7
 · subst h7; exact ⟨rfl,rfl⟩
 by_cases h8:op=8
 · subst h8; exact ⟨rfl,rfl⟩
 by_cases h9:op=9
 · subst h9; exact ⟨rfl,rfl⟩
 by_cases h10:op=10
 · subst h10; exact ⟨rfl,rfl⟩
 by_cases h11:op=11
 · subst h11; exact ⟨rfl,rfl⟩
 by_cases h12:op=12
 · subst h12; exact ⟨rfl,rfl⟩
 by_cases h13:op=13
 · subst h13; exact ⟨rfl,rfl⟩
 by_cases h14:op=14
 · subst h14; exact ⟨rfl,rfl⟩
 by_cases h15:op=15
 · subst h15; exact ⟨rfl,rfl⟩
 have hn:shE op=none:=by
   unfold shE
   rw [if_neg (by omega),if_neg h3,if_neg h4,if_neg h5,if_neg h6,if_neg (by omega)]
 have hf:gfind op (exprsK 9) 0=none:=by
   show gfind op [(1,vS false 0,0),(2,vS false 0,1),(3,vS true 0,2),(4,vS true 1,3),(5,vS true (-1),4),(6,vS false 1,5),(7,vS false 2,6),(8,vS false 2,7),(9,vS false 2,8),(10,vS false 2,9),(11,vS false 2,10),(12,vS false 2,11),(13,vS false 2,12),(14,vS false 2,13),(15,vS false 2,14)] 0=none
   simp [gfind,h1,h2,h3,h4,h5,h6,h7,h8,h9,h10,h11,h12,h13,h14,h15]
 rw [gget,ghas,hf,hn]
 exact ⟨O,O⟩
theorem stmts_get (op:Int):gget op stmtsK (vS false 0)=vS ((shS op).getD (false,0)).1 ((shS op).getD (false,0)).2∧ghas op stmtsK = !(shS op).isNone:=by
 by_cases h1:op=1
 · subst h1; exact ⟨rfl,rfl⟩
 by_cases h2:op=2
 · subst h2; exact ⟨rfl,rfl⟩
 by_cases h3:op=3
 · subst h3; exact ⟨rfl,rfl⟩
 by_cases h4:op=4
 · subst h4; exact ⟨rfl,rfl⟩
 by_cases h5:op=5
 · subst h5; exact ⟨rfl,rfl⟩
 by_cases h6:op=6
 · subst h6; exact ⟨rfl,rfl⟩
 by_cases h7:op=7
 · subst h7; exact ⟨rfl,rfl⟩
 have hn:shS op=none:=by
   unfold shS
   rw [if_neg h1,if_neg h2,if_neg h3,if_neg (by omega)]
 have hf:gfind op stmtsK 0=none:=by simp [stmtsK,gfind,h1,h2,h3,h4,h5,h6,h7]
 rw [gget,ghas,hf,hn]
 exact ⟨O,O⟩
theorem cntN_app:∀a b:List Tx,cntN (a++b)=cntN a+cntN b
 | [],b=>by apply Cnt.ext'<;>simp [Cnt.add_f,Cnt.add_m,Cnt.add_k,cntN,c0]
 | x::a,b=>by
   rw [List.cons_append,show ∀q,cntN (x::q)=noteF (!nameT x)+cntN q from fun _=>rfl,cntN_app a b,show ∀q,cntN (x::q)=noteF (!nameT x)+cntN q from fun _=>rfl,Cnt.add_assoc']
theorem cntN_one (s:Tx):cntN [s]=noteF (!nameT s):=rfl
theorem cntN_take {l:List Tx} {i:Nat} {s:Tx} (h:l[i]? = some s):cntN (l.take (i+1))=cntN (l.take i)+noteF (!nameT s):=by rw [take_snoc h,cntN_app,cntN_one]
theorem add_c0 (c:Cnt):c+c0=c:=rfl
theorem tot_f (c:Cnt):c.f≤c.tot:=by unfold Cnt.tot; omega
theorem tot_m (c:Cnt):c.m≤c.tot:=by unfold Cnt.tot; omega
theorem tot_k (c:Cnt):c.k≤c.tot:=by unfold Cnt.tot; omega
theorem el22:EltOk Tryz.prog 22 9 (st []) 1 16:=eltOk_of (by kernel_rfl)
theorem es22:elemSz Tryz.prog 22=some 1:=by kernel_rfl
theorem na9:nonAgg Tryz.prog 9=true:=by kernel_rfl
theorem en160:Enters Tryz.prog 160:=enters_of Tryz.func160 (by kernel_rfl) rfl
theorem en149:Enters Tryz.prog 149:=enters_of Tryz.func149 (by kernel_rfl) rfl
theorem en148:Enters Tryz.prog 148:=enters_of Tryz.func148 (by kernel_rfl) rfl
theorem ui3:Tryz.prog.underlying 3=some (.int .i64):=by kernel_rfl
theorem pl236:placesP Tryz.prog 236=some [(0,1),(1,1)]:=by kernel_rfl
theorem zr236:zeroOf Tryz.prog 236=some (.agg #[.bool false,.int .i64 0]):=by kernel_rfl
theorem um203:Tryz.prog.underlying 203=some (.map 3 236):=by kernel_rfl
theorem mixed:Tryz.prog.follows .mixedOrders=true:=by kernel_rfl
theorem fo207_0:fieldOff Tryz.prog 207 0=some 0:=by kernel_rfl
theorem ar205:arrP Tryz.prog 205=some (10,1):=by kernel_rfl
theorem na3:nonAgg Tryz.prog 3=true:=by kernel_rfl
theorem sz3:sizeP Tryz.prog 3=some 1:=by kernel_rfl
theorem reserved_any (w:World) :
   Calls Tryz.prog 149 #[] w fun e w'=>∃r:Option Addr×Nat,e = .returned (.slice r.1 wordsL.length r.2)∧Ext w w'∧Sl rdStr 1 (nv w w') r.1 r.2 wordsL:=by
 refine enter Tryz.func149 O 2 O O ?_
 refine CWd (W':=Ws w [] [] []) (fun _ e=>by subst e; exact Ws.init (by simp)) ?_
 refine Cs (Cr (V0 (Ya O) (Ln (Et (Cs (Cr ?_))))))
 refine Lb Y O el22 O O O O fun b1=>?_
 refine V0 (Ya O) (Ln (Et (Crt ?_)))
 refine WE.retR (rs_1 O (rv_tmp O)) fun w' hw=>?_
 exact ⟨(some ⟨b1,0,none⟩,15),O,hw.fr,⟨show wordsL.length≤15 by decide,show 15≤9223372036854775807 by decide,by simp,fun j x hj=>⟨b1,0,O,fun k v hk=>hw.nvc 0 O (by
     have:k<1:=(List.getElem?_eq_some_iff.1 hk).1
     show (wordsL.flatMap strC)[0+j*1+k]? = some v
     rw [Nat.zero_add,flat_get strC_len hj this]; exact hk)⟩⟩⟩
theorem indexS_any (H:View) (a:Option Addr) (c:Nat) (l:List Tx) (s:Tx) (w:World) (hH:Le H w) (hm:Sl rdStr 1 H a c l) :
   Calls Tryz.prog 160 #[.slice a l.length c,st s] w fun e w'=>(∃n:Int,e = .returned (.int .i64 n)∧decide (0≤n)=l.contains s)∧Ext w w':=by
 have hcap:=hm.cap
 have hmax:=hm.max
 refine enter Tryz.func160 O 19 O O ?_
 refine CWd (W':=Ws w [] [] [H]) (fun _ e=>by subst e; exact Ws.init (by simp [hH])) ?_
 refine Cs (Cr (V0 (Ya O) (Ln (Et (Cs (Cs (Cr (V0 (Ym O) (V0 (Yn es22 O) (V0 (Ym O) ?_))))))))))
 refine Ln (Et (Cb ?_))
 refine CW (ι:=Nat) (fun i=>[(8,.int .i64 (i:Int))]) [(0,_),(1,_),(7,_)] (fun i=>i≤l.length∧∀j,j<i→l[j]?≠some s) (fun i=>l.length-i) 0 ⟨Nat.zero_le _,by simp⟩ (sc O (sc O (sc O (sc O sn)))) ?_
 intro i ⟨hi,hall⟩
 refine Cs (Cr (V0 (yl_lt O O) (Ln (Et (Cs ?_)))))
 refine Cc O (fun hc0=>?_) (fun hc0=>?_)
 ·
  have hlt:i<l.length:=by simpa using hc0
  obtain ⟨x,hxi⟩:∃x,l[i]? = some x:=⟨_,List.getElem?_eq_getElem hlt⟩
  obtain ⟨pbx,pox,ha,hrow⟩:=hm.elt i x hxi
  have hrow:RdC H pbx (pox+i*1) (strC x):=hrow
  refine Ck (Et (Cs (Cb (Cs (Cr (V0 (Ym O) (V0 (Ya O) (Ln (Et (Cs (Cr (V0 (Ym O) (V0 (Ym O) ?_)))))))))))))
  refine V0 (Ym O) ?_
  refine V0 (Yo es22 O O (by assumption) (by omega)) ?_
  refine V0 (yl_ld 0 na9 O O (hrow 0 _ O)) (V0 (yl_eqs O O) (Ln (Et ?_)))
  refine Cc O (fun hc1=>?_) (fun hc1=>?_)
  ·
   have heq:s=x:=by simpa using hc1
   refine Cs (Cr (V0 (Ym O) (V0 (Ya O) (Ln (Et (Crt (Ebr (Er (Er (Ebr (Er ?_)))))))))))
   refine R1 O O fun w' hw=>?_
   refine ⟨⟨_,O,?_⟩,hw.fr⟩
   rw [decide_eq_true (by omega),List.contains_iff_mem.2 (by rw [heq]; exact List.mem_of_getElem? hxi)]
  have hne:¬s=x:=by simpa using hc1
  refine Ck (Eb (Et (Cr ?_)))
  refine V0 (Yi O O O (by omega)) ?_
  refine V0 (Ym O) (Ln ?_)
  exact Ea (i+1) (by omega) ⟨by omega,fun j hj=>by rcases Nat.lt_succ_iff_lt_or_eq.1 hj with h | rfl; exact hall j h; rw [hxi]; intro e; injection e with e; exact hne e.symm⟩ (sc rfl (sc rfl (sc rfl (sc rfl sn)))) (fun _ h=>h)
 have hge:¬i<l.length:=by simpa using hc0
 have hno:l.contains s=false:=by
   rw [Bool.eq_false_iff]
   intro h
   rw [List.contains_iff_mem] at h
   obtain ⟨j,hj⟩:=List.getElem?_of_mem h
   exact hall j (by have:=(List.getElem?_eq_some_iff.1 hj).1; omega) hj
 refine Ce (Ex (Ex (Ebh (Et (Cs (Cr (V0 (Ya O) (Ln (Et (Crt ?_))))))))))
 refine R1 O O fun w' hw=>?_
 refine ⟨⟨_,O,?_⟩,hw.fr⟩
 rw [hno]; rfl
theorem containsS_any (H:View) (a:Option Addr) (c:Nat) (l:List Tx) (s:Tx) (w:World) (hH:Le H w) (hm:Sl rdStr 1 H a c l) :
   Calls Tryz.prog 148 #[.slice a l.length c,st s] w fun e w'=>e = .returned (.bool (l.contains s))∧Ext w w':=by
 refine enter Tryz.func148 O 9 O O ?_
 refine CWd (W':=Ws w [] [] [H]) (fun _ e=>by subst e; exact Ws.init (by simp [hH])) ?_
 refine Cs (Cr (V0 (Ya O) (Ln (Et (Cs (Cr (V0 (Ym O) (V0 (Ym O) ?_))))))))
 refine Ld Y O en160 O (fun n:Int=>.int .i64 n) (fun _ n=>decide (0≤n)=l.contains s) (fun w hw=>(indexS_any H a c l s w (hw.vs _ (by simp)) hm).mono fun e w' h=>by
     obtain ⟨⟨n,h1,h2⟩,h3⟩:=h
     exact ⟨n,h1,h3,h2⟩) ?_
 intro F7 n7 hf7 h7
 refine V0 (yl_ge O O) (V0 (Ya O) (Ln (Et (Crt ?_))))
 refine R1 O O fun w' hw=>?_
 exact ⟨by rw [h7],hw.fr⟩
theorem treeName_any (s:Tx) (w:World) :
   Calls Tryz.prog 135 #[st s] w fun e w'=>e = .returned (.bool (nameT s))∧Ext w w':=by
 refine enter Tryz.func135 O 11 O O ?_
 refine CWd (W':=Ws w [] [] []) (fun _ e=>by subst e; exact Ws.init (by simp)) ?_
 refine Cs (Cr (V0 (Ya O) (Ln (Et (Cs (Cr (V0 (Ym O) ?_)))))))
 refine Lp Y O en41 O (fun w hw=>lexName_any _ w) ?_
 refine V0 (Ym O) ?_
 apply La 4 O O O O Y O O O O O
 ·
  intro hg0
  refine Ld (.g O O O) O en149 O (fun r:Option Addr×Nat=>.slice r.1 wordsL.length r.2) (fun H r=>Sl rdStr 1 H r.1 r.2 wordsL) (fun w hw=>reserved_any w) ?_
  intro F6 r6 hf6 h6
  refine Vg (Ym O) ?_
  refine Lp (.g O O O) O en148 O (fun w hw=>containsS_any F6 r6.1 r6.2 wordsL s w (hw.vs _ (by simp)) h6) ?_
  refine Vg (yl_not O) ?_
  refine WL.wk ?_ (Gt 4 O O O)
  exact fun _ h=>Ws.drops (h) (fun _ hm=>List.mem_append_right [_] hm)
 refine V0 (Ya O) (Ln (Et (Crt ?_)))
 refine R1 O O fun w' hw=>?_
 exact ⟨O,hw.fr⟩
theorem exprs_any (w:World) :
   Calls Tryz.prog 106 #[] w fun e w'=>∃b:Nat,e = .returned (.map (some b))∧Ws w [] [blk b (gobj kI (exprsK 9) 15)] [] w':=by
 refine enter Tryz.func106 O 19 O O ?_
 refine CWd (W':=Ws w [] [] []) (fun _ e=>by subst e; exact Ws.init (by simp)) ?_
 refine Cs (Cr (V0 (Ya O) (Ln (Et (Cs (Cr ?_))))))
 refine WL.gmk (fun n:Int=>Value.int .i64 n) Y O fun b3=>?_
 refine V0 (Yb zr236 pl236 O O) ?_
 refine WL.gins 0 keyInt Y um203 ui3 O O O O ?_
 refine V0 (Yb zr236 pl236 O O) ?_
 refine WL.gins 0 keyInt Y um203 ui3 O O O O ?_
 refine V0 (Yb zr236 pl236 O O) ?_
 refine WL.gins 0 keyInt Y um203 ui3 O O O O ?_
 refine V0 (Yb zr236 pl236 O O) ?_
 refine WL.gins 0 keyInt Y um203 ui3 O O O O ?_
 refine V0 (Yb zr236 pl236 O O) ?_
 refine WL.gins 0 keyInt Y um203 ui3 O O O O ?_
 refine V0 (Yb zr236 pl236 O O) ?_
 refine WL.gins 0 keyInt Y um203 ui3 O O O O ?_
 refine V0 (Ym O) ?_
 refine Lrb 0 (gobj kI (exprsK 0) (6+0)) O O ?_
 refine V0 (Ya O) (Ln (Et (Cs (Cs (Cr (V0 (Ya O) (Ln (Et (Cb ?_)))))))))
 refine CLk (ι:=Nat) (fun i=>[(2,.int .i64 ((7+i:Nat):Int))]) [(0,_),(1,_)] (fun i=>Ws w [] [blk b3 (gobj kI (exprsK i) (6+i))] []) (fun i=>i≤9) (fun i=>9-i) 0 (Nat.zero_le _) (sc O (sc O (sc O sn))) (fun _ h=>h) ?_
 intro i hi
 refine Cs (Cs (Cr (V0 (Ym O) (V0 (yl_le O O) (Ln (Et ?_))))))
 refine Cc O (fun hc0=>?_) (fun hc0=>?_)
 ·
  have hlt:i<9:=by simp at hc0; omega
  refine Ck (Et (Cs (Cb (Cr (V0 (Ym O) (V0 (Ym O) (V0 (Yb zr236 pl236 O O) ?_)))))))
  refine WL.gset 0 keyInt Y um203 ui3 O O O O ?_
  refine Ln (Eb (Et (Cr (V0 (Ym O) ?_))))
  refine V0 (yl_addv (((7+i:Nat):Int)+1) O O O (by omega)) ?_
  refine V0 (Ya O) (Ln ?_)
  rw [show (((7+i:Nat):Int)+1)=((7+(i+1):Nat):Int) by omega]
  exact Ea (i+1) (by omega) (by omega) (sc O (sc O (sc O sn))) (fun _ h=>by
    have h:=Ws.reL h 0 rfl (congrArg (blk b3) (exprs_step i hlt))
    exact h)
 have hie:i=9:=by simp at hc0; omega
 subst hie
 refine Ce (Ex (Ex (Ebh (Et (Cs (Cr (V0 (Ym O) (V0 (Ya O) (Ln (Et (Crt ?_)))))))))))
 refine WE.retR (rs_1 O (rv_tmp O)) fun w' hw=>?_
 exact ⟨b3,O,hw⟩
theorem stmts_any (w:World) :
   Calls Tryz.prog 107 #[] w fun e w'=>∃b:Nat,e = .returned (.map (some b))∧Ws w [] [blk b (gobj kI stmtsK 7)] [] w':=by
 refine enter Tryz.func107 O 10 O O ?_
 refine CWd (W':=Ws w [] [] []) (fun _ e=>by subst e; exact Ws.init (by simp)) ?_
 refine Cs (Cr (V0 (Ya O) (Ln (Et (Cs (Cr ?_))))))
 refine WL.gmk (fun n:Int=>Value.int .i64 n) Y O fun b1=>?_
 refine V0 (Yb zr236 pl236 O O) ?_
 refine WL.gins 0 keyInt Y um203 ui3 O O O O ?_
 refine V0 (Yb zr236 pl236 O O) ?_
 refine WL.gins 0 keyInt Y um203 ui3 O O O O ?_
 refine V0 (Yb zr236 pl236 O O) ?_
 refine WL.gins 0 keyInt Y um203 ui3 O O O O ?_
 refine V0 (Yb zr236 pl236 O O) ?_
 refine WL.gins 0 keyInt Y um203 ui3 O O O O ?_
 refine V0 (Yb zr236 pl236 O O) ?_
 refine WL.gins 0 keyInt Y um203 ui3 O O O O ?_
 refine V0 (Yb zr236 pl236 O O) ?_
 refine WL.gins 0 keyInt Y um203 ui3 O O O O ?_
 refine V0 (Yb zr236 pl236 O O) ?_
 refine WL.gins 0 keyInt Y um203 ui3 O O O O ?_
 refine V0 (Ym O) (V0 (Ya O) (Ln (Et (Crt ?_))))
 refine WE.retR (rs_1 O (rv_tmp O)) fun w' hw=>?_
 exact ⟨b1,O,hw⟩
theorem note1_any (vb be bs:Nat) (c:Cnt) (b:Bool) (w:World) (hb:c.tot≤4611686018427387904) (hw:Ws w [vb] [blk vb (.cells #[.int .i64 0,.int .i64 ((c).f:Int),.int .i64 ((c).m:Int),.int .i64 0,.int .i64 ((c).k:Int),.int .i64 0,.int .i64 0,.int .i64 0,.int .i64 0,.int .i64 0,.map (some be),.map (some bs)] 207 (0,0))] [] w) :
   Calls Tryz.prog 109 #[.pointer (some ⟨vb,0,none⟩),.bool b,.int .i64 1] w fun e w'=>e = .returned (.tuple #[])∧Ws w [vb] [blk vb (.cells #[.int .i64 0,.int .i64 ((c+noteF b).f:Int),.int .i64 ((c+noteF b).m:Int),.int .i64 0,.int .i64 ((c+noteF b).k:Int),.int .i64 0,.int .i64 0,.int .i64 0,.int .i64 0,.int .i64 0,.map (some be),.map (some bs)] 207 (0,0))] [] w':=by
 have hf:=tot_f c
 refine enter Tryz.func109 O 17 O O ?_
 refine CWd (W':=Ws w [vb] [blk vb (.cells #[.int .i64 0,.int .i64 ((c).f:Int),.int .i64 ((c).m:Int),.int .i64 0,.int .i64 ((c).k:Int),.int .i64 0,.int .i64 0,.int .i64 0,.int .i64 0,.int .i64 0,.map (some be),.map (some bs)] 207 (0,0))] []) (fun _ e=>by subst e; exact hw) ?_
 refine Cs (Cr (V0 (Ym O) (Ln (Et ?_))))
 refine Cc O (fun hc0=>?_) (fun hc0=>?_)
 ·
  subst hc0
  refine WC.draws1 0 [(0,true),(1,true),(2,true),(3,true),(4,true),(7,true),(8,true),(5,false),(6,true),(9,true),(10,false)] mixed (by kernel_rfl) (fun _ _ _ d _ h=>by cases d<;>exact h) ?_
  refine D0 O (Wp 0) (Ym O) (D0 O (Wp 0) (Ym O) (D0 O (Wp 0) (yl_nil O) (D0 O (Wp 0) (Yf fo207_0 O) ?_)))
  refine D0 O (Wp 0) (yl_iar (i:=1) ar205 O O (by decide)) ?_
  refine D0 O (Wp 0) (yl_nil O) (D0 O (Wp 0) (Yf fo207_0 O) ?_)
  refine De O (Wp 0) ?_
  refine V0 (Yd 0 O O O na3) (Ln (Ed ?_))
  refine D0 O (Wp 0) (Yi O O O (by omega)) ?_
  refine D0 O (Wp 0) (yl_iar (i:=1) ar205 O O (by decide)) ?_
  refine De O (Wp 0) ?_
  refine Lst 0 Y O O O sz3 O O O (Ln (Ed ?_))
  refine WD.nil (Wp 0) ?_
  refine E0 O fun w' hw=>?_
  exact ⟨O,hw⟩
 subst hc0
 refine Ck ?_
 refine E0 O fun w' hw=>?_
 exact ⟨O,hw⟩
theorem note2_any (vb be bs:Nat) (c:Cnt) (b:Bool) (w:World) (hb:c.tot≤4611686018427387904) (hw:Ws w [vb] [blk vb (.cells #[.int .i64 0,.int .i64 ((c).f:Int),.int .i64 ((c).m:Int),.int .i64 0,.int .i64 ((c).k:Int),.int .i64 0,.int .i64 0,.int .i64 0,.int .i64 0,.int .i64 0,.map (some be),.map (some bs)] 207 (0,0))] [] w) :
   Calls Tryz.prog 109 #[.pointer (some ⟨vb,0,none⟩),.bool b,.int .i64 2] w fun e w'=>e = .returned (.tuple #[])∧Ws w [vb] [blk vb (.cells #[.int .i64 0,.int .i64 ((c+noteM b).f:Int),.int .i64 ((c+noteM b).m:Int),.int .i64 0,.int .i64 ((c+noteM b).k:Int),.int .i64 0,.int .i64 0,.int .i64 0,.int .i64 0,.int .i64 0,.map (some be),.map (some bs)] 207 (0,0))] [] w':=by
 have hm:=tot_m c
 refine enter Tryz.func109 O 17 O O ?_
 refine CWd (W':=Ws w [vb] [blk vb (.cells #[.int .i64 0,.int .i64 ((c).f:Int),.int .i64 ((c).m:Int),.int .i64 0,.int .i64 ((c).k:Int),.int .i64 0,.int .i64 0,.int .i64 0,.int .i64 0,.int .i64 0,.map (some be),.map (some bs)] 207 (0,0))] []) (fun _ e=>by subst e; exact hw) ?_
 refine Cs (Cr (V0 (Ym O) (Ln (Et ?_))))
 refine Cc O (fun hc0=>?_) (fun hc0=>?_)
 ·
  subst hc0
  refine WC.draws1 0 [(0,true),(1,true),(2,true),(3,true),(4,true),(7,true),(8,true),(5,false),(6,true),(9,true),(10,false)] mixed (by kernel_rfl) (fun _ _ _ d _ h=>by cases d<;>exact h) ?_
  refine D0 O (Wp 0) (Ym O) (D0 O (Wp 0) (Ym O) (D0 O (Wp 0) (yl_nil O) (D0 O (Wp 0) (Yf fo207_0 O) ?_)))
  refine D0 O (Wp 0) (yl_iar (i:=2) ar205 O O (by decide)) ?_
  refine D0 O (Wp 0) (yl_nil O) (D0 O (Wp 0) (Yf fo207_0 O) ?_)
  refine De O (Wp 0) ?_
  refine V0 (Yd 0 O O O na3) (Ln (Ed ?_))
  refine D0 O (Wp 0) (Yi O O O (by omega)) ?_
  refine D0 O (Wp 0) (yl_iar (i:=2) ar205 O O (by decide)) ?_
  refine De O (Wp 0) ?_
  refine Lst 0 Y O O O sz3 O O O (Ln (Ed ?_))
  refine WD.nil (Wp 0) ?_
  refine E0 O fun w' hw=>?_
  exact ⟨O,hw⟩
 subst hc0
 refine Ck ?_
 refine E0 O fun w' hw=>?_
 exact ⟨O,hw⟩
theorem note4_any (vb be bs:Nat) (c:Cnt) (b:Bool) (w:World) (hb:c.tot≤4611686018427387904) (hw:Ws w [vb] [blk vb (.cells #[.int .i64 0,.int .i64 ((c).f:Int),.int .i64 ((c).m:Int),.int .i64 0,.int .i64 ((c).k:Int),.int .i64 0,.int .i64 0,.int .i64 0,.int .i64 0,.int .i64 0,.map (some be),.map (some bs)] 207 (0,0))] [] w) :
   Calls Tryz.prog 109 #[.pointer (some ⟨vb,0,none⟩),.bool b,.int .i64 4] w fun e w'=>e = .returned (.tuple #[])∧Ws w [vb] [blk vb (.cells #[.int .i64 0,.int .i64 ((c+noteK b).f:Int),.int .i64 ((c+noteK b).m:Int),.int .i64 0,.int .i64 ((c+noteK b).k:Int),.int .i64 0,.int .i64 0,.int .i64 0,.int .i64 0,.int .i64 0,.map (some be),.map (some bs)] 207 (0,0))] [] w':=by
 have hk:=tot_k c
 refine enter Tryz.func109 O 17 O O ?_
 refine CWd (W':=Ws w [vb] [blk vb (.cells #[.int .i64 0,.int .i64 ((c).f:Int),.int .i64 ((c).m:Int),.int .i64 0,.int .i64 ((c).k:Int),.int .i64 0,.int .i64 0,.int .i64 0,.int .i64 0,.int .i64 0,.map (some be),.map (some bs)] 207 (0,0))] []) (fun _ e=>by subst e; exact hw) ?_
 refine Cs (Cr (V0 (Ym O) (Ln (Et ?_))))
 refine Cc O (fun hc0=>?_) (fun hc0=>?_)
 ·
  subst hc0
  refine WC.draws1 0 [(0,true),(1,true),(2,true),(3,true),(4,true),(7,true),(8,true),(5,false),(6,true),(9,true),(10,false)] mixed (by kernel_rfl) (fun _ _ _ d _ h=>by cases d<;>exact h) ?_
  refine D0 O (Wp 0) (Ym O) (D0 O (Wp 0) (Ym O) (D0 O (Wp 0) (yl_nil O) (D0 O (Wp 0) (Yf fo207_0 O) ?_)))
  refine D0 O (Wp 0) (yl_iar (i:=4) ar205 O O (by decide)) ?_
  refine D0 O (Wp 0) (yl_nil O) (D0 O (Wp 0) (Yf fo207_0 O) ?_)
  refine De O (Wp 0) ?_
  refine V0 (Yd 0 O O O na3) (Ln (Ed ?_))
  refine D0 O (Wp 0) (Yi O O O (by omega)) ?_
  refine D0 O (Wp 0) (yl_iar (i:=4) ar205 O O (by decide)) ?_
  refine De O (Wp 0) ?_
  refine Lst 0 Y O O O sz3 O O O (Ln (Ed ?_))
  refine WD.nil (Wp 0) ?_
  refine E0 O fun w' hw=>?_
  exact ⟨O,hw⟩
 subst hc0
 refine Ck ?_
 refine E0 O fun w' hw=>?_
 exact ⟨O,hw⟩
end Go.Proofs.YtpjekjnehiinnaaGreatDoor
end
section
namespace Go.Proofs.YtpjekjnehiinnaaGreatDoor
open Go.Bw
theorem cntN_len:∀l:List Tx,(cntN l).tot≤l.length
 | []=>Nat.le_refl _
 | s::r=>by
   have:=cntN_len r; have:=noteF_tot (!nameT s)
   rw [show cntN (s::r)=noteF (!nameT s)+cntN r from rfl,Cnt.tot_add,List.length_cons]
   omega
theorem int_lt3 (n:Nat):decide ((3:Int)<(n:Int))=decide (3<n):=by rw [Bool.eq_iff_iff]; simp; omega
theorem cntE_eq (x:TExpr) (d:Nat):cntE x d=if 6<d then ⟨0,1,0⟩ else noteK (shE x.op).isNone+shapeC ((shE x.op).getD (false,0)) x.mod x.nm x.args.length+noteF (numBad x.op x.n)+cntEs x.args (d+1):=by
 cases x; rw [cntE]; rfl
theorem cntEs_app (d:Nat):∀a b:List TExpr,cntEs (a++b) d=cntEs a d+cntEs b d
 | [],b=>by apply Cnt.ext'<;>simp [Cnt.add_f,Cnt.add_m,Cnt.add_k,cntEs,c0]
 | x::a,b=>by
   rw [List.cons_append,show ∀q,cntEs (x::q) d=cntE x d+cntEs q d from fun q=>by rw [cntEs],cntEs_app d a b,show ∀q,cntEs (x::q) d=cntE x d+cntEs q d from fun q=>by rw [cntEs],Cnt.add_assoc']
theorem cntEs_take {l:List TExpr} {i:Nat} {x:TExpr} (d:Nat) (h:l[i]? = some x):cntEs (l.take (i+1)) d=cntEs (l.take i) d+cntE x d:=by
 rw [take_snoc h,cntEs_app,show cntEs [x] d=cntE x d+c0 by rw [cntEs,cntEs],add_c0]
theorem wEs_take:∀(l:List TExpr) (i:Nat),wEs (l.take i)≤wEs l
 | [],i=>by simp
 | x::r,0=>by simp [wEs]
 | x::r,i+1=>by have:=wEs_take r i; simp only [List.take_succ_cons,wEs]; omega
theorem wEs_upto {l:List TExpr} {i:Nat} {x:TExpr} (h:l[i]? = some x):wEs (l.take i)+wE x≤wEs l:=by
 have h2:=wEs_take l (i+1)
 rw [take_snoc h] at h2
 have:∀a b:List TExpr,wEs (a++b)=wEs a+wEs b:=by
   intro a b
   induction a with
   | nil=>simp [wEs]
   | cons y a ih=>simp only [List.cons_append,wEs,ih]; omega
 rw [this] at h2
 simp only [wEs] at h2
 omega
theorem cntS_eq (x:TStmt) (d:Nat):cntS x d=noteK (shS x.op).isNone+shapeC ((shS x.op).getD (false,0)) x.mod x.nm x.args.length+cntEs x.args 1+noteF (bodyBad x.op x.body.length x.other.length)
     + (if (inner x.op||decide (0<x.body.length))=true then cntB x.body (d+1) else c0)+(if 0<x.other.length then cntB x.other (d+1) else c0):=by
 cases x; rw [cntS]; rfl
theorem cntSs_app (d:Nat):∀a b:List TStmt,cntSs (a++b) d=cntSs a d+cntSs b d
 | [],b=>by apply Cnt.ext'<;>simp [Cnt.add_f,Cnt.add_m,Cnt.add_k,cntSs,c0]
 | x::a,b=>by
   rw [List.cons_append,show ∀q,cntSs (x::q) d=cntS x d+cntSs q d from fun q=>by rw [cntSs],cntSs_app d a b,show ∀q,cntSs (x::q) d=cntS x d+cntSs q d from fun q=>by rw [cntSs],Cnt.add_assoc']
theorem cntSs_take {l:List TStmt} {i:Nat} {x:TStmt} (d:Nat) (h:l[i]? = some x):cntSs (l.take (i+1)) d=cntSs (l.take i) d+cntS x d:=by
 rw [take_snoc h,cntSs_app,show cntSs [x] d=cntS x d+c0 by rw [cntSs,cntSs],add_c0]
theorem wSs_take:∀(l:List TStmt) (i:Nat),wSs (l.take i)≤wSs l
 | [],i=>by simp
 | x::r,0=>by simp [wSs]
 | x::r,i+1=>by have:=wSs_take r i; simp only [List.take_succ_cons,wSs]; omega
theorem wSs_upto {l:List TStmt} {i:Nat} {x:TStmt} (h:l[i]? = some x):wSs (l.take i)+wS x≤wSs l:=by
 have h2:=wSs_take l (i+1)
 rw [take_snoc h] at h2
 have:∀a b:List TStmt,wSs (a++b)=wSs a+wSs b:=by
   intro a b
   induction a with
   | nil=>simp [wSs]
   | cons y a ih=>simp only [List.cons_append,wSs,ih]; omega
 rw [this] at h2
 simp only [wSs] at h2
 omega
theorem en135:Enters Tryz.prog 135:=enters_of Tryz.func135 (by kernel_rfl) rfl
theorem en109:Enters Tryz.prog 109:=enters_of Tryz.func109 (by kernel_rfl) rfl
theorem fo163_1:fieldOff Tryz.prog 163 1=some 1:=by kernel_rfl
theorem en108:Enters Tryz.prog 108:=enters_of Tryz.func108 (by kernel_rfl) rfl
theorem fo163_0:fieldOff Tryz.prog 163 0=some 0:=by kernel_rfl
theorem fo163_3:fieldOff Tryz.prog 163 3=some 3:=by kernel_rfl
theorem fo236_0:fieldOff Tryz.prog 236 0=some 0:=by kernel_rfl
theorem na4:nonAgg Tryz.prog 4=true:=by kernel_rfl
theorem fo236_1:fieldOff Tryz.prog 236 1=some 1:=by kernel_rfl
theorem names_any (vb be bs:Nat) (H:View) (a:Option Addr) (n:Nat) (l:List Tx) (c:Cnt) (w:World) (hm:Sl rdStr 1 H a n l) (hb:c.tot+l.length≤4611686018427387904) (hw:Ws w [vb] [blk vb (.cells #[.int .i64 0,.int .i64 ((c).f:Int),.int .i64 ((c).m:Int),.int .i64 0,.int .i64 ((c).k:Int),.int .i64 0,.int .i64 0,.int .i64 0,.int .i64 0,.int .i64 0,.map (some be),.map (some bs)] 207 (0,0))] [H] w) :
   Calls Tryz.prog 108 #[.pointer (some ⟨vb,0,none⟩),.slice a l.length n] w fun e w'=>e = .returned (.tuple #[])∧Ws w [vb] [blk vb (.cells #[.int .i64 0,.int .i64 ((c+cntN l).f:Int),.int .i64 ((c+cntN l).m:Int),.int .i64 0,.int .i64 ((c+cntN l).k:Int),.int .i64 0,.int .i64 0,.int .i64 0,.int .i64 0,.int .i64 0,.map (some be),.map (some bs)] 207 (0,0))] [H] w':=by
 have hcap:=hm.cap
 have hmax:=hm.max
 refine enter Tryz.func108 O 18 O O ?_
 refine CWd (W':=Ws w [vb] [blk vb (.cells #[.int .i64 0,.int .i64 ((c).f:Int),.int .i64 ((c).m:Int),.int .i64 0,.int .i64 ((c).k:Int),.int .i64 0,.int .i64 0,.int .i64 0,.int .i64 0,.int .i64 0,.map (some be),.map (some bs)] 207 (0,0))] [H]) (fun _ e=>by subst e; exact hw) ?_
 refine Cs (Cr (V0 (Ym O) (V0 (Yn es22 O) (V0 (Ym O) (Ln (Et (Cb ?_)))))))
 refine CLk (ι:=Nat) (fun i=>[(8,.int .i64 (i:Int))]) [(0,_),(6,_),(7,_)] (fun i=>Ws w [vb] [blk vb (.cells #[.int .i64 0,.int .i64 ((c+cntN (l.take i)).f:Int),.int .i64 ((c+cntN (l.take i)).m:Int),.int .i64 0,.int .i64 ((c+cntN (l.take i)).k:Int),.int .i64 0,.int .i64 0,.int .i64 0,.int .i64 0,.int .i64 0,.map (some be),.map (some bs)] 207 (0,0))] [H]) (fun i=>i≤l.length) (fun i=>l.length-i) 0 (Nat.zero_le _) (sc O (sc O (sc O (sc O sn)))) (fun _ h=>h) ?_
 intro i hi
 refine Cs (Cr (V0 (yl_lt O O) (Ln (Et (Cs ?_)))))
 refine Cc O (fun hc0=>?_) (fun hc0=>?_)
 ·
  have hlt:i<l.length:=by simpa using hc0
  obtain ⟨x,hxi⟩:∃x,l[i]? = some x:=⟨_,List.getElem?_eq_getElem hlt⟩
  obtain ⟨pbx,pox,ha,hrow⟩:=hm.elt i x hxi
  have hrow:RdC H pbx (pox+i*1) (strC x):=hrow
  have e2:c+cntN (l.take i)+noteF (!nameT x)=c+cntN (l.take (i+1)):=by rw [cntN_take hxi,Cnt.add_assoc']
  have hbt:(c+cntN (l.take i)).tot≤4611686018427387904:=by
    rw [Cnt.tot_add]
    have:=cntN_len (l.take i)
    simp at this
    omega
  refine Ck (Et (Cs (Cb (Cs (Cr ?_)))))
  refine V0 (Yo es22 O O (by assumption) (by omega)) ?_
  refine V0 (yl_ld 0 na9 O O (hrow 0 _ O)) (V0 (Ya O) (Ln (Et (Cr (V0 (Ym O) (V0 (Ym O) ?_))))))
  refine Lp Y O en135 O (fun w hw=>treeName_any _ w) ?_
  refine V0 (yl_not O) (Lf 0 O ?_)
  refine Lw0 [_] _ [blk vb (.cells #[.int .i64 0,.int .i64 ((c+cntN (l.take i)+noteF (!nameT x)).f:Int),.int .i64 ((c+cntN (l.take i)+noteF (!nameT x)).m:Int),.int .i64 0,.int .i64 ((c+cntN (l.take i)+noteF (!nameT x)).k:Int),.int .i64 0,.int .i64 0,.int .i64 0,.int .i64 0,.int .i64 0,.map (some be),.map (some bs)] 207 (0,0))] Y O en109 O O [] (by simp) (fun w hw=>note1_any vb be bs (c+cntN (l.take i)) (!nameT x) w (hbt) hw) ?_
  refine Ln (Eb (Et (Cr ?_)))
  refine V0 (Yi O O O (by omega)) ?_
  refine V0 (Ym O) (Ln ?_)
  rw [e2]
  exact Ea (i+1) (by omega) (by omega) (sc O (sc O (sc O (sc O sn)))) (fun _ h=>h)
 have hge:¬i<l.length:=by simpa using hc0
 have hT:l.take i=l:=List.take_of_length_le (by omega)
 rw [hT]
 refine Ce (Ex (Ex (Ebh ?_)))
 refine E0 O fun w' hw=>?_
 exact ⟨O,hw⟩
theorem vdecl_any (vb be bs:Nat) (d:TDecl) (c:Cnt) (w:World) (hb:c.tot+4≤4611686018427387904) (hw:Ws w [vb] [blk vb (.cells #[.int .i64 0,.int .i64 ((c).f:Int),.int .i64 ((c).m:Int),.int .i64 0,.int .i64 ((c).k:Int),.int .i64 0,.int .i64 0,.int .i64 0,.int .i64 0,.int .i64 0,.map (some be),.map (some bs)] 207 (0,0))] [] w) :
   Calls Tryz.prog 110 #[.pointer (some ⟨vb,0,none⟩),.agg #[.int .i64 d.kind,st d.nm,.bool d.pub,.int .i64 d.n]] w fun e w'=>e = .returned (.tuple #[])∧Ws w [vb] [blk vb (.cells #[.int .i64 0,.int .i64 ((c+declC d).f:Int),.int .i64 ((c+declC d).m:Int),.int .i64 0,.int .i64 ((c+declC d).k:Int),.int .i64 0,.int .i64 0,.int .i64 0,.int .i64 0,.int .i64 0,.map (some be),.map (some bs)] 207 (0,0))] [] w':=by
 have hbt:(c+cntN [d.nm]).tot≤4611686018427387904:=by
   rw [Cnt.tot_add]
   have:=cntN_len [d.nm]
   simp at this
   omega
 refine enter Tryz.func110 O 44 O O ?_
 refine CWd (W':=Ws w [vb] [blk vb (.cells #[.int .i64 0,.int .i64 ((c).f:Int),.int .i64 ((c).m:Int),.int .i64 0,.int .i64 ((c).k:Int),.int .i64 0,.int .i64 0,.int .i64 0,.int .i64 0,.int .i64 0,.map (some be),.map (some bs)] 207 (0,0))] []) (fun _ e=>by subst e; exact hw) ?_
 refine Cs (Cr ?_)
 refine WL.box Y O O fun b3=>?_
 refine Ln (Et (Cs (Cr (V0 (Ym O) (V0 (Yf fo163_1 O) (V0 (Yd 0 O O O na9) ?_))))))
 refine Lb Y O el22 O O O O fun b7=>?_
 refine Lsv (T:=9) (m:=1) 0 [d.nm] O O (show 1≤1 by decide) (by decide) fun H7 hH7=>?_
 refine Lf 1 O ?_
 refine Lw0 [_] _ [blk vb (.cells #[.int .i64 0,.int .i64 ((c+cntN [d.nm]).f:Int),.int .i64 ((c+cntN [d.nm]).m:Int),.int .i64 0,.int .i64 ((c+cntN [d.nm]).k:Int),.int .i64 0,.int .i64 0,.int .i64 0,.int .i64 0,.int .i64 0,.map (some be),.map (some bs)] 207 (0,0))] Y O en108 O O [H7] (by simp) (fun w hw=>names_any vb be bs H7 _ _ [d.nm] (c) w hH7 (by show c.tot+1≤_; omega) hw) ?_
 refine Ln (Et (Cs (Cr (V0 (Yf fo163_0 O) (V0 (Yd 1 O O O na3) (Ln (Et (Cb (Cs (Cr (V0 (yl_eq O O) (V0 (Ya O) ?_))))))))))))
 refine Ln (Et ?_)
 refine Cc O (fun hc0=>?_) (fun hc0=>?_)
 ·
  have hk:d.kind=1:=by simpa using hc0
  have e2:∀b,(b=(decide (d.n<0)||decide (1099511627775<d.n)))→c+cntN [d.nm]+noteF b=c+declC d:=fun b hb=>by rw [hb,declC,if_pos hk,Cnt.add_assoc']
  refine Cr (V0 (Ym O) (V0 (Yf fo163_3 O) (V0 (Yd 1 O O O na3) (V0 (yl_lt O O) (V0 (Ym O) ?_)))))
  apply Lo 3 O O O O Y O O O O O
  ·
   intro hg0
   refine Vg (Yf fo163_3 O) (Vg (Yd 1 O O O na3) (Vg (yl_gt O O) ?_))
   exact Gt 3 O O O
  refine Lf 0 O ?_
  refine Lw0 [_] _ [blk vb (.cells #[.int .i64 0,.int .i64 ((c+cntN [d.nm]+noteF (decide (d.n<0)||decide (1099511627775<d.n))).f:Int),.int .i64 ((c+cntN [d.nm]+noteF (decide (d.n<0)||decide (1099511627775<d.n))).m:Int),.int .i64 0,.int .i64 ((c+cntN [d.nm]+noteF (decide (d.n<0)||decide (1099511627775<d.n))).k:Int),.int .i64 0,.int .i64 0,.int .i64 0,.int .i64 0,.int .i64 0,.map (some be),.map (some bs)] 207 (0,0))] Y O en109 O O [] (by simp) (fun w hw=>note1_any vb be bs (c+cntN [d.nm]) (decide (d.n<0)||decide (1099511627775<d.n)) w (hbt) hw) ?_
  refine Ln (Eb ?_)
  refine E0 O fun w' hw=>?_
  rw [e2 _ rfl] at hw
  exact ⟨O,Wv 1 (Wt 1 hw)⟩
 have hk:¬d.kind=1:=by simpa using hc0
 refine Cs (Cr (V0 (yl_eq O O) (V0 (Ya O) (Ln (Et ?_)))))
 refine Cc O (fun hc1=>?_) (fun hc1=>?_)
 ·
  have hk2:d.kind=2:=by simpa using hc1
  have e2:∀b,(b=(!(d.n==0)))→c+cntN [d.nm]+noteF b=c+declC d:=fun b hb=>by rw [hb,declC,if_neg hk,if_pos hk2,Cnt.add_assoc']
  refine Cr (V0 (Ym O) (V0 (Yf fo163_3 O) (V0 (Yd 1 O O O na3) (V0 (yl_ne O O) (Lf 0 O ?_)))))
  refine Lw0 [_] _ [blk vb (.cells #[.int .i64 0,.int .i64 ((c+cntN [d.nm]+noteF (!(d.n==0))).f:Int),.int .i64 ((c+cntN [d.nm]+noteF (!(d.n==0))).m:Int),.int .i64 0,.int .i64 ((c+cntN [d.nm]+noteF (!(d.n==0))).k:Int),.int .i64 0,.int .i64 0,.int .i64 0,.int .i64 0,.int .i64 0,.map (some be),.map (some bs)] 207 (0,0))] Y O en109 O O [] (by simp) (fun w hw=>note1_any vb be bs (c+cntN [d.nm]) (!(d.n==0)) w (hbt) hw) ?_
  refine Ln (Eb ?_)
  refine E0 O fun w' hw=>?_
  rw [e2 _ rfl] at hw
  exact ⟨O,Wv 1 (Wt 1 hw)⟩
 have hk2:¬d.kind=2:=by simpa using hc1
 refine Cs (Cr (V0 (yl_eq O O) (V0 (Ya O) (Ln (Et ?_)))))
 refine Cc O (fun hc2=>?_) (fun hc2=>?_)
 ·
  have hk3:d.kind=3:=by simpa using hc2
  have e2:∀b,(b=(decide (d.n<1)||decide (32<d.n)))→c+cntN [d.nm]+noteF b=c+declC d:=fun b hb=>by rw [hb,declC,if_neg hk,if_neg hk2,if_pos hk3,Cnt.add_assoc']
  refine Cr (V0 (Ym O) (V0 (Yf fo163_3 O) (V0 (Yd 1 O O O na3) (V0 (yl_lt O O) (V0 (Ym O) ?_)))))
  apply Lo 3 O O O O Y O O O O O
  ·
   intro hg1
   refine Vg (Yf fo163_3 O) (Vg (Yd 1 O O O na3) (Vg (yl_gt O O) ?_))
   exact Gt 3 O O O
  refine Lf 0 O ?_
  refine Lw0 [_] _ [blk vb (.cells #[.int .i64 0,.int .i64 ((c+cntN [d.nm]+noteF (decide (d.n<1)||decide (32<d.n))).f:Int),.int .i64 ((c+cntN [d.nm]+noteF (decide (d.n<1)||decide (32<d.n))).m:Int),.int .i64 0,.int .i64 ((c+cntN [d.nm]+noteF (decide (d.n<1)||decide (32<d.n))).k:Int),.int .i64 0,.int .i64 0,.int .i64 0,.int .i64 0,.int .i64 0,.map (some be),.map (some bs)] 207 (0,0))] Y O en109 O O [] (by simp) (fun w hw=>note1_any vb be bs (c+cntN [d.nm]) (decide (d.n<1)||decide (32<d.n)) w (hbt) hw) ?_
  refine Ln (Eb ?_)
  refine E0 O fun w' hw=>?_
  rw [e2 _ rfl] at hw
  exact ⟨O,Wv 1 (Wt 1 hw)⟩
 have hk3:¬d.kind=3:=by simpa using hc2
 have e2:∀b,(b=true)→c+cntN [d.nm]+noteK b=c+declC d:=fun b hb=>by rw [hb,declC,if_neg hk,if_neg hk2,if_neg hk3,Cnt.add_assoc']
 refine Cr (V0 (Ym O) (Lf 0 O ?_))
 refine Lw0 [_] _ [blk vb (.cells #[.int .i64 0,.int .i64 ((c+cntN [d.nm]+noteK (true)).f:Int),.int .i64 ((c+cntN [d.nm]+noteK (true)).m:Int),.int .i64 0,.int .i64 ((c+cntN [d.nm]+noteK (true)).k:Int),.int .i64 0,.int .i64 0,.int .i64 0,.int .i64 0,.int .i64 0,.map (some be),.map (some bs)] 207 (0,0))] Y O en109 O O [] (by simp) (fun w hw=>note4_any vb be bs (c+cntN [d.nm]) (true) w (hbt) hw) ?_
 refine Ln (Eb ?_)
 refine E0 O fun w' hw=>?_
 rw [e2 _ rfl] at hw
 exact ⟨O,Wv 1 (Wt 1 hw)⟩
theorem vshape_any (vb be bs:Nat) (r:Bool) (a:Int) (mod nm:Tx) (len:Nat) (c:Cnt) (w:World) (hb:c.tot+4≤4611686018427387904) (hl:mod.length+nm.length≤9223372036854775807) (hw:Ws w [vb] [blk vb (.cells #[.int .i64 0,.int .i64 ((c).f:Int),.int .i64 ((c).m:Int),.int .i64 0,.int .i64 ((c).k:Int),.int .i64 0,.int .i64 0,.int .i64 0,.int .i64 0,.int .i64 0,.map (some be),.map (some bs)] 207 (0,0))] [] w) :
   Calls Tryz.prog 138 #[.pointer (some ⟨vb,0,none⟩),.agg #[.bool r,.int .i64 a],st mod,st nm,.int .i64 (len:Int)] w fun e w'=>e = .returned (.tuple #[])∧Ws w [vb] [blk vb (.cells #[.int .i64 0,.int .i64 ((c+shapeC (r,a) mod nm len).f:Int),.int .i64 ((c+shapeC (r,a) mod nm len).m:Int),.int .i64 0,.int .i64 ((c+shapeC (r,a) mod nm len).k:Int),.int .i64 0,.int .i64 0,.int .i64 0,.int .i64 0,.int .i64 0,.map (some be),.map (some bs)] 207 (0,0))] [] w':=by
 have h1:(c+noteF (badName r mod nm)).tot≤4611686018427387904:=by rw [Cnt.tot_add]; have:=noteF_tot (badName r mod nm); omega
 have h2:(c+noteF (badName r mod nm)+noteF (badArgs a len)).tot≤4611686018427387904:=by rw [Cnt.tot_add,Cnt.tot_add]; have:=noteF_tot (badName r mod nm); have:=noteF_tot (badArgs a len); omega
 have e3:c+noteF (badName r mod nm)+noteF (badArgs a len)+noteM (decide (3<len))=c+shapeC (r,a) mod nm len:=by rw [shapeC,Cnt.add_assoc',Cnt.add_assoc',Cnt.add_assoc']
 refine enter Tryz.func138 O 54 O O ?_
 refine CWd (W':=Ws w [vb] [blk vb (.cells #[.int .i64 0,.int .i64 ((c).f:Int),.int .i64 ((c).m:Int),.int .i64 0,.int .i64 ((c).k:Int),.int .i64 0,.int .i64 0,.int .i64 0,.int .i64 0,.int .i64 0,.map (some be),.map (some bs)] 207 (0,0))] []) (fun _ e=>by subst e; exact hw) ?_
 refine Cs (Cr ?_)
 refine WL.box Y O O fun b6=>?_
 refine Ln (Et (Cs (Cr (V0 (Ym O) (V0 (Yf fo236_0 O) (V0 (Yd 0 O O O na4) (V0 (Ym O) ?_)))))))
 apply La 12 O O O O Y O O O O O
 ·
  intro hg0
  refine Vg (Ym O) (Vg (yl_nes O O) (Vg (Ym O) ?_))
  apply La 3 O O O O (.g O O O) O O O O O
  ·
   intro hg1
   refine Vg (Ym O) ?_
   refine Lp (.g O O O) O en135 O (fun w hw=>treeName_any _ w) ?_
   refine Vg (yl_not O) ?_
   exact Gt 3 O O O
  refine Vg (Ym O) ?_
  apply Lo 3 O O O O (.g O O O) O O O O O
  ·
   intro hg2
   refine Vg (Ym O) ?_
   refine Lp (.g O O O) O en135 O (fun w hw=>treeName_any _ w) ?_
   refine Vg (yl_not O) ?_
   exact Gt 3 O O O
  exact Gt 6 O O O
 refine V0 (Ym O) ?_
 apply Lo 9 O O O O Y O O O O O
 ·
  intro hg3
  refine Vg (Yf fo236_0 O) (Vg (Yd 0 O O O na4) (Vg (yl_not O) (Vg (Ym O) ?_)))
  apply La 4 O O O O (.g O O O) O O O O O
  ·
   intro hg4
   refine Vg (Ym O) (Vg (Ym O) (Vg (yl_cats O O hl) (Vg (yl_nes O O) ?_)))
   exact Gt 4 O O O
  exact Gt 5 O O O
 refine Lf 1 O ?_
 refine Lw0 [_] _ [blk vb (.cells #[.int .i64 0,.int .i64 ((c+noteF (badName r mod nm)).f:Int),.int .i64 ((c+noteF (badName r mod nm)).m:Int),.int .i64 0,.int .i64 ((c+noteF (badName r mod nm)).k:Int),.int .i64 0,.int .i64 0,.int .i64 0,.int .i64 0,.int .i64 0,.map (some be),.map (some bs)] 207 (0,0))] Y O en109 O O [] (by simp) (fun w hw=>note1_any vb be bs (c) (badName r mod nm) w (by omega) hw) ?_
 refine Ln (Et (Cs (Cr (V0 (Ym O) (V0 (Yf fo236_1 O) (V0 (Yd 1 O O O na3) (V0 (yl_ge O O) (V0 (Ym O) ?_))))))))
 apply La 4 O O O O Y O O O O O
 ·
  intro hg5
  refine Vg (Ym O) (Vg (Yf fo236_1 O) (Vg (Yd 1 O O O na3) (Vg (yl_ne O O) ?_)))
  exact Gt 4 O O O
 refine Lf 0 O ?_
 refine Lw0 [_] _ [blk vb (.cells #[.int .i64 0,.int .i64 ((c+noteF (badName r mod nm)+noteF (badArgs a len)).f:Int),.int .i64 ((c+noteF (badName r mod nm)+noteF (badArgs a len)).m:Int),.int .i64 0,.int .i64 ((c+noteF (badName r mod nm)+noteF (badArgs a len)).k:Int),.int .i64 0,.int .i64 0,.int .i64 0,.int .i64 0,.int .i64 0,.map (some be),.map (some bs)] 207 (0,0))] Y O en109 O O [] (by simp) (fun w hw=>note1_any vb be bs (c+noteF (badName r mod nm)) (badArgs a len) w (h1) hw) ?_
 refine Ln (Et (Cr (V0 (Ym O) (V0 (Ym O) (V0 (yl_gt O O) ?_)))))
 rw [int_lt3]
 refine Lf 0 O ?_
 refine Lw0 [_] _ [blk vb (.cells #[.int .i64 0,.int .i64 ((c+noteF (badName r mod nm)+noteF (badArgs a len)+noteM (decide (3<len))).f:Int),.int .i64 ((c+noteF (badName r mod nm)+noteF (badArgs a len)+noteM (decide (3<len))).m:Int),.int .i64 0,.int .i64 ((c+noteF (badName r mod nm)+noteF (badArgs a len)+noteM (decide (3<len))).k:Int),.int .i64 0,.int .i64 0,.int .i64 0,.int .i64 0,.int .i64 0,.map (some be),.map (some bs)] 207 (0,0))] Y O en109 O O [] (by simp) (fun w hw=>note2_any vb be bs (c+noteF (badName r mod nm)+noteF (badArgs a len)) (decide (3<len)) w (h2) hw) ?_
 refine Ln ?_
 refine E0 O fun w' hw=>?_
 rw [e3] at hw
 exact ⟨O,Wt 1 hw⟩
end Go.Proofs.YtpjekjnehiinnaaGreatDoor
end
section
namespace Go.Proofs.YtpjekjnehiinnaaGreatDoor
open Go.Bw
theorem fo207_1:fieldOff Tryz.prog 207 1=some 10:=by kernel_rfl
theorem na203:nonAgg Tryz.prog 203=true:=by kernel_rfl
theorem fo166_0:fieldOff Tryz.prog 166 0=some 0:=by kernel_rfl
theorem sz236:sizeP Tryz.prog 236=some 2:=by kernel_rfl
theorem ag236:aggOf Tryz.prog 236=some 2:=by kernel_rfl
theorem fo166_2:fieldOff Tryz.prog 166 2=some 2:=by kernel_rfl
theorem fo166_3:fieldOff Tryz.prog 166 3=some 3:=by kernel_rfl
theorem fo166_4:fieldOff Tryz.prog 166 4=some 4:=by kernel_rfl
theorem na164:nonAgg Tryz.prog 164=true:=by kernel_rfl
theorem es164:elemSz Tryz.prog 164=some 5:=by kernel_rfl
theorem en138:Enters Tryz.prog 138:=enters_of Tryz.func138 (by kernel_rfl) rfl
theorem fo166_1:fieldOff Tryz.prog 166 1=some 1:=by kernel_rfl
theorem ag166:aggOf Tryz.prog 166=some 5:=by kernel_rfl
theorem zr166:zeroOf Tryz.prog 166=some (.agg #[.int .i64 0,.int .i64 0,st [],st [],.slice none 0 0]):=by kernel_rfl
theorem sz166:sizeP Tryz.prog 166=some 5:=by kernel_rfl
theorem en139:Enters Tryz.prog 139:=enters_of Tryz.func139 (by kernel_rfl) rfl
theorem vexpr_any (vb be bs:Nat) (H:View) (k:Nat) (x:TExpr) (a:Option Addr) (n:Nat) (d:Nat) (c:Cnt) (w:World) (hm:Sl (RdE k) 5 H a n x.args) (hb:c.tot+8*wE x≤1152921504606846976) (hw:Ws w [vb,be,bs] [blk vb (.cells #[.int .i64 0,.int .i64 ((c).f:Int),.int .i64 ((c).m:Int),.int .i64 0,.int .i64 ((c).k:Int),.int .i64 0,.int .i64 0,.int .i64 0,.int .i64 0,.int .i64 0,.map (some be),.map (some bs)] 207 (0,0)),blk be (gobj kI (exprsK 9) 15),blk bs (gobj kI stmtsK 7)] [H] w) :
   Calls Tryz.prog 139 #[.pointer (some ⟨vb,0,none⟩),.agg #[.int .i64 x.op,.int .i64 x.n,st x.mod,st x.nm,.slice a x.args.length n],.int .i64 (d:Int)] w fun e w'=>e = .returned (.tuple #[])∧Ws w [vb,be,bs] [blk vb (.cells #[.int .i64 0,.int .i64 ((c+cntE x d).f:Int),.int .i64 ((c+cntE x d).m:Int),.int .i64 0,.int .i64 ((c+cntE x d).k:Int),.int .i64 0,.int .i64 0,.int .i64 0,.int .i64 0,.int .i64 0,.map (some be),.map (some bs)] 207 (0,0)),blk be (gobj kI (exprsK 9) 15),blk bs (gobj kI stmtsK 7)] [H] w':=by
 induction k using Nat.strongRecOn generalizing x a n d c w
 rename_i k ih
 have hcap:=hm.cap
 have hmax:=hm.max
 have hw8:=wE_eq x
 have hge:gget x.op (exprsK 9) (.agg #[.bool false,.int .i64 0]) = .agg #[.bool ((shE x.op).getD (false,0)).1,.int .i64 ((shE x.op).getD (false,0)).2]:=(exprs_get x.op).1
 have hgh:=(exprs_get x.op).2
 have t1:=noteK_tot (shE x.op).isNone
 have t2:=shapeC_tot ((shE x.op).getD (false,0)) x.mod x.nm x.args.length
 have t3:=noteF_tot (numBad x.op x.n)
 refine enter Tryz.func139 O 76 O O ?_
 refine CWd (W':=Ws w [vb,be,bs] [blk vb (.cells #[.int .i64 0,.int .i64 ((c).f:Int),.int .i64 ((c).m:Int),.int .i64 0,.int .i64 ((c).k:Int),.int .i64 0,.int .i64 0,.int .i64 0,.int .i64 0,.int .i64 0,.map (some be),.map (some bs)] 207 (0,0)),blk be (gobj kI (exprsK 9) 15),blk bs (gobj kI stmtsK 7)] [H]) (fun _ e=>by subst e; exact hw) ?_
 refine Cs (Cr ?_)
 refine WL.box Y O O fun b4=>?_
 refine Ln (Et (Cs (Cs (Cr (V0 (Ym O) (V0 (yl_gt O O) (Ln (Et ?_))))))))
 refine Cc O (fun hc0=>?_) (fun hc0=>?_)
 ·
  have hd:6<d:=by simp at hc0; omega
  refine Cs (Cr (V0 (Ym O) (Lf 1 O ?_)))
  refine Lw0 [_] _ [blk vb (.cells #[.int .i64 0,.int .i64 ((c+noteM (true)).f:Int),.int .i64 ((c+noteM (true)).m:Int),.int .i64 0,.int .i64 ((c+noteM (true)).k:Int),.int .i64 0,.int .i64 0,.int .i64 0,.int .i64 0,.int .i64 0,.map (some be),.map (some bs)] 207 (0,0))] Y O en109 O O [] (by simp) (fun w hw=>note2_any vb be bs (c) (true) w (by omega) hw) ?_
  refine Ln (Et (Crt (Er ?_)))
  refine WE.ret0 O fun w' hw=>?_
  rw [show c+cntE x d=c+noteM true by rw [cntE_eq,if_pos hd]; rfl]
  exact ⟨O,(by have h:=hw; have h:=h.fronti 3 O; have h:=h.fronti 3 O; have h:=h.fronti 2 O; exact Wt 3 h)⟩
 have hd:¬6<d:=by simp at hc0; omega
 have hE:c+cntE x d=c+noteK (shE x.op).isNone+shapeC ((shE x.op).getD (false,0)) x.mod x.nm x.args.length+noteF (numBad x.op x.n)+cntEs x.args (d+1):=by rw [cntE_eq,if_neg hd,Cnt.add_assoc',Cnt.add_assoc',Cnt.add_assoc',Cnt.add_assoc',Cnt.add_assoc']
 have hT1:(c+noteK (shE x.op).isNone).tot≤1152921504606846980:=by rw [Cnt.tot_add]; omega
 have hT2:(c+noteK (shE x.op).isNone+shapeC ((shE x.op).getD (false,0)) x.mod x.nm x.args.length).tot≤1152921504606846990:=by rw [Cnt.tot_add,Cnt.tot_add]; omega
 refine Ck (Et (Cs ?_))
 refine WC.draws0 [(0,true),(1,true),(2,true),(3,true),(4,true),(5,true),(6,true),(7,true),(8,true),(9,true),(10,false),(11,false),(12,false)] mixed (by kernel_rfl) (fun _ _ _ d _ h=>by cases d<;>exact h) ?_
 refine D0 O (fun _ h=>h) (Ym O) (D0 O (fun _ h=>h) (yl_nil O) (D0 O (fun _ h=>h) (Yf fo207_1 O) (D0 O (fun _ h=>h) (Yd 1 O O O na203) (D0 O (fun _ h=>h) (Yf fo166_0 O) (D0 O (fun _ h=>h) (Yd 0 O O O na3) ?_)))))
 refine D0 O (fun _ h=>h) (yl_glook2 2 keyInt um203 ui3 zr236 O O O) ?_
 rw [hge,hgh]
 refine D0 O (fun _ h=>h) (Ym O) (D0 O (fun _ h=>h) (Yx O O) (D0 O (fun _ h=>h) (Yx O O) ?_))
 refine De O (fun _ h=>h) ?_
 refine Al Y O zr236 fun b6=>?_
 refine Ln (Ed ?_)
 refine De O (fun _ h=>(Wd 1 h:)) ?_
 refine Lst 0 Y O O O sz236 O O O (Ln (Ed ?_))
 refine De O (fun _ h=>(Wd 1 h:)) ?_
 refine V0 (Ya O) (Ln (Ed ?_))
 refine WD.nil (fun _ h=>(Wd 1 h:)) ?_
 refine Et (Cs (Cr (V0 (Ym O) (V0 (Ym O) (V0 (yl_not O) ?_)))))
 rw [Bool.not_not]
 refine Lf 2 O ?_
 refine Lw0 [_] _ [blk vb (.cells #[.int .i64 0,.int .i64 ((c+noteK ((shE x.op).isNone)).f:Int),.int .i64 ((c+noteK ((shE x.op).isNone)).m:Int),.int .i64 0,.int .i64 ((c+noteK ((shE x.op).isNone)).k:Int),.int .i64 0,.int .i64 0,.int .i64 0,.int .i64 0,.int .i64 0,.map (some be),.map (some bs)] 207 (0,0))] Y O en109 O O [] (by simp) (fun w hw=>note4_any vb be bs (c) ((shE x.op).isNone) w (by omega) hw) ?_
 refine Ln (Et (Cs (Cr (V0 (Ym O) (V0 (Yda 1 O O ag236 O) (V0 (Yf fo166_2 O) (V0 (Yd 2 O O O na9) (V0 (Yf fo166_3 O) ?_))))))))
 refine V0 (Yd 2 O O O na9) (V0 (Yf fo166_4 O) (V0 (Yd 2 O O O na164) (V0 (Yn es164 O) (Lf 0 O ?_))))
 refine Lw0 [_] _ [blk vb (.cells #[.int .i64 0,.int .i64 ((c+noteK (shE x.op).isNone+shapeC ((shE x.op).getD (false,0)) x.mod x.nm x.args.length).f:Int),.int .i64 ((c+noteK (shE x.op).isNone+shapeC ((shE x.op).getD (false,0)) x.mod x.nm x.args.length).m:Int),.int .i64 0,.int .i64 ((c+noteK (shE x.op).isNone+shapeC ((shE x.op).getD (false,0)) x.mod x.nm x.args.length).k:Int),.int .i64 0,.int .i64 0,.int .i64 0,.int .i64 0,.int .i64 0,.map (some be),.map (some bs)] 207 (0,0))] Y O en138 O O [] (by simp) (fun w hw=>vshape_any vb be bs ((shE x.op).getD (false,0)).1 ((shE x.op).getD (false,0)).2 x.mod x.nm x.args.length (c+noteK (shE x.op).isNone) w (by omega) (by omega) hw) ?_
 refine Ln (Et (Cs (Cr (V0 (Ym O) (V0 (Yf fo166_0 O) (V0 (Yd 2 O O O na3) (V0 (yl_eq O O) (V0 (Ym O) ?_))))))))
 apply La 8 O O O O Y O O O O O
 ·
  intro hg0
  refine Vg (Yf fo166_1 O) (Vg (Yd 2 O O O na3) (Vg (yl_lt O O) (Vg (Ym O) ?_)))
  apply Lo 3 O O O O (.g O O O) O O O O O
  ·
   intro hg1
   refine Vg (Yf fo166_1 O) (Vg (Yd 2 O O O na3) (Vg (yl_gt O O) ?_))
   exact Gt 3 O O O
  exact Gt 5 O O O
 refine V0 (Ym O) ?_
 apply Lo 8 O O O O Y O O O O O
 ·
  intro hg2
  refine Vg (Yf fo166_0 O) (Vg (Yd 2 O O O na3) (Vg (yl_ne O O) (Vg (Ym O) ?_)))
  apply La 3 O O O O (.g O O O) O O O O O
  ·
   intro hg3
   refine Vg (Yf fo166_1 O) (Vg (Yd 2 O O O na3) (Vg (yl_ne O O) ?_))
   exact Gt 3 O O O
  exact Gt 5 O O O
 refine Lf 0 O ?_
 refine Lw0 [_] _ [blk vb (.cells #[.int .i64 0,.int .i64 ((c+noteK (shE x.op).isNone+shapeC ((shE x.op).getD (false,0)) x.mod x.nm x.args.length+noteF (numBad x.op x.n)).f:Int),.int .i64 ((c+noteK (shE x.op).isNone+shapeC ((shE x.op).getD (false,0)) x.mod x.nm x.args.length+noteF (numBad x.op x.n)).m:Int),.int .i64 0,.int .i64 ((c+noteK (shE x.op).isNone+shapeC ((shE x.op).getD (false,0)) x.mod x.nm x.args.length+noteF (numBad x.op x.n)).k:Int),.int .i64 0,.int .i64 0,.int .i64 0,.int .i64 0,.int .i64 0,.map (some be),.map (some bs)] 207 (0,0))] Y O en109 O O [] (by simp) (fun w hw=>note1_any vb be bs (c+noteK (shE x.op).isNone+shapeC ((shE x.op).getD (false,0)) x.mod x.nm x.args.length) (numBad x.op x.n) w (by omega) hw) ?_
 refine Ln (Et (Cs (Cr (V0 (Yf fo166_4 O) (V0 (Yd 2 O O O na164) (V0 (Yn es164 O) (V0 (Ym O) (Ln (Et (Cb ?_))))))))))
 refine CLk (ι:=Nat) (fun i=>[(66,.int .i64 (i:Int))]) [(0,_),(2,_),(64,_),(65,_)] (fun i=>Ws w [vb,be,bs] [blk vb (.cells #[.int .i64 0,.int .i64 ((c+noteK (shE x.op).isNone+shapeC ((shE x.op).getD (false,0)) x.mod x.nm x.args.length+noteF (numBad x.op x.n)+cntEs (x.args.take i) (d+1)).f:Int),.int .i64 ((c+noteK (shE x.op).isNone+shapeC ((shE x.op).getD (false,0)) x.mod x.nm x.args.length+noteF (numBad x.op x.n)+cntEs (x.args.take i) (d+1)).m:Int),.int .i64 0,.int .i64 ((c+noteK (shE x.op).isNone+shapeC ((shE x.op).getD (false,0)) x.mod x.nm x.args.length+noteF (numBad x.op x.n)+cntEs (x.args.take i) (d+1)).k:Int),.int .i64 0,.int .i64 0,.int .i64 0,.int .i64 0,.int .i64 0,.map (some be),.map (some bs)] 207 (0,0)),blk be (gobj kI (exprsK 9) 15),blk bs (gobj kI stmtsK 7)] [H]) (fun i=>i≤x.args.length) (fun i=>x.args.length-i) 0 (Nat.zero_le _) (sc O (sc O (sc O (sc O (sc O sn))))) (fun _ h=>(Wt 3 (((h.f 4 O).f 4 O).f 2 O):)) ?_
 intro i hi
 refine Cs (Cr (V0 (yl_lt O O) (Ln (Et (Cs ?_)))))
 refine Cc O (fun hc1=>?_) (fun hc1=>?_)
 ·
  have hlt:i<x.args.length:=by simpa using hc1
  obtain ⟨y,hyi⟩:∃q,x.args[i]? = some q:=⟨_,List.getElem?_eq_getElem hlt⟩
  obtain ⟨pby,poy,hay,hry⟩:=hm.elt i y hyi
  obtain ⟨k',rfl⟩:∃k',k=k'+1:=by
    cases k with
    | zero=>exact hry.elim
    | succ k'=>exact ⟨k',rfl⟩
  obtain ⟨ya,yn,hrow,hsub⟩:=hry
  have hup:=wEs_upto hyi
  have hle:=cntEs_le (x.args.take i) (d+1)
  have hbi:(c+noteK (shE x.op).isNone+shapeC ((shE x.op).getD (false,0)) x.mod x.nm x.args.length+noteF (numBad x.op x.n)+cntEs (x.args.take i) (d+1)).tot+8*wE y≤1152921504606846976:=by rw [Cnt.tot_add,Cnt.tot_add,Cnt.tot_add,Cnt.tot_add]; omega
  have e2:c+noteK (shE x.op).isNone+shapeC ((shE x.op).getD (false,0)) x.mod x.nm x.args.length+noteF (numBad x.op x.n)+cntEs (x.args.take i) (d+1)+cntE y (d+1)=c+noteK (shE x.op).isNone+shapeC ((shE x.op).getD (false,0)) x.mod x.nm x.args.length+noteF (numBad x.op x.n)+cntEs (x.args.take (i+1)) (d+1):=by rw [cntEs_take (d+1) hyi,←Cnt.add_assoc']
  refine Ck (Et (Cs (Cb (Cs (Cr ?_)))))
  refine V0 (Yo es164 O O hay (by omega)) ?_
  refine V0 (yl_lda 0 ag166 O O O (hrow)) ?_
  refine Al Y O zr166 fun b9=>?_
  refine Lst 0 Y O O O sz166 O O O (Ln (Et (Cr (V0 (Ym O) (V0 (Yda 0 O O ag166 O) (V0 (Ym O) ?_))))))
  refine V0 (Yi O O O (by omega)) ?_
  refine Lf 3 O (Lf 3 O (Lf 3 O ?_))
  refine Lw0 [_,_,_] _ [blk vb (.cells #[.int .i64 0,.int .i64 ((c+noteK (shE x.op).isNone+shapeC ((shE x.op).getD (false,0)) x.mod x.nm x.args.length+noteF (numBad x.op x.n)+cntEs (x.args.take i) (d+1)+cntE y (d+1)).f:Int),.int .i64 ((c+noteK (shE x.op).isNone+shapeC ((shE x.op).getD (false,0)) x.mod x.nm x.args.length+noteF (numBad x.op x.n)+cntEs (x.args.take i) (d+1)+cntE y (d+1)).m:Int),.int .i64 0,.int .i64 ((c+noteK (shE x.op).isNone+shapeC ((shE x.op).getD (false,0)) x.mod x.nm x.args.length+noteF (numBad x.op x.n)+cntEs (x.args.take i) (d+1)+cntE y (d+1)).k:Int),.int .i64 0,.int .i64 0,.int .i64 0,.int .i64 0,.int .i64 0,.map (some be),.map (some bs)] 207 (0,0)),blk be (gobj kI (exprsK 9) 15),blk bs (gobj kI stmtsK 7)] Y O en139 O O [H] (by simp) (fun w hw=>by
      have:=ih k' (by omega) y ya yn (d+1) (c+noteK (shE x.op).isNone+shapeC ((shE x.op).getD (false,0)) x.mod x.nm x.args.length+noteF (numBad x.op x.n)+cntEs (x.args.take i) (d+1)) w hsub hbi hw
      exact this) ?_
  refine Ln (Eb (Et (Cr ?_)))
  refine V0 (Yi O O O (by omega)) ?_
  refine V0 (Ym O) (Ln ?_)
  rw [e2]
  exact Ea (i+1) (by omega) (by omega) (sc O (sc O (sc O (sc O (sc O sn))))) (fun _ h=>(Wt 3 (((h.f 2 O).f 2 O).f 2 O):))
 have hge2:¬i<x.args.length:=by simpa using hc1
 rw [List.take_of_length_le (by omega),←hE]
 refine Ce (Ex (Ex (Ebh ?_)))
 refine E0 O fun w' hw=>?_
 exact ⟨O,hw⟩
end Go.Proofs.YtpjekjnehiinnaaGreatDoor
end
section
namespace Go.Proofs.YtpjekjnehiinnaaGreatDoor
open Go.Bw
theorem c0_add (c:Cnt):c0+c=c:=by apply Cnt.ext'<;>simp [Cnt.add_f,Cnt.add_m,Cnt.add_k,c0]
theorem int_lt0 (n:Nat):decide ((0:Int)<(n:Int))=decide (0<n):=by rw [Bool.eq_iff_iff]; simp
theorem int_lt10 (n:Nat):decide ((10:Int)<(n:Int))=decide (10<n):=by rw [Bool.eq_iff_iff]; simp; omega
theorem cntB_eq {l:List TStmt} {d:Nat} (h:¬6<d):cntB l d=noteM (decide (10<l.length))+cntSs l d:=by rw [cntB,blkC,if_neg h]
theorem es109:elemSz Tryz.prog 109=some 6:=by kernel_rfl
theorem ag168:aggOf Tryz.prog 168=some 6:=by kernel_rfl
theorem zr168:zeroOf Tryz.prog 168=some (.agg #[.int .i64 0,st [],st [],.slice none 0 0,.slice none 0 0,.slice none 0 0]):=by kernel_rfl
theorem sz168:sizeP Tryz.prog 168=some 6:=by kernel_rfl
theorem fo207_2:fieldOff Tryz.prog 207 2=some 11:=by kernel_rfl
theorem fo168_0:fieldOff Tryz.prog 168 0=some 0:=by kernel_rfl
theorem fo168_1:fieldOff Tryz.prog 168 1=some 1:=by kernel_rfl
theorem fo168_2:fieldOff Tryz.prog 168 2=some 2:=by kernel_rfl
theorem fo168_3:fieldOff Tryz.prog 168 3=some 3:=by kernel_rfl
theorem fo168_4:fieldOff Tryz.prog 168 4=some 4:=by kernel_rfl
theorem na109:nonAgg Tryz.prog 109=true:=by kernel_rfl
theorem fo168_5:fieldOff Tryz.prog 168 5=some 5:=by kernel_rfl
theorem en111:Enters Tryz.prog 111:=enters_of Tryz.func111 (by kernel_rfl) rfl
theorem vblock_any (vb be bs:Nat) (H:View) (ke k:Nat) (l:List TStmt) (a:Option Addr) (n:Nat) (d:Nat) (c:Cnt) (w:World) (hm:Sl (RdS ke k) 6 H a n l) (hb:c.tot+2+8*wSs l≤1152921504606846976) (hw:Ws w [vb,be,bs] [blk vb (.cells #[.int .i64 0,.int .i64 ((c).f:Int),.int .i64 ((c).m:Int),.int .i64 0,.int .i64 ((c).k:Int),.int .i64 0,.int .i64 0,.int .i64 0,.int .i64 0,.int .i64 0,.map (some be),.map (some bs)] 207 (0,0)),blk be (gobj kI (exprsK 9) 15),blk bs (gobj kI stmtsK 7)] [H] w) :
   Calls Tryz.prog 111 #[.pointer (some ⟨vb,0,none⟩),.slice a l.length n,.int .i64 (d:Int)] w fun e w'=>e = .returned (.tuple #[])∧Ws w [vb,be,bs] [blk vb (.cells #[.int .i64 0,.int .i64 ((c+cntB l d).f:Int),.int .i64 ((c+cntB l d).m:Int),.int .i64 0,.int .i64 ((c+cntB l d).k:Int),.int .i64 0,.int .i64 0,.int .i64 0,.int .i64 0,.int .i64 0,.map (some be),.map (some bs)] 207 (0,0)),blk be (gobj kI (exprsK 9) 15),blk bs (gobj kI stmtsK 7)] [H] w':=by
 induction k using Nat.strongRecOn generalizing l a n d c w
 rename_i k ih
 have hcap:=hm.cap
 have hmax:=hm.max
 have tM:=noteM_tot (decide (10<l.length))
 refine enter Tryz.func111 O 116 O O ?_
 refine CWd (W':=Ws w [vb,be,bs] [blk vb (.cells #[.int .i64 0,.int .i64 ((c).f:Int),.int .i64 ((c).m:Int),.int .i64 0,.int .i64 ((c).k:Int),.int .i64 0,.int .i64 0,.int .i64 0,.int .i64 0,.int .i64 0,.map (some be),.map (some bs)] 207 (0,0)),blk be (gobj kI (exprsK 9) 15),blk bs (gobj kI stmtsK 7)] [H]) (fun _ e=>by subst e; exact hw) ?_
 refine Cs (Cs (Cr (V0 (Ym O) (V0 (yl_gt O O) (Ln (Et ?_))))))
 refine Cc O (fun hc0=>?_) (fun hc0=>?_)
 ·
  have hd:6<d:=by simp at hc0; omega
  refine Cs (Cr (V0 (Ym O) (Lf 0 O ?_)))
  refine Lw0 [_] _ [blk vb (.cells #[.int .i64 0,.int .i64 ((c+noteM (true)).f:Int),.int .i64 ((c+noteM (true)).m:Int),.int .i64 0,.int .i64 ((c+noteM (true)).k:Int),.int .i64 0,.int .i64 0,.int .i64 0,.int .i64 0,.int .i64 0,.map (some be),.map (some bs)] 207 (0,0))] Y O en109 O O [] (by simp) (fun w hw=>note2_any vb be bs (c) (true) w (by omega) hw) ?_
  refine Ln (Et (Crt (Er ?_)))
  refine WE.ret0 O fun w' hw=>?_
  rw [show c+cntB l d=c+noteM true by rw [cntB,blkC,if_pos hd]; rfl]
  exact ⟨O,hw⟩
 have hd:¬6<d:=by simp at hc0; omega
 refine Ck (Et (Cs (Cr (V0 (Ym O) (V0 (Ym O) (V0 (Yn es109 O) (V0 (yl_gt O O) ?_)))))))
 rw [int_lt10]
 refine Lf 0 O ?_
 refine Lw0 [_] _ [blk vb (.cells #[.int .i64 0,.int .i64 ((c+noteM (decide (10<l.length))).f:Int),.int .i64 ((c+noteM (decide (10<l.length))).m:Int),.int .i64 0,.int .i64 ((c+noteM (decide (10<l.length))).k:Int),.int .i64 0,.int .i64 0,.int .i64 0,.int .i64 0,.int .i64 0,.map (some be),.map (some bs)] 207 (0,0))] Y O en109 O O [] (by simp) (fun w hw=>note2_any vb be bs (c) (decide (10<l.length)) w (by omega) hw) ?_
 refine Ln (Et (Cs (Cr (V0 (Ym O) (V0 (Yn es109 O) (V0 (Ym O) (Ln (Et (Cb ?_)))))))))
 refine CLk (ι:=Nat) (fun i=>[(24,.int .i64 (i:Int))]) [(0,_),(2,_),(22,_),(23,_)] (fun i=>Ws w [vb,be,bs] [blk vb (.cells #[.int .i64 0,.int .i64 ((c+noteM (decide (10<l.length))+cntSs (l.take i) d).f:Int),.int .i64 ((c+noteM (decide (10<l.length))+cntSs (l.take i) d).m:Int),.int .i64 0,.int .i64 ((c+noteM (decide (10<l.length))+cntSs (l.take i) d).k:Int),.int .i64 0,.int .i64 0,.int .i64 0,.int .i64 0,.int .i64 0,.map (some be),.map (some bs)] 207 (0,0)),blk be (gobj kI (exprsK 9) 15),blk bs (gobj kI stmtsK 7)] [H]) (fun i=>i≤l.length) (fun i=>l.length-i) 0 (Nat.zero_le _) (sc O (sc O (sc O (sc O (sc O sn))))) (fun _ h=>h) ?_
 intro i hi
 refine Cs (Cr (V0 (yl_lt O O) (Ln (Et (Cs ?_)))))
 refine Cc O (fun hc1=>?_) (fun hc1=>?_)
 ·
  have hlt:i<l.length:=by simpa using hc1
  obtain ⟨y,hyi⟩:∃q,l[i]? = some q:=⟨_,List.getElem?_eq_getElem hlt⟩
  obtain ⟨pby,poy,hay,hry⟩:=hm.elt i y hyi
  obtain ⟨k',rfl⟩:∃k',k=k'+1:=by
    cases k with
    | zero=>exact hry.elim
    | succ k'=>exact ⟨k',rfl⟩
  obtain ⟨ya,yn,y2,m2,y3,m3,hrow,hs1,hs2,hs3⟩:=hry
  have hup:=wSs_upto hyi
  have hwy:=wS_eq y
  have hle:=cntSs_le (l.take i) d
  have t1:=noteK_tot (shS y.op).isNone
  have t2:=shapeC_tot ((shS y.op).getD (false,0)) y.mod y.nm y.args.length
  have t3:=noteF_tot (bodyBad y.op y.body.length y.other.length)
  have t4:=cntEs_le y.args 1
  have t5:=cntB_le y.body (d+1)
  have hge:gget y.op stmtsK (.agg #[.bool false,.int .i64 0]) = .agg #[.bool ((shS y.op).getD (false,0)).1,.int .i64 ((shS y.op).getD (false,0)).2]:=(stmts_get y.op).1
  have hgh:=(stmts_get y.op).2
  have cap1:=hs1.cap
  have max1:=hs1.max
  have cap2:=hs2.cap
  have max2:=hs2.max
  have cap3:=hs3.cap
  have max3:=hs3.max
  have hb1:(c+noteM (decide (10<l.length))+cntSs (l.take i) d).tot≤1152921504606846976:=by simp only [Cnt.tot_add]; omega
  have hb2:(c+noteM (decide (10<l.length))+cntSs (l.take i) d+noteK (shS y.op).isNone).tot+4≤1152921504606846976:=by simp only [Cnt.tot_add]; omega
  have hb4:(c+noteM (decide (10<l.length))+cntSs (l.take i) d+noteK (shS y.op).isNone+shapeC ((shS y.op).getD (false,0)) y.mod y.nm y.args.length+cntEs y.args 1).tot≤1152921504606846976:=by simp only [Cnt.tot_add]; omega
  have hb5:(c+noteM (decide (10<l.length))+cntSs (l.take i) d+noteK (shS y.op).isNone+shapeC ((shS y.op).getD (false,0)) y.mod y.nm y.args.length+cntEs y.args 1+noteF (bodyBad y.op y.body.length y.other.length)).tot+2+8*wSs y.body≤1152921504606846976:=by simp only [Cnt.tot_add]; omega
  have hb6:(c+noteM (decide (10<l.length))+cntSs (l.take i) d+noteK (shS y.op).isNone+shapeC ((shS y.op).getD (false,0)) y.mod y.nm y.args.length+cntEs y.args 1+noteF (bodyBad y.op y.body.length y.other.length)+cntB y.body (d+1)).tot+2+8*wSs y.other≤1152921504606846976:=by simp only [Cnt.tot_add]; omega
  have hb7:(c+noteM (decide (10<l.length))+cntSs (l.take i) d+noteK (shS y.op).isNone+shapeC ((shS y.op).getD (false,0)) y.mod y.nm y.args.length+cntEs y.args 1+noteF (bodyBad y.op y.body.length y.other.length)).tot+2+8*wSs y.other≤1152921504606846976:=by simp only [Cnt.tot_add]; omega
  refine Ck (Et (Cs (Cb (Cs (Cr ?_)))))
  refine V0 (Yo es109 O O hay (by omega)) ?_
  refine V0 (yl_lda 0 ag168 O O O (hrow)) ?_
  refine Al Y O zr168 fun b7=>?_
  refine Lst 0 Y O O O sz168 O O O (Ln (Et (Cs ?_)))
  refine WC.draws0 [(0,true),(1,true),(2,true),(3,true),(4,true),(5,true),(6,true),(7,true),(8,true),(9,true),(10,false),(11,false),(12,false)] mixed (by kernel_rfl) (fun _ _ _ d _ h=>by cases d<;>exact h) ?_
  refine D0 O (fun _ h=>h) (Ym O) (D0 O (fun _ h=>h) (yl_nil O) (D0 O (fun _ h=>h) (Yf fo207_2 O) (D0 O (fun _ h=>h) (Yd 1 O O O na203) (D0 O (fun _ h=>h) (Yf fo168_0 O) (D0 O (fun _ h=>h) (Yd 0 O O O na3) ?_)))))
  refine D0 O (fun _ h=>h) (yl_glook2 3 keyInt um203 ui3 zr236 O O O) ?_
  rw [hge,hgh]
  refine D0 O (fun _ h=>h) (Ym O) (D0 O (fun _ h=>h) (Yx O O) (D0 O (fun _ h=>h) (Yx O O) ?_))
  refine De O (fun _ h=>h) ?_
  refine Al Y O zr236 fun b8=>?_
  refine Ln (Ed ?_)
  refine De O (fun _ h=>(Wd 1 h:)) ?_
  refine Lst 0 Y O O O sz236 O O O (Ln (Ed ?_))
  refine De O (fun _ h=>(Wd 1 h:)) ?_
  refine V0 (Ya O) (Ln (Ed ?_))
  refine WD.nil (fun _ h=>(Wd 1 h:)) ?_
  refine Et (Cs (Cr (V0 (Ym O) (V0 (Ym O) (V0 (yl_not O) ?_)))))
  rw [Bool.not_not]
  refine Lf 2 O ?_
  refine Lw0 [_] _ [blk vb (.cells #[.int .i64 0,.int .i64 ((c+noteM (decide (10<l.length))+cntSs (l.take i) d+noteK ((shS y.op).isNone)).f:Int),.int .i64 ((c+noteM (decide (10<l.length))+cntSs (l.take i) d+noteK ((shS y.op).isNone)).m:Int),.int .i64 0,.int .i64 ((c+noteM (decide (10<l.length))+cntSs (l.take i) d+noteK ((shS y.op).isNone)).k:Int),.int .i64 0,.int .i64 0,.int .i64 0,.int .i64 0,.int .i64 0,.map (some be),.map (some bs)] 207 (0,0))] Y O en109 O O [] (by simp) (fun w hw=>note4_any vb be bs (c+noteM (decide (10<l.length))+cntSs (l.take i) d) ((shS y.op).isNone) w (by omega) hw) ?_
  refine Ln (Et (Cs (Cr (V0 (Ym O) (V0 (Yda 1 O O ag236 O) (V0 (Yf fo168_1 O) (V0 (Yd 2 O O O na9) (V0 (Yf fo168_2 O) ?_))))))))
  refine V0 (Yd 2 O O O na9) (V0 (Yf fo168_3 O) (V0 (Yd 2 O O O na164) (V0 (Yn es164 O) (Lf 0 O ?_))))
  refine Lw0 [_] _ [blk vb (.cells #[.int .i64 0,.int .i64 ((c+noteM (decide (10<l.length))+cntSs (l.take i) d+noteK (shS y.op).isNone+shapeC ((shS y.op).getD (false,0)) y.mod y.nm y.args.length).f:Int),.int .i64 ((c+noteM (decide (10<l.length))+cntSs (l.take i) d+noteK (shS y.op).isNone+shapeC ((shS y.op).getD (false,0)) y.mod y.nm y.args.length).m:Int),.int .i64 0,.int .i64 ((c+noteM (decide (10<l.length))+cntSs (l.take i) d+noteK (shS y.op).isNone+shapeC ((shS y.op).getD (false,0)) y.mod y.nm y.args.length).k:Int),.int .i64 0,.int .i64 0,.int .i64 0,.int .i64 0,.int .i64 0,.map (some be),.map (some bs)] 207 (0,0))] Y O en138 O O [] (by simp) (fun w hw=>vshape_any vb be bs ((shS y.op).getD (false,0)).1 ((shS y.op).getD (false,0)).2 y.mod y.nm y.args.length (c+noteM (decide (10<l.length))+cntSs (l.take i) d+noteK (shS y.op).isNone) w (by omega) (by omega) hw) ?_
  refine Ln (Et (Cs (Cs (Cr (V0 (Yf fo168_3 O) (V0 (Yd 2 O O O na164) (V0 (Yn es164 O) (V0 (Ym O) (Ln (Et (Cb ?_)))))))))))
  refine CLk (ι:=Nat) (fun j=>[(55,.int .i64 (j:Int))]) [(0,_),(2,_),(7,_),(22,_),(23,_),(24,_),(53,_),(54,_)] (fun j=>Ws w [vb,be,bs] ([blk vb (.cells #[.int .i64 0,.int .i64 ((c+noteM (decide (10<l.length))+cntSs (l.take i) d+noteK (shS y.op).isNone+shapeC ((shS y.op).getD (false,0)) y.mod y.nm y.args.length+cntEs (y.args.take j) 1).f:Int),.int .i64 ((c+noteM (decide (10<l.length))+cntSs (l.take i) d+noteK (shS y.op).isNone+shapeC ((shS y.op).getD (false,0)) y.mod y.nm y.args.length+cntEs (y.args.take j) 1).m:Int),.int .i64 0,.int .i64 ((c+noteM (decide (10<l.length))+cntSs (l.take i) d+noteK (shS y.op).isNone+shapeC ((shS y.op).getD (false,0)) y.mod y.nm y.args.length+cntEs (y.args.take j) 1).k:Int),.int .i64 0,.int .i64 0,.int .i64 0,.int .i64 0,.int .i64 0,.map (some be),.map (some bs)] 207 (0,0)),blk be (gobj kI (exprsK 9) 15),blk bs (gobj kI stmtsK 7)]++[blk b7 (.cells (stmtV y ya yn y2 m2 y3 m3).toArray 168 (0,0))]) [H]) (fun j=>j≤y.args.length) (fun j=>y.args.length-j) 0 (Nat.zero_le _) (sc O (sc O (sc O (sc O (sc O (sc O (sc O (sc O (sc O sn))))))))) (fun _ h=>by exact (Wt 4 ((((h.f 2 O).f 4 O).f 4 O).f 3 O):)) ?_
  intro j hj
  refine Cs (Cr (V0 (yl_lt O O) (Ln (Et (Cs ?_)))))
  refine Cc O (fun hc2=>?_) (fun hc2=>?_)
  ·
   have hlt:j<y.args.length:=by simpa using hc2
   obtain ⟨z,hzi⟩:∃q,y.args[j]? = some q:=⟨_,List.getElem?_eq_getElem hlt⟩
   obtain ⟨pbz,poz,haz,hrz⟩:=hs1.elt j z hzi
   obtain ⟨ke',rfl⟩:∃ke',ke=ke'+1:=by
     cases ke with
     | zero=>exact hrz.elim
     | succ k'=>exact ⟨k',rfl⟩
   obtain ⟨za,zn,hrow2,hsub⟩:=hrz
   have hup2:=wEs_upto hzi
   have hle2:=cntEs_le (y.args.take j) 1
   have hbj:(c+noteM (decide (10<l.length))+cntSs (l.take i) d+noteK (shS y.op).isNone+shapeC ((shS y.op).getD (false,0)) y.mod y.nm y.args.length+cntEs (y.args.take j) 1).tot+8*wE z≤1152921504606846976:=by simp only [Cnt.tot_add]; omega
   have e2:c+noteM (decide (10<l.length))+cntSs (l.take i) d+noteK (shS y.op).isNone+shapeC ((shS y.op).getD (false,0)) y.mod y.nm y.args.length+cntEs (y.args.take j) 1+cntE z 1=c+noteM (decide (10<l.length))+cntSs (l.take i) d+noteK (shS y.op).isNone+shapeC ((shS y.op).getD (false,0)) y.mod y.nm y.args.length+cntEs (y.args.take (j+1)) 1:=by rw [cntEs_take 1 hzi,←Cnt.add_assoc']
   refine Ck (Et (Cs (Cb (Cs (Cr ?_)))))
   refine V0 (Yo es164 O O haz (by omega)) ?_
   refine V0 (yl_lda 0 ag166 O O O (hrow2)) ?_
   refine Al Y O zr166 fun b11=>?_
   refine Lst 0 Y O O O sz166 O O O (Ln (Et (Cr (V0 (Ym O) (V0 (Yda 0 O O ag166 O) (Lf 3 O (Lf 3 O ?_)))))))
   refine Lf 3 O ?_
   refine Lw0 [_,_,_] _ [blk vb (.cells #[.int .i64 0,.int .i64 ((c+noteM (decide (10<l.length))+cntSs (l.take i) d+noteK (shS y.op).isNone+shapeC ((shS y.op).getD (false,0)) y.mod y.nm y.args.length+cntEs (y.args.take j) 1+cntE z 1).f:Int),.int .i64 ((c+noteM (decide (10<l.length))+cntSs (l.take i) d+noteK (shS y.op).isNone+shapeC ((shS y.op).getD (false,0)) y.mod y.nm y.args.length+cntEs (y.args.take j) 1+cntE z 1).m:Int),.int .i64 0,.int .i64 ((c+noteM (decide (10<l.length))+cntSs (l.take i) d+noteK (shS y.op).isNone+shapeC ((shS y.op).getD (false,0)) y.mod y.nm y.args.length+cntEs (y.args.take j) 1+cntE z 1).k:Int),.int .i64 0,.int .i64 0,.int .i64 0,.int .i64 0,.int .i64 0,.map (some be),.map (some bs)] 207 (0,0)),blk be (gobj kI (exprsK 9) 15),blk bs (gobj kI stmtsK 7)] Y O en139 O O [H] (by simp) (fun w hw=>by
       have:=vexpr_any vb be bs H ke' z za zn 1 (c+noteM (decide (10<l.length))+cntSs (l.take i) d+noteK (shS y.op).isNone+shapeC ((shS y.op).getD (false,0)) y.mod y.nm y.args.length+cntEs (y.args.take j) 1) w hsub hbj hw
       exact this) ?_
   refine Ln (Eb (Et (Cr ?_)))
   refine V0 (Yi O O O (by omega)) ?_
   refine V0 (Ym O) (Ln ?_)
   rw [e2]
   exact Ea (j+1) (by omega) (by omega) (sc O (sc O (sc O (sc O (sc O (sc O (sc O (sc O (sc O sn))))))))) (fun _ h=>by exact (Wt 4 ((((h.f 4 O).f 3 O).f 3 O).f 3 O):))
  have hge3:¬j<y.args.length:=by simpa using hc2
  rw [List.take_of_length_le (by omega:y.args.length≤j)]
  refine Ce (Ex (Ex (Ebh (Et (Cs (Cr (V0 (Yf fo168_0 O) (V0 (Yd 3 O O O na3) (V0 (yl_eq O O) (V0 (Ym O) ?_))))))))))
  apply Lo 3 O O O O Y O O O O O
  ·
   intro hg0
   refine Vg (Yf fo168_0 O) (Vg (Yd 3 O O O na3) (Vg (yl_eq O O) ?_))
   exact Gt 3 O O O
  refine V0 (Ya O) (Ln (Et (Cs (Cr (V0 (Ym O) (V0 (Ym O) (V0 (yl_not O) (V0 (Ym O) ?_))))))))
  apply La 4 O O O O Y O O O O O
  ·
   intro hg1
   refine Vg (Yf fo168_4 O) (Vg (Yd 3 O O O na109) (Vg (Yn es109 O) (Vg (yl_gt O O) ?_)))
   rw [int_lt0]
   exact Gt 4 O O O
  refine V0 (Ym O) ?_
  apply Lo 9 O O O O Y O O O O O
  ·
   intro hg2
   refine Vg (Yf fo168_0 O) (Vg (Yd 3 O O O na3) (Vg (yl_ne O O) (Vg (Ym O) ?_)))
   apply La 4 O O O O (.g O O O) O O O O O
   ·
    intro hg3
    refine Vg (Yf fo168_5 O) (Vg (Yd 3 O O O na109) (Vg (Yn es109 O) (Vg (yl_gt O O) ?_)))
    rw [int_lt0]
    exact Gt 4 O O O
   exact Gt 5 O O O
  refine Lf 0 O ?_
  refine Lw0 [_] _ [blk vb (.cells #[.int .i64 0,.int .i64 ((c+noteM (decide (10<l.length))+cntSs (l.take i) d+noteK (shS y.op).isNone+shapeC ((shS y.op).getD (false,0)) y.mod y.nm y.args.length+cntEs y.args 1+noteF (bodyBad y.op y.body.length y.other.length)).f:Int),.int .i64 ((c+noteM (decide (10<l.length))+cntSs (l.take i) d+noteK (shS y.op).isNone+shapeC ((shS y.op).getD (false,0)) y.mod y.nm y.args.length+cntEs y.args 1+noteF (bodyBad y.op y.body.length y.other.length)).m:Int),.int .i64 0,.int .i64 ((c+noteM (decide (10<l.length))+cntSs (l.take i) d+noteK (shS y.op).isNone+shapeC ((shS y.op).getD (false,0)) y.mod y.nm y.args.length+cntEs y.args 1+noteF (bodyBad y.op y.body.length y.other.length)).k:Int),.int .i64 0,.int .i64 0,.int .i64 0,.int .i64 0,.int .i64 0,.map (some be),.map (some bs)] 207 (0,0))] Y O en109 O O [] (by simp) (fun w hw=>note1_any vb be bs (c+noteM (decide (10<l.length))+cntSs (l.take i) d+noteK (shS y.op).isNone+shapeC ((shS y.op).getD (false,0)) y.mod y.nm y.args.length+cntEs y.args 1) (bodyBad y.op y.body.length y.other.length) w (by omega) hw) ?_
  refine Ln (Et (Cs (Cs (Cr (V0 (Ym O) (V0 (Ym O) ?_))))))
  apply Lo 4 O O O O Y O O O O O
  ·
   intro hg4
   refine Vg (Yf fo168_4 O) (Vg (Yd 3 O O O na109) (Vg (Yn es109 O) (Vg (yl_gt O O) ?_)))
   rw [int_lt0]
   exact Gt 4 O O O
  refine Ln (Et ?_)
  refine Cc O (fun hc3=>?_) (fun hc3=>?_)
  ·
   have e3:(if (inner y.op||decide (0<y.body.length))=true then cntB y.body (d+1) else c0)=cntB y.body (d+1):=if_pos hc3
   refine Cr (V0 (Ym O) (V0 (Yf fo168_4 O) (V0 (Yd 3 O O O na109) (V0 (Ym O) ?_))))
   refine V0 (Yi O O O (by omega)) ?_
   refine Lf 2 O (Lf 2 O (Lf 2 O ?_))
   refine Lw0 [_,_,_] _ [blk vb (.cells #[.int .i64 0,.int .i64 ((c+noteM (decide (10<l.length))+cntSs (l.take i) d+noteK (shS y.op).isNone+shapeC ((shS y.op).getD (false,0)) y.mod y.nm y.args.length+cntEs y.args 1+noteF (bodyBad y.op y.body.length y.other.length)+cntB y.body (d+1)).f:Int),.int .i64 ((c+noteM (decide (10<l.length))+cntSs (l.take i) d+noteK (shS y.op).isNone+shapeC ((shS y.op).getD (false,0)) y.mod y.nm y.args.length+cntEs y.args 1+noteF (bodyBad y.op y.body.length y.other.length)+cntB y.body (d+1)).m:Int),.int .i64 0,.int .i64 ((c+noteM (decide (10<l.length))+cntSs (l.take i) d+noteK (shS y.op).isNone+shapeC ((shS y.op).getD (false,0)) y.mod y.nm y.args.length+cntEs y.args 1+noteF (bodyBad y.op y.body.length y.other.length)+cntB y.body (d+1)).k:Int),.int .i64 0,.int .i64 0,.int .i64 0,.int .i64 0,.int .i64 0,.map (some be),.map (some bs)] 207 (0,0)),blk be (gobj kI (exprsK 9) 15),blk bs (gobj kI stmtsK 7)] Y O en111 O O [H] (by simp) (fun w hw=>by
       have:=ih k' (by omega) y.body y2 m2 (d+1) (c+noteM (decide (10<l.length))+cntSs (l.take i) d+noteK (shS y.op).isNone+shapeC ((shS y.op).getD (false,0)) y.mod y.nm y.args.length+cntEs y.args 1+noteF (bodyBad y.op y.body.length y.other.length)) w hs2 hb5 hw
       exact this) ?_
   refine Ln (Et (Cs (Cr (V0 (Yf fo168_5 O) (V0 (Yd 3 O O O na109) (V0 (Yn es109 O) (V0 (yl_gt O O) ?_)))))))
   rw [int_lt0]
   refine Ln (Et ?_)
   refine Cc O (fun hc4=>?_) (fun hc4=>?_)
   ·
    have e4:(if 0<y.other.length then cntB y.other (d+1) else c0)=cntB y.other (d+1):=if_pos (by simpa using hc4)
    refine Cr (V0 (Ym O) (V0 (Yf fo168_5 O) (V0 (Yd 3 O O O na109) (V0 (Ym O) ?_))))
    refine V0 (Yi O O O (by omega)) ?_
    refine Lf 2 O (Lf 2 O (Lf 2 O ?_))
    refine Lw0 [_,_,_] _ [blk vb (.cells #[.int .i64 0,.int .i64 ((c+noteM (decide (10<l.length))+cntSs (l.take i) d+noteK (shS y.op).isNone+shapeC ((shS y.op).getD (false,0)) y.mod y.nm y.args.length+cntEs y.args 1+noteF (bodyBad y.op y.body.length y.other.length)+cntB y.body (d+1)+cntB y.other (d+1)).f:Int),.int .i64 ((c+noteM (decide (10<l.length))+cntSs (l.take i) d+noteK (shS y.op).isNone+shapeC ((shS y.op).getD (false,0)) y.mod y.nm y.args.length+cntEs y.args 1+noteF (bodyBad y.op y.body.length y.other.length)+cntB y.body (d+1)+cntB y.other (d+1)).m:Int),.int .i64 0,.int .i64 ((c+noteM (decide (10<l.length))+cntSs (l.take i) d+noteK (shS y.op).isNone+shapeC ((shS y.op).getD (false,0)) y.mod y.nm y.args.length+cntEs y.args 1+noteF (bodyBad y.op y.body.length y.other.length)+cntB y.body (d+1)+cntB y.other (d+1)).k:Int),.int .i64 0,.int .i64 0,.int .i64 0,.int .i64 0,.int .i64 0,.map (some be),.map (some bs)] 207 (0,0)),blk be (gobj kI (exprsK 9) 15),blk bs (gobj kI stmtsK 7)] Y O en111 O O [H] (by simp) (fun w hw=>by
        have:=ih k' (by omega) y.other y3 m3 (d+1) (c+noteM (decide (10<l.length))+cntSs (l.take i) d+noteK (shS y.op).isNone+shapeC ((shS y.op).getD (false,0)) y.mod y.nm y.args.length+cntEs y.args 1+noteF (bodyBad y.op y.body.length y.other.length)+cntB y.body (d+1)) w hs3 hb6 hw
        exact this) ?_
    refine Ln (Eb (Et (Cr ?_)))
    refine V0 (Yi O O O (by omega)) ?_
    refine V0 (Ym O) (Ln ?_)
    rw [show c+noteM (decide (10<l.length))+cntSs (l.take i) d+noteK (shS y.op).isNone+shapeC ((shS y.op).getD (false,0)) y.mod y.nm y.args.length+cntEs y.args 1+noteF (bodyBad y.op y.body.length y.other.length)+cntB y.body (d+1)+cntB y.other (d+1)=c+noteM (decide (10<l.length))+cntSs (l.take (i+1)) d by rw [cntSs_take d hyi,cntS_eq,e3,e4]; simp only [Cnt.add_assoc',add_c0,c0_add]]
    exact Ea (i+1) (by omega) (by omega) (sc O (sc O (sc O (sc O (sc O sn))))) (fun _ h=>(Wt 3 (((h.f 2 O).f 2 O).f 2 O):))
   have e4:(if 0<y.other.length then cntB y.other (d+1) else c0)=c0:=if_neg (by simpa using hc4)
   refine Ck (Eb (Et (Cr ?_)))
   refine V0 (Yi O O O (by omega)) ?_
   refine V0 (Ym O) (Ln ?_)
   rw [show c+noteM (decide (10<l.length))+cntSs (l.take i) d+noteK (shS y.op).isNone+shapeC ((shS y.op).getD (false,0)) y.mod y.nm y.args.length+cntEs y.args 1+noteF (bodyBad y.op y.body.length y.other.length)+cntB y.body (d+1)=c+noteM (decide (10<l.length))+cntSs (l.take (i+1)) d by rw [cntSs_take d hyi,cntS_eq,e3,e4]; simp only [Cnt.add_assoc',add_c0,c0_add]]
   exact Ea (i+1) (by omega) (by omega) (sc O (sc O (sc O (sc O (sc O sn))))) (fun _ h=>(Wt 3 (((h.f 2 O).f 2 O).f 2 O):))
  have e3:(if (inner y.op||decide (0<y.body.length))=true then cntB y.body (d+1) else c0)=c0:=if_neg (fun e=>by rw [show (inner y.op||decide (0<y.body.length))=false from hc3] at e; cases e)
  refine Ck (Et (Cs (Cr (V0 (Yf fo168_5 O) (V0 (Yd 3 O O O na109) (V0 (Yn es109 O) (V0 (yl_gt O O) ?_)))))))
  rw [int_lt0]
  refine Ln (Et ?_)
  refine Cc O (fun hc4=>?_) (fun hc4=>?_)
  ·
   have e4:(if 0<y.other.length then cntB y.other (d+1) else c0)=cntB y.other (d+1):=if_pos (by simpa using hc4)
   refine Cr (V0 (Ym O) (V0 (Yf fo168_5 O) (V0 (Yd 3 O O O na109) (V0 (Ym O) ?_))))
   refine V0 (Yi O O O (by omega)) ?_
   refine Lf 2 O (Lf 2 O (Lf 2 O ?_))
   refine Lw0 [_,_,_] _ [blk vb (.cells #[.int .i64 0,.int .i64 ((c+noteM (decide (10<l.length))+cntSs (l.take i) d+noteK (shS y.op).isNone+shapeC ((shS y.op).getD (false,0)) y.mod y.nm y.args.length+cntEs y.args 1+noteF (bodyBad y.op y.body.length y.other.length)+cntB y.other (d+1)).f:Int),.int .i64 ((c+noteM (decide (10<l.length))+cntSs (l.take i) d+noteK (shS y.op).isNone+shapeC ((shS y.op).getD (false,0)) y.mod y.nm y.args.length+cntEs y.args 1+noteF (bodyBad y.op y.body.length y.other.length)+cntB y.other (d+1)).m:Int),.int .i64 0,.int .i64 ((c+noteM (decide (10<l.length))+cntSs (l.take i) d+noteK (shS y.op).isNone+shapeC ((shS y.op).getD (false,0)) y.mod y.nm y.args.length+cntEs y.args 1+noteF (bodyBad y.op y.body.length y.other.length)+cntB y.other (d+1)).k:Int),.int .i64 0,.int .i64 0,.int .i64 0,.int .i64 0,.int .i64 0,.map (some be),.map (some bs)] 207 (0,0)),blk be (gobj kI (exprsK 9) 15),blk bs (gobj kI stmtsK 7)] Y O en111 O O [H] (by simp) (fun w hw=>by
       have:=ih k' (by omega) y.other y3 m3 (d+1) (c+noteM (decide (10<l.length))+cntSs (l.take i) d+noteK (shS y.op).isNone+shapeC ((shS y.op).getD (false,0)) y.mod y.nm y.args.length+cntEs y.args 1+noteF (bodyBad y.op y.body.length y.other.length)) w hs3 hb7 hw
       exact this) ?_
   refine Ln (Eb (Et (Cr ?_)))
   refine V0 (Yi O O O (by omega)) ?_
   refine V0 (Ym O) (Ln ?_)
   rw [show c+noteM (decide (10<l.length))+cntSs (l.take i) d+noteK (shS y.op).isNone+shapeC ((shS y.op).getD (false,0)) y.mod y.nm y.args.length+cntEs y.args 1+noteF (bodyBad y.op y.body.length y.other.length)+cntB y.other (d+1)=c+noteM (decide (10<l.length))+cntSs (l.take (i+1)) d by rw [cntSs_take d hyi,cntS_eq,e3,e4]; simp only [Cnt.add_assoc',add_c0,c0_add]]
   exact Ea (i+1) (by omega) (by omega) (sc O (sc O (sc O (sc O (sc O sn))))) (fun _ h=>(Wt 3 (((h.f 2 O).f 2 O).f 2 O):))
  have e4:(if 0<y.other.length then cntB y.other (d+1) else c0)=c0:=if_neg (by simpa using hc4)
  refine Ck (Eb (Et (Cr ?_)))
  refine V0 (Yi O O O (by omega)) ?_
  refine V0 (Ym O) (Ln ?_)
  rw [show c+noteM (decide (10<l.length))+cntSs (l.take i) d+noteK (shS y.op).isNone+shapeC ((shS y.op).getD (false,0)) y.mod y.nm y.args.length+cntEs y.args 1+noteF (bodyBad y.op y.body.length y.other.length)=c+noteM (decide (10<l.length))+cntSs (l.take (i+1)) d by rw [cntSs_take d hyi,cntS_eq,e3,e4]; simp only [Cnt.add_assoc',add_c0,c0_add]]
  exact Ea (i+1) (by omega) (by omega) (sc O (sc O (sc O (sc O (sc O sn))))) (fun _ h=>(Wt 3 (((h.f 2 O).f 2 O).f 2 O):))
 have hge2:¬i<l.length:=by simpa using hc1
 rw [List.take_of_length_le (by omega),Cnt.add_assoc',←cntB_eq hd]
 refine Ce (Ex (Ex (Ebh ?_)))
 refine E0 O fun w' hw=>?_
 exact ⟨O,hw⟩
end Go.Proofs.YtpjekjnehiinnaaGreatDoor
end
