/- RestModules: what came, and was changed, changes nothing that was handed in, nor what comes next (proved in the second form, bulk at most 1048576). -/
import Derived.Below
import Derived.Carry
import Derived.ChangeOld
import Derived.Deep.Quiet
import Derived.Deep.Slices
import Derived.Deep.Upon
import Derived.Defers
import Derived.JoinedCond
import Derived.LaidEql
import Derived.Laws.BytesString
import Derived.Laws.DeepStrings4
import Derived.Laws.Externs
import Derived.Laws.Pointers
import Derived.Laws.Slices
import Derived.Lib.AppendStr
import Derived.Lib.AppendZeros
import Derived.Lib.AtoiAllCases
import Derived.Lib.AtoiTie
import Derived.Lib.Builder
import Derived.Lib.Bytealg
import Derived.Lib.ConvBytes
import Derived.Lib.ItoaNum
import Derived.Lib.Join
import Derived.Lib.LaidTab
import Derived.Lib.SmallJoins
import Derived.Lib.UnsafeStr
import Derived.MapKept
import Derived.OpenShut
import Derived.ProofKit
import Derived.Recover
import Derived.Sort.Grow
import Derived.WalkKit
import Derived.WalkSpells
import Derived.WideMake
set_option linter.unusedVariables false
set_option linter.unusedSimpArgs false
set_option linter.defProp false
namespace Go
def Z {p:Prop} (h:p:=by omega):p:=h
def au {p:Prop} (h:p:=by simp):p:=h
def bf {p:Prop} (h:p:=by decide):p:=h
def sH {p:Prop} (h:p:=by assumption):p:=h
def aa {p:Prop} (h:p:=by kernel_rfl):p:=h
def dw {α:Type _} {l:List α} {i:Nat} (h:i<l.length):∃x,l[i]? = some x:=⟨_,List.getElem?_eq_getElem h⟩
def ag {α:Sort _} {p:α->Prop}:∀a,p a->p a:=λ_ h=>h
def qy {α c:Sort _} {p:α->c->Prop}:∀a b,p a b->p a b:=λ_ _ h=>h
def eZ {α e f g:Sort _} {p:α->e->f->g->Prop}:∀a b c d,p a b c d->p a b c d:=λ_ _ _ _ h=>h
def pP:=@Nat.le_of_ble_eq_true
def i5:=@Nat.eq_of_beq_eq_true
def jm:=@Array.getD_eq_getD_getElem?
def qz:=@Array.getElem?_setIfInBounds_ne
def zI:=@List.mem_cons_self
def cz:=@List.mem_cons_of_mem
def sI:=@Array.getElem?_eq_getElem
def et:=@List.mem_cons
def vK:=@Nat.beq_refl
def pQ:=@Nat.sub_zero
def lm:=@Nat.lt_or_ge
def tZ:=@List.getElem?_eq_none
def zJ:=@Array.getElem?_append
def dM:=@List.getElem?_eq_getElem
def wI:=@Classical.choose_spec
def rH:=@Nat.le_trans
def eH:=@Nat.le_refl
def zK:=@Nat.lt_of_lt_of_le
def vL:=@Array.getElem?_eq_none
def xU:=@List.flatMap_append
def mb:=@List.nodup_append
def ku:=@List.mem_flatMap
def fB:=@List.mem_append
def gu:=@List.mem_of_getElem?
def i6:=@List.getElem?_take
def wK:=@List.foldl_cons
def rI:=@Nat.add_assoc
def ew:=@Bool.and_eq_true
def oY:=@Nat.add_zero
def xa:=@Array.length_toList
def t':=@Array.ext'
def t_:=@List.mapM_cons
def dN:=@Option.map_some
def cM:=@Option.bind_some
def vM:=@Array.mapM_eq_mapM_toList
def hS:=@List.all_eq_true
def xc:=@Array.getElem?_modify
def mc:=@List.length_take
def rJ:=@Nat.min_eq_left
def sJ:=@Nat.mul_le_mul_right
def cx:=@Nat.zero_le
def sK:=@Nat.add_mul
def xV:=@List.map_toArray
def jn:=@List.map_cons
def qA:=@List.map_nil
def CA:=@Option.mem_toList
def vN:=@List.all_cons
def bt:=@List.cons_append
def pR:=@List.take_append_drop
def cS:=@List.getElem?_eq_some_iff
def xm:=@List.getElem_cons_drop
def zL:=@Nat.mul_one
def pS:=@List.ext_getElem?
def aw:=@Bool.false_eq_true
def xW:=@Ne.symm
def CB:=@Array.setIfInBounds_comm
def zM:=@List.map_congr_left
def p_:=@Nat.mod_lt
def zN:=@Bool.and_true
def xX:=@Nat.ble_eq_true_of_le
def gC:=@Nat.zero_add
def pT:=@List.length_singleton
def i7:=@List.flatMap_cons
def hD:=@List.take_succ_cons
def n5:=@List.append_assoc
def rK:=@List.getElem?_append_right
def xn:=@Nat.add_sub_cancel_left
def xY:=@List.getElem?_append_left
def CD:=@List.take_append
def nn:=@List.take_of_length_le
def qa:=@List.drop_append
def GR:=@List.drop_of_length_le
def zO:=@List.nil_append
def bT:=@List.length_append
def CF:=@List.getElem?_drop
def xZ:=@List.set_getElem_self
def sL:=@Int.toNat_natCast
def xu:=@List.singleton_append
def mQ:=@Bool.or_eq_false_iff
def b5:=@List.length_cons
def CG:=@List.map_map
def zP:=@Option.getD_some
def x0:=@List.mem_range
def pU:=@Function.comp_def
def dX:=@Option.map_eq_some_iff
def zQ:=@List.getElem?_toArray
def gS:=@List.getElem?_map
def gD:=@List.length_map
def rL:=@List.eq_nil_of_length_eq_zero
def n6:=@Bool.true_and
def x1:=@List.getElem?_modify
def xB:=@Array.toList_modify
def CH:=@List.mapM_nil
def gv:=@List.take_length
def eh:=@List.mem_append_right
def CI:=@Bool.or_eq_true
def hG:=@Bool.false_or
def GV:=@Array.getElem?_eq_some_iff
def CJ:=@Nat.succ_mul
def qb:=@Bool.and_self
def b8:=@List.length_nil
def qB:=@List.append_nil
def eY:=@Option.some.injEq
def CL:=@UInt8.toNat_ofNat'
def fH:=@List.mem_singleton
def vO:=@List.any_eq_false
def ey:=@List.any_eq_true
def j9:=@Bool.eq_iff_iff
def sM:=@List.any_cons
def CM:=@List.drop_eq_getElem_cons
def cN:=@Option.bind_eq_some_iff
def vP:=@Bool.eq_false_iff
def uc:=@List.getElem?_inj
def CN:=@List.pairwise_iff_getElem
def ln:=@List.getElem?_of_mem
def CO:=@List.all_eq_false
def kV:=@List.take_add_one
def zR:=@List.nodup_cons
def CP:=@Nat.sub_self
def me:=@List.getElem?_cons_zero
def eu:=@Option.map_none
def mR:=@List.getElem?_cons_succ
def oZ:=@List.mem_map
def GW:=@List.modify_succ_cons
def CQ:=@List.map_append
def ud:=@List.range_succ
def CR:=@List.mem_append_left
def zS:=@List.mem_of_mem_take
def iw:=@Bool.and_eq_true_iff
def sN:=@Nat.le_add_right
def vQ:=@List.contains_iff_mem
def CS:=@List.getElem_mem
def CT:=@List.getElem?_set
def gT:=@Nat.lt_succ_iff_lt_or_eq
def qc:=@List.nodup_nil
def CV:=@List.mem_filterMap
def vR:=@List.reverse_cons
def xC:=@List.sum_append
def GY:=@List.length_flatMap
def zT:=@List.flatMap_nil
def qh:=@List.drop_reverse
def CX:=@List.take_reverse
def CY:=@Nat.eq_zero_or_pos
def zU:=@Bool.false_and
def n7:=@Bool.or_true
def zV:=@Bool.or_false
def sO:=@Bool.true_or
def zW:=@Bool.or_self
def iI:=@List.length_set
def GZ:=@Bool.or_eq_true_iff
def G0:=@List.getElem?_replicate
def G1:=@List.pairwise_append
def CZ:=@Nat.mul_add
def G2:=@Nat.mul_le_mul_left
def G3:=@List.count_append
def rO:=@List.not_mem_nil
def dC:=@Prod.mk.injEq
def C0:=@Int.zero_add
def G4:=@List.getElem?_eq_none_iff
def zX:=@Bool.not_eq_true'
def C1:=@Bool.not_eq_false'
def C2:=@List.sum_cons
def C3:=@List.drop_eq_nil_of_le
def eb:=@Option.bind_none
def C4:=@Int.toNat_of_nonneg
def ue:=@Nat.not_lt_zero
def G5:=@Option.some.inj
def a8:=@if_pos
def av:=@if_neg
def cv:=@if_true
def zY:=@dif_pos
def qC:=@cond_true
def cn:=@if_false
def x2:=@cond_false
def kW:=@beq_iff_eq
def G6:=@beq_eq_false_iff_ne
def sP:=@decide_eq_true_eq
def ez:=@decide_eq_false_iff_not
def jo:=@decide_eq_true
def G7:=@decide_eq_decide
def jL:=@of_decide_eq_true
def qD:=@or_self
def o0:=@or_false
def C5:=@decide_eq_false
def O {α : Sort _} {a : α} : a = a := rfl
def Y {α : Sort _} {a : α} {b : Prop} : a = a \/ b := .inl rfl
end Go
section
namespace Go.Bw
open Go Go.RowKit
def lk:List (Nat×Value)->Nat->Option Value
 | [],_=>none
 | (k,v)::r,n=>bif Nat.beq k n then some v else lk r n
structure Ag (n:Nat) (ds:List Deferred) (l:List (Nat×Value)) (a:Act):Prop where
 size:a.tmps.size=n
 defs:a.defers=ds
 bl:∀t v,lk l t=some v->a.tmps.getD t undef=v
def bu (l:List (Nat×Value)):Operand->Option Value
 | .tmp t=>lk l t
 | .const v=>some v
 | .global g=>some (.pointer (some ⟨g,0,none⟩))
 | .func f=>some (.func (.func f) #[] #[])
section
variable {n:Nat} {ds:List Deferred} {l:List (Nat×Value)} {a:Act}
def Ag.eval (h:Ag n ds l a) {x:Operand} {v:Value} (b:bu l x=some v):a.eval x=v:=by
 cases x with
 | tmp t=>exact h.bl t v b
 | const u=>simpa [bu,Act.eval] using b
 | global g=>simpa [bu,Act.eval] using b
 | func f=>simpa [bu,Act.eval] using b
def Ag.put (h:Ag n ds l a) {d:Nat} (c:Nat.blt d n=true) (v:Value):Ag n ds ((d,v)::l) (a.put (some d) v):=by
 have f:d<a.tmps.size:=by rw [h.size]; exact pP c
 refine ⟨by simp [Act.put,h.size],h.defs,λt u b=>?_⟩;simp only [lk] at b
 by_cases e:d=t
 · subst e
   simp at b;subst b;simp [Act.put,Array.getD,f]
 · have:Nat.beq d t=false:=by
     cases g:Nat.beq d t with
     | false=>rfl
     | true=>exact absurd (i5 g) e
   rw [this] at b;have:=h.bl t u b;simp only [Act.put,jm] at *;rw [qz e];exact this
def Ag.uf (h:Ag n ds l a) (v:Value):Ag n ds l (a.put none v):=h
def Ag.sub (h:Ag n ds l a) {b:List (Nat×Value)} (d:∀p ∈ b,lk l p.1=some p.2):Ag n ds b a:=by
 refine ⟨h.size,h.defs,λt v hv=>?_⟩
 suffices hm:(t,v) ∈ b from h.bl t v (d _ hm)
 induction b with
 | nil=>cases hv
 | cons p r e=>
   obtain ⟨k,u⟩:=p;simp only [lk] at hv
   cases c:Nat.beq k t with
   | true=>
     rw [c] at hv;have:=i5 c;subst this;simp at hv;subst hv;exact zI
   | false=>
     rw [c] at hv;exact cz _ (e (λp f=>d p (cz _ f)) hv)
def vT (l:List (Nat×Value)):List (Nat×Value)->List (Option Value)
 | []=>[]
 | p::r=>lk l p.1::vT l r
def vU:List (Nat×Value)->List (Option Value)
 | []=>[]
 | p::r=>some p.2::vU r
def x3 {l:List (Nat×Value)}:∀{r:List (Nat×Value)},vT l r=vU r->∀p ∈ r,lk l p.1=some p.2
 | [],_,p,h=>by cases h
 | q::r,e,p,h=>by
  injection e with a b
  rcases List.mem_cons.1 h with rfl|h
  · exact a
  · exact x3 b p h
end
section
variable {P:Program} {ops:Array Oper} {Q:Exit->Act->World->Prop} {n:Nat} {ds:List Deferred} {l:List (Nat×Value)} {W:World->Prop}
def WL (P:Program) (ops:Array Oper) (Q:Exit->Act->World->Prop) (n:Nat) (ds:List Deferred) (l:List (Nat×Value)) (W:World->Prop) (rest:List Oper):Prop:=
 ∀a w,Ag n ds l a->W w->wpList P ops Q rest a w
def WC (P:Program) (c:Code) (Q:Exit->Act->World->Prop) (n:Nat) (ds:List Deferred) (l:List (Nat×Value)) (W:World->Prop):Prop:=
 ∀a w,Ag n ds l a->W w->c.wp P Q a w
def WE (Q:Exit->Act->World->Prop) (e:Exit) (n:Nat) (ds:List Deferred) (l:List (Nat×Value)) (W:World->Prop):Prop:=
 ∀a w,Ag n ds l a->W w->Q e a w
def Yl (P:Program) (l:List (Nat×Value)) (W:World->Prop) (o:Oper) (v:Value):Prop:=
 ∀(a:Operand->Value) (w:World),(∀x u,bu l x=some u->a x=u)->W w->(execOp a o).run P w = .ok (.value v) w
def Ln (h:WE Q .normal n ds l W):WL P ops Q n ds l W []:=λa w b c=>h a w b c
def dI (ops:Array Oper) (l:List (Nat×Value)) (g:Option (Nat×Bool)):Prop:=
 g=none\/∃j b a,g=some (j,b)/\(ops[j]?).bind (·.dst)=some a/\lk l a=some (.bool b)
def dI.wanted {o:Oper} {a:Act} (h:dI ops l o.guard) (e:Ag n ds l a):Region.wanted o (yielded ops a.tmps)=true:=by
 rcases h with h | ⟨j,b,d,f,g,i⟩
 · simp [Region.wanted,h]
 · have hv:=e.bl d _ i
   rw [jm] at hv
   cases c:a.tmps[d]? with
   | none=>simp [c,undef] at hv
   | some u=>
     simp [c] at hv;subst hv;simp [Region.wanted,f,yielded,g,c]
variable {bC:List Oper} {aC:Oper}
def WL.step (d:dI ops l aC.guard)
   (h:∀a w,Ag n ds l a->W w->∀b:Act->World->Prop,(∀a w,wpList P ops Q bC a w->b a w)->aC.wp P a w b Q):WL P ops Q n ds l W (aC::bC):=by
 intro a w c e;refine wpList_step λb f=>?_;rw [a8 (d.wanted c)];exact h a w c e b f
variable {ae:Nat} {jM:Op} {aU:TypeId} {e8:String} {ft:Array Edge} {aW:Value} {aM:Option (Nat×Bool)}
def Lv (d:dI ops l aM) (e:Nat.blt ae n=true)
   (f:Yl P l W ⟨some ae,jM,aU,e8,ft,aM⟩ aW) (h:WL P ops Q n ds ((ae,aW)::l) W bC):WL P ops Q n ds l W (⟨some ae,jM,aU,e8,ft,aM⟩::bC):=by
 refine WL.step d λa w b c j g=>?_;have:=f a.eval w (λx u i=>b.eval i) c;simp only [Oper.wp,this,Oper.upon_value];exact g _ _ (h _ _ (b.put e aW) c)
def I (a:Yl P l W ⟨some ae,jM,aU,e8,ft,none⟩ aW) (h:WL P ops Q n ds ((ae,aW)::l) W bC) (b:Nat.blt ae n=true:=by rfl):WL P ops Q n ds l W (⟨some ae,jM,aU,e8,ft,none⟩::bC):=Lv (.inl rfl) b a h
def Vg (a:Yl P l W ⟨some ae,jM,aU,e8,ft,aM⟩ aW) (h:WL P ops Q n ds ((ae,aW)::l) W bC) (b:dI ops l aM:=by exact .inr ⟨_,_,_,rfl,rfl,rfl⟩) (c:Nat.blt ae n=true:=by rfl):WL P ops Q n ds l W (⟨some ae,jM,aU,e8,ft,aM⟩::bC):=Lv b c a h
variable {dh:Bool} {aB:Nat}
def dI.g (a:aM=some (ae,dh)) (b:(ops[ae]?).bind (·.dst)=some aB) (c:lk l aB=some (.bool dh)):dI ops l aM:=.inr ⟨ae,dh,aB,a,b,c⟩
variable {cp:Nat}
def WL.skip (d:Nat.blt ae n=true)
   (e:ops[aB]? = some aC) (f:aC.dst=some cp) (g:Nat.blt cp n=true) (i:lk l cp=some (.bool (!dh)))
   (h:WL P ops Q n ds ((ae,undef)::l) W bC):WL P ops Q n ds l W (⟨some ae,jM,aU,e8,ft,some (aB,dh)⟩::bC):=by
 intro a w b j;refine wpList_step λp k=>?_;have hv:a.tmps.getD cp undef = .bool (!dh):=b.bl cp _ i
 have c:cp<a.tmps.size:=by rw [b.size]; exact pP g
 have m:a.tmps[cp]? = some (.bool (!dh)):=by
   rw [jm,sI c] at hv;rw [sI c]
   simpa using hv
 have o:yielded ops a.tmps aB=some (!dh):=by simp [yielded,e,f,m]
 rw [av (by simp [Region.wanted,o])];exact k _ _ (h _ _ (b.put d undef) j)
def WL.sub (b:List (Nat×Value)) (c:∀p ∈ b,lk l p.1=some p.2) (h:WL P ops Q n ds b W bC):WL P ops Q n ds l W bC:=
 λa w d e=>h a w (d.sub c) e
variable {fd:Code}
def WC.sub (b:List (Nat×Value)) (c:∀p ∈ b,lk l p.1=some p.2) (h:WC P fd Q n ds b W):WC P fd Q n ds l W:=
 λa w d e=>h a w (d.sub c) e
variable {zZ:Exit}
def WE.sub (b:List (Nat×Value)) (c:∀p ∈ b,lk l p.1=some p.2) (h:WE Q zZ n ds b W):WE Q zZ n ds l W:=
 λa w d e=>h a w (d.sub c) e
def LW {W':World->Prop} (b:∀w,W w->W' w) (h:WL P ops Q n ds l W' bC):WL P ops Q n ds l W bC:=
 λa w c d=>h a w c (b w d)
def n8 {W':World->Prop} (b:∀w,W w->W' w) (h:WC P fd Q n ds l W'):WC P fd Q n ds l W:=
 λa w c d=>h a w c (b w d)
def WE.world {W':World->Prop} (b:∀w,W w->W' w) (h:WE Q zZ n ds l W'):WE Q zZ n ds l W:=
 λa w c d=>h a w c (b w d)
def sn {l:List (Nat×Value)}:∀p ∈ ([]:List (Nat×Value)),lk l p.1=some p.2:=au
def sc {l r:List (Nat×Value)}   (h:lk l ae=some aW) (b:∀p ∈ r,lk l p.1=some p.2):∀p ∈ (ae,aW)::r,lk l p.1=some p.2:=by
 intro p a
 rcases et.1 a with rfl | a
 · exact h
 · exact b p a
variable {ug:Code}
def Cs (h:WC P fd (Exit.then (ug.wp P Q) Q) n ds l W):WC P (.seq fd ug) Q n ds l W:=λa w b c=>wp_seq (h a w b c)
def Ck (h:WE Q .normal n ds l W):WC P .skip Q n ds l W:=λa w b c=>wp_skip (h a w b c)
def aZ (h:WE Q .ret n ds l W):WC P .ret Q n ds l W:=λa w b c=>wp_ret (h a w b c)
def Ce (h:WE Q (.exit ae) n ds l W):WC P (.exit ae) Q n ds l W:=λa w b c=>wp_exit (h a w b c)
def Cb (h:WC P fd (Exit.inBlock ae Q) n ds l W):WC P (.block ae fd) Q n ds l W:=λa w b c=>wp_block (h a w b c)
def Cr (h:WL P bC.toArray Q n ds l W bC):WC P (.region ae bC.toArray false) Q n ds l W:=λa w b c=>wp_region_lit (h a w b c)
variable {a_:Operand}
def Cc (d:bu l a_=some (.bool dh)) (e:dh=true->WC P fd Q n ds l W) (f:dh=false->WC P ug Q n ds l W):WC P (.cond a_ fd ug) Q n ds l W:=
 λa w b c=>wp_cond_split (b.eval d) (λh=>e h a w b c) (λh=>f h a w b c)
def WC.C6 (c:bu l a_=some (.bool true)) (h:WC P fd Q n ds l W):WC P (.cond a_ fd ug) Q n ds l W:=
 λa w b d=>wp_cond_true (b.eval c) (h a w b d)
def WC.mf (c:bu l a_=some (.bool false)) (h:WC P ug Q n ds l W):WC P (.cond a_ fd ug) Q n ds l W:=
 λa w b d=>wp_cond_false (b.eval c) (h a w b d)
variable {i8:Exit->Act->World->Prop}
def Et (h:WC P fd Q n ds l W):WE (Exit.then (fd.wp P Q) i8) .normal n ds l W:=λa w b c=>h a w b c
variable {sQ:Act->World->Prop}
def Er (h:WE Q .ret n ds l W):WE (Exit.then sQ Q) .ret n ds l W:=h
def Ex (h:WE Q (.exit ae) n ds l W):WE (Exit.then sQ Q) (.exit ae) n ds l W:=h
def ad (h:WC P fd Q n ds l W):WL P ops (Exit.then (fd.wp P Q) i8) n ds l W []:=Ln (Et h)
def ac (h:WL P bC.toArray (Exit.then (fd.wp P Q) Q) n ds l W bC):WC P (.seq (.region ae bC.toArray false) fd) Q n ds l W:=Cs (Cr h)
def am (h:WC P fd Q n ds l W):WC P .skip (Exit.then (fd.wp P Q) i8) n ds l W:=Ck (Et h)
def Eb (h:WE Q .normal n ds l W):WE (Exit.inBlock ae Q) .normal n ds l W:=h
def cf (h:WE Q .ret n ds l W):WE (Exit.inBlock ae Q) .ret n ds l W:=h
def cU (h:WE Q .normal n ds l W):WE (Exit.inBlock ae Q) (.exit ae) n ds l W:=λa w b c=>by
 simp only [Exit.inBlock,cv]; exact h a w b c
def G9 (b:Nat.beq aB ae=false) (h:WE Q (.exit aB) n ds l W):WE (Exit.inBlock ae Q) (.exit aB) n ds l W:=λa w c d=>by
 have:aB≠ae:=λe=>by subst e; rw [vK] at b; cases b
 simp only [Exit.inBlock,av this]; exact h a w c d
def uh:Nat->List Value->List (Nat×Value)
 | _,[]=>[]
 | i,v::r=>(i,v)::uh (i+1) r
def C7 (vs:List Value):∀(i t:Nat) (v:Value),lk (uh i vs) t=some v->i<=t/\vs[t-i]? = some v:=by
 induction vs with
 | nil=>intro i t v h; cases h
 | cons x r b=>
   intro i t v h;simp only [uh,lk] at h
   cases a:Nat.beq i t with
   | true=>
     rw [a] at h;have:=i5 a;subst this;simp at h;simp [h]
   | false=>
     rw [a] at h;obtain ⟨d,c⟩:=b (i+1) t v h;refine ⟨Z,?_⟩
     have:t-i=(t-(i+1))+1:=Z
     rw [this]
     simpa using c
variable {eC:Func} {fI:Ending->World->Prop}
def enter {f:FuncId}   {vs:List Value} {w:World}  (c:P.funcs[f]? = some eC) (d:eC.body=some fd)
   (m:Nat) (e:eC.ntmps=m) (g:Nat.ble vs.length m=true) (h:WC P fd (bodyPost P eC fI) m [] (uh 0 vs) (λw'=>w'=w)):Calls P f vs.toArray w fI:=by
 refine calls_of_wp c d (h _ _ ?_ O);have i:=pP g;subst e;refine ⟨by simp; omega,O,λt v hv=>?_⟩;obtain ⟨_,a⟩:=C7 vs 0 t v hv;simp only [pQ] at a
 have b:t<vs.length:=by
   rcases lm t vs.length with h | h
   · exact h
   · simp [tZ h] at a
 simp [jm,zJ,b];simp [dM b] at a;exact a
def WE.z0 (b:eC.results = #[]) (h:∀w,W w->fI (.returned (.tuple #[])) w):WE (bodyPost P eC fI) .ret n [] l W:=
 λa w c d=>bodyPost_ret (results_none b _ _ _) c.defs (h w d)
def E0 (b:eC.results = #[]) (h:∀w,W w->fI (.returned (.tuple #[])) w):WE (bodyPost P eC fI) .normal n [] l W:=
 λa w c d=>bodyPost_end (results_none b _ _ _) c.defs (h w d)
def R1 (c:eC.results = #[.tmp ae]) (d:lk l ae=some aW) (h:∀w,W w->fI (.returned aW) w):WE (bodyPost P eC fI) .ret n [] l W:=
 λa w b e=>bodyPost_ret (results_tmp c _ _ _) b.defs (by rw [b.bl ae aW d]; exact h w e)
def WE.jp {v x:Value} (c:eC.results = #[.tmp ae,.tmp aB]) (d:lk l ae=some v) (e:lk l aB=some x) (h:∀w,W w->fI (.returned (.tuple #[v,x])) w):WE (bodyPost P eC fI) .ret n [] l W:=
 λa w b f=>bodyPost_ret (results_tmp2 c _ _ _) b.defs (by rw [b.bl ae v d,b.bl aB x e]; exact h w f)
def N1 {t u s:Tmp} (h:eC.results = #[.tmp t,.tmp u,.tmp s]) (tmps:Array Value) (P:Program) (w:World) :
   (results eC tmps).run P w = .ok (.tuple #[tmps.getD t undef,tmps.getD u undef,tmps.getD s undef]) w:=by
 simp [results,h]
def WE.N2 {v x y:Value} (c:eC.results = #[.tmp ae,.tmp aB,.tmp cp]) (d:lk l ae=some v) (e:lk l aB=some x) (f:lk l cp=some y) (h:∀w,W w->fI (.returned (.tuple #[v,x,y])) w):WE (bodyPost P eC fI) .ret n [] l W:=
 λa w b g=>bodyPost_ret (N1 c _ _ _) b.defs (by rw [b.bl ae v d,b.bl aB x e,b.bl cp y f]; exact h w g)
variable {vV:List PanicEntry}
def an (h:∀w,W w->fI (.panicked vV) w):WE (bodyPost P eC fI) (.panic vV) n [] l W:=
 λa w b c=>⟨b.defs,h w c⟩
def Ep (h:WE Q (.panic vV) n ds l W):WE (Exit.then sQ Q) (.panic vV) n ds l W:=h
def WE.b' (h:WE Q (.panic vV) n ds l W):WE (Exit.inBlock ae Q) (.panic vV) n ds l W:=h
def N3 {p:Nat->Prop}:∀m,p m->∃k,p k/\∀j,p j->k<=j:=by
 intro m
 induction m using Nat.strongRecOn with
 | _ m b=>
   intro c
   by_cases h:∃j,j<m/\p j
   · obtain ⟨j,d,a⟩:=h
     exact b j d a
   · exact ⟨m,c,λj a=>Nat.le_of_not_lt λe=>h ⟨j,e,a⟩⟩
variable {a9:Type}
def wp_loop_ghost {a:Act} {w:World} (b:a9->Act->World->Prop) (c:a9->Nat) (f:a9) (m:b f a w)
   (n:∀i a w,b i a w->fd.wp P (Exit.then (λd w'=>∃j,c j<c i/\b j d w') Q) a w):(Code.loop fd).wp P Q a w:=by
 classical
 let J:Act->World->Prop:=λa w=>∃i,b i a w
 have ex:∀a w,J a w->∃k,(∃i,b i a w/\c i=k)/\∀j,(∃i,b i a w/\c i=j)->k<=j:=by
   rintro a w ⟨i,hi⟩
   exact N3 (c i) ⟨i,hi,O⟩
 let M:Act->World->Nat:=λa w=>if h:J a w then Classical.choose (ex a w h) else 0
 have o:∀a w,J a w->∃i,b i a w/\c i=M a w:=by
   intro a w h;have:=(wI (ex a w h)).1;simp only [M,zY h];exact this
 have p:∀a w i,b i a w->M a w<=c i:=by
   intro a w i hi;have h:J a w:=⟨i,hi⟩;simp only [M,zY h];exact (wI (ex a w h)).2 _ ⟨i,hi,O⟩
 refine wp_loop J M ⟨f,m⟩ λa w q=>?_;obtain ⟨i,hi,r⟩:=o a w q;refine wp_mono (n i a w hi) λe d w' g=>?_
 cases e with
 | normal=>
   obtain ⟨j,s,l⟩:=g;exact ⟨⟨j,l⟩,by have:=p d w' j l; omega⟩
 | _=>exact g
def WC.loop (b:a9->List (Nat×Value)) (Wi:a9->World->Prop) (R:a9->Prop) (d:a9->Nat) (c:a9) (f:R c) (g:∀p ∈ b c,lk l p.1=some p.2) (h:∀w,W w->Wi c w)
   (k:∀i,R i->WC P fd (Exit.then (λm w'=>∃j,d j<d i/\R j/\Ag n ds (b j) m/\Wi j w') Q) n ds (b i) (Wi i)):WC P (.loop fd) Q n ds l W:=by
 intro a w o q;refine wp_loop_ghost (λi a w=>R i/\Ag n ds (b i) a/\Wi i w) d c ⟨f,o.sub g,h w q⟩ λi a w e=>?_;exact k i e.1 a w e.2.1 e.2.2
def Ea {c:a9->List (Nat×Value)} {Wi:a9->World->Prop} {R:a9->Prop} {b:a9->Nat} {i:a9} (j:a9) (d:b j<b i) (e:R j) (f:∀p ∈ c j,lk l p.1=some p.2) (g:∀w,W w->Wi j w) :
   WE (Exit.then (λh w'=>∃j,b j<b i/\R j/\Ag n ds (c j) h/\Wi j w') Q) .normal n ds l W:=λa w k m=>⟨j,d,e,k.sub f,g w m⟩
def ct {ι:Type} {b:ι->List (Nat×Value)} {Wi:ι->World->Prop} {R:ι->Prop} {a:ι->Nat} {i:ι} (j:ι) (c:a j<a i) (d:R j) (e:∀w,W w->Wi j w) (f:vT l (b j)=vU (b j):=by rfl):WE (Exit.then (λg w'=>∃j,a j<a i/\R j/\Ag n ds (b j) g/\Wi j w') Q) .normal n ds l W:=Ea j c d (x3 f) e
end
abbrev View:=Nat->Option Obj
def Le (H:View) (w:World):Prop:=∀b o,H b=some o->w.heap[b]? = some o
def bK (H a:View):Prop:=∀b o,H b=some o->a b=some o
def bK.refl (H:View):bK H H:=λ_ _ h=>h
def bK.trans {a B C:View} (h:bK a B) (k:bK B C):bK a C:=λb o x=>k b o (h b o x)
variable {bc b_:View} {bF:World}
def Le.N4 (h:bK bc b_) (k:Le b_ bF):Le bc bF:=λb o x=>k b o (h b o x)
def sR (o:Obj):Bool:=match o with | .cells _ _ f=>Nat.beq f.1 0&&Nat.beq f.2 0 | _=>true
def eD (w:World) (H:View):Prop:=∀b o,H b=some o->w.heap.size<=b/\sR o=true
variable {ae:Nat}
def eD.off (h:eD bF bc)  (a:ae<bF.heap.size):bc ae=none:=by
 cases e:bc ae with
 | none=>rfl
 | some o=>have:=(h ae o e).1; omega
def nv (a w:World):View:=λb=>if a.heap.size<=b then (w.heap[b]?).filter sR else none
variable {dJ:World} {aD:Obj}
def ui:nv bF dJ ae=some aD↔bF.heap.size<=ae/\dJ.heap[ae]? = some aD/\sR aD=true:=by
 unfold nv
 split
 · rename_i h; rw [Option.filter_eq_some_iff]; simp [h]
 · rename_i h; simp [h]
def x4 (a w:World):Le (nv a w) w:=λb o h=>(ui.1 h).2.1
def o1 (a w:World):eD a (nv a w):=λb o h=>⟨(ui.1 h).1,(ui.1 h).2.2⟩
def N5 (c:Le bc dJ) (a:eD bF bc):bK bc (nv bF dJ):=λb o h=>ui.2 ⟨(a b o h).1,c b o h,(a b o h).2⟩
def eD.mono (h:eD dJ bc) (c:bF.heap.size<=dJ.heap.size):eD bF bc:=λb o a=>⟨rH c (h b o a).1,(h b o a).2⟩
structure Fr (F:List Nat) (w0 w:World):Prop where
 os:w.os=w0.os
 tape:w.tape=w0.tape
 output:w.output=w0.output
 size:w0.heap.size<=w.heap.size
 block:∀k,k<w0.heap.size->k ∉ F->w.heap[k]? = w0.heap[k]?
abbrev Ext (w w':World):Prop:=Fr [] w w'
def Fr.refl (F:List Nat) (w:World):Fr F w w:=⟨rfl,rfl,rfl,eH _,λ_ _ _=>rfl⟩
variable {uj:World}
def Fr.trans {F a:List Nat}  (h:Fr F bF dJ) (k:Fr a dJ uj) (d:∀x ∈ a,x ∈ F\/bF.heap.size<=x):Fr F bF uj:=
 ⟨k.os.trans h.os,k.tape.trans h.tape,k.output.trans h.output,rH h.size k.size,λi hi b=>
   (k.block i (zK hi h.size) λe=>by rcases d i e with c | c; exact b c; omega).trans (h.block i hi b)⟩
def Ext.trans (h:Ext bF dJ) (k:Ext dJ uj):Ext bF uj:=Fr.trans h k au
def Ext.below (h:Ext bF dJ):Below bF.heap.size bF dJ:=⟨h.os,h.tape,h.output,h.size,λk a=>h.block k a au⟩
def Ext.C8 (h:Below bF.heap.size bF dJ):Ext bF dJ:=⟨h.os,h.tape,h.output,h.size,λk a _=>h.block k a⟩
def Ext.drew (w:World):Ext w w.drew:=⟨rfl,rfl,rfl,eH _,λ_ _ _=>rfl⟩
def Ext.alloc (w:World) (o:Obj):Ext w (w.alloc o):=⟨rfl,rfl,rfl,au,λk a _=>Below.heap_alloc _ _ _ a⟩
def lt_of_heap (h:bF.heap[ae]? = some aD):ae<bF.heap.size:=by
 rcases lm ae bF.heap.size with a | a
 · exact a
 · rw [vL a] at h; cases h
def Le.ext (h:Le bc bF) (e:Ext bF dJ):Le bc dJ:=λb o x=>(e.block b (lt_of_heap (h b o x)) au).trans (h b o x)
structure ah where
 ids:List Nat
 holds:World->Prop
 loc:∀w w',(∀k ∈ ids,w'.heap[k]? = w.heap[k]?)->holds w->holds w'
 vW:∀w,holds w->∀k ∈ ids,k<w.heap.size
def aE (b:Nat) (o:Obj):ah:=⟨[b],λw=>w.heap[b]? = some o,λw w' h a=>(h b au).trans a,λw a k c=>by simp at c; subst c; exact lt_of_heap a⟩
structure Ws (w0:World) (F:List Nat) (L:List ah) (Vs:List View) (w:World):Prop where
 fr:Fr F w0 w
 kn:∀A ∈ L,A.holds w
 nd:(L.flatMap ah.ids).Nodup
 own:∀A ∈ L,∀k ∈ A.ids,k ∈ F\/w0.heap.size<=k
 vs:∀H ∈ Vs,Le H w
 off:∀H ∈ Vs,∀A ∈ L,∀k ∈ A.ids,H k=none
section
variable {w0 w w':World} {F:List Nat} {L L' L2:List ah} {Vs:List View}
def Ws.init (a:∀H ∈ Vs,Le H w):Ws w [] [] Vs w:=⟨Fr.refl _ _,au,au,au,a,au⟩
def CE {P:Program} {Q:Exit->Act->World->Prop} {n:Nat} {ds:List Deferred} {l:List (Nat×Value)} {c:Code} {a w:World} {F:List Nat} {L:List ah} {Vs:List View} (b:Ws a F L Vs w) (h:WC P c Q n ds l (Ws a F L Vs)):WC P c Q n ds l (λw'=>w'=w):=
 n8 (λ_ e=>by subst e; exact b) h
def Ws.sS (h:Ws w0 F (L++L2) Vs w) (p:Fr (L.flatMap ah.ids) w w') (n:∀c ∈ L',c.holds w')
   (t:(L'.flatMap ah.ids).Nodup) (hi:∀c ∈ L',∀k ∈ c.ids,k ∈ L.flatMap ah.ids\/w.heap.size<=k):Ws w0 F (L'++L2) Vs w':=by
 have nd:=h.nd;rw [xU,mb] at nd
 have same:∀c ∈ L2,∀k ∈ c.ids,w'.heap[k]? = w.heap[k]?:=λc a k n=>
   p.block k (c.vW w (h.kn c (by simp [a])) k n) λq=>nd.2.2 k q k (ku.2 ⟨c,a,n⟩) rfl
 refine ⟨?_,?_,?_,?_,?_,?_⟩
 · refine h.fr.trans p λx r=>?_
   obtain ⟨c,a,i⟩:=ku.1 r;exact h.own c (by simp [a]) x i
 · intro c a
   rcases fB.1 a with a | a
   · exact n c a
   · exact c.loc w w' (same c a) (h.kn c (by simp [a]))
 · rw [xU,mb]
   refine ⟨t,nd.2.1,λx r y s e=>?_⟩;subst e;obtain ⟨c,a,i⟩:=ku.1 r;obtain ⟨B,j,l⟩:=ku.1 s
   rcases hi c a x i with d | d
   · exact nd.2.2 x d x s O
   · have:=B.vW w (h.kn B (by simp [j])) x l
     omega
 · intro c a k m
   rcases fB.1 a with a | a
   · rcases hi c a k m with d | d
     · obtain ⟨B,j,l⟩:=ku.1 d
       exact h.own B (by simp [j]) k l
     · exact .inr (rH h.fr.size d)
   · exact h.own c (by simp [a]) k m
 · intro H f b o g
   rw [p.block b (lt_of_heap (h.vs H f b o g))]
   · exact h.vs H f b o g
   · intro q
     obtain ⟨c,a,i⟩:=ku.1 q;have:=h.off H f c (by simp [a]) b i;rw [this] at g; cases g
 · intro H f c a k m
   rcases fB.1 a with a | a
   · rcases hi c a k m with d | d
     · obtain ⟨B,j,l⟩:=ku.1 d
       exact h.off H f B (by simp [j]) k l
     · cases g:H k with
       | none=>rfl
       | some o=>have:=lt_of_heap (h.vs H f k o g); omega
   · exact h.off H f c (by simp [a]) k m
def Ws.ext (h:Ws w0 F L Vs w) (e:Ext w w'):Ws w0 F L Vs w':=by
 have:=Ws.sS (L:=[]) (L':=[]) (L2:=L) (by simpa using h) (by simpa using e) au au au
 simpa using this
def Ws.alloc (h:Ws w0 F L Vs w) (o:Obj):Ws w0 F (aE w.heap.size o::L) Vs (w.alloc o):=by
 have:=Ws.sS (L:=[]) (L':=[aE w.heap.size o]) (L2:=L) (by simpa using h) (by simpa using Ext.alloc w o)
   (by intro b a; simp at a; subst a; show (w.heap.push o)[w.heap.size]? = some o; simp) (by simp [aE]) (by simp [aE])
 simpa using this
def Ws.view (h:Ws w0 F L Vs w) (e:Ext w w') {H:View} (f:Le H w') (i:eD w H):Ws w0 F L (H::Vs) w':=by
 have g:=h.ext e;refine ⟨g.fr,g.kn,g.nd,g.own,?_,?_⟩
 · intro V a
   rcases et.1 a with rfl | a
   · exact f
   · exact g.vs V a
 · intro V a b c k d
   rcases et.1 a with rfl | a
   · exact i.off (b.vW w (h.kn b c) k d)
   · exact g.off V a b c k d
def Ws.perm (h:Ws w0 F L Vs w) (c:L.Perm L'):Ws w0 F L' Vs w:=
 ⟨h.fr,λa b=>h.kn a (c.mem_iff.2 b),(List.Perm.flatMap_right _ c).nodup_iff.1 h.nd,λa b=>h.own a (c.mem_iff.2 b),h.vs,λH d a b=>h.off H d a (c.mem_iff.2 b)⟩
def Ws.drop (h:Ws w0 F (L++L') Vs w):Ws w0 F L' Vs w:=by
 have nd:=h.nd;rw [xU,mb] at nd;exact ⟨h.fr,λa b=>h.kn a (by simp [b]),nd.2.1,λa b=>h.own a (by simp [b]),h.vs,λH c a b=>h.off H c a (by simp [b])⟩
def Ws.cK (h:Ws w0 F L Vs w) {b9:List View} (b:∀H ∈ b9,H ∈ Vs):Ws w0 F L b9 w:=
 ⟨h.fr,h.kn,h.nd,h.own,λH a=>h.vs H (b H a),λH a=>h.off H (b H a)⟩
end
def eQ {α:Type}:Nat->List α->List α
 | _,[]=>[]
 | 0,_::r=>r
 | i+1,x::r=>x::eQ i r
variable {a9:Type}
def lp {x:a9}:∀(i:Nat) (l:List a9),l[i]? = some x->l.Perm (x::eQ i l)
 | _,[],h=>by cases h
 | 0,y::r,h=>by simp at h; subst h; exact List.Perm.refl _
 | i+1,y::r,h=>by
   have:=lp i r (by simpa using h);exact (List.Perm.cons y this).trans (List.Perm.swap _ _ _)
def set_perm {x y:a9}:∀(i:Nat) (l:List a9),l[i]? = some x->(y::eQ i l).Perm (l.set i y)
 | _,[],h=>by cases h
 | 0,z::r,_=>by simp [eQ]
 | i+1,z::r,h=>by
   have:=set_perm (y:=y) i r (by simpa using h);exact (List.Perm.swap _ _ _).trans (List.Perm.cons z this)
variable {aA:List Nat} {cL:List ah} {dj:List View}
def Ws.pV (h:Ws bF aA cL dj dJ) (i:Nat) {a B:ah} (hi:cL[i]? = some a) (b:Fr a.ids dJ uj) (c:B.holds uj)
   (d:B.ids.Nodup) (e:∀k ∈ B.ids,k ∈ a.ids\/dJ.heap.size<=k):Ws bF aA (cL.set i B) dj uj:=by
 have f:=h.perm (lp i cL hi);have g:=Ws.sS (L:=[a]) (L':=[B]) (L2:=eQ i cL) (by simpa using f) (by simpa using b) (by simpa using c) (by simpa using d) (by simpa using e);exact Ws.perm (by simpa using g) (set_perm i cL hi)
def dY {l:List a9} {i:Nat} {x:a9} (h:l[i]? = some x):x ∈ l:=gu h
def Ws.V {a w:World} {F:List Nat} {L:List ah} {Vs:List View} {H:View} (h:Ws a F L Vs w) (b:H ∈ Vs:=by simp):Le H w:=h.vs H b
def mS (P:Program) (t:TypeId):Bool:=match P.underlying t with | some (.struct _) | some (.array _ _) | none=>false | _=>true
def ig (P:Program) (t:TypeId):Option Nat:=match P.underlying t with | some (.struct _) | some (.array _ _)=>(P.info? t).map (·.size) | _=>none
def cJ (P:Program) (t:TypeId) (f:Nat):Option Nat:=match P.underlying t with
 | some (.struct fs)=>match fs[f]? with
   | some x=>match P.info? x.type with
     | some i=>if i.size=0 then none else some x.offset
     | none=>none
   | none=>none
 | _=>none
def ga (P:Program) (t:TypeId):Option Nat:=match P.underlying t with | some (.slice e)=>(P.info? e).map (·.size) | _=>none
section
variable {P:Program} {w:World}
variable {aU:TypeId}
def z1 (h:mS P aU=true) (w:World):(isAgg aU).run P w = .ok false w:=by
 unfold mS at h
 cases a:P.underlying aU with
 | none=>simp [a] at h
 | some d=>cases d<;>simp_all [isAgg,run_underlying a]
def N6 (h:ig P aU=some ae) (w:World):(isAgg aU).run P w = .ok true w/\(sizeOf aU).run P w = .ok ae w:=by
 unfold ig at h
 cases a:P.underlying aU with
 | none=>simp [a] at h
 | some d=>
   cases hi:P.info? aU with
   | none=>cases d<;>simp_all
   | some i=>cases d<;>simp_all [isAgg,run_underlying a,sizeOf,typeInfo]
def gE (o:Obj) (k:Nat):Option Value:=match o with | .cells c _ _=>c.toList[k]? | _=>none
def vc (H:View) (b k:Nat):Option Value:=(H b).bind (gE · k)
variable {aB:Nat} {aW:Value}
def cell_of_heap {o:Obj}  (h:w.heap[ae]? = some o) (a:gE o aB=some aW):w.cell? ⟨ae,aB,none⟩=some aW:=by
 cases o<;>simp_all [gE,World.cell?]
def Le.cell {H:View} (h:Le H w)   (a:vc H ae aB=some aW):w.cell? ⟨ae,aB,none⟩=some aW:=by
 unfold vc at a
 cases b:H ae with
 | none=>simp [b] at a
 | some o=>simp [b] at a; exact cell_of_heap (h ae o b) a
def bK.cell {H c:View} (h:bK H c)   (a:vc H ae aB=some aW):vc c ae aB=some aW:=by
 unfold vc at *
 cases b:H ae with
 | none=>simp [b] at a
 | some o=>simp [b] at a; simp [h ae o b,a]
def mg (b o k:Nat):(⟨b,o,none⟩:Addr).add k=⟨b,o+k,none⟩:=by unfold Addr.add; split<;>simp_all
def G' (a:mS P aU=true)   (b:w.cell? ⟨ae,aB,none⟩=some aW):(loadVar aU ⟨ae,aB,none⟩).run P w = .ok aW w:=by
 simp [loadVar,z1 a,b]
def z2 (a:ig P aU=some ae) {b k:Nat} {cs:List Value} (c:cs.length=ae) (d:∀j v,cs[j]? = some v->w.cell? ⟨b,k+j,none⟩=some v) :
   (loadVar aU ⟨b,k,none⟩).run P w = .ok (.agg cs.toArray) w:=by
 obtain ⟨e,f⟩:=N6 a w;have:=run_loadCells_list (P:=P) w ⟨b,k,none⟩ cs (λj v h=>by rw [mg]; exact d j v h);rw [c] at this;simp [loadVar,e,f,this]
end
def st (l:List UInt8):Value:=.string ⟨l.toArray⟩
section
variable {P:Program} {l:List (Nat×Value)} {W:World->Prop} {w0:World} {F:List Nat} {L:List ah} {Vs:List View}
 {d:Option Tmp} {ty:TypeId} {pos:String} {af:Array Edge} {g:Option (Nat×Bool)}
variable {a_:Operand} {aW:Value}
def Ym (a:bu l a_=some aW):Yl P l W ⟨d,.move a_,ty,pos,af,g⟩ aW:=λc w b _=>by simp [execOp,b a_ aW a]
def Ya (a:bu l a_=some aW):Yl P l W ⟨d,.assign a_,ty,pos,af,g⟩ aW:=λc w b _=>by simp [execOp,b a_ aW a]
variable {hT:Program} {j':Array Oper} {i8:Exit->Act->World->Prop} {bD:List Deferred} {c9:List (Nat×Value)} {iX:World->Prop} {bC:List Oper} {aB:Nat} {aU:TypeId} {e8:String} {ft:Array Edge}
def ab (a:bu c9 a_=some aW) (h:WL hT j' i8 ae bD ((aB,aW)::c9) iX bC) (b:Nat.blt aB ae=true:=by rfl):WL hT j' i8 ae bD c9 iX (⟨some aB,.move a_,aU,e8,ft,none⟩::bC):=I (Ym a) h b
def ai (a:bu c9 a_=some aW) (h:WL hT j' i8 ae bD ((aB,aW)::c9) iX bC) (b:Nat.blt aB ae=true:=by rfl):WL hT j' i8 ae bD c9 iX (⟨some aB,.assign a_,aU,e8,ft,none⟩::bC):=I (Ya a) h b
variable {dh:Bool}
def G_ {c x y:Operand}  {u v:Value} (b:bu l c=some (.bool dh)) (e:bu l x=some u) (f:bu l y=some v):Yl P l W ⟨d,.pick c x y,ty,pos,af,g⟩ (if dh then u else v):=
 λh w a _=>by simp [execOp,a c _ b,a x _ e,a y _ f,asBool]
variable {bM:Operand} {aG:IntKind} {aL cg:Int}
def bx {t u:TypeId}    (b:bu l a_=some (.int aG aL)) (c:bu l bM=some (.int aG cg)):Yl P l W ⟨d,.binOp .eql t a_ bM u,ty,pos,af,g⟩ (.bool (aL==cg)):=
 λe w a _=>by simp [execOp,a a_ _ b,a bM _ c,eqGuard,binOp,Op.intCmp]
def fh {t u:TypeId}    (b:bu l a_=some (.int aG aL)) (c:bu l bM=some (.int aG cg)):Yl P l W ⟨d,.binOp .neq t a_ bM u,ty,pos,af,g⟩ (.bool (aL != cg)):=
 λe w a _=>by simp [execOp,a a_ _ b,a bM _ c,eqGuard,binOp,Op.intCmp]
def cy {t u:TypeId}    (b:bu l a_=some (.int aG aL)) (c:bu l bM=some (.int aG cg)):Yl P l W ⟨d,.binOp .lss t a_ bM u,ty,pos,af,g⟩ (.bool (decide (aL<cg))):=
 λe w a _=>by simp [execOp,a a_ _ b,a bM _ c,eqGuard,binOp,Op.intCmp]
variable {dt:TypeId}
def lS (b:bu l a_=some (.int aG aL)) (c:bu l bM=some (.int aG cg)):Yl P l W ⟨d,.binOp .leq aU a_ bM dt,ty,pos,af,g⟩ (.bool (decide (aL<=cg))):=
 λe w a _=>by simp [execOp,a a_ _ b,a bM _ c,eqGuard,binOp,Op.intCmp]
def ed (b:bu l a_=some (.int aG aL)) (c:bu l bM=some (.int aG cg)):Yl P l W ⟨d,.binOp .gtr aU a_ bM dt,ty,pos,af,g⟩ (.bool (decide (cg<aL))):=
 λe w a _=>by simp [execOp,a a_ _ b,a bM _ c,eqGuard,binOp,Op.intCmp]
def ih (b:bu l a_=some (.int aG aL)) (c:bu l bM=some (.int aG cg)):Yl P l W ⟨d,.binOp .geq aU a_ bM dt,ty,pos,af,g⟩ (.bool (decide (cg<=aL))):=
 λe w a _=>by simp [execOp,a a_ _ b,a bM _ c,eqGuard,binOp,Op.intCmp]
def sT {t u:TypeId}    (b:bu l a_=some (.int aG aL)) (c:bu l bM=some (.int aG cg)):Yl P l W ⟨d,.binOp .add t a_ bM u,ty,pos,af,g⟩ (.int aG (aG.wrap (aL+cg))):=
 λe w a _=>by simp [execOp,a a_ _ b,a bM _ c,eqGuard,binOp,Op.intArith]
def z3 {t u:TypeId}    (b:bu l a_=some (.int aG aL)) (c:bu l bM=some (.int aG cg)):Yl P l W ⟨d,.binOp .sub t a_ bM u,ty,pos,af,g⟩ (.int aG (aG.wrap (aL-cg))):=
 λe w a _=>by simp [execOp,a a_ _ b,a bM _ c,eqGuard,binOp,Op.intArith]
def Ha (b:bu l a_=some (.int aG aL)) (c:bu l bM=some (.int aG cg)):Yl P l W ⟨d,.binOp .mul aU a_ bM dt,ty,pos,af,g⟩ (.int aG (aG.wrap (aL*cg))):=
 λe w a _=>by simp [execOp,a a_ _ b,a bM _ c,eqGuard,binOp,Op.intArith]
def x5 (h : -9223372036854775808<=aL/\aL<=9223372036854775807):IntKind.i64.wrap aL=aL:=by rw [IntKind.wrap_i64]; omega
def C9 {t u:TypeId}   (a:bu l a_=some (.int .i64 aL)) (b:bu l bM=some (.int .i64 cg)) (c : -9223372036854775808<=aL+cg/\aL+cg<=9223372036854775807):Yl P l W ⟨d,.binOp .add t a_ bM u,ty,pos,af,g⟩ (.int .i64 (aL+cg)):=by
 have:=sT (P:=P) (W:=W) (d:=d) (t:=t) (u:=u) (ty:=ty) (pos:=pos) (af:=af) (g:=g) a b
 rwa [x5 c] at this
def z4 {t u:TypeId}   (a:bu l a_=some (.int .i64 aL)) (b:bu l bM=some (.int .i64 cg)) (c : -9223372036854775808<=aL-cg/\aL-cg<=9223372036854775807):Yl P l W ⟨d,.binOp .sub t a_ bM u,ty,pos,af,g⟩ (.int .i64 (aL-cg)):=by
 have:=z3 (P:=P) (W:=W) (d:=d) (t:=t) (u:=u) (ty:=ty) (pos:=pos) (af:=af) (g:=g) a b
 rwa [x5 c] at this
def Yi {a:Nat}  (b:bu l a_=some (.int .i64 (a:Int))) (c:bu l bM=some (.int .i64 aL)) (e:aL=1) (f:(a:Int)<9223372036854775807):Yl P l W ⟨d,.binOp .add aU a_ bM dt,ty,pos,af,g⟩ (.int .i64 ((a+1:Nat):Int)):=by
 subst e;have:=C9 (P:=P) (W:=W) (d:=d) (t:=aU) (u:=dt) (ty:=ty) (pos:=pos) (af:=af) (g:=g) b c Z
 simpa using this
variable {aS db:List UInt8}
def mT (b:bu l a_=some (st aS)) (c:bu l bM=some (st db)):Yl P l W ⟨d,.binOp .eql aU a_ bM dt,ty,pos,af,g⟩ (.bool (aS==db)):=
 λe w a _=>by simp [execOp,a a_ _ b,a bM _ c,st,eqGuard,binOp,Op.stringOp]
def rQ {t u:TypeId}   (b:bu l a_=some (st aS)) (c:bu l bM=some (st db)):Yl P l W ⟨d,.binOp .neq t a_ bM u,ty,pos,af,g⟩ (.bool (!(aS==db))):=
 λe w a _=>by simp [execOp,a a_ _ b,a bM _ c,st,eqGuard,binOp,Op.stringOp]
def az {a b:List UInt8} (f:bu l a_=some (st a)) (i:bu l bM=some (st b)) (h:a.length+b.length<=9223372036854775807):Yl P l W ⟨d,.binOp .add aU a_ bM dt,ty,pos,af,g⟩ (st (a++b)):=by
 intro j w c _
 have e:(Op.stringOp .add ⟨a.toArray⟩ ⟨b.toArray⟩).run P w = .ok (st (a++b)) w:=by
   rw [run_string_add_sum w _ _ (by show a.toArray.size+b.toArray.size<=_; simpa using h)];simp [st]
   rfl
 simp [execOp,c a_ _ f,c bM _ i,st,eqGuard,binOp,e]
def eR (a:bu l a_=some (.bool dh)):Yl P l W ⟨d,.unOp .not aU a_,ty,pos,af,g⟩ (.bool (!dh)):=
 λc w b _=>by simp [execOp,b a_ _ a,Op.unary]
def N7 {t u:TypeId}  {a b:Bool} (e:P.underlying t=some .bool) (f:bu l a_=some (.bool a)) (h:bu l bM=some (.bool b)):Yl P l W ⟨d,.binOp .eql t a_ bM u,ty,pos,af,g⟩ (.bool (a==b)):=
 λi w c _=>by simp [execOp,c a_ _ f,c bM _ h,eqGuard,run_eql_bool w t a b e]
def bV {p:Addr} (a:bu l a_=some (.pointer (some p))):Yl P l W ⟨d,.nilCheck a_,ty,pos,af,g⟩ (.pointer (some p)):=
 λc w b _=>by simp [execOp,b a_ _ a]
def Yx {vs:Array Value}   (a:bu l a_=some (.tuple vs)) (hi:vs[ae]? = some aW):Yl P l W ⟨d,.extract a_ ae,ty,pos,af,g⟩ aW:=
 λc w b _=>by simp [execOp,b a_ _ a,Instr.extract,hi]
variable {cp kX:Nat}
def Yf (a:cJ P aU ae=some kX) (e:bu l a_=some (.pointer (some ⟨cp,aB,none⟩))):Yl P l W ⟨d,.fieldAddr aU a_ ae,ty,pos,af,g⟩ (.pointer (some ⟨cp,aB+kX,none⟩)):=by
 intro m w f _;unfold cJ at a
 cases b:P.underlying aU with
 | none=>simp [b] at a
 | some h=>
   cases h<;>simp [b] at a
   rename_i fs
   cases c:fs[ae]? with
   | none=>simp [c] at a
   | some j=>
     simp [c] at a
     cases hi:P.info? j.type with
     | none=>simp [hi] at a
     | some i=>
       simp [hi] at a;obtain ⟨k,rfl⟩:=a;simp [execOp,f a_ _ e,Instr.fieldAt,run_underlying b,c,Instr.sureAddr,fieldPlace,sizeOf,typeInfo,hi,k,mg]
variable {rR:Nat}
def x6 (a:ga P aU=some rR) (f:bu l a_=some (.slice (some ⟨ae,aB,none⟩) cp kX)) (h:bu l bM=some (.int aG aL)) (i:0<=aL) (j:aL<cp) :
   Yl P l W ⟨d,.indexAddr aU a_ bM,ty,pos,af,g⟩ (.pointer (some ⟨ae,aB+aL.toNat*rR,none⟩)):=by
 intro m w c _;unfold ga at a
 cases b:P.underlying aU with
 | none=>simp [b] at a
 | some k=>
   cases k<;>simp [b] at a
   rename_i e;obtain ⟨n,hi,rfl⟩:=a;simp [execOp,c a_ _ f,c bM _ h,Instr.indexAt,run_underlying b,asIntOf,i,j,sizeOf,typeInfo,hi,mg]
def gb {i:Nat} (a:ga P aU=some rR) (b:bu l a_=some (.slice (some ⟨ae,aB,none⟩) cp kX)) (c:bu l bM=some (.int aG (i:Int))) (e:i<cp) :
   Yl P l W ⟨d,.indexAddr aU a_ bM,ty,pos,af,g⟩ (.pointer (some ⟨ae,aB+i*rR,none⟩)):=by
 have:=x6 (P:=P) (W:=W) (d:=d) (ty:=ty) (pos:=pos) (af:=af) (g:=g) a b c Z Z
 simpa using this
def Yn {a:Option Addr} {n c s:Nat} (b:ga P aU=some s) (f:bu l a_=some (.slice a n c)):Yl P l W ⟨d,.call ⟨.builtin .len,#[a_],#[aU]⟩,ty,pos,af,g⟩ (.int .i64 (n:Int)):=by
 intro j w h _;unfold ga at b
 cases e:P.underlying aU with
 | none=>simp [e] at b
 | some i=>
   cases i<;>simp [e] at b
   simp [execOp,resolve,invoke,builtin,h a_ _ f,Builtin.len_,run_underlying e,goInt]
def eJ (a:P.underlying aU=some .string) (b:bu l a_=some (st aS)):Yl P l W ⟨d,.call ⟨.builtin .len,#[a_],#[aU]⟩,ty,pos,af,g⟩ (.int .i64 (aS.length:Int)):=by
 intro f w c _
 have e:(ByteArray.mk aS.toArray).size=aS.length:=by show aS.toArray.size=_; simp
 simp [execOp,resolve,invoke,builtin,c a_ _ b,st,Builtin.len_,run_underlying a,goInt,e]
def N8 (s:List UInt8) (i:Nat):(ByteArray.mk s.toArray)[i]? = s[i]?:=by
 rcases lm i s.length with h | h
 · rw [dM h,getElem?_pos (ByteArray.mk s.toArray) i (by show i<s.toArray.size; simpa using h)]
   rfl
 · rw [tZ h,getElem?_neg (ByteArray.mk s.toArray) i (by show ¬i<s.toArray.size; simpa using h)]
variable {jN:UInt8}
def N9 (b:P.underlying aU=some .string) (c:bu l a_=some (st aS)) (e:bu l bM=some (.int aG aL)) (f:0<=aL) (h:aS[aL.toNat]? = some jN) :
   Yl P l W ⟨d,.index aU a_ bM,ty,pos,af,g⟩ (.int .u8 (jN.toNat:Int)):=by
 intro i w a _;simp [execOp,a a_ _ c,a bM _ e,st,Instr.index,asIntOf,run_underlying b,f,N8,h]
def sU {i:Nat}  (a:P.underlying aU=some .string) (b:bu l a_=some (st aS)) (c:bu l bM=some (.int aG (i:Int))) (e:aS[i]? = some jN) :
   Yl P l W ⟨d,.index aU a_ bM,ty,pos,af,g⟩ (.int .u8 (jN.toNat:Int)):=N9 a b c Z (by simpa using e)
def vX (a:mS P aU=true) (b:bu l a_=some (.pointer (some ⟨ae,aB,none⟩))) (c:∀w,W w->w.cell? ⟨ae,aB,none⟩=some aW):Yl P l W ⟨d,.load aU a_,ty,pos,af,g⟩ aW:=
 λh w e f=>by simp [execOp,e a_ _ b,Instr.loadAt,Instr.sureAddr,G' a (c w f)]
def C' {cs:List Value} (a:ig P aU=some cp) (b:bu l a_=some (.pointer (some ⟨ae,aB,none⟩))) (c:cs.length=cp) (e:∀w,W w->∀j v,cs[j]? = some v->w.cell? ⟨ae,aB+j,none⟩=some v) :
   Yl P l W ⟨d,.load aU a_,ty,pos,af,g⟩ (.agg cs.toArray):=
 λi w f h=>by simp [execOp,f a_ _ b,Instr.loadAt,Instr.sureAddr,z2 a c (e w h)]
def cC (i:Nat) (a:mS P aU=true) (b:bu l a_=some (.pointer (some ⟨ae,aB,none⟩))) (c:Vs[i]? = some bc) (e:vc bc ae aB=some aW) :
   Yl P l (Ws w0 F L Vs) ⟨d,.load aU a_,ty,pos,af,g⟩ aW:=vX a b λ_ f=>(f.vs bc (dY c)).cell e
def eq {cs:List Value}  (i:Nat) (a:ig P aU=some cp) (b:bu l a_=some (.pointer (some ⟨ae,aB,none⟩))) (c:Vs[i]? = some bc) (e:cs.length=cp) (f:∀j v,cs[j]? = some v->vc bc ae (aB+j)=some v) :
   Yl P l (Ws w0 F L Vs) ⟨d,.load aU a_,ty,pos,af,g⟩ (.agg cs.toArray):=C' a b e λ_ k j v h=>(k.vs bc (dY c)).cell (f j v h)
def Yd {v:Value}  (i:Nat) (a:bu l a_=some (.pointer (some ⟨ae,aB,none⟩))) (hL:L[i]? = some (aE ae aD)) (b:gE aD aB=some v) (c:mS P aU=true) :
   Yl P l (Ws w0 F L Vs) ⟨d,.load aU a_,ty,pos,af,g⟩ v:=vX c a λ_ e=>cell_of_heap (e.kn _ (dY hL)) b
def cellsIn (o:Obj) (k n:Nat):List Value:=match o with | .cells c _ _=>(c.toList.drop k).take n | _=>[]
def cI (i:Nat) (a:bu l a_=some (.pointer (some ⟨ae,aB,none⟩))) (hL:L[i]? = some (aE ae aD)) (b:ig P aU=some cp) (c:(cellsIn aD aB cp).length=cp) :
   Yl P l (Ws w0 F L Vs) ⟨d,.load aU a_,ty,pos,af,g⟩ (.agg (cellsIn aD aB cp).toArray):=C' b a c λw e j v h=>by
 have f:w.heap[ae]? = some aD:=e.kn _ (dY hL);refine cell_of_heap f ?_
 cases aD<;>simp [cellsIn,gE] at *
 rw [i6] at h
 split at h
 · simpa using h
 · cases h
end
def zeroOf (P:Program) (t:TypeId):Option Value:=(P.info? t).bind (·.zero)
def dV (P:Program) (t:TypeId):Option Nat:=(P.info? t).map (·.size)
variable {hT:Program} {aU:TypeId} {aW:Value}
def uk (h:zeroOf hT aU=some aW) (w:World):(zeroValue aU).run hT w = .ok aW w:=by
 unfold zeroOf at h
 cases hi:hT.info? aU with
 | none=>simp [hi] at h
 | some i=>simp [hi] at h; simp [zeroValue,typeInfo,hi,h]
def z5 (h:dV hT aU=some ae) (w:World):(sizeOf aU).run hT w = .ok ae w:=by
 unfold dV at h
 cases hi:hT.info? aU with
 | none=>simp [hi] at h
 | some i=>simp [hi] at h; simp [sizeOf,typeInfo,hi,h]
def N' (vs:List Value):∀(k off:Nat) (cells:Array Value),off+k+vs.length<=cells.size->
   ((vs.zipIdx k).foldl (λcs (p:Value×Nat)=>cs.setIfInBounds (off+p.2) p.1) cells).toList=cells.toList.take (off+k)++vs++cells.toList.drop (off+k+vs.length):=by
 induction vs with
 | nil=>intro k off cells _; simp
 | cons v r a=>
   intro k off cells h;simp only [List.zipIdx_cons,wK];rw [a (k+1) off _ (by simp at h ⊢; omega)];simp only [Array.toList_setIfInBounds];have:=list_seg_step cells.toList (off+k) v r (by simp at h ⊢; omega)
   simpa [rI] using this
def dO:Value->List Value | .agg cs=>cs.toList | v=>[v]
def sV (v:Value):v.cells.toList=dO v:=by cases v<;>rfl
def qE (place:Nat->Option (Nat×Nat)):List Value->List (Nat×Value)->Option (List Value)
 | cells,[]=>some cells
 | cells,(i,v)::r=>match place i with
   | some (off,size)=>bif Nat.beq (dO v).length size&&Nat.ble (off+size) cells.length then qE place (cells.take off++dO v++cells.drop (off+size)) r else none
   | none=>none
def x7 (place:Nat->Option (Nat×Nat)):∀(parts:List (Nat×Value)) (cells:Array Value) (out:List Value),qE place cells.toList parts=some out->Instr.fill place cells parts=some out.toArray
 | [],cells,out,h=>by simp [qE] at h; simp [Instr.fill,<-h]
 | (i,v)::r,cells,out,h=>by
   simp only [qE] at h
   cases d:place i with
   | none=>simp [d] at h
   | some x=>
     obtain ⟨off,size⟩:=x;simp only [d] at h
     cases a:(Nat.beq (dO v).length size&&Nat.ble (off+size) cells.toList.length) with
     | false=>rw [a] at h; cases h
     | true=>
       rw [a] at h;simp only [ew] at a;have g:=i5 a.1;have k:=pP a.2
       have b:v.cells.size=size:=by rw [<-g,<-sV]; simp
       have f:off+v.cells.size<=cells.size:=by rw [b]; simpa using k
       simp only [Instr.fill,d];rw [av (by simp [b]; rw [b] at f; omega)];have e:=N' v.cells.toList 0 off cells (by simpa using f);simp only [oY,xa] at e
       have l:(v.cells.zipIdx.foldl (λcs (c,j)=>cs.setIfInBounds (off+j) c) cells)=(cells.toList.take off++dO v++cells.toList.drop (off+size)).toArray:=by
         apply t';rw [<-Array.foldl_toList,Array.toList_zipIdx];rw [b] at e;rw [e,sV]
       rw [l];exact x7 place r _ out (by simpa using h)
def hx (P:Program) (t:TypeId):Option (List (Nat×Nat)):=match P.underlying t with
 | some (.struct fs)=>fs.toList.mapM λf=>(dV P f.type).map (f.offset,·)
 | _=>none
def run_places {P:Program}:∀(fs:List Field) (pl:List (Nat×Nat)),fs.mapM (λf=>(dV P f.type).map (f.offset,·))=some pl->∀w:World,
   (fs.mapM (m:=Sem) λf=>do pure (f.offset,<-sizeOf f.type)).run P w = .ok pl w
 | [],pl,h,w=>by simp at h; subst h; simp
 | f::fs,pl,h,w=>by
   simp only [t_,Option.bind_eq_bind] at h
   cases a:dV P f.type with
   | none=>simp [a] at h
   | some k=>
     simp only [a,dN,cM] at h
     cases b:fs.mapM (λf=>(dV P f.type).map (f.offset,·)) with
     | none=>simp [b] at h
     | some c=>
       simp [b] at h;subst h;have d:=run_places fs c b w;simp only [t_,Sem.run_bind,z5 a,Result.andThen_ok,Sem.run_pure,d]
def rT (l:List (Nat×Value)):List (Nat×Operand)->Option (List (Nat×Value))
 | []=>some []
 | (i,x)::r=>match bu l x,rT l r with
   | some v,some vs=>some ((i,v)::vs)
   | _,_=>none
variable {c9:List (Nat×Value)} {z6:Operand->Value}
def z7 (c:∀x u,bu c9 x=some u->z6 x=u):∀(ps:List (Nat×Operand)) (vs:List (Nat×Value)),rT c9 ps=some vs->ps.map (λp=>(p.1,z6 p.2))=vs
 | [],vs,h=>by simp [rT] at h; simp [h]
 | (i,x)::r,vs,h=>by
   simp only [rT] at h
   cases a:bu c9 x with
   | none=>simp [a] at h
   | some v=>
     cases b:rT c9 r with
     | none=>simp [a,b] at h
     | some us=>
       simp [a,b] at h;subst h;simp [c x v a,z7 c r us b]
def g2 (l:List (Nat×Value)):List Operand->Option (List Value)
 | []=>some []
 | x::r=>match bu l x,g2 l r with
   | some v,some vs=>some (v::vs)
   | _,_=>none
def z8 (c:∀x u,bu c9 x=some u->z6 x=u):∀(ps:List Operand) (vs:List Value),g2 c9 ps=some vs->ps.map z6=vs
 | [],vs,h=>by simp [g2] at h; simp [h]
 | x::r,vs,h=>by
   simp only [g2] at h
   cases a:bu c9 x with
   | none=>simp [a] at h
   | some v=>
     cases b:g2 c9 r with
     | none=>simp [a,b] at h
     | some us=>
       simp [a,b] at h;subst h;simp [c x v a,z8 c r us b]
section
variable {P:Program} {l:List (Nat×Value)} {W:World->Prop} {w0:World} {F:List Nat} {L:List ah} {Vs:List View}
 {d:Option Tmp} {ty:TypeId} {pos:String} {af:Array Edge} {g:Option (Nat×Bool)}
def Yb {t:TypeId} {parts:List (Nat×Operand)} {vs:List (Nat×Value)} {a:Value} {pl:List (Nat×Nat)} {out:List Value} (e:zeroOf P t=some a) (b:hx P t=some pl)
   (hv:rT l parts=some vs) (h:qE (λi=>pl[i]?) (dO a) vs=some out):Yl P l W ⟨d,.build t parts.toArray,ty,pos,af,g⟩ (.agg out.toArray):=by
 intro j w k _
 have n:((parts.toArray.map λ (i,x)=>(i,j x)):Array (Nat×Value)).toList=vs:=by simpa using z7 k parts vs hv
 unfold hx at b
 cases c:P.underlying t with
 | none=>simp [c] at b
 | some o=>
   cases o<;>simp [c] at b
   rename_i fs;have p:=run_places (P:=P) fs.toList pl (by simpa using b) w
   have q:(fs.mapM (m:=Sem) λf=>do pure (f.offset,<-sizeOf f.type)).run P w = .ok pl.toArray w:=by
     rw [vM,Sem.run_map,p]; rfl
   have r:Instr.fill (λi=>pl.toArray[i]?) a.cells vs=some out.toArray:=by
     refine x7 _ vs a.cells out ?_;rw [sV]
     simpa using h
   simp only [execOp,Instr.build,Sem.run_bind,uk e,Result.andThen_ok,run_underlying c,q,n,r,Sem.run_pure]
end
section
variable {P:Program} {ops:Array Oper} {Q:Exit->Act->World->Prop} {n:Nat} {ds:List Deferred} {l:List (Nat×Value)} {W:World->Prop} {w0:World} {F:List Nat} {L:List ah} {Vs:List View}
 {rest:List Oper} {d:Nat} {ty:TypeId} {pos:String} {af:Array Edge} {g:Option (Nat×Bool)}
def Hb (t:TypeId) (v:Value) (w:World):(newVar t v).run P w = .ok ⟨w.heap.size,0,none⟩ (w.alloc (.cells v.cells t)):=by
 simp [newVar,newRow]
def WL.new {op:Op} {o:Obj} {mk:Nat->Value} (i:dI ops l g) (j:Nat.blt d n=true)
   (k:∀(c:Operand->Value) (w:World),(∀x u,bu l x=some u->c x=u)->Ws w0 F L Vs w->(execOp c ⟨some d,op,ty,pos,af,g⟩).run P w = .ok (.value (mk w.heap.size)) (w.alloc o))
   (h:∀b,WL P ops Q n ds ((d,mk b)::l) (Ws w0 F (aE b o::L) Vs) rest) :
   WL P ops Q n ds l (Ws w0 F L Vs) (⟨some d,op,ty,pos,af,g⟩::rest):=by
 refine WL.step i λa w e f q m=>?_;have:=k a.eval w (λx u p=>e.eval p) f;simp only [Oper.wp,this,Oper.upon_value];exact m _ _ (h w.heap.size _ _ (e.put j _) (f.alloc o))
def WL.box {x:Operand}  (a:dI ops l g) (c:Nat.blt d n=true) (e:bu l x=some aW)
   (h:∀b,WL P ops Q n ds ((d,.pointer (some ⟨b,0,none⟩))::l) (Ws w0 F (aE b (.cells aW.cells aU (0,0))::L) Vs) rest) :
   WL P ops Q n ds l (Ws w0 F L Vs) (⟨some d,.box aU x,ty,pos,af,g⟩::rest):=
 WL.new (mk:=λb=>.pointer (some ⟨b,0,none⟩)) a c (λi w f j=>by simp [execOp,Instr.box,f x aW e,Hb]) h
def Al (a:dI ops l g) (c:Nat.blt d n=true) (e:zeroOf P aU=some aW)
   (h:∀b,WL P ops Q n ds ((d,.pointer (some ⟨b,0,none⟩))::l) (Ws w0 F (aE b (.cells aW.cells aU (0,0))::L) Vs) rest) :
   WL P ops Q n ds l (Ws w0 F L Vs) (⟨some d,.alloc aU,ty,pos,af,g⟩::rest):=
 WL.new (mk:=λb=>.pointer (some ⟨b,0,none⟩)) a c (λf w i j=>by simp [execOp,Instr.alloc,uk e,Hb]) h
def jq (a:Obj) (o:Nat) (vs:List Value):Obj:=match a with | .cells c T f=>.cells (c.toList.take o++vs++c.toList.drop (o+vs.length)).toArray T f | x=>x
def mU (a:Obj) (o k:Nat):Bool:=match a with | .cells c _ f=>Nat.ble (o+k) c.toList.length&&(Nat.beq f.1 0&&Nat.beq f.2 0) | _=>false
variable {aB cp:Nat}
def z9 {w:World} (i:dV P aU=some ae) (k:(dO aW).length=ae) (l:(dO aW).all (·.oneCell')=true) (a:w.heap[aB]? = some aD) (b:mU aD cp ae=true) :
   (storeVar aU ⟨aB,cp,none⟩ aW).run P w = .ok () { w with heap:=w.heap.setIfInBounds aB (jq aD cp (dO aW)) }:=by
 cases aD with
 | cells c T f=>
   obtain ⟨v,x⟩:=f;simp only [mU,ew] at b;obtain ⟨d,m,n⟩:=b;have o:=i5 m;have p:=i5 n;subst o; subst p;have d:=pP d;have e:=run_storeCells_at P aB cp T (dO aW) 0 c w a (by simp at d ⊢; omega) (λu q=>hS.1 l u q)
   have r:aW.cells.size=ae:=by rw [<-k,<-sV]; simp
   have s:(storeVar aU ⟨aB,cp,none⟩ aW).run P w=(storeCells ⟨aB,cp,none⟩ (dO aW)).run P w:=by
     simp [storeVar,z5 i,r,sV]
   rw [s,e];have h:=setRow_heap w aB c (c.toList.take (cp+0)++dO aW++c.toList.drop (cp+0+(dO aW).length)).toArray T (0,0) a;have t:=lt_of_heap a;simp only [jq,oY] at h ⊢
   suffices hh:(w.setRow aB (c.toList.take cp++dO aW++c.toList.drop (cp+(dO aW).length)).toArray).heap=w.heap.setIfInBounds aB (.cells (c.toList.take cp++dO aW++c.toList.drop (cp+(dO aW).length)).toArray T (0,0)) by
     rw [<-hh]; rfl
   apply Array.ext_getElem?;intro j
   by_cases g:aB=j
   · subst g
     rw [h];simp [t]
   · rw [qz g]
     simp [World.setRow,xc,g]
 | _=>simp [mU] at b
def aT {x y:Operand}    (i:Nat) (f:dI ops l g) (k:bu l x=some (.pointer (some ⟨ae,aB,none⟩))) (m:bu l y=some aW) (hL:L[i]? = some (aE ae aD))
   (o:dV P aU=some cp) (p:(dO aW).length=cp) (q:(dO aW).all (·.oneCell')=true) (r:mU aD aB cp=true)
   (h:WL P ops Q n ds l (Ws w0 F (L.set i (aE ae (jq aD aB (dO aW)))) Vs) rest) :
   WL P ops Q n ds l (Ws w0 F L Vs) (⟨none,.store aU x y,ty,pos,af,g⟩::rest):=by
 refine WL.step f λa w b c v s=>?_;have d:w.heap[ae]? = some aD:=c.kn _ (dY hL)
 have t:(execOp a.eval ⟨none,.store aU x y,ty,pos,af,g⟩).run P w = .ok .skip { w with heap:=w.heap.setIfInBounds ae (jq aD aB (dO aW)) }:=by
   simp only [execOp,b.eval k,b.eval m,Instr.storeAt,Instr.sureAddr,Sem.run_bind,Sem.run_pure,Result.andThen_ok,z9 o p q d r]
 simp only [Oper.wp,t,Oper.upon_skip];refine s _ _ (h _ _ (b.uf undef) ?_);refine Ws.pV c i hL ⟨O,O,O,au,λj z u=>?_⟩ ?_ (by simp [aE]) (by simp [aE])
 · have:ae≠j:=λe=>u (by simp [aE,e])
   simp [qz this]
 · show (w.heap.setIfInBounds ae _)[ae]? = _
   simp [lt_of_heap d]
def Enters (P:Program) (f:FuncId):Prop:=∀args w,(callFunc f args).run P w = .ok (.enter f args) w
variable {du:FuncId}
def enters_of {fn : Func} (b : P.funcs[du]? = some fn) (c : (fn.name == "runtime.NumGoroutine") = false) (a : fn.body.isNone = false) : Enters P du := λargs w => by
 have d : fn.name ≠ "runtime.NumGoroutine" := by simpa using c
 have f:fn.body≠none:=by intro e; rw [e] at a; cases a
 simp [callFunc,b,d,f]
def xD (P:Program) (f:FuncId):Bool:=match P.funcs[f]? with
 | some fn=>!(fn.name=="runtime.NumGoroutine")&&!fn.body.isNone
 | none=>false
def aK {P:Program} {f:FuncId} (h:xD P f=true:=by kernel_rfl):Enters P f:=by
 unfold xD at h
 cases e:P.funcs[f]? with
 | none=>rw [e] at h; cases h
 | some fn=>
  rw [e] at h;simp only [Bool.and_eq_true,Bool.not_eq_true'] at h
  exact enters_of e h.1 h.2
variable {aR:Array Operand} {ci:List Value}
def x8 {a:Operand->Value} {dst:Option Tmp}   {ts:Array TypeId}  {w:World} (c:Enters P du) (b:∀x u,bu l x=some u->a x=u) (d:g2 l aR.toList=some ci) :
   (execOp a ⟨dst,.call ⟨.value (.func du),aR,ts⟩,ty,pos,af,g⟩).run P w = .ok (.enter du ci.toArray) w:=by
 have e:aR.map a=ci.toArray:=by
   apply t'
   simpa using z8 b _ _ d
 have f:a (.func du) = .func (.func du) #[] #[]:=b (.func du) _ rfl;simp only [execOp,resolve,e,f,Deferred.ofValue,Sem.run_bind,Sem.run_pure,Result.andThen_ok,invoke]
 simpa using c _ w
variable {gU:Array TypeId}
def WL.vY {ι:Type}     (j:dI ops l g) (k:Nat.blt d n=true) (m:Enters P du) (o:g2 l aR.toList=some ci)
   (v:ι->Value) (R:ι->World->Prop) (f:List PanicEntry->World->Prop)
   (hC:∀w,W w->Calls P du ci.toArray w λe w'=>(∃i,e = .returned (v i)/\R i w')\/∃b,e = .panicked b/\f b w')
   (p:∀i,WL P ops Q n ds ((d,v i)::l) (R i) rest) (q:∀b,WE Q (.panic b) n ds l (f b)) :
   WL P ops Q n ds l W (⟨some d,.call ⟨.value (.func du),aR,gU⟩,ty,pos,af,g⟩::rest):=by
 refine WL.step j λa w c r A s=>?_;have t:=x8 (P:=P) (dst:=some d) (ts:=gU) (ty:=ty) (pos:=pos) (af:=af) (g:=g) (w:=w) m (λx u y=>c.eval y) o;simp only [Oper.wp,t,Oper.upon_enter];refine (hC w r).mono λe w' z=>?_
 rcases z with ⟨i,rfl,h⟩ | ⟨b,rfl,h⟩
 · exact s _ _ (p i _ _ (c.put k _) h)
 · exact q b _ _ c h
def WL.call (a:dI ops l g) (b:Nat.blt d n=true) (c:Enters P du) (f:g2 l aR.toList=some ci)
   (v:a9->Value) (R:a9->World->Prop)
   (hC:∀w,W w->Calls P du ci.toArray w λe w'=>∃i,e = .returned (v i)/\R i w')
   (j:∀i,WL P ops Q n ds ((d,v i)::l) (R i) rest) :
   WL P ops Q n ds l W (⟨some d,.call ⟨.value (.func du),aR,gU⟩,ty,pos,af,g⟩::rest):=
 WL.vY a b c f v R (λ_ _=>False) (λw k=>(hC w k).mono λ_ _ h=>.inl h) j (λ_ _ _ _ h=>h.elim)
def Lp (f:dI ops l g) (i:Nat.blt d n=true) (j:Enters P du) (k:g2 l aR.toList=some ci)
   (hC:∀w,Ws w0 F L Vs w->Calls P du ci.toArray w λe w'=>e = .returned aW/\Ext w w')
   (m:WL P ops Q n ds ((d,aW)::l) (Ws w0 F L Vs) rest) :
   WL P ops Q n ds l (Ws w0 F L Vs) (⟨some d,.call ⟨.value (.func du),aR,gU⟩,ty,pos,af,g⟩::rest):=by
 refine WL.step f λa w b c s o=>?_;have p:=x8 (P:=P) (dst:=some d) (ts:=gU) (ty:=ty) (pos:=pos) (af:=af) (g:=g) (w:=w) j (λx u q=>b.eval q) k;simp only [Oper.wp,p,Oper.upon_enter];refine (hC w c).mono λe w' r=>?_;obtain ⟨rfl,h⟩:=r;exact o _ _ (m _ _ (b.put i _) (c.ext h))
def Ld (f:dI ops l g) (j:Nat.blt d n=true) (k:Enters P du) (m:g2 l aR.toList=some ci)
   (v:a9->Value) (R:View->a9->Prop)
   (hC:∀w,Ws w0 F L Vs w->Calls P du ci.toArray w λe w'=>∃i,e = .returned (v i)/\Ext w w'/\R (nv w w') i)
   (o:∀H i,eD w0 H->R H i->WL P ops Q n ds ((d,v i)::l) (Ws w0 F L (H::Vs)) rest) :
   WL P ops Q n ds l (Ws w0 F L Vs) (⟨some d,.call ⟨.value (.func du),aR,gU⟩,ty,pos,af,g⟩::rest):=by
 refine WL.step f λa w c b y p=>?_;have q:=x8 (P:=P) (dst:=some d) (ts:=gU) (ty:=ty) (pos:=pos) (af:=af) (g:=g) (w:=w) k (λx u r=>c.eval r) m;simp only [Oper.wp,q,Oper.upon_enter];refine (hC w b).mono λe w' s=>?_;obtain ⟨i,rfl,h,t⟩:=s;exact p _ _ (o (nv w w') i ((o1 w w').mono b.fr.size) t _ _ (c.put j _) (b.view h (x4 w w') (o1 w w')))
end
section
variable {P:Program} {ops:Array Oper} {Q:Exit->Act->World->Prop} {n:Nat} {ds:List Deferred} {l:List (Nat×Value)} {W:World->Prop} {w0:World} {F:List Nat} {L:List ah} {Vs:List View}
 {rest:List Oper} {d:Nat} {ty:TypeId} {pos:String} {af:Array Edge} {g:Option (Nat×Bool)}
def cq (e:TypeId) (size:Nat) (v:Value) (m:Nat) (xs:List Value):ah:=
 ⟨v.ownBlock.toList,λw=>w.ownsRow 0 e size v m xs,
  λw w' h b=>by
   obtain ⟨f,a⟩:=b;refine ⟨f,?_⟩
   rcases a with a | ⟨g,cap,cur,hv,i,c,r⟩
   · exact .inl a
   · exact .inr ⟨g,cap,cur,hv,i,by rw [h g (by simp [hv,Value.ownBlock])]; exact c,r⟩,
  λw b k d=>by
   obtain ⟨f,a⟩:=b
   rcases a with ⟨a,_⟩ | ⟨g,cap,cur,hv,i,c,r⟩
   · subst a; simp [Value.ownBlock] at d
   · subst hv; simp [Value.ownBlock] at d; subst d; exact lt_of_heap c⟩
def Ws.g3 (h:Ws w0 F L Vs bF) (e:TypeId) (size:Nat):Ws w0 F (cq e size (.slice none 0 0) 0 []::L) Vs bF:=by
 have:=Ws.sS (L:=[]) (L':=[cq e size (.slice none 0 0) 0 []]) (L2:=L) (by simpa using h) (Fr.refl _ _)
   (by intro b a; simp at a; subst a; exact World.ownsRow_nil _ _ _ _) (by simp [cq,Value.ownBlock]) (by simp [cq,Value.ownBlock])
 simpa using this
def Ws.Hd (h:Ws w0 F L Vs bF) (i:Nat) {b m cap:Nat} {cur:Array Value} {e:TypeId} {size:Nat} (hL:L[i]? = some (aE b (.cells cur e (0,0)))) (a:m<=cap) (d:cap<=maxLen) (c:cur.size=cap*size) :
   Ws w0 F (L.set i (cq e size (.slice (some ⟨b,0,none⟩) m cap) m (cur.toList.take (m*size)))) Vs bF:=by
 have f:bF.heap[b]? = some (.cells cur e (0,0)):=h.kn _ (dY hL);refine Ws.pV h i hL (Fr.refl _ _) ?_ (by simp [cq,Value.ownBlock]) (by simp [cq,aE,Value.ownBlock]);exact ⟨by rw [mc,xa,c]; exact rJ (sJ _ a),.inr ⟨b,cap,cur,O,cx _,f,a,d,c,O⟩⟩
structure hc (P:Program) (t e:TypeId) (z:Value) (size bytes:Nat):Prop where
 under:P.underlying t=some (.slice e)
 info:∃i,P.info? e=some i/\i.zero=some z/\i.size=size/\i.bytes=bytes
 zs:z.cells.size=size
 pos:0<size
def He (P:Program) (t:TypeId):Option (TypeId×Value×Nat×Nat):=match P.underlying t with
 | some (.slice e)=>match P.info? e with
   | some i=>match i.zero with
     | some a=>bif Nat.beq a.cells.size i.size&&Nat.blt 0 i.size then some (e,a,i.size,i.bytes) else none
     | none=>none
   | none=>none
 | _=>none
def jr {t e:TypeId} {d:Value} {size f:Nat} (h:He P t=some (e,d,size,f)):hc P t e d size f:=by
 unfold He at h
 cases b:P.underlying t with
 | none=>simp [b] at h
 | some g=>
   cases g<;>simp [b] at h
   rename_i j
   cases hi:P.info? j with
   | none=>simp [hi] at h
   | some i=>
     simp [hi] at h
     cases c:i.zero with
     | none=>simp [c] at h
     | some k=>
       simp only [c] at h
       cases a:(Nat.beq k.cells.size i.size&&Nat.blt 0 i.size) with
       | false=>rw [a] at h; cases h
       | true=>
         rw [a] at h;simp at h;obtain ⟨rfl,rfl,rfl,rfl⟩:=h;simp only [ew] at a;exact ⟨b,⟨i,hi,c,O,O⟩,i5 a.1,pP a.2⟩
variable {kY:Addr}
def Oa {t e ty:TypeId} {i v b:Value} {size p m c k:Nat}  {xs news:List Value} {w w':World} (d:hc P t e i size p) (y:w.ownsRow 0 e size v m xs)
   (f:news.length=k*size) (l:∀j u,news[j]? = some u->w.cell? (kY.add j)=some u) (z:∀u ∈ news,u.oneCell'=true)
   (A:m+k<=maxLen) (q:(m+k)*p<=140737488355328) (n:(Builtin.append_ #[t,t] ty #[v,.slice (some kY) k c]).run P w = .ok b w') (B:b = .slice none 0 0↔v = .slice none 0 0/\k=0) :
   b.ownBlock=v.ownBlock\/b.ownBlock=some w.heap.size:=by
 obtain ⟨o,hi,r,C,D⟩:=d.info;subst C; subst D
 have E:((m+k:Nat):Int)<=9223372036854775807:=by simp only [maxLen] at A; omega
 obtain ⟨F,G⟩:=y
 rcases G with ⟨rfl,rfl⟩ | ⟨g,cap,cur,rfl,_,s,L,M,H,I⟩
 · by_cases J:k=0
   · exact .inl (by rw [B.2 ⟨O,J⟩])
   · have a:=run_append_nil (P:=P) w t ty e o i d.under hi r kY k c news f l Z Z (by simp at q; omega)
     rw [n] at a
     injection a with a _
     exact .inr (by rw [a]; rfl)
 · by_cases x:m+k<=cap
   · have a:=run_append_room (P:=P) w t ty e o d.under hi g m cap cur s kY k c news f l z x (by
       rw [f,H,<-sK]; exact sJ _ x)
     rw [n] at a
     injection a with a _
     exact .inl (by rw [a]; rfl)
   · have K:∀j v,xs[j]? = some v->w.cell? ((⟨g,0,none⟩:Addr).add j)=some v:=by
       intro j u h;rw [mg,<-I] at *;refine cell_of_heap s ?_;rw [i6] at h
       split at h
       · simpa [gE] using h
       · cases h
     have a:=run_append_grow (P:=P) w t ty e o i d.under hi r ⟨g,0,none⟩ m cap xs F K kY k c news f l Z E (growslice_fits Z q);rw [n] at a
     injection a with a _
     exact .inr (by rw [a]; rfl)
def WL.append {t e:TypeId} {y v:Value} {size q m c k:Nat} {s x:Operand}  {xs news:List Value} (i:Nat) (I:dI ops l g) (J:Nat.blt d n=true) (f:hc P t e y size q)
   (K:bu l s=some v) (M:bu l x=some (.slice (some kY) k c)) (hL:L[i]? = some (cq e size v m xs))
   (z:news.length=k*size) (A:∀w,Ws w0 F L Vs w->∀j u,news[j]? = some u->w.cell? (kY.add j)=some u) (B:∀u ∈ news,u.oneCell'=true)
   (C:m+k<=maxLen) (D:(m+k)*q<=140737488355328)
   (h:∀a,(a = .slice none 0 0↔v = .slice none 0 0/\k=0)->WL P ops Q n ds ((d,a)::l) (Ws w0 F (L.set i (cq e size a (m+k) (xs++news))) Vs) rest) :
   WL P ops Q n ds l (Ws w0 F L Vs) (⟨some d,.call ⟨.builtin .append,#[s,x],#[t,t]⟩,ty,pos,af,g⟩::rest):=by
 refine WL.step I λN w r p Y O=>?_;obtain ⟨R,hi,S,T,U⟩:=f.info;have E:w.ownsRow 0 e size v m xs:=p.kn _ (dY hL);obtain ⟨a,w',G,V,o,H⟩:=run_append_own (P:=P) w 0 t ty e R y size q f.under hi S T U f.zs f.pos v m xs E kY k c news z (A w p) B C D (cx _)
 have W:(execOp N.eval ⟨some d,.call ⟨.builtin .append,#[s,x],#[t,t]⟩,ty,pos,af,g⟩).run P w = .ok (.value a) w':=by
   simp only [execOp,resolve,xV,jn,qA,r.eval K,r.eval M,Sem.run_bind,Sem.run_pure,Result.andThen_ok,invoke,builtin,G]
 simp only [Oper.wp,W,Oper.upon_value];refine O _ _ (h a H _ _ (r.put J _) ?_);refine Ws.pV p i hL ⟨o.os,o.tape,o.output,o.size,λj b X=>o.block j b λe=>X ?_⟩ V ?_ λj b=>?_
 · simp [cq,<-e]
 · cases hv:a.ownBlock<;>simp [cq,hv]
 · simp only [cq,CA] at b ⊢
   rcases Oa f E z (A w p) B C D G H with e | e
   · exact .inl (by rw [<-e]; exact b)
   · rw [e] at b; injection b with b; exact .inr Z
end
section
variable {P:Program} {ops:Array Oper} {Q:Exit->Act->World->Prop} {n:Nat} {ds:List Deferred} {l:List (Nat×Value)} {W:World->Prop} {w0:World} {F:List Nat} {L:List ah} {Vs:List View}
def o2 (us l:List (Nat×Value)):Bool:=us.all λp=>(lk l p.1).isNone
def Ob (a:o2 c9 l=true)   (b:lk l ae=some aW):lk (c9++l) ae=some aW:=by
 induction c9 with
 | nil=>exact b
 | cons p r d=>
   obtain ⟨k,v⟩:=p;simp only [o2,vN,ew] at a;simp only [bt,lk]
   cases e:Nat.beq k ae with
   | false=>exact d a.2
   | true=>
     have:=i5 e;subst this;have c:=a.1;rw [b] at c;cases c
variable {hd:Act}
def Ag.forget (h:Ag n ds (c9++l) hd) (a:o2 c9 l=true):Ag n ds l hd:=
 ⟨h.size,h.defs,λt u b=>h.bl t u (Ob a b)⟩
def Ag.z_ (m:Nat) (h:Ag n ds c9 hd) (a:c9.drop m=l) (b:o2 (c9.take m) l=true):Ag n ds l hd:=by
 subst a;rw [<-pR m c9] at h;exact h.forget b
def lT (ops:Array Oper):List (Nat×Value)->List Oper->Option (List (Nat×Value))
 | l,[]=>some l
 | l,o::r=>match o.guard,o.dst with
   | some (j,b),some d=>match (ops[j]?).bind (·.dst) with
     | some a=>match lk l a with
       | some (.bool c)=>bif (c != b) then lT ops ((d,undef)::l) r else none
       | some (.tuple _)=>lT ops ((d,undef)::l) r
       | _=>none
     | none=>none
   | _,_=>none
def qF (n:Nat) (os:List Oper):Bool:=os.all λo=>match o.dst with | some d=>Nat.blt d n | none=>true
def Hf (b:Ag n ds c9 hd)   (h:lk c9 ae=some aW) (hv:aW≠undef\/ae<n):hd.tmps[ae]? = some aW:=by
 have a:=b.bl ae aW h;rw [jm] at a
 rcases lm ae hd.tmps.size with d | c
 · rw [sI d] at a ⊢
   simpa using a
 · rw [vL c] at a
   rcases hv with hv | hv
   · exact absurd (by simpa using a.symm) hv
   · rw [b.size] at c; omega
variable {bC x9:List Oper}
def WL.C_:∀{l:List (Nat×Value)},lT ops l bC=some c9->qF n bC=true->(∀a w,Ag n ds c9 a->W w->wpList P ops Q x9 a w)->
   ∀a w,Ag n ds l a->W w->wpList P ops Q (bC++x9) a w:=by
 induction bC with
 | nil=>intro l c _ h a w f m; simp [lT] at c; subst c; exact h a w f m
 | cons o r y=>
   intro l c p h a w f m;simp only [lT] at c;simp only [qF,vN,ew] at p
   have key:∀d,o.dst=some d->Region.wanted o (yielded ops a.tmps)=false->lT ops ((d,undef)::l) r=some c9->wpList P ops Q (o::r++x9) a w:=by
     intro d e z A
     have B:Nat.blt d n=true:=by have:=p.1; rw [e] at this; exact this
     simp only [bt,wpList,z];rw [e];exact y A p.2 h _ _ (f.put B undef) m
   cases g:o.guard with
   | none=>simp [g] at c
   | some C=>
     obtain ⟨j,b⟩:=C
     cases e:o.dst with
     | none=>simp [g,e] at c
     | some d=>
       simp only [g,e] at c
       cases i:(ops[j]?).bind (·.dst) with
       | none=>simp [i] at c
       | some q=>
         simp only [i] at c
         cases k:lk l q with
         | none=>simp [k] at c
         | some v=>
           simp only [k] at c;have hv:=f.bl q v k
           cases v with
           | bool s=>
             cases t:(s != b) with
             | false=>simp [t] at c
             | true=>
               simp only [t,qC] at c;refine key d e ?_ c;have D:=Hf f k (.inl (by simp [undef]))
               have x:yielded ops a.tmps j=some s:=by simp [yielded,i,D]
               simp only [Region.wanted,g,x]
               cases b<;>cases s<;>first | rfl | (simp at t)
           | tuple vs=>
             refine key d e ?_ c
             have x:yielded ops a.tmps j=none:=by
               simp only [yielded,i,cM];rw [jm] at hv
               cases E:a.tmps[q]? with
               | none=>rfl
               | some u=>simp [E] at hv; simp [hv]
             simp [Region.wanted,g,x]
           | _=>simp at c
def Oc:∀(a:Act) (w:World),wpList P ops (Exit.then (wpList P ops Q x9) Q) bC a w->wpList P ops Q (bC++x9) a w:=by
 induction bC with
 | nil=>intro a w h; exact h
 | cons o r c=>
   intro a w h;simp only [bt,wpList] at h ⊢
   split
   · rename_i d
     rw [a8 d] at h
     rcases h with h | ⟨f,a2,g,i⟩
     · left
       unfold Oper.wp at h ⊢;unfold Oper.upon at h ⊢
       split at h
       all_goals first
         | exact c _ _ h
         | exact h
         | (refine h.mono λe w' b=>?_
            cases e with
            | returned v=>exact c _ _ b
            | panicked l=>exact b
            | outgrown=>obtain ⟨a3,j,k⟩:=b; exact ⟨a3,j,k⟩)
         | exact h.mono λv w' b=>c _ _ b
     · exact .inr ⟨f,a2,g,i⟩
   · rename_i d
     rw [av d] at h;exact c _ _ h
def Od {g:Exit->Act->World->Prop} (b:∀e a w,Q e a w->g e a w) :∀(a:Act) (w:World),wpList P ops Q bC a w->wpList P ops g bC a w:=by
 induction bC with
 | nil=>intro a w h; exact b _ _ _ h
 | cons o r d=>
   intro a w h;simp only [wpList] at h ⊢
   split
   · rename_i f
     rw [a8 f] at h
     rcases h with h | ⟨i,a2,j,k⟩
     · left
       unfold Oper.wp at h ⊢;unfold Oper.upon at h ⊢
       split at h
       all_goals first
         | exact d _ _ h
         | exact b _ _ _ h
         | exact h
         | (refine h.mono λe w' c=>?_
            cases e with
            | returned v=>exact d _ _ c
            | panicked n=>exact b _ _ _ c
            | outgrown=>obtain ⟨a3,l,m⟩:=c; exact ⟨a3,l,b _ _ _ m⟩)
         | exact h.mono λv w' c=>d _ _ c
     · exact .inr ⟨i,a2,j,b _ _ _ k⟩
   · rename_i f
     rw [av f] at h;exact d _ _ h
def qG (Q:Exit->Act->World->Prop) (n:Nat) (ds:List Deferred) (l:List (Nat×Value)) (W:World->Prop) (dx:Nat) (x:Value):Exit->Act->World->Prop:=
 Exit.then (λa w=>(Ag n ds l a/\a.tmps.getD dx undef=x)/\W w) Q
def Gt (m:Nat) (c:lk c9 ae=some aW) (d:c9.drop m=l) (e:o2 (c9.take m) l=true):WL P ops (qG Q n ds l W ae aW) n ds c9 W []:=
 λa w b f=>⟨⟨b.z_ m d e,b.bl _ _ c⟩,f⟩
def Ag.known (h:Ag n ds l hd)   (hv:lk l ae=some aW):Ag n ds ((ae,aW)::l) hd:=
 ⟨h.size,h.defs,λt u a=>by
   simp only [lk] at a
   cases b:Nat.beq ae t with
   | true=>
     rw [b] at a;have:=i5 b;subst this;simp at a; subst a;exact h.bl _ _ hv
   | false=>rw [b] at a; exact h.bl t u a⟩
def Ag.Aa (h:Ag n ds ((ae,aW)::l) hd) (hv:lk l ae=some aW):Ag n ds l hd:=
 ⟨h.size,h.defs,λt u a=>by
   refine h.bl t u ?_;simp only [lk]
   cases b:Nat.beq ae t with
   | true=>
     have:=i5 b;subst this;rw [hv] at a
     simpa using a
   | false=>exact a⟩
variable {aB cp:Nat} {a_ bM lq:Operand} {e8:String} {ft:Array Edge} {aM:Option (Nat×Bool)}
def WL.x_ (m:Nat)   (a:Bool) {c x:Bool}      
   (y:bC[m]? = some ⟨some aB,.pick a_ bM lq,aU,e8,ft,aM⟩) (z:a_ = .tmp ae) (i:lk l ae=some (.bool c)) (A:qF n (bC.take m)=true)
   (B:dI ops l aM) (C:Nat.blt aB n=true)
   (d:(bM,lq)=(bif a then (Operand.tmp cp,Operand.const (.bool false)) else (Operand.const (.bool true),Operand.tmp cp)))
   (D:lT ops ((ae,.bool (!a))::l) (bC.take m)=some c9) (E:c9.drop m=(ae,.bool (!a))::l) (F:o2 (c9.take m) ((ae,.bool (!a))::l)=true)
   (G:c=a->WL P ops (qG Q n ds ((ae,.bool a)::l) W cp (.bool x)) n ds ((ae,.bool a)::l) W (bC.take m))
   (h:WL P ops Q n ds ((aB,.bool (bif a then c&&x else c||x))::l) W (bC.drop (m+1))):WL P ops Q n ds l W bC:=by
 intro p w q s
 have H:bC=bC.take m++⟨some aB,.pick a_ bM lq,aU,e8,ft,aM⟩::bC.drop (m+1):=by
   obtain ⟨I,J⟩:=cS.1 y;rw [<-J,xm I,pR]
 rw [H];subst z
 have t:∀(b:Act) (w':World) (r:Bool),Ag n ds l b->W w'->(if c then b.eval bM else b.eval lq) = .bool r->r=(bif a then c&&x else c||x)->
     wpList P ops Q (⟨some aB,.pick (.tmp ae) bM lq,aU,e8,ft,aM⟩::bC.drop (m+1)) b w':=by
   intro b w' r f j hv K;refine wpList_step λR L=>?_;rw [a8 (dI.wanted (o:=⟨some aB,.pick (.tmp ae) bM lq,aU,e8,ft,aM⟩) B f)]
   have M:(execOp b.eval ⟨some aB,.pick (.tmp ae) bM lq,aU,e8,ft,aM⟩).run P w' = .ok (.value (.bool r)) w':=by
     have N:b.eval (.tmp ae) = .bool c:=f.bl ae _ i;simp only [execOp,N,asBool,Sem.run_bind,Sem.run_pure,Result.andThen_ok,hv]
   simp only [Oper.wp,M,Oper.upon_value];exact L _ _ (h _ _ (by rw [<-K]; exact f.put C _) j)
 by_cases g:c=a
 · refine Oc _ _ (Od (Q:=qG Q n ds ((ae,.bool a)::l) W cp (.bool x)) (λe b w' u=>?_) _ _ (G g p w (q.known (by rw [<-g]; exact i)) s))
   cases e with
   | normal=>
     obtain ⟨⟨f,v⟩,j⟩:=u;refine t b w' x (f.Aa (by rw [<-g]; exact i)) j ?_ ?_
     · subst g
       cases c
       · simp at d; obtain ⟨rfl,rfl⟩:=d; exact v
       · simp at d; obtain ⟨rfl,rfl⟩:=d; exact v
     · subst g; cases c<;>rfl
   | _=>exact u
 · have k:c = !a:=by cases c<;>cases a<;>first | rfl | exact absurd rfl g
   refine WL.C_ D A (λb w' f j=>?_) p w (q.known (by rw [<-k]; exact i)) s;have O:Ag n ds l b:=(f.z_ m E F).Aa (by rw [<-k]; exact i);refine t b w' c O j ?_ ?_
   · subst k
     cases a
     · simp at d; obtain ⟨rfl,rfl⟩:=d; rfl
     · simp at d; obtain ⟨rfl,rfl⟩:=d; rfl
   · subst k; cases a<;>rfl
def La (m:Nat)   {c x:Bool}      
   (a:bC[m]? = some ⟨some aB,.pick a_ bM lq,aU,e8,ft,aM⟩) (b:a_ = .tmp ae) (d:lk l ae=some (.bool c)) (e:qF n (bC.take m)=true)
   (f:dI ops l aM) (g:Nat.blt aB n=true) (i:(bM,lq)=(Operand.tmp cp,Operand.const (.bool false)))
   (j:lT ops ((ae,.bool false)::l) (bC.take m)=some c9) (k:c9.drop m=(ae,.bool false)::l) (o:o2 (c9.take m) ((ae,.bool false)::l)=true)
   (p:c=true->WL P ops (qG Q n ds ((ae,.bool true)::l) W cp (.bool x)) n ds ((ae,.bool true)::l) W (bC.take m))
   (h:WL P ops Q n ds ((aB,.bool (c&&x))::l) W (bC.drop (m+1))):WL P ops Q n ds l W bC:=
 WL.x_ m true a b d e f g i j k o p h
def Lo (m:Nat)   {c x:Bool}      
   (a:bC[m]? = some ⟨some aB,.pick a_ bM lq,aU,e8,ft,aM⟩) (b:a_ = .tmp ae) (d:lk l ae=some (.bool c)) (e:qF n (bC.take m)=true)
   (f:dI ops l aM) (g:Nat.blt aB n=true) (i:(bM,lq)=(Operand.const (.bool true),Operand.tmp cp))
   (j:lT ops ((ae,.bool true)::l) (bC.take m)=some c9) (k:c9.drop m=(ae,.bool true)::l) (o:o2 (c9.take m) ((ae,.bool true)::l)=true)
   (p:c=false->WL P ops (qG Q n ds ((ae,.bool false)::l) W cp (.bool x)) n ds ((ae,.bool false)::l) W (bC.take m))
   (h:WL P ops Q n ds ((aB,.bool (c||x))::l) W (bC.drop (m+1))):WL P ops Q n ds l W bC:=
 WL.x_ m false a b d e f g i j k o p h
end
section
variable {P:Program} {ops:Array Oper} {Q:Exit->Act->World->Prop} {n:Nat} {ds:List Deferred} {l l':List (Nat×Value)} {W:World->Prop} {w0:World} {F:List Nat} {L:List ah} {Vs:List View}
 {rest:List Oper} {d:Nat} {ty:TypeId} {pos:String} {af:Array Edge} {g:Option (Nat×Bool)}
variable {fd:Code}
def Da {ι:Type}  (a:ι->List (Nat×Value)) (b:List (Nat×Value)) (Wi:ι->World->Prop) (R:ι->Prop) (d:ι->Nat) (c:ι) (e:R c) (f:∀p ∈ a c++b,lk l p.1=some p.2) (g:∀w,W w->Wi c w)
   (h:∀i,R i->WC P fd (Exit.then (λk w'=>∃j,d j<d i/\R j/\Ag n ds (a j++b) k/\Wi j w') Q) n ds (a i++b) (Wi i)):WC P (.loop fd) Q n ds l W:=
 WC.loop (λi=>a i++b) Wi R d c e f g h
def e0 {ι:Type} {c:Code} (a:ι->List (Nat×Value)) (b:List (Nat×Value)) (Wi:ι->World->Prop) (R:ι->Prop) (e:ι->Nat) (d:ι) (f:R d) (g:∀w,W w->Wi d w) (h:∀i,R i->WC P c (Exit.then (λk w'=>∃j,e j<e i/\R j/\Ag n ds (a j++b) k/\Wi j w') Q) n ds (a i++b) (Wi i)) (m:vT l (a d++b)=vU (a d++b):=by rfl):WC P (.loop c) Q n ds l W:=Da a b Wi R e d f (x3 m) g h
def CW {ι:Type}  (a:ι->List (Nat×Value)) (b:List (Nat×Value)) (R:ι->Prop) (c:ι->Nat) (d:ι) (e:R d) (f:∀p ∈ a d++b,lk l p.1=some p.2)
   (g:∀i,R i->WC P fd (Exit.then (λh w'=>∃j,c j<c i/\R j/\Ag n ds (a j++b) h/\W w') Q) n ds (a i++b) W):WC P (.loop fd) Q n ds l W:=
 WC.loop (λi=>a i++b) (λ_=>W) R c d e f ag g
def fT {ι:Type} {c:Code} (a:ι->List (Nat×Value)) (b:List (Nat×Value)) (R:ι->Prop) (e:ι->Nat) (d:ι) (f:R d) (g:∀i,R i->WC P c (Exit.then (λh w'=>∃j,e j<e i/\R j/\Ag n ds (a j++b) h/\W w') Q) n ds (a i++b) W) (k:vT l (a d++b)=vU (a d++b):=by rfl):WC P (.loop c) Q n ds l W:=CW a b R e d f (x3 k) g
variable {a_ bM:Operand}
def WL.make {t e:TypeId}  {f i:IntKind} {c a:Int}  {size j:Nat} (o:dI ops l g) (p:Nat.blt d n=true) (k:hc P t e aW size j)
   (q:bu l a_=some (.int f c)) (r:bu l bM=some (.int i a)) (s:0<=c) (u:c<=a) (v:(j:Int)*a<=281474976710656) (x:a<=9223372036854775807)
   (h:∀b,WL P ops Q n ds ((d,.slice (some ⟨b,0,none⟩) c.toNat a.toNat)::l) (Ws w0 F (aE b (.cells (madeCells aW.cells (a.toNat*size)) e (0,0))::L) Vs) rest) :
   WL P ops Q n ds l (Ws w0 F L Vs) (⟨some d,.makeSlice t a_ bM,ty,pos,af,g⟩::rest):=by
 obtain ⟨y,hi,z,A,B⟩:=k.info;refine WL.new (mk:=λb=>.slice (some ⟨b,0,none⟩) c.toNat a.toNat) o p (λC w m D=>?_) h;have:=run_make (P:=P) w t e y aW k.under hi z f i c a s u (by rw [B]; exact v) x;rw [A] at this;simp [execOp,m a_ _ q,m bM _ r,this]
def Hg (v:Value) (hv:v.cells = #[v]) (k:Nat):madeCells v.cells (k*1)=(List.replicate k v).toArray:=by
 rw [hv];apply t';simp only [madeCells,zL];apply pS;intro j
 rcases lm j k with h | h
 · simp [h,Nat.mod_one]
 · simp [h]
def WL.qH {t:TypeId}  {b o k:Nat} {a:Obj}  (i:Nat) (c:Obj) (d:dI ops l g) (e:bu l a_=some (.pointer (some ⟨b,o,none⟩))) (f:bu l bM=some aW) (hL:L[i]? = some (aE b a))
   (j:dV P t=some k) (m:(dO aW).length=k) (p:(dO aW).all (·.oneCell')=true) (q:mU a o k=true) (r:jq a o (dO aW)=c)
   (h:WL P ops Q n ds l (Ws w0 F (L.set i (aE b c)) Vs) rest) :
   WL P ops Q n ds l (Ws w0 F L Vs) (⟨none,.store t a_ bM,ty,pos,af,g⟩::rest):=aT i d e f hL j m p q (by rw [r]; exact h)
end
section
variable {P:Program} {l:List (Nat×Value)} {W:World->Prop} {w0:World} {F:List Nat} {L:List ah} {Vs:List View}
 {d:Option Tmp} {ty:TypeId} {pos:String} {af:Array Edge} {g:Option (Nat×Bool)}
def Hh {t:TypeId} {x y:Operand} {a:Option Addr} {m c s:Nat} {k:IntKind} {h:Int} (b:ga P t=some s) (j:bu l x=some (.slice a m c)) (A:∀p,a=some p->p.spot=none) (n:bu l y=some (.int k h)) (o:0<=h) (q:h<=c) :
   Yl P l W ⟨d,.slice t x none (some y) none,ty,pos,af,g⟩ (.slice a h.toNat c):=by
 intro B w i _;unfold ga at b
 cases f:P.underlying t with
 | none=>simp [f] at b
 | some r=>
   cases r<;>simp [f] at b
   rename_i e;obtain ⟨u,hi,rfl⟩:=b
   have v:(if c=0 then a else a.map (·.add (0*u.size)))=a:=by
     split
     · rfl
     · cases a with
       | none=>rfl
       | some p=>simp [Addr.add]
   have z:h<=(c:Int):=q;simp [execOp,i x _ j,i y _ n,Instr.sliceAt,Instr.slice,Instr.sliceBounds,Instr.sliceBound,asIntOf,run_underlying f,sizeOf,typeInfo,hi,o,z]
   simpa using v
end
def cw (H:View) (b o:Nat) (cs:List Value):Prop:=∀j v,cs[j]? = some v->vc H b (o+j)=some v
variable {aB:Nat} {ci:List Value}
def cw.mono (h:bK bc b_)   (r:cw bc ae aB ci):cw b_ ae aB ci:=λj v hv=>h.cell (r j v hv)
structure Sl {α:Type} (rd:View->Nat->Nat->α->Prop) (k:Nat) (H:View) (a:Option Addr) (c:Nat) (l:List α):Prop where
 cap:l.length<=c
 max:c<=9223372036854775807
 spot:∀p,a=some p->0<c->p.spot=none
 aq:∀i x,l[i]? = some x->∃b o,a=some ⟨b,o,none⟩/\rd H b (o+i*k) x
variable {cj:Option Addr}
def Sl.mono {rd:View->Nat->Nat->a9->Prop}     {l:List a9} (a:∀b o x,rd bc b o x->rd b_ b o x) (h:Sl rd ae bc cj aB l):Sl rd ae b_ cj aB l:=
 ⟨h.cap,h.max,h.spot,λi x c=>let ⟨b,o,d,e⟩:=h.aq i x c; ⟨b,o,d,a _ _ _ e⟩⟩
def Sl.nil {rd:View->Nat->Nat->a9->Prop}  :Sl rd ae bc none 0 ([]:List a9):=⟨eH _,bf,au,au⟩
section
variable {P:Program} {l:List (Nat×Value)} {W:World->Prop} {d:Option Tmp} {ty:TypeId} {pos:String} {af:Array Edge} {g:Option (Nat×Bool)}
variable {a_ bM:Operand} {cp kX rR:Nat} {aG:IntKind}
def Yo {i:Nat} (a:ga P aU=some rR) (b:bu l a_=some (.slice cj cp kX)) (c:bu l bM=some (.int aG (i:Int))) (e:cj=some ⟨ae,aB,none⟩) (f:i<cp) :
   Yl P l W ⟨d,.indexAddr aU a_ bM,ty,pos,af,g⟩ (.pointer (some ⟨ae,aB+i*rR,none⟩)):=by subst e; exact gb a b c f
def ya {i:Int} (a:ga P aU=some rR) (b:bu l a_=some (.slice cj cp kX)) (c:bu l bM=some (.int aG i)) (e:cj=some ⟨ae,aB,none⟩) (f:0<=i) (h:i<cp) :
   Yl P l W ⟨d,.indexAddr aU a_ bM,ty,pos,af,g⟩ (.pointer (some ⟨ae,aB+i.toNat*rR,none⟩)):=by subst e; exact x6 a b c f h
end
section
variable {P:Program} {md:Region.Mode} {ops:Array Oper} {C:World->Prop} {Q:Exit->Act->World->Prop}
def YV (P:Program) (ops:Array Oper) (C:World->Prop) (o:Oper) (v:Value) (a:Act):Prop:=
 (Region.wanted o (yielded ops a.tmps)=true/\∀w,C w->(execOp a.eval o).run P w = .ok (.value v) w)\/
 (Region.wanted o (yielded ops a.tmps)=false/\v=undef)
variable {aC:Oper}
def YV.of_same {a b:Act} (c:YV P ops C aC aW a) (d:execOp b.eval aC=execOp a.eval aC)
   (e:Region.wanted aC (yielded ops b.tmps)=Region.wanted aC (yielded ops a.tmps)):YV P ops C aC aW b:=by
 unfold YV at *;rw [d,e];exact c
variable {hd:Act} {sQ:Act->World->Prop}
def YV.wpOp (hi:ops[ae]? = some aC) (b:YV P ops C aC aW hd) (hC:C bF)  (h:sQ (hd.put aC.dst aW) bF):wpOp P ops Q ae sQ hd bF:=by
 unfold Go.wpOp;simp only [hi]
 rcases b with ⟨a,hv⟩ | ⟨a,rfl⟩
 · simp only [a,cv]
   refine .inl ?_;simp only [Oper.wp,hv bF hC,Oper.upon_value];exact h
 · simp only [a,aw,cn]; exact h
def pW (P:Program) (md:Region.Mode) (ops:Array Oper) (C:World->Prop) (Q:Exit->Act->World->Prop):Nat->Array Bool->Act->World->Prop
 | 0,listed,a,w=>C w/\Region.ready md ops listed=[]/\Q .normal a w
 | fuel+1,listed,a,w=>C w/\(Region.ready md ops listed=[]->Q .normal a w)/\
   ∀i ∈ Region.ready md ops listed,wpOp P ops Q i (pW P md ops C Q fuel (listed.setIfInBounds i true)) a w
def Ab:∀(fuel:Nat) (b:Array Bool) (a:Act) (w:World),pW P md ops C Q fuel b a w->wpAny P md ops Q fuel b a w
 | 0,_,_,_,h=>h.2
 | fuel+1,b,a,w,h=>⟨h.2.1,λi hi=>wpOp_mono (λc w' d=>Ab fuel _ c w' d) (h.2.2 i hi)⟩
def pW.c {a:Array Bool}   (h:pW P md ops C Q ae a hd bF):C bF:=by cases ae<;>exact h.1
def Hi {g i:Oper}  (y:ops[ae]? = some i) (z:g.apart ops i=true)
   (A:∀cs b,g.op≠.select cs b) (p:∀cs b,i.op≠.select cs b)
   (q:∀c a w,Q (.panic c) (a.put g.dst aW) w->Q (.panic c) a w)  {a:Act} {w:World}
   (j:YV P ops C g aW a) (h:wpOp P ops Q ae sQ (a.put g.dst aW) w) :
   wpOp P ops Q ae (λs w'=>YV P ops C g aW s/\sQ (s.put g.dst aW) w') a w:=by
 obtain ⟨m,k,t⟩:=Oper.apart_spec z
 have df:∀(a:Act),YV P ops C g aW a->∀u,YV P ops C g aW (a.put i.dst u):=λa j u=>
   j.of_same (execOp_put g A a i.dst u t) (wanted_put g a i.dst u t)
 have B:∀d,YV P ops C g aW { a with defers:=d::a.defers }:=λd=>j.of_same rfl rfl;unfold wpOp at *;simp only [y] at *;rw [wanted_put i a g.dst aW m] at h
 split
 · rename_i o
   simp only [o,cv] at h
   rcases h with h | ⟨v,D⟩
   case inr=>exact .inr ⟨by unfold Oper.asks at *; rw [execOp_put i p a g.dst aW m] at v; exact v,D⟩
   refine .inl ?_;unfold Oper.wp at *;rw [execOp_put i p a g.dst aW m] at h
   generalize (execOp a.eval i).run P w=r at *
   cases r with
   | ok n w'=>
     cases n<;>simp only [Oper.upon] at h ⊢
     case value u=>exact ⟨df a j u,by rw [<-Act.put_comm a aW u k]; exact h⟩
     case skip=>exact ⟨df a j _,by rw [<-Act.put_comm a aW undef k]; exact h⟩
     case defer d=>
       refine ⟨df _ (B d) _,?_⟩;rw [<-Act.put_comm _ aW undef k,<-Act.put_defers];exact h
     case enter f args=>
       refine Calls.mono h λe E l=>?_
       cases e with
       | returned u=>exact ⟨df a j u,by rw [<-Act.put_comm a aW u k]; exact l⟩
       | panicked c=>exact q _ _ _ l
       | outgrown=>exact l
     case row row args=>exact Rows.mono h λu E l=>⟨df a j u,by rw [<-Act.put_comm a aW u k]; exact l⟩
   | halt x w'=>
     cases x<;>simp only [Oper.upon] at h ⊢
     case panic u=>exact q _ _ _ h
 · rename_i o
   simp only [o] at h;exact ⟨df a j _,by rw [<-Act.put_comm a aW undef k]; exact h⟩
def Db (hi:ops[ae]? = some aC) (s:∀(j:Nat) (o:Oper) cs b,ops[j]? = some o->o.op≠.select cs b)
   (z:∀c a w,Q (.panic c) (a.put aC.dst aW) w->Q (.panic c) a w) :
   ∀(fuel:Nat) (d:Array Bool) (a:Act) (w:World),
     (∀j g,ops[j]? = some g->j≠ae->d.getD j true=false->(∀e ∈ g.after,Region.binds md e=true->e.on≠ae)->aC.apart ops g=true)->
     ae ∈ Region.ready md ops d->YV P ops C aC aW a->C w->
     pW P md ops C Q fuel (d.setIfInBounds ae true) (a.put aC.dst aW) w->pW P md ops C Q (fuel+1) d a w:=by
 intro fuel
 induction fuel with
 | zero=>
   intro d a w _ i m hC H;refine ⟨hC,λh=>(by rw [h] at i; cases i),λj n=>?_⟩
   by_cases f:j=ae
   · subst f; exact m.wpOp hi hC H
   · have:=ready_mono n f
     rw [H.2.1] at this;cases this
 | succ fuel A=>
   intro d a w t i m hC H;refine ⟨hC,λh=>(by rw [h] at i; cases i),λj n=>?_⟩
   by_cases f:j=ae
   · subst f; exact m.wpOp hi hC H
   · have l:=H.2.2 j (ready_mono n f)
     obtain ⟨u,g,p,B⟩:=mem_ready.1 n
     have D:∀e ∈ g.after,Region.binds md e=true->e.on≠ae:=λe E F G=>by
       have l:=B e E F;have v:=(mem_ready.1 i).1;rw [G] at l
       rcases lm ae d.size with q | q
       · simp [q] at v l; rw [v] at l; cases l
       · simp [vL q] at l
     have I:=Hi p (t j g p f u D) (λcs b=>s ae aC cs b hi) (λcs b=>s j g cs b p) z m l
     have J:∀k ok,ops[k]? = some ok->k≠ae->(d.setIfInBounds j true).getD k true=false->
         (∀e ∈ ok.after,Region.binds md e=true->e.on≠ae)->aC.apart ops ok=true:=λk ok K L x M=>by
       refine t k ok K L ?_ M
       by_cases y:j=k
       · subst y; exact u
       · rw [getD_set_ne true y] at x; exact x
     refine wpOp_mono (λN w' r=>A (d.setIfInBounds j true) N w' J (ready_mono i (xW f)) r.1 r.2.c ?_) I;rw [CB _ _ f];exact r.2
def nq (md:Region.Mode) (ops:Array Oper):List (Nat×Bool)->Array Bool->Bool
 | [],listed=>(Region.ready md ops listed).isEmpty
 | (i,q)::r,listed=>(bif q then (Region.ready md ops listed).contains i&&Region.free md ops listed i else Region.ready md ops listed==[i])&&nq md ops r (listed.setIfInBounds i true)
def nr (P:Program) (ops:Array Oper) (C:World->Prop) (Q:Exit->Act->World->Prop):List (Nat×Bool)->Act->World->Prop
 | [],a,w=>C w/\Q .normal a w
 | (i,true)::r,a,w=>C w/\∃o v,ops[i]? = some o/\YV P ops C o v a/\nr P ops C Q r (a.put o.dst v) w
 | (i,false)::r,a,w=>C w/\wpOp P ops Q i (nr P ops C Q r) a w
def Dc (f:Region.noSelect ops=true) (g:∀c a w d v,Q (.panic c) (a.put d v) w->Q (.panic c) a w):∀(ord:List (Nat×Bool)) (e:Array Bool) (a:Act) (w:World),
   nq md ops ord e=true->nr P ops C Q ord a w->pW P md ops C Q ord.length e a w
 | [],e,a,w,b,h=>⟨h.1,by simpa [nq] using b,h.2⟩
 | (i,true)::r,e,a,w,b,h=>by
   simp only [nq,qC,ew] at b;obtain ⟨hC,o,v,l,m,h⟩:=h
   exact Db l (Region.noSelect_spec f) (λc a w=>g c a w o.dst v) r.length e a w (Region.free_spec l b.1.2) (by simpa using b.1.1) m hC
     (Dc f g r _ _ _ b.2 h)
 | (i,false)::r,e,a,w,b,h=>by
   simp only [nq,x2,ew,kW] at b;refine ⟨h.1,λn=>(by rw [n] at b; cases b.1),λj k=>?_⟩;rw [b.1] at k;simp at k;subst k;exact wpOp_mono (λq w' p=>Dc f g r _ _ _ b.2 p) h.2
variable {bC:List Oper}
def Oe {a:Act} {w:World}  (ord:List (Nat×Bool)) (e:P.follows .mixedOrders=true) (b:(Region.noSelect bC.toArray&&(ord.length==bC.toArray.size&&nq .any bC.toArray ord (Array.replicate bC.toArray.size false)))=true)
   (f:∀c a w d v,Q (.panic c) (a.put d v) w->Q (.panic c) a w) (h:nr P bC.toArray C Q ord a w.drew):(Code.region ae bC.toArray true).wp P Q a w:=by
 simp only [ew,kW] at b;have:=Ab (md:=.any) _ _ _ _ (Dc b.1 f ord _ a w.drew b.2.2 h);rw [b.2.1] at this;exact wp_region_any e this
variable {n:Nat} {ds:List Deferred} {l:List (Nat×Value)} {W:World->Prop}
def WD (P:Program) (ops:Array Oper) (C:World->Prop) (Q:Exit->Act->World->Prop) (n:Nat) (ds:List Deferred) (l:List (Nat×Value)) (W:World->Prop) (ord:List (Nat×Bool)):Prop:=
 ∀a w,Ag n ds l a->W w->nr P ops C Q ord a w
def WC.Hj (C:World->Prop) (ord:List (Nat×Bool)) (b:P.follows .mixedOrders=true) (e:(Region.noSelect bC.toArray&&(ord.length==bC.toArray.size&&nq .any bC.toArray ord (Array.replicate bC.toArray.size false)))=true)
   (f:∀c a w d v,Q (.panic c) (a.put d v) w->Q (.panic c) a w) (g:∀w,W w->W w.drew) (h:WD P bC.toArray C Q n ds l W ord):WC P (.region ae bC.toArray true) Q n ds l W:=
 λa w i j=>Oe ord b e f (h a w.drew i (g w j))
variable {g4:List (Nat×Bool)} {jM:Op} {e8:String} {ft:Array Edge}
def Dq {g:Option (Nat×Bool)}  (hi:ops[ae]? = some ⟨some aB,jM,aU,e8,ft,g⟩) (d:dI ops l g) (e:Nat.blt aB n=true)
   (hC:∀w,W w->C w) (f:Yl P l C ⟨some aB,jM,aU,e8,ft,g⟩ aW) (h:WD P ops C Q n ds ((aB,aW)::l) W g4):WD P ops C Q n ds l W ((ae,true)::g4):=by
 intro a w b c;refine ⟨hC w c,_,aW,hi,.inl ⟨dI.wanted (o:=⟨some aB,jM,aU,e8,ft,g⟩) d b,λw' i=>f a.eval w' (λx u j=>b.eval j) i⟩,h _ _ (b.put e aW) c⟩
def D0 (hi:ops[ae]? = some ⟨some aB,jM,aU,e8,ft,none⟩) (hC:∀w,W w->C w) (a:Yl P l C ⟨some aB,jM,aU,e8,ft,none⟩ aW) (h:WD P ops C Q n ds ((aB,aW)::l) W g4) (b:Nat.blt aB n=true:=by rfl):WD P ops C Q n ds l W ((ae,true)::g4):=Dq hi (.inl rfl) b hC a h
def De (hi:ops[ae]? = some aC) (hC:∀w,W w->C w) (h:WL P ops (Exit.then (nr P ops C Q g4) Q) n ds l W [aC]):WD P ops C Q n ds l W ((ae,false)::g4):=by
 intro a w f d;refine ⟨hC w d,?_⟩;have:=h a w f d;unfold wpList at this;unfold wpOp;simp only [hi]
 split
 · rename_i c
   rw [a8 c] at this
   rcases this with this | ⟨g,a2,i,j⟩
   · left
     unfold Oper.wp at this ⊢;unfold Oper.upon at this ⊢
     split at this
     all_goals first
       | exact this
       | (refine this.mono λe w' b=>?_
          cases e with
          | returned v=>exact b
          | panicked o=>exact b
          | outgrown=>obtain ⟨a3,k,m⟩:=b; exact ⟨a3,k,m⟩)
       | exact this.mono λv w' b=>b
   · exact .inr ⟨g,a2,i,j⟩
 · rename_i c
   rw [av c] at this;exact this
def Ed (h:WD P ops C Q n ds l W g4):WE (Exit.then (nr P ops C Q g4) Q) .normal n ds l W:=h
def WD.nil (hC:∀w,W w->C w) (h:WE Q .normal n ds l W):WD P ops C Q n ds l W []:=λa w c b=>⟨hC w b,h a w c b⟩
def Ws.drew (h:Ws bF aA cL dj dJ):Ws bF aA cL dj dJ.drew:=h.ext (Ext.drew dJ)
def Ws.out (i:Nat) (h:Ws bF aA cL dj dJ):Ws bF aA (eQ i cL) dj dJ:=by
 cases a:cL[i]? with
 | none=>
   have:eQ i cL=cL:=by
     clear h
     induction cL generalizing i with
     | nil=>cases i<;>rfl
     | cons x r b=>
       cases i with
       | zero=>simp at a
       | succ i=>simp only [eQ]; rw [b i (by simpa using a)]
   rw [this]; exact h
 | some x=>exact Ws.drop (L:=[x]) (h.perm (lp i cL a))
end
section
variable {P:Program} {ops:Array Oper} {Q:Exit->Act->World->Prop} {n:Nat} {ds:List Deferred} {l l':List (Nat×Value)} {W:World->Prop} {w0:World} {F:List Nat} {L:List ah} {Vs:List View}
 {rest:List Oper} {d:Nat} {ty:TypeId} {pos:String} {af:Array Edge} {g:Option (Nat×Bool)}
def sW (a:Value) (k:Nat):List Value:=(List.range k).map λi=>((dO a)[i % (dO a).length]?).getD undef
def Of (a:Value) (k:Nat) (b:0<a.cells.size):((Array.range k).map (a.cells[· % a.cells.size]!):Array Value).toList=sW a k:=by
 simp only [Array.toList_map,Array.toList_range,sW];apply zM;intro i _;have c:i % a.cells.size<a.cells.size:=p_ _ b
 have e:(dO a).length=a.cells.size:=by rw [<-sV]; simp
 rw [e,<-sV];simp [c]
def WL.qI {t e:TypeId} {len size p:Nat} {parts:List (Nat×Operand)}  {vs:List (Nat×Value)} {out:List Value} (q:dI ops l g) (r:Nat.blt d n=true) (a:hc P t e aW size p)
   (hv:rT l parts=some vs) (s:Nat.ble (len*size) 16777216=true) (j:qE (λi=>some (i*size,size)) (bif Nat.beq (len*size) 0 then [] else sW aW (len*size)) vs=some out)
   (h:∀b,WL P ops Q n ds ((d,.slice (some ⟨b,0,none⟩) len len)::l) (Ws w0 F (aE b (.cells out.toArray e (0,0))::L) Vs) rest) :
   WL P ops Q n ds l (Ws w0 F L Vs) (⟨some d,.buildSlice t len parts.toArray,ty,pos,af,g⟩::rest):=by
 obtain ⟨C,hi,u,v,D⟩:=a.info;have E:=pP s;refine WL.new (mk:=λb=>.slice (some ⟨b,0,none⟩) len len) q r (λy w z G=>?_) h
 have k:((parts.toArray.map λ (i,x)=>(i,y x)):Array (Nat×Value)).toList=vs:=by simpa using z7 z parts vs hv
 have A:zeroOf P e=some aW:=by simp [zeroOf,hi,u]
 have m:dV P e=some size:=by simp [dV,hi,v]
 have o:¬len*size > 2 ^ 24:=Z
 by_cases c:len*size=0
 · have f:Instr.fill (λi=>some (i*size,size)) #[] vs=some out.toArray:=by
     refine x7 _ vs #[] out ?_
     simpa [c] using j
   simp only [execOp,Instr.buildSlice,Sem.run_bind,run_underlying a.under,Result.andThen_ok,z5 m,av o,Sem.run_pure,a8 c,k];simp [c,f,newRow,Array.range_zero']
 · have f:Instr.fill (λi=>some (i*size,size)) ((Array.range (len*size)).map (aW.cells[· % aW.cells.size]!)) vs=some out.toArray:=by
     refine x7 _ vs _ out ?_;rw [Of aW _ (by rw [a.zs]; exact a.pos)]
     have:Nat.beq (len*size) 0=false:=by
       cases B:Nat.beq (len*size) 0 with
       | false=>rfl
       | true=>exact absurd (i5 B) c
     simpa [this] using j
   simp only [execOp,Instr.buildSlice,Sem.run_bind,run_underlying a.under,Result.andThen_ok,z5 m,av o,Sem.run_pure,av c,k,uk A,f];simp [newRow]
variable {du:FuncId} {a_:Operand} {b0:Array Value} {aR:Array Operand}
def Og {a:Operand->Value} {dst:Option Tmp}     {ts:Array TypeId}  {w:World} (c:Enters P du) (b:∀x u,bu l x=some u->a x=u)
   (d:bu l a_=some (.func (.func du) #[] b0)) (f:g2 l aR.toList=some ci) :
   (execOp a ⟨dst,.call ⟨.value a_,aR,ts⟩,ty,pos,af,g⟩).run P w = .ok (.enter du (ci.toArray++b0)) w:=by
 have e:aR.map a=ci.toArray:=by
   apply t'
   simpa using z8 b _ _ f
 simp only [execOp,resolve,e,b a_ _ d,Deferred.ofValue,Sem.run_bind,Sem.run_pure,Result.andThen_ok,invoke]
 simpa using c _ w
def WL.n9 {ts:Array TypeId}   (f:dI ops l g) (i:Nat.blt d n=true) (j:Enters P du) (k:bu l a_=some (.func (.func du) #[] b0)) (m:g2 l aR.toList=some ci)
   (hC:∀w,Ws w0 F L Vs w->Calls P du (ci.toArray++b0) w λe w'=>e = .returned aW/\Ext w w')
   (o:WL P ops Q n ds ((d,aW)::l) (Ws w0 F L Vs) rest) :
   WL P ops Q n ds l (Ws w0 F L Vs) (⟨some d,.call ⟨.value a_,aR,ts⟩,ty,pos,af,g⟩::rest):=by
 refine WL.step f λa w b c t p=>?_;have q:=Og (P:=P) (dst:=some d) (ts:=ts) (ty:=ty) (pos:=pos) (af:=af) (g:=g) (w:=w) j (λx u r=>b.eval r) k m;simp only [Oper.wp,q,Oper.upon_enter];refine (hC w c).mono λe w' s=>?_;obtain ⟨rfl,h⟩:=s;exact p _ _ (o _ _ (b.put i _) (c.ext h))
variable {eC:Func} {fI:Ending->World->Prop}
def WE.yb {a b o k:Nat}   (i:Nat) (g:eC.results = #[.cell a aU]) (m:lk l a=some (.pointer (some ⟨b,o,none⟩))) (hL:L[i]? = some (aE b aD)) (p:ig P aU=some k) (q:(cellsIn aD o k).length=k)
   (h:∀w,Ws w0 F L Vs w->fI (.returned (.agg (cellsIn aD o k).toArray)) w):WE (bodyPost P eC fI) .ret n [] l (Ws w0 F L Vs):=by
 intro t w d e
 have r:(loadVar aU ⟨b,o,none⟩).run P w = .ok (.agg (cellsIn aD o k).toArray) w:=z2 p q λj v c=>by
   have s:w.heap[b]? = some aD:=e.kn _ (dY hL);refine cell_of_heap s ?_
   cases aD<;>simp [cellsIn,gE] at *
   rw [i6] at c
   split at c
   · simpa using c
   · cases c
 refine bodyPost_ret (v:=.agg (cellsIn aD o k).toArray) ?_ d.defs (h w e);have f:=d.bl a _ m;rw [jm] at f;simp [results,g,f,asAddr,r]
def WE.mV {a b o k u:Nat}    (i:Nat) (m:eC.results = #[.cell a aU,.tmp u]) (p:lk l a=some (.pointer (some ⟨b,o,none⟩))) (q:lk l u=some aW) (hL:L[i]? = some (aE b aD)) (r:ig P aU=some k) (s:(cellsIn aD o k).length=k)
   (h:∀w,Ws w0 F L Vs w->fI (.returned (.tuple #[.agg (cellsIn aD o k).toArray,aW])) w):WE (bodyPost P eC fI) .ret n [] l (Ws w0 F L Vs):=by
 intro y w d e
 have t:(loadVar aU ⟨b,o,none⟩).run P w = .ok (.agg (cellsIn aD o k).toArray) w:=z2 r s λj v c=>by
   have x:w.heap[b]? = some aD:=e.kn _ (dY hL);refine cell_of_heap x ?_
   cases aD<;>simp [cellsIn,gE] at *
   rw [i6] at c
   split at c
   · simpa using c
   · cases c
 refine bodyPost_ret (v:=.tuple #[.agg (cellsIn aD o k).toArray,aW]) ?_ d.defs (h w e);have f:=d.bl a _ p;have g:=d.bl u _ q;rw [jm] at f g;simp [results,m,f,g,asAddr,t]
end
def Ws.yc (h:Ws bF [] cL dj dJ) (i:Nat)   (hL:cL[i]? = some (aE ae aD))   (b:gE aD aB=some aW) (c:sR aD=true:=by rfl):vc (nv bF dJ) ae aB=some aW:=by
 have d:dJ.heap[ae]? = some aD:=h.kn _ (dY hL);have a:=h.own _ (dY hL) ae (by simp [aE]);simp at a;unfold vc;rw [ui.2 ⟨a,d,c⟩];exact b
def Ws.Hk (h:Ws bF [] cL dj dJ) (i:Nat)     (hL:cL[i]? = some (cq aU ae aW aB ci)) :
   (aW = .slice none 0 0/\ci=[])\/∃b c,aW = .slice (some ⟨b,0,none⟩) aB c/\aB<=c/\c<=maxLen/\∀j u,ci[j]? = some u->vc (nv bF dJ) b j=some u:=by
 obtain ⟨e,f⟩:=(h.kn _ (dY hL):dJ.ownsRow 0 aU ae aW aB ci)
 rcases f with ⟨rfl,rfl⟩ | ⟨b,cap,cur,rfl,_,g,k,l,n,m⟩
 · exact .inl ⟨O,by cases ci; rfl; simp at e⟩
 · refine .inr ⟨b,cap,O,k,l,λj u a=>?_⟩
   have d:=h.own _ (dY hL) b (by simp [cq,Value.ownBlock]);simp at d;unfold vc;rw [ui.2 ⟨d,g,rfl⟩];rw [<-m,i6] at a
   split at a
   · simpa [gE] using a
   · cases a
def sX (f:a9->Value) (l:List a9) (T:TypeId) (k:Nat) (h:k<l.length):mU (.cells (l.map f).toArray T (0,0)) (0+k*1) 1=true:=by
 simp only [mU,vK,zN];exact xX (by simp; omega)
def sY (f:a9->Value) (l:List a9) (T:TypeId) (k:Nat) (x:a9) (h:k<l.length):jq (.cells (l.map f).toArray T (0,0)) (0+k*1) [f x] = .cells ((l.set k x).map f).toArray T (0,0):=by
 simp only [jq,gC,zL,pT,List.set_eq_take_append_cons_drop,a8 h];simp
def pX {f:a9->List Value}  (a:∀x,(f x).length=ae):∀l:List a9,(l.flatMap f).length=l.length*ae
 | []=>by simp
 | x::r=>by simp [a,pX a r,sK]; omega
def Ac {f:a9->List Value}  (a:∀x,(f x).length=ae):∀(l:List a9) (i:Nat) (x:a9),l[i]? = some x->
   l.flatMap f=(l.take i).flatMap f++f x++(l.drop (i+1)).flatMap f
 | [],i,x,h=>by simp at h
 | y::r,0,x,h=>by simp at h; simp [h]
 | y::r,i+1,x,h=>by
   have:=Ac a r i x (by simpa using h);simp only [i7,hD,List.drop_succ_cons];rw [this];simp
def kZ {f:a9->List Value}  (a:∀x,(f x).length=ae) {l:List a9}  {x:a9} (h:l[aB]? = some x) {j:Nat} (b:j<ae):(l.flatMap f)[aB*ae+j]? = (f x)[j]?:=by
 have hi:=(cS.1 h).1
 have c:((l.take aB).flatMap f).length=aB*ae:=by rw [pX a,mc,rJ Z]
 rw [Ac a l aB x h,n5,rK Z,c,xn,xY (by rw [a]; exact b)]
def Dd {f:a9->List Value}  (a:∀x,(f x).length=ae) {l:List a9}  {x y:a9} (h:l[aB]? = some x) {j:Nat} {vs:List Value} (p:j+vs.length<=ae) (d:f y=(f x).take j++vs++(f x).drop (j+vs.length)) :
   (l.flatMap f).take (aB*ae+j)++vs++(l.flatMap f).drop (aB*ae+j+vs.length)=(l.set aB y).flatMap f:=by
 have hi:=(cS.1 h).1
 have c:((l.take aB).flatMap f).length=aB*ae:=by rw [pX a,mc,rJ Z]
 have e:(l.set aB y)[aB]? = some y:=by simp [hi]
 rw [Ac a (l.set aB y) aB y e,Ac a l aB x h,d];have g:(l.set aB y).take aB=l.take aB:=List.take_set_of_le (eH aB);have i:(l.set aB y).drop (aB+1)=l.drop (aB+1):=List.drop_set_of_lt Z;rw [g,i]
 generalize q:(l.take aB).flatMap f=b at *
 generalize r:(l.drop (aB+1)).flatMap f=B at *
 have k:(b++f x++B).take (aB*ae+j)=b++(f x).take j:=by
   rw [n5,CD,c,nn Z,xn,List.take_append_of_le_length (by rw [a]; omega)]
 have m:(b++f x++B).drop (aB*ae+j+vs.length)=(f x).drop (j+vs.length)++B:=by
   rw [n5,qa,c,GR Z,zO,qa,a]
   have n:aB*ae+j+vs.length-aB*ae=j+vs.length:=Z
   rw [n]
   have o:j+vs.length-ae=0:=Z
   simp [o]
 rw [k,m];simp
section
variable {P:Program} {ops:Array Oper} {Q:Exit->Act->World->Prop} {n:Nat} {ds:List Deferred} {l l':List (Nat×Value)} {W:World->Prop} {w0:World} {F:List Nat} {L:List ah} {Vs:List View}
 {rest:List Oper} {d:Nat} {ty:TypeId} {pos:String} {af:Array Edge} {g:Option (Nat×Bool)}
def Ad {size m c b:Nat}  {w:World} (h:(cq aU size (.slice (some ⟨b,0,none⟩) m c) m ci).holds w):∃cur,w.heap[b]? = some (.cells cur aU (0,0))/\cur.toList.take (m*size)=ci/\cur.size=c*size/\m<=c/\ci.length=m*size:=by
 obtain ⟨e,d⟩:=(h:w.ownsRow 0 aU size _ m ci)
 rcases d with ⟨d,_⟩ | ⟨l,cap,cur,hv,_,f,g,n,i,j⟩
 · cases d
 · injection hv with a _ k
   injection a with a
   injection a with a
   subst a; subst k;exact ⟨cur,f,j,i,g,e⟩
def mW {x:Operand} {b o m c size:Nat} {e:TypeId}   {d:Option Tmp} (i:Nat) (f:bu l x=some (.pointer (some ⟨b,o,none⟩))) (hL:L[i]? = some (cq e size (.slice (some ⟨b,0,none⟩) m c) m ci)) (h:mS P aU=true) (a:ci[o]? = some aW) :
   Yl P l (Ws w0 F L Vs) ⟨d,.load aU x,ty,pos,af,g⟩ aW:=vX h f λw j=>by
 obtain ⟨cur,k,n,_⟩:=Ad (j.kn _ (dY hL));refine cell_of_heap k ?_;rw [<-n,i6] at a
 split at a
 · exact a
 · cases a
def WL.lU {t e:TypeId} {x y:Operand} {b o k m c size:Nat}   (i:Nat) (f:List Value) (B:dI ops l g) (C:bu l x=some (.pointer (some ⟨b,o,none⟩))) (D:bu l y=some aW) (hL:L[i]? = some (cq e size (.slice (some ⟨b,0,none⟩) m c) m ci))
   (s:dV P t=some k) (E:(dO aW).length=k) (G:(dO aW).all (·.oneCell')=true) (H:o+k<=ci.length) (u:ci.take o++dO aW++ci.drop (o+(dO aW).length)=f)
   (h:WL P ops Q n ds l (Ws w0 F (L.set i (cq e size (.slice (some ⟨b,0,none⟩) m c) m f)) Vs) rest) :
   WL P ops Q n ds l (Ws w0 F L Vs) (⟨none,.store t x y,ty,pos,af,g⟩::rest):=by
 refine WL.step B λa w p q W I=>?_;obtain ⟨cur,v,J,z,d,A⟩:=Ad (q.kn _ (dY hL))
 have X:ci.length<=cur.size:=by rw [A,z]; exact sJ _ d
 have K:mU (.cells cur e (0,0)) o k=true:=by
   simp only [mU,vK,zN];exact xX (by simp; omega)
 have M:(execOp a.eval ⟨none,.store t x y,ty,pos,af,g⟩).run P w = .ok .skip { w with heap:=w.heap.setIfInBounds b (jq (.cells cur e (0,0)) o (dO aW)) }:=by
   simp only [execOp,p.eval C,p.eval D,Instr.storeAt,Instr.sureAddr,Sem.run_bind,Sem.run_pure,Result.andThen_ok,z9 s E G v K]
 simp only [Oper.wp,M,Oper.upon_skip];refine I _ _ (h _ _ (p.uf undef) ?_);refine Ws.pV q i hL ⟨O,O,O,au,λj N R=>?_⟩ ?_ (by simp [cq,Value.ownBlock]) (by simp [cq,Value.ownBlock])
 · have:b≠j:=λe=>R (by simp [cq,Value.ownBlock,e])
   simp [qz this]
 · obtain ⟨_,r⟩:=(q.kn _ (dY hL):w.ownsRow 0 e size _ m ci)
   have S:c<=maxLen:=by
     rcases r with ⟨r,_⟩ | ⟨Y,cap,aa,hv,_,H,d,T,s,ab⟩
     · cases r
     · injection hv with _ _ U; rw [U]; exact T
   have V:f.length=ci.length:=by rw [<-u]; simp; omega
   refine ⟨by rw [V,A],.inr ⟨b,c,(cur.toList.take o++dO aW++cur.toList.drop (o+(dO aW).length)).toArray,O,cx _,?_,d,S,?_,?_⟩⟩
   · show (w.heap.setIfInBounds b _)[b]? = _
     simp [lt_of_heap v,jq]
   · simp; omega
   · have ac:o+(dO aW).length<=m*size:=Z
     rw [<-u,<-J];apply pS;intro j
     have ad:cur.toList.length=c*size:=by simpa using z
     have ae:m*size<=c*size:=sJ _ d;simp only [i6,List.getElem?_append,bT,mc,CF];rw [rJ (a:=m*size) Z,rJ (a:=o) (b:=cur.toList.length) Z,rJ (a:=o) (b:=m*size) Z]
     split
     · split
       · split
         · rfl
         · rfl
       · rw [a8 Z]
     · rename_i N
       rw [av Z,av Z]
def WL.Oh {f:FuncId} {args:Array Operand} {ts:Array TypeId}    {xs:List Value} (y:dI ops l g) (z:Nat.blt d n=true) (A:Enters P f) (B:g2 l args.toList=some ci)
   (hC:∀w,Ws w0 F L Vs w->Calls P f ci.toArray w λp w'=>∃v,p = .returned v/\Ext w w'/\w'.ownsRow w.heap.size aU ae v aB xs)
   (C:∀v,(v = .slice none 0 0/\aB=0\/∃b c,v = .slice (some ⟨b,0,none⟩) aB c/\aB<=c/\c<=maxLen)->WL P ops Q n ds ((d,v)::l) (Ws w0 F (cq aU ae v aB xs::L) Vs) rest) :
   WL P ops Q n ds l (Ws w0 F L Vs) (⟨some d,.call ⟨.value (.func f),args,ts⟩,ty,pos,af,g⟩::rest):=by
 refine WL.step y λa w q s O D=>?_;have E:=x8 (P:=P) (dst:=some d) (ts:=ts) (ty:=ty) (pos:=pos) (af:=af) (g:=g) (w:=w) A (λx u m=>q.eval m) B;simp only [Oper.wp,E,Oper.upon_enter];refine (hC w s).mono λp w' G=>?_;obtain ⟨v,rfl,m,o⟩:=G
 have H:w'.ownsRow 0 aU ae v aB xs:=by
   obtain ⟨t,e⟩:=o
   rcases e with e | ⟨i,cap,cur,hv,_,r⟩
   · exact ⟨t,.inl e⟩
   · exact ⟨t,.inr ⟨i,cap,cur,hv,cx _,r⟩⟩
 refine D _ _ (C v ?_ _ _ (q.put z _) ?_)
 · obtain ⟨_,e⟩:=o
   rcases e with ⟨e,I⟩ | ⟨i,cap,cur,hv,_,_,J,K,_⟩
   · exact .inl ⟨e,I⟩
   · exact .inr ⟨i,cap,hv,J,K⟩
 · have:=Ws.sS (L:=[]) (L':=[cq aU ae v aB xs]) (L2:=L) (by simpa using s) (by simpa using m) (by intro M h; simp at h; subst h; exact H)
     (by cases hv:v.ownBlock<;>simp [cq,hv]) (by
       intro M h k j;simp at h; subst h;simp only [cq,CA] at j;obtain ⟨_,e⟩:=o
       rcases e with ⟨e,_⟩ | ⟨i,cap,cur,hv,N,_⟩
       · subst e; simp [Value.ownBlock] at j
       · subst hv; simp [Value.ownBlock] at j; subst j; exact .inr N)
   simpa using this
def WL.pY {b m cap:Nat} {cur:Array Value}  {size:Nat} (i:Nat) (hL:L[i]? = some (aE b (.cells cur aU (0,0)))) (a:m<=cap) (c:cap<=maxLen) (d:cur.size=cap*size)
   (h:WL P ops Q n ds l (Ws w0 F (L.set i (cq aU size (.slice (some ⟨b,0,none⟩) m cap) m (cur.toList.take (m*size)))) Vs) rest):WL P ops Q n ds l (Ws w0 F L Vs) rest:=
 LW (λ_ e=>e.Hd i hL a c d) h
def Ws.Oi {c w:World} {L:List ah} {Vs:List View} (h:Ws c [] L Vs w) (i:Nat)     (hL:L[i]? = some (cq aU ae aW aB ci)):w.ownsRow c.heap.size aU ae aW aB ci:=by
 obtain ⟨e,a⟩:=(h.kn _ (dY hL):w.ownsRow 0 aU ae aW aB ci);refine ⟨e,?_⟩
 rcases a with a | ⟨b,cap,cur,rfl,_,r⟩
 · exact .inl a
 · have d:=h.own _ (dY hL) b (by simp [cq,Value.ownBlock])
   simp at d;exact .inr ⟨b,cap,cur,O,d,r⟩
end
section
variable {P:Program} {l:List (Nat×Value)} {W:World->Prop} {d:Option Tmp} {ty:TypeId} {pos:String} {af:Array Edge} {g:Option (Nat×Bool)}
def qo {t u:TypeId} {x:Operand} {a:Option Addr} {m c s:Nat} (b:ga P t=some s) (i:bu l x=some (.slice a m c)):Yl P l W ⟨d,.binOp .eql t x (.const (.slice none 0 0)) u,ty,pos,af,g⟩ (.bool a.isNone):=by
 intro j w h _;unfold ga at b
 cases f:P.underlying t with
 | none=>simp [f] at b
 | some k=>
   cases k<;>simp [f] at b
   have n:j (.const (.slice none 0 0)) = .slice none 0 0:=h _ _ rfl;rename_i o
   have e:(binOp .eql t (.slice a m c) (.slice none 0 0)).run P w = .ok (.bool a.isNone) w:=by
     simp only [binOp];simp [Op.equal,Op.maxDepth,Lib.run_equalIn_slice_nil w 9999 t o a m c 0 0 f]
   simp only [execOp,h x _ i,n,eqGuard,Sem.run_bind];simp [e]
end
section
variable {P:Program} {ops:Array Oper} {Q:Exit->Act->World->Prop} {n:Nat} {ds:List Deferred} {l l':List (Nat×Value)} {W:World->Prop} {w0:World} {F:List Nat} {L:List ah} {Vs:List View}
 {rest:List Oper} {d:Nat} {ty:TypeId} {pos:String} {af:Array Edge} {g:Option (Nat×Bool)}
variable {lr:ah}
def Lf (i:Nat) (hL:L[i]? = some lr) (h:WL P ops Q n ds l (Ws w0 F (lr::eQ i L) Vs) rest):WL P ops Q n ds l (Ws w0 F L Vs) rest:=
 LW (λ_ a=>a.perm (lp i L hL)) h
def WC.front {c:Code}  (i:Nat) (hL:L[i]? = some lr) (h:WC P c Q n ds l (Ws w0 F (lr::eQ i L) Vs)):WC P c Q n ds l (Ws w0 F L Vs):=
 n8 (λ_ a=>a.perm (lp i L hL)) h
def Ws.self {w:World} {c L2:List ah} (h:Ws w0 F (c++L2) Vs w):Ws w (c.flatMap ah.ids) c Vs w:=by
 have nd:=h.nd;rw [xU,mb] at nd;exact ⟨Fr.refl _ _,λa b=>h.kn a (by simp [b]),nd.1,λa b k d=>.inl (ku.2 ⟨a,b,d⟩),h.vs,λH e a b=>h.off H e a (by simp [b])⟩
def Ws.back {w w':World} {a b L2:List ah} {b9:List View} (h:Ws w0 F (a++L2) Vs w) (g:Ws w (a.flatMap ah.ids) b b9 w'):Ws w0 F (b++L2) Vs w':=
 Ws.sS h g.fr g.kn g.nd g.own
variable {du:FuncId} {aR:Array Operand} {gU:Array TypeId}
def Lw {ι:Type}     (c L2:List ah) (j:dI ops l g) (k:Nat.blt d n=true) (m:Enters P du) (o:g2 l aR.toList=some ci) (hL:L=c++L2)
   (v:ι->Value) (f:ι->List ah) (R:ι->Prop) (b9:List View) (p:∀H ∈ b9,H ∈ Vs)
   (hC:∀w,Ws w (c.flatMap ah.ids) c b9 w->Calls P du ci.toArray w λe w'=>∃i,e = .returned (v i)/\R i/\Ws w (c.flatMap ah.ids) (f i) b9 w')
   (q:∀i,R i->WL P ops Q n ds ((d,v i)::l) (Ws w0 F (f i++L2) Vs) rest) :
   WL P ops Q n ds l (Ws w0 F L Vs) (⟨some d,.call ⟨.value (.func du),aR,gU⟩,ty,pos,af,g⟩::rest):=by
 subst hL;refine WL.call j k m o v (λi w'=>R i/\Ws w0 F (f i++L2) Vs w') (λw b=>(hC w (b.self.cK p)).mono λe w' ⟨i,r,s,h⟩=>⟨i,r,s,b.back h⟩) λi=>?_;intro a w t b;exact q i b.1 a w t b.2
def j_ (a L2 b:List ah) (c:dI ops l g) (f:Nat.blt d n=true) (h:Enters P du) (i:g2 l aR.toList=some ci) (hL:L=a++L2)
   (b9:List View) (j:∀H ∈ b9,H ∈ Vs)
   (hC:∀w,Ws w (a.flatMap ah.ids) a b9 w->Calls P du ci.toArray w λe w'=>e = .returned (.tuple #[])/\Ws w (a.flatMap ah.ids) b b9 w')
   (k:WL P ops Q n ds ((d,.tuple #[])::l) (Ws w0 F (b++L2) Vs) rest) :
   WL P ops Q n ds l (Ws w0 F L Vs) (⟨some d,.call ⟨.value (.func du),aR,gU⟩,ty,pos,af,g⟩::rest):=
 Lw (ι:=Unit) a L2 c f h i hL (λ_=>.tuple #[]) (λ_=>b) (λ_=>True) b9 j (λw m=>(hC w m).mono λe w' ⟨o,p⟩=>⟨(),o,trivial,p⟩) (λ_ _=>k)
end
def hv (w:World):View:=λb=>w.heap[b]?
def gV (w:World):Le (hv w) w:=λ_ _ h=>h
def uo (h:bF.heap[ae]? = some aD) (a:gE aD aB=some aW):vc (hv bF) ae aB=some aW:=by simp [vc,hv,h,a]
def i9 (h:Le bc bF):bK bc (hv bF):=λb o a=>h b o a
def Ws.dZ (h:Ws bF aA cL dj dJ) (i:Nat)   (hL:cL[i]? = some (aE ae aD))   (a:gE aD aB=some aW):vc (hv dJ) ae aB=some aW:=
 uo (h.kn _ (dY hL)) a
def Ws.Oj (h:Ws bF aA cL dj dJ) (i:Nat)  {size m c b:Nat}  (hL:cL[i]? = some (cq aU size (.slice (some ⟨b,0,none⟩) m c) m ci))   (a:ci[ae]? = some aW):vc (hv dJ) b ae=some aW:=by
 obtain ⟨cur,d,e,_⟩:=Ad (h.kn _ (dY hL));refine uo d ?_;rw [<-e,i6] at a
 split at a
 · exact a
 · cases a
section
variable {P:Program} {ops:Array Oper} {Q:Exit->Act->World->Prop} {n:Nat} {ds:List Deferred} {l l':List (Nat×Value)} {W:World->Prop} {w0:World} {F:List Nat} {L:List ah} {Vs:List View} {rest:List Oper}
def dn {b:Nat} {a:Obj} (i:Nat) (d:Obj) (hL:L[i]? = some (aE b a)) (c:a=d) (h:WL P ops Q n ds l (Ws w0 F (L.set i (aE b d)) Vs) rest):WL P ops Q n ds l (Ws w0 F L Vs) rest:=by
 subst c
 have:L.set i (aE b a)=L:=by
   obtain ⟨hi,c⟩:=cS.1 hL;rw [<-c];exact xZ hi
 rwa [this] at h
end
def Hl (v:Value) (hv:v.cells = #[v]) (k:Nat):madeCells v.cells (((k:Nat):Int).toNat*1)=(List.replicate k v).toArray:=by
 rw [sL]; exact Hg v hv k
def Ws.Hm (h:Ws bF [] cL dj dJ) (i:Nat) {b:Nat} {f:a9->Value} {l:List a9}  (hL:cL[i]? = some (aE b (.cells (l.map f).toArray aU (0,0))))
   {rd:View->Nat->Nat->a9->Prop} (c:∀H b o x,vc H b o=some (f x)->rd H b o x) {a:List a9}  (d:a.length<=ae) (e:ae<=9223372036854775807) (g:∀(j:Nat) (x:a9),a[j]? = some x->l[j]? = some x):Sl rd 1 (nv bF dJ) (some ⟨b,0,none⟩) ae a:=
 ⟨d,e,au,λj x k=>⟨b,0,rfl,c _ _ _ _ (h.yc i hL (by simp [gE,g j x k]))⟩⟩
def yd (P:Program) (t:TypeId):Option Nat:=match P.underlying t with | some (.int _)=>some 0 | some .string=>some 1 | some .bool=>some 2 | _=>none
def vZ (P:Program):Nat->List Field->Option (List Nat)
 | _,[]=>some []
 | i, f :: r => bif Nat.beq f.offset i && !(f.name == "_") then (match yd P f.type, vZ P (i + 1) r with | some k, some ks => some (k :: ks) | _, _ => none) else none
def v3 (P:Program) (t:TypeId):Option (List Nat):=match P.underlying t with
 | some (.struct fs)=>bif P.stoodInHeld t||P.eqGuardType P.depth t then none else vZ P 0 fs.toList
 | _=>none
def n':List Nat->List Value->List Value->Option Bool
 | [],[],[]=>some true
 | 0::ks,.int k a::xs,.int c b::ys=>match n' ks xs ys with | some r=>if k=c then some ((a==b)&&r) else none | none=>none
 | 1::ks,.string a::xs,.string b::ys=>match n' ks xs ys with | some r=>some ((a.data.toList==b.data.toList)&&r) | none=>none
 | 2::ks,.bool a::xs,.bool b::ys=>match n' ks xs ys with | some r=>some ((a==b)&&r) | none=>none
 | _,_,_=>none
section
variable {P:Program}
def Hn {k:Nat} (h:yd P aU=some k) (cs:Array Value) (off:Nat) (v:Value) (hv:cs[off]? = some v) (w:World):(part aU cs off).run P w = .ok v w:=by
 have a:mS P aU=true:=by
   unfold yd at h;unfold mS
   cases b:P.underlying aU with
   | none=>simp [b] at h
   | some d=>cases d<;>simp_all
 simp [part,z1 a,hv]
def Ho (d:Nat):∀(fs:List Field) (i:Nat) (ks:List Nat) (xs ys:List Value) (pre h:List Value) (r:Bool) (w:World),vZ P i fs=some ks->n' ks xs ys=some r->pre.length=i->h.length=i->
   (Op.eqFields (d+1) (pre++xs).toArray (h++ys).toArray fs).run P w = .ok r w
 | [],i,ks,xs,ys,pre,h,r,w,a,c,_,_=>by
   simp [vZ] at a;subst a
   cases xs<;>cases ys<;>simp [n'] at c
   subst c;simp [Op.eqFields]
 | f::fs,i,ks,xs,ys,pre,h,r,w,a,c,hp,o=>by
   simp only [vZ] at a
   cases hb : (Nat.beq f.offset i && !(f.name == "_")) with
   | false=>rw [hb] at a; cases a
   | true=>
     rw [hb] at a;simp only [qC] at a;simp only [ew] at hb;have p:=i5 hb.1
     have u : f.name ≠ "_" := by simpa using hb.2
     cases e:yd P f.type with
     | none=>simp [e] at a
     | some k=>
       cases m:vZ P (i+1) fs with
       | none=>simp [e,m] at a
       | some n=>
         simp [e,m] at a;subst a
         cases xs with
         | nil=>cases ys<;>simp [n'] at c
         | cons x xs=>
           cases ys with
           | nil=>rcases k with _ | _ | _ | k<;>cases x<;>simp [n'] at c
           | cons y ys=>
             have v:((pre++x::xs).toArray)[f.offset]? = some x:=by simp [p,<-hp]
             have z:((h++y::ys).toArray)[f.offset]? = some y:=by simp [p,<-o]
             have key:∀b g,(Op.equalIn (d+1) f.type x y).run P w = .ok b w->n' n xs ys=some g->r=(b&&g)->(Op.eqFields (d+1) (pre++x::xs).toArray (h++y::ys).toArray (f::fs)).run P w = .ok r w:=by
               intro b g A B q;have s:=Ho d fs (i+1) n xs ys (pre++[x]) (h++[y]) g w m B (by simp [hp]) (by simp [o]);simp only [n5,xu] at s;simp only [Op.eqFields,u,ne_eq,not_false_eq_true,cv,Sem.run_bind,Hn e _ _ _ v,Hn e _ _ _ z,Result.andThen_ok,A];cases b
               · simp [q]
               · simp [q,s]
             unfold yd at e
             cases j:P.underlying f.type with
             | none=>simp [j] at e
             | some t=>
               cases l:n' n xs ys with
               | none=>cases t<;>simp [j] at e<;>subst e<;>cases x<;>cases y<;>simp [n',l] at c
               | some g=>
                 cases t<;>simp [j] at e<;>subst e<;>cases x<;>cases y<;>simp [n',l] at c
                 · exact key _ g (run_equalIn_bool' w d _ _ _ j) l c.symm
                 · obtain ⟨rfl,c⟩:=c
                   exact key _ g (run_equalIn_int w d _ _ _ _ _ j) l c.symm
                 · refine key _ g (run_equalIn_string w d _ _ _ j) l ?_
                   rw [ByteArray.toList_eq,ByteArray.toList_eq];rw [<-c]; simp
variable {l:List (Nat×Value)} {W:World->Prop} {d:Option Tmp} {ty:TypeId} {pos:String} {af:Array Edge} {g:Option (Nat×Bool)}
variable {yf:List Value} {dh:Bool}
def Ok (a:v3 P aU=some aA) (e:n' aA ci yf=some dh) (w:World) :
   (Op.equalIn 10000 aU (.agg ci.toArray) (.agg yf.toArray)).run P w = .ok dh w/\P.eqGuardType P.depth aU=false:=by
 unfold v3 at a
 cases c:P.underlying aU with
 | none=>simp [c] at a
 | some f=>
   cases f<;>simp [c] at a
   rename_i fs
   cases b:(P.stoodInHeld aU||P.eqGuardType P.depth aU) with
   | true=>rw [b] at a; cases a
   | false=>
     rw [b] at a;simp only [mQ] at b
     have d:P.fieldsOf aU=fs:=by simp [Program.fieldsOf,c]
     refine ⟨?_,b.2⟩;rw [run_equalIn_struct w 9999 aU _ _ (by rw [d]; exact c) b.1,d]
     simpa using Ho 9998 fs.toList 0 aA ci yf [] [] dh w (by simpa using a) e rfl rfl
def Hp {t u:TypeId} {x y:Operand}    (b:v3 P t=some aA) (c:bu l x=some (.agg ci.toArray)) (e:bu l y=some (.agg yf.toArray)) (f:n' aA ci yf=some dh) :
   Yl P l W ⟨d,.binOp .neq t x y u,ty,pos,af,g⟩ (.bool (!dh)):=by
 intro j w a _;obtain ⟨h,i⟩:=Ok b f w;simp only [execOp,a x _ c,a y _ e,Sem.run_bind,run_eqGuard_agg w _ _ _ _ _ _ i,Result.andThen_ok,run_neq_struct w,h,Sem.run_pure]
end
section
variable {P:Program} {l:List (Nat×Value)} {W:World->Prop} {d:Option Tmp} {ty:TypeId} {pos:String} {af:Array Edge} {g:Option (Nat×Bool)}
variable {dt:TypeId} {a_ bM:Operand} {aG:IntKind} {aL cg:Int}
def Df (b:bu l a_=some (.int aG aL)) (c:bu l bM=some (.int aG cg)) (e:cg≠0):Yl P l W ⟨d,.binOp .quo aU a_ bM dt,ty,pos,af,g⟩ (.int aG (aG.wrap (aL.tdiv cg))):=
 λf w a _=>by simp [execOp,a a_ _ b,a bM _ c,eqGuard,binOp,Op.intDiv,e]
def Dg (b:bu l a_=some (.int aG aL)) (c:bu l bM=some (.int aG cg)) (e:cg≠0):Yl P l W ⟨d,.binOp .rem aU a_ bM dt,ty,pos,af,g⟩ (.int aG (aL.tmod cg)):=
 λf w a _=>by simp [execOp,a a_ _ b,a bM _ c,eqGuard,binOp,Op.intDiv,e]
end
def Sl.flat {rd:View->Nat->Nat->a9->Prop}   {b o c:Nat} {l:List a9} {f:a9->List Value} (h:Sl rd ae bc (some ⟨b,o,none⟩) c l) (a:∀x,(f x).length=ae) (p:0<ae) (q:∀b o x,rd bc b o x->cw bc b o (f x)) :
   ∀j u,(l.flatMap f)[j]? = some u->vc bc b (o+j)=some u:=by
 intro j u d;have g:=(cS.1 d).1;rw [pX a] at g;have hi:j / ae<l.length:=Nat.div_lt_of_lt_mul (by rw [Nat.mul_comm]; exact g);have i:l[j / ae]? = some l[j / ae]:=dM hi;have r:j % ae<ae:=p_ _ p
 have e:j / ae*ae+j % ae=j:=by rw [Nat.mul_comm]; exact Nat.div_add_mod j ae
 have k:=kZ a i r;rw [e,d] at k;obtain ⟨t,v,m,s⟩:=h.aq _ _ i;simp at m;obtain ⟨rfl,rfl⟩:=m;have n:=q _ _ _ s (j % ae) u k.symm;rw [rI,e] at n;exact n
def Ol (w:World) (base:Nat) (e:TypeId) (size:Nat):w.ownsRow base e size (.slice none 0 0) 0 []:=World.ownsRow_nil _ _ _ _
def eL:List Oper->Nat->Nat->List Nat
 | [],_,_=>[]
 | o::r,i,m=>bif !m.testBit i&&o.after.toList.all (λe=>!Region.binds .any e||m.testBit e.on) then i::eL r (i+1) m else eL r (i+1) m
def Ae (a:Oper) (ops:Array Oper) (i:Nat):List Oper->Nat->Nat->Bool
 | [],_,_=>true
 | o::r,j,m=>(j==i||m.testBit j||(o.after.toList.any (λe=>Region.binds .any e&&e.on==i)||a.apart ops o))&&Ae a ops i r (j+1) m
def Hq (os:List Oper) (i m:Nat):Bool:=match os[i]? with | none=>false | some a=>Ae a os.toArray i os 0 m
def sZ (os:List Oper):List (Nat×Bool)->Nat->Bool
 | [],m=>(eL os 0 m).isEmpty
 | (i,q)::r,m=>(bif q then (eL os 0 m).contains i&&Hq os i m else eL os 0 m==[i])&&sZ os r (m||| 2 ^ i)
structure LM (n:Nat) (listed:Array Bool) (m:Nat):Prop where
 size:listed.size=n
 bit:∀j,listed.getD j false=m.testBit j
variable {ii:Array Bool} {cp:Nat}
def LM.t (h:LM ae ii aB)  (a:cp<ae):ii.getD cp true=aB.testBit cp:=by
 rw [<-h.bit cp]
 have:cp<ii.size:=by rw [h.size]; exact a
 simp [Array.getD,this]
def LM.set (h:LM ae ii aB) (hi:cp<ae):LM ae (ii.setIfInBounds cp true) (aB||| 2 ^ cp):=by
 refine ⟨by simp [h.size],λj=>?_⟩;rw [Nat.testBit_or,Nat.testBit_two_pow,<-h.bit j]
 have b:cp<ii.size:=by rw [h.size]; exact hi
 by_cases e:cp=j
 · subst e
   simp [Array.getD,b]
 · by_cases a:j<ii.size
   · simp [Array.getD,a,e]
   · simp [Array.getD,a,e]
def Hr (ops:Array Oper) {a:Array Bool} {m:Nat} (h:LM ops.size a m):∀(os:List Oper) (i:Nat),i+os.length=ops.size->(∀j o,os[j]? = some o->ops[i+j]? = some o)->
   eL os i m=((List.range os.length).map (i + ·)).filter λk=>!a.getD k true&&((ops[k]?).map (·.after.all λe=>!Region.binds .any e||a.getD e.on false)).getD false
 | [],_,_,_=>by simp [eL]
 | o::r,i,b,c=>by
   have d:=c 0 o rfl;rw [oY] at d
   have f:=Hr ops h r (i+1) (by simp at b; omega) λj g l=>by rw [show i+1+j=i+(j+1) by omega]; exact c (j+1) g (by simpa using l)
   have e:(List.range (o::r).length).map (i + ·)=i::(List.range r.length).map (i+1 + ·):=by
     rw [b5,List.range_succ_eq_map,jn,CG]
     congr 1
     refine zM λk _=>?_
     show i+(k+1)=i+1+k
     omega
   have n:(!a.getD i true&&((ops[i]?).map (·.after.all λe=>!Region.binds .any e||a.getD e.on false)).getD false)=(!m.testBit i&&o.after.toList.all (λe=>!Region.binds .any e||m.testBit e.on)):=by
     rw [h.t (by simp at b; omega),d,dN,zP,<-Array.all_toList]
     congr 2
     funext e
     rw [h.bit]
   rw [e,List.filter_cons,n,eL,f]
   cases (!m.testBit i&&o.after.toList.all (λe=>!Region.binds .any e||m.testBit e.on))<;>simp
variable {bC:List Oper}
def Hs (h:LM bC.toArray.size ii ae):eL bC 0 ae=Region.ready .any bC.toArray ii:=by
 rw [Hr bC.toArray h bC 0 au λj o a=>by simpa using a];unfold Region.ready
 have:(List.range bC.length).map (0 + ·)=List.range bC.toArray.size:=au
 rw [this]
def Ht (ops:Array Oper)   {d:Oper} (h:LM ops.size ii ae):∀(os:List Oper) (k:Nat),k+os.length=ops.size->(∀j o,os[j]? = some o->ops[k+j]? = some o)->Ae d ops aB os k ae=true->
   ∀j,k<=j->j<ops.size->(j==aB||ii.getD j true||match ops[j]? with
     | some f=>f.after.any (λe=>Region.binds .any e&&e.on==aB)||d.apart ops f
     | none=>true)=true
 | [],k,a,_,_,j,l,b=>by simp at a; omega
 | o::r,k,a,g,c,j,l,b=>by
   rw [Ae,ew] at c
   by_cases e:k=j
   · subst e
     have i:=g 0 o rfl;rw [oY] at i;rw [h.t b,i];have:=c.1
     simpa using this
   · exact Ht ops h r (k+1) (by simp at a; omega) (λj m n=>by rw [show k+1+j=k+(j+1) by omega]; exact g (j+1) m (by simpa using n)) c.2 j Z b
def Hu:∀(ord:List (Nat×Bool)) (b:Array Bool) (m:Nat),LM bC.toArray.size b m->sZ bC ord m=true->nq .any bC.toArray ord b=true
 | [],b,m,h,c=>by
   rw [sZ,Hs h] at c;exact c
 | (i,q)::r,b,m,h,c=>by
   rw [sZ,ew,Hs h] at c;obtain ⟨a,g⟩:=c
   have hi:i<bC.toArray.size:=by
     have f:i ∈ Region.ready .any bC.toArray b:=by
       cases q with
       | true=>simp only [qC,ew] at a; simpa using a.1
       | false=>simp only [x2,kW] at a; rw [a]; simp
     unfold Region.ready at f;exact x0.1 (List.mem_filter.1 f).1
   rw [nq,ew];refine ⟨?_,Hu r _ _ (h.set hi) g⟩
   cases q with
   | false=>exact a
   | true=>
     simp only [qC,ew] at a ⊢;refine ⟨a.1,?_⟩;have d:=a.2;unfold Hq at d;have k:bC[i]? = some bC[i]:=dM (by simpa using hi);rw [k] at d;unfold Region.free;rw [show bC.toArray[i]? = some bC[i] by simp];simp only [hS,x0];exact λj e=>Ht bC.toArray h bC 0 au (λj o e=>by simpa using e) d j (cx _) e
def Om (n:Nat):LM n (Array.replicate n false) 0:=⟨au,λj=>by simp [Array.getD]⟩
def Dh {ord:List (Nat×Bool)} (h:(Region.noSelect bC.toArray&&(ord.length==bC.toArray.size&&sZ bC ord 0))=true):(Region.noSelect bC.toArray&&(ord.length==bC.toArray.size&&nq .any bC.toArray ord (Array.replicate bC.toArray.size false)))=true:=by
 simp only [ew] at h ⊢;exact ⟨h.1,h.2.1,Hu ord _ 0 (Om _) h.2.2⟩
section
variable {P:Program} {Q:Exit->Act->World->Prop} {n:Nat} {ds:List Deferred} {l:List (Nat×Value)}
def WC.hU (ord:List (Nat×Bool)) (b:P.follows .mixedOrders=true) (e:(Region.noSelect bC.toArray&&(ord.length==bC.toArray.size&&sZ bC ord 0))=true)
   (f:∀c a w d v,Q (.panic c) (a.put d v) w->Q (.panic c) a w) (h:WD P bC.toArray (Ws bF aA cL dj) Q n ds l (Ws bF aA cL dj) ord):WC P (.region ae bC.toArray true) Q n ds l (Ws bF aA cL dj):=
 WC.Hj _ ord b (Dh e) f (λ_ h=>h.drew) h
def WC.gW (i:Nat) (ord:List (Nat×Bool)) (b:P.follows .mixedOrders=true) (e:(Region.noSelect bC.toArray&&(ord.length==bC.toArray.size&&sZ bC ord 0))=true)
   (f:∀c a w d v,Q (.panic c) (a.put d v) w->Q (.panic c) a w) (h:WD P bC.toArray (Ws bF aA (eQ i cL) dj) Q n ds l (Ws bF aA cL dj) ord):WC P (.region ae bC.toArray true) Q n ds l (Ws bF aA cL dj):=
 WC.Hj _ ord b (Dh e) f (λ_ h=>h.drew) h
end
section
variable {P:Program} {l:List (Nat×Value)} {W:World->Prop} {d:Option Tmp} {ty:TypeId} {pos:String} {af:Array Edge} {g:Option (Nat×Bool)}
variable {dt:TypeId} {a_ bM:Operand} {aL cg:Int}
def qK {a b:Nat}  (c:bu l a_=some (.int .i64 aL)) (e:bu l bM=some (.int .i64 cg)) (f:aL=(a:Int)) (h:cg=(b:Int)) (i:(a:Int)+b<=9223372036854775807):Yl P l W ⟨d,.binOp .add aU a_ bM dt,ty,pos,af,g⟩ (.int .i64 ((a+b:Nat):Int)):=by
 subst f h;have:=C9 (P:=P) (W:=W) (d:=d) (ty:=ty) (pos:=pos) (af:=af) (g:=g) (t:=aU) (u:=dt) c e ⟨Z,i⟩
 rwa [show ((a+b:Nat):Int)=(a:Int)+b by omega]
def Hv {a b:Nat}  (c:bu l a_=some (.int .i64 aL)) (e:bu l bM=some (.int .i64 cg)) (f:aL=(a:Int)) (h:cg=(b:Int)) (i:b<=a) (j:(a:Int)<=9223372036854775807):Yl P l W ⟨d,.binOp .sub aU a_ bM dt,ty,pos,af,g⟩ (.int .i64 ((a-b:Nat):Int)):=by
 subst f h;have:=z4 (P:=P) (W:=W) (d:=d) (ty:=ty) (pos:=pos) (af:=af) (g:=g) (t:=aU) (u:=dt) c e ⟨Z,Z⟩
 rwa [show ((a-b:Nat):Int)=(a:Int)-b by omega]
def v4 {f:FuncId} {a:Array Operand} {vs:List Value} (b:g2 l a.toList=some vs):Yl P l W ⟨d,.makeFunc (.func f) #[] a,ty,pos,af,g⟩ (.func (.func f) #[] vs.toArray):=by
 intro c w h _
 have e:a.map c=vs.toArray:=by
   apply t'
   simpa using z8 h _ _ b
 simp [execOp,Instr.makeFunc,e]
end
section
variable {P:Program} {ops:Array Oper} {Q:Exit->Act->World->Prop} {n:Nat} {ds:List Deferred} {l:List (Nat×Value)} {w0:World} {F:List Nat} {L:List ah} {Vs:List View} {rest:List Oper}
def WL.shape (i:Nat) (hL:L[i]? = some (cq aU ae aW aB ci)) (k:0<aB)
   (h:∀b c,aW = .slice (some ⟨b,0,none⟩) aB c->aB<=c->c<=maxLen->WL P ops Q n ds l (Ws w0 F L Vs) rest):WL P ops Q n ds l (Ws w0 F L Vs) rest:=by
 intro a w e d;obtain ⟨m,f⟩:=(d.kn _ (dY hL):w.ownsRow 0 aU ae aW aB ci)
 rcases f with ⟨o,p⟩ | ⟨b,cap,cur,hv,_,_,g,j,_⟩
 · omega
 · exact h b cap hv g j a w e d
def WL.o3 (i m':Nat) (a:List Value) (hL:L[i]? = some (cq aU ae aW aB ci)) (b:aB=m') (c:ci=a)
   (h:WL P ops Q n ds l (Ws w0 F (L.set i (cq aU ae aW m' a)) Vs) rest):WL P ops Q n ds l (Ws w0 F L Vs) rest:=by
 subst b c
 have:L.set i (cq aU ae aW aB ci)=L:=by
   obtain ⟨hi,d⟩:=cS.1 hL;rw [<-d];exact xZ hi
 rwa [this] at h
end
def Ws.df {L L':List ah}  (h:Ws bF aA (L++L') dj dJ):Ws bF aA L dj dJ:=Ws.drop (h.perm List.perm_append_comm)
def e_ (b:UInt8):Value:=.int .u8 (b.toNat:Int)
def On (l:List UInt8):Lib.strCells ⟨l.toArray⟩=l.map e_:=by simp [Lib.strCells,e_,pU]
def yg (l:List UInt8):(ByteArray.mk l.toArray).size=l.length:=by show l.toArray.size=_; simp
variable {b0:Array Value} {s0:Nat×Nat}
def Di (h:bF.heap[ae]? = some (.cells b0 aU s0)):bF.shape? ae=some (aU,b0.size):=by simp [World.shape?,h]
section
variable {P:Program} {l:List (Nat×Value)} {W:World->Prop} {w0:World} {F:List Nat} {L:List ah} {Vs:List View} {d:Option Tmp} {ty:TypeId} {pos:String} {af:Array Edge} {g:Option (Nat×Bool)}
variable {dt:TypeId} {a_:Operand}
def Hw {b k a:IntKind}  {n:Int} (c:P.underlying aU=some (.int b)) (e:P.underlying dt=some (.int a)) (f:bu l a_=some (.int k n)):Yl P l W ⟨d,.convert aU dt a_,ty,pos,af,g⟩ (.int a (a.wrap n)):=by
 intro i w h _;simp [execOp,h a_ _ f,convert,run_underlying c,run_underlying e,Conv.intToInt]
variable {iJ fj:TypeId}
def Oo (i:Nat) (a:P.underlying aU=some (.pointer iJ)) (b:P.underlying dt=some .unsafePointer) (c:dV P iJ=some (cp+1)) (hL:L[i]? = some (aE ae (.cells b0 fj s0))) (f:Nat.blt aB b0.toList.length=true)
   (h:bu l a_=some (.pointer (some ⟨ae,aB,none⟩))):Yl P l (Ws w0 F L Vs) ⟨d,.convert aU dt a_,ty,pos,af,g⟩ (.pointer (some ⟨ae,aB,none⟩)):=by
 intro n w j k;obtain ⟨o,hi,p⟩:=dX.1 c;have m:=Di (k.kn _ (dY hL):w.heap[ae]? = some (.cells b0 fj s0));have e:=Lib.run_to_unsafe (P:=P) w ⟨ae,aB,none⟩ a b hi Z m (by have:=Nat.blt_eq.mp f; simpa using this);simp [execOp,j a_ _ h,e]
def Oq {j n:Nat} (i:Nat) (a:P.underlying aU=some .unsafePointer) (b:P.underlying dt=some (.pointer iJ)) (c:dV P iJ=some j) (hL:L[i]? = some (aE ae (.cells b0 fj s0)))
   (f:b0.toList.length=n) (h:liesAt P P.depth fj (n / P.cellsOf fj) aB iJ 1=true)
   (k:bu l a_=some (.pointer (some ⟨ae,aB,none⟩))):Yl P l (Ws w0 F L Vs) ⟨d,.convert aU dt a_,ty,pos,af,g⟩ (.pointer (some ⟨ae,aB,none⟩)):=by
 intro r w m o;obtain ⟨s,hi,t⟩:=dX.1 c;have p:=Di (o.kn _ (dY hL):w.heap[ae]? = some (.cells b0 fj s0))
 have q:b0.size=n:=by simpa using f
 have e:=Lib.run_from_unsafe (P:=P) w ⟨ae,aB,none⟩ a b hi p (by rw [q]; exact h);simp [execOp,m a_ _ k,e]
variable {du:FuncId} {gU:Array TypeId}
def Ot {v:Value}  (b:∀(u:Value) (w:World),(callFunc du #[u]).run P w = .ok (.value u) w) (c:bu l a_=some v):Yl P l W ⟨d,.call ⟨.value (.func du),#[a_],gU⟩,ty,pos,af,g⟩ v:=by
 intro e w a _;have f:e (.func du) = .func (.func du) #[] #[]:=a _ _ rfl;simp [execOp,resolve,Deferred.ofValue,invoke,a a_ _ c,f,b]
def Ou {fn : Func} (a : P.funcs[du]? = some fn) (b : (fn.name == "runtime.NumGoroutine") = false) (c : fn.body.isNone = true) (d : Extern.findNext fn = none) (e : Extern.find fn = some Extern.AbiNoEscape.same) :
   ∀(u:Value) (w:World),(callFunc du #[u]).run P w = .ok (.value u) w:=by
 intro u w;rw [run_callFunc_extern a b c d e,Lib.run_noEscape]; rfl
def Ov {q:Option Addr} (a:P.underlying aU=some (.pointer iJ)) (c:bu l a_=some (.pointer q)):Yl P l W ⟨d,.binOp .eql aU a_ (.const (.pointer none)) dt,ty,pos,af,g⟩ (.bool q.isNone):=by
 intro e w b _;have f:e (.const (.pointer none)) = .pointer none:=b _ _ rfl
 have h:P.underlying aU=some (.pointer (P.pointee aU)):=by rw [a]; simp [Program.pointee,a]
 have i:=run_eql_pointer_nil (P:=P) w aU q h;simp only [execOp,b a_ _ c,f,eqGuard,Sem.run_bind];simp [i]
def Ow {a:Addr}  (b:P.underlying aU=some (.pointer dt)) (c:dV P dt=some (ae+1)) (w:World) (m:Nat):(Op.equalIn (m+1) aU (.pointer (some a)) (.pointer (some a))).run P w = .ok true w:=by
 obtain ⟨d,hi,f⟩:=dX.1 c
 have e:d.size≠0:=Z
 simp only [Op.equalIn,Sem.run_bind,run_underlying b,Result.andThen_ok,sizeOf,typeInfo];simp [hi,e,run_sameAddr_same]
variable {bM:Operand} {kY:Addr}
def Ox (c:P.underlying aU=some (.pointer iJ)) (e:dV P iJ=some (ae+1)) (f:bu l a_=some (.pointer (some kY))) (h:bu l bM=some (.pointer (some kY))):Yl P l W ⟨d,.binOp .neq aU a_ bM dt,ty,pos,af,g⟩ (.bool false):=by
 intro m w b _;have i:=Ow (P:=P) (a:=kY) c e w 9999
 have j:(binOp .neq aU (.pointer (some kY)) (.pointer (some kY))).run P w = .ok (.bool false) w:=by
   simp only [binOp];have k:(Op.equal aU (.pointer (some kY)) (.pointer (some kY))).run P w = .ok true w:=i;simp [k]
 simp only [execOp,b a_ _ f,b bM _ h,eqGuard,Sem.run_bind];simp [j]
def Oy {k b:IntKind} {n m:Int} (c:bu l a_=some (.int k n)) (e:bu l bM=some (.int b m)) (f:0<=m):Yl P l W ⟨d,.binOp .shr aU a_ bM dt,ty,pos,af,g⟩ (.int k (n.fdiv (2 ^ (min m.toNat k.bits)))):=by
 intro h w a _
 have:¬m<0:=Z
 simp [execOp,a a_ _ c,a bM _ e,eqGuard,binOp,Op.shift,this]
def Oz (a:aB≠0) (b:bu l a_=some (.slice (some kY) ae aB)):Yl P l W ⟨d,.call ⟨.builtin .unsafeSliceData,#[a_],gU⟩,ty,pos,af,g⟩ (.pointer (some kY)):=by
 intro e w c _;simp [execOp,resolve,invoke,builtin,c a_ _ b,Lib.run_unsafeSliceData_row w _ _ kY ae aB a]
def OA {x:Operand}  {bs:List UInt8}   (i:Nat) (c:P.underlying aU=some (.slice iJ)) (e:P.underlying iJ=some (.int .u8)) (f:P.underlying dt=some .string) (hL:L[i]? = some (aE ae (.cells (bs.map e_).toArray fj s0))) (h:bs.length=aB)
   (k:bu l x=some (.slice (some ⟨ae,0,none⟩) aB cp)):Yl P l (Ws w0 F L Vs) ⟨d,.convert aU dt x,ty,pos,af,g⟩ (st bs):=by
 intro u w m o;have p:w.heap[ae]? = some (.cells (bs.map e_).toArray fj s0):=o.kn _ (dY hL);subst h
 have a:=run_loadCells_list (P:=P) w ⟨ae,0,none⟩ ((bs.map λx=>(x.toNat:Int)).map (Value.int .u8)) (λj v hv=>by
   rw [mg];refine cell_of_heap p ?_;simp only [gE,zQ,gC];rw [<-hv];simp only [gS,Option.map_map]
   rfl)
 simp only [gD] at a;have b:=run_bytesToString (P:=P) w ⟨ae,0,none⟩ bs.length cp (bs.map λx=>(x.toNat:Int)) a
 have q:∀(bs:List UInt8) (r:ByteArray),(bs.map λx=>(x.toNat:Int)).foldl (λr n=>r.push (UInt8.ofNat n.toNat)) r=⟨r.data++bs.toArray⟩:=by
   intro bs
   induction bs with
   | nil=>intro r; simp
   | cons x xs s=>
     intro r;simp only [jn,wK];rw [s];simp [ByteArray.push]
 rw [q] at b
 have t:(convert aU dt (.slice (some ⟨ae,0,none⟩) bs.length cp)).run P w = .ok (st bs) w:=by
   simp only [convert,Sem.run_bind,run_underlying c,run_underlying f,Result.andThen_ok,run_underlying e,b];simp [st]
 simp [execOp,m x _ k,t]
end
section
variable {P:Program} {ops:Array Oper} {Q:Exit->Act->World->Prop} {n:Nat} {ds:List Deferred} {l:List (Nat×Value)} {w0:World} {F:List Nat} {L:List ah} {Vs:List View} {rest:List Oper} {d:Nat} {ty:TypeId} {pos:String} {af:Array Edge} {g:Option (Nat×Bool)}
def OB {t u e ty:TypeId} {v c:Value}  {s:ByteArray}  {w w':World} {i:TypeInfo} (d:P.underlying t=some (.slice e)) (b:P.underlying u=some .string) (hi:P.info? e=some i) (h:i.zero=some (.int .u8 0)) (k:i.size=1) (l:i.bytes=1)
   (n:w.ownsRow 0 e 1 v ae ci) (A:ae+s.size<=140737488355328) (f:(Builtin.append_ #[t,u] ty #[v,.string s]).run P w = .ok c w') (o:c = .slice none 0 0↔v = .slice none 0 0/\s.size=0) :
   c.ownBlock=v.ownBlock\/c.ownBlock=some w.heap.size:=by
 obtain ⟨p,q⟩:=n
 have B:ci.length=ae:=by simpa using p
 rcases q with ⟨rfl,rfl⟩ | ⟨g,cap,cur,rfl,_,m,C,D,E,r⟩
 · by_cases x:s.size=0
   · exact .inl (by rw [o.2 ⟨O,x⟩])
   · have a:=run_append_nil_string (P:=P) w t u ty e i (.int .u8 0) d b hi h s Z Z (by rw [l]; omega)
     rw [f] at a
     injection a with a _
     exact .inr (by rw [a]; rfl)
 · by_cases y:ae+s.size<=cap
   · have a:=Lib.run_append_room_string (P:=P) w t u ty e i d b hi k g ae cap cur m s y Z
     rw [f] at a
     injection a with a _
     exact .inl (by rw [a]; rfl)
   · have z:∀j v,ci[j]? = some v->w.cell? ((⟨g,0,none⟩:Addr).add j)=some v:=by
       intro j u b;rw [mg,<-r] at *;refine cell_of_heap m ?_;rw [i6] at b
       split at b
       · simpa [gE] using b
       · cases b
     have a:=Lib.run_append_grow_string (P:=P) w t u ty e i (.int .u8 0) d b hi h ⟨g,0,none⟩ ae cap ci (by rw [k]; omega) z s Z Z (by rw [l]; exact growslice_fits Z Z);rw [f] at a
     injection a with a _
     exact .inr (by rw [a]; rfl)
variable {a_ bM:Operand} {aS:List UInt8}
def WL.OC {t u e:TypeId} {v:Value}     (i:Nat) (C:dI ops l g) (D:Nat.blt d n=true) (k:hc P t e (.int .u8 0) 1 1) (p:P.underlying u=some .string)
   (E:bu l a_=some v) (G:bu l bM=some (st aS)) (hL:L[i]? = some (cq e 1 v ae ci)) (q:ae+aS.length<=140737488355328)
   (h:∀a,(a = .slice none 0 0↔v = .slice none 0 0/\aS.length=0)->WL P ops Q n ds ((d,a)::l) (Ws w0 F (L.set i (cq e 1 a (ae+aS.length) (ci++aS.map e_))) Vs) rest) :
   WL P ops Q n ds l (Ws w0 F L Vs) (⟨some d,.call ⟨.builtin .append,#[a_,bM],#[t,u]⟩,ty,pos,af,g⟩::rest):=by
 refine WL.step C λH w m r O I=>?_;obtain ⟨J,hi,s,x,y⟩:=k.info;have z:w.ownsRow 0 e 1 v ae ci:=r.kn _ (dY hL);have c:=yg aS;obtain ⟨a,w',A,B,f,o⟩:=Lib.run_append_own_string (P:=P) w 0 t u ty e J k.under p hi s x y v ae ci z ⟨aS.toArray⟩ (by rw [c]; unfold maxLen; omega) (by rw [c]; exact q) (cx _);have K:=OB k.under p hi s x y z (by rw [c]; exact q) A o;rw [c,On] at B;rw [c] at o
 have M:(execOp H.eval ⟨some d,.call ⟨.builtin .append,#[a_,bM],#[t,u]⟩,ty,pos,af,g⟩).run P w = .ok (.value a) w':=by
   simp only [execOp,resolve,xV,jn,qA,m.eval E,m.eval G,Sem.run_bind,Sem.run_pure,Result.andThen_ok,invoke,builtin,st,A]
 simp only [Oper.wp,M,Oper.upon_value];refine I _ _ (h a o _ _ (m.put D _) ?_);refine Ws.pV r i hL ⟨f.os,f.tape,f.output,f.size,λj b N=>f.block j b λe=>N ?_⟩ B ?_ λj b=>?_
 · simp [cq,<-e]
 · cases hv:a.ownBlock<;>simp [cq,hv]
 · simp only [cq,CA] at b ⊢
   rcases K with e | e
   · exact .inl (by rw [<-e]; exact b)
   · rw [e] at b; injection b with b; exact .inr Z
def WL.OD {a it e:TypeId}  {b c m:Nat}  (i:Nat) (q:dI ops l g) (r:Nat.blt d n=true) (s:P.underlying a=some (.pointer e)) (t:P.cellsOf e=1)
   (v:bu l a_=some (.pointer (some ⟨b,0,none⟩))) (x:bu l bM=some (.int .i64 (m:Int))) (y:aS.length=m) (hL:L[i]? = some (cq e 1 (.slice (some ⟨b,0,none⟩) m c) m (aS.map e_))) (z:aS≠[]) (A:m<=9223372036854775807)
   (h:WL P ops Q n ds ((d,st aS)::l) (Ws w0 F (eQ i L) Vs) rest) :
   WL P ops Q n ds l (Ws w0 F L Vs) (⟨some d,.call ⟨.builtin .unsafeString,#[a_,bM],#[a,it]⟩,ty,pos,af,g⟩::rest):=by
 refine WL.step q λB w k o N C=>?_;subst y;obtain ⟨cur,p,D,O,R,S⟩:=Ad (o.kn _ (dY hL));have E:=Di p
 have G:=Lib.run_unsafeString_row (P:=P) w a it ty e s t b cur.size E aS z Z A (λj u H=>by
   rw [mg];refine cell_of_heap p ?_
   have f:(aS.map e_)[j]? = some (e_ u):=by simp [H]
   rw [<-D,i6] at f
   split at f
   · simpa [gE,e_] using f
   · cases f)
 have I:(execOp B.eval ⟨some d,.call ⟨.builtin .unsafeString,#[a_,bM],#[a,it]⟩,ty,pos,af,g⟩).run P w = .ok (.value (st aS)) (w.freeze ⟨b,0,none⟩ aS.length):=by
   simp only [execOp,resolve,xV,jn,qA,k.eval v,k.eval x,Sem.run_bind,Sem.run_pure,Result.andThen_ok,invoke,builtin,st,G]
 simp only [Oper.wp,I,Oper.upon_value];refine C _ _ (h _ _ (k.put r _) ?_);have J:=o.perm (lp i L hL)
 have:=Ws.sS (L:=[cq e 1 (.slice (some ⟨b,0,none⟩) aS.length c) aS.length (aS.map e_)]) (L':=[]) (L2:=eQ i L) J (w':=w.freeze ⟨b,0,none⟩ aS.length) ⟨by unfold World.freeze; split<;>rfl,by unfold World.freeze; split<;>rfl,by unfold World.freeze; split<;>rfl,by unfold World.freeze; split<;>simp,λj T K=>by
   have M:j≠b:=λe=>K (by simp [cq,Value.ownBlock,e]);unfold World.freeze
   split
   · rfl
   · simp [xc,xW M]⟩ au au au
 simpa using this
end
def Hx (h:Ws bF aA cL dj dJ) (i:Nat)     (hL:cL[i]? = some (aE ae (.cells b0 aU s0))) {k:Nat}  (a:b0.toList[k]? = some aW):dJ.cell? ((⟨ae,0,none⟩:Addr).add k)=some aW:=by
 rw [mg];exact cell_of_heap (h.kn _ (dY hL)) (by simpa [gE] using a)
section
variable {P:Program} {ops:Array Oper} {Q:Exit->Act->World->Prop} {n:Nat} {ds:List Deferred} {l:List (Nat×Value)} {w0:World} {F:List Nat} {L:List ah} {Vs:List View} {rest:List Oper}
def WL.Hy {e:TypeId} {size m:Nat} {v:Value} {xs:List Value} (i:Nat) (hL:L[i]? = some (cq e size v m xs))
   (h:∀a k c,v = .slice a k c->WL P ops Q n ds l (Ws w0 F L Vs) rest):WL P ops Q n ds l (Ws w0 F L Vs) rest:=by
 intro a w f d;obtain ⟨o,g⟩:=(d.kn _ (dY hL):w.ownsRow 0 e size v m xs)
 rcases g with ⟨j,_⟩ | ⟨b,cap,cur,hv,_⟩
 · exact h _ _ _ j a w f d
 · exact h _ _ _ hv a w f d
end
def bv (b:Nat) (a:Obj):View:=λk=>if k=b then some a else none
def OE (h:gE aD aB=some aW):vc (bv ae aD) ae aB=some aW:=by simp [vc,bv,h]
def Ws.Af (h:Ws bF aA cL dj dJ) (i:Nat)   (hL:cL[i]? = some (aE ae aD)):Ws bF aA (eQ i cL) (bv ae aD::dj) dJ:=by
 have d:=h.perm (lp i cL hL);have c:Ws bF aA (eQ i cL) dj dJ:=Ws.drop (L:=[aE ae aD]) d;have j:dJ.heap[ae]? = some aD:=h.kn _ (dY hL);have nd:=d.nd;rw [i7,mb] at nd;refine ⟨c.fr,c.kn,c.nd,c.own,?_,?_⟩
 · intro H b
   rcases et.1 b with rfl | b
   · intro k o a
     unfold bv at a
     split at a
     · rename_i e; subst e; injection a with a; subst a; exact j
     · cases a
   · exact c.vs H b
 · intro H b f g k a
   rcases et.1 b with rfl | b
   · unfold bv
     rw [av];intro e;subst e;exact nd.2.2 k (by simp [aE]) k (ku.2 ⟨f,g,a⟩) O
   · exact c.off H b f g k a
section
variable {P:Program} {ops:Array Oper} {Q:Exit->Act->World->Prop} {n:Nat} {ds:List Deferred} {l:List (Nat×Value)} {w0:World} {F:List Nat} {L:List ah} {Vs:List View} {rest:List Oper}
def WL.Af {b:Nat} {a:Obj} (i:Nat) (hL:L[i]? = some (aE b a)) (h:WL P ops Q n ds l (Ws w0 F (eQ i L) (bv b a::Vs)) rest):WL P ops Q n ds l (Ws w0 F L Vs) rest:=
 LW (λ_ c=>c.Af i hL) h
def WC.shape {c:Code} {e:TypeId} {size m:Nat} {v:Value} {xs:List Value} (i:Nat) (hL:L[i]? = some (cq e size v m xs)) (p:0<m)
   (h:∀b k,v = .slice (some ⟨b,0,none⟩) m k->m<=k->k<=maxLen->WC P c Q n ds l (Ws w0 F L Vs)):WC P c Q n ds l (Ws w0 F L Vs):=by
 intro a w f d;obtain ⟨q,g⟩:=(d.kn _ (dY hL):w.ownsRow 0 e size v m xs)
 rcases g with ⟨r,s⟩ | ⟨b,cap,cur,hv,_,_,j,o,_⟩
 · omega
 · exact h b cap hv j o a w f d
end
section
variable {P:Program} {l:List (Nat×Value)} {W:World->Prop} {d:Option Tmp} {ty:TypeId} {pos:String} {af:Array Edge} {g:Option (Nat×Bool)}
variable {dt:TypeId} {a_ bM:Operand} {aL cg:Int}
def uq (v:Int) (a:bu l a_=some (.int .i64 aL)) (b:bu l bM=some (.int .i64 cg)) (c:aL+cg=v) (e : -9223372036854775808<=v/\v<=9223372036854775807):Yl P l W ⟨d,.binOp .add aU a_ bM dt,ty,pos,af,g⟩ (.int .i64 v):=by
 subst c; exact C9 a b e
def n_ (v:Int) (a:bu l a_=some (.int .i64 aL)) (b:bu l bM=some (.int .i64 cg)) (c:aL-cg=v) (e : -9223372036854775808<=v/\v<=9223372036854775807):Yl P l W ⟨d,.binOp .sub aU a_ bM dt,ty,pos,af,g⟩ (.int .i64 v):=by
 subst c; exact z4 a b e
end
def mh (size:Nat):Nat->List (Nat×Value)->Bool
 | _,[]=>true
 | k,(i,v)::r=>Nat.beq i k&&Nat.beq (dO v).length size&&mh size (k+1) r
def v7:List (Nat×Value)->List Value
 | []=>[]
 | (_,v)::r=>dO v++v7 r
def Hz (size:Nat):∀(vs:List (Nat×Value)) (k:Nat) (done rest:List Value),mh size k vs=true->done.length=k*size->rest.length=vs.length*size->
   qE (λi=>some (i*size,size)) (done++rest) vs=some (done++v7 vs)
 | [],k,done,rest,_,_,a=>by
   have:rest=[]:=rL (by simpa using a);simp [qE,v7,this]
 | (i,v)::r,k,done,rest,e,c,a=>by
   simp only [mh,ew] at e;obtain ⟨⟨d,b⟩,f⟩:=e;have d:=i5 d;subst d;have b:=i5 b
   have l:size<=rest.length:=by rw [a,b5,sK]; omega
   have g:(Nat.beq (dO v).length size&&Nat.ble (i*size+size) (done++rest).length)=true:=by
     rw [b,vK,n6];exact xX (by simp; omega)
   simp only [qE,g,qC]
   have h:(done++rest).take (i*size)=done:=by rw [<-c]; simp
   have j:(done++rest).drop (i*size+size)=rest.drop size:=by
     rw [qa,c,GR Z];simp
   rw [h,j];have:=Hz size r (i+1) (done++dO v) (rest.drop size) f (by simp [c,b,sK]) (by simp [a,sK]);rw [this];simp [v7]
def OF (a:Value) (k:Nat):(sW a k).length=k:=by simp [sW]
section
variable {P:Program} {ops:Array Oper} {Q:Exit->Act->World->Prop} {n:Nat} {ds:List Deferred} {l:List (Nat×Value)} {w0:World} {F:List Nat} {L:List ah} {Vs:List View} {rest:List Oper} {d:Nat} {ty:TypeId} {pos:String} {af:Array Edge} {g:Option (Nat×Bool)}
def Lb {t e:TypeId} {len size c:Nat} {parts:List (Nat×Operand)} {a:Value} {vs:List (Nat×Value)} (f:dI ops l g) (i:Nat.blt d n=true) (j:hc P t e a size c)
   (hv:rT l parts=some vs) (k:Nat.ble (len*size) 16777216=true) (m:mh size 0 vs=true) (o:vs.length=len)
   (h:∀b,WL P ops Q n ds ((d,.slice (some ⟨b,0,none⟩) len len)::l) (Ws w0 F (aE b (.cells (v7 vs).toArray e (0,0))::L) Vs) rest) :
   WL P ops Q n ds l (Ws w0 F L Vs) (⟨some d,.buildSlice t len parts.toArray,ty,pos,af,g⟩::rest):=by
 refine WL.qI f i j hv k (out:=v7 vs) ?_ h
 have p:(bif Nat.beq (len*size) 0 then [] else sW a (len*size))=sW a (len*size):=by
   cases q:Nat.beq (len*size) 0 with
   | false=>rfl
   | true=>have:=i5 q; rw [this]; rfl
 rw [p];have:=Hz size vs 0 [] (sW a (len*size)) m au (by rw [OF,o])
 simpa using this
end
inductive Ord where
 | nil
 | stop
 | q (i:Nat) (r:Ord)
 | e (i:Nat) (r alt:Ord)
def Ord.alts:Ord->List Nat
 | .e i _ a=>i::a.alts
 | _=>[]
def bG (md:Region.Mode) (ops:Array Oper):Bool->Ord->Nat->Array Bool->Bool
 | top,.nil,k,listed=>top&&(Nat.beq k 0&&(Region.ready md ops listed).isEmpty)
 | top,.stop,_,_=>!top
 | top,.q i r,k,listed=>match k with
   | 0=>false
   | k+1=>top&&((Region.ready md ops listed).contains i&&Region.free md ops listed i&&bG md ops true r k (listed.setIfInBounds i true))
 | top,.e i r alt,k,listed=>match k with
   | 0=>false
   | k+1=>(bif top then Region.ready md ops listed==i::alt.alts else true)&&(bG md ops true r k (listed.setIfInBounds i true)&&bG md ops false alt (k+1) listed)
section
variable {P:Program} {md:Region.Mode} {ops:Array Oper} {C:World->Prop} {Q:Exit->Act->World->Prop}
def qL (P:Program) (ops:Array Oper) (C:World->Prop) (Q:Exit->Act->World->Prop):Ord->Act->World->Prop
 | .nil,a,w=>C w/\Q .normal a w
 | .stop,_,_=>True
 | .q i r,a,w=>C w/\∃o v,ops[i]? = some o/\YV P ops C o v a/\qL P ops C Q r (a.put o.dst v) w
 | .e i r alt,a,w=>C w/\(wpOp P ops Q i (qL P ops C Q r) a w/\qL P ops C Q alt a w)
def Ah (l:Region.noSelect ops=true) (m:∀c a w d v,Q (.panic c) (a.put d v) w->Q (.panic c) a w):∀(o:Ord) (k:Nat) (f:Array Bool) (a:Act) (w:World),
   (bG md ops true o k f=true->qL P ops C Q o a w->pW P md ops C Q k f a w)/\
   (bG md ops false o k f=true->qL P ops C Q o a w->∀j ∈ o.alts,∃n,k=n+1/\wpOp P ops Q j (pW P md ops C Q n (f.setIfInBounds j true)) a w)
 | .nil,k,f,a,w=>by
   refine ⟨λb h=>?_,λb=>by simp [bG] at b⟩;simp only [bG,n6,ew] at b;obtain rfl:=i5 b.1;exact ⟨h.1,by simpa using b.2,h.2⟩
 | .stop,k,f,a,w=>⟨λb=>by simp [bG] at b,λ_ _ j g=>by simp [Ord.alts] at g⟩
 | .q i r,k,f,a,w=>by
   cases k with
   | zero=>exact ⟨λb=>by simp [bG] at b,λb=>by simp [bG] at b⟩
   | succ k=>
     refine ⟨λb h=>?_,λb=>by simp [bG] at b⟩;simp only [bG,n6,ew] at b;obtain ⟨hC,o,v,s,u,h⟩:=h
     exact Db s (Region.noSelect_spec l) (λc a w=>m c a w o.dst v) k f a w (Region.free_spec s b.1.2) (by simpa using b.1.1) u hC
       ((Ah l m r k _ _ _).1 b.2 h)
 | .e i r alt,k,f,a,w=>by
   cases k with
   | zero=>exact ⟨λb=>by simp [bG] at b,λb=>by simp [bG] at b⟩
   | succ k=>
     have t:bG md ops true r k (f.setIfInBounds i true)=true->bG md ops false alt (k+1) f=true->qL P ops C Q (.e i r alt) a w->
         ∀j ∈ i::alt.alts,wpOp P ops Q j (pW P md ops C Q k (f.setIfInBounds j true)) a w:=by
       intro x y h j g
       rcases et.1 g with rfl | g
       · exact wpOp_mono (λz w' A=>(Ah l m r k _ z w').1 x A) h.2.1
       · obtain ⟨n,p,B⟩:=(Ah l m alt (k+1) f a w).2 y h.2.2 j g
         injection p with p
         subst p;exact B
     refine ⟨λb h=>?_,λb h j g=>?_⟩
     · simp only [bG,qC,ew,kW] at b
       refine ⟨h.1,λD=>(by rw [D] at b; cases b.1),λj g=>?_⟩;rw [b.1] at g;exact t b.2.1 b.2.2 h j g
     · simp only [bG,x2,n6,ew] at b
       exact ⟨k,O,t b.1 b.2 h j g⟩
def OG {a:Act} {w:World}  (ord:Ord) (e:P.follows .mixedOrders=true) (b:(Region.noSelect bC.toArray&&bG .any bC.toArray true ord bC.toArray.size (Array.replicate bC.toArray.size false))=true)
   (f:∀c a w d v,Q (.panic c) (a.put d v) w->Q (.panic c) a w) (h:qL P bC.toArray C Q ord a w.drew):(Code.region ae bC.toArray true).wp P Q a w:=by
 simp only [ew] at b;have:=Ab (md:=.any) _ _ _ _ ((Ah b.1 f ord _ _ a w.drew).1 b.2 h);exact wp_region_any e this
variable {n:Nat} {ds:List Deferred} {l:List (Nat×Value)} {W:World->Prop}
def WT (P:Program) (ops:Array Oper) (C:World->Prop) (Q:Exit->Act->World->Prop) (n:Nat) (ds:List Deferred) (l:List (Nat×Value)) (W:World->Prop) (ord:Ord):Prop:=
 ∀a w,Ag n ds l a->W w->qL P ops C Q ord a w
variable {Ai:Ord}
def WT.q {i d:Nat} {op:Op} {ty:TypeId} {pos:String} {af:Array Edge} {g:Option (Nat×Bool)} {v:Value} (hi:ops[i]? = some ⟨some d,op,ty,pos,af,g⟩) (e:dI ops l g) (f:Nat.blt d n=true)
   (hC:∀w,W w->C w) (j:Yl P l C ⟨some d,op,ty,pos,af,g⟩ v) (h:WT P ops C Q n ds ((d,v)::l) W Ai):WT P ops C Q n ds l W (.q i Ai):=by
 intro a w b c;refine ⟨hC w c,_,v,hi,.inl ⟨dI.wanted (o:=⟨some d,op,ty,pos,af,g⟩) e b,λw' k=>j a.eval w' (λx u m=>b.eval m) k⟩,h _ _ (b.put f v) c⟩
def WT.e {r g:Ord}  {o:Oper} (hi:ops[ae]? = some o) (hC:∀w,W w->C w) (h:WL P ops (Exit.then (qL P ops C Q r) Q) n ds l W [o]) (c:WT P ops C Q n ds l W g):WT P ops C Q n ds l W (.e ae r g):=by
 intro a w i d;refine ⟨hC w d,?_,c a w i d⟩;have:=h a w i d;unfold wpList at this;unfold wpOp;simp only [hi]
 split
 · rename_i f
   rw [a8 f] at this
   rcases this with this | ⟨j,a2,k,c⟩
   · left
     unfold Oper.wp at this ⊢;unfold Oper.upon at this ⊢
     split at this
     all_goals first
       | exact this
       | (refine this.mono λe w' b=>?_
          cases e with
          | returned v=>exact b
          | panicked q=>exact b
          | outgrown=>obtain ⟨a3,m,p⟩:=b; exact ⟨a3,m,p⟩)
       | exact this.mono λv w' b=>b
   · exact .inr ⟨j,a2,k,c⟩
 · rename_i f
   rw [av f] at this;exact this
def WT.stop:WT P ops C Q n ds l W .stop:=λ_ _ _ _=>trivial
def hz (h:WT P ops C Q n ds l W Ai):WE (Exit.then (qL P ops C Q Ai) Q) .normal n ds l W:=h
def WT.nil (hC:∀w,W w->C w) (h:WE Q .normal n ds l W):WT P ops C Q n ds l W .nil:=λa w c b=>⟨hC w b,h a w c b⟩
def WC.HA {b:World} {F:List Nat} {L:List ah} {Vs:List View} (ord:Ord) (e:P.follows .mixedOrders=true) (f:(Region.noSelect bC.toArray&&bG .any bC.toArray true ord bC.toArray.size (Array.replicate bC.toArray.size false))=true)
   (g:∀c a w d v,Q (.panic c) (a.put d v) w->Q (.panic c) a w) (h:WT P bC.toArray (Ws b F L Vs) Q n ds l (Ws b F L Vs) ord):WC P (.region ae bC.toArray true) Q n ds l (Ws b F L Vs):=
 λa w i j=>OG ord e f g (h a w.drew i j.drew)
end
abbrev cQ:=List UInt8×Value×Nat
def mX (e:cQ):MapEntry:={ key:=st e.1,val:=e.2.1,born:=e.2.2 }
def o4 (m:List cQ) (c:Nat):Obj:=.map (m.map mX).toArray c
def cR (k:List UInt8):List cQ->Nat->Option (Nat×Value)
 | [],_=>none
 | e::r,i=>if (k==e.1)=true then some (i,e.2.1) else cR k r (i+1)
def v8 (k:List UInt8) (v:Value) (m:List cQ) (c:Nat):List cQ:=match cR k m 0 with
 | some (i,_)=>m.modify i λe=>(k,v,e.2.2)
 | none=>m++[(k,v,c)]
def v9 (k:List UInt8) (m:List cQ) (c:Nat):Nat:=match cR k m 0 with | some _=>c | none=>c+1
def yh (k:List UInt8) (m:List cQ) (a:Value):Value:=match cR k m 0 with | some (_,v)=>v | none=>a
def Dj (a b:List UInt8):(ByteArray.mk a.toArray==ByteArray.mk b.toArray)=(a==b):=by
 show (a.toArray==b.toArray)=_
 simp
def OH (m:List cQ) (j:Nat) (k:List UInt8) (v:Value):(m.map mX).modify j (λe=>{ e with key:=st k,val:=v })=(m.modify j λe=>(k,v,e.2.2)).map mX:=by
 apply pS;intro i;simp only [x1,gS]
 cases m[i]? with
 | none=>simp
 | some e=>by_cases h:j=i<;>simp [h,mX]
def Dk (k:List UInt8):∀(m:List cQ) (i:Nat),Instr.findNow .string (st k) (m.map mX) i=some (cR k m i)
 | [],_=>rfl
 | e::r,i=>by
   simp only [jn,Instr.findNow,mX,st,Instr.sameNow,Dj,cR];cases h:(k==e.1)
   · simp only [aw,cn]
     exact Dk k r (i+1)
   · simp
section
variable {P:Program} {ops:Array Oper} {Q:Exit->Act->World->Prop} {n:Nat} {ds:List Deferred} {l:List (Nat×Value)} {w0:World} {F:List Nat} {L:List ah} {Vs:List View} {rest:List Oper} {d:Nat} {ty:TypeId} {pos:String} {af:Array Edge} {g:Option (Nat×Bool)}
def WL.OI (a:dI ops l g) (c:Nat.blt d n=true)
   (h:∀b,WL P ops Q n ds ((d,.map (some b))::l) (Ws w0 F (aE b (o4 [] 0)::L) Vs) rest) :
   WL P ops Q n ds l (Ws w0 F L Vs) (⟨some d,.makeMap aU none,ty,pos,af,g⟩::rest):=
 WL.new (mk:=λb=>.map (some b)) (o:=o4 [] 0) a c (λe w _ _=>by
   simp only [execOp]
   simp [Instr.makeMap,o4]) h
variable {iK:Option Tmp} {dt iJ:TypeId} {qM:List cQ} {aS:List UInt8}
def OJ {x y:Operand}     (i:Nat) (c:P.underlying aU=some (.map dt iJ)) (a:P.underlying dt=some .string) (d:zeroOf P iJ=some aW) (e:bu l x=some (.map (some ae))) (f:bu l y=some (st aS)) (hL:L[i]? = some (aE ae (o4 qM aB))) :
   Yl P l (Ws w0 F L Vs) ⟨iK,.lookup aU x y false,ty,pos,af,g⟩ (yh aS qM aW):=by
 intro p w b h;have j:w.heap[ae]? = some (.map (qM.map mX).toArray aB):=h.kn _ (dY hL);have m:=Dk aS qM 0;have n:(Instr.checkKey (qM.map mX).toArray.isEmpty 10000 dt (st aS)).run P w = .ok () w:=MapKept.run_checkKey (k:=st aS) a (by simp [MapKept.IsKey,st]) _ 9999
 have o:(Instr.lookup aU (.map (some ae)) (st aS) false).run P w = .ok (yh aS qM aW) w:=by
   simp only [Instr.lookup,Sem.run_bind,run_underlying c,Result.andThen_ok,MapKept.run_getObj_map j,Sem.run_pure,n];rw [MapKept.run_findKey a (by simpa using m)];unfold yh
   cases q:cR aS qM 0 with
   | none=>simp [Result.andThen_ok,uk d]
   | some r=>obtain ⟨i,v⟩:=r; simp [Result.andThen_ok]
 simp [execOp,b x _ e,b y _ f,o]
def OK {x:Operand}   (i:Nat) (a:P.underlying aU=some (.map dt iJ)) (b:bu l x=some (.map (some ae))) (hL:L[i]? = some (aE ae (o4 qM aB))) :
   Yl P l (Ws w0 F L Vs) ⟨iK,.call ⟨.builtin .len,#[x],#[aU]⟩,ty,pos,af,g⟩ (.int .i64 (qM.length:Int)):=by
 intro f w c d;have e:w.heap[ae]? = some (.map (qM.map mX).toArray aB):=d.kn _ (dY hL);simp [execOp,resolve,invoke,builtin,c x _ b,Builtin.len_,run_underlying a,MapKept.run_getObj_map e,goInt]
def WL.OL {t o e:TypeId} {x y u:Operand}  {m:List cQ}   (i:Nat) (A:dI ops l g) (B:P.underlying t=some (.map o e)) (c:P.underlying o=some .string) (C:bu l x=some (.map (some ae))) (D:bu l y=some (st aS)) (E:bu l u=some aW) (hL:L[i]? = some (aE ae (o4 m aB)))
   (h:WL P ops Q n ds l (Ws w0 F (L.set i (aE ae (o4 (v8 aS aW m aB) (v9 aS m aB)))) Vs) rest) :
   WL P ops Q n ds l (Ws w0 F L Vs) (⟨none,.mapUpdate t x y u,ty,pos,af,g⟩::rest):=by
 refine WL.step A λa w d s W G=>?_;have f:w.heap[ae]? = some (.map (m.map mX).toArray aB):=s.kn _ (dY hL);have H:=Dk aS m 0;have I:(Instr.checkKey false 10000 o (st aS)).run P w = .ok () w:=MapKept.run_checkKey (k:=st aS) c (by simp [MapKept.IsKey,st]) _ 9999
 have J:(Instr.mapUpdate t (.map (some ae)) (st aS) aW).run P w = .ok () { w with heap:=w.heap.setIfInBounds ae (o4 (v8 aS aW m aB) (v9 aS m aB)) }:=by
   simp only [Instr.mapUpdate,Sem.run_bind,run_underlying B,Result.andThen_ok,MapKept.run_getObj_map f,Sem.run_pure,I];rw [MapKept.run_findKey c (by simpa using H)];unfold v8 v9
   cases K:cR aS m 0 with
   | none=>simp [Result.andThen_ok,MapKept.run_setObj_map _ f,o4,mX,st]
   | some r=>
     obtain ⟨j,M⟩:=r
     have p:m[j]?.map (·.1)=some aS:=by
       have key:∀(m:List cQ) (b:Nat),cR aS m b=some (j,M)->b<=j/\(m[j-b]?).map (·.1)=some aS:=by
         intro m
         induction m with
         | nil=>intro b h; simp [cR] at h
         | cons e r N=>
           intro b h;simp only [cR] at h
           split at h
           · rename_i c
             injection h with h; injection h with v z
             subst v;simp at c;simp [c]
           · obtain ⟨v,z⟩:=N (b+1) h
             refine ⟨Z,?_⟩
             have:j-b=(j-(b+1))+1:=Z
             rw [this]; simpa using z
       simpa using (key m 0 K).2
     have R:((((m.map mX).toArray)[j]?).map (·.key)).getD (st aS)=st aS:=by
       cases q:m[j]? with
       | none=>simp [q]
       | some e=>rw [q] at p; simp at p; simp [q,mX,p]
     simp only [R,Result.andThen_ok]
     have S:(Instr.keyThatStays (st aS) (st aS)).run P w = .ok (st aS) w:=by
       simp [Instr.keyThatStays,Instr.sameBits,st,Dj]
     simp only [Sem.run_bind,S,Result.andThen_ok,MapKept.run_setObj_map _ f,o4]
     have T:(m.map mX).toArray.modify j (λe=>{ e with key:=st aS,val:=aW })=((m.modify j λe=>(aS,aW,e.2.2)).map mX).toArray:=by
       apply t';rw [xB];exact OH m j aS aW
     rw [T]
 have U:(execOp a.eval ⟨none,.mapUpdate t x y u,ty,pos,af,g⟩).run P w = .ok .skip { w with heap:=w.heap.setIfInBounds ae (o4 (v8 aS aW m aB) (v9 aS m aB)) }:=by
   simp only [execOp,d.eval C,d.eval D,d.eval E,Sem.run_bind,J,Result.andThen_ok,Sem.run_pure]
 simp only [Oper.wp,U,Oper.upon_skip];refine G _ _ (h _ _ (d.uf undef) ?_);refine Ws.pV s i hL ⟨O,O,O,au,λj X V=>?_⟩ ?_ (by simp [aE]) (by simp [aE])
 · have:ae≠j:=λe=>V (by simp [aE,e])
   simp [qz this]
 · show (w.heap.setIfInBounds ae _)[ae]? = _
   simp [lt_of_heap f]
def WL.HB {e:TypeId} {size m:Nat} {v:Value} {xs:List Value} (i:Nat) (hL:L[i]? = some (cq e size v m xs))
   (h:∀a k,v = .slice a m k->WL P ops Q n ds l (Ws w0 F L Vs) rest):WL P ops Q n ds l (Ws w0 F L Vs) rest:=by
 intro a w d c;obtain ⟨o,f⟩:=(c.kn _ (dY hL):w.ownsRow 0 e size v m xs)
 rcases f with ⟨g,j⟩ | ⟨b,cap,cur,hv,_⟩
 · exact h none 0 (by rw [g,j]) a w d c
 · exact h _ _ hv a w d c
end
section
variable {P:Program} {ops:Array Oper} {Q:Exit->Act->World->Prop} {n:Nat} {ds:List Deferred} {l:List (Nat×Value)} {W:World->Prop} {w0:World} {F:List Nat} {L:List ah} {Vs:List View}
 {rest:List Oper} {d:Nat} {ty:TypeId} {pos:String} {af:Array Edge} {g:Option (Nat×Bool)}
variable {du:FuncId} {gU:Array TypeId}
def yi {ι κ:Type}  {args:Array Operand}   (f L2:List ah) (s:dI ops l g) (t:Nat.blt d n=true) (u:Enters P du) (x:g2 l args.toList=some ci) (hL:L=f++L2)
   (v:ι->Value) (m:ι->List ah) (R:ι->Prop) (o:κ->List PanicEntry) (Lp:κ->List ah) (p:κ->Prop) (b9:List View) (y:∀H ∈ b9,H ∈ Vs)
   (hC:∀w,Ws w (f.flatMap ah.ids) f b9 w->Calls P du ci.toArray w λe w'=>(∃i,e = .returned (v i)/\R i/\Ws w (f.flatMap ah.ids) (m i) b9 w')\/(∃j,e = .panicked (o j)/\p j/\Ws w (f.flatMap ah.ids) (Lp j) b9 w'))
   (z:∀j,p j->WE Q (.panic (o j)) n ds l (Ws w0 F (Lp j++L2) Vs))
   (A:∀i,R i->WL P ops Q n ds ((d,v i)::l) (Ws w0 F (m i++L2) Vs) rest) :
   WL P ops Q n ds l (Ws w0 F L Vs) (⟨some d,.call ⟨.value (.func du),args,gU⟩,ty,pos,af,g⟩::rest):=by
 subst hL;refine WL.vY s t u x v (λi w'=>R i/\Ws w0 F (m i++L2) Vs w') (λc w'=>∃j,c=o j/\p j/\Ws w0 F (Lp j++L2) Vs w') (λw b=>(hC w (b.self.cK y)).mono λe w' h=>?_) (λi=>?_) (λc=>?_)
 · rcases h with ⟨i,q,k,h⟩ | ⟨j,q,k,h⟩
   · exact .inl ⟨i,q,k,b.back h⟩
   · exact .inr ⟨_,q,j,O,k,b.back h⟩
 · intro a w r b
   exact A i b.1 a w r b.2
 · rintro a w r ⟨j,rfl,k,b⟩
   exact z j k a w r b
variable {iX:World->Prop} {iK:Option Tmp} {a_:Operand}
def pZ (a:P.concrete aU=true) (b:bu l a_=some aW):Yl P l iX ⟨iK,.makeInterface aU a_,ty,pos,af,g⟩ (.iface aU aW):=
 λd w c _=>by
   have e:(Instr.makeInterface aU aW).run P w = .ok (.iface aU aW) w:=run_makeInterface (h:=a) ..;simp [execOp,c a_ aW b,e]
def WL.panic (c:dI ops l g) (d:bu l a_=some (.iface aU aW)) (h:WE Q (.panic [⟨.iface aU aW,false,false⟩]) n ds l W):WL P ops Q n ds l W (⟨iK,.panic a_,ty,pos,af,g⟩::rest):=by
 refine WL.step c λa w b f i j=>?_
 have:(execOp a.eval ⟨iK,.panic a_,ty,pos,af,g⟩).run P w = .halt (.panic (.iface aU aW)) w:=by
   have e:(Instr.panic (.iface aU aW)).run P w = .halt (.panic (.iface aU aW)) w:=rfl;simp [execOp,b.eval d,e]
 simp only [Oper.wp,this,Oper.upon_panic];exact h a w b f
def WL.defer (c:dI ops l g) (d:bu l a_=some (.func (.func du) #[] ci.toArray))
   (h:WL P ops Q n (⟨.fn (.func du) ci.toArray,#[]⟩::ds) l W rest):WL P ops Q n ds l W (⟨none,.defer ⟨.value a_,#[],gU⟩,ty,pos,af,g⟩::rest):=by
 refine WL.step c λa w b e i f=>?_
 have:(execOp a.eval ⟨none,.defer ⟨.value a_,#[],gU⟩,ty,pos,af,g⟩).run P w = .ok (.defer ⟨.fn (.func du) ci.toArray,#[]⟩) w:=by
   simp [execOp,resolve,b.eval d,Deferred.ofValue]
 simp only [Oper.wp,this,Oper.upon_defer];refine f _ _ (h _ _ ⟨b.size,?_,b.bl⟩ e)
 show _::a.defers=_
 rw [b.defs]
variable {eC:Func} {fd:Code} {fI:Ending->World->Prop}
def Aj {w:World}  (c:P.funcs[du]? = some eC) (d:eC.body=some fd)
   (m:Nat) (e:eC.ntmps=m) (f:Nat.ble ci.length m=true) (h:WC P fd (bodyPostD P eC fI) m [] (uh 0 ci) (λw'=>w'=w)):Calls P du ci.toArray w fI:=by
 refine calls_of_wp_defers c d (h _ _ ?_ O);have g:=pP f;subst e;refine ⟨by simp; omega,O,λt v hv=>?_⟩;obtain ⟨_,a⟩:=C7 ci 0 t v hv;simp only [pQ] at a
 have b:t<ci.length:=by
   rcases lm t ci.length with h | h
   · exact h
   · simp [tZ h] at a
 simp [jm,zJ,b];simp [dM b] at a;exact a
def Rs (P:Program) (fn:Func) (l:List (Nat×Value)) (W:World->Prop) (v:Value):Prop:=∀(tmps:Array Value) w,(∀t u,lk l t=some u->tmps.getD t undef=u)->W w->(results fn tmps).run P w = .ok v w
def o5 (tmps:Array Value):ResultVar->Sem Value
 | .tmp t=>pure (tmps.getD t undef)
 | .cell a t=>do loadVar t (<-asAddr (tmps.getD a undef))
def yj (fn:Func) (tmps:Array Value):results fn tmps=(do let vs <-fn.results.mapM (o5 tmps); pure (if h:vs.size=1 then vs[0] else .tuple vs)):=by
 have e:(λr:ResultVar=>match r with | .tmp t=>(pure (tmps.getD t undef):Sem Value) | .cell a t=>do loadVar t (<-asAddr (tmps.getD a undef)))=o5 tmps:=by funext r; cases r<;>rfl
 rw [<-e]; rfl
def rV (P:Program) (l:List (Nat×Value)) (W:World->Prop) (r:ResultVar) (v:Value):Prop:=∀(tmps:Array Value) w,(∀t u,lk l t=some u->tmps.getD t undef=u)->W w->(o5 tmps r).run P w = .ok v w
def hV (h:lk l ae=some aW):rV P l W (.tmp ae) aW:=λtmps w a _=>by simp only [o5,a ae aW h,Sem.run_pure]
def hA {a b o:Nat}    (i:Nat) (c:lk l a=some (.pointer (some ⟨b,o,none⟩))) (hL:L[i]? = some (aE b aD)) (d:gE aD o=some aW) (e:mS P aU=true):rV P l (Ws w0 F L Vs) (.cell a aU) aW:=λtmps w h f=>by
 simp only [o5,h a _ c,asAddr,Sem.run_bind,Sem.run_pure,Result.andThen_ok,G' e (cell_of_heap (f.kn _ (dY hL)) d)]
def ej {a b o k:Nat}   (i:Nat) (d:lk l a=some (.pointer (some ⟨b,o,none⟩))) (hL:L[i]? = some (aE b aD)) (e:ig P aU=some k) (f:(cellsIn aD o k).length=k):rV P l (Ws w0 F L Vs) (.cell a aU) (.agg (cellsIn aD o k).toArray):=λtmps w h g=>by
 have m:(loadVar aU ⟨b,o,none⟩).run P w = .ok (.agg (cellsIn aD o k).toArray) w:=z2 e f λj v c=>by
   have n:w.heap[b]? = some aD:=g.kn _ (dY hL);refine cell_of_heap n ?_
   cases aD<;>simp [cellsIn,gE] at *
   rw [i6] at c
   split at c
   · simpa using c
   · cases c
 simp only [o5,h a _ d,asAddr,Sem.run_bind,Sem.run_pure,Result.andThen_ok,m]
def hW {r:ResultVar}  (a:eC.results = #[r]) (h:rV P l W r aW):Rs P eC l W aW:=λtmps w b c=>by
 have d:=h tmps w b c;simp [yj,a,vM,t_,CH,d]
variable {v':Value}
def hX {r s:ResultVar}  (c:eC.results = #[r,s]) (h:rV P l W r aW) (d:rV P l W s v'):Rs P eC l W (.tuple #[aW,v']):=λtmps w a b=>by
 have e:=h tmps w a b;have f:=d tmps w a b;simp [yj,c,vM,t_,CH,e,f]
def o6 {r s u:ResultVar} {v x y:Value} (c:eC.results = #[r,s,u]) (h:rV P l W r v) (d:rV P l W s x) (e:rV P l W u y):Rs P eC l W (.tuple #[v,x,y]):=λtmps w a b=>by
 have f:=h tmps w a b;have g:=d tmps w a b;have i:=e tmps w a b;simp [yj,c,vM,t_,CH,f,g,i]
def WE.fm (d:Rs P eC l W aW) (h:∀w,W w->fI (.returned aW) w):WE (bodyPost P eC fI) .ret n [] l W:=
 λa w b c=>bodyPost_ret (d a.tmps w b.bl c) b.defs (h w c)
def WE.Dl (f:Enters P du)
   (hC:∀w,W w->CallsD P du ci.toArray .returning w λe b w'=>e = .returned (.tuple #[])/\b = .returning/\iX w')
   (g:Rs P eC l iX aW) (h:∀w,iX w->fI (.returned aW) w):WE (bodyPostD P eC fI) .ret n [⟨.fn (.func du) ci.toArray,#[]⟩] l W:=by
 intro a w c i
 show Leaves P eC a.tmps fI a.defers .returning w
 rw [c.defs];refine ⟨au,.func du,ci.toArray,du,ci.toArray,O,?_,(hC w i).mono λe b w' j=>?_⟩
 · simp only [invoke]
   simpa using f ci.toArray w
 · obtain ⟨rfl,rfl,d⟩:=j
   exact ⟨aW,g a.tmps w' c.bl d,h w' d⟩
def WE.cA (f:Enters P du)
   (hC:∀w,W w->CallsD P du ci.toArray (.panicking [⟨v',false,false⟩]) w λe b w'=>e = .returned (.tuple #[])/\b = .panicking [⟨v',true,false⟩]/\iX w')
   (g:Rs P eC l iX aW) (h:∀w,iX w->fI (.returned aW) w):WE (bodyPostD P eC fI) (.panic [⟨v',false,false⟩]) n [⟨.fn (.func du) ci.toArray,#[]⟩] l W:=by
 intro a w c i
 show Leaves P eC a.tmps fI a.defers (.panicking [⟨v',false,false⟩]) w
 rw [c.defs];refine ⟨au,.func du,ci.toArray,du,ci.toArray,O,?_,(hC w i).mono λe b w' j=>?_⟩
 · simp only [invoke]
   simpa using f ci.toArray w
 · obtain ⟨rfl,rfl,d⟩:=j
   exact ⟨aW,g a.tmps w' c.bl d,h w' d⟩
def WE.fC (d:Rs P eC l W aW) (h:∀w,W w->fI (.returned aW) w):WE (bodyPostD P eC fI) .ret n [] l W:=by
 intro a w b c
 show Leaves P eC a.tmps fI a.defers .returning w
 rw [b.defs];exact ⟨aW,d a.tmps w b.bl c,h w c⟩
def HC (u:FrameMode) (rv:Value) (a:FrameMode):Prop:=(u = .returning/\rv = .nilIface/\a = .returning)\/∃v,u = .panicking [⟨v,false,false⟩]/\rv=v/\a = .panicking [⟨v,true,false⟩]
variable {aC:Oper}
def OM {c:Frame} {cs:List Frame} {a:Act} {w:World}  {d:FrameMode} {Q:Exit->Act->World->Prop} {i:Exit->Act->List Frame->World->Prop}
   (p:aC.dst=some aB) (q:aC.guard=none) (l:(execOp a.eval aC).run P w = .ok .recover w) (r:HC c.mode aW d)
   (m:∀e a w,Q e a w->i e a ({ c with mode:=d }::cs) w)
   (h:wpList P (aC::bC).toArray (Exit.then (fd.wp P Q) Q) bC (a.put (some aB) aW) w):(Code.seq (.region ae (aC::bC).toArray false) fd).wpS P i a (c::cs) w:=by
 refine wpS_seq ?_;intro b k s E;have n:(aC::bC).toArray[0]? = some aC:=rfl
 have t:Region.wanted aC (yielded (aC::bC).toArray a.tmps)=true:=by simp [Region.wanted,q]
 have u:=stepG_op (P:=P) (b:=b) (k:=k) (cs:=c::cs) (w:=w) (rest:=List.range' 1 bC.length) n t;have x:(b.at a (.inRegion (aC::bC).toArray (0::List.range' 1 bC.length)::k)).kind = .deferred:=s;have g:=tryRecover_deferred x (c::cs)
 have y:∀v,(b.at a (.inRegion (aC::bC).toArray (0::List.range' 1 bC.length)::k)).finish v=b.at (a.put (some aB) v) (.inRegion (aC::bC).toArray (List.range' 1 bC.length)::k):=by
   intro v; rw [Frame.finish_at,n,<-p]; rfl
 have z:step P (lone (b.at a (.inRegion (aC::bC).toArray (0::List.range' 1 bC.length)::k)) (c::cs) w) = .next (lone (b.at (a.put (some aB) aW) (.inRegion (aC::bC).toArray (List.range' 1 bC.length)::k)) ({ c with mode:=d }::cs) w):=by
   refine step_lone_go ?_;rw [u,<-y];simp only [Frame.at] at g ⊢
   rcases r with ⟨f,rfl,rfl⟩ | ⟨v,f,rfl,rfl⟩
   · simp [stepG.apply,l,g,recoverD,f]
     rw [<-f]
   · simp [stepG.apply,l,g,recoverD,f]
 have A:wpOps P (aC::bC).toArray (Exit.then (fd.wp P Q) Q) (List.range' 1 bC.length) (a.put (some aB) aW) w:=by
   rw [wpOps_eq_wpList bC 1 (λj=>by simp [Nat.add_comm 1 j])]; exact h
 obtain ⟨e,B,w',o,C⟩:=wp_ops _ _ _ A b k ({ c with mode:=d }::cs)
 have D:step P (lone (b.at a (.code (.region ae (aC::bC).toArray false)::k)) (c::cs) w) = .next (lone (b.at a (.inRegion (aC::bC).toArray (0::List.range' 1 bC.length)::k)) (c::cs) w):=by
   have:=step_region (P:=P) (b:=b) (a:=a) (k:=k) (cs:=c::cs) (w:=w) (ops:=(aC::bC).toArray) (id:=ae);rw [this];simp [List.range_eq_range',List.range'_succ]
 refine ⟨e,B,_,w',?_,.of_steps (.head D (.one z)) C⟩
 cases e with
 | normal=>exact wpS_of_wp (wp_mono o λe a w h=>m e a w h)
 | _=>exact m _ _ _ o
def yk {w:World}  {u c:FrameMode}  (g:P.funcs[du]? = some eC) (j:eC.body=some (.seq (.region ae (aC::bC).toArray false) fd))
   (m:Nat) (k:eC.ntmps=m) (l:Nat.ble ci.length m=true) (n:aC.dst=some aB) (o:Nat.blt aB m=true) (p:aC.guard=none) (q:∀(r:Operand->Value),(execOp r aC).run P w = .ok .recover w) (s:HC u aW c)
   (h:WL P (aC::bC).toArray (Exit.then (fd.wp P (bodyPost P eC fI)) (bodyPost P eC fI)) m [] ((aB,aW)::uh 0 ci) (λw'=>w'=w) bC):CallsD P du ci.toArray u w λe x w'=>x=c/\fI e w':=by
 refine callsD_of_wpS g j λA cs y=>?_;refine OM (Q:=bodyPost P eC fI) n p (q _) (by rw [y]; exact s) (λe a w b=>?_) (h _ _ ?_ O)
 · cases e with
   | normal=>exact ⟨b.1,c,rfl,b.2.choose,b.2.choose_spec.1,rfl,b.2.choose_spec.2⟩
   | ret=>exact ⟨b.1,c,rfl,b.2.choose,b.2.choose_spec.1,rfl,b.2.choose_spec.2⟩
   | panic B=>exact ⟨b.1,c,rfl,rfl,b.2⟩
   | outgrown=>exact ⟨c,rfl,b⟩
   | exit i=>exact b
   | goto i=>exact b
 · have C:=pP l
   subst k
   have z:Ag eC.ntmps [] (uh 0 ci) { tmps:=ci.toArray++Array.replicate (eC.ntmps-ci.toArray.size) undef,defers:=[] }:=by
     refine ⟨by simp; omega,O,λt v hv=>?_⟩;obtain ⟨_,d⟩:=C7 ci 0 t v hv;simp only [pQ] at d
     have f:t<ci.length:=by
       rcases lm t ci.length with h | h
       · exact h
       · simp [tZ h] at d
     simp [jm,zJ,f];simp [dM f] at d;exact d
   exact z.put o aW
def HD {t u:TypeId}    (b:P.underlying t=some (.interface (P.methodsAt t))) (c:bu l a_=some .nilIface):Yl P l iX ⟨iK,.binOp .neq t a_ (.const .nilIface) u,ty,pos,af,g⟩ (.bool false):=by
 intro d w a _;have e:d (.const .nilIface) = .nilIface:=a _ _ rfl;simp only [execOp,a a_ _ c,e,Sem.run_bind];simp [eqGuard_nil_constR,run_neq_nil_nil (h:=b)]
def ON {t u s:TypeId}     (b:P.underlying t=some (.interface (P.methodsAt t))) (c:bu l a_=some (.iface s aW)):Yl P l iX ⟨iK,.binOp .neq t a_ (.const .nilIface) u,ty,pos,af,g⟩ (.bool true):=by
 intro d w a _;have e:d (.const .nilIface) = .nilIface:=a _ _ rfl
 have f:(eqGuard .neq t a_ (.const .nilIface) (.iface s aW) .nilIface)=pure ():=by cases a_<;>rfl
 simp only [execOp,a a_ _ c,e,Sem.run_bind,f];simp [run_neq_held_nil (h:=b)]
end
section
variable {P:Program} {l:List (Nat×Value)} {W:World->Prop} {d:Option Tmp} {ty:TypeId} {pos:String} {af:Array Edge} {g:Option (Nat×Bool)}
def HE (s:List UInt8) (i j:Nat):Value.string ((ByteArray.mk s.toArray).extract i j)=st ((s.take j).drop i):=by
 have e:((ByteArray.mk s.toArray).extract i j)=⟨((s.take j).drop i).toArray⟩:=by
   apply ByteArray.ext;simp [List.drop_take]
 rw [e]; rfl
variable {a_ bM:Operand} {aS:List UInt8} {aG:IntKind} {aL:Int}
def xM (a:P.underlying aU=some .string) (c:bu l a_=some (st aS)) (f:bu l bM=some (.int aG aL)) (i:0<=aL) (j:aL<=aS.length):Yl P l W ⟨d,.slice aU a_ none (some bM) none,ty,pos,af,g⟩ (st (aS.take aL.toNat)):=by
 intro m w b _;have e:=run_slice_string_h (P:=P) w aU ⟨aS.toArray⟩ a aG aL i (by rw [yg]; exact j)
 have k:(Instr.sliceAt aU (.string ⟨aS.toArray⟩) none (some (.int aG aL)) none).run P w = .ok (st (aS.take aL.toNat)) w:=by
   rw [run_sliceAt_string (h:=a),e,HE]; simp
 simp [execOp,b a_ _ c,b bM _ f,st,k]
def Dm (a:P.underlying aU=some .string) (c:bu l a_=some (st aS)) (f:bu l bM=some (.int aG aL)) (i:0<=aL) (j:aL<=aS.length):Yl P l W ⟨d,.slice aU a_ (some bM) none none,ty,pos,af,g⟩ (st (aS.drop aL.toNat)):=by
 intro m w b _;have e:=run_slice_string_l (P:=P) w aU ⟨aS.toArray⟩ a aG aL i (by rw [yg]; exact j)
 have k:(Instr.sliceAt aU (.string ⟨aS.toArray⟩) (some (.int aG aL)) none none).run P w = .ok (st (aS.drop aL.toNat)) w:=by
   rw [run_sliceAt_string (h:=a),e,HE,yg,gv]
 simp [execOp,b a_ _ c,b bM _ f,st,k]
end
abbrev cW {α:Type} (e:TypeId) (k:Nat) (f:α->List Value) (a:Option Addr) (c:Nat) (xs:List α):ah:=cq e k (.slice a xs.length c) xs.length (xs.flatMap f)
section
variable {P:Program} {ops:Array Oper} {Q:Exit->Act->World->Prop} {n:Nat} {ds:List Deferred} {l:List (Nat×Value)} {w0:World} {F:List Nat} {L:List ah} {Vs:List View}
 {rest:List Oper} {d:Nat} {ty:TypeId} {pos:String} {af:Array Edge} {g:Option (Nat×Bool)}
def LA {α:Type} {f:α->List Value} {t e:TypeId} {z:Value} {size q A:Nat} {s y:Operand} {a:Option Addr} {c r:Nat} {xs:List α} {T:TypeId} {B:Nat×Nat} (x:α) (i j:Nat) (C:dI ops l g) (D:Nat.blt d n=true) (E:hc P t e z size q)
   (G:bu l s=some (.slice a xs.length c)) (H:bu l y=some (.slice (some ⟨r,0,none⟩) 1 A)) (hL:L[i]? = some (cW e size f a c xs)) (I:L[j]? = some (aE r (.cells (f x).toArray T B)))
   (J:(f x).length=size) (K:(f x).all (·.oneCell')=true) (U:xs.length+1<=9223372036854775807) (M:(xs.length+1)*q<=140737488355328)
   (h:∀b o,WL P ops Q n ds ((d,.slice b (xs++[x]).length o)::l) (Ws w0 F (L.set i (cW e size f b o (xs++[x]))) Vs) rest) :
   WL P ops Q n ds l (Ws w0 F L Vs) (⟨some d,.call ⟨.builtin .append,#[s,y],#[t,t]⟩,ty,pos,af,g⟩::rest):=by
 refine WL.append i C D E G H hL (news:=f x) (k:=1) (by rw [Nat.one_mul]; exact J) (λw N k u p=>Hx N j I (k:=k) (by simpa using p)) (λu p=>hS.1 K u p) (by unfold maxLen; omega) M λO _=>?_
 have R:(xs.flatMap f)++f x=(xs++[x]).flatMap f:=au
 have S:xs.length+1=(xs++[x]).length:=au
 rw [R,S];have hi:i<L.length:=(cS.1 hL).1;refine WL.HB i (m:=(xs++[x]).length) (xs:=(xs++[x]).flatMap f) (e:=e) (size:=size) (v:=O) (by simp [hi]) λb o hv=>?_;subst hv;exact h b o
end
def Ws.ls {rd:View->Nat->Nat->a9->Prop} {f:a9->List Value}     (h:Ws bF [] cL dj dJ) (i:Nat)    {xs:List a9} (hL:cL[i]? = some (cW aU ae f cj aB xs))
   (e:∀x,(f x).length=ae) (k:∀H b o x,cw H b o (f x)->rd H b o x):Sl rd ae (nv bF dJ) cj aB xs:=by
 rcases h.Hk i hL with ⟨a,g⟩ | ⟨b,r,a,g,l,m⟩
 · injection a with c n d
   subst c d;have:xs=[]:=rL Z;subst this;exact Sl.nil
 · injection a with c n d
   subst c d;refine ⟨g,by unfold maxLen at l; omega,au,λi x p=>⟨b,0,O,k _ _ _ _ λj v hv=>?_⟩⟩
   have q:j<ae:=by have:=(cS.1 hv).1; rw [e] at this; exact this
   rw [gC];exact m _ _ (by rw [kZ e p q]; exact hv)
def Ws.Ak {rd:View->Nat->Nat->a9->Prop} {f:a9->List Value}      (h:Ws bF aA cL dj dJ) (i:Nat)    {xs:List a9} (hL:cL[i]? = some (cW aU ae f cj aB xs))
   (e:∀x,(f x).length=ae) (g:∀H b o x,cw H b o (f x)->rd H b o x):Sl rd ae (hv dJ) cj aB xs:=by
 obtain ⟨w,k⟩:=(h.kn _ (dY hL):dJ.ownsRow 0 aU ae _ xs.length (xs.flatMap f))
 rcases k with ⟨l,y⟩ | ⟨b,cap,cur,m,_,n,p,c,z,q⟩
 · injection l with d r c
   subst d c;have:xs=[]:=rL Z;subst this;exact Sl.nil
 · injection m with d r s
   subst d s;refine ⟨p,by unfold maxLen at c; omega,au,λi x t=>⟨b,0,O,g _ _ _ _ λj v hv=>?_⟩⟩
   have u:j<ae:=by have:=(cS.1 hv).1; rw [e] at this; exact this
   have a:(xs.flatMap f)[i*ae+j]? = some v:=by rw [kZ e t u]; exact hv
   rw [<-q,i6] at a
   split at a
   · refine uo n ?_
     simpa [gE] using a
   · cases a
def ky (b:List ResultVar) (d:Option Tmp):Bool:=match d with
 | none=>true
 | some d=>b.all λr=>match r with | .tmp t=>!(Nat.beq d t) | .cell a _=>!(Nat.beq d a)
def OO {r:ResultVar}   {a:Act} (h:(match r with | .tmp t=>!(Nat.beq ae t) | .cell a _=>!(Nat.beq ae a))=true):o5 (a.put (some ae) aW).tmps r=o5 a.tmps r:=by
 have key:∀t,(!(Nat.beq ae t))=true->(a.put (some ae) aW).tmps.getD t undef=a.tmps.getD t undef:=λt b=>by
   have c:ae≠t:=λe=>by subst e; simp at b
   simp only [Act.put,jm];rw [qz c]
 cases r with
 | tmp t=>simp only [o5,key t h]
 | cell x _=>simp only [o5,key x h]
variable {eC:Func} {yl:List ResultVar} {hd:Act}
def OP (a:eC.results=yl.toArray) {d:Option Tmp}   (h:ky yl d=true):results eC (hd.put d aW).tmps=results eC hd.tmps:=by
 cases d with
 | none=>rfl
 | some d=>
   simp only [ky,hS] at h
   have e:∀l:List ResultVar,(∀r ∈ l,r ∈ yl)->l.mapM (o5 (hd.put (some d) aW).tmps)=l.mapM (o5 hd.tmps):=by
     intro l
     induction l with
     | nil=>intro _; rfl
     | cons x l c=>
       intro b;rw [t_,t_,OO (h x (b x au)),c λr a=>b r (by simp [a])]
   rw [yj,yj,a,vM,vM,e _ λr a=>by simpa using a]
variable {fI:Ending->World->Prop} {iK:Option Tmp}
def Dn (b:eC.results=yl.toArray)  {v:Value}  (h:ky yl iK=true):∀(ds:List Deferred) (u:FrameMode) (w:World),Leaves hT eC (hd.put iK v).tmps fI ds u w->Leaves hT eC hd.tmps fI ds u w
 | [],.returning,w,a=>by
   simp only [Leaves] at a ⊢;rw [OP b h] at a;exact a
 | [],.panicking _,_,a=>a
 | [],.run,_,a=>a
 | x::ds,u,w,a=>by
   obtain ⟨d,g,cap,f,args,i,j,k⟩:=a;refine ⟨d,g,cap,f,args,i,j,k.mono λe l w' c=>?_⟩
   cases e with
   | returned v=>exact Dn b h ds _ _ c
   | panicked m=>exact Dn b h ds _ _ c
   | outgrown=>exact c
def ml {fn:Func} (b:List ResultVar)  (d:fn.results=b.toArray)    {c:List PanicEntry}  (h:ky b iK=true) (a:bodyPostD hT fn fI (.panic c) (hd.put iK aW) bF):bodyPostD hT fn fI (.panic c) hd bF:=by
 have e:(hd.put iK aW).defers=hd.defers:=by cases iK<;>rfl
 have a:Leaves hT fn (hd.put iK aW).tmps fI (hd.put iK aW).defers (.panicking c) bF:=a;rw [e] at a;exact Dn d h _ _ _ a
section
variable {P:Program} {md:Region.Mode} {ops:Array Oper} {C:World->Prop} {Q:Exit->Act->World->Prop}
def v_ (ok:Option Tmp->Bool) (ops:Array Oper):Bool:=ops.toList.all λo=>ok o.dst
variable {mj:Option Tmp->Bool} {aC:Oper}
def HG (h:v_ mj ops=true)   (a:ops[ae]? = some aC):mj aC.dst=true:=by
 refine hS.1 h aC ?_
 have:ops.toList[ae]? = some aC:=by simpa using a
 exact gu this
def Do (f:v_ mj ops=true) (g:Region.noSelect ops=true) (k:∀c a w d v,mj d=true->Q (.panic c) (a.put d v) w->Q (.panic c) a w):∀(ord:List (Nat×Bool)) (e:Array Bool) (a:Act) (w:World),
   nq md ops ord e=true->nr P ops C Q ord a w->pW P md ops C Q ord.length e a w
 | [],e,a,w,b,h=>⟨h.1,by simpa [nq] using b,h.2⟩
 | (i,true)::r,e,a,w,b,h=>by
   simp only [nq,qC,ew] at b;obtain ⟨hC,o,v,l,n,h⟩:=h
   exact Db l (Region.noSelect_spec g) (λc a w=>k c a w o.dst v (HG f l)) r.length e a w (Region.free_spec l b.1.2) (by simpa using b.1.1) n hC
     (Do f g k r _ _ _ b.2 h)
 | (i,false)::r,e,a,w,b,h=>by
   simp only [nq,x2,ew,kW] at b;refine ⟨h.1,λp=>(by rw [p] at b; cases b.1),λj m=>?_⟩;rw [b.1] at m;simp at m;subst m;exact wpOp_mono (λs w' q=>Do f g k r _ _ _ b.2 q) h.2
variable {n:Nat} {ds:List Deferred} {l:List (Nat×Value)} {W:World->Prop}
def outs:List Nat->List ah->List ah
 | [],L=>L
 | i::r,L=>outs r (eQ i L)
def Wo (i:Nat) (h:Ws bF aA cL dj dJ):Ws bF aA (eQ i cL) dj dJ:=Ws.out i h
def Wt (n:Nat) (h:Ws bF aA cL dj dJ):Ws bF aA (cL.take n) dj dJ:=Ws.df (L':=cL.drop n) (by rw [pR]; exact h)
def Wd (n:Nat) (h:Ws bF aA cL dj dJ):Ws bF aA (cL.drop n) dj dJ:=Ws.drop (L:=cL.take n) (by rw [pR]; exact h)
def Wv (n:Nat) (h:Ws bF aA cL dj dJ):Ws bF aA cL (dj.drop n) dJ:=Ws.cK h λ_ a=>List.mem_of_mem_drop a
variable {lr:ah}
def Ws.f (i:Nat)  (h:Ws bF aA cL dj dJ) (a:cL[i]? = some lr):Ws bF aA (lr::eQ i cL) dj dJ:=h.perm (lp i cL a)
def Wp (i:Nat):∀w,Ws bF aA cL dj w->Ws bF aA (eQ i cL) dj w:=λ_ h=>Wo i h
def dK (is:List Nat):∀w,Ws bF aA cL dj w->Ws bF aA (outs is cL) dj w:=λ_ h=>by
 induction is generalizing cL with
 | nil=>exact h
 | cons i r a=>exact a (Wo i h)
def WC.ut {os:List Oper}     (ok:Option Tmp->Bool) (is:List Nat) (ord:List (Nat×Bool)) (e:P.follows .mixedOrders=true) (f:v_ ok os.toArray=true) (b:(Region.noSelect os.toArray&&(ord.length==os.toArray.size&&sZ os ord 0))=true)
   (g:∀c a w d v,ok d=true->Q (.panic c) (a.put d v) w->Q (.panic c) a w) (h:WD P os.toArray (Ws bF aA (outs is cL) dj) Q n ds l (Ws bF aA cL dj) ord):WC P (.region ae os.toArray true) Q n ds l (Ws bF aA cL dj):=by
 intro a w i j;have b:=Dh b;simp only [ew,kW] at b;have:=Ab (md:=.any) _ _ _ _ (Do f b.1 g ord _ a w.drew b.2.2 (h a w.drew i j.drew));rw [b.2.1] at this;exact wp_region_any e this
def WD.skip {r:List (Nat×Bool)} {i d:Nat} {op:Op} {ty:TypeId} {pos:String} {af:Array Edge}  {b:Bool}  {c:Nat} (hi:ops[i]? = some ⟨some d,op,ty,pos,af,some (ae,b)⟩) (j:Nat.blt d n=true)
   (k:ops[ae]? = some aC) (m:aC.dst=some c) (o:Nat.blt c n=true) (p:lk l c=some (.bool (!b)))
   (hC:∀w,W w->C w) (h:WD P ops C Q n ds ((d,undef)::l) W r):WD P ops C Q n ds l W ((i,true)::r):=by
 intro a w e f;have hv:a.tmps.getD c undef = .bool (!b):=e.bl c _ p
 have g:c<a.tmps.size:=by rw [e.size]; exact pP o
 have q:a.tmps[c]? = some (.bool (!b)):=by
   rw [jm,sI g] at hv;rw [sI g]
   simpa using hv
 have s:yielded ops a.tmps ae=some (!b):=by simp [yielded,k,m,q]
 exact ⟨hC w f,_,undef,hi,.inr ⟨by simp [Region.wanted,s],O⟩,h _ _ (e.put j undef) f⟩
def WE.front {e:Exit}  (i:Nat) (hL:cL[i]? = some lr) (h:WE Q e n ds l (Ws bF aA (lr::eQ i cL) dj)):WE Q e n ds l (Ws bF aA cL dj):=
 WE.world (λ_ a=>a.perm (lp i cL hL)) h
def lW {f:FuncId} {args:Array Value} {u c:FrameMode} (a L2 d:List ah) (hL:cL=a++L2)
   (hC:∀w,Ws w (a.flatMap ah.ids) a [] w->CallsD P f args u w λe b w'=>b=c/\(e = .returned (.tuple #[])/\Ws w (a.flatMap ah.ids) d [] w')) :
   ∀w,Ws bF aA cL dj w->CallsD P f args u w λe b w'=>e = .returned (.tuple #[])/\b=c/\Ws bF aA (d++L2) dj w':=by
 intro w g;subst hL;exact (hC w (g.self.cK au)).mono λe b w' ⟨h,i,j⟩=>⟨i,h,g.back j⟩
end
open Go.ChangeShapes Go.WideShapes Go.ChangeAt Go.RowKit Go.Joins Go.Deep
def HH (p:Nat->a9->Prop):∀n,(∀i,i<n->∃x,p i x)->∃l:List a9,l.length=n/\∀(i:Nat) (x:a9),l[i]? = some x->p i x
 | 0,_=>⟨[],rfl,au⟩
 | n+1,h=>by
   obtain ⟨l,c,d⟩:=HH p n λi hi=>h i Z;obtain ⟨x,e⟩:=h n Z;refine ⟨l++[x],by simp [c],λi y a=>?_⟩
   rcases Nat.lt_trichotomy i n with b | b | b
   · rw [xY Z] at a; exact d i y a
   · subst b
     rw [rK Z,c] at a;simp at a; subst a; exact e
   · rw [tZ (by simp; omega)] at a; cases a
def Dp (h:bF.cell? ⟨ae,aB,none⟩=some aW):vc (hv bF) ae aB=some aW:=by
 unfold vc hv;unfold World.cell? at h
 cases a:bF.heap[ae]? with
 | none=>simp [a] at h
 | some b=>cases b<;>simp [a,gE] at h ⊢<;>exact h
inductive Sh where
 | int
 | str
 | bool
deriving DecidableEq
def lX (P:Program):Nat->List Field->Bool
 | _,[]=>true
 | i,f::r=>Nat.beq f.offset i&&(Nat.beq (P.cellsOf f.type) 1&&lX P (i+1) r)
section
variable {P:Program} {H:Type} {enc:TypeId×Value->H} {w:World} {base:Nat} {spare:Nat->Bool} {held:Bool}
def xQ:∀(i:Nat) (l:List Field) (j:Nat) (f:Field),lX P i l=true->l[j]? = some f->f.offset=i+j/\P.cellsOf f.type=1
 | _,[],j,f,_,h=>by cases h
 | i,g::r,0,f,a,h=>by
   simp only [lX,ew] at a;simp at h; subst h;exact ⟨i5 a.1,i5 a.2.1⟩
 | i,g::r,j+1,f,a,h=>by
   simp only [lX,ew] at a;have:=xQ (i+1) r j f a.2.2 (by simpa using h);exact ⟨Z,this.2⟩
def OQ {r:Reach} {t:TypeId} {fs:Array Field} {v:Value} (a:P.underlying t=some (.struct fs)) (h:Value.okWide P w r base t v):∃cs,v = .agg cs/\Row.okWide P w r base t cs:=by
 unfold Value.okWide at h;simp only [a] at h;obtain ⟨b,e,_,c⟩:=h;exact ⟨b,e,c⟩
end
end Go.Bw
end
section
namespace Go.Bw
set_option linter.unnecessarySimpa false
open Go Go.RowKit
def fK (As:List ah):ah:=⟨As.flatMap ah.ids,λw=>∀a ∈ As,a.holds w,
 λw w' h d a c=>a.loc w w' (λk b=>h k (ku.2 ⟨a,c,b⟩)) (d a c),
 λw d k b=>let ⟨a,c,b⟩:=ku.1 b; a.vW w (d a c) k b⟩
section
variable {P:Program} {ops:Array Oper} {Q:Exit->Act->World->Prop} {n:Nat} {ds:List Deferred} {l:List (Nat×Value)} {w0 w:World} {F:List Nat} {L:List ah} {Vs:List View} {rest:List Oper} {A:ah} {As:List ah}
def Ws.wa (h:Ws w0 F (fK (A::As)::L) Vs w):Ws w0 F (A::fK As::L) Vs w:=by
 refine ⟨h.fr,?_,?_,?_,h.vs,?_⟩
 · intro B a
   have d:=h.kn (fK (A::As)) au
   rcases et.1 a with rfl | a
   · exact d _ au
   · rcases et.1 a with rfl | a
     · exact λC hC=>d C (by simp [hC])
     · exact h.kn B (by simp [a])
 · have:=h.nd
   simpa [fK] using this
 · intro B a k b
   rcases et.1 a with rfl | a
   · exact h.own (fK (B::As)) au k (by simp [fK,b])
   · rcases et.1 a with rfl | a
     · exact h.own (fK (A::As)) au k (by simp only [fK,i7] at b ⊢; exact eh _ b)
     · exact h.own B (by simp [a]) k b
 · intro H c B a k b
   rcases et.1 a with rfl | a
   · exact h.off H c (fK (B::As)) au k (by simp [fK,b])
   · rcases et.1 a with rfl | a
     · exact h.off H c (fK (A::As)) au k (by simp only [fK,i7] at b ⊢; exact eh _ b)
     · exact h.off H c B (by simp [a]) k b
def Ws.wb (h:Ws w0 F (A::fK As::L) Vs w):Ws w0 F (fK (A::As)::L) Vs w:=by
 have d:=h.kn A au;have e:=h.kn (fK As) au;refine ⟨h.fr,?_,?_,?_,h.vs,?_⟩
 · intro B b
   rcases et.1 b with rfl | b
   · intro C hC
     rcases et.1 hC with rfl | hC
     · exact d
     · exact e C hC
   · exact h.kn B (by simp [b])
 · have:=h.nd
   simpa [fK] using this
 · intro B b k a
   rcases et.1 b with rfl | b
   · simp only [fK,i7,fB] at a
     rcases a with a | a
     · exact h.own A au k a
     · exact h.own (fK As) au k a
   · exact h.own B (by simp [b]) k a
 · intro H c B b k a
   rcases et.1 b with rfl | b
   · simp only [fK,i7,fB] at a
     rcases a with a | a
     · exact h.off H c A au k a
     · exact h.off H c (fK As) au k a
   · exact h.off H c B (by simp [b]) k a
def Ws.OR (h:Ws w0 F L Vs w):Ws w0 F (fK []::L) Vs w:=by
 refine ⟨h.fr,?_,by simpa [fK] using h.nd,?_,h.vs,?_⟩
 · intro B a
   rcases et.1 a with rfl | a
   · intro C hC; cases hC
   · exact h.kn B a
 · intro B a k b
   rcases et.1 a with rfl | a
   · simp [fK] at b
   · exact h.own B a k b
 · intro H c B a k b
   rcases et.1 a with rfl | a
   · simp [fK] at b
   · exact h.off H c B a k b
variable {aU:TypeId} {cj:Option Addr}
def OS {w:World}  {size m m' c:Nat}  {xs:List Value} (h:w.ownsRow 0 aU size (.slice cj m c) m xs) (e:m'<=m):w.ownsRow 0 aU size (.slice cj m' c) m' (xs.take (m'*size)):=by
 obtain ⟨f,a⟩:=h;have p:m'*size<=m*size:=sJ _ e
 rcases a with ⟨a,q⟩ | ⟨g,cap,cur,hv,i,j,r,b,k,l⟩
 · injection a with d n b
   subst d b
   obtain rfl:m'=0:=Z
   exact ⟨au,.inl ⟨O,au⟩⟩
 · injection hv with d n o
   subst d o;refine ⟨by rw [mc,f]; omega,.inr ⟨g,c,cur,O,i,j,Z,b,k,?_⟩⟩;rw [<-l,List.take_take]
   congr 1
   omega
variable {a9:Type}
def HJ {f:a9->List Value} {k:Nat} (a:∀x,(f x).length=k):∀(xs:List a9) (m:Nat),(xs.flatMap f).take (m*k)=(xs.take m).flatMap f
 | [],m=>by simp
 | x::r,0=>by simp
 | x::r,m+1=>by
   simp only [i7,hD];rw [CD,a,nn (by rw [a,sK]; omega),<-HJ a r m]
   congr 2
   rw [sK]; omega
def WL.OT {f:a9->List Value}  {k c:Nat}  {xs:List a9} (i m:Nat) (hL:L[i]? = some (cW aU k f cj c xs)) (e:∀x,(f x).length=k) (g:m<=xs.length)
   (h:WL P ops Q n ds l (Ws w0 F (L.set i (cW aU k f cj c (xs.take m))) Vs) rest):WL P ops Q n ds l (Ws w0 F L Vs) rest:=by
 refine LW (λw a=>?_) h;have j:w.ownsRow 0 aU k (.slice cj xs.length c) xs.length (xs.flatMap f):=a.kn _ (dY hL);have b:=OS j g;rw [HJ e] at b;refine Ws.pV a i hL (Fr.refl _ _) ?_ (by simp [cq]; cases cj<;>simp [Value.ownBlock]) (λk d=>?_)
 · show w.ownsRow 0 aU k (.slice cj (xs.take m).length c) (xs.take m).length _
   rw [show (xs.take m).length=m by simp; omega];exact b
 · refine .inl ?_
   simp only [cq] at d ⊢
   cases cj<;>simpa [Value.ownBlock] using d
end
section
variable {P:Program} {l:List (Nat×Value)} {W:World->Prop} {d:Option Tmp} {ty:TypeId} {pos:String} {af:Array Edge} {g:Option (Nat×Bool)}
variable {aU:TypeId} {a_ bM:Operand} {cj:Option Addr} {ae aB cp:Nat} {aG:IntKind} {aL:Int}
def rW (n:Nat) (a:ga P aU=some cp) (b:bu l a_=some (.slice cj ae aB)) (c:∀p,cj=some p->p.spot=none) (e:bu l bM=some (.int aG aL)) (f:aL=(n:Int)) (h:n<=aB) :
   Yl P l W ⟨d,.slice aU a_ none (some bM) none,ty,pos,af,g⟩ (.slice cj n aB):=by
 subst f;exact Hh a b c e Z Z
def Am (n:Nat) (a:ga P aU=some cp) (h:bu l a_=some (.slice cj ae aB)) (i:bu l bM=some (.int aG aL)) (j:aL=(n:Int)) (k:n<=ae) (o:ae<=aB) :
   Yl P l W ⟨d,.slice aU a_ (some bM) none none,ty,pos,af,g⟩ (.slice (if aB-n=0 then cj else cj.map (·.add (n*cp))) (ae-n) (aB-n)):=by
 intro p w c _;subst j;unfold ga at a
 cases b:P.underlying aU with
 | none=>simp [b] at a
 | some m=>
   cases m<;>simp [b] at a
   rename_i e;obtain ⟨q,hi,rfl⟩:=a;simp [execOp,c a_ _ h,c bM _ i,Instr.sliceAt,Instr.slice,Instr.sliceBounds,Instr.sliceBound,asIntOf,run_underlying b,sizeOf,typeInfo,hi,k]
   by_cases f:aB=n
   · subst f; simp
   · have:¬aB-n=0:=Z
     simp [f,this]
end
variable {a9:Type} {ae aB:Nat} {bc:View} {cj:Option Addr}
def Sl.drop {rd:View->Nat->Nat->a9->Prop}     {l:List a9} (h:Sl rd ae bc cj aB l) (n:Nat) (g:n<=l.length):Sl rd ae bc (if aB-n=0 then cj else cj.map (·.add (n*ae))) (aB-n) (l.drop n):=by
 have j:=h.cap;refine ⟨by simp; omega,by have:=h.max; omega,?_,λi x c=>?_⟩
 · intro p a k
   split at a
   · omega
   · cases cj with
     | none=>cases a
     | some q=>
       have e:=h.spot q rfl Z;obtain ⟨b,o,s⟩:=q;obtain rfl:s=none:=e;simp [mg] at a;subst a; rfl
 · rw [CF] at c
   have hi:=(cS.1 c).1;obtain ⟨b,o,f,d⟩:=h.aq _ _ c;subst f;refine ⟨b,o+n*ae,?_,?_⟩
   · rw [av Z]; simp [mg]
   · rw [sK] at d
     rw [rI]; exact d
def Sl.take {rd:View->Nat->Nat->a9->Prop}     {l:List a9} (h:Sl rd ae bc cj aB l) (n:Nat):Sl rd ae bc cj aB (l.take n):=
 ⟨by have:=h.cap; simp; omega,h.max,h.spot,λi x a=>h.aq i x (by
   rw [i6] at a
   split at a
   · exact a
   · cases a)⟩
end Go.Bw
end
section
namespace Go.Bw
set_option linter.unnecessarySimpa false
open Go Go.RowKit
section
variable {P:Program} {md:Region.Mode} {ops:Array Oper} {S:List Nat} {C D:World->Prop} {Q:Exit->Act->World->Prop}
def mY (S:List Nat) (a:Array Bool):Prop:=∀s ∈ S,a.getD s true=false
def p0 (P:Program) (md:Region.Mode) (ops:Array Oper) (S:List Nat) (C b:World->Prop) (Q:Exit->Act->World->Prop):Nat->Array Bool->Act->World->Prop
 | 0,listed,a,w=>((mY S listed->C w)/\b w)/\Region.ready md ops listed=[]/\Q .normal a w
 | fuel+1,listed,a,w=>((mY S listed->C w)/\b w)/\(Region.ready md ops listed=[]->Q .normal a w)/\
   ∀i ∈ Region.ready md ops listed,wpOp P ops Q i (p0 P md ops S C b Q fuel (listed.setIfInBounds i true)) a w
def HK:∀(fuel:Nat) (b:Array Bool) (a:Act) (w:World),p0 P md ops S C D Q fuel b a w->wpAny P md ops Q fuel b a w
 | 0,_,_,_,h=>h.2
 | fuel+1,b,a,w,h=>⟨h.2.1,λi hi=>wpOp_mono (λc w' d=>HK fuel _ c w' d) (h.2.2 i hi)⟩
variable {ae:Nat} {ii:Array Bool} {hd:Act} {bF:World}
def p0.c (h:p0 P md ops S C D Q ae ii hd bF):(mY S ii->C bF)/\D bF:=by cases ae<;>exact h.1
def An (hi:ae ∉ S) :mY S (ii.setIfInBounds ae true)↔mY S ii:=by
 constructor
 · intro h s a
   have b:ae≠s:=λe=>by subst e; exact hi a
   have:=h s a
   rwa [getD_set_ne true b] at this
 · intro h s a
   have b:ae≠s:=λe=>by subst e; exact hi a
   rw [getD_set_ne true b];exact h s a
def wc (md:Region.Mode) (ops:Array Oper) (a:Array Bool):Prop:=∀(j:Nat) (o:Oper),ops[j]? = some o->a.getD j true=true->∀e ∈ o.after,Region.binds md e=true->a.getD e.on true=true
def wd (md:Region.Mode) (ops:Array Oper) (i:Nat):Nat->Nat->Bool
 | 0,_=>false
 | f+1,s=>match ops[s]? with
   | some os=>os.after.any λe=>Region.binds md e&&(Nat.beq e.on i||wd md ops i f e.on)
   | none=>false
def HL (g:wc md ops ii) :∀(f s:Nat),wd md ops ae f s=true->(∀o,ops[s]? = some o->∀e ∈ o.after,Region.binds md e=true->ii.getD e.on true=true)->ii.getD ae true=true
 | 0,s,h,_=>by simp [wd] at h
 | f+1,s,h,i=>by
   simp only [wd] at h
   cases a:ops[s]? with
   | none=>simp [a] at h
   | some o=>
     simp only [a] at h;obtain ⟨e,j,b⟩:=Array.any_eq_true'.1 h;simp only [ew,CI] at b;have c:=i o a e j b.1
     rcases b.2 with d | d
     · have:=i5 d
       rw [this] at c; exact c
     · exact HL g f e.on d λk l m n p=>g e.on k l c m n p
def HM (d:ae ∈ Region.ready md ops ii):∀o,ops[ae]? = some o->∀e ∈ o.after,Region.binds md e=true->ii.getD e.on true=true:=by
 intro o f e g h;obtain ⟨_,j,a,i⟩:=mem_ready.1 d;rw [f] at a
 injection a with a
 subst a;have c:=i e g h
 rcases lm e.on ii.size with b | b
 · simp [jm,b] at c ⊢
   exact c
 · simp [jm,vL b]
def wc.set (h:wc md ops ii) (i:ae ∈ Region.ready md ops ii):wc md ops (ii.setIfInBounds ae true):=by
 have up:∀k,ii.getD k true=true->(ii.setIfInBounds ae true).getD k true=true:=by
   intro k b
   by_cases a:ae=k
   · subst a
     rcases lm ae ii.size with c | c
     · simp [jm,c]
     · simp [jm,c]
   · rw [getD_set_ne true a]; exact b
 intro k o d b e f g
 by_cases a:ae=k
 · subst a
   exact up _ (HM i o d e f g)
 · rw [getD_set_ne true a] at b
   exact up _ (h k o d b e f g)
def Kept (md:Region.Mode) (ops:Array Oper) (S:List Nat) (C b a:World->Prop) (i:Nat):Prop:=
 (∀w,b w->a w)\/((∀w,C w->a w)/\∀s ∈ S,wd md ops i ops.size s=true)
variable {aC:Oper} {aW:Value}
def OU {q:World->Prop} (hi:ops[ae]? = some aC) (z:∀(j:Nat) (o:Oper) cs b,ops[j]? = some o->o.op≠.select cs b)
   (J:∀c a w,Q (.panic c) (a.put aC.dst aW) w->Q (.panic c) a w) (K:ae ∉ S) (g:Kept md ops S C D q ae) :
   ∀(fuel:Nat) (d:Array Bool) (a:Act) (w:World),
     (∀j n,ops[j]? = some n->j≠ae->d.getD j true=false->(∀e ∈ n.after,Region.binds md e=true->e.on≠ae)->aC.apart ops n=true)->
     ae ∈ Region.ready md ops d->wc md ops d->YV P ops q aC aW a->((mY S d->C w)/\D w)->((∀w,D w->q w)\/mY S d)->
     p0 P md ops S C D Q fuel (d.setIfInBounds ae true) (a.put aC.dst aW) w->p0 P md ops S C D Q (fuel+1) d a w:=by
 have A:∀(d:Array Bool) (w:World),((mY S d->C w)/\D w)->((∀w,D w->q w)\/mY S d)->q w:=by
   intro d w f p
   rcases p with p | p
   · exact p w f.2
   · rcases g with g | g
     · exact g w f.2
     · exact g.1 w (f.1 p)
 intro fuel
 induction fuel with
 | zero=>
   intro d a w _ l _ t hC m H;refine ⟨hC,λh=>(by rw [h] at l; cases l),λj r=>?_⟩
   by_cases i:j=ae
   · subst i; exact t.wpOp hi (A _ _ hC m) H
   · have:=ready_mono r i
     rw [H.2.1] at this;cases this
 | succ fuel L=>
   intro d a w B l E t hC m H;refine ⟨hC,λh=>(by rw [h] at l; cases l),λj r=>?_⟩
   by_cases i:j=ae
   · subst i; exact t.wpOp hi (A _ _ hC m) H
   · have f:=H.2.2 j (ready_mono r i)
     obtain ⟨F,n,u,M⟩:=mem_ready.1 r
     have N:∀e ∈ n.after,Region.binds md e=true->e.on≠ae:=λe O R T=>by
       have f:=M e O R;have s:=(mem_ready.1 l).1;rw [T] at f
       rcases lm ae d.size with v | v
       · simp [v] at s f; rw [s] at f; cases f
       · simp [vL v] at f
     have U:(∀w,D w->q w)\/mY S (d.setIfInBounds j true):=by
       rcases g with g | g
       · exact .inl g
       · rcases m with m | m
         · exact .inl m
         · refine .inr ((An λV=>?_).2 m)
           have W:=HL E _ j (g.2 j V) (HM r);have s:=(mem_ready.1 l).1;rw [W] at s;cases s
     have p:=Hi u (B j n u i F N) (λcs b=>z ae aC cs b hi) (λcs b=>z j n cs b u) J t f
     have X:∀k ok,ops[k]? = some ok->k≠ae->(d.setIfInBounds j true).getD k true=false->
         (∀e ∈ ok.after,Region.binds md e=true->e.on≠ae)->aC.apart ops ok=true:=λk ok Y Z G aa=>by
       refine B k ok Y Z ?_ aa
       by_cases I:j=k
       · subst I; exact F
       · rw [getD_set_ne true I] at G; exact G
     refine wpOp_mono (λab w' x=>L (d.setIfInBounds j true) ab w' X (ready_mono l (xW i)) (E.set r) x.1 ?_ U ?_) p
     · have y:=x.2.c
       rw [CB _ _ (xW i)] at y;exact ⟨λac=>y.1 ((An K).2 ac),y.2⟩
     · rw [CB _ _ i]
       exact x.2
inductive cV where
 | nil
 | stop
 | q (m:Bool) (i:Nat) (r:cV)
 | e (i:Nat) (r alt:cV)
def cV.alts:cV->List Nat
 | .e i _ a=>i::a.alts
 | _=>[]
def behind (md:Region.Mode) (ops:Array Oper) (i:Nat) (S:List Nat):Bool:=S.all λs=>wd md ops i ops.size s
def Ao (i:Nat) (S:List Nat):Bool:=S.all λs=>!(Nat.beq s i)
def HN (h:Ao ae S=true):ae ∉ S:=λhi=>by
 have:=hS.1 h ae hi;simp at this
def s5 (md:Region.Mode) (ops:Array Oper):List Nat->Array Bool->Bool
 | [],listed=>(Region.ready md ops listed).isEmpty
 | s::r,listed=>Region.ready md ops listed==[s]&&s5 md ops r (listed.setIfInBounds s true)
def kz (md:Region.Mode) (ops:Array Oper) (S:List Nat):Bool->cV->Nat->Array Bool->Bool
 | top,.nil,k,listed=>top&&(Nat.beq k S.length&&s5 md ops S listed)
 | top,.stop,_,_=>!top
 | top,.q m i r,k,listed=>match k with
   | 0=>false
   | k+1=>top&&((Region.ready md ops listed).contains i&&(Region.free md ops listed i&&(Ao i S&&((!m||behind md ops i S)&&kz md ops S true r k (listed.setIfInBounds i true)))))
 | top,.e i r alt,k,listed=>match k with
   | 0=>false
   | k+1=>(bif top then Region.ready md ops listed==i::alt.alts else true)&&(Ao i S&&(kz md ops S true r k (listed.setIfInBounds i true)&&kz md ops S false alt (k+1) listed))
def s6 (P:Program) (ops:Array Oper) (b:World->Prop) (Q:Exit->Act->World->Prop):List Nat->Act->World->Prop
 | [],a,w=>b w/\Q .normal a w
 | s::r,a,w=>b w/\wpOp P ops Q s (s6 P ops b Q r) a w
def qN (P:Program) (ops:Array Oper) (S:List Nat) (C b:World->Prop) (Q:Exit->Act->World->Prop):cV->Act->World->Prop
 | .nil,a,w=>C w/\s6 P ops b Q S a w
 | .stop,_,_=>True
 | .q m i r,a,w=>(C w/\b w)/\∃o v,ops[i]? = some o/\YV P ops (bif m then C else b) o v a/\qN P ops S C b Q r (a.put o.dst v) w
 | .e i r alt,a,w=>(C w/\b w)/\(wpOp P ops Q i (qN P ops S C b Q r) a w/\qN P ops S C b Q alt a w)
def OV:∀(r:List Nat) (b:Array Bool) (a:Act) (w:World),(r=S/\C w\/¬mY S b)->(∀s ∈ r,s ∈ S)->(∀s ∈ r,b.getD s true=false)->s5 md ops r b=true->s6 P ops D Q r a w->p0 P md ops S C D Q r.length b a w
 | [],b,a,w,c,_,_,d,h=>⟨⟨λe=>(by rcases c with c | c; exact c.2; exact absurd e c),h.1⟩,by simpa [s5] using d,h.2⟩
 | s::r,b,a,w,c,l,n,d,h=>by
   simp only [s5,ew,kW] at d;refine ⟨⟨λe=>(by rcases c with c | c; exact c.2; exact absurd e c),h.1⟩,λi=>(by rw [i] at d; cases d.1),λj g=>?_⟩;rw [d.1] at g;simp at g;subst g
   have o:j<b.size:=by
     have:=n j au
     rcases lm j b.size with f | f
     · exact f
     · simp [vL f] at this
   have p:¬mY S (b.setIfInBounds j true):=λe=>by
     have:=e j (l j au);simp [jm,o] at this
   refine wpOp_mono (λm w' f=>HO r (b.setIfInBounds j true) m w' p (λs k=>l s (by simp [k])) d.2 f) h.2
where
 HO:∀(r:List Nat) (b:Array Bool) (a:Act) (w:World),¬mY S b->(∀s ∈ r,s ∈ S)->s5 md ops r b=true->s6 P ops D Q r a w->p0 P md ops S C D Q r.length b a w
 | [],b,a,w,c,_,d,h=>⟨⟨λe=>absurd e c,h.1⟩,by simpa [s5] using d,h.2⟩
 | s::r,b,a,w,c,l,d,h=>by
   simp only [s5,ew,kW] at d;refine ⟨⟨λe=>absurd e c,h.1⟩,λi=>(by rw [i] at d; cases d.1),λj g=>?_⟩;rw [d.1] at g;simp at g;subst g;refine wpOp_mono (λm w' f=>HO r (b.setIfInBounds j true) m w' (λe=>c λs k=>?_) (λs k=>l s (by simp [k])) d.2 f) h.2;have:=e s k
   rcases Nat.decEq j s with q | i
   · rwa [getD_set_ne true q] at this
   · subst i
     rcases lm j b.size with f | f
     · simp [jm,f] at this
     · simp [jm] at this
def np {ok:Option Tmp->Bool} (p:v_ ok ops=true) (l:Region.noSelect ops=true) (t:∀c a w d v,ok d=true->Q (.panic c) (a.put d v) w->Q (.panic c) a w):∀(o:cV) (k:Nat) (f:Array Bool) (a:Act) (w:World),mY S f->wc md ops f->
   (kz md ops S true o k f=true->qN P ops S C D Q o a w->p0 P md ops S C D Q k f a w)/\
   ((∀j ∈ o.alts,j ∈ Region.ready md ops f)->kz md ops S false o k f=true->qN P ops S C D Q o a w->∀j ∈ o.alts,∃x,k=x+1/\wpOp P ops Q j (p0 P md ops S C D Q x (f.setIfInBounds j true)) a w)
 | .nil,k,f,a,w,hu,_=>by
   refine ⟨λb h=>?_,λ_ b=>by simp [kz] at b⟩;simp only [kz,n6,ew] at b;obtain rfl:=i5 b.1;exact OV S f a w (.inl ⟨O,h.1⟩) ag hu b.2 h.2
 | .stop,k,f,a,w,hu,_=>⟨λb=>by simp [kz] at b,λ_ _ _ j g=>by simp [cV.alts] at g⟩
 | .q m i r,k,f,a,w,hu,n=>by
   cases k with
   | zero=>exact ⟨λb=>by simp [kz] at b,λ_ b=>by simp [kz] at b⟩
   | succ k=>
     refine ⟨λb h=>?_,λ_ b=>by simp [kz] at b⟩;simp only [kz,n6,ew] at b;obtain ⟨G,H,I,A,J⟩:=b;obtain ⟨hC,o,v,y,K,h⟩:=h;have B:=HN I
     have L:Kept md ops S C D (bif m then C else D) i:=by
       cases m with
       | false=>exact .inl λ_ h=>h
       | true=>
         refine .inr ⟨λ_ h=>h,λs l=>?_⟩;simp only [Bool.not_true,hG] at A;exact hS.1 A s l
     have E:i ∈ Region.ready md ops f:=by simpa using G
     exact OU y (Region.noSelect_spec l) (λc a w=>t c a w o.dst v (HG p y)) B L k f a w (Region.free_spec y H) E n K ⟨λ_=>hC.1,hC.2⟩ (.inr hu)
       ((np p l t r k _ _ _ ((An B).2 hu) (n.set E)).1 J h)
 | .e i r alt,k,f,a,w,hu,n=>by
   cases k with
   | zero=>exact ⟨λb=>by simp [kz] at b,λ_ b=>by simp [kz] at b⟩
   | succ k=>
     have F:(∀j ∈ i::alt.alts,j ∈ Region.ready md ops f)->Ao i S=true->kz md ops S true r k (f.setIfInBounds i true)=true->kz md ops S false alt (k+1) f=true->qN P ops S C D Q (.e i r alt) a w->
         ∀j ∈ i::alt.alts,wpOp P ops Q j (p0 P md ops S C D Q k (f.setIfInBounds j true)) a w:=by
       intro u M N R h j g
       rcases et.1 g with rfl | g
       · exact wpOp_mono (λT w' U=>(np p l t r k _ T w' ((An (HN M)).2 hu) (n.set (u _ au))).1 N U) h.2.1
       · obtain ⟨x,z,V⟩:=(np p l t alt (k+1) f a w hu n).2 (λj g=>u j (by simp [g])) R h.2.2 j g
         injection z with z
         subst z;exact V
     refine ⟨λb h=>?_,λu b h j g=>?_⟩
     · simp only [kz,qC,ew,kW] at b
       refine ⟨⟨λ_=>h.1.1,h.1.2⟩,λW=>(by rw [W] at b; cases b.1),λj g=>?_⟩;rw [b.1] at g;exact F (λj g=>by rw [b.1]; exact g) b.2.1 b.2.2.1 b.2.2.2 h j g
     · simp only [kz,x2,n6,ew] at b
       exact ⟨k,O,F u b.1 b.2.1 b.2.2 h j g⟩
variable {n:Nat} {ds:List Deferred} {l:List (Nat×Value)} {W:World->Prop}
def WU (P:Program) (ops:Array Oper) (S:List Nat) (C b:World->Prop) (Q:Exit->Act->World->Prop) (n:Nat) (ds:List Deferred) (l:List (Nat×Value)) (W:World->Prop) (ord:cV):Prop:=
 ∀a w,Ag n ds l a->W w->qN P ops S C b Q ord a w
def WS (P:Program) (ops:Array Oper) (b:World->Prop) (Q:Exit->Act->World->Prop) (n:Nat) (ds:List Deferred) (l:List (Nat×Value)) (W:World->Prop) (S:List Nat):Prop:=
 ∀a w,Ag n ds l a->W w->s6 P ops b Q S a w
abbrev od:World->Prop:=λ_=>True
def qx (k:Nat) (S:List Nat):Bool:=S.all λs=>Nat.blt s k
def OW (h:qx ops.size S=true):mY S (Array.replicate ops.size false):=λs a=>by
 have:=hS.1 h s a;have b:=Nat.blt_eq.mp this;simp [jm,b]
variable {bC:List Oper}
def WC.OX {W' e f:World->Prop} (ok:Option Tmp->Bool) (S:List Nat) (ord:cV) (g:P.follows .mixedOrders=true) (i:∀w,W' w->W' w.drew)
   (b:(v_ ok bC.toArray&&(Region.noSelect bC.toArray&&(qx bC.toArray.size S&&kz .any bC.toArray S true ord bC.toArray.size (Array.replicate bC.toArray.size false))))=true)
   (k:∀c a w d v,ok d=true->Q (.panic c) (a.put d v) w->Q (.panic c) a w) (h:WU P bC.toArray S e f Q n ds l W' ord):WC P (.region ae bC.toArray true) Q n ds l W':=by
 intro a w m p;simp only [ew] at b
 have:=HK (md:=.any) _ _ _ _ ((np b.1 b.2.1 k ord _ _ a w.drew (OW b.2.2.1) (λj o q r=>by
   have s:j<bC.length:=by simpa using (GV.1 q).1
   simp [jm,Array.getElem?_replicate,s] at r)).1 b.2.2.2 (h a w.drew m (i w p)))
 exact wp_region_any g this
variable {aA:List Nat}
def CU {L:List ah} {Vs:List View} (ok:Option Tmp->Bool) (is:List Nat) (S:List Nat) (ord:cV) (b:P.follows .mixedOrders=true)
   (e:(v_ ok bC.toArray&&(Region.noSelect bC.toArray&&(qx bC.toArray.size S&&kz .any bC.toArray S true ord bC.toArray.size (Array.replicate bC.toArray.size false))))=true)
   (f:∀c a w d v,ok d=true->Q (.panic c) (a.put d v) w->Q (.panic c) a w) (h:WU P bC.toArray S (Ws bF aA (outs is L) Vs) od Q n ds l (Ws bF aA L Vs) ord):WC P (.region ae bC.toArray true) Q n ds l (Ws bF aA L Vs):=
 WC.OX ok S ord b (λ_ h=>h.drew) e f h
variable {dh:Bool} {nt:cV} {aB:Nat} {jM:Op} {aU:TypeId} {e8:String} {ft:Array Edge} {aM:Option (Nat×Bool)}
def WV.q (hi:ops[ae]? = some ⟨some aB,jM,aU,e8,ft,aM⟩) (d:dI ops l aM) (e:Nat.blt aB n=true)
   (hC:∀w,W w->C w) (f:∀w,W w->D w) (g:Yl P l (bif dh then C else D) ⟨some aB,jM,aU,e8,ft,aM⟩ aW) (h:WU P ops S C D Q n ds ((aB,aW)::l) W nt):WU P ops S C D Q n ds l W (.q dh ae nt):=by
 intro a w b c;refine ⟨⟨hC w c,f w c⟩,_,aW,hi,.inl ⟨dI.wanted (o:=⟨some aB,jM,aU,e8,ft,aM⟩) d b,λw' i=>g a.eval w' (λx u j=>b.eval j) i⟩,h _ _ (b.put e aW) c⟩
def Uq (hi:ops[ae]? = some ⟨some aB,jM,aU,e8,ft,aM⟩) (a:dI ops l aM) (b:Nat.blt aB n=true)
   (hC:∀w,W w->C w) (c:Yl P l (bif dh then C else λ_=>True) ⟨some aB,jM,aU,e8,ft,aM⟩ aW) (h:WU P ops S C od Q n ds ((aB,aW)::l) W nt):WU P ops S C od Q n ds l W (.q dh ae nt):=WV.q hi a b hC (λ_ _=>trivial) c h
def U0 (hi:ops[ae]? = some ⟨some aB,jM,aU,e8,ft,none⟩) (hC:∀w,W w->C w) (a:Yl P l (bif dh then C else λ_=>True) ⟨some aB,jM,aU,e8,ft,none⟩ aW) (h:WU P ops S C od Q n ds ((aB,aW)::l) W nt) (b:Nat.blt aB n=true:=by rfl):WU P ops S C od Q n ds l W (.q dh ae nt):=Uq hi (.inl rfl) b hC a h
def WU.skip {j:Nat}   {b:Nat} (hi:ops[ae]? = some ⟨some aB,jM,aU,e8,ft,some (j,dh)⟩) (f:Nat.blt aB n=true)
   (g:ops[j]? = some aC) (i:aC.dst=some b) (k:Nat.blt b n=true) (m:lk l b=some (.bool (!dh)))
   (hC:∀w,W w->C w) (h:WU P ops S C od Q n ds ((aB,undef)::l) W nt):WU P ops S C od Q n ds l W (.q false ae nt):=by
 intro a w c d;have hv:a.tmps.getD b undef = .bool (!dh):=c.bl b _ m
 have e:b<a.tmps.size:=by rw [c.size]; exact pP k
 have o:a.tmps[b]? = some (.bool (!dh)):=by
   rw [jm,sI e] at hv;rw [sI e]
   simpa using hv
 have p:yielded ops a.tmps j=some (!dh):=by simp [yielded,g,i,o]
 exact ⟨⟨hC w d,trivial⟩,_,undef,hi,.inr ⟨by simp [Region.wanted,p],O⟩,h _ _ (c.put f undef) d⟩
def HP {c:Act->World->Prop} (hi:ops[ae]? = some aC)   (this:wpList P ops (Exit.then c Q) [aC] hd bF):wpOp P ops Q ae c hd bF:=by
 unfold wpList at this;unfold wpOp;simp only [hi]
 split
 · rename_i b
   rw [a8 b] at this
   rcases this with this | ⟨d,a2,f,g⟩
   · left
     unfold Oper.wp at this ⊢;unfold Oper.upon at this ⊢
     split at this
     all_goals first
       | exact this
       | (refine this.mono λe w' a=>?_
          cases e with
          | returned v=>exact a
          | panicked j=>exact a
          | outgrown=>obtain ⟨a3,h,i⟩:=a; exact ⟨a3,h,i⟩)
       | exact this.mono λv w' a=>a
   · exact .inr ⟨d,a2,f,g⟩
 · rename_i b
   rw [av b] at this;exact this
variable {Aq:cV}
def WV.e (hi:ops[ae]? = some aC) (hC:∀w,W w->C w) (d:∀w,W w->D w) (h:WL P ops (Exit.then (qN P ops S C D Q nt) Q) n ds l W [aC]) (f:WU P ops S C D Q n ds l W Aq):WU P ops S C D Q n ds l W (.e ae nt Aq):=
 λa w c b=>⟨⟨hC w b,d w b⟩,HP hi (h a w c b),f a w c b⟩
def Ue (hi:ops[ae]? = some aC) (hC:∀w,W w->C w) (h:WL P ops (Exit.then (qN P ops S C od Q nt) Q) n ds l W [aC]) (a:WU P ops S C od Q n ds l W Aq):WU P ops S C od Q n ds l W (.e ae nt Aq):=WV.e hi hC (λ_ _=>trivial) h a
def WU.stop:WU P ops S C D Q n ds l W .stop:=λ_ _ _ _=>trivial
def Eu (h:WU P ops S C D Q n ds l W nt):WE (Exit.then (qN P ops S C D Q nt) Q) .normal n ds l W:=h
def WU.nil (hC:∀w,W w->C w) (h:WS P ops D Q n ds l W S):WU P ops S C D Q n ds l W .nil:=λa w c b=>⟨hC w b,h a w c b⟩
def Ds.nil (c:∀w,W w->D w) (h:WE Q .normal n ds l W):WS P ops D Q n ds l W []:=λa w d b=>⟨c w b,h a w d b⟩
def WS.nil (h:WE Q .normal n ds l W):WS P ops od Q n ds l W []:=Ds.nil (λ_ _=>trivial) h
def Ds.e (hi:ops[ae]? = some aC) (c:∀w,W w->D w) (h:WL P ops (Exit.then (s6 P ops D Q aA) Q) n ds l W [aC]):WS P ops D Q n ds l W (ae::aA):=
 λa w d b=>⟨c w b,HP hi (h a w d b)⟩
def WS.e (hi:ops[ae]? = some aC) (h:WL P ops (Exit.then (s6 P ops od Q aA) Q) n ds l W [aC]):WS P ops od Q n ds l W (ae::aA):=Ds.e hi (λ_ _=>trivial) h
def Es (h:WS P ops D Q n ds l W aA):WE (Exit.then (s6 P ops D Q aA) Q) .normal n ds l W:=h
end
end Go.Bw
end
section
namespace Go.Bw
set_option linter.unnecessarySimpa false
open Go Go.RowKit
def Dt {α:Type} {f:α->List Value} {e:TypeId} {k c b o:Nat} {a:Option Addr} {xs:List α} {w:World} (h:(cW e k f a c xs).holds w) (i:a=some ⟨b,o,none⟩) :
   o=0/\∃cur,w.heap[b]? = some (.cells cur e (0,0))/\cur.toList.take (xs.length*k)=xs.flatMap f/\cur.size=c*k/\xs.length<=c:=by
 subst i;obtain ⟨s,j⟩:=(h:w.ownsRow 0 e k _ xs.length (xs.flatMap f))
 rcases j with ⟨d,_⟩ | ⟨g,cap,cur,hv,_,l,m,t,n,p⟩
 · cases d
 · injection hv with d _ q
   injection d with d
   injection d with d r
   subst d q r;exact ⟨O,cur,l,p,n,m⟩
section
variable {P:Program} {ops:Array Oper} {Q:Exit->Act->World->Prop} {n:Nat} {ds:List Deferred} {l:List (Nat×Value)} {w0:World} {F:List Nat} {L:List ah} {Vs:List View} {rest:List Oper}
 {ty:TypeId} {pos:String} {af:Array Edge} {g:Option (Nat×Bool)}
variable {a9:Type} {aU:TypeId} {ae aB:Nat} {cj:Option Addr}
def Du {f:a9->List Value}    {xs:List a9} {w:World} (d:Ws w0 F L Vs w) (i:Nat) (hL:L[i]? = some (cW aU ae f cj aB xs)) (j:0<xs.length):(∃b,cj=some ⟨b,0,none⟩)/\xs.length<=aB/\aB<=maxLen:=by
 obtain ⟨k,e⟩:=(d.kn _ (dY hL):w.ownsRow 0 aU ae _ xs.length (xs.flatMap f))
 rcases e with ⟨a,c⟩ | ⟨b,cap,cur,hv,_,_,g,h,_⟩
 · injection a with _ l _; omega
 · injection hv with a _ c
   subst a c;exact ⟨⟨b,O⟩,g,h⟩
variable {fd:Code}
def WC.Ar {f:a9->List Value}     {xs:List a9} (i:Nat) (hL:L[i]? = some (cW aU ae f cj aB xs)) (c:0<xs.length)
   (h:∀b,cj=some ⟨b,0,none⟩->xs.length<=aB->aB<=maxLen->WC P fd Q n ds l (Ws w0 F L Vs)):WC P fd Q n ds l (Ws w0 F L Vs):=by
 intro d w e a;obtain ⟨⟨b,g⟩,j,k⟩:=Du a i hL c;exact h b g j k d w e a
def WL.Ar {f:a9->List Value}    {xs:List a9} (i:Nat) (hL:L[i]? = some (cW aU ae f cj aB xs)) (c:0<xs.length)
   (h:∀b,cj=some ⟨b,0,none⟩->xs.length<=aB->aB<=maxLen->WL P ops Q n ds l (Ws w0 F L Vs) rest):WL P ops Q n ds l (Ws w0 F L Vs) rest:=by
 intro d w e a;obtain ⟨⟨b,g⟩,j,k⟩:=Du a i hL c;exact h b g j k d w e a
def WC.OY {f:a9->List Value}     {xs:List a9} (i:Nat) (hL:L[i]? = some (cW aU ae f cj aB xs))
   (h:(∀p,cj=some p->p.spot=none)->xs.length<=aB->aB<=maxLen->WC P fd Q n ds l (Ws w0 F L Vs)):WC P fd Q n ds l (Ws w0 F L Vs):=by
 intro d w e a;obtain ⟨r,j⟩:=(a.kn _ (dY hL):w.ownsRow 0 aU ae _ xs.length (xs.flatMap f))
 rcases j with ⟨c,g⟩ | ⟨b,cap,cur,hv,_,_,k,m,_⟩
 · injection c with o s q
   subst o q;exact h au Z (by unfold maxLen; omega) d w e a
 · injection hv with c _ g
   subst c g;exact h au k m d w e a
variable {dt:TypeId} {aW:Value}
def uu {f:a9->List Value}  {x:Operand} {b o p k c:Nat}  {xs:List a9} {y:a9}  {d:Option Tmp} (i j q:Nat) (m:bu l x=some (.pointer (some ⟨b,p,none⟩))) (hL:L[i]? = some (cW dt k f cj c xs)) (n:cj=some ⟨b,o,none⟩)
   (r:p=o+j*k+q) (e:∀x,(f x).length=k) (s:xs[j]? = some y) (h:(f y)[q]? = some aW) (t:mS P aU=true):Yl P l (Ws w0 F L Vs) ⟨d,.load aU x,ty,pos,af,g⟩ aW:=vX t m λw u=>by
 obtain ⟨rfl,cur,v,z,B,C⟩:=Dt (u.kn _ (dY hL)) n;refine cell_of_heap v ?_
 have A:q<k:=by have:=(cS.1 h).1; rw [e] at this; exact this
 have a:(xs.flatMap f)[j*k+q]? = some aW:=by rw [kZ e s A]; exact h
 rw [<-z,i6] at a
 split at a
 · subst r; simpa [gE] using a
 · cases a
def WL.storeT {f:a9->List Value}  {x s:Operand} {b o p k a c:Nat}  {xs:List a9} {y:a9}  (i j q:Nat) (e:a9) (G:dI ops l g) (H:bu l x=some (.pointer (some ⟨b,p,none⟩))) (I:bu l s=some aW) (hL:L[i]? = some (cW dt k f cj c xs)) (m:cj=some ⟨b,o,none⟩)
   (J:p=o+j*k+q) (v:∀x,(f x).length=k) (z:xs[j]? = some y) (K:dV P aU=some a) (r:(dO aW).length=a) (M:(dO aW).all (·.oneCell')=true) (an:q+a<=k) (N:f e=(f y).take q++dO aW++(f y).drop (q+a))
   (h:WL P ops Q n ds l (Ws w0 F (L.set i (cW dt k f cj c (xs.set j e))) Vs) rest):WL P ops Q n ds l (Ws w0 F L Vs) (⟨none,.store aU x s,ty,pos,af,g⟩::rest):=by
 refine WL.step G λR w t A ao S=>?_;have B:(cW dt k f cj c xs).holds w:=A.kn _ (dY hL);obtain ⟨rfl,cur,C,T,u,U⟩:=Dt B m;have V:j<xs.length:=(cS.1 z).1
 have ap:j*k+k<=xs.length*k:=by rw [<-CJ]; exact sJ _ V
 have aq:xs.length*k<=c*k:=sJ _ U
 have W:mU (.cells cur dt (0,0)) p a=true:=by
   simp only [mU,vK,zN,qb];exact xX (by simp [u]; omega)
 have X:(execOp R.eval ⟨none,.store aU x s,ty,pos,af,g⟩).run P w = .ok .skip { w with heap:=w.heap.setIfInBounds b (jq (.cells cur dt (0,0)) p (dO aW)) }:=by
   simp only [execOp,t.eval H,t.eval I,Instr.storeAt,Instr.sureAddr,Sem.run_bind,Sem.run_pure,Result.andThen_ok,z9 K r M C W]
 simp only [Oper.wp,X,Oper.upon_skip];refine S _ _ (h _ _ (t.uf undef) ?_);have Y:=lt_of_heap C
 have D:(xs.set j e).length=xs.length:=au
 have aa:=Dd v z (j:=q) (vs:=dO aW) (y:=e) Z (by rw [r]; exact N);refine Ws.pV A i hL ⟨O,O,O,au,λab ar ac=>?_⟩ ?_ (by subst m; simp [cq,Value.ownBlock]) (λav E=>?_)
 · have:b≠ab:=λad=>ac (by subst m; simp [cq,Value.ownBlock,ad])
   simp [qz this]
 · show World.ownsRow _ 0 dt k (.slice cj (xs.set j e).length c) (xs.set j e).length _
   rw [D];obtain ⟨aw,ae⟩:=(B:w.ownsRow 0 dt k _ xs.length (xs.flatMap f));refine ⟨by rw [pX v,D],.inr ?_⟩
   rcases ae with ⟨ag,_⟩ | ⟨g,cap,ax,hv,ay,az,ah,ai,aA,aB⟩
   · subst m; cases ag
   · subst m
     injection hv with d _ aj
     injection d with d
     injection d with d
     subst d aj;refine ⟨b,c,(cur.toList.take p++dO aW++cur.toList.drop (p+(dO aW).length)).toArray,O,cx _,?_,ah,ai,?_,?_⟩
     · show (w.heap.setIfInBounds b _)[b]? = _
       simp [Y,jq]
     · simp [u]; omega
     · rw [<-aa,<-T]
       subst J;simp only [gC]
       have ak:cur.toList.length=c*k:=by simp [u]
       have al:((cur.toList.take (xs.length*k)).take (j*k+q))=cur.toList.take (j*k+q):=by rw [List.take_take]; congr 1; omega
       have am:(cur.toList.take (j*k+q)).length=j*k+q:=by rw [mc,ak]; omega
       have d:(cur.toList.take (j*k+q)++dO aW).length=j*k+q+a:=by rw [bT,am,r]
       rw [al,r]
       have aC:xs.length*k=(j*k+q+a)+(xs.length*k-(j*k+q+a)):=Z
       rw [CD,d,nn (by rw [d]; omega),List.drop_take]
 · refine .inl ?_
   simp only [cq] at E ⊢;subst m
   simpa [Value.ownBlock] using E
def WL.ym {f:a9->List Value}    {xs:List a9} (i:Nat) (ys:List a9) (hL:L[i]? = some (cW aU ae f cj aB xs)) (a:∀x,(f x).length=ae) (b:ys.length<=xs.length) (c:xs.take ys.length=ys)
   (h:WL P ops Q n ds l (Ws w0 F (L.set i (cW aU ae f cj aB ys)) Vs) rest):WL P ops Q n ds l (Ws w0 F L Vs) rest:=
 WL.OT i ys.length hL a b (by rw [c]; exact h)
variable {lr:ah} {cL:List ah}
def WL.HQ (h:WL P ops Q n ds l (Ws w0 F (lr::fK cL::L) Vs) rest):WL P ops Q n ds l (Ws w0 F (fK (lr::cL)::L) Vs) rest:=LW (λ_ h=>h.wa) h
def WL.HR (h:WL P ops Q n ds l (Ws w0 F (fK (lr::cL)::L) Vs) rest):WL P ops Q n ds l (Ws w0 F (lr::fK cL::L) Vs) rest:=LW (λ_ h=>h.wb) h
def WC.HQ (h:WC P fd Q n ds l (Ws w0 F (lr::fK cL::L) Vs)):WC P fd Q n ds l (Ws w0 F (fK (lr::cL)::L) Vs):=n8 (λ_ h=>h.wa) h
def WC.HR (h:WC P fd Q n ds l (Ws w0 F (fK (lr::cL)::L) Vs)):WC P fd Q n ds l (Ws w0 F (lr::fK cL::L) Vs):=n8 (λ_ h=>h.wb) h
def WL.perm (a:L.Perm cL) (h:WL P ops Q n ds l (Ws w0 F cL Vs) rest):WL P ops Q n ds l (Ws w0 F L Vs) rest:=LW (λ_ h=>h.perm a) h
end
end Go.Bw
end
section
namespace Go.Bw
set_option linter.unnecessarySimpa false
open Go Go.RowKit
section
variable {P:Program} {ops:Array Oper} {Q:Exit->Act->World->Prop} {n:Nat} {ds:List Deferred} {l:List (Nat×Value)} {w0 w:World} {F:List Nat} {L:List ah} {Vs:List View} {rest:List Oper} {A:ah} {As:List ah}
def Ws.OZ (h:Ws w0 F L Vs w) (i:Nat) (hL:L[i]? = some (fK (A::As))):Ws w0 F (L.set i (fK As)) Vs w:=by
 have a:=(h.perm (lp i L hL)).wa;have b:Ws w0 F (fK As::eQ i L) Vs w:=Ws.drop (L:=[A]) a;exact b.perm (set_perm i L hL)
def Ws.xS (h:Ws w0 F L Vs w) (i:Nat) (hL:L[i]? = some (fK As)) (e:TypeId) (size:Nat):Ws w0 F (L.set i (fK (cq e size (.slice none 0 0) 0 []::As))) Vs w:=by
 have a:=(h.perm (lp i L hL)).g3 e size;have b:=a.wb;exact b.perm (set_perm i L hL)
def Ws.aJ (h:Ws w0 F L Vs w) (i:Nat) (hL:L[i]? = some A):Ws w0 F (A::eQ i L) Vs w:=h.perm (lp i L hL)
def WL.HT {t i e:TypeId} {f:Value} {kn k:IntKind} {p d:Nat} {x y:Operand} {ty:TypeId} {pos:String} {af:Array Edge} {g:Option (Nat×Bool)} (m:Nat) (r:dI ops l g) (s:Nat.blt d n=true) (j:hc P t e f 1 p) (u:P.underlying i=some (.int kn))
   (v:bu l x=some (.slice none 0 0)) (z:bu l y=some (.int k (m:Int))) (A:0<m) (q:m<=maxLen) (B:m*p<=281474976710656)
   (h:∀b c cur,m<=c->c<=maxLen->cur.size=c->WL P ops Q n ds ((d,.slice (some ⟨b,0,none⟩) m c)::l) (Ws w0 F (aE b (.cells cur e (0,0))::L) Vs) rest) :
   WL P ops Q n ds l (Ws w0 F L Vs) (⟨some d,.call ⟨.builtin .append,#[x,y],#[t,i]⟩,ty,pos,af,g⟩::rest):=by
 refine WL.step r λa w o C N D=>?_;obtain ⟨E,hi,G,O,H⟩:=j.info;have I:=Lib.run_append_nil_zeros (P:=P) w t i ty e E f k kn j.under u hi G m A Z (by unfold maxLen at q; omega) (by rw [H]; exact B)
 have J:(execOp a.eval ⟨some d,.call ⟨.builtin .append,#[x,y],#[t,i]⟩,ty,pos,af,g⟩).run P w = .ok (.value (.slice (some ⟨w.heap.size,0,none⟩) m (grownCap w m 0 e))) (w.drew.alloc (.cells (Builtin.zeroCells f.cells m++Builtin.zeroCells f.cells (grownCap w m 0 e-m)) e)):=by
   simp only [execOp,resolve,xV,jn,qA,o.eval v,o.eval z,Sem.run_bind,Sem.run_pure,Result.andThen_ok,invoke,builtin,I]
 simp only [Oper.wp,J,Oper.upon_value];have K:=grownCap_ge w m 0 e;refine D _ _ (h w.heap.size _ (Builtin.zeroCells f.cells m++Builtin.zeroCells f.cells (grownCap w m 0 e-m)) K (grownCap_le_maxLen w m 0 e q) ?_ _ _ (o.put s _) ?_)
 · have M:f.cells.size=1:=j.zs
   simp [Builtin.zeroCells,M]; omega
 · exact C.drew.alloc _
end
section
variable {P:Program} {l:List (Nat×Value)} {W:World->Prop} {d:Option Tmp} {ty:TypeId} {pos:String} {af:Array Edge} {g:Option (Nat×Bool)}
def ny {t:TypeId} {x:Operand} {a:Option Addr} {n c s:Nat} (b:ga P t=some s) (f:bu l x=some (.slice a n c)):Yl P l W ⟨d,.call ⟨.builtin .cap,#[x],#[t]⟩,ty,pos,af,g⟩ (.int .i64 (c:Int)):=by
 intro j w h _;unfold ga at b
 cases e:P.underlying t with
 | none=>simp [e] at b
 | some i=>
   cases i<;>simp [e] at b
   simp [execOp,resolve,invoke,builtin,h x _ f,Builtin.cap_,run_underlying e,goInt]
end
end Go.Bw
end
section
namespace Go.Bw
set_option linter.unnecessarySimpa false
open Go Go.RowKit
section
variable {P:Program} {ops:Array Oper} {Q:Exit->Act->World->Prop} {n:Nat} {ds:List Deferred} {l:List (Nat×Value)} {w0 w:World} {F:List Nat} {L:List ah} {Vs:List View} {rest:List Oper}
 {ty:TypeId} {pos:String} {af:Array Edge} {g:Option (Nat×Bool)} {d:Nat}
def WL.o7 {α:Type} {f:α->List Value} {rd:View->Nat->Nat->α->Prop} {t e:TypeId} {S:Value} {size I:Nat} {s y:Operand} {a a2:Option Addr} {c c2:Nat} {xs ys:List α} (i:Nat) (H:World->View) (J:dI ops l g) (K:Nat.blt d n=true) (j:hc P t e S size I)
   (M:bu l s=some (.slice a xs.length c)) (N:bu l y=some (.slice a2 ys.length c2)) (hL:L[i]? = some (cW e size f a c xs)) (O:∀w,Ws w0 F L Vs w->Le (H w) w/\Sl rd size (H w) a2 c2 ys) (T:∀H b o x,rd H b o x->cw H b o (f x))
   (R:∀x,(f x).length=size) (U:∀x,(f x).all (·.oneCell')=true) (av:xs.length+ys.length<=9223372036854775807) (V:(xs.length+ys.length)*I<=140737488355328)
   (h:∀A B,WL P ops Q n ds ((d,.slice A (xs++ys).length B)::l) (Ws w0 F (L.set i (cW e size f A B (xs++ys))) Vs) rest) :
   WL P ops Q n ds l (Ws w0 F L Vs) (⟨some d,.call ⟨.builtin .append,#[s,y],#[t,t]⟩,ty,pos,af,g⟩::rest):=by
 cases a2 with
 | none=>
   refine WL.step J λW w E q aw X=>?_;obtain ⟨Y,hi,ax,ay,az⟩:=j.info;obtain ⟨_,C⟩:=O w q
   have Z:ys=[]:=by
     cases ys with
     | nil=>rfl
     | cons x r=>obtain ⟨b,o,z,_⟩:=C.aq 0 x rfl; cases z
   subst Z;have aa:w.ownsRow 0 e size (.slice a xs.length c) xs.length (xs.flatMap f):=q.kn _ (dY hL)
   have ab:xs.length<=c:=by
     rcases aa.2 with ⟨ac,_⟩ | ⟨b,cap,cur,hv,_,_,aA,_⟩
     · injection ac with _ aB ad; omega
     · injection hv with _ _ ad; omega
   have ae:=run_append_nothing (P:=P) w t t ty e Y j.under hi a xs.length c ab (.slice none 0 c2) ⟨.inl ⟨e,j.under⟩,by simp [Builtin.lenOf],run_firstCells_none w _ 0 0 c2,run_firstCells_none w.drew _ 0 0 c2,au,au⟩
   have ag:(execOp W.eval ⟨some d,.call ⟨.builtin .append,#[s,y],#[t,t]⟩,ty,pos,af,g⟩).run P w = .ok (.value (.slice a xs.length c)) w:=by
     simp only [execOp,resolve,xV,jn,qA,E.eval M,E.eval N,Sem.run_bind,Sem.run_pure,Result.andThen_ok,invoke,builtin,b8,ae]
   simp only [Oper.wp,ag,Oper.upon_value];have ah:i<L.length:=(cS.1 hL).1
   have ai:L.set i (cW e size f a c xs)=L:=by
     rw [<-(cS.1 hL).2]; exact xZ ah
   have G:=h a c;simp only [qB] at G;rw [ai] at G;exact X _ _ (G _ _ (E.put K _) q)
 | some p=>
   have aj:(xs.flatMap f)++ys.flatMap f=(xs++ys).flatMap f:=au
   have ak:xs.length+ys.length=(xs++ys).length:=au
   refine WL.append i J K j M N hL (news:=ys.flatMap f) (k:=ys.length) (pX R ys) (λw q k u D=>?_) (λu D=>?_) (by unfold maxLen; omega) V λal _=>?_
   · obtain ⟨am,C⟩:=O w q
     have an:=(cS.1 D).1
     have ao:0<ys.length:=by
       cases ys with
       | nil=>simp at an
       | cons x r=>simp
     obtain ⟨b,o,z,_⟩:=C.aq 0 _ (dM ao)
     injection z with z
     subst z;rw [mg];have ap:=j.pos;exact am.cell (C.flat R ap (T _) k u D)
   · obtain ⟨x,_,ar⟩:=ku.1 D
     exact hS.1 (U x) u ar
   · rw [aj,ak]
     have hi:i<L.length:=(cS.1 hL).1;refine WL.HB i (m:=(xs++ys).length) (xs:=(xs++ys).flatMap f) (e:=e) (size:=size) (v:=al) (by simp [hi]) λA B hv=>?_;subst hv;exact h A B
def WL.yn {ι:Type} {f:FuncId} {args:Array Operand} {ts:Array TypeId} {vs:List Value} (m:dI ops l g) (o:Nat.blt d n=true) (p:Enters P f) (q:g2 l args.toList=some vs)
   (v:ι->Value) (c:ι->List ah) (R:ι->Prop)
   (hC:∀w,Ws w0 F L Vs w->Calls P f vs.toArray w λe w'=>∃i,e = .returned (v i)/\R i/\Ws w [] (c i) [] w')
   (r:∀i,R i->WL P ops Q n ds ((d,v i)::l) (Ws w0 F (c i++L) Vs) rest) :
   WL P ops Q n ds l (Ws w0 F L Vs) (⟨some d,.call ⟨.value (.func f),args,ts⟩,ty,pos,af,g⟩::rest):=by
 refine WL.call m o p q v (λi w'=>R i/\Ws w0 F (c i++L) Vs w') (λw b=>(hC w b).mono λe w' ⟨i,s,t,h⟩=>⟨i,s,t,?_⟩) λi=>?_
 · exact Ws.sS (L:=[]) (L':=c i) (L2:=L) (by simpa using b) (by simpa using h.fr) h.kn h.nd (λu x k y=>by
     rcases h.own u x k y with j | j
     · simp at j
     · exact .inr j)
 · intro a w z b
   exact r i b.1 a w z b.2
end
end Go.Bw
end
section
namespace Go.Bw
set_option linter.unnecessarySimpa false
open Go Go.RowKit
section
variable {P:Program} {ops:Array Oper} {Q:Exit->Act->World->Prop} {n:Nat} {ds:List Deferred} {l:List (Nat×Value)} {w0:World} {F:List Nat} {L:List ah} {Vs:List View} {rest:List Oper} {c:Code}
 {ty:TypeId} {pos:String} {af:Array Edge} {g:Option (Nat×Bool)}
variable {iX:World->Prop}
def WC.fact {p:Prop}  (d:∀w,iX w->p) (h:p->WC P c Q n ds l iX):WC P c Q n ds l iX:=λa w e b=>h (d w b) a w e b
def WL.fact {p:Prop}  (c:∀w,iX w->p) (h:p->WL P ops Q n ds l iX rest):WL P ops Q n ds l iX rest:=λa w d b=>h (c w b) a w d b
variable {a9:Type} {aU:TypeId} {bF:World}
def Ws.HU {f:a9->List Value} {k b c:Nat}  {xs:List a9}  (h:Ws w0 F L Vs bF) (i:Nat) (hL:L[i]? = some (aE b (.cells (xs.flatMap f).toArray aU (0,0)))) (d:∀x,(f x).length=k) (a:xs.length=c) (g:c<=maxLen):Ws w0 F (L.set i (cW aU k f (some ⟨b,0,none⟩) c xs)) Vs bF:=by
 have e:=h.Hd i hL (m:=c) (cap:=c) (size:=k) (eH _) g (by simp [pX d,a])
 have j:cq aU k (.slice (some ⟨b,0,none⟩) c c) c ((xs.flatMap f).toArray.toList.take (c*k))=cW aU k f (some ⟨b,0,none⟩) c xs:=by
   show _=cq aU k (.slice (some ⟨b,0,none⟩) xs.length c) xs.length (xs.flatMap f)
   rw [a,nn (by rw [List.toList_toArray,pX d,a]; exact eH _)]
 rw [j] at e;exact e
def WC.s7 {ι:Type} {x y:Code}  (b:ι->List (Nat×Value)) (Wi:ι->World->Prop) (R:ι->Prop) (d:WC P x (Exit.then (λa w=>∃i,R i/\Ag n ds (b i) a/\Wi i w) Q) n ds l iX) (f:∀i,R i->WC P y Q n ds (b i) (Wi i)):WC P (.seq x y) Q n ds l iX:=by
 intro a w g h;refine wp_seq (wp_mono (d a w g h) λe j w' c=>?_)
 cases e with
 | normal=>obtain ⟨i,k,m,o⟩:=c; exact f i k j w' m o
 | _=>exact c
def Em {Q:Exit->Act->World->Prop}  {b:a9->List (Nat×Value)} {Wi:a9->World->Prop} {R:a9->Prop} (i:a9) (c:R i) (d:∀p ∈ b i,lk l p.1=some p.2) (e:∀w,iX w->Wi i w) :
   WE (Exit.then (λa w=>∃i,R i/\Ag n ds (b i) a/\Wi i w) Q) .normal n ds l iX:=λa w f g=>⟨i,c,f.sub d,e w g⟩
def jO {ι:Type} {Q:Exit->Act->World->Prop} {W:World->Prop} {b:ι->List (Nat×Value)} {Wi:ι->World->Prop} {R:ι->Prop} (i:ι) (c:R i) (d:∀w,W w->Wi i w) (e:vT l (b i)=vU (b i):=by rfl):WE (Exit.then (λa w=>∃i,R i/\Ag n ds (b i) a/\Wi i w) Q) .normal n ds l W:=Em i c (x3 e) d
def Dv {a:ah} (i:Nat) (hL:L[i]? = some a):L.set i a=L:=by
 rw [<-(cS.1 hL).2]; exact xZ (cS.1 hL).1
def WL.oe {a A':ah} (i:Nat) (hL:L[i]? = some a) (b:a=A') (h:WL P ops Q n ds l (Ws w0 F (L.set i A') Vs) rest):WL P ops Q n ds l (Ws w0 F L Vs) rest:=by
 subst b; rwa [Dv i hL] at h
def WC.oe {a A':ah} (i:Nat) (hL:L[i]? = some a) (b:a=A') (h:WC P c Q n ds l (Ws w0 F (L.set i A') Vs)):WC P c Q n ds l (Ws w0 F L Vs):=by
 subst b; rwa [Dv i hL] at h
def Ws.oe {a A':ah} (h:Ws w0 F L Vs bF) (i:Nat) (hL:L[i]? = some a) (b:a=A'):Ws w0 F (L.set i A') Vs bF:=by
 subst b; rwa [Dv i hL]
variable {cj:Option Addr}
def O0 {f:a9->List Value} {t e:TypeId} {x:Operand} {b o p k c:Nat}  {xs:List a9} {y:a9} {v:Value} {d:Option Tmp} {As:List ah} (i j q:Nat) (n:bu l x=some (.pointer (some ⟨b,p,none⟩))) (hL:L[i]? = some (fK As)) (r:cW e k f cj c xs ∈ As) (s:cj=some ⟨b,o,none⟩)
   (u:p=o+j*k+q) (h:∀x,(f x).length=k) (z:xs[j]? = some y) (m:(f y)[q]? = some v) (A:mS P t=true):Yl P l (Ws w0 F L Vs) ⟨d,.load t x,ty,pos,af,g⟩ v:=vX A n λw B=>by
 have C:(cW e k f cj c xs).holds w:=(B.kn _ (dY hL):(fK As).holds w) _ r;obtain ⟨rfl,cur,D,E,H,I⟩:=Dt C s;refine cell_of_heap D ?_
 have G:q<k:=by have:=(cS.1 m).1; rw [h] at this; exact this
 have a:(xs.flatMap f)[j*k+q]? = some v:=by rw [kZ h z G]; exact m
 rw [<-E,i6] at a
 split at a
 · subst u; simpa [gE] using a
 · cases a
variable {ae aB:Nat}
def HV {f:a9->List Value}    {xs:List a9}  {As:List ah} (d:Ws w0 F L Vs bF) (i:Nat) (hL:L[i]? = some (fK As)) (e:cW aU ae f cj aB xs ∈ As) (h:0<xs.length):∃b o,cj=some ⟨b,o,none⟩:=by
 obtain ⟨j,g⟩:=((d.kn _ (dY hL):(fK As).holds bF) _ e:bF.ownsRow 0 aU ae _ xs.length (xs.flatMap f))
 rcases g with ⟨a,c⟩ | ⟨b,cap,cur,hv,_,_,k,l,_⟩
 · injection a with _ m _; omega
 · injection hv with a _ c
   subst a c;exact ⟨b,0,O⟩
def At {f:a9->List Value}    {xs:List a9}  (a:Ws w0 F L Vs bF) (i:Nat) (hL:L[i]? = some (cW aU ae f cj aB xs)) (c:0<xs.length):∃b o,cj=some ⟨b,o,none⟩:=by
 obtain ⟨⟨b,h⟩,_⟩:=Du a i hL c;exact ⟨b,0,h⟩
end
section
variable {P:Program} {l:List (Nat×Value)} {W:World->Prop} {d:Option Tmp} {ty:TypeId} {pos:String} {af:Array Edge} {g:Option (Nat×Bool)}
variable {aU dt:TypeId} {a_ bM:Operand} {aG:IntKind} {aL cg:Int}
def O1 (a:bu l a_=some (.int aG aL)) (b:bu l bM=some (.int aG cg)) (h:aL<cg):Yl P l W ⟨d,.binOp .lss aU a_ bM dt,ty,pos,af,g⟩ (.bool true):=by
 have:=cy (P:=P) (W:=W) (d:=d) (ty:=ty) (pos:=pos) (af:=af) (g:=g) (t:=aU) (u:=dt) a b
 rwa [show decide (aL<cg)=true by simpa using h] at this
def O2 (a:bu l a_=some (.int aG aL)) (b:bu l bM=some (.int aG cg)) (h:cg<=aL):Yl P l W ⟨d,.binOp .lss aU a_ bM dt,ty,pos,af,g⟩ (.bool false):=by
 have:=cy (P:=P) (W:=W) (d:=d) (ty:=ty) (pos:=pos) (af:=af) (g:=g) (t:=aU) (u:=dt) a b
 rwa [show decide (aL<cg)=false by simp; omega] at this
end
section
variable {P:Program} {l:List (Nat×Value)} {W:World->Prop} {d:Option Tmp} {ty:TypeId} {pos:String} {af:Array Edge} {g:Option (Nat×Bool)}
def we (v:Value) (b:Bool):Prop:=(b=true->v = .nilIface)/\(b=false->∃t x,v = .iface t x)
def O3 {t u:TypeId} {x:Operand} {v:Value} (b:Bool) (c:P.underlying t=some (.interface (P.methodsAt t))) (e:bu l x=some v) (f:we v b):Yl P l W ⟨d,.binOp .eql t x (.const .nilIface) u,ty,pos,af,g⟩ (.bool b):=by
 intro j w a _;have i:j (.const .nilIface) = .nilIface:=a _ _ rfl
 cases b with
 | true=>
   obtain rfl:=f.1 rfl;simp only [execOp,a x _ e,i,Sem.run_bind];simp [eqGuard_nil_constR,run_eql_nil_nil (h:=c)]
 | false=>
   obtain ⟨s,y,rfl⟩:=f.2 rfl
   have k:(eqGuard .eql t x (.const .nilIface) (.iface s y) .nilIface)=pure ():=by cases x<;>rfl
   simp only [execOp,a x _ e,i,Sem.run_bind,k];simp [run_eql_held_nil (h:=c)]
end
variable {hT:Program} {ae:Nat}
def WL.wk {ops:Array Oper} {Q:Exit->Act->World->Prop}  {ds:List Deferred} {l:List (Nat×Value)} {W W':World->Prop} {rest:List Oper} (b:∀w,W w->W' w) (h:WL hT ops Q ae ds l W' rest):WL hT ops Q ae ds l W rest:=λa w c d=>h a w c (b w d)
structure Dw (P:Program) (gp gs gr:Nat) (H:View):Prop where
 pow:∃t f,H gp=some (.cells (Lib.pow10Tab.map λz=>Value.int .u64 z).toArray t f)
 O6:∃ev,vc H gs 0=some ev/\(ev = .nilIface\/∃te pe,ev = .iface te pe)
 O7:∃ev,vc H gr 0=some ev/\(ev = .nilIface\/∃te pe,ev = .iface te pe)
variable {bF:World} {e8:String}
def Dw.Dz {a b c:Nat} {H:View} (h:Dw hT a b c H)  (d:Le H bF)  (e:hT.globalNamed e8=some a):Lib.TabIs hT bF e8 .u64 Lib.pow10Tab:=by
 obtain ⟨t,f,g⟩:=h.pow;unfold Lib.TabIs World.var?;rw [e];simp [d _ _ g]
def O8 (a:Lib.TabIs hT bF e8 .u64 Lib.pow10Tab) (c:hT.globalNamed e8=some ae):∃t f,hv bF ae=some (.cells (Lib.pow10Tab.map λd=>Value.int .u64 d).toArray t f):=by
 unfold Lib.TabIs World.var? at a;rw [c] at a;simp only [cM] at a
 cases b:bF.heap[ae]? with
 | none=>simp [b] at a
 | some o=>
   cases o with
   | cells cs t f=>
     simp only [b,eY] at a;subst a;exact ⟨t,f,b⟩
   | _=>simp [b] at a
def O9 (w:World) (k:Nat) (os:Array Obj):Ext w (Go.Sort.grow (w.drewN k) os):=by
 refine ⟨O,O,O,by simp [Go.Sort.grow,World.drewN],λb a _=>?_⟩;simp [Go.Sort.grow,World.drewN,zJ,a]
structure p1 {κ:Type} [BEq κ] [LawfulBEq κ] (kd:TypeDesc) (kv:κ->Value):Prop where
 same:∀a b,Instr.sameNow kd (kv a) (kv b)=some (a==b)
 isKey:∀a,MapKept.IsKey kd (kv a)
def mm:p1 (.int .i64) (λn:Int=>Value.int .i64 n):=⟨λa b=>by simp [Instr.sameNow],λa=>by simp [MapKept.IsKey]⟩
def p2:p1 .string st:=⟨λa b=>by simp only [st,Instr.sameNow,Dj],λa=>by simp [MapKept.IsKey,st]⟩
section
variable {κ:Type} {kv:κ->Value}
abbrev fu (κ:Type):=κ×Value×Nat
def cF (a:κ->Value) (e:fu κ):MapEntry:={ key:=a e.1,val:=e.2.1,born:=e.2.2 }
def dy (a:κ->Value) (m:List (fu κ)) (c:Nat):Obj:=.map (m.map (cF a)).toArray c
def O' (m:List (fu κ)) (j:Nat) (k:κ) (v:Value):(m.map (cF kv)).modify j (λe=>{ e with key:=kv k,val:=v })=(m.modify j λe=>(k,v,e.2.2)).map (cF kv):=by
 apply pS;intro i;simp only [x1,gS]
 cases m[i]? with
 | none=>simp
 | some e=>by_cases h:j=i<;>simp [h,cF]
variable {P:Program} {ops:Array Oper} {Q:Exit->Act->World->Prop} {n:Nat} {ds:List Deferred} {l:List (Nat×Value)} {w0:World} {F:List Nat} {L:List ah} {Vs:List View} {rest:List Oper} {d:Nat} {ty:TypeId} {pos:String} {af:Array Edge} {g:Option (Nat×Bool)}
def WL.rY {t:TypeId} (a:κ->Value) (c:dI ops l g) (e:Nat.blt d n=true)
   (h:∀b,WL P ops Q n ds ((d,.map (some b))::l) (Ws w0 F (aE b (dy a [] 0)::L) Vs) rest) :
   WL P ops Q n ds l (Ws w0 F L Vs) (⟨some d,.makeMap t none,ty,pos,af,g⟩::rest):=
 WL.new (mk:=λb=>.map (some b)) (o:=dy a [] 0) c e (λf w _ _=>by
   simp only [execOp]
   simp [Instr.makeMap,dy]) h
end
section
variable {κ:Type} [BEq κ] [LawfulBEq κ] {kd:TypeDesc} {kv:κ->Value}
def d' (k:κ):List (fu κ)->Nat->Option (Nat×Value)
 | [],_=>none
 | e::r,i=>if (k==e.1)=true then some (i,e.2.1) else d' k r (i+1)
def gw (k:κ) (v:Value) (m:List (fu κ)) (c:Nat):List (fu κ):=match d' k m 0 with
 | some (i,_)=>m.modify i λe=>(k,v,e.2.2)
 | none=>m++[(k,v,c)]
def lY (k:κ) (m:List (fu κ)) (c:Nat):Nat:=match d' k m 0 with | some _=>c | none=>c+1
def hY (k:κ) (m:List (fu κ)) (a:Value):Value:=match d' k m 0 with | some (_,v)=>v | none=>a
def p3 (k:κ) (m:List (fu κ)):Bool:=(d' k m 0).isSome
def DA (a:p1 kd kv) (k:κ):∀(m:List (fu κ)) (i:Nat),Instr.findNow kd (kv k) (m.map (cF kv)) i=some (d' k m i)
 | [],_=>rfl
 | e::r,i=>by
   simp only [jn,Instr.findNow,cF,a.same,d'];cases h:(k==e.1)
   · simp only [aw,cn]
     exact DA a k r (i+1)
   · simp
def HW (k:κ) (j:Nat) (b:Value):∀(m:List (fu κ)) (a:Nat),d' k m a=some (j,b)->a<=j/\(m[j-a]?).map (·.1)=some k
 | [],a,h=>by simp [d'] at h
 | e::r,a,h=>by
   simp only [d'] at h
   split at h
   · rename_i c
     injection h with h; injection h with d f
     subst d;simp at c;simp [c]
   · obtain ⟨d,f⟩:=HW k j b r (a+1) h
     refine ⟨Z,?_⟩
     have:j-a=(j-(a+1))+1:=Z
     rw [this]; simpa using f
variable {P:Program} {ops:Array Oper} {Q:Exit->Act->World->Prop} {n:Nat} {ds:List Deferred} {l:List (Nat×Value)} {w0:World} {F:List Nat} {L:List ah} {Vs:List View} {rest:List Oper} {d:Nat} {ty:TypeId} {pos:String} {af:Array Edge} {g:Option (Nat×Bool)}
variable {aU dt iJ:TypeId} {aB:Nat} {aW:Value}
def Av {m:List (fu κ)} {k:κ}  (b:Bool) (c:p1 kd kv) (e:P.underlying aU=some (.map dt iJ)) (d:P.underlying dt=some kd) (f:zeroOf P iJ=some aW) (a:bF.heap[ae]? = some (dy kv m aB)) :
   (Instr.lookup aU (.map (some ae)) (kv k) b).run P bF = .ok (if b=true then .tuple #[hY k m aW,.bool (p3 k m)] else hY k m aW) bF:=by
 have g:=DA c k m 0;have a:bF.heap[ae]? = some (.map (m.map (cF kv)).toArray aB):=a;have h:(Instr.checkKey (m.map (cF kv)).toArray.isEmpty 10000 dt (kv k)).run P bF = .ok () bF:=MapKept.run_checkKey (k:=kv k) d (c.isKey k) _ 9999;simp only [Instr.lookup,Sem.run_bind,run_underlying e,Result.andThen_ok,MapKept.run_getObj_map a,Sem.run_pure,h];rw [MapKept.run_findKey d (by simpa using g)];unfold hY p3
 cases j:d' k m 0 with
 | none=>simp [Result.andThen_ok,uk f]
 | some r=>obtain ⟨i,v⟩:=r; simp [Result.andThen_ok]
variable {iK:Option Tmp} {a_ bM:Operand}
def HX {m:List (fu κ)} {k:κ}  (i:Nat) (b:p1 kd kv) (c:P.underlying aU=some (.map dt iJ)) (d:P.underlying dt=some kd) (e:zeroOf P iJ=some aW) (f:bu l a_=some (.map (some ae))) (h:bu l bM=some (kv k)) (hL:L[i]? = some (aE ae (dy kv m aB))) :
   Yl P l (Ws w0 F L Vs) ⟨iK,.lookup aU a_ bM false,ty,pos,af,g⟩ (hY k m aW):=by
 intro n w a j;simp [execOp,a a_ _ f,a bM _ h,Av (P:=P) (k:=k) false b c d e (j.kn _ (dY hL):w.heap[ae]? = some (dy kv m aB))]
def HY {m:List (fu κ)} {k:κ}  (i:Nat) (b:p1 kd kv) (c:P.underlying aU=some (.map dt iJ)) (d:P.underlying dt=some kd) (e:zeroOf P iJ=some aW) (f:bu l a_=some (.map (some ae))) (h:bu l bM=some (kv k)) (hL:L[i]? = some (aE ae (dy kv m aB))) :
   Yl P l (Ws w0 F L Vs) ⟨iK,.lookup aU a_ bM true,ty,pos,af,g⟩ (.tuple #[hY k m aW,.bool (p3 k m)]):=by
 intro n w a j;simp [execOp,a a_ _ f,a bM _ h,Av (P:=P) (k:=k) true b c d e (j.kn _ (dY hL):w.heap[ae]? = some (dy kv m aB))]
def HZ {t a e:TypeId}  {m:List (fu κ)} {k:κ}  (b:p1 kd kv) (h:P.underlying t=some (.map a e)) (g:P.underlying a=some kd) (i:bF.heap[ae]? = some (dy kv m aB)) :
   (Instr.mapUpdate t (.map (some ae)) (kv k) aW).run P bF = .ok () { bF with heap:=bF.heap.setIfInBounds ae (dy kv (gw k aW m aB) (lY k m aB)) }:=by
 have c:bF.heap[ae]? = some (.map (m.map (cF kv)).toArray aB):=i;have l:=DA b k m 0;have n:(Instr.checkKey false 10000 a (kv k)).run P bF = .ok () bF:=MapKept.run_checkKey (k:=kv k) g (b.isKey k) _ 9999;simp only [Instr.mapUpdate,Sem.run_bind,run_underlying h,Result.andThen_ok,MapKept.run_getObj_map c,Sem.run_pure,n];rw [MapKept.run_findKey g (by simpa using l)];unfold gw lY
 cases o:d' k m 0 with
 | none=>simp [Result.andThen_ok,MapKept.run_setObj_map _ c,dy,cF]
 | some r=>
   obtain ⟨j,p⟩:=r
   have d:m[j]?.map (·.1)=some k:=by simpa using (HW k j p m 0 o).2
   have q:((((m.map (cF kv)).toArray)[j]?).map (·.key)).getD (kv k)=kv k:=by
     cases f:m[j]? with
     | none=>simp [f]
     | some e=>rw [f] at d; simp at d; simp [f,cF,d]
   simp only [q,Result.andThen_ok];simp only [Sem.run_bind,MapKept.run_keyThatStays (b.isKey k),Result.andThen_ok,MapKept.run_setObj_map _ c,dy]
   have s:(m.map (cF kv)).toArray.modify j (λe=>{ e with key:=kv k,val:=aW })=((m.modify j λe=>(k,aW,e.2.2)).map (cF kv)).toArray:=by
     apply t';rw [xB];exact O' m j k aW
   rw [s]
variable {lq:Operand}
def WL.wg {t c e:TypeId}   {m:List (fu κ)} {k:κ}  (i:Nat) (o:p1 kd kv) (p:dI ops l g) (q:P.underlying t=some (.map c e)) (r:P.underlying c=some kd) (s:bu l a_=some (.map (some ae))) (u:bu l bM=some (kv k)) (v:bu l lq=some aW) (hL:L[i]? = some (aE ae (dy kv m aB)))
   (h:WL P ops Q n ds l (Ws w0 F (L.set i (aE ae (dy kv (gw k aW m aB) (lY k m aB)))) Vs) rest) :
   WL P ops Q n ds l (Ws w0 F L Vs) (⟨none,.mapUpdate t a_ bM lq,ty,pos,af,g⟩::rest):=by
 refine WL.step p λa w b d A x=>?_;have f:w.heap[ae]? = some (dy kv m aB):=d.kn _ (dY hL)
 have y:(execOp a.eval ⟨none,.mapUpdate t a_ bM lq,ty,pos,af,g⟩).run P w = .ok .skip { w with heap:=w.heap.setIfInBounds ae (dy kv (gw k aW m aB) (lY k m aB)) }:=by
   simp only [execOp,b.eval s,b.eval u,b.eval v,Sem.run_bind,HZ o q r f,Result.andThen_ok,Sem.run_pure]
 simp only [Oper.wp,y,Oper.upon_skip];refine x _ _ (h _ _ (b.uf undef) ?_);refine Ws.pV d i hL ⟨O,O,O,au,λj B z=>?_⟩ ?_ (by simp [aE]) (by simp [aE])
 · have:ae≠j:=λe=>z (by simp [aE,e])
   simp [qz this]
 · show (w.heap.setIfInBounds ae _)[ae]? = _
   simp [lt_of_heap f]
def WL.og {t c e:TypeId}   {m:List (fu κ)} {k:κ}  (i:Nat) (o:p1 kd kv) (p:dI ops l g) (q:P.underlying t=some (.map c e)) (r:P.underlying c=some kd) (s:bu l a_=some (.map (some ae))) (u:bu l bM=some (kv k)) (v:bu l lq=some aW) (hL:L[i]? = some (aE ae (dy kv m aB)))
   (h:WL P ops Q n ds l (Ws w0 F (L.set i (aE ae (dy kv (gw k aW m aB) (lY k m aB)))) Vs) rest) :
   WL P ops Q n ds l (Ws w0 F L Vs) (⟨none,.insert t a_ bM lq,ty,pos,af,g⟩::rest):=by
 refine WL.step p λa w b d A x=>?_;have f:w.heap[ae]? = some (dy kv m aB):=d.kn _ (dY hL)
 have y:(execOp a.eval ⟨none,.insert t a_ bM lq,ty,pos,af,g⟩).run P w = .ok .skip { w with heap:=w.heap.setIfInBounds ae (dy kv (gw k aW m aB) (lY k m aB)) }:=by
   simp only [execOp,b.eval s,b.eval u,b.eval v,Sem.run_bind,HZ o q r f,Result.andThen_ok,Sem.run_pure]
 simp only [Oper.wp,y,Oper.upon_skip];refine x _ _ (h _ _ (b.uf undef) ?_);refine Ws.pV d i hL ⟨O,O,O,au,λj B z=>?_⟩ ?_ (by simp [aE]) (by simp [aE])
 · have:ae≠j:=λe=>z (by simp [aE,e])
   simp [qz this]
 · show (w.heap.setIfInBounds ae _)[ae]? = _
   simp [lt_of_heap f]
end
def uw (P:Program) (t:TypeId):Option (Nat×Nat):=match P.underlying t with | some (.array n e)=>(P.info? e).map λi=>(n,i.size) | _=>none
def Aw (P:Program) (t:TypeId):Option Nat:=match P.underlying t with | some (.array n e)=>if mS P e=true/\(P.info? e).map (·.size)=some 1 then some n else none | _=>none
section
variable {P:Program} {l:List (Nat×Value)} {W:World->Prop} {d:Option Tmp} {ty:TypeId} {pos:String} {af:Array Edge} {g:Option (Nat×Bool)}
variable {aU:TypeId} {a_ bM:Operand} {aG:IntKind}
def ux {b o n s:Nat}  {i:Nat} (a:uw P aU=some (n,s)) (h:bu l a_=some (.pointer (some ⟨b,o,none⟩))) (j:bu l bM=some (.int aG (i:Int))) (k:i<n) :
   Yl P l W ⟨d,.indexAddr aU a_ bM,ty,pos,af,g⟩ (.pointer (some ⟨b,o+i*s,none⟩)):=by
 intro u w f _;unfold uw at a
 cases c:P.underlying aU with
 | none=>simp [c] at a
 | some p=>
   cases p<;>simp [c] at a
   rename_i m e;obtain ⟨v,hi,q,r⟩:=a;subst q r
   have t:(i:Int)<(m:Int):=Z
   simp [execOp,f a_ _ h,f bM _ j,Instr.indexAt,run_underlying c,asIntOf,t,k,sizeOf,typeInfo,hi,mg,Instr.sureAddr]
def H0 {n:Nat} {cs:Array Value}  {i:Nat} {v:Value} (a:Aw P aU=some n) (f:bu l a_=some (.agg cs)) (h:bu l bM=some (.int aG (i:Int))) (j:i<n) (hv:cs[i]? = some v) :
   Yl P l W ⟨d,.index aU a_ bM,ty,pos,af,g⟩ v:=by
 intro u w c _;unfold Aw at a
 cases b:P.underlying aU with
 | none=>simp [b] at a
 | some k=>
   cases k<;>simp [b] at a
   rename_i m e;obtain ⟨⟨o,p,hi,q⟩,rfl⟩:=a
   have r:(i:Int)<(m:Int):=Z
   have s:=z1 o w
   have t:(part e cs (i*p.size)).run P w = .ok v w:=by
     simp [part,s,q,hv]
   simp [execOp,c a_ _ f,c bM _ h,Instr.index,run_underlying b,asIntOf,r,j,sizeOf,typeInfo,hi,t]
end
end Go.Bw
end
section
namespace Go.Bw
open Go
structure Tok where
 kind:Int
 n:Int
 text:List UInt8
deriving DecidableEq
def Tok.cells (t:Tok):List Value:=[.int .i64 t.kind,.int .i64 t.n,st t.text]
def Tok.dk (x:Tok):x.cells.length=3:=rfl
def dW (H:View) (b o:Nat) (x:Tok):Prop:=cw H b o x.cells
def mn (u:Int):Bool:=decide (97<=u)&&decide (u<=122)
def uy (u:Int):Bool:=decide (48<=u)&&decide (u<=57)
def lu (u:UInt8):Bool:=mn u.toNat||uy u.toNat
def gc (s:List UInt8):Bool:=(decide (1<=s.length)&&decide (s.length<=8))&&mn ((s[0]?.getD 0).toNat)&&s.all lu
def Ax:List UInt8:=[123,125,40,41,91,93,44,59,61,46,43,45,42,47,37,60,33,38,124]
def qO (u:UInt8):Bool:=Ax.contains u
def js:List UInt8->Nat
 | []=>0
 | c::r=>if lu c=true then js r+1 else 0
def uz (s:List UInt8):Option Nat:=match Lib.decNat s with
 | some n=>if n<=1099511627775/\Lib.decDigits n=s then some n else none
 | none=>none
def s8 (s:List UInt8):Option Tok:=if gc s=true then some ⟨1,0,s⟩ else (uz s).map (λn:Nat=>(⟨2,(n:Int),[]⟩:Tok))
def mo:Nat->List UInt8->Option (List Tok)
 | _,[]=>some []
 | 0,_::_=>none
 | f+1,c::r=>
   if 0<js (c::r) then
     match s8 ((c::r).take (js (c::r))) with
     | some t=>(mo f ((c::r).drop (js (c::r)))).map (t::·)
     | none=>none
   else if qO c=true then (mo f r).map (⟨3,0,[c]⟩::·)
   else if c=32\/c=10 then mo f r
   else none
def k0 (s:List UInt8):Option (List Tok):=mo s.length s
def gm (s:List UInt8):List Tok×Int:=if 4096<s.length then ([],2) else match k0 s with
 | some l=>(l,0)
 | none=>([],1)
def qP (t:Tok):Bool:=decide (1<=t.kind)&&decide (t.kind<=3)
def ka (t:Tok):Bool:=if t.kind=1 then t.n==0&&gc t.text else if t.kind=2 then t.text==[]&&(decide (0<=t.n)&&decide (t.n<=1099511627775)) else t.n==0&&(t.text.length==1&&qO (t.text[0]?.getD 0))
def Ay (t:Tok):Bool:=!qP t
def Az (t:Tok):Bool:=!ka t
def yo (l:List Tok):Int:=if l.any Ay=true then 4 else if l.any Az=true then 1 else if 4096<l.length then 2 else 0
def oh (t:Tok):List UInt8:=if t.kind=2 then Lib.itoa t.n else t.text
def hH (l:List Tok):List UInt8:=Lib.join (l.map oh) [32]
def H1:∀(s:List UInt8) (n:Nat),n<=s.length->(∀j,j<n->lu (s[j]?.getD 0)=true)->(n=s.length\/lu (s[n]?.getD 0)=false)->js s=n
 | [],n,h,_,_=>by simp at h; subst h; rfl
 | c::r,0,_,_,h=>by
   have:lu c=false:=by
     rcases h with h | h
     · simp at h
     · simpa using h
   simp [js,this]
 | c::r,n+1,b,a,h=>by
   have d:lu c=true:=by simpa using a 0 Z
   rw [js,a8 d,H1 r n (by simpa using b) (λj e=>by simpa using a (j+1) Z) (by rcases h with h | h; left; simpa using h; right; simpa using h)]
def DB:∀(f g:Nat) (s:List UInt8),s.length<=f->s.length<=g->mo f s=mo g s
 | _,_,[],_,_=>by simp [mo]
 | 0,_,_::_,h,_=>by simp at h
 | _+1,0,_::_,_,h=>by simp at h
 | f+1,g+1,c::r,a,b=>by
   simp only [b5] at a b;unfold mo;rw [DB f g r Z Z]
   by_cases d:0<js (c::r)
   · rw [DB f g ((c::r).drop (js (c::r))) (by simp; omega) (by simp; omega)]
   · simp only [av d]
def H2:k0 []=some []:=rfl
variable {aS:List UInt8}
def DC (h:0<js aS):k0 aS=match s8 (aS.take (js aS)) with
   | some t=>(k0 (aS.drop (js aS))).map (t::·)
   | none=>none:=by
 cases aS with
 | nil=>simp [js] at h
 | cons c r=>
   show mo (r.length+1) (c::r)=_
   rw [mo,a8 h];unfold k0;rw [DB r.length ((c::r).drop (js (c::r))).length _ (by simp; omega) (eH _)]
variable {jN:UInt8}
def H3 (h:js (jN::aS)=0) (a:qO jN=true):k0 (jN::aS)=(k0 aS).map (⟨3,0,[jN]⟩::·):=by
 show mo (aS.length+1) (jN::aS)=_
 rw [mo,av Z,a8 a]
 rfl
def H4 (h:js (jN::aS)=0) (a:qO jN=false) (b:jN=32\/jN=10):k0 (jN::aS)=k0 aS:=by
 show mo (aS.length+1) (jN::aS)=_
 rw [mo,av Z,av (by simp [a]),a8 b]
 rfl
def H5 (h:js (jN::aS)=0) (a:qO jN=false) (b:¬(jN=32\/jN=10)):k0 (jN::aS)=none:=by
 show mo (aS.length+1) (jN::aS)=_
 rw [mo,av Z,av (by simp [a]),av b]
def DD (d:Nat) (f:d<10):∀(l:List UInt8) (a n:Nat),Lib.decFrom a l=some n->Lib.decFrom a (l++[UInt8.ofNat (48+d)])=some (n*10+d)
 | [],a,n,h=>by
   simp only [Lib.decFrom,eY] at h;subst h
   have e:(UInt8.ofNat (48+d)).toNat=48+d:=by simp [CL]; omega
   have:Lib.digitVal (UInt8.ofNat (48+d))=some d:=by
     unfold Lib.digitVal;rw [e,a8 Z];simp
   simp only [zO,Lib.decFrom,this]
 | b::r,a,n,h=>by
   simp only [Lib.decFrom,bt] at h ⊢
   cases c:Lib.digitVal b with
   | none=>simp [c] at h
   | some e=>
     simp only [c] at h ⊢;exact DD d f r _ n h
def H6 (n:Nat):Lib.decDigits n≠[]:=by
 rw [Lib.decDigits]
 split<;>simp
def O_ (n:Nat):Lib.decFrom 0 (Lib.decDigits n)=some n:=by
 induction n using Nat.strongRecOn with
 | _ n a=>
   rw [Lib.decDigits]
   split
   · rename_i h
     have:=DD n h [] 0 0 rfl
     simpa using this
   · rename_i h
     rw [DD (n % 10) Z _ _ _ (a (n / 10) Z)]
     congr 1
     omega
def H7 (n:Nat):Lib.decNat (Lib.decDigits n)=some n:=by
 unfold Lib.decNat;rw [av (by simpa using H6 n),O_]
def Pa (n:Nat):∀x ∈ Lib.decDigits n,48<=x.toNat/\x.toNat<=57:=by
 induction n using Nat.strongRecOn with
 | _ n b=>
   rw [Lib.decDigits]
   have e:∀d,d<10->(UInt8.ofNat (48+d)).toNat=48+d:=λd c=>by simp [CL]; omega
   split
   · rename_i h
     intro x a;simp only [fH] at a;subst a;rw [e n h]; omega
   · intro x a
     rw [fB,fH] at a
     rcases a with a | a
     · exact b (n / 10) Z x a
     · subst a
       rw [e _ Z]; omega
def DE:∀(k n:Nat),n<10 ^ (k+1)->(Lib.decDigits n).length<=k+1
 | 0,n,h=>by
   rw [Lib.decDigits,zY (by simpa using h)];simp
 | k+1,n,h=>by
   rw [Lib.decDigits]
   split
   · simp
   · rw [Nat.pow_succ] at h
     have:=DE k (n / 10) Z;simp; omega
def Pb (n:Nat):Lib.itoa (n:Int)=Lib.decDigits n:=by
 unfold Lib.itoa;rw [av Z];simp
def wh {n:Int} (h:0<=n):Lib.itoa n=Lib.decDigits n.toNat:=by
 unfold Lib.itoa;rw [av Z]
variable {ae:Nat}
def H8 (h:ae<=1099511627775):(Lib.decDigits ae).length<=13:=DE 12 ae Z
def H9 (h:uz aS=some ae):ae<=1099511627775/\Lib.decDigits ae=aS:=by
 unfold uz at h
 split at h
 · split at h
   · injection h with h
     subst h; assumption
   · cases h
 · cases h
def Pc (h:ae<=1099511627775):uz (Lib.decDigits ae)=some ae:=by
 unfold uz;rw [H7];simp [h]
def mZ (s:List UInt8):Tok×Bool:=if gc s=true then (⟨1,0,s⟩,true) else match Lib.atoiAll s with
 | .ok v=>(⟨2,v,[]⟩,((decide (0<=v)&&decide (v<=1099511627775))&&(Lib.itoa v==s)))
 | .range=>(⟨2,Lib.atoiSat s,[]⟩,false)
 | _=>(⟨2,0,[]⟩,false)
def H' {n:Nat} (h:n<=1099511627775):Lib.atoiAll (Lib.decDigits n) = .ok (n:Int):=by
 have k:=H8 h;rw [Lib.atoiAll_short _ Z];have g:=H6 n;have a:=Pa n;have c:=H7 n
 cases d:Lib.decDigits n with
 | nil=>exact absurd d g
 | cons b r=>
   rw [d] at a c;have f:=a b au
   have i:(b==45)=false:=by
     rw [G6];intro e; subst e; revert f; decide
   have j:(b==43)=false:=by
     rw [G6];intro e; subst e; revert f; decide
   simp [Lib.atoi,i,j,c,Lib.NumEnd.ofOption]
def H_ (s:List UInt8):s8 s=if (mZ s).2=true then some (mZ s).1 else none:=by
 unfold s8 mZ
 by_cases b:gc s=true
 · simp [b]
 · simp only [av b]
   cases h:uz s with
   | some n=>
     obtain ⟨a,c⟩:=H9 h;subst c;rw [H' a]
     have:((n:Int)<=1099511627775):=Z
     simp [Pb,this]
   | none=>
     cases e:Lib.atoiAll s with
     | ok v=>
       simp only
       by_cases hv:((decide (0<=v)&&decide (v<=1099511627775))&&(Lib.itoa v==s))=true
       · simp only [ew,sP,kW] at hv
         obtain ⟨⟨a,c⟩,d⟩:=hv
         have:uz s=some v.toNat:=by
           rw [<-d,wh a];exact Pc Z
         rw [h] at this; cases this
       · rw [av hv]; rfl
     | range=>rfl
     | _=>rfl
variable {bI:Tok}
def Pd (h:s8 aS=some bI):qP bI=true/\ka bI=true:=by
 unfold s8 at h
 split at h
 · rename_i a
   injection h with h
   subst h;exact ⟨O,by simp [ka,a]⟩
 · obtain ⟨n,a,rfl⟩:=dX.1 h
   have:=(H9 a).1;exact ⟨O,by simp [ka]; omega⟩
def nH:∀(k:Nat) (s:List UInt8) (l:List Tok),s.length<=k->k0 s=some l->(∀t ∈ l,qP t=true/\ka t=true)/\l.length<=s.length
 | _,[],l,_,h=>by
   rw [H2] at h
   injection h with h
   subst h; simp
 | 0,_::_,_,h,_=>by simp at h
 | k+1,c::r,l,n,h=>by
   simp only [b5] at n
   by_cases o:0<js (c::r)
   · rw [DC o] at h
     cases f:s8 ((c::r).take (js (c::r))) with
     | none=>simp [f] at h
     | some t=>
       simp only [f] at h;obtain ⟨g,i,rfl⟩:=dX.1 h;obtain ⟨b,d⟩:=nH k ((c::r).drop (js (c::r))) g (by simp; omega) i;refine ⟨λx a=>?_,?_⟩
       · rcases et.1 a with rfl | a
         · exact Pd f
         · exact b x a
       · simp at d ⊢; omega
   · have j:js (c::r)=0:=Z
     cases e:qO c with
     | true=>
       rw [H3 j e] at h;obtain ⟨g,i,rfl⟩:=dX.1 h;obtain ⟨b,d⟩:=nH k r g Z i;refine ⟨λx a=>?_,by simpa using d⟩
       rcases et.1 a with rfl | a
       · exact ⟨O,by simp [ka,e]⟩
       · exact b x a
     | false=>
       by_cases m:c=32\/c=10
       · rw [H4 j e m] at h
         obtain ⟨b,d⟩:=nH k r l Z h;exact ⟨b,by simp; omega⟩
       · rw [H5 j e m] at h; cases h
def any_none {α:Type} {p:α->Bool} {l:List α} (h:∀t ∈ l,p t=false):l.any p=false:=by
 rw [vO];intro x a;simp [h x a]
variable {o9:List Tok}
def Pe (h:∀t ∈ o9,qP t=true/\ka t=true) (b:o9.length<=4096):yo o9=0:=by
 unfold yo;rw [any_none (p:=Ay) λt a=>by simp [Ay,(h t a).1],any_none (p:=Az) λt a=>by simp [Az,(h t a).2]];simp; omega
def Ia (h:yo o9=0):(∀t ∈ o9,qP t=true/\ka t=true)/\o9.length<=4096:=by
 unfold yo at h
 split at h
 · cases h
 · rename_i a
   split at h
   · cases h
   · rename_i b
     split at h
     · cases h
     · rename_i d
       simp only [ey,not_exists,not_and] at a b;refine ⟨λt c=>⟨?_,?_⟩,Z⟩
       · have:=a t c; simpa [Ay] using this
       · have:=b t c; simpa [Az] using this
def Ib (h:(gm aS).2=0):yo (gm aS).1=0:=by
 unfold gm at h ⊢
 split
 · simp_all
 · rename_i b
   cases a:k0 aS with
   | none=>simp [b,a] at h
   | some l=>
     obtain ⟨c,d⟩:=nH _ aS l (eH _) a;exact Pe c (show l.length<=4096 by omega)
def Ic (x y:List UInt8) (r:List (List UInt8)) (s:List UInt8):Lib.join (x::y::r) s=x++s++Lib.join (y::r) s:=by
 simp [Lib.join,List.intercalate,List.intersperse]
def Ie (b:qP bI=true) (a:ka bI=true):(oh bI).length<=13:=by
 unfold oh;obtain ⟨k,n,s⟩:=bI
 have c:k=1\/k=2\/k=3:=by simp [qP] at b; omega
 rcases c with rfl | rfl | rfl
 · simp [ka,gc] at a ⊢; omega
 · have:s=[]/\0<=n/\n<=1099511627775:=by simpa [ka] using a
   simp only [a8];rw [wh this.2.1];exact H8 Z
 · simp [ka] at a ⊢; omega
def If:∀l:List Tok,(∀t ∈ l,qP t=true/\ka t=true)->(hH l).length<=l.length*14
 | [],_=>by simp [hH,Lib.join,List.intercalate]
 | [t],h=>by
   have:=Ie (h t au).1 (h t au).2;simp [hH,Lib.join,List.intercalate]; omega
 | t::u::r,h=>by
   have c:=Ie (h t au).1 (h t au).2;have a:=If (u::r) λx b=>h x (cz _ b);unfold hH at a ⊢;simp only [jn,Ic,bT,b5,b8] at a ⊢;omega
end Go.Bw
end
