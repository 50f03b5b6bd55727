/- WholeSame: Exec tells what Mean tells: the same numbers, the same end, the same data, as many ticks; and what is executed is never Broken, nor out of steps. -/
import Derived.Below
import Derived.Carry
import Derived.ChangeOld
import Derived.Deep.Quiet
import Derived.Deep.Slices
import Derived.Deep.Upon
import Derived.Defers
import Derived.JoinedCond
import Derived.LaidEql
import Derived.Laws.BytesString
import Derived.Laws.DeepStrings4
import Derived.Laws.Externs
import Derived.Laws.Pointers
import Derived.Laws.Slices
import Derived.Lib.AppendStr
import Derived.Lib.AppendZeros
import Derived.Lib.AtoiAllCases
import Derived.Lib.AtoiTie
import Derived.Lib.Builder
import Derived.Lib.Bytealg
import Derived.Lib.ConvBytes
import Derived.Lib.ItoaNum
import Derived.Lib.Join
import Derived.Lib.LaidTab
import Derived.Lib.SmallJoins
import Derived.Lib.UnsafeStr
import Derived.MapKept
import Derived.OpenShut
import Derived.ProofKit
import Derived.Recover
import Derived.Sort.Grow
import Derived.WalkKit
import Derived.WalkSpells
import Derived.WideMake
set_option linter.unusedVariables false
set_option linter.unusedSimpArgs false
set_option linter.defProp false
open _root_ renaming List->I,Nat->Z,Int->ac,Option->aA,Bool->aS,UInt8->ar,Array->bH,Unit->ef,String->fO
open Option renaming some->aa,none->ao
open Bool renaming true->ad,false->aq
open Go.Value renaming int->am,slice->aE,bool->bW,agg->b0,pointer->b8,tuple->cO,ownBlock->l8
open Go.IntKind renaming i64->an
open Go renaming World->aP,Value->aR,Addr->a6,TypeId->cn,Calls->cx,Oper->cg,Act->cY,Exit->di,Program->dJ,Operand->ei,Deferred->fw,Edge->fY,PanicEntry->oZ
open Go.Obj renaming cells->aY
open Or renaming inr->be,inl->bB
open Go.Ending renaming returned->cf
open Nat renaming blt->e',beq->ju,strongRecOn->om
open List renaming replicate->gb,range->lf
open Go.Result renaming andThen_ok->jc
open Go.Sem renaming run_bind->j7,run_pure->lG
open Go.Oper renaming wp->kt
open Go.Region renaming ready->ld,wanted->nN,Mode->q7,noSelect->q8,binds->rY
open Go.Lib renaming itoa->lg,decDigits->lH
open Array renaming replicate->vk
namespace Go
variable {BS:Prop}
def ai (h:BS:=by omega):BS:=h
def aK (h:BS:=by simp):BS:=h
def a8 (h:BS:=by decide):BS:=h
def zM (h:BS:=by assumption):BS:=h
def ah (h:BS:=by kernel_rfl):BS:=h
def bk {α:Type _} {l:I α} {i:Z} (h:i<l.length):∃x,l[i]? = aa x:=⟨_,I.getElem?_eq_getElem h⟩
def a' {α:Sort _} {p:α->Prop}:∀a,p a->p a:=λ_ h=>h
def x5 {α β:Sort _} {p:α->β->Prop}:∀a b,p a b->p a b:=λ_ _ h=>h
def iH {α β e f:Sort _} {p:α->β->e->f->Prop}:∀a b c d,p a b c d->p a b c d:=λ_ _ _ _ h=>h
def s9:=@Z.le_of_ble_eq_true
def o0:=@Z.eq_of_beq_eq_true
def lI:=@bH.getD_eq_getD_getElem?
def vl:=@bH.getElem?_setIfInBounds_ne
def rp:=@I.mem_cons_self
def m1:=@I.mem_cons_of_mem
def x6:=@bH.getElem?_eq_getElem
def eR:=@I.mem_cons
def BU:=@Z.beq_refl
def qp:=@Z.sub_zero
def m2:=@Z.lt_or_ge
def x7:=@I.getElem?_eq_none
def rR:=@bH.getElem?_append
def cy:=@I.getElem?_eq_getElem
def Ms:=@Classical.choose_spec
def pG:=@Z.le_trans
def c7:=@Z.le_refl
def rT:=@Z.lt_of_lt_of_le
def zN:=@bH.getElem?_eq_none
def r_:=@I.flatMap_append
def l9:=@I.nodup_append
def nO:=@I.mem_flatMap
def fe:=@I.mem_append
def aW:=@I.mem_of_getElem?
def jF:=@I.getElem?_take
def vm:=@Z.add_assoc
def eI:=@aS.and_eq_true
def wI:=@Z.add_zero
def Mt:=@bH.length_toList
def wJ:=@bH.ext'
def x8:=@I.mapM_cons
def a5:=@aA.map_some
def cH:=@aA.bind_some
def zO:=@bH.mapM_eq_mapM_toList
def gA:=@I.all_eq_true
def m3:=@I.length_take
def vn:=@Z.min_eq_left
def x9:=@Z.mul_le_mul_right
def dw:=@Z.zero_le
def wK:=@Z.add_mul
def Ba:=@I.map_toArray
def nt:=@I.map_cons
def HT:=@I.map_nil
def Mu:=@aA.mem_toList
def x':=@I.all_cons
def ix:=@I.cons_append
def rZ:=@I.take_append_drop
def cN:=@I.getElem?_eq_some_iff
def Mv:=@I.getElem_cons_drop
def vo:=@Z.mul_one
def r0:=@I.ext_getElem?
def en:=@aS.false_eq_true
def x_:=@Ne.symm
def HU:=@bH.setIfInBounds_comm
def ya:=@I.map_congr_left
def HV:=@Z.mod_lt
def HW:=@aS.and_true
def sk:=@Z.ble_eq_true_of_le
def lJ:=@Z.zero_add
def zP:=@I.length_singleton
def lK:=@I.flatMap_cons
def qq:=@I.take_succ_cons
def g2:=@I.append_assoc
def pH:=@I.getElem?_append_right
def zQ:=@Z.add_sub_cancel_left
def q9:=@I.getElem?_append_left
def HX:=@I.take_append
def mz:=@I.take_of_length_le
def HY:=@I.take_append_of_le_length
def HZ:=@I.drop_append
def Mw:=@I.drop_of_length_le
def t_:=@I.nil_append
def Mx:=@I.getElem?_append
def iy:=@I.length_append
def H0:=@I.getElem?_drop
def BV:=@I.set_getElem_self
def ku:=@ac.toNat_natCast
def gj:=@I.length_cons
def zR:=@I.map_map
def o1:=@aA.getD_some
def yb:=@I.mem_range
def s':=@I.eq_nil_of_length_eq_zero
def yc:=@aS.true_and
def vp:=@I.getElem?_modify
def fp:=@I.getElem?_map
def My:=@bH.toList_modify
def H1:=@I.mapM_nil
def H2:=@Z.add_comm
def gH:=@I.take_length
def Mz:=@Z.lt_trichotomy
def s_:=@I.mem_append_right
def H3:=@I.take_take
def zS:=@aS.or_eq_true
def zT:=@aS.false_or
def H4:=@Z.succ_mul
def jS:=@I.length_nil
def yd:=@I.append_nil
def gI:=@aA.some.injEq
def sD:=@I.getElem_mem
def MA:=@I.drop_append_of_le_length
def MB:=@ar.toNat_ofNat'
def e_:=@I.mem_singleton
def eQ:=@aA.map_eq_some_iff
def vq:=@I.any_eq_false
def ta:=@I.any_eq_true
def wL:=@I.drop_length
def mA:=@aS.eq_iff_iff
def dL:=@aA.bind_eq_some_iff
def vr:=@aS.eq_false_iff
def ib:=@I.getElem?_inj
def Ew:=@I.pairwise_iff_getElem
def jd:=@I.getElem?_of_mem
def zU:=@I.all_eq_false
def h7:=@I.take_add_one
def qr:=@I.drop_eq_getElem_cons
def kX:=@I.nodup_cons
def zV:=@Z.sub_self
def mB:=@I.getElem?_cons_zero
def bi:=@aA.map_none
def lh:=@I.getElem?_cons_succ
def kG:=@aS.or_eq_false_iff
def BW:=@aS.or_false
def MC:=@ar.toNat_inj
def H5:=@ar.lt_iff_toNat_lt
def MD:=@I.dropLast_concat_getLast
def sJ:=@I.set_append_right
def eu:=@I.getElem?_set
def zW:=@I.length_set
def o2:=@I.mem_map
def ME:=@I.modify_succ_cons
def qs:=@I.map_append
def zX:=@I.range_succ
def zY:=@I.mem_append_left
def BX:=@I.mem_of_mem_take
def MF:=@I.getElem?_range
def bz:=@aS.and_eq_true_iff
def Ey:=@Z.le_add_right
def Ez:=@I.sum_cons
def EA:=@I.replicate_succ
def BY:=@I.prefix_rfl
def H6:=@aS.or_eq_true_iff
def k0:=@I.drop_eq_nil_of_le
def H7:=@I.getElem?_replicate
def EB:=@I.contains_iff_mem
def oq:=@Z.lt_succ_iff_lt_or_eq
def ye:=@I.reverse_cons
def H8:=@I.sum_append
def MG:=@I.length_flatMap
def EC:=@I.flatMap_nil
def H9:=@I.drop_reverse
def H':=@I.take_reverse
def zZ:=@ac.le_refl
def H_:=@Z.eq_zero_or_pos
def ED:=@I.length_replicate
def kl:=@Function.comp_def
def s5:=@aS.or_true
def tv:=@aS.true_or
def EG:=@aS.or_self
def fB:=@I.length_map
def Ia:=@I.pairwise_append
def Ib:=@I.pairwise_singleton
def MH:=@I.count_eq_zero
def EH:=@I.pairwise_cons
def Ic:=@Classical.byContradiction
def yf:=@Z.mul_add
def MI:=@Z.mul_le_mul_left
def MJ:=@I.getElem?_take_of_lt
def yg:=@I.getElem?_mapIdx
def MK:=@I.getElem?_set_ne
def EI:=@I.count_append
def Ie:=@I.count_cons
def vt:=@I.not_mem_nil
def eJ:=@Prod.mk.injEq
def BZ:=@aS.not_eq_true'
def If:=@ac.zero_add
def Ig:=@I.filterMap_cons
def ML:=@aS.not_eq_false'
def MM:=@I.getElem?_eq_none_iff
def MN:=@I.take_sublist
def fg:=@aA.bind_none
def B0:=@aS.not_eq_true
def EJ:=@Z.not_lt_zero
def MO:=@I.count_le_length
def I3:=@aS.eq_false_or_eq_true
def MQ:=@I.sizeOf_lt_of_mem
def MR:=@I.find?_append
def MS:=@I.find?_cons
def MT:=@I.length_range
def MU:=@I.mem_filterMap
def MV:=@aA.some.inj
def aD:=@if_pos
def aj:=@if_neg
def dD:=@if_true
def wO:=@cond_true
def dF:=@if_false
def tz:=@cond_false
def j8:=@beq_iff_eq
def MW:=@beq_eq_false_iff_ne
def cw:=@decide_eq_true_eq
def mC:=@decide_eq_false_iff_not
def tb:=@decide_eq_false
def jG:=@decide_eq_true
def vu:=@of_decide_eq_true
def EL:=@forall_eq_or_imp
def Ih:=@of_decide_eq_false
def fI:=@or_false
def iw:=@or_self
def mj:=@true_or
def MX:=@beq_self_eq_true
def O {α : Sort _} {a : α} : a = a := rfl
def Y {α : Sort _} {a : α}  : a = a \/ BS := bB rfl
end Go
section
namespace Go.Bw
open Go Go.RowKit
def lk:I (Z×aR)->Z->aA aR| [],_=>ao| (k,v)::r,n=>bif ju k n then aa v else lk r n
structure Ag (n:Z) (ds:I fw) (l:I<|Z×aR) (a:cY):Prop where
 size:a.tmps.size=n
 defs:a.defers=ds
 jT:∀t v,lk l t=aa v->a.tmps.getD t undef=v
def b9 (l:I<|Z×aR):ei->aA aR| .tmp t=>lk l t| .const v=>aa v| .global g=>aa<|b8<|aa ⟨g,0,ao⟩| .func f=>aa<|.func (.func f) #[] #[]
section
variable {n:Z} {ds:I fw} {l:I<|Z×aR} {a:cY}
def Ag.eval (h:Ag n ds l a) {x:ei} {v:aR} (b:b9 l x=aa v):a.eval x=v:=by cases x with| tmp t=>exact h.jT t v b| const u=>simpa [b9,cY.eval] using b| global g=>simpa [b9,cY.eval] using b| func f=>simpa [b9,cY.eval] using b
def Ag.put (h:Ag n ds l a) {d:Z} (c:e' d n=ad) (v:aR):Ag n ds ((d,v)::l)<|a.put (aa d) v:=by
 have f:d<a.tmps.size:=by rw [h.size];exact s9 c
 refine ⟨by simp [cY.put,h.size],h.defs,λt u b=>?_⟩;simp only [lk] at b;by_cases e:d=t;·subst e;simp at b;subst b;simp [cY.put,bH.getD,f]
 ·have:ju d t=aq:=by cases g:ju d t with| false=>rfl| true=>exact absurd (o0 g) e
  rw [this] at b;have:=h.jT t u b;simp only [cY.put,lI] at *;rw [vl e];exact this
def Ag.z0 (h:Ag n ds l a) (v:aR):Ag n ds l<|a.put ao v:=h
variable {a_:I<|Z×aR}
def Ag.sub (h:Ag n ds l a)  (c:∀p ∈ a_,lk l p.1=aa p.2):Ag n ds a_ a:=by refine ⟨h.size,h.defs,λt v hv=>?_⟩;suffices hm:(t,v) ∈ a_ from h.jT t v<|c _ hm;induction a_ with| nil=>cases hv| cons p r d=>obtain ⟨k,u⟩:=p;simp only [lk] at hv;cases b:ju k t with| true=>rw [b] at hv;have:=o0 b;subst this;simp at hv;subst hv;exact rp| false=>rw [b] at hv;exact m1 _<|d (λp e=>c p<|m1 _ e) hv
def z1 (l:I<|Z×aR):I (Z×aR)->I (aA aR)| []=>[]| p::r=>lk l p.1::z1 l r
def z2:I (Z×aR)->I (aA aR)| []=>[]| p::r=>aa p.2::z2 r
def mH:∀{r:I<|Z×aR},z1 a_ r=z2 r->∀p ∈ r,lk a_ p.1=aa p.2
 | [],_,p,h=>by cases h
 | q::r,e,p,h=>by
  injection e with a b;rcases I.mem_cons.1 h with rfl|h;·exact a
  ·exact mH b p h
end
section
variable {P:dJ} {ops:bH cg} {Q:di->cY->aP->Prop} {n:Z} {ds:I fw} {l:I<|Z×aR} {W:aP->Prop}
def WL (P:dJ) (ops:bH cg) (Q:di->cY->aP->Prop) (n:Z) (ds:I fw) (l:I<|Z×aR) (W:aP->Prop) (rest:I cg):Prop:= ∀a w,Ag n ds l a->W w->wpList P ops Q rest a w
def WC (P:dJ) (c:Code) (Q:di->cY->aP->Prop) (n:Z) (ds:I fw) (l:I<|Z×aR) (W:aP->Prop):Prop:= ∀a w,Ag n ds l a->W w->c.wp P Q a w
def WE (Q:di->cY->aP->Prop) (e:di) (n:Z) (ds:I fw) (l:I<|Z×aR) (W:aP->Prop):Prop:= ∀a w,Ag n ds l a->W w->Q e a w
def Yl (P:dJ) (l:I<|Z×aR) (W:aP->Prop) (o:cg) (v:aR):Prop:= ∀(a:ei->aR) (w:aP),(∀x u,b9 l x=aa u->a x=u)->W w->(execOp a o).run P w = .ok (.value v) w
def Ln (h:WE Q .normal n ds l W):WL P ops Q n ds l W []:=λa w b c=>h a w b c
def eS (ops:bH cg) (l:I<|Z×aR) (g:aA<|Z×aS):Prop:= g=ao\/∃j b a,g=aa (j,b)/\(ops[j]?).bind (·.dst)=aa a/\lk l a=aa (bW b)
def eS.wanted {o:cg} {a:cY} (h:eS ops l o.guard) (e:Ag n ds l a):nN o (yielded ops a.tmps)=ad:=by
 rcases h with h | ⟨j,b,d,f,g,i⟩;·simp [nN,h]
 ·have hv:=e.jT d _ i;rw [lI] at hv;cases c:a.tmps[d]? with| none=>simp [c,undef] at hv| some u=>simp [c] at hv;subst hv;simp [nN,f,yielded,g,c]
variable {aH:I cg} {e6:cg}
def WL.step (d:eS ops l e6.guard) (h:∀a w,Ag n ds l a->W w->∀b:cY->aP->Prop,(∀a w,wpList P ops Q aH a w->b a w)->e6.wp P a w b Q):WL P ops Q n ds l W<|e6::aH:=by intro a w c e;refine wpList_step λb f=>?_;rw [aD<|d.wanted c];exact h a w c e b f
variable {bE:Z} {cL:Op} {bx:cn} {gS:fO} {hy:bH fY} {ae:aR} {bP:aA<|Z×aS}
def Lv (d:eS ops l bP) (e:e' bE n=ad) (f:Yl P l W ⟨aa bE,cL,bx,gS,hy,bP⟩ ae) (h:WL P ops Q n ds ((bE,ae)::l) W aH):WL P ops Q n ds l W<|⟨aa bE,cL,bx,gS,hy,bP⟩::aH:=by refine WL.step d λa w b c j g=>?_;have:=f a.eval w (λx u i=>b.eval i) c;simp only [kt,this,cg.upon_value];exact g _ _<|h _ _ (b.put e ae) c
def V0 (a:Yl P l W ⟨aa bE,cL,bx,gS,hy,ao⟩ ae) (h:WL P ops Q n ds ((bE,ae)::l) W aH) (b:e' bE n=ad:=by rfl):WL P ops Q n ds l W<|⟨aa bE,cL,bx,gS,hy,ao⟩::aH:=Lv (bB rfl) b a h
def Vg (a:Yl P l W ⟨aa bE,cL,bx,gS,hy,bP⟩ ae) (h:WL P ops Q n ds ((bE,ae)::l) W aH) (b:eS ops l bP:=by exact be ⟨_,_,_,rfl,rfl,rfl⟩) (c:e' bE n=ad:=by rfl):WL P ops Q n ds l W<|⟨aa bE,cL,bx,gS,hy,bP⟩::aH:=Lv b c a h
variable {dS:aS} {aL:Z}
def eS.g (a:bP=aa (bE,dS)) (b:(ops[bE]?).bind (·.dst)=aa aL) (c:lk l aL=aa (bW dS)):eS ops l bP:=be ⟨bE,dS,aL,a,b,c⟩
def WL.skip {b:Z} (e:e' bE n=ad) (f:ops[aL]? = aa e6) (g:e6.dst=aa b) (i:e' b n=ad) (j:lk l b=aa (bW<|!dS)) (h:WL P ops Q n ds ((bE,undef)::l) W aH):WL P ops Q n ds l W<|⟨aa bE,cL,bx,gS,hy,aa (aL,dS)⟩::aH:=by
 intro a w c k;refine wpList_step λq m=>?_;have hv:a.tmps.getD b undef = bW (!dS):=c.jT b _ j;have d:b<a.tmps.size:=by rw [c.size];exact s9 i
 have o:a.tmps[b]? = aa (bW<|!dS):=by rw [lI,x6 d] at hv;rw [x6 d];simpa using hv
 have p:yielded ops a.tmps aL=aa (!dS):=by simp [yielded,f,g,o]
 rw [aj (by simp [nN,p])];exact m _ _<|h _ _ (c.put e undef) k
def WL.sub (b:I<|Z×aR) (c:∀p ∈ b,lk l p.1=aa p.2) (h:WL P ops Q n ds b W aH):WL P ops Q n ds l W aH:= λa w d e=>h a w (d.sub c) e
variable {gE:Code}
def WC.sub (b:I<|Z×aR) (c:∀p ∈ b,lk l p.1=aa p.2) (h:WC P gE Q n ds b W):WC P gE Q n ds l W:= λa w d e=>h a w (d.sub c) e
variable {EM:di}
def WE.sub (b:I<|Z×aR) (c:∀p ∈ b,lk l p.1=aa p.2) (h:WE Q EM n ds b W):WE Q EM n ds l W:= λa w d e=>h a w (d.sub c) e
def LW {W':aP->Prop} (b:∀w,W w->W' w) (h:WL P ops Q n ds l W' aH):WL P ops Q n ds l W aH:= λa w c d=>h a w c<|b w d
def pI {W':aP->Prop} (b:∀w,W w->W' w) (h:WC P gE Q n ds l W'):WC P gE Q n ds l W:= λa w c d=>h a w c<|b w d
def WE.world {W':aP->Prop} (b:∀w,W w->W' w) (h:WE Q EM n ds l W'):WE Q EM n ds l W:= λa w c d=>h a w c<|b w d
def sn {l:I<|Z×aR}:∀p ∈ ([]:I (Z×aR)),lk l p.1=aa p.2:=aK
def sc {l r:I<|Z×aR}   (h:lk l bE=aa ae) (b:∀p ∈ r,lk l p.1=aa p.2):∀p ∈ (bE,ae)::r,lk l p.1=aa p.2:=by
 intro p a;rcases eR.1 a with rfl | a;·exact h
 ·exact b p a
variable {yh:Code}
def Cs (h:WC P gE (di.then (yh.wp P Q) Q) n ds l W):WC P (.seq gE yh) Q n ds l W:=λa w b c=>wp_seq<|h a w b c
def Ck (h:WE Q .normal n ds l W):WC P .skip Q n ds l W:=λa w b c=>wp_skip<|h a w b c
def bu (h:WE Q .ret n ds l W):WC P .ret Q n ds l W:=λa w b c=>wp_ret<|h a w b c
def Ce (h:WE Q (.exit bE) n ds l W):WC P (.exit bE) Q n ds l W:=λa w b c=>wp_exit<|h a w b c
def Cb (h:WC P gE (di.inBlock bE Q) n ds l W):WC P (.block bE gE) Q n ds l W:=λa w b c=>wp_block<|h a w b c
def Cr (h:WL P aH.toArray Q n ds l W aH):WC P (.region bE aH.toArray aq) Q n ds l W:=λa w b c=>wp_region_lit<|h a w b c
variable {bo:ei}
def Cc (d:b9 l bo=aa (bW dS)) (e:dS=ad->WC P gE Q n ds l W) (f:dS=aq->WC P yh Q n ds l W):WC P (.cond bo gE yh) Q n ds l W:= λa w b c=>wp_cond_split (b.eval d) (λh=>e h a w b c)<|λh=>f h a w b c
def WC.EN (c:b9 l bo=aa (bW ad)) (h:WC P gE Q n ds l W):WC P (.cond bo gE yh) Q n ds l W:= λa w b d=>wp_cond_true (b.eval c)<|h a w b d
def WC.uc (c:b9 l bo=aa (bW aq)) (h:WC P yh Q n ds l W):WC P (.cond bo gE yh) Q n ds l W:= λa w b d=>wp_cond_false (b.eval c)<|h a w b d
variable {q_:di->cY->aP->Prop}
def Et (h:WC P gE Q n ds l W):WE (di.then (gE.wp P Q) q_) .normal n ds l W:=λa w b c=>h a w b c
variable {k7:cY->aP->Prop}
def Er (h:WE Q .ret n ds l W):WE (di.then k7 Q) .ret n ds l W:=h
def Ex (h:WE Q (.exit bE) n ds l W):WE (di.then k7 Q) (.exit bE) n ds l W:=h
def ag (h:WC P gE Q n ds l W):WL P ops (di.then (gE.wp P Q) q_) n ds l W []:=Ln<|Et h
def ak (h:WL P aH.toArray (di.then (gE.wp P Q) Q) n ds l W aH):WC P (.seq (.region bE aH.toArray aq) gE) Q n ds l W:=Cs<|Cr h
def ay (h:WC P gE Q n ds l W):WC P .skip (di.then (gE.wp P Q) q_) n ds l W:=Ck<|Et h
def Eb (h:WE Q .normal n ds l W):WE (di.inBlock bE Q) .normal n ds l W:=h
def aU (h:WE Q .ret n ds l W):WE (di.inBlock bE Q) .ret n ds l W:=h
def ee (h:WE Q .normal n ds l W):WE (di.inBlock bE Q) (.exit bE) n ds l W:=λa w b c=>by simp only [di.inBlock,dD];exact h a w b c
def B3 (b:ju aL bE=aq) (h:WE Q (.exit aL) n ds l W):WE (di.inBlock bE Q) (.exit aL) n ds l W:=λa w c d=>by
 have:aL≠bE:=λe=>by subst e;rw [BU] at b;cases b
 simp only [di.inBlock,aj this];exact h a w c d
def yi:Z->I aR->I (Z×aR)| _,[]=>[]| i,v::r=>(i,v)::yi (i+1) r
def Ii (vs:I aR):∀(i t:Z) (v:aR),lk (yi i vs) t=aa v->i<=t/\vs[t-i]? = aa v:=by induction vs with| nil=>intro i t v h;cases h| cons x r b=>intro i t v h;simp only [yi,lk] at h;cases a:ju i t with| true=>rw [a] at h;have:=o0 a;subst this;simp at h;simp [h]| false=>rw [a] at h;obtain ⟨d,c⟩:=b (i+1) t v h;refine ⟨ai,?_⟩;have:t-i=(t-(i+1))+1:=ai;rw [this];simpa using c
variable {gc:Func} {hz:Ending->aP->Prop}
def enter {f:FuncId}   {vs:I aR} {w:aP}  (c:P.funcs[f]? = aa gc) (d:gc.body=aa gE) (m:Z) (e:gc.ntmps=m) (g:Z.ble vs.length m=ad) (h:WC P gE (bodyPost P gc hz) m [] (yi 0 vs)<|λi=>i=w):cx P f vs.toArray w hz:=by
 refine calls_of_wp c d<|h _ _ ?_ O;have j:=s9 g;subst e;refine ⟨by simp;omega,O,λt v hv=>?_⟩;obtain ⟨_,a⟩:=Ii vs 0 t v hv;simp only [qp] at a;have b:t<vs.length:=by
  rcases m2 t vs.length with h | h;·exact h
  ·simp [x7 h] at a
 simp [lI,rR,b];simp [cy b] at a;exact a
def WE.z3 (b:gc.results = #[]) (h:∀w,W w->hz (cf<|cO #[]) w):WE (bodyPost P gc hz) .ret n [] l W:= λa w c d=>bodyPost_ret (results_none b _ _ _) c.defs<|h w d
def E0 (b:gc.results = #[]) (h:∀w,W w->hz (cf<|cO #[]) w):WE (bodyPost P gc hz) .normal n [] l W:= λa w c d=>bodyPost_end (results_none b _ _ _) c.defs<|h w d
def R1 (c:gc.results = #[.tmp bE]) (d:lk l bE=aa ae) (h:∀w,W w->hz (cf ae) w):WE (bodyPost P gc hz) .ret n [] l W:= λa w b e=>bodyPost_ret (results_tmp c _ _ _) b.defs (by rw [b.jT bE ae d];exact h w e)
def WE.jv {v x:aR} (c:gc.results = #[.tmp bE,.tmp aL]) (d:lk l bE=aa v) (e:lk l aL=aa x) (h:∀w,W w->hz (cf<|cO #[v,x]) w):WE (bodyPost P gc hz) .ret n [] l W:= λa w b f=>bodyPost_ret (results_tmp2 c _ _ _) b.defs (by rw [b.jT bE v d,b.jT aL x e];exact h w f)
variable {z4:I oZ}
def b_ (h:∀w,W w->hz (.panicked z4) w):WE (bodyPost P gc hz) (.panic z4) n [] l W:= λa w b c=>⟨b.defs,h w c⟩
def Ep (h:WE Q (.panic z4) n ds l W):WE (di.then k7 Q) (.panic z4) n ds l W:=h
def WE.cp (h:WE Q (.panic z4) n ds l W):WE (di.inBlock bE Q) (.panic z4) n ds l W:=h
def Vm {p:Z->Prop}:∀m,p m->∃k,p k/\∀j,p j->k<=j:=by
 intro m;induction m using om with
 | _ m b=>
  intro c;by_cases h:∃j,j<m/\p j;·obtain ⟨j,d,a⟩:=h;exact b j d a
  ·exact ⟨m,c,λj a=>Z.le_of_not_lt λe=>h ⟨j,e,a⟩⟩
variable {aB:Type}
def wp_loop_ghost {a:cY} {w:aP} (b:aB->cY->aP->Prop) (c:aB->Z) (g:aB) (n:b g a w) (o:∀i a w,b i a w->gE.wp P (di.then (λd f=>∃j,c j<c i/\b j d f) Q) a w):(Code.loop gE).wp P Q a w:=by
 classical
  let J:cY->aP->Prop:=λa w=>∃i,b i a w;have ex:∀a w,J a w->∃k,(∃i,b i a w/\c i=k)/\∀j,(∃i,b i a w/\c i=j)->k<=j:=by rintro a w ⟨i,hi⟩;exact Vm (c i) ⟨i,hi,O⟩
  let M:cY->aP->Z:=λa w=>if h:J a w then Classical.choose (ex a w h) else 0;have p:∀a w,J a w->∃i,b i a w/\c i=M a w:=by intro a w h;have:=(Ms<|ex a w h).1;simp only [M,dif_pos h];exact this
  have q:∀a w i,b i a w->M a w<=c i:=by intro a w i hi;have h:J a w:=⟨i,hi⟩;simp only [M,dif_pos h];exact (Ms<|ex a w h).2 _ ⟨i,hi,O⟩
  refine wp_loop J M ⟨g,n⟩ λa w r=>?_;obtain ⟨i,hi,s⟩:=p a w r;refine wp_mono (o i a w hi) λe d f l=>?_;cases e with| normal=>obtain ⟨j,t,m⟩:=l;exact ⟨⟨j,m⟩,by have:=q d f j m;omega⟩| _=>exact l
def WC.loop (b:aB->I (Z×aR)) (Wi:aB->aP->Prop) (R:aB->Prop) (d:aB->Z) (c:aB) (f:R c) (g:∀p ∈ b c,lk l p.1=aa p.2) (h:∀w,W w->Wi c w) (k:∀i,R i->WC P gE (di.then (λm o=>∃j,d j<d i/\R j/\Ag n ds (b j) m/\Wi j o) Q) n ds (b i) (Wi i)):WC P (.loop gE) Q n ds l W:=by intro a w q r;refine wp_loop_ghost (λi a w=>R i/\Ag n ds (b i) a/\Wi i w) d c ⟨f,q.sub g,h w r⟩ λi a w e=>?_;exact k i e.1 a w e.2.1 e.2.2
def Ea {c:aB->I (Z×aR)} {Wi:aB->aP->Prop} {R:aB->Prop} {b:aB->Z} {i:aB} (j:aB) (d:b j<b i) (e:R j) (f:∀p ∈ c j,lk l p.1=aa p.2) (g:∀w,W w->Wi j w) : WE (di.then (λh k=>∃j,b j<b i/\R j/\Ag n ds (c j) h/\Wi j k) Q) .normal n ds l W:=λa w m o=>⟨j,d,e,m.sub f,g w o⟩
def ep {b:aB->I (Z×aR)} {Wi:aB->aP->Prop} {R:aB->Prop} {a:aB->Z} {i:aB} (j:aB) (c:a j<a i) (d:R j) (e:∀w,W w->Wi j w) (f:z1 l (b j)=z2 (b j):=by rfl):WE (di.then (λg h=>∃j,a j<a i/\R j/\Ag n ds (b j) g/\Wi j h) Q) .normal n ds l W:=Ea j c d (mH f) e
end
abbrev View:=Z->aA Obj
def Le (a:View) (w:aP):Prop:=∀b o,a b=aa o->w.heap[b]? = aa o
def cX (a c:View):Prop:=∀b o,a b=aa o->c b=aa o
def cX.refl (a:View):cX a a:=λ_ _ h=>h
def cX.trans {a B C:View} (h:cX a B) (k:cX B C):cX a C:=λb o x=>k b o<|h b o x
def yj (o:Obj):aS:=match o with| aY _ _ f=>ju f.1 0&&ju f.2 0| _=>ad
def hf (w:aP) (a:View):Prop:=∀b o,a b=aa o->w.heap.size<=b/\yj o=ad
variable {cm:aP} {bN:View} {bE:Z}
def hf.off (h:hf cm bN)  (a:bE<cm.heap.size):bN bE=ao:=by cases e:bN bE with| none=>rfl| some o=>have:=(h bE o e).1;omega
def nv (a w:aP):View:=λb=>if a.heap.size<=b then (w.heap[b]?).filter yj else ao
variable {eU:aP} {a9:Obj}
def yk:nv cm eU bE=aa a9↔cm.heap.size<=bE/\eU.heap[bE]? = aa a9/\yj a9=ad:=by
 unfold nv;split;·rename_i h;rw [aA.filter_eq_some_iff];simp [h]
 ·rename_i h;simp [h]
def Ij (a w:aP):Le (nv a w) w:=λb o h=>(yk.1 h).2.1
def z5 (a w:aP):hf a<|nv a w:=λb o h=>⟨(yk.1 h).1,(yk.1 h).2.2⟩
def Vn (c:Le bN eU) (a:hf cm bN):cX bN<|nv cm eU:=λb o h=>yk.2 ⟨(a b o h).1,c b o h,(a b o h).2⟩
def hf.mono (h:hf eU bN) (c:cm.heap.size<=eU.heap.size):hf cm bN:=λb o a=>⟨pG c (h b o a).1,(h b o a).2⟩
structure Fr (F:I Z) (w0 w:aP):Prop where
 os:w.os=w0.os
 tape:w.tape=w0.tape
 output:w.output=w0.output
 size:w0.heap.size<=w.heap.size
 block:∀k,k<w0.heap.size->k ∉ F->w.heap[k]? = w0.heap[k]?
abbrev Ext (w a:aP):Prop:=Fr [] w a
def Fr.refl (F:I Z) (w:aP):Fr F w w:=⟨rfl,rfl,rfl,c7 _,λ_ _ _=>rfl⟩
variable {yl:aP}
def Fr.trans {F a:I Z}  (h:Fr F cm eU) (k:Fr a eU yl) (d:∀x ∈ a,x ∈ F\/cm.heap.size<=x):Fr F cm yl:= ⟨k.os.trans h.os,k.tape.trans h.tape,k.output.trans h.output,pG h.size k.size,λi hi b=> (k.block i (rT hi h.size) λe=>by rcases d i e with c | c;exact b c;omega).trans<|h.block i hi b⟩
def Ext.trans (h:Ext cm eU) (k:Ext eU yl):Ext cm yl:=Fr.trans h k aK
def Ext.below (h:Ext cm eU):Below cm.heap.size cm eU:=⟨h.os,h.tape,h.output,h.size,λk a=>h.block k a aK⟩
def Ext.Ik (h:Below cm.heap.size cm eU):Ext cm eU:=⟨h.os,h.tape,h.output,h.size,λk a _=>h.block k a⟩
def Ext.drew (w:aP):Ext w w.drew:=⟨rfl,rfl,rfl,c7 _,λ_ _ _=>rfl⟩
def Ext.alloc (w:aP) (o:Obj):Ext w<|w.alloc o:=⟨rfl,rfl,rfl,aK,λk a _=>Below.heap_alloc _ _ _ a⟩
def lt_of_heap (h:cm.heap[bE]? = aa a9):bE<cm.heap.size:=by
 rcases m2 bE cm.heap.size with a | a;·exact a
 ·rw [zN a] at h;cases h
def Le.ext (h:Le bN cm) (e:Ext cm eU):Le bN eU:=λb o x=>(e.block b (lt_of_heap<|h b o x) aK).trans<|h b o x
structure bh where
 ids:I Z
 holds:aP->Prop
 loc:∀w w',(∀k ∈ ids,w'.heap[k]? = w.heap[k]?)->holds w->holds w'
 z6:∀w,holds w->∀k ∈ ids,k<w.heap.size
def aQ (b:Z) (o:Obj):bh:=⟨[b],λw=>w.heap[b]? = aa o,λw d h a=>(h b aK).trans a,λw a k c=>by simp at c;subst c;exact lt_of_heap a⟩
structure Ws (w0:aP) (F:I Z) (L:I bh) (Vs:I View) (w:aP):Prop where
 fr:Fr F w0 w
 kn:∀A ∈ L,A.holds w
 nd:(L.flatMap bh.ids).Nodup
 own:∀A ∈ L,∀k ∈ A.ids,k ∈ F\/w0.heap.size<=k
 vs:∀H ∈ Vs,Le H w
 off:∀H ∈ Vs,∀A ∈ L,∀k ∈ A.ids,H k=ao
section
variable {w0 w w':aP} {F:I Z} {L L' L2:I bh} {Vs:I View}
def Ws.init (a:∀b ∈ Vs,Le b w):Ws w [] [] Vs w:=⟨Fr.refl _ _,aK,aK,aK,a,aK⟩
def CE {P:dJ} {Q:di->cY->aP->Prop} {n:Z} {ds:I fw} {l:I<|Z×aR} {c:Code} {a w:aP} {F:I Z} {L:I bh} {Vs:I View} (b:Ws a F L Vs w) (h:WC P c Q n ds l<|Ws a F L Vs):WC P c Q n ds l<|λd=>d=w:= pI (λ_ e=>by subst e;exact b) h
def Ws.ym (h:Ws w0 F (L++L2) Vs w) (q:Fr (L.flatMap bh.ids) w w') (p:∀c ∈ L',c.holds w') (u:(L'.flatMap bh.ids).Nodup) (hi:∀c ∈ L',∀k ∈ c.ids,k ∈ L.flatMap bh.ids\/w.heap.size<=k):Ws w0 F (L'++L2) Vs w':=by
 have nd:=h.nd;rw [r_,l9] at nd;have same:∀c ∈ L2,∀k ∈ c.ids,w'.heap[k]? = w.heap[k]?:=λc a k p=> q.block k (c.z6 w (h.kn c (by simp [a])) k p) λr=>nd.2.2 k r k (nO.2 ⟨c,a,p⟩) rfl;refine ⟨?_,?_,?_,?_,?_,?_⟩;·refine h.fr.trans q λx s=>?_;obtain ⟨c,a,j⟩:=nO.1 s;exact h.own c (by simp [a]) x j
 ·intro c a;rcases fe.1 a with a | a;·exact p c a
  ·exact c.loc w w' (same c a)<|h.kn c (by simp [a])
 ·rw [r_,l9];refine ⟨u,nd.2.1,λx s y t e=>?_⟩;subst e;obtain ⟨c,a,j⟩:=nO.1 s;obtain ⟨B,l,m⟩:=nO.1 t;rcases hi c a x j with d | d;·exact nd.2.2 x d x t O
  ·have:=B.z6 w (h.kn B (by simp [l])) x m;omega
 ·intro c a k n;rcases fe.1 a with a | a
  ·rcases hi c a k n with d | d;·obtain ⟨B,l,m⟩:=nO.1 d;exact h.own B (by simp [l]) k m
   ·exact be<|pG h.fr.size d
  ·exact h.own c (by simp [a]) k n
 ·intro f g b o i;rw [q.block b<|lt_of_heap<|h.vs f g b o i];·exact h.vs f g b o i
  ·intro r;obtain ⟨c,a,j⟩:=nO.1 r;have:=h.off f g c (by simp [a]) b j;rw [this] at i;cases i
 ·intro f g c a k n;rcases fe.1 a with a | a
  ·rcases hi c a k n with d | d;·obtain ⟨B,l,m⟩:=nO.1 d;exact h.off f g B (by simp [l]) k m
   ·cases i:f k with| none=>rfl| some o=>have:=lt_of_heap<|h.vs f g k o i;omega
  ·exact h.off f g c (by simp [a]) k n
def Ws.ext (h:Ws w0 F L Vs w) (e:Ext w w'):Ws w0 F L Vs w':=by have:=Ws.ym (L:=[]) (L':=[]) (L2:=L) (by simpa using h) (by simpa using e) aK aK aK;simpa using this
def Ws.alloc (h:Ws w0 F L Vs w) (o:Obj):Ws w0 F (aQ w.heap.size o::L) Vs<|w.alloc o:=by have:=Ws.ym (L:=[]) (L':=[aQ w.heap.size o]) (L2:=L) (by simpa using h) (by simpa using Ext.alloc w o) (by intro b a;simp at a;subst a;show (w.heap.push o)[w.heap.size]? = aa o;simp) (by simp [aQ]) (by simp [aQ]);simpa using this
def Ws.view (h:Ws w0 F L Vs w) (e:Ext w w') {b:View} (i:Le b w') (j:hf w b):Ws w0 F L (b::Vs) w':=by
 have g:=h.ext e;refine ⟨g.fr,g.kn,g.nd,g.own,?_,?_⟩
 ·intro V a;rcases eR.1 a with rfl | a;·exact i
  ·exact g.vs V a
 ·intro V a c d k f;rcases eR.1 a with rfl | a;·exact j.off<|c.z6 w (h.kn c d) k f
  ·exact g.off V a c d k f
def Ws.perm (h:Ws w0 F L Vs w) (c:L.Perm L'):Ws w0 F L' Vs w:= ⟨h.fr,λa b=>h.kn a<|c.mem_iff.2 b,(I.Perm.flatMap_right _ c).nodup_iff.1 h.nd,λa b=>h.own a<|c.mem_iff.2 b,h.vs,λd e a b=>h.off d e a<|c.mem_iff.2 b⟩
def Ws.drop (h:Ws w0 F (L++L') Vs w):Ws w0 F L' Vs w:=by have nd:=h.nd;rw [r_,l9] at nd;exact ⟨h.fr,λa b=>h.kn a (by simp [b]),nd.2.1,λa b=>h.own a (by simp [b]),h.vs,λc d a b=>h.off c d a (by simp [b])⟩
def Ws.aZ (h:Ws w0 F L Vs w) {cI:I View} (c:∀a ∈ cI,a ∈ Vs):Ws w0 F L cI w:= ⟨h.fr,h.kn,h.nd,h.own,λa b=>h.vs a<|c a b,λa b=>h.off a<|c a b⟩
end
def gk {α:Type}:Z->I α->I α| _,[]=>[]| 0,_::r=>r| i+1,x::r=>x::gk i r
variable {aB:Type} {h8:aB}
def pJ:∀(i:Z) (l:I aB),l[i]? = aa h8->l.Perm (h8::gk i l)| _,[],h=>by cases h| 0,y::r,h=>by simp at h;subst h;exact I.Perm.refl _| i+1,y::r,h=>by have:=pJ i r (by simpa using h);exact (I.Perm.cons y this).trans<|I.Perm.swap _ _ _
def set_perm {x y:aB}:∀(i:Z) (l:I aB),l[i]? = aa x->(y::gk i l).Perm (l.set i y)| _,[],h=>by cases h| 0,z::r,_=>by simp [gk]| i+1,z::r,h=>by have:=set_perm (y:=y) i r (by simpa using h);exact (I.Perm.swap _ _ _).trans<|I.Perm.cons z this
variable {cS:I Z} {dG:I bh} {fh:I View}
def Ws.vv (h:Ws cm cS dG fh eU) (i:Z) {a B:bh} (hi:dG[i]? = aa a) (b:Fr a.ids eU yl) (c:B.holds yl) (d:B.ids.Nodup) (e:∀k ∈ B.ids,k ∈ a.ids\/eU.heap.size<=k):Ws cm cS (dG.set i B) fh yl:=by have f:=h.perm<|pJ i dG hi;have g:=Ws.ym (L:=[a]) (L':=[B]) (L2:=gk i dG) (by simpa using f) (by simpa using b) (by simpa using c) (by simpa using d) (by simpa using e);exact Ws.perm (by simpa using g)<|set_perm i dG hi
variable {cv:I aB}
def gd {i:Z}  (h:cv[i]? = aa h8):h8 ∈ cv:=aW h
def Ws.V (h:Ws cm cS dG fh eU) (a:bN ∈ fh:=by simp):Le bN eU:=h.vs bN a
def fJ (P:dJ) (t:cn):aS:=match P.underlying t with| aa<|.struct _ | aa<|.array _ _ | ao=>aq| _=>ad
def i2 (P:dJ) (t:cn):aA Z:=match P.underlying t with| aa<|.struct _ | aa<|.array _ _=>(P.info? t).map (·.size)| _=>ao
def aT (P:dJ) (t:cn) (f:Z):aA Z:=match P.underlying t with
 | aa<|.struct fs=>match fs[f]? with
  | aa x=>match P.info? x.type with| aa i=>if i.size=0 then ao else aa x.offset| ao=>ao
  | ao=>ao
 | _=>ao
def g_ (P:Program) (t:TypeId):Option Nat:=match P.underlying t with| some<|.slice e=>(P.info? e).map (·.size)| _=>none
section
variable {P:dJ} {w:aP}
variable {bx:cn}
def Il (h:fJ P bx=ad) (w:aP):(isAgg bx).run P w = .ok aq w:=by unfold fJ at h;cases a:P.underlying bx with| none=>simp [a] at h| some d=>cases d<;>simp_all [isAgg,run_underlying a]
def Vo (h:i2 P bx=aa bE) (w:aP):(isAgg bx).run P w = .ok ad w/\(sizeOf bx).run P w = .ok bE w:=by unfold i2 at h;cases a:P.underlying bx with| none=>simp [a] at h| some d=>cases hi:P.info? bx with| none=>cases d<;>simp_all| some i=>cases d<;>simp_all [isAgg,run_underlying a,sizeOf,typeInfo]
def cz (o:Obj) (k:Z):aA aR:=match o with| aY c _ _=>c.toList[k]?| _=>ao
def vc (a:View) (b k:Z):aA aR:=(a b).bind (cz · k)
variable {aL:Z} {ae:aR}
def cell_of_heap {o:Obj}  (h:w.heap[bE]? = aa o) (a:cz o aL=aa ae):w.cell? ⟨bE,aL,ao⟩=aa ae:=by cases o<;>simp_all [cz,aP.cell?]
def Le.cell {b:View} (h:Le b w)   (a:vc b bE aL=aa ae):w.cell? ⟨bE,aL,ao⟩=aa ae:=by unfold vc at a;cases c:b bE with| none=>simp [c] at a| some o=>simp [c] at a;exact cell_of_heap (h bE o c) a
def cX.cell {a d:View} (h:cX a d)   (b:vc a bE aL=aa ae):vc d bE aL=aa ae:=by unfold vc at *;cases c:a bE with| none=>simp [c] at b| some o=>simp [c] at b;simp [h bE o c,b]
def r3 (b o k:Z):(⟨b,o,ao⟩:a6).add k=⟨b,o+k,ao⟩:=by unfold a6.add;split<;>simp_all
def MZ (a:fJ P bx=ad)   (b:w.cell? ⟨bE,aL,ao⟩=aa ae):(loadVar bx ⟨bE,aL,ao⟩).run P w = .ok ae w:=by simp [loadVar,Il a,b]
def EO (a:i2 P bx=aa bE) {b k:Z} {cs:I aR} (c:cs.length=bE) (d:∀j v,cs[j]? = aa v->w.cell? ⟨b,k+j,ao⟩=aa v) : (loadVar bx ⟨b,k,ao⟩).run P w = .ok (b0 cs.toArray) w:=by obtain ⟨e,f⟩:=Vo a w;have:=run_loadCells_list (P:=P) w ⟨b,k,ao⟩ cs (λj v h=>by rw [r3];exact d j v h);rw [c] at this;simp [loadVar,e,f,this]
end
def st (l:I ar):aR:=.string ⟨l.toArray⟩
section
variable {P:dJ} {l:I<|Z×aR} {W:aP->Prop} {w0:aP} {F:I Z} {L:I bh} {Vs:I View} {d:aA Tmp} {ty:cn} {pos:fO} {af:bH fY} {g:aA<|Z×aS}
variable {bo:ei} {ae:aR}
def Ym (a:b9 l bo=aa ae):Yl P l W ⟨d,.move bo,ty,pos,af,g⟩ ae:=λc w b _=>by simp [execOp,b bo ae a]
def Ya (a:b9 l bo=aa ae):Yl P l W ⟨d,.assign bo,ty,pos,af,g⟩ ae:=λc w b _=>by simp [execOp,b bo ae a]
variable {iI:dJ} {tc:bH cg} {q_:di->cY->aP->Prop} {vw:I fw} {a_:I<|Z×aR} {kY:aP->Prop} {aH:I cg} {aL:Z} {bx:cn} {gS:fO} {hy:bH fY}
def ab (a:b9 a_ bo=aa ae) (h:WL iI tc q_ bE vw ((aL,ae)::a_) kY aH) (b:e' aL bE=ad:=by rfl):WL iI tc q_ bE vw a_ kY<|⟨aa aL,.move bo,bx,gS,hy,ao⟩::aH:=V0 (Ym a) h b
def au (a:b9 a_ bo=aa ae) (h:WL iI tc q_ bE vw ((aL,ae)::a_) kY aH) (b:e' aL bE=ad:=by rfl):WL iI tc q_ bE vw a_ kY<|⟨aa aL,.assign bo,bx,gS,hy,ao⟩::aH:=V0 (Ya a) h b
variable {ck kH:ei} {dS:aS}
def M0 {u v:aR} (b:b9 l bo=aa (bW dS)) (c:b9 l ck=aa u) (e:b9 l kH=aa v):Yl P l W ⟨d,.pick bo ck kH,ty,pos,af,g⟩<|if dS then u else v:= λf w a _=>by simp [execOp,a bo _ b,a ck _ c,a kH _ e,asBool]
def M1 (b:b9 l bo=aa (bW ad)) (c:b9 l ck=aa ae):Yl P l W ⟨d,.pick bo ck kH,ty,pos,af,g⟩ ae:= λe w a _=>by simp [execOp,a bo _ b,a ck _ c,asBool]
def M2 (b:b9 l bo=aa (bW aq)) (c:b9 l kH=aa ae):Yl P l W ⟨d,.pick bo ck kH,ty,pos,af,g⟩ ae:= λe w a _=>by simp [execOp,a bo _ b,a kH _ c,asBool]
variable {fy:IntKind} {az b':ac}
def bY {t u:cn}    (b:b9 l bo=aa (am fy az)) (c:b9 l ck=aa (am fy b')):Yl P l W ⟨d,.binOp .eql t bo ck u,ty,pos,af,g⟩<|bW<|az==b':= λe w a _=>by simp [execOp,a bo _ b,a ck _ c,eqGuard,binOp,Op.intCmp]
def ha {t u:cn}    (b:b9 l bo=aa (am fy az)) (c:b9 l ck=aa (am fy b')):Yl P l W ⟨d,.binOp .neq t bo ck u,ty,pos,af,g⟩<|bW<|az != b':= λe w a _=>by simp [execOp,a bo _ b,a ck _ c,eqGuard,binOp,Op.intCmp]
def c8 {t u:cn}    (b:b9 l bo=aa (am fy az)) (c:b9 l ck=aa (am fy b')):Yl P l W ⟨d,.binOp .lss t bo ck u,ty,pos,af,g⟩<|bW<|decide<|az<b':= λe w a _=>by simp [execOp,a bo _ b,a ck _ c,eqGuard,binOp,Op.intCmp]
variable {eY:cn}
def li (b:b9 l bo=aa (am fy az)) (c:b9 l ck=aa (am fy b')):Yl P l W ⟨d,.binOp .leq bx bo ck eY,ty,pos,af,g⟩<|bW<|decide<|az<=b':= λe w a _=>by simp [execOp,a bo _ b,a ck _ c,eqGuard,binOp,Op.intCmp]
def eZ (b:b9 l bo=aa (am fy az)) (c:b9 l ck=aa (am fy b')):Yl P l W ⟨d,.binOp .gtr bx bo ck eY,ty,pos,af,g⟩<|bW<|decide<|b'<az:= λe w a _=>by simp [execOp,a bo _ b,a ck _ c,eqGuard,binOp,Op.intCmp]
def h9 (b:b9 l bo=aa (am fy az)) (c:b9 l ck=aa (am fy b')):Yl P l W ⟨d,.binOp .geq bx bo ck eY,ty,pos,af,g⟩<|bW<|decide<|b'<=az:= λe w a _=>by simp [execOp,a bo _ b,a ck _ c,eqGuard,binOp,Op.intCmp]
def ud {t u:cn}    (b:b9 l bo=aa (am fy az)) (c:b9 l ck=aa (am fy b')):Yl P l W ⟨d,.binOp .add t bo ck u,ty,pos,af,g⟩<|am fy<|fy.wrap<|az+b':= λe w a _=>by simp [execOp,a bo _ b,a ck _ c,eqGuard,binOp,Op.intArith]
def EP {t u:cn}    (b:b9 l bo=aa (am fy az)) (c:b9 l ck=aa (am fy b')):Yl P l W ⟨d,.binOp .sub t bo ck u,ty,pos,af,g⟩<|am fy<|fy.wrap<|az-b':= λe w a _=>by simp [execOp,a bo _ b,a ck _ c,eqGuard,binOp,Op.intArith]
def M3 (b:b9 l bo=aa (am fy az)) (c:b9 l ck=aa (am fy b')):Yl P l W ⟨d,.binOp .mul bx bo ck eY,ty,pos,af,g⟩<|am fy<|fy.wrap<|az*b':= λe w a _=>by simp [execOp,a bo _ b,a ck _ c,eqGuard,binOp,Op.intArith]
def qt (h : -9223372036854775808<=az/\az<=9223372036854775807):an.wrap az=az:=by rw [IntKind.wrap_i64];omega
def pK {t u:cn}   (a:b9 l bo=aa (am an az)) (b:b9 l ck=aa (am an b')) (c : -9223372036854775808<=az+b'/\az+b'<=9223372036854775807):Yl P l W ⟨d,.binOp .add t bo ck u,ty,pos,af,g⟩<|am an<|az+b':=by have:=ud (P:=P) (W:=W) (d:=d) (t:=t) (u:=u) (ty:=ty) (pos:=pos) (af:=af) (g:=g) a b;rwa [qt c] at this
def EQ {t u:cn}   (a:b9 l bo=aa (am an az)) (b:b9 l ck=aa (am an b')) (c : -9223372036854775808<=az-b'/\az-b'<=9223372036854775807):Yl P l W ⟨d,.binOp .sub t bo ck u,ty,pos,af,g⟩<|am an<|az-b':=by have:=EP (P:=P) (W:=W) (d:=d) (t:=t) (u:=u) (ty:=ty) (pos:=pos) (af:=af) (g:=g) a b;rwa [qt c] at this
def Yi {a:Z}  (b:b9 l bo=aa (am an (a:ac))) (c:b9 l ck=aa (am an az)) (e:az=1) (f:(a:ac)<9223372036854775807):Yl P l W ⟨d,.binOp .add bx bo ck eY,ty,pos,af,g⟩<|am an ((a+1:Z):ac):=by subst e;have:=pK (P:=P) (W:=W) (d:=d) (t:=bx) (u:=eY) (ty:=ty) (pos:=pos) (af:=af) (g:=g) b c ai;simpa using this
variable {bc ey:I ar}
def B4 (b:b9 l bo=aa (st bc)) (c:b9 l ck=aa (st ey)):Yl P l W ⟨d,.binOp .eql bx bo ck eY,ty,pos,af,g⟩<|bW<|bc==ey:= λe w a _=>by simp [execOp,a bo _ b,a ck _ c,st,eqGuard,binOp,Op.stringOp]
def ER {t u:cn}   (b:b9 l bo=aa (st bc)) (c:b9 l ck=aa (st ey)):Yl P l W ⟨d,.binOp .neq t bo ck u,ty,pos,af,g⟩<|bW<|!(bc==ey):= λe w a _=>by simp [execOp,a bo _ b,a ck _ c,st,eqGuard,binOp,Op.stringOp]
def Vp (b:b9 l bo=aa (st bc)) (c:b9 l ck=aa (st ey)) (h:bc.length+ey.length<=9223372036854775807):Yl P l W ⟨d,.binOp .add bx bo ck eY,ty,pos,af,g⟩<|st<|bc++ey:=by
 intro f w a _;have e:(Op.stringOp .add ⟨bc.toArray⟩ ⟨ey.toArray⟩).run P w = .ok (st<|bc++ey) w:=by rw [run_string_add_sum w _ _ (by show bc.toArray.size+ey.toArray.size<=_;simpa using h)];simp [st];rfl
 simp [execOp,a bo _ b,a ck _ c,st,eqGuard,binOp,e]
def ih (a:b9 l bo=aa (bW dS)):Yl P l W ⟨d,.unOp .not bx bo,ty,pos,af,g⟩<|bW<|!dS:= λc w b _=>by simp [execOp,b bo _ a,Op.unary]
def bS {p:a6} (a:b9 l bo=aa (b8<|aa p)):Yl P l W ⟨d,.nilCheck bo,ty,pos,af,g⟩<|b8<|aa p:= λc w b _=>by simp [execOp,b bo _ a]
def Yx {vs:bH aR}   (a:b9 l bo=aa (cO vs)) (hi:vs[bE]? = aa ae):Yl P l W ⟨d,.extract bo bE,ty,pos,af,g⟩ ae:= λc w b _=>by simp [execOp,b bo _ a,Instr.extract,hi]
variable {dl j':Z}
def Yf (a:aT P bx bE=aa j') (e:b9 l bo=aa (b8<|aa ⟨dl,aL,ao⟩)):Yl P l W ⟨d,.fieldAddr bx bo bE,ty,pos,af,g⟩<|b8<|aa ⟨dl,aL+j',ao⟩:=by intro m w f _;unfold aT at a;cases b:P.underlying bx with| none=>simp [b] at a| some h=>cases h<;>simp [b] at a;rename_i fs;cases c:fs[bE]? with| none=>simp [c] at a| some j=>simp [c] at a;cases hi:P.info? j.type with| none=>simp [hi] at a| some i=>simp [hi] at a;obtain ⟨k,rfl⟩:=a;simp [execOp,f bo _ e,Instr.fieldAt,run_underlying b,c,Instr.sureAddr,fieldPlace,sizeOf,typeInfo,hi,k,r3]
variable {nP:Z}
def ES (a:g_ P bx=some nP) (f:b9 l bo=some (.slice (some ⟨bE,aL,none⟩) dl j')) (h:b9 l ck=some (.int fy az)) (i:0<=az) (j:az<dl) : Yl P l W ⟨d,.indexAddr bx bo ck,ty,pos,af,g⟩<|.pointer<|some ⟨bE,aL+az.toNat*nP,none⟩:=by intro m w c _;unfold g_ at a;cases b:P.underlying bx with| none=>simp [b] at a| some k=>cases k<;>simp [b] at a;rename_i e;obtain ⟨n,hi,rfl⟩:=a;simp [execOp,c bo _ f,c ck _ h,Instr.indexAt,run_underlying b,asIntOf,i,j,sizeOf,typeInfo,hi,r3]
def qu {i:Z} (a:g_ P bx=aa nP) (b:b9 l bo=aa (aE (aa ⟨bE,aL,ao⟩) dl j')) (c:b9 l ck=aa (am fy (i:ac))) (e:i<dl) : Yl P l W ⟨d,.indexAddr bx bo ck,ty,pos,af,g⟩<|b8<|aa ⟨bE,aL+i*nP,ao⟩:=by have:=ES (P:=P) (W:=W) (d:=d) (ty:=ty) (pos:=pos) (af:=af) (g:=g) a b c ai ai;simpa using this
def Yn {a:Option Addr} {n c s:Nat} (b:g_ P bx=some s) (f:b9 l bo=some (.slice a n c)):Yl P l W ⟨d,.call ⟨.builtin .len,#[bo],#[bx]⟩,ty,pos,af,g⟩<|.int .i64 (n:Int):=by intro j w h _;unfold g_ at b;cases e:P.underlying bx with| none=>simp [e] at b| some i=>cases i<;>simp [e] at b;simp [execOp,resolve,invoke,builtin,h bo _ f,Builtin.len_,run_underlying e,goInt]
def B5 (a:P.underlying bx=aa .string) (b:b9 l bo=aa (st bc)):Yl P l W ⟨d,.call ⟨.builtin .len,#[bo],#[bx]⟩,ty,pos,af,g⟩<|am an (bc.length:ac):=by
 intro f w c _;have e:(ByteArray.mk bc.toArray).size=bc.length:=by show bc.toArray.size=_;simp
 simp [execOp,resolve,invoke,builtin,c bo _ b,st,Builtin.len_,run_underlying a,goInt,e]
def Vq (s:I ar) (i:Z):(ByteArray.mk s.toArray)[i]? = s[i]?:=by
 rcases m2 i s.length with h | h;·rw [cy h,getElem?_pos (ByteArray.mk s.toArray) i (by show i<s.toArray.size;simpa using h)];rfl
 ·rw [x7 h,getElem?_neg (ByteArray.mk s.toArray) i (by show ¬i<s.toArray.size;simpa using h)]
variable {hb:ar}
def Vr (b:P.underlying bx=aa .string) (c:b9 l bo=aa (st bc)) (e:b9 l ck=aa (am fy az)) (f:0<=az) (h:bc[az.toNat]? = aa hb) : Yl P l W ⟨d,.index bx bo ck,ty,pos,af,g⟩<|am .u8 (hb.toNat:ac):=by intro i w a _;simp [execOp,a bo _ c,a ck _ e,st,Instr.index,asIntOf,run_underlying b,f,Vq,h]
def z7 {i:Z}  (a:P.underlying bx=aa .string) (b:b9 l bo=aa (st bc)) (c:b9 l ck=aa (am fy (i:ac))) (e:bc[i]? = aa hb) : Yl P l W ⟨d,.index bx bo ck,ty,pos,af,g⟩<|am .u8 (hb.toNat:ac):=Vr a b c ai (by simpa using e)
def B6 (a:fJ P bx=ad) (b:b9 l bo=aa (b8<|aa ⟨bE,aL,ao⟩)) (c:∀w,W w->w.cell? ⟨bE,aL,ao⟩=aa ae):Yl P l W ⟨d,.load bx bo,ty,pos,af,g⟩ ae:= λh w e f=>by simp [execOp,e bo _ b,Instr.loadAt,Instr.sureAddr,MZ a<|c w f]
def ET {cs:I aR} (a:i2 P bx=aa dl) (b:b9 l bo=aa (b8<|aa ⟨bE,aL,ao⟩)) (c:cs.length=dl) (e:∀w,W w->∀j v,cs[j]? = aa v->w.cell? ⟨bE,aL+j,ao⟩=aa v) : Yl P l W ⟨d,.load bx bo,ty,pos,af,g⟩<|b0 cs.toArray:= λi w f h=>by simp [execOp,f bo _ b,Instr.loadAt,Instr.sureAddr,EO a c<|e w h]
def ew (i:Z) (a:fJ P bx=ad) (b:b9 l bo=aa (b8<|aa ⟨bE,aL,ao⟩)) (c:Vs[i]? = aa bN) (e:vc bN bE aL=aa ae) : Yl P l (Ws w0 F L Vs) ⟨d,.load bx bo,ty,pos,af,g⟩ ae:=B6 a b λ_ f=>(f.vs bN<|gd c).cell e
def eB {cs:I aR}  (i:Z) (a:i2 P bx=aa dl) (b:b9 l bo=aa (b8<|aa ⟨bE,aL,ao⟩)) (c:Vs[i]? = aa bN) (e:cs.length=dl) (f:∀j v,cs[j]? = aa v->vc bN bE (aL+j)=aa v) : Yl P l (Ws w0 F L Vs) ⟨d,.load bx bo,ty,pos,af,g⟩<|b0 cs.toArray:=ET a b e λ_ k j v h=>(k.vs bN<|gd c).cell<|f j v h
def Yd {v:aR}  (i:Z) (a:b9 l bo=aa (b8<|aa ⟨bE,aL,ao⟩)) (hL:L[i]? = aa (aQ bE a9)) (b:cz a9 aL=aa v) (c:fJ P bx=ad) : Yl P l (Ws w0 F L Vs) ⟨d,.load bx bo,ty,pos,af,g⟩ v:=B6 c a λ_ e=>cell_of_heap (e.kn _<|gd hL) b
def cellsIn (o:Obj) (k n:Z):I aR:=match o with| aY c _ _=>(c.toList.drop k).take n| _=>[]
def dW (i:Z) (a:b9 l bo=aa (b8<|aa ⟨bE,aL,ao⟩)) (hL:L[i]? = aa (aQ bE a9)) (b:i2 P bx=aa dl) (c:(cellsIn a9 aL dl).length=dl) : Yl P l (Ws w0 F L Vs) ⟨d,.load bx bo,ty,pos,af,g⟩<|b0 (cellsIn a9 aL dl).toArray:=ET b a c λw e j v h=>by
 have f:w.heap[bE]? = aa a9:=e.kn _<|gd hL;refine cell_of_heap f ?_;cases a9<;>simp [cellsIn,cz] at *;rw [jF] at h;split at h;·simpa using h
 ·cases h
end
def zeroOf (P:dJ) (t:cn):aA aR:=(P.info? t).bind (·.zero)
def e2 (P:dJ) (t:cn):aA Z:=(P.info? t).map (·.size)
variable {iI:dJ} {bx:cn} {ae:aR}
def yn (h:zeroOf iI bx=aa ae) (w:aP):(zeroValue bx).run iI w = .ok ae w:=by unfold zeroOf at h;cases hi:iI.info? bx with| none=>simp [hi] at h| some i=>simp [hi] at h;simp [zeroValue,typeInfo,hi,h]
def EU (h:e2 iI bx=aa bE) (w:aP):(sizeOf bx).run iI w = .ok bE w:=by unfold e2 at h;cases hi:iI.info? bx with| none=>simp [hi] at h| some i=>simp [hi] at h;simp [sizeOf,typeInfo,hi,h]
def WG (vs:I aR):∀(k off:Z) (cells:bH aR),off+k+vs.length<=cells.size-> ((vs.zipIdx k).foldl (λcs (p:aR×Z)=>cs.setIfInBounds (off+p.2) p.1) cells).toList=cells.toList.take (off+k)++vs++cells.toList.drop (off+k+vs.length):=by induction vs with| nil=>intro k off cells _;simp| cons v r a=>intro k off cells h;simp only [I.zipIdx_cons,I.foldl_cons];rw [a (k+1) off _ (by simp at h ⊢;omega)];simp only [bH.toList_setIfInBounds];have:=list_seg_step cells.toList (off+k) v r (by simp at h ⊢;omega);simpa [vm] using this
def bm:aR->I aR| b0 cs=>cs.toList| v=>[v]
def wQ (v:aR):v.cells.toList=bm v:=by cases v<;>rfl
def ue (place:Z->aA (Z×Z)):I aR->I (Z×aR)->aA (I aR)| cells,[]=>aa cells| cells,(i,v)::r=>match place i with| aa (off,size)=>bif ju (bm v).length size&&Z.ble (off+size) cells.length then ue place (cells.take off++bm v++cells.drop (off+size)) r else ao| ao=>ao
def B7 (place:Z->aA (Z×Z)):∀(parts:I<|Z×aR) (cells:bH aR) (out:I aR),ue place cells.toList parts=aa out->Instr.fill place cells parts=aa out.toArray
 | [],cells,out,h=>by simp [ue] at h;simp [Instr.fill,<-h]
 | (i,v)::r,cells,out,h=>by
  simp only [ue] at h;cases d:place i with
  | none=>simp [d] at h
  | some x=>
   obtain ⟨off,size⟩:=x;simp only [d] at h;cases a:(ju (bm v).length size&&Z.ble (off+size) cells.toList.length) with
   | false=>rw [a] at h;cases h
   | true=>
    rw [a] at h;simp only [eI] at a;have g:=o0 a.1;have k:=s9 a.2;have b:v.cells.size=size:=by rw [<-g,<-wQ];simp
    have f:off+v.cells.size<=cells.size:=by rw [b];simpa using k
    simp only [Instr.fill,d];rw [aj (by simp [b];rw [b] at f;omega)];have e:=WG v.cells.toList 0 off cells (by simpa using f);simp only [wI,Mt] at e;have l:(v.cells.zipIdx.foldl (λcs (c,j)=>cs.setIfInBounds (off+j) c) cells)=(cells.toList.take off++bm v++cells.toList.drop (off+size)).toArray:=by apply wJ;rw [<-bH.foldl_toList,bH.toList_zipIdx];rw [b] at e;rw [e,wQ]
    rw [l];exact B7 place r _ out (by simpa using h)
def hW (P:dJ) (t:cn):aA<|I<|Z×Z:=match P.underlying t with| aa<|.struct fs=>fs.toList.mapM λf=>(e2 P f.type).map (f.offset,·)| _=>ao
def run_places {P:dJ}:∀(fs:I Field) (pl:I<|Z×Z),fs.mapM (λf=>(e2 P f.type).map (f.offset,·))=aa pl->∀w:aP, (fs.mapM (m:=Sem) λf=>do pure (f.offset,<-sizeOf f.type)).run P w = .ok pl w| [],pl,h,w=>by simp at h;subst h;simp| f::fs,pl,h,w=>by simp only [x8,aA.bind_eq_bind] at h;cases a:e2 P f.type with| none=>simp [a] at h| some k=>simp only [a,a5,cH] at h;cases b:fs.mapM (λf=>(e2 P f.type).map (f.offset,·)) with| none=>simp [b] at h| some c=>simp [b] at h;subst h;have d:=run_places fs c b w;simp only [x8,j7,EU a,jc,lG,d]
def vx (l:I<|Z×aR):I (Z×ei)->aA (I<|Z×aR)| []=>aa []| (i,x)::r=>match b9 l x,vx l r with| aa v,aa vs=>aa<|(i,v)::vs| _,_=>ao
variable {a_:I<|Z×aR} {EV:ei->aR}
def EW (c:∀x u,b9 a_ x=aa u->EV x=u):∀(ps:I<|Z×ei) (vs:I<|Z×aR),vx a_ ps=aa vs->ps.map (λp=>(p.1,EV p.2))=vs| [],vs,h=>by simp [vx] at h;simp [h]| (i,x)::r,vs,h=>by simp only [vx] at h;cases a:b9 a_ x with| none=>simp [a] at h| some v=>cases b:vx a_ r with| none=>simp [a,b] at h| some us=>simp [a,b] at h;subst h;simp [c x v a,EW c r us b]
def h' (l:I<|Z×aR):I ei->aA (I aR)| []=>aa []| x::r=>match b9 l x,h' l r with| aa v,aa vs=>aa<|v::vs| _,_=>ao
def EX (c:∀x u,b9 a_ x=aa u->EV x=u):∀(ps:I ei) (vs:I aR),h' a_ ps=aa vs->ps.map EV=vs| [],vs,h=>by simp [h'] at h;simp [h]| x::r,vs,h=>by simp only [h'] at h;cases a:b9 a_ x with| none=>simp [a] at h| some v=>cases b:h' a_ r with| none=>simp [a,b] at h| some us=>simp [a,b] at h;subst h;simp [c x v a,EX c r us b]
section
variable {P:dJ} {l:I<|Z×aR} {W:aP->Prop} {w0:aP} {F:I Z} {L:I bh} {Vs:I View} {d:aA Tmp} {ty:cn} {pos:fO} {af:bH fY} {g:aA<|Z×aS}
def Yb {t:cn} {parts:I<|Z×ei} {vs:I<|Z×aR} {z:aR} {pl:I<|Z×Z} {out:I aR} (c:zeroOf P t=aa z) (a:hW P t=aa pl) (hv:vx l parts=aa vs) (e:ue (λi=>pl[i]?) (bm z) vs=aa out):Yl P l W ⟨d,.build t parts.toArray,ty,pos,af,g⟩<|b0 out.toArray:=by
 intro h w j _;have k:(parts.toArray.map λ (i,x)=>(i,h x):bH (Z×aR)).toList=vs:=by simpa using EW j parts vs hv
 unfold hW at a;cases b:P.underlying t with
 | none=>simp [b] at a
 | some n=>
  cases n<;>simp [b] at a;rename_i fs;have o:=run_places (P:=P) fs.toList pl (by simpa using a) w;have p:(fs.mapM (m:=Sem) λf=>do pure (f.offset,<-sizeOf f.type)).run P w = .ok pl.toArray w:=by rw [zO,Sem.run_map,o];rfl
  have q:Instr.fill (λi=>pl.toArray[i]?) z.cells vs=aa out.toArray:=by refine B7 _ vs z.cells out ?_;rw [wQ];simpa using e
  simp only [execOp,Instr.build,j7,yn c,jc,run_underlying b,p,k,q,lG]
end
section
variable {P:dJ} {ops:bH cg} {Q:di->cY->aP->Prop} {n:Z} {ds:I fw} {l:I<|Z×aR} {W:aP->Prop} {w0:aP} {F:I Z} {L:I bh} {Vs:I View} {rest:I cg} {d:Z} {ty:cn} {pos:fO} {af:bH fY} {g:aA<|Z×aS}
def M4 (t:cn) (v:aR) (w:aP):(newVar t v).run P w = .ok ⟨w.heap.size,0,ao⟩ (w.alloc<|aY v.cells t):=by simp [newVar,newRow]
def WL.new {op:Op} {o:Obj} {mk:Z->aR} (i:eS ops l g) (j:e' d n=ad) (k:∀(c:ei->aR) (w:aP),(∀x u,b9 l x=aa u->c x=u)->Ws w0 F L Vs w->(execOp c ⟨aa d,op,ty,pos,af,g⟩).run P w = .ok (.value<|mk w.heap.size) (w.alloc o)) (h:∀b,WL P ops Q n ds ((d,mk b)::l) (Ws w0 F (aQ b o::L) Vs) rest) : WL P ops Q n ds l (Ws w0 F L Vs)<|⟨aa d,op,ty,pos,af,g⟩::rest:=by refine WL.step i λa w e f q m=>?_;have:=k a.eval w (λx u p=>e.eval p) f;simp only [kt,this,cg.upon_value];exact m _ _<|h w.heap.size _ _ (e.put j _)<|f.alloc o
def WL.box {x:ei}  (a:eS ops l g) (c:e' d n=ad) (e:b9 l x=aa ae) (h:∀b,WL P ops Q n ds ((d,b8<|aa ⟨b,0,ao⟩)::l) (Ws w0 F (aQ b (aY ae.cells bx (0,0))::L) Vs) rest) : WL P ops Q n ds l (Ws w0 F L Vs)<|⟨aa d,.box bx x,ty,pos,af,g⟩::rest:= WL.new (mk:=λb=>b8<|aa ⟨b,0,ao⟩) a c (λi w f j=>by simp [execOp,Instr.box,f x ae e,M4]) h
def Al (a:eS ops l g) (c:e' d n=ad) (e:zeroOf P bx=aa ae) (h:∀b,WL P ops Q n ds ((d,b8<|aa ⟨b,0,ao⟩)::l) (Ws w0 F (aQ b (aY ae.cells bx (0,0))::L) Vs) rest) : WL P ops Q n ds l (Ws w0 F L Vs)<|⟨aa d,.alloc bx,ty,pos,af,g⟩::rest:= WL.new (mk:=λb=>b8<|aa ⟨b,0,ao⟩) a c (λf w i j=>by simp [execOp,Instr.alloc,yn e,M4]) h
def mD (a:Obj) (o:Z) (vs:I aR):Obj:=match a with| aY c T f=>aY (c.toList.take o++vs++c.toList.drop (o+vs.length)).toArray T f| x=>x
def ra (a:Obj) (o k:Z):aS:=match a with| aY c _ f=>Z.ble (o+k) c.toList.length&&(ju f.1 0&&ju f.2 0)| _=>aq
variable {aL dl:Z}
def Im {w:aP} (i:e2 P bx=aa bE) (k:(bm ae).length=bE) (l:(bm ae).all (·.oneCell')=ad) (a:w.heap[aL]? = aa a9) (b:ra a9 dl bE=ad) : (storeVar bx ⟨aL,dl,ao⟩ ae).run P w = .ok () { w with heap:=w.heap.setIfInBounds aL<|mD a9 dl<|bm ae }:=by
 cases a9 with
 | cells c T f=>
  obtain ⟨v,x⟩:=f;simp only [ra,eI] at b;obtain ⟨d,m,n⟩:=b;have o:=o0 m;have p:=o0 n;subst o;subst p;have d:=s9 d;have e:=run_storeCells_at P aL dl T (bm ae) 0 c w a (by simp at d ⊢;omega)<|λu q=>gA.1 l u q;have r:ae.cells.size=bE:=by rw [<-k,<-wQ];simp
  have s:(storeVar bx ⟨aL,dl,ao⟩ ae).run P w=(storeCells ⟨aL,dl,ao⟩<|bm ae).run P w:=by simp [storeVar,EU i,r,wQ]
  rw [s,e];have h:=setRow_heap w aL c (c.toList.take (dl+0)++bm ae++c.toList.drop (dl+0+(bm ae).length)).toArray T (0,0) a;have t:=lt_of_heap a;simp only [mD,wI] at h ⊢;suffices hh:(w.setRow aL (c.toList.take dl++bm ae++c.toList.drop (dl+(bm ae).length)).toArray).heap=w.heap.setIfInBounds aL (aY (c.toList.take dl++bm ae++c.toList.drop (dl+(bm ae).length)).toArray T (0,0)) by rw [<-hh];rfl
  apply bH.ext_getElem?;intro j;by_cases g:aL=j;·subst g;rw [h];simp [t]
  ·rw [vl g];simp [aP.setRow,bH.getElem?_modify,g]| _=>simp [ra] at b
def aw {x y:ei}    (i:Z) (f:eS ops l g) (k:b9 l x=aa (b8<|aa ⟨bE,aL,ao⟩)) (m:b9 l y=aa ae) (hL:L[i]? = aa (aQ bE a9)) (o:e2 P bx=aa dl) (p:(bm ae).length=dl) (q:(bm ae).all (·.oneCell')=ad) (r:ra a9 aL dl=ad) (h:WL P ops Q n ds l (Ws w0 F (L.set i<|aQ bE<|mD a9 aL<|bm ae) Vs) rest) : WL P ops Q n ds l (Ws w0 F L Vs)<|⟨ao,.store bx x y,ty,pos,af,g⟩::rest:=by
 refine WL.step f λa w b c v s=>?_;have d:w.heap[bE]? = aa a9:=c.kn _<|gd hL;have t:(execOp a.eval ⟨ao,.store bx x y,ty,pos,af,g⟩).run P w = .ok .skip { w with heap:=w.heap.setIfInBounds bE<|mD a9 aL<|bm ae }:=by simp only [execOp,b.eval k,b.eval m,Instr.storeAt,Instr.sureAddr,j7,lG,jc,Im o p q d r]
 simp only [kt,t,cg.upon_skip];refine s _ _<|h _ _ (b.z0 undef) ?_;refine Ws.vv c i hL ⟨O,O,O,aK,λj z u=>?_⟩ ?_ (by simp [aQ]) (by simp [aQ]);·have:bE≠j:=λe=>u (by simp [aQ,e]);simp [vl this]
 ·show (w.heap.setIfInBounds bE _)[bE]? = _;simp [lt_of_heap d]
def Enters (P:dJ) (f:FuncId):Prop:=∀args w,(callFunc f args).run P w = .ok (.enter f args) w
variable {eK:FuncId}
def enters_of {fn : Func} (b : P.funcs[eK]? = aa fn) (c : (fn.name == "runtime.NumGoroutine") = aq) (a : fn.body.isNone = aq) : Enters P eK := λargs w => by
 have d : fn.name ≠ "runtime.NumGoroutine" := by simpa using c
 have f:fn.body≠ao:=by intro e;rw [e] at a;cases a
 simp [callFunc,b,d,f]
def M5 (P:dJ) (f:FuncId):aS:=match P.funcs[f]? with| aa fn=>!(fn.name=="runtime.NumGoroutine")&&!fn.body.isNone| ao=>aq
def bp {P:dJ}  (h:M5 P eK=ad:=by kernel_rfl):Enters P eK:=by unfold M5 at h;cases e:P.funcs[eK]? with| none=>rw [e] at h;cases h| some fn=>rw [e] at h;simp only [aS.and_eq_true,aS.not_eq_true'] at h;exact enters_of e h.1 h.2
variable {hc:bH ei} {ea:I aR}
def EY {a:ei->aR} {dst:aA Tmp}   {ts:bH cn}  {w:aP} (c:Enters P eK) (b:∀x u,b9 l x=aa u->a x=u) (d:h' l hc.toList=aa ea) : (execOp a ⟨dst,.call ⟨.value<|.func eK,hc,ts⟩,ty,pos,af,g⟩).run P w = .ok (.enter eK ea.toArray) w:=by
 have e:hc.map a=ea.toArray:=by apply wJ;simpa using EX b _ _ d
 have f:a (.func eK) = .func (.func eK) #[] #[]:=b (.func eK) _ rfl;simp only [execOp,resolve,e,f,fw.ofValue,j7,lG,jc,invoke];simpa using c _ w
variable {jU:bH cn}
def WL.B8 {ι:Type}     (k:eS ops l g) (m:e' d n=ad) (o:Enters P eK) (p:h' l hc.toList=aa ea) (v:ι->aR) (R:ι->aP->Prop) (j:I oZ->aP->Prop) (hC:∀w,W w->cx P eK ea.toArray w λe c=>(∃i,e = cf (v i)/\R i c)\/∃b,e = .panicked b/\j b c) (q:∀i,WL P ops Q n ds ((d,v i)::l) (R i) rest) (r:∀b,WE Q (.panic b) n ds l (j b)) : WL P ops Q n ds l W<|⟨aa d,.call ⟨.value<|.func eK,hc,jU⟩,ty,pos,af,g⟩::rest:=by
 refine WL.step k λa w f s B t=>?_;have y:=EY (P:=P) (dst:=aa d) (ts:=jU) (ty:=ty) (pos:=pos) (af:=af) (g:=g) (w:=w) o (λx u z=>f.eval z) p;simp only [kt,y,cg.upon_enter];refine (hC w s).mono λe c A=>?_;rcases A with ⟨i,rfl,h⟩ | ⟨b,rfl,h⟩;·exact t _ _<|q i _ _ (f.put m _) h
 ·exact r b _ _ f h
def WL.call (a:eS ops l g) (b:e' d n=ad) (c:Enters P eK) (f:h' l hc.toList=aa ea) (v:aB->aR) (R:aB->aP->Prop) (hC:∀w,W w->cx P eK ea.toArray w λe j=>∃i,e = cf (v i)/\R i j) (k:∀i,WL P ops Q n ds ((d,v i)::l) (R i) rest) : WL P ops Q n ds l W<|⟨aa d,.call ⟨.value<|.func eK,hc,jU⟩,ty,pos,af,g⟩::rest:= WL.B8 a b c f v R (λ_ _=>False) (λw m=>(hC w m).mono λ_ _ h=>bB h) k<|λ_ _ _ _ h=>h.elim
def Lp (i:eS ops l g) (j:e' d n=ad) (k:Enters P eK) (m:h' l hc.toList=aa ea) (hC:∀w,Ws w0 F L Vs w->cx P eK ea.toArray w λe b=>e = cf ae/\Ext w b) (o:WL P ops Q n ds ((d,ae)::l) (Ws w0 F L Vs) rest) : WL P ops Q n ds l (Ws w0 F L Vs)<|⟨aa d,.call ⟨.value<|.func eK,hc,jU⟩,ty,pos,af,g⟩::rest:=by refine WL.step i λa w c f t p=>?_;have q:=EY (P:=P) (dst:=aa d) (ts:=jU) (ty:=ty) (pos:=pos) (af:=af) (g:=g) (w:=w) k (λx u r=>c.eval r) m;simp only [kt,q,cg.upon_enter];refine (hC w f).mono λe b s=>?_;obtain ⟨rfl,h⟩:=s;exact p _ _<|o _ _ (c.put j _)<|f.ext h
def Ld (k:eS ops l g) (m:e' d n=ad) (o:Enters P eK) (p:h' l hc.toList=aa ea) (v:aB->aR) (R:View->aB->Prop) (hC:∀w,Ws w0 F L Vs w->cx P eK ea.toArray w λe b=>∃i,e = cf (v i)/\Ext w b/\R (nv w b) i) (q:∀c i,hf w0 c->R c i->WL P ops Q n ds ((d,v i)::l) (Ws w0 F L<|c::Vs) rest) : WL P ops Q n ds l (Ws w0 F L Vs)<|⟨aa d,.call ⟨.value<|.func eK,hc,jU⟩,ty,pos,af,g⟩::rest:=by refine WL.step k λa w j f A r=>?_;have s:=EY (P:=P) (dst:=aa d) (ts:=jU) (ty:=ty) (pos:=pos) (af:=af) (g:=g) (w:=w) o (λx u t=>j.eval t) p;simp only [kt,s,cg.upon_enter];refine (hC w f).mono λe b y=>?_;obtain ⟨i,rfl,h,z⟩:=y;exact r _ _<|q (nv w b) i ((z5 w b).mono f.fr.size) z _ _ (j.put m _)<|f.view h (Ij w b)<|z5 w b
end
section
variable {P:dJ} {ops:bH cg} {Q:di->cY->aP->Prop} {n:Z} {ds:I fw} {l:I<|Z×aR} {W:aP->Prop} {w0:aP} {F:I Z} {L:I bh} {Vs:I View} {rest:I cg} {d:Z} {ty:cn} {pos:fO} {af:bH fY} {g:aA<|Z×aS}
def eV (e:cn) (size:Z) (v:aR) (m:Z) (xs:I aR):bh:= ⟨v.ownBlock.toList,λw=>w.ownsRow 0 e size v m xs, λw j h b=>by
 obtain ⟨f,a⟩:=b;refine ⟨f,?_⟩;rcases a with a | ⟨g,cap,cur,hv,i,c,r⟩;·exact bB a
 ·exact be ⟨g,cap,cur,hv,i,by rw [h g (by simp [hv,l8])];exact c,r⟩, λw b k d=>by
 obtain ⟨f,a⟩:=b;rcases a with ⟨a,_⟩ | ⟨g,cap,cur,hv,i,c,r⟩;·subst a;simp [l8] at d
 ·subst hv;simp [l8] at d;subst d;exact lt_of_heap c⟩
def Ws.hM (h:Ws w0 F L Vs cm) (e:cn) (size:Z):Ws w0 F (eV e size (aE ao 0 0) 0 []::L) Vs cm:=by have:=Ws.ym (L:=[]) (L':=[eV e size (aE ao 0 0) 0 []]) (L2:=L) (by simpa using h) (Fr.refl _ _) (by intro b a;simp at a;subst a;exact aP.ownsRow_nil _ _ _ _) (by simp [eV,l8]) (by simp [eV,l8]);simpa using this
def Ws.M6 (h:Ws w0 F L Vs cm) (i:Z) {b m cap:Z} {cur:bH aR} {e:cn} {size:Z} (hL:L[i]? = aa (aQ b<|aY cur e (0,0))) (a:m<=cap) (d:cap<=maxLen) (c:cur.size=cap*size) : Ws w0 F (L.set i<|eV e size (aE (aa ⟨b,0,ao⟩) m cap) m<|cur.toList.take<|m*size) Vs cm:=by have f:cm.heap[b]? = aa (aY cur e (0,0)):=h.kn _<|gd hL;refine Ws.vv h i hL (Fr.refl _ _) ?_ (by simp [eV,l8]) (by simp [eV,aQ,l8]);exact ⟨by rw [m3,Mt,c];exact vn<|x9 _ a,be ⟨b,cap,cur,O,dw _,f,a,d,c,O⟩⟩
structure ii (P:Program) (t e:TypeId) (z:Value) (size bytes:Nat):Prop where
 under:P.underlying t=some (.slice e)
 info:∃i,P.info? e=some i/\i.zero=some z/\i.size=size/\i.bytes=bytes
 zs:z.cells.size=size
 pos:0<size
def M7 (P:Program) (t:TypeId):Option<|TypeId×Value×Nat×Nat:=match P.underlying t with
 | some<|.slice e=>match P.info? e with
  | some i=>match i.zero with| some z=>bif Nat.beq z.cells.size i.size&&Nat.blt 0 i.size then some (e,z,i.size,i.bytes) else none| none=>none
  | none=>none
 | _=>none
def j_ {t e:cn} {z:aR} {size d:Z} (h:M7 P t=aa (e,z,size,d)):ii P t e z size d:=by unfold M7 at h;cases b:P.underlying t with| none=>simp [b] at h| some f=>cases f<;>simp [b] at h;rename_i g;cases hi:P.info? g with| none=>simp [hi] at h| some i=>simp [hi] at h;cases c:i.zero with| none=>simp [c] at h| some j=>simp only [c] at h;cases a:(ju j.cells.size i.size&&e' 0 i.size) with| false=>rw [a] at h;cases h| true=>rw [a] at h;simp at h;obtain ⟨rfl,rfl,rfl,rfl⟩:=h;simp only [eI] at a;exact ⟨b,⟨i,hi,c,O,O⟩,o0 a.1,s9 a.2⟩
variable {wR:a6}
def Vu {t e ty:cn} {z v b:aR} {size o m c k:Z}  {xs news:I aR} {w x:aP} (d:ii P t e z size o) (y:w.ownsRow 0 e size v m xs) (f:news.length=k*size) (i:∀j u,news[j]? = aa u->w.cell? (wR.add j)=aa u) (A:∀u ∈ news,u.oneCell'=ad) (B:m+k<=maxLen) (p:(m+k)*o<=140737488355328) (l:(Builtin.append_ #[t,t] ty #[v,aE (aa wR) k c]).run P w = .ok b x) (C:b = aE ao 0 0↔v = aE ao 0 0/\k=0) : b.ownBlock=v.ownBlock\/b.ownBlock=aa w.heap.size:=by
 obtain ⟨n,hi,q,D,E⟩:=d.info;subst D;subst E;have F:((m+k:Z):ac)<=9223372036854775807:=by simp only [maxLen] at B;omega
 obtain ⟨G,H⟩:=y;rcases H with ⟨rfl,rfl⟩ | ⟨g,cap,cur,rfl,_,r,N,Q,J,K⟩
 ·by_cases L:k=0;·exact bB (by rw [C.2 ⟨O,L⟩])
  ·have a:=run_append_nil (P:=P) w t ty e n z d.under hi q wR k c news f i ai ai (by simp at p;omega);rw [l] at a;injection a with a _;exact be (by rw [a];rfl)
 ·by_cases s:m+k<=cap;·have a:=run_append_room (P:=P) w t ty e n d.under hi g m cap cur r wR k c news f i A s (by rw [f,J,<-wK];exact x9 _ s);rw [l] at a;injection a with a _;exact bB (by rw [a];rfl)
  ·have M:∀j v,xs[j]? = aa v->w.cell? ((⟨g,0,ao⟩:a6).add j)=aa v:=by
    intro j u h;rw [r3,<-K] at *;refine cell_of_heap r ?_;rw [jF] at h;split at h;·simpa [cz] using h
    ·cases h
   have a:=run_append_grow (P:=P) w t ty e n z d.under hi q ⟨g,0,ao⟩ m cap xs G M wR k c news f i ai F<|growslice_fits ai p;rw [l] at a;injection a with a _;exact be (by rw [a];rfl)
def WL.append {t e:cn} {z v:aR} {size q m c k:Z} {s x:ei}  {xs news:I aR} (i:Z) (J:eS ops l g) (K:e' d n=ad) (f:ii P t e z size q) (M:b9 l s=aa v) (N:b9 l x=aa (aE (aa wR) k c)) (hL:L[i]? = aa (eV e size v m xs)) (y:news.length=k*size) (A:∀w,Ws w0 F L Vs w->∀j u,news[j]? = aa u->w.cell? (wR.add j)=aa u) (B:∀u ∈ news,u.oneCell'=ad) (C:m+k<=maxLen) (D:(m+k)*q<=140737488355328) (h:∀a,(a = aE ao 0 0↔v = aE ao 0 0/\k=0)->WL P ops Q n ds ((d,a)::l) (Ws w0 F (L.set i<|eV e size a (m+k)<|xs++news) Vs) rest) : WL P ops Q n ds l (Ws w0 F L Vs)<|⟨aa d,.call ⟨.builtin .append,#[s,x],#[t,t]⟩,ty,pos,af,g⟩::rest:=by
 refine WL.step J λO w r p ae R=>?_;obtain ⟨S,hi,T,U,V⟩:=f.info;have E:w.ownsRow 0 e size v m xs:=p.kn _<|gd hL;obtain ⟨a,W,G,X,o,H⟩:=run_append_own (P:=P) w 0 t ty e S z size q f.under hi T U V f.zs f.pos v m xs E wR k c news y (A w p) B C D<|dw _;have Y:(execOp O.eval ⟨aa d,.call ⟨.builtin .append,#[s,x],#[t,t]⟩,ty,pos,af,g⟩).run P w = .ok (.value a) W:=by simp only [execOp,resolve,Ba,nt,HT,r.eval M,r.eval N,j7,lG,jc,invoke,builtin,G]
 simp only [kt,Y,cg.upon_value];refine R _ _<|h a H _ _ (r.put K _) ?_;refine Ws.vv p i hL ⟨o.os,o.tape,o.output,o.size,λj b ab=>o.block j b λe=>ab ?_⟩ X ?_ λj b=>?_;·simp [eV,<-e]
 ·cases hv:a.ownBlock<;>simp [eV,hv]
 ·simp only [eV,Mu] at b ⊢;rcases Vu f E y (A w p) B C D G H with e | e;·exact bB (by rw [<-e];exact b)
  ·rw [e] at b;injection b with b;exact be ai
end
section
variable {P:dJ} {ops:bH cg} {Q:di->cY->aP->Prop} {n:Z} {ds:I fw} {l:I<|Z×aR} {W:aP->Prop} {w0:aP} {F:I Z} {L:I bh} {Vs:I View}
def r4 (us l:I<|Z×aR):aS:=us.all λp=>(lk l p.1).isNone
def Vv (a:r4 a_ l=ad)   (b:lk l bE=aa ae):lk (a_++l) bE=aa ae:=by induction a_ with| nil=>exact b| cons p r d=>obtain ⟨k,v⟩:=p;simp only [r4,x',eI] at a;simp only [ix,lk];cases e:ju k bE with| false=>exact d a.2| true=>have:=o0 e;subst this;have c:=a.1;rw [b] at c;cases c
variable {lj:cY}
def Ag.forget (h:Ag n ds (a_++l) lj) (a:r4 a_ l=ad):Ag n ds l lj:= ⟨h.size,h.defs,λt u b=>h.jT t u<|Vv a b⟩
def Ag.EZ (m:Z) (h:Ag n ds a_ lj) (a:a_.drop m=l) (b:r4 (a_.take m) l=ad):Ag n ds l lj:=by subst a;rw [<-rZ m a_] at h;exact h.forget b
def ou (ops:bH cg):I (Z×aR)->I cg->aA (I<|Z×aR)
 | l,[]=>aa l
 | l,o::r=>match o.guard,o.dst with
  | aa (j,b),aa d=>match (ops[j]?).bind (·.dst) with
   | aa a=>match lk l a with| aa<|bW c=>bif (c != b) then ou ops ((d,undef)::l) r else ao| aa<|cO _=>ou ops ((d,undef)::l) r| _=>ao
   | ao=>ao
  | _,_=>ao
def uf (n:Z) (os:I cg):aS:=os.all λo=>match o.dst with| aa d=>e' d n| ao=>ad
def M8 (b:Ag n ds a_ lj)   (h:lk a_ bE=aa ae) (hv:ae≠undef\/bE<n):lj.tmps[bE]? = aa ae:=by
 have a:=b.jT bE ae h;rw [lI] at a;rcases m2 bE lj.tmps.size with d | c;·rw [x6 d] at a ⊢;simpa using a
 ·rw [zN c] at a;rcases hv with hv | hv;·exact absurd (by simpa using a.symm) hv
  ·rw [b.size] at c;omega
variable {aH B9:I cg}
def WL.In:∀{l:I<|Z×aR},ou ops l aH=aa a_->uf n aH=ad->(∀a w,Ag n ds a_ a->W w->wpList P ops Q B9 a w)-> ∀a w,Ag n ds l a->W w->wpList P ops Q (aH++B9) a w:=by
 induction aH with
 | nil=>intro l c _ h a w f m;simp [ou] at c;subst c;exact h a w f m
 | cons o r y=>
  intro l c p h a w f m;simp only [ou] at c;simp only [uf,x',eI] at p;have key:∀d,o.dst=aa d->nN o (yielded ops a.tmps)=aq->ou ops ((d,undef)::l) r=aa a_->wpList P ops Q (o::r++B9) a w:=by
   intro d e z A;have B:e' d n=ad:=by have:=p.1;rw [e] at this;exact this
   simp only [ix,wpList,z];rw [e];exact y A p.2 h _ _ (f.put B undef) m
  cases g:o.guard with
  | none=>simp [g] at c
  | some C=>
   obtain ⟨j,b⟩:=C;cases e:o.dst with
   | none=>simp [g,e] at c
   | some d=>
    simp only [g,e] at c;cases i:(ops[j]?).bind (·.dst) with
    | none=>simp [i] at c
    | some q=>
     simp only [i] at c;cases k:lk l q with
     | none=>simp [k] at c
     | some v=>
      simp only [k] at c;have hv:=f.jT q v k;cases v with
      | bool s=>
       cases t:(s != b) with
       | false=>simp [t] at c
       | true=>
        simp only [t,wO] at c;refine key d e ?_ c;have D:=M8 f k<|bB (by simp [undef]);have x:yielded ops a.tmps j=aa s:=by simp [yielded,i,D]
        simp only [nN,g,x];cases b<;>cases s<;>first|rfl|(simp at t)
      | tuple vs=>
       refine key d e ?_ c;have x:yielded ops a.tmps j=ao:=by simp only [yielded,i,cH];rw [lI] at hv;cases E:a.tmps[q]? with| none=>rfl| some u=>simp [E] at hv;simp [hv]
       simp [nN,g,x]| _=>simp at c
def Vw:∀(a:cY) (w:aP),wpList P ops (di.then (wpList P ops Q B9) Q) aH a w->wpList P ops Q (aH++B9) a w:=by
 induction aH with
 | nil=>intro a w h;exact h
 | cons o r c=>
  intro a w h;simp only [ix,wpList] at h ⊢;split
  ·rename_i d;rw [aD d] at h;rcases h with h | ⟨f,a2,g,i⟩;·left;unfold kt at h ⊢;unfold cg.upon at h ⊢;split at h;all_goals first|exact c _ _ h|exact h|(refine h.mono λe j b=>?_;cases e with| returned v=>exact c _ _ b| panicked m=>exact b| outgrown=>obtain ⟨a3,k,l⟩:=b;exact ⟨a3,k,l⟩)|exact h.mono λv j b=>c _ _ b
   ·exact be ⟨f,a2,g,i⟩
  ·rename_i d;rw [aj d] at h;exact c _ _ h
def Vx {g:di->cY->aP->Prop} (b:∀e a w,Q e a w->g e a w) :∀(a:cY) (w:aP),wpList P ops Q aH a w->wpList P ops g aH a w:=by
 induction aH with
 | nil=>intro a w h;exact b _ _ _ h
 | cons o r d=>
  intro a w h;simp only [wpList] at h ⊢;split
  ·rename_i f;rw [aD f] at h;rcases h with h | ⟨i,a2,j,k⟩;·left;unfold kt at h ⊢;unfold cg.upon at h ⊢;split at h;all_goals first|exact d _ _ h|exact b _ _ _ h|exact h|(refine h.mono λe l c=>?_;cases e with| returned v=>exact d _ _ c| panicked p=>exact b _ _ _ c| outgrown=>obtain ⟨a3,m,n⟩:=c;exact ⟨a3,m,b _ _ _ n⟩)|exact h.mono λv l c=>d _ _ c
   ·exact be ⟨i,a2,j,b _ _ _ k⟩
  ·rename_i f;rw [aj f] at h;exact d _ _ h
def ug (Q:di->cY->aP->Prop) (n:Z) (ds:I fw) (l:I<|Z×aR) (W:aP->Prop) (dx:Z) (x:aR):di->cY->aP->Prop:= di.then (λa w=>(Ag n ds l a/\a.tmps.getD dx undef=x)/\W w) Q
def Gt (m:Z) (c:lk a_ bE=aa ae) (d:a_.drop m=l) (e:r4 (a_.take m) l=ad):WL P ops (ug Q n ds l W bE ae) n ds a_ W []:= λa w b f=>⟨⟨b.EZ m d e,b.jT _ _ c⟩,f⟩
def Ag.known (h:Ag n ds l lj)   (hv:lk l bE=aa ae):Ag n ds ((bE,ae)::l) lj:= ⟨h.size,h.defs,λt u a=>by simp only [lk] at a;cases b:ju bE t with| true=>rw [b] at a;have:=o0 b;subst this;simp at a;subst a;exact h.jT _ _ hv| false=>rw [b] at a;exact h.jT t u a⟩
def Ag.tH (h:Ag n ds ((bE,ae)::l) lj) (hv:lk l bE=aa ae):Ag n ds l lj:= ⟨h.size,h.defs,λt u a=>by refine h.jT t u ?_;simp only [lk];cases b:ju bE t with| true=>have:=o0 b;subst this;rw [hv] at a;simpa using a| false=>exact a⟩
variable {aL dl:Z} {bo ck kH:ei} {gS:fO} {hy:bH fY} {bP:aA<|Z×aS}
def WL.B_ (m:Z)   (a:aS) {c x:aS} (z:aH[m]? = aa ⟨aa aL,.pick bo ck kH,bx,gS,hy,bP⟩) (A:bo = .tmp bE) (j:lk l bE=aa (bW c)) (B:uf n (aH.take m)=ad) (C:eS ops l bP) (D:e' aL n=ad) (f:(ck,kH)=(bif a then (ei.tmp dl,ei.const<|bW aq) else (ei.const<|bW ad,ei.tmp dl))) (E:ou ops ((bE,bW<|!a)::l) (aH.take m)=aa a_) (F:a_.drop m=(bE,bW<|!a)::l) (G:r4 (a_.take m) ((bE,bW<|!a)::l)=ad) (H:c=a->WL P ops (ug Q n ds ((bE,bW a)::l) W dl<|bW x) n ds ((bE,bW a)::l) W (aH.take m)) (h:WL P ops Q n ds ((aL,bW<|bif a then c&&x else c||x)::l) W<|aH.drop<|m+1):WL P ops Q n ds l W aH:=by
 intro q w s t;have J:aH=aH.take m++⟨aa aL,.pick bo ck kH,bx,gS,hy,bP⟩::aH.drop (m+1):=by obtain ⟨K,L⟩:=cN.1 z;rw [<-L,Mv K,rZ]
 rw [J];subst A;have u:∀(b:cY) (d:aP) (r:aS),Ag n ds l b->W d->(if c then b.eval ck else b.eval kH) = bW r->r=(bif a then c&&x else c||x)-> wpList P ops Q (⟨aa aL,.pick (.tmp bE) ck kH,bx,gS,hy,bP⟩::aH.drop (m+1)) b d:=by
  intro b d r g k hv M;refine wpList_step λT N=>?_;rw [aD<|eS.wanted (o:=⟨aa aL,.pick (.tmp bE) ck kH,bx,gS,hy,bP⟩) C g];have O:(execOp b.eval ⟨aa aL,.pick (.tmp bE) ck kH,bx,gS,hy,bP⟩).run P d = .ok (.value<|bW r) d:=by have R:b.eval (.tmp bE) = bW c:=g.jT bE _ j;simp only [execOp,R,asBool,j7,lG,jc,hv]
  simp only [kt,O,cg.upon_value];exact N _ _<|h _ _ (by rw [<-M];exact g.put D _) k
 by_cases i:c=a
 ·refine Vw _ _<|Vx (Q:=ug Q n ds ((bE,bW a)::l) W dl<|bW x) (λe b d v=>?_) _ _<|H i q w (s.known (by rw [<-i];exact j)) t;cases e with
  | normal=>
   obtain ⟨⟨g,y⟩,k⟩:=v;refine u b d x (g.tH (by rw [<-i];exact j)) k ?_ ?_
   ·subst i;cases c;·simp at f;obtain ⟨rfl,rfl⟩:=f;exact y
    ·simp at f;obtain ⟨rfl,rfl⟩:=f;exact y
   ·subst i;cases c<;>rfl| _=>exact v
 ·have p:c = !a:=by cases c<;>cases a<;>first|rfl|exact absurd rfl i
  refine WL.In E B (λb d g k=>?_) q w (s.known (by rw [<-p];exact j)) t;have S:Ag n ds l b:=(g.EZ m F G).tH (by rw [<-p];exact j);refine u b d c S k ?_ ?_
  ·subst p;cases a;·simp at f;obtain ⟨rfl,rfl⟩:=f;rfl
   ·simp at f;obtain ⟨rfl,rfl⟩:=f;rfl
  ·subst p;cases a<;>rfl
def La (m:Z)   {c x:aS} (a:aH[m]? = aa ⟨aa aL,.pick bo ck kH,bx,gS,hy,bP⟩) (b:bo = .tmp bE) (d:lk l bE=aa (bW c)) (e:uf n (aH.take m)=ad) (f:eS ops l bP) (g:e' aL n=ad) (i:(ck,kH)=(ei.tmp dl,ei.const<|bW aq)) (j:ou ops ((bE,bW aq)::l) (aH.take m)=aa a_) (k:a_.drop m=(bE,bW aq)::l) (o:r4 (a_.take m) ((bE,bW aq)::l)=ad) (p:c=ad->WL P ops (ug Q n ds ((bE,bW ad)::l) W dl<|bW x) n ds ((bE,bW ad)::l) W (aH.take m)) (h:WL P ops Q n ds ((aL,bW<|c&&x)::l) W<|aH.drop<|m+1):WL P ops Q n ds l W aH:= WL.B_ m ad a b d e f g i j k o p h
def Lo (m:Z)   {c x:aS} (a:aH[m]? = aa ⟨aa aL,.pick bo ck kH,bx,gS,hy,bP⟩) (b:bo = .tmp bE) (d:lk l bE=aa (bW c)) (e:uf n (aH.take m)=ad) (f:eS ops l bP) (g:e' aL n=ad) (i:(ck,kH)=(ei.const<|bW ad,ei.tmp dl)) (j:ou ops ((bE,bW ad)::l) (aH.take m)=aa a_) (k:a_.drop m=(bE,bW ad)::l) (o:r4 (a_.take m) ((bE,bW ad)::l)=ad) (p:c=aq->WL P ops (ug Q n ds ((bE,bW aq)::l) W dl<|bW x) n ds ((bE,bW aq)::l) W (aH.take m)) (h:WL P ops Q n ds ((aL,bW<|c||x)::l) W<|aH.drop<|m+1):WL P ops Q n ds l W aH:= WL.B_ m aq a b d e f g i j k o p h
end
section
variable {P:dJ} {ops:bH cg} {Q:di->cY->aP->Prop} {n:Z} {ds:I fw} {l l':I<|Z×aR} {W:aP->Prop} {w0:aP} {F:I Z} {L:I bh} {Vs:I View} {rest:I cg} {d:Z} {ty:cn} {pos:fO} {af:bH fY} {g:aA<|Z×aS}
variable {gE:Code}
def nQ {ι:Type}  (U:ι->I (Z×aR)) (a:I<|Z×aR) (Wi:ι->aP->Prop) (R:ι->Prop) (c:ι->Z) (b:ι) (d:R b) (e:∀p ∈ U b++a,lk l p.1=aa p.2) (f:∀w,W w->Wi b w) (g:∀i,R i->WC P gE (di.then (λh k=>∃j,c j<c i/\R j/\Ag n ds (U j++a) h/\Wi j k) Q) n ds (U i++a) (Wi i)):WC P (.loop gE) Q n ds l W:= WC.loop (λi=>U i++a) Wi R c b d e f g
def f_ {ι:Type}  (U:ι->I (Z×aR)) (a:I<|Z×aR) (Wi:ι->aP->Prop) (R:ι->Prop) (c:ι->Z) (b:ι) (d:R b) (e:∀w,W w->Wi b w) (f:∀i,R i->WC P gE (di.then (λg h=>∃j,c j<c i/\R j/\Ag n ds (U j++a) g/\Wi j h) Q) n ds (U i++a) (Wi i)) (k:z1 l (U b++a)=z2 (U b++a):=by rfl):WC P (.loop gE) Q n ds l W:=nQ U a Wi R c b d (mH k) e f
def CW {ι:Type}  (U:ι->I (Z×aR)) (a:I<|Z×aR) (R:ι->Prop) (b:ι->Z) (c:ι) (d:R c) (e:∀p ∈ U c++a,lk l p.1=aa p.2) (f:∀i,R i->WC P gE (di.then (λg h=>∃j,b j<b i/\R j/\Ag n ds (U j++a) g/\W h) Q) n ds (U i++a) W):WC P (.loop gE) Q n ds l W:= WC.loop (λi=>U i++a) (λ_=>W) R b c d e a' f
def pL {ι:Type}  (U:ι->I (Z×aR)) (a:I<|Z×aR) (R:ι->Prop) (c:ι->Z) (b:ι) (d:R b) (e:∀i,R i->WC P gE (di.then (λf g=>∃j,c j<c i/\R j/\Ag n ds (U j++a) f/\W g) Q) n ds (U i++a) W) (h:z1 l (U b++a)=z2 (U b++a):=by rfl):WC P (.loop gE) Q n ds l W:=CW U a R c b d (mH h) e
variable {bo ck:ei}
def WL.make {t e:cn}  {f i:IntKind} {c a:ac}  {size j:Z} (o:eS ops l g) (p:e' d n=ad) (k:ii P t e ae size j) (q:b9 l bo=aa (am f c)) (r:b9 l ck=aa (am i a)) (s:0<=c) (u:c<=a) (v:(j:ac)*a<=281474976710656) (x:a<=9223372036854775807) (h:∀b,WL P ops Q n ds ((d,aE (aa ⟨b,0,ao⟩) c.toNat a.toNat)::l) (Ws w0 F (aQ b (aY (madeCells ae.cells<|a.toNat*size) e (0,0))::L) Vs) rest) : WL P ops Q n ds l (Ws w0 F L Vs)<|⟨aa d,.makeSlice t bo ck,ty,pos,af,g⟩::rest:=by obtain ⟨y,hi,z,A,B⟩:=k.info;refine WL.new (mk:=λb=>aE (aa ⟨b,0,ao⟩) c.toNat a.toNat) o p (λC w m D=>?_) h;have:=run_make (P:=P) w t e y ae k.under hi z f i c a s u (by rw [B];exact v) x;rw [A] at this;simp [execOp,m bo _ q,m ck _ r,this]
def M9 (v:aR) (hv:v.cells = #[v]) (k:Z):madeCells v.cells (k*1)=(gb k v).toArray:=by
 rw [hv];apply wJ;simp only [madeCells,vo];apply r0;intro j;rcases m2 j k with h | h;·simp [h,Z.mod_one]
 ·simp [h]
def WL.z8 {t:cn}  {b o k:Z} {a:Obj}  (i:Z) (c:Obj) (d:eS ops l g) (e:b9 l bo=aa (b8<|aa ⟨b,o,ao⟩)) (f:b9 l ck=aa ae) (hL:L[i]? = aa (aQ b a)) (j:e2 P t=aa k) (m:(bm ae).length=k) (p:(bm ae).all (·.oneCell')=ad) (q:ra a o k=ad) (r:mD a o (bm ae)=c) (h:WL P ops Q n ds l (Ws w0 F (L.set i<|aQ b c) Vs) rest) : WL P ops Q n ds l (Ws w0 F L Vs)<|⟨ao,.store t bo ck,ty,pos,af,g⟩::rest:=aw i d e f hL j m p q (by rw [r];exact h)
end
section
variable {P:dJ} {l:I<|Z×aR} {W:aP->Prop} {w0:aP} {F:I Z} {L:I bh} {Vs:I View} {d:aA Tmp} {ty:cn} {pos:fO} {af:bH fY} {g:aA<|Z×aS}
def M' {t:TypeId} {x y:Operand} {a:Option Addr} {m c s:Nat} {k:IntKind} {h:Int} (b:g_ P t=some s) (j:b9 l x=some (.slice a m c)) (A:∀p,a=some p->p.spot=none) (n:b9 l y=some (.int k h)) (o:0<=h) (q:h<=c) : Yl P l W ⟨d,.slice t x none (some y) none,ty,pos,af,g⟩<|.slice a h.toNat c:=by
 intro B w i _;unfold g_ at b;cases f:P.underlying t with
 | none=>simp [f] at b
 | some r=>
  cases r<;>simp [f] at b;rename_i e;obtain ⟨u,hi,rfl⟩:=b;have v:(if c=0 then a else a.map (·.add<|0*u.size))=a:=by
   split;·rfl
   ·cases a with| none=>rfl| some p=>simp [Addr.add]
  have z:h<=(c:Int):=q;simp [execOp,i x _ j,i y _ n,Instr.sliceAt,Instr.slice,Instr.sliceBounds,Instr.sliceBound,asIntOf,run_underlying f,sizeOf,typeInfo,hi,o,z];simpa using v
end
def cB (a:View) (b o:Z) (cs:I aR):Prop:=∀j v,cs[j]? = aa v->vc a b (o+j)=aa v
variable {cR:View} {aL:Z} {ea:I aR}
def cB.mono (h:cX bN cR)   (r:cB bN bE aL ea):cB cR bE aL ea:=λj v hv=>h.cell<|r j v hv
structure Sl {α:Type} (rd:View->Z->Z->α->Prop) (k:Z) (H:View) (a:aA a6) (c:Z) (l:I α):Prop where
 cap:l.length<=c
 max:c<=9223372036854775807
 spot:∀p,a=aa p->0<c->p.spot=ao
 ct:∀i x,l[i]? = aa x->∃b o,a=aa ⟨b,o,ao⟩/\rd H b (o+i*k) x
variable {o3:View->Z->Z->aB->Prop} {cq:aA a6}
def Sl.mono (a:∀b o x,o3 bN b o x->o3 cR b o x) (h:Sl o3 bE bN cq aL cv):Sl o3 bE cR cq aL cv:=
 ⟨h.cap,h.max,h.spot,λi x c=>let ⟨b,o,d,e⟩:=h.ct i x c; ⟨b,o,d,a _ _ _ e⟩⟩
def Sl.nil:Sl o3 bE bN ao 0 ([]:I aB):=⟨c7 _,a8,aK,aK⟩
section
variable {P:dJ} {l:I<|Z×aR} {W:aP->Prop} {d:aA Tmp} {ty:cn} {pos:fO} {af:bH fY} {g:aA<|Z×aS}
variable {bo ck:ei} {dl j' nP:Z} {fy:IntKind}
def Yo {i:Z} (a:g_ P bx=aa nP) (b:b9 l bo=aa (aE cq dl j')) (c:b9 l ck=aa (am fy (i:ac))) (e:cq=aa ⟨bE,aL,ao⟩) (f:i<dl) : Yl P l W ⟨d,.indexAddr bx bo ck,ty,pos,af,g⟩<|b8<|aa ⟨bE,aL+i*nP,ao⟩:=by subst e;exact qu a b c f
def k8 {i:ac} (a:g_ P bx=aa nP) (b:b9 l bo=aa (aE cq dl j')) (c:b9 l ck=aa (am fy i)) (e:cq=aa ⟨bE,aL,ao⟩) (f:0<=i) (h:i<dl) : Yl P l W ⟨d,.indexAddr bx bo ck,ty,pos,af,g⟩<|b8<|aa ⟨bE,aL+i.toNat*nP,ao⟩:=by subst e;exact ES a b c f h
end
section
variable {P:dJ} {md:q7} {ops:bH cg} {C:aP->Prop} {Q:di->cY->aP->Prop}
def YV (P:dJ) (ops:bH cg) (C:aP->Prop) (o:cg) (v:aR) (a:cY):Prop:= (nN o (yielded ops a.tmps)=ad/\∀w,C w->(execOp a.eval o).run P w = .ok (.value v) w)\/ (nN o (yielded ops a.tmps)=aq/\v=undef)
variable {e6:cg}
def YV.of_same {a b:cY} (c:YV P ops C e6 ae a) (d:execOp b.eval e6=execOp a.eval e6) (e:nN e6 (yielded ops b.tmps)=nN e6 (yielded ops a.tmps)):YV P ops C e6 ae b:=by unfold YV at *;rw [d,e];exact c
variable {k7:cY->aP->Prop}
def YV.wpOp {a:cY}  (hi:ops[bE]? = aa e6) (c:YV P ops C e6 ae a) (hC:C cm)  (h:k7 (a.put e6.dst ae) cm):wpOp P ops Q bE k7 a cm:=by
 unfold Go.wpOp;simp only [hi];rcases c with ⟨b,hv⟩ | ⟨b,rfl⟩;·simp only [b,dD];refine bB ?_;simp only [kt,hv cm hC,cg.upon_value];exact h
 ·simp only [b,en,dF];exact h
def wT (P:dJ) (md:q7) (ops:bH cg) (C:aP->Prop) (Q:di->cY->aP->Prop):Z->bH aS->cY->aP->Prop| 0,listed,a,w=>C w/\ld md ops listed=[]/\Q .normal a w| fuel+1,listed,a,w=>C w/\(ld md ops listed=[]->Q .normal a w)/\ ∀i ∈ ld md ops listed,wpOp P ops Q i (wT P md ops C Q fuel<|listed.setIfInBounds i ad) a w
def Ip:∀(fuel:Z) (b:bH aS) (a:cY) (w:aP),wT P md ops C Q fuel b a w->wpAny P md ops Q fuel b a w| 0,_,_,_,h=>h.2| fuel+1,b,a,w,h=>⟨h.2.1,λi hi=>wpOp_mono (λc d e=>Ip fuel _ c d e)<|h.2.2 i hi⟩
def wT.c {b:bH aS} {a:cY}  (h:wT P md ops C Q bE b a cm):C cm:=by cases bE<;>exact h.1
def M_ {g i:cg}  (z:ops[bE]? = aa i) (A:g.apart ops i=ad) (B:∀cs b,g.op≠.select cs b) (q:∀cs b,i.op≠.select cs b) (s:∀c a w,Q (.panic c) (a.put g.dst ae) w->Q (.panic c) a w)  {a:cY} {w:aP} (j:YV P ops C g ae a) (h:wpOp P ops Q bE k7 (a.put g.dst ae) w) : wpOp P ops Q bE (λt m=>YV P ops C g ae t/\k7 (t.put g.dst ae) m) a w:=by
 obtain ⟨o,k,v⟩:=cg.apart_spec A;have eD:∀(a:cY),YV P ops C g ae a->∀u,YV P ops C g ae (a.put i.dst u):=λa j u=> j.of_same (execOp_put g B a i.dst u v)<|wanted_put g a i.dst u v;have D:∀d,YV P ops C g ae { a with defers:=d::a.defers }:=λd=>j.of_same rfl rfl;unfold wpOp at *;simp only [z] at *;rw [wanted_put i a g.dst ae o] at h;split
 ·rename_i p;simp only [p,dD] at h;rcases h with h | ⟨y,E⟩;case inr=>exact be ⟨by unfold cg.asks at *;rw [execOp_put i q a g.dst ae o] at y;exact y,E⟩
  refine bB ?_;unfold kt at *;rw [execOp_put i q a g.dst ae o] at h;generalize (execOp a.eval i).run P w=r at *;cases r with
  | ok n m=>
   cases n<;>simp only [cg.upon] at h ⊢;case value u=>exact ⟨eD a j u,by rw [<-cY.put_comm a ae u k];exact h⟩
   case skip=>exact ⟨eD a j _,by rw [<-cY.put_comm a ae undef k];exact h⟩
   case defer d=>refine ⟨eD _ (D d) _,?_⟩;rw [<-cY.put_comm _ ae undef k,<-cY.put_defers];exact h
   case enter f args=>refine cx.mono h λe F l=>?_;cases e with| returned u=>exact ⟨eD a j u,by rw [<-cY.put_comm a ae u k];exact l⟩| panicked c=>exact s _ _ _ l| outgrown=>exact l
   case row row args=>exact Rows.mono h λu F l=>⟨eD a j u,by rw [<-cY.put_comm a ae u k];exact l⟩| halt x m=>cases x<;>simp only [cg.upon] at h ⊢;case panic u=>exact s _ _ _ h
 ·rename_i p;simp only [p] at h;exact ⟨eD a j _,by rw [<-cY.put_comm a ae undef k];exact h⟩
def Na (hi:ops[bE]? = aa e6) (t:∀(j:Z) (o:cg) cs b,ops[j]? = aa o->o.op≠.select cs b) (A:∀c a w,Q (.panic c) (a.put e6.dst ae) w->Q (.panic c) a w) : ∀(fuel:Z) (d:bH aS) (a:cY) (w:aP), (∀j g,ops[j]? = aa g->j≠bE->d.getD j ad=aq->(∀e ∈ g.after,rY md e=ad->e.on≠bE)->e6.apart ops g=ad)-> bE ∈ ld md ops d->YV P ops C e6 ae a->C w-> wT P md ops C Q fuel (d.setIfInBounds bE ad) (a.put e6.dst ae) w->wT P md ops C Q (fuel+1) d a w:=by
 intro fuel;induction fuel with
 | zero=>
  intro d a w _ i n hC m;refine ⟨hC,λh=>(by rw [h] at i;cases i),λj p=>?_⟩;by_cases f:j=bE;·subst f;exact n.wpOp hi hC m
  ·have:=ready_mono p f;rw [m.2.1] at this;cases this
 | succ fuel B=>
  intro d a w u i n hC m;refine ⟨hC,λh=>(by rw [h] at i;cases i),λj p=>?_⟩;by_cases f:j=bE;·subst f;exact n.wpOp hi hC m
  ·have l:=m.2.2 j<|ready_mono p f;obtain ⟨v,g,q,D⟩:=mem_ready.1 p;have E:∀e ∈ g.after,rY md e=ad->e.on≠bE:=λe F G H=>by
    have l:=D e F G;have x:=(mem_ready.1 i).1;rw [H] at l;rcases m2 bE d.size with r | r;·simp [r] at x l;rw [x] at l;cases l
    ·simp [zN r] at l
   have J:=M_ q (u j g q f v E) (λcs b=>t bE e6 cs b hi) (λcs b=>t j g cs b q) A n l;have K:∀k ok,ops[k]? = aa ok->k≠bE->(d.setIfInBounds j ad).getD k ad=aq-> (∀e ∈ ok.after,rY md e=ad->e.on≠bE)->e6.apart ops ok=ad:=λk ok L M y N=>by
    refine u k ok L M ?_ N;by_cases z:j=k;·subst z;exact v
    ·rw [getD_set_ne ad z] at y;exact y
   refine wpOp_mono (λO R s=>B (d.setIfInBounds j ad) O R K (ready_mono i<|x_ f) s.1 s.2.c ?_) J;rw [HU _ _ f];exact s.2
def qv (md:q7) (ops:bH cg):I (Z×aS)->bH aS->aS| [],listed=>(ld md ops listed).isEmpty| (i,q)::r,listed=>(bif q then (ld md ops listed).contains i&&Region.free md ops listed i else ld md ops listed==[i])&&qv md ops r (listed.setIfInBounds i ad)
def qw (P:dJ) (ops:bH cg) (C:aP->Prop) (Q:di->cY->aP->Prop):I (Z×aS)->cY->aP->Prop| [],a,w=>C w/\Q .normal a w| (i,ad)::r,a,w=>C w/\∃o v,ops[i]? = aa o/\YV P ops C o v a/\qw P ops C Q r (a.put o.dst v) w| (i,aq)::r,a,w=>C w/\wpOp P ops Q i (qw P ops C Q r) a w
def Iq (f:q8 ops=ad) (g:∀c a w d v,Q (.panic c) (a.put d v) w->Q (.panic c) a w):∀(ord:I<|Z×aS) (e:bH aS) (a:cY) (w:aP), qv md ops ord e=ad->qw P ops C Q ord a w->wT P md ops C Q ord.length e a w| [],e,a,w,b,h=>⟨h.1,by simpa [qv] using b,h.2⟩| (i,ad)::r,e,a,w,b,h=>by simp only [qv,wO,eI] at b;obtain ⟨hC,o,v,l,m,h⟩:=h;exact Na l (Region.noSelect_spec f) (λc a w=>g c a w o.dst v) r.length e a w (Region.free_spec l b.1.2) (by simpa using b.1.1) m hC<|Iq f g r _ _ _ b.2 h| (i,aq)::r,e,a,w,b,h=>by simp only [qv,tz,eI,j8] at b;refine ⟨h.1,λn=>(by rw [n] at b;cases b.1),λj k=>?_⟩;rw [b.1] at k;simp at k;subst k;exact wpOp_mono (λq s p=>Iq f g r _ _ _ b.2 p) h.2
variable {aH:I cg}
def Vy {a:cY} {w:aP}  (ord:I<|Z×aS) (e:P.follows .mixedOrders=ad) (b:(q8 aH.toArray&&(ord.length==aH.toArray.size&&qv .any aH.toArray ord (vk aH.toArray.size aq)))=ad) (f:∀c a w d v,Q (.panic c) (a.put d v) w->Q (.panic c) a w) (h:qw P aH.toArray C Q ord a w.drew):(Code.region bE aH.toArray ad).wp P Q a w:=by simp only [eI,j8] at b;have:=Ip (md:=.any) _ _ _ _<|Iq b.1 f ord _ a w.drew b.2.2 h;rw [b.2.1] at this;exact wp_region_any e this
variable {n:Z} {ds:I fw} {l:I<|Z×aR} {W:aP->Prop}
def WD (P:dJ) (ops:bH cg) (C:aP->Prop) (Q:di->cY->aP->Prop) (n:Z) (ds:I fw) (l:I<|Z×aR) (W:aP->Prop) (ord:I<|Z×aS):Prop:= ∀a w,Ag n ds l a->W w->qw P ops C Q ord a w
def WC.Nb (C:aP->Prop) (ord:I<|Z×aS) (b:P.follows .mixedOrders=ad) (e:(q8 aH.toArray&&(ord.length==aH.toArray.size&&qv .any aH.toArray ord (vk aH.toArray.size aq)))=ad) (f:∀c a w d v,Q (.panic c) (a.put d v) w->Q (.panic c) a w) (g:∀w,W w->W w.drew) (h:WD P aH.toArray C Q n ds l W ord):WC P (.region bE aH.toArray ad) Q n ds l W:= λa w i j=>Vy ord b e f<|h a w.drew i<|g w j
variable {iR:I<|Z×aS} {cL:Op} {gS:fO} {hy:bH fY}
def Dq {g:aA<|Z×aS}  (hi:ops[bE]? = aa ⟨aa aL,cL,bx,gS,hy,g⟩) (d:eS ops l g) (e:e' aL n=ad) (hC:∀w,W w->C w) (f:Yl P l C ⟨aa aL,cL,bx,gS,hy,g⟩ ae) (h:WD P ops C Q n ds ((aL,ae)::l) W iR):WD P ops C Q n ds l W<|(bE,ad)::iR:=by intro a w b c;refine ⟨hC w c,_,ae,hi,bB ⟨eS.wanted (o:=⟨aa aL,cL,bx,gS,hy,g⟩) d b,λi j=>f a.eval i (λx u k=>b.eval k) j⟩,h _ _ (b.put e ae) c⟩
def D0 (hi:ops[bE]? = aa ⟨aa aL,cL,bx,gS,hy,ao⟩) (hC:∀w,W w->C w) (a:Yl P l C ⟨aa aL,cL,bx,gS,hy,ao⟩ ae) (h:WD P ops C Q n ds ((aL,ae)::l) W iR) (b:e' aL n=ad:=by rfl):WD P ops C Q n ds l W<|(bE,ad)::iR:=Dq hi (bB rfl) b hC a h
def De (hi:ops[bE]? = aa e6) (hC:∀w,W w->C w) (h:WL P ops (di.then (qw P ops C Q iR) Q) n ds l W [e6]):WD P ops C Q n ds l W<|(bE,aq)::iR:=by
 intro a w f d;refine ⟨hC w d,?_⟩;have:=h a w f d;unfold wpList at this;unfold wpOp;simp only [hi];split
 ·rename_i c;rw [aD c] at this;rcases this with this | ⟨g,a2,i,j⟩;·left;unfold kt at this ⊢;unfold cg.upon at this ⊢;split at this;all_goals first|exact this|(refine this.mono λe k b=>?_;cases e with| returned v=>exact b| panicked p=>exact b| outgrown=>obtain ⟨a3,m,o⟩:=b;exact ⟨a3,m,o⟩)|exact this.mono λv k b=>b
  ·exact be ⟨g,a2,i,j⟩
 ·rename_i c;rw [aj c] at this;exact this
def Ed (h:WD P ops C Q n ds l W iR):WE (di.then (qw P ops C Q iR) Q) .normal n ds l W:=h
def WD.nil (hC:∀w,W w->C w) (h:WE Q .normal n ds l W):WD P ops C Q n ds l W []:=λa w c b=>⟨hC w b,h a w c b⟩
def Ws.drew (h:Ws cm cS dG fh eU):Ws cm cS dG fh eU.drew:=h.ext<|Ext.drew eU
def Ws.out (i:Z) (h:Ws cm cS dG fh eU):Ws cm cS (gk i dG) fh eU:=by
 cases a:dG[i]? with
 | none=>
  have:gk i dG=dG:=by clear h;induction dG generalizing i with| nil=>cases i<;>rfl| cons x r b=>cases i with| zero=>simp at a| succ i=>simp only [gk];rw [b i (by simpa using a)]
  rw [this];exact h| some x=>exact Ws.drop (L:=[x])<|h.perm<|pJ i dG a
end
section
variable {P:dJ} {ops:bH cg} {Q:di->cY->aP->Prop} {n:Z} {ds:I fw} {l l':I<|Z×aR} {W:aP->Prop} {w0:aP} {F:I Z} {L:I bh} {Vs:I View} {rest:I cg} {d:Z} {ty:cn} {pos:fO} {af:bH fY} {g:aA<|Z×aS}
def wU (z:aR) (k:Z):I aR:=(lf k).map λi=>((bm z)[i % (bm z).length]?).getD undef
def Vz (z:aR) (k:Z) (a:0<z.cells.size):((bH.range k).map (z.cells[· % z.cells.size]!):bH aR).toList=wU z k:=by
 simp only [bH.toList_map,bH.toList_range,wU];apply ya;intro i _;have b:i % z.cells.size<z.cells.size:=HV _ a;have e:(bm z).length=z.cells.size:=by rw [<-wQ];simp
 rw [e,<-wQ];simp [b]
def WL.Ca {t e:TypeId} {len size p:Nat} {parts:List<|Nat×Operand}  {vs:List<|Nat×Value} {out:List Value} (q:eS ops l g) (r:Nat.blt d n=true) (a:ii P t e ae size p) (hv:vx l parts=some vs) (s:Nat.ble (len*size) 16777216=true) (j:ue (λi=>some (i*size,size)) (bif Nat.beq (len*size) 0 then [] else wU ae (len*size)) vs=some out) (h:∀b,WL P ops Q n ds ((d,.slice (some ⟨b,0,none⟩) len len)::l) (Ws w0 F (aQ b (.cells out.toArray e (0,0))::L) Vs) rest) : WL P ops Q n ds l (Ws w0 F L Vs)<|⟨some d,.buildSlice t len parts.toArray,ty,pos,af,g⟩::rest:=by
 obtain ⟨C,hi,u,v,D⟩:=a.info;have E:=s9 s;refine WL.new (mk:=λb=>.slice (some ⟨b,0,none⟩) len len) q r (λy w z G=>?_) h;have k:(parts.toArray.map λ (i,x)=>(i,y x):Array (Nat×Value)).toList=vs:=by simpa using EW z parts vs hv
 have A:zeroOf P e=some ae:=by simp [zeroOf,hi,u]
 have m:e2 P e=some size:=by simp [e2,hi,v]
 have o:¬len*size > 2 ^ 24:=ai;by_cases c:len*size=0
 ·have f:Instr.fill (λi=>some (i*size,size)) #[] vs=some out.toArray:=by refine B7 _ vs #[] out ?_;simpa [c] using j
  simp only [execOp,Instr.buildSlice,Sem.run_bind,run_underlying a.under,Result.andThen_ok,EU m,aj o,Sem.run_pure,aD c,k];simp [c,f,newRow,Array.range_zero']
 ·have f:Instr.fill (λi=>some (i*size,size)) ((Array.range<|len*size).map (ae.cells[· % ae.cells.size]!)) vs=some out.toArray:=by
   refine B7 _ vs _ out ?_;rw [Vz ae _ (by rw [a.zs];exact a.pos)];have:Nat.beq (len*size) 0=false:=by cases B:Nat.beq (len*size) 0 with| false=>rfl| true=>exact absurd (o0 B) c
   simpa [this] using j
  simp only [execOp,Instr.buildSlice,Sem.run_bind,run_underlying a.under,Result.andThen_ok,EU m,aj o,Sem.run_pure,aj c,k,yn A,f];simp [newRow]
variable {eK:FuncId} {bo:ei} {z9:bH aR} {hc:bH ei}
def Nc {a:ei->aR} {dst:aA Tmp}     {ts:bH cn}  {w:aP} (c:Enters P eK) (b:∀x u,b9 l x=aa u->a x=u) (d:b9 l bo=aa (.func (.func eK) #[] z9)) (f:h' l hc.toList=aa ea) : (execOp a ⟨dst,.call ⟨.value bo,hc,ts⟩,ty,pos,af,g⟩).run P w = .ok (.enter eK<|ea.toArray++z9) w:=by
 have e:hc.map a=ea.toArray:=by apply wJ;simpa using EX b _ _ f
 simp only [execOp,resolve,e,b bo _ d,fw.ofValue,j7,lG,jc,invoke];simpa using c _ w
variable {jU:bH cn}
def WL.VA {ι:Type}       (k:eS ops l g) (m:e' d n=ad) (o:Enters P eK) (p:b9 l bo=aa (.func (.func eK) #[] z9)) (q:h' l hc.toList=aa ea) (v:ι->aR) (R:ι->aP->Prop) (j:I oZ->aP->Prop) (hC:∀w,W w->cx P eK (ea.toArray++z9) w λe c=>(∃i,e = cf (v i)/\R i c)\/∃b,e = .panicked b/\j b c) (r:∀i,WL P ops Q n ds ((d,v i)::l) (R i) rest) (s:∀b,WE Q (.panic b) n ds l (j b)) : WL P ops Q n ds l W<|⟨aa d,.call ⟨.value bo,hc,jU⟩,ty,pos,af,g⟩::rest:=by
 refine WL.step k λa w f t C y=>?_;have z:=Nc (P:=P) (dst:=aa d) (ts:=jU) (ty:=ty) (pos:=pos) (af:=af) (g:=g) (w:=w) o (λx u A=>f.eval A) p q;simp only [kt,z,cg.upon_enter];refine (hC w t).mono λe c B=>?_;rcases B with ⟨i,rfl,h⟩ | ⟨b,rfl,h⟩;·exact y _ _<|r i _ _ (f.put m _) h
 ·exact s b _ _ f h
def WL.vy (i:eS ops l g) (j:e' d n=ad) (k:Enters P eK) (m:b9 l bo=aa (.func (.func eK) #[] z9)) (o:h' l hc.toList=aa ea) (hC:∀w,Ws w0 F L Vs w->cx P eK (ea.toArray++z9) w λe b=>e = cf ae/\Ext w b) (p:WL P ops Q n ds ((d,ae)::l) (Ws w0 F L Vs) rest) : WL P ops Q n ds l (Ws w0 F L Vs)<|⟨aa d,.call ⟨.value bo,hc,jU⟩,ty,pos,af,g⟩::rest:=by refine WL.step i λa w c f v q=>?_;have r:=Nc (P:=P) (dst:=aa d) (ts:=jU) (ty:=ty) (pos:=pos) (af:=af) (g:=g) (w:=w) k (λx u s=>c.eval s) m o;simp only [kt,r,cg.upon_enter];refine (hC w f).mono λe b t=>?_;obtain ⟨rfl,h⟩:=t;exact q _ _<|p _ _ (c.put j _)<|f.ext h
variable {gc:Func} {hz:Ending->aP->Prop}
def WE.Nd {a b o k:Z}   (i:Z) (g:gc.results = #[.cell a bx]) (m:lk l a=aa (b8<|aa ⟨b,o,ao⟩)) (hL:L[i]? = aa (aQ b a9)) (p:i2 P bx=aa k) (q:(cellsIn a9 o k).length=k) (h:∀w,Ws w0 F L Vs w->hz (cf<|b0 (cellsIn a9 o k).toArray) w):WE (bodyPost P gc hz) .ret n [] l<|Ws w0 F L Vs:=by
 intro t w d e;have r:(loadVar bx ⟨b,o,ao⟩).run P w = .ok (b0 (cellsIn a9 o k).toArray) w:=EO p q λj v c=>by
  have s:w.heap[b]? = aa a9:=e.kn _<|gd hL;refine cell_of_heap s ?_;cases a9<;>simp [cellsIn,cz] at *;rw [jF] at c;split at c;·simpa using c
  ·cases c
 refine bodyPost_ret (v:=b0 (cellsIn a9 o k).toArray) ?_ d.defs<|h w e;have f:=d.jT a _ m;rw [lI] at f;simp [results,g,f,asAddr,r]
def WE.uh {a b o k u:Z}    (i:Z) (m:gc.results = #[.cell a bx,.tmp u]) (p:lk l a=aa (b8<|aa ⟨b,o,ao⟩)) (q:lk l u=aa ae) (hL:L[i]? = aa (aQ b a9)) (r:i2 P bx=aa k) (s:(cellsIn a9 o k).length=k) (h:∀w,Ws w0 F L Vs w->hz (cf<|cO #[b0 (cellsIn a9 o k).toArray,ae]) w):WE (bodyPost P gc hz) .ret n [] l<|Ws w0 F L Vs:=by
 intro y w d e;have t:(loadVar bx ⟨b,o,ao⟩).run P w = .ok (b0 (cellsIn a9 o k).toArray) w:=EO r s λj v c=>by
  have x:w.heap[b]? = aa a9:=e.kn _<|gd hL;refine cell_of_heap x ?_;cases a9<;>simp [cellsIn,cz] at *;rw [jF] at c;split at c;·simpa using c
  ·cases c
 refine bodyPost_ret (v:=cO #[b0 (cellsIn a9 o k).toArray,ae]) ?_ d.defs<|h w e;have f:=d.jT a _ p;have g:=d.jT u _ q;rw [lI] at f g;simp [results,m,f,g,asAddr,t]
end
def Ws.Ir (h:Ws cm [] dG fh eU) (i:Z)   (hL:dG[i]? = aa (aQ bE a9))   (b:cz a9 aL=aa ae) (c:yj a9=ad:=by rfl):vc (nv cm eU) bE aL=aa ae:=by have d:eU.heap[bE]? = aa a9:=h.kn _<|gd hL;have a:=h.own _ (gd hL) bE (by simp [aQ]);simp at a;unfold vc;rw [yk.2 ⟨a,d,c⟩];exact b
def Ws.Nf (h:Ws cm [] dG fh eU) (i:Z)     (hL:dG[i]? = aa (eV bx bE ae aL ea)) : (ae = aE ao 0 0/\ea=[])\/∃b c,ae = aE (aa ⟨b,0,ao⟩) aL c/\aL<=c/\c<=maxLen/\∀j u,ea[j]? = aa u->vc (nv cm eU) b j=aa u:=by
 obtain ⟨e,f⟩:=(h.kn _<|gd hL:eU.ownsRow 0 bx bE ae aL ea);rcases f with ⟨rfl,rfl⟩ | ⟨b,cap,cur,rfl,_,g,k,l,n,m⟩;·exact bB ⟨O,by cases ea;rfl;simp at e⟩
 ·refine be ⟨b,cap,O,k,l,λj u a=>?_⟩;have d:=h.own _ (gd hL) b (by simp [eV,l8]);simp at d;unfold vc;rw [yk.2 ⟨d,g,rfl⟩];rw [<-m,jF] at a;split at a;·simpa [cz] using a
  ·cases a
def E1 (f:aB->aR) (l:I aB) (T:cn) (k:Z) (h:k<l.length):ra (aY (l.map f).toArray T (0,0)) (0+k*1) 1=ad:=by simp only [ra,BU,HW];exact sk (by simp;omega)
def E2 (f:aB->aR) (l:I aB) (T:cn) (k:Z) (x:aB) (h:k<l.length):mD (aY (l.map f).toArray T (0,0)) (0+k*1) [f x] = aY ((l.set k x).map f).toArray T (0,0):=by simp only [mD,lJ,vo,zP,I.set_eq_take_append_cons_drop,aD h];simp
variable {ej:aB->I aR}
def ui (a:∀x,(ej x).length=bE):∀l:I aB,(l.flatMap ej).length=l.length*bE| []=>by simp| x::r=>by simp [a,ui a r,wK];omega
def E3 (a:∀x,(ej x).length=bE):∀(l:I aB) (i:Z) (x:aB),l[i]? = aa x-> l.flatMap ej=(l.take i).flatMap ej++ej x++(l.drop<|i+1).flatMap ej| [],i,x,h=>by simp at h| y::r,0,x,h=>by simp at h;simp [h]| y::r,i+1,x,h=>by have:=E3 a r i x (by simpa using h);simp only [lK,qq,I.drop_succ_cons];rw [this];simp
def pM (a:∀x,(ej x).length=bE)   {x:aB} (h:cv[aL]? = aa x) {j:Z} (b:j<bE):(cv.flatMap ej)[aL*bE+j]? = (ej x)[j]?:=by
 have hi:=(cN.1 h).1;have c:((cv.take aL).flatMap ej).length=aL*bE:=by rw [ui a,m3,vn ai]
 rw [E3 a cv aL x h,g2,pH ai,c,zQ,q9 (by rw [a];exact b)]
def Is (a:∀x,(ej x).length=bE)   {x y:aB} (h:cv[aL]? = aa x) {j:Z} {vs:I aR} (n:j+vs.length<=bE) (d:ej y=(ej x).take j++vs++(ej x).drop (j+vs.length)) : (cv.flatMap ej).take (aL*bE+j)++vs++(cv.flatMap ej).drop (aL*bE+j+vs.length)=(cv.set aL y).flatMap ej:=by
 have hi:=(cN.1 h).1;have c:((cv.take aL).flatMap ej).length=aL*bE:=by rw [ui a,m3,vn ai]
 have e:(cv.set aL y)[aL]? = aa y:=by simp [hi]
 rw [E3 a (cv.set aL y) aL y e,E3 a cv aL x h,d];have f:(cv.set aL y).take aL=cv.take aL:=I.take_set_of_le<|c7 aL;have g:(cv.set aL y).drop (aL+1)=cv.drop (aL+1):=I.drop_set_of_lt ai;rw [f,g];generalize o:(cv.take aL).flatMap ej=b at *;generalize p:(cv.drop<|aL+1).flatMap ej=B at *;have i:(b++ej x++B).take (aL*bE+j)=b++(ej x).take j:=by rw [g2,HX,c,mz ai,zQ,HY (by rw [a];omega)]
 have k:(b++ej x++B).drop (aL*bE+j+vs.length)=(ej x).drop (j+vs.length)++B:=by rw [g2,HZ,c,Mw ai,t_,HZ,a];have l:aL*bE+j+vs.length-aL*bE=j+vs.length:=ai;rw [l];have m:j+vs.length-bE=0:=ai;simp [m]
 rw [i,k];simp
section
variable {P:dJ} {ops:bH cg} {Q:di->cY->aP->Prop} {n:Z} {ds:I fw} {l l':I<|Z×aR} {W:aP->Prop} {w0:aP} {F:I Z} {L:I bh} {Vs:I View} {rest:I cg} {d:Z} {ty:cn} {pos:fO} {af:bH fY} {g:aA<|Z×aS}
def It {size m c b:Z}  {w:aP} (h:(eV bx size (aE (aa ⟨b,0,ao⟩) m c) m ea).holds w):∃cur,w.heap[b]? = aa (aY cur bx (0,0))/\cur.toList.take (m*size)=ea/\cur.size=c*size/\m<=c/\ea.length=m*size:=by
 obtain ⟨e,d⟩:=(h:w.ownsRow 0 bx size _ m ea);rcases d with ⟨d,_⟩ | ⟨l,cap,cur,hv,_,f,g,n,i,j⟩;·cases d
 ·injection hv with a _ k;injection a with a;injection a with a;subst a;subst k;exact ⟨cur,f,j,i,g,e⟩
def z' {x:ei} {b o m c size:Z} {e:cn}   {d:aA Tmp} (i:Z) (f:b9 l x=aa (b8<|aa ⟨b,o,ao⟩)) (hL:L[i]? = aa (eV e size (aE (aa ⟨b,0,ao⟩) m c) m ea)) (h:fJ P bx=ad) (a:ea[o]? = aa ae) : Yl P l (Ws w0 F L Vs) ⟨d,.load bx x,ty,pos,af,g⟩ ae:=B6 h f λw j=>by
 obtain ⟨cur,k,n,_⟩:=It<|j.kn _<|gd hL;refine cell_of_heap k ?_;rw [<-n,jF] at a;split at a;·exact a
 ·cases a
def WL.Iu {t e:cn} {x y:ei} {b o k m c size:Z}   (i:Z) (f:I aR) (B:eS ops l g) (C:b9 l x=aa (b8<|aa ⟨b,o,ao⟩)) (D:b9 l y=aa ae) (hL:L[i]? = aa (eV e size (aE (aa ⟨b,0,ao⟩) m c) m ea)) (s:e2 P t=aa k) (E:(bm ae).length=k) (G:(bm ae).all (·.oneCell')=ad) (H:o+k<=ea.length) (u:ea.take o++bm ae++ea.drop (o+(bm ae).length)=f) (h:WL P ops Q n ds l (Ws w0 F (L.set i<|eV e size (aE (aa ⟨b,0,ao⟩) m c) m f) Vs) rest) : WL P ops Q n ds l (Ws w0 F L Vs)<|⟨ao,.store t x y,ty,pos,af,g⟩::rest:=by
 refine WL.step B λa w p q X J=>?_;obtain ⟨cur,v,K,z,d,A⟩:=It<|q.kn _<|gd hL;have Y:ea.length<=cur.size:=by rw [A,z];exact x9 _ d
 have M:ra (aY cur e (0,0)) o k=ad:=by simp only [ra,BU,HW];exact sk (by simp;omega)
 have N:(execOp a.eval ⟨ao,.store t x y,ty,pos,af,g⟩).run P w = .ok .skip { w with heap:=w.heap.setIfInBounds b<|mD (aY cur e (0,0)) o<|bm ae }:=by simp only [execOp,p.eval C,p.eval D,Instr.storeAt,Instr.sureAddr,j7,lG,jc,Im s E G v M]
 simp only [kt,N,cg.upon_skip];refine J _ _<|h _ _ (p.z0 undef) ?_;refine Ws.vv q i hL ⟨O,O,O,aK,λj R S=>?_⟩ ?_ (by simp [eV,l8]) (by simp [eV,l8]);·have:b≠j:=λe=>S (by simp [eV,l8,e]);simp [vl this]
 ·obtain ⟨_,r⟩:=(q.kn _<|gd hL:w.ownsRow 0 e size _ m ea);have T:c<=maxLen:=by
   rcases r with ⟨r,_⟩ | ⟨ab,cap,ag,hv,_,H,d,U,s,ah⟩;·cases r
   ·injection hv with _ _ V;rw [V];exact U
  have W:f.length=ea.length:=by rw [<-u];simp;omega
  refine ⟨by rw [W,A],be ⟨b,c,(cur.toList.take o++bm ae++cur.toList.drop (o+(bm ae).length)).toArray,O,dw _,?_,d,T,?_,?_⟩⟩;·show (w.heap.setIfInBounds b _)[b]? = _;simp [lt_of_heap v,mD]
  ·simp;omega
  ·have ak:o+(bm ae).length<=m*size:=ai;rw [<-u,<-K];apply r0;intro j;have al:cur.toList.length=c*size:=by simpa using z
   have ap:m*size<=c*size:=x9 _ d;simp only [jF,Mx,iy,m3,H0];rw [vn (a:=m*size) ai,vn (a:=o) (b:=cur.toList.length) ai,vn (a:=o) (b:=m*size) ai];split
   ·split
    ·split;·rfl
     ·rfl
    ·rw [aD ai]
   ·rename_i R;rw [aj ai,aj ai]
def WL.VB {f:FuncId} {args:bH ei} {ts:bH cn}    {xs:I aR} (z:eS ops l g) (A:e' d n=ad) (B:Enters P f) (C:h' l args.toList=aa ea) (hC:∀w,Ws w0 F L Vs w->cx P f ea.toArray w λq i=>∃v,q = cf v/\Ext w i/\i.ownsRow w.heap.size bx bE v aL xs) (D:∀v,(v = aE ao 0 0/\aL=0\/∃b c,v = aE (aa ⟨b,0,ao⟩) aL c/\aL<=c/\c<=maxLen)->WL P ops Q n ds ((d,v)::l) (Ws w0 F (eV bx bE v aL xs::L) Vs) rest) : WL P ops Q n ds l (Ws w0 F L Vs)<|⟨aa d,.call ⟨.value<|.func f,args,ts⟩,ty,pos,af,g⟩::rest:=by
 refine WL.step z λa w s t S E=>?_;have G:=EY (P:=P) (dst:=aa d) (ts:=ts) (ty:=ty) (pos:=pos) (af:=af) (g:=g) (w:=w) B (λx u o=>s.eval o) C;simp only [kt,G,cg.upon_enter];refine (hC w t).mono λq i H=>?_;obtain ⟨v,rfl,o,p⟩:=H;have J:i.ownsRow 0 bx bE v aL xs:=by
  obtain ⟨y,e⟩:=p;rcases e with e | ⟨j,cap,cur,hv,_,r⟩;·exact ⟨y,bB e⟩
  ·exact ⟨y,be ⟨j,cap,cur,hv,dw _,r⟩⟩
 refine E _ _<|D v ?_ _ _ (s.put A _) ?_
 ·obtain ⟨_,e⟩:=p;rcases e with ⟨e,K⟩ | ⟨j,cap,cur,hv,_,_,M,N,_⟩;·exact bB ⟨e,K⟩
  ·exact be ⟨j,cap,hv,M,N⟩
 ·have:=Ws.ym (L:=[]) (L':=[eV bx bE v aL xs]) (L2:=L) (by simpa using t) (by simpa using o) (by intro O h;simp at h;subst h;exact J) (by cases hv:v.ownBlock<;>simp [eV,hv]) (by
   intro O h k m;simp at h;subst h;simp only [eV,Mu] at m;obtain ⟨_,e⟩:=p;rcases e with ⟨e,_⟩ | ⟨j,cap,cur,hv,R,_⟩;·subst e;simp [l8] at m
   ·subst hv;simp [l8] at m;subst m;exact be R);simpa using this
def WL.z_ {b m cap:Z} {cur:bH aR}  {size:Z} (i:Z) (hL:L[i]? = aa (aQ b<|aY cur bx (0,0))) (a:m<=cap) (c:cap<=maxLen) (d:cur.size=cap*size) (h:WL P ops Q n ds l (Ws w0 F (L.set i<|eV bx size (aE (aa ⟨b,0,ao⟩) m cap) m<|cur.toList.take<|m*size) Vs) rest):WL P ops Q n ds l (Ws w0 F L Vs) rest:= LW (λ_ e=>e.M6 i hL a c d) h
def Ws.VC {c w:aP} {L:I bh} {Vs:I View} (h:Ws c [] L Vs w) (i:Z)     (hL:L[i]? = aa (eV bx bE ae aL ea)):w.ownsRow c.heap.size bx bE ae aL ea:=by
 obtain ⟨e,a⟩:=(h.kn _<|gd hL:w.ownsRow 0 bx bE ae aL ea);refine ⟨e,?_⟩;rcases a with a | ⟨b,cap,cur,rfl,_,r⟩;·exact bB a
 ·have d:=h.own _ (gd hL) b (by simp [eV,l8]);simp at d;exact be ⟨b,cap,cur,O,d,r⟩
end
section
variable {P:dJ} {l:I<|Z×aR} {W:aP->Prop} {d:aA Tmp} {ty:cn} {pos:fO} {af:bH fY} {g:aA<|Z×aS}
def E4 {t u:TypeId} {x:Operand} {a:Option Addr} {m c s:Nat} (b:g_ P t=some s) (i:b9 l x=some (.slice a m c)):Yl P l W ⟨d,.binOp .eql t x (.const<|.slice none 0 0) u,ty,pos,af,g⟩<|.bool a.isNone:=by
 intro j w h _;unfold g_ at b;cases f:P.underlying t with
 | none=>simp [f] at b
 | some k=>
  cases k<;>simp [f] at b;have n:j (.const<|.slice none 0 0) = .slice none 0 0:=h _ _ rfl;rename_i o;have e:(binOp .eql t (.slice a m c)<|.slice none 0 0).run P w = .ok (.bool a.isNone) w:=by simp only [binOp];simp [Op.equal,Op.maxDepth,Lib.run_equalIn_slice_nil w 9999 t o a m c 0 0 f]
  simp only [execOp,h x _ i,n,eqGuard,Sem.run_bind];simp [e]
end
section
variable {P:dJ} {ops:bH cg} {Q:di->cY->aP->Prop} {n:Z} {ds:I fw} {l l':I<|Z×aR} {W:aP->Prop} {w0:aP} {F:I Z} {L:I bh} {Vs:I View} {rest:I cg} {d:Z} {ty:cn} {pos:fO} {af:bH fY} {g:aA<|Z×aS}
variable {nR:bh}
def Lf (i:Z) (hL:L[i]? = aa nR) (h:WL P ops Q n ds l (Ws w0 F (nR::gk i L) Vs) rest):WL P ops Q n ds l (Ws w0 F L Vs) rest:= LW (λ_ a=>a.perm<|pJ i L hL) h
def WC.front {c:Code}  (i:Z) (hL:L[i]? = aa nR) (h:WC P c Q n ds l<|Ws w0 F (nR::gk i L) Vs):WC P c Q n ds l<|Ws w0 F L Vs:= pI (λ_ a=>a.perm<|pJ i L hL) h
def Ws.self {w:aP} {c L2:I bh} (h:Ws w0 F (c++L2) Vs w):Ws w (c.flatMap bh.ids) c Vs w:=by have nd:=h.nd;rw [r_,l9] at nd;exact ⟨Fr.refl _ _,λa b=>h.kn a (by simp [b]),nd.1,λa b k d=>bB<|nO.2 ⟨a,b,d⟩,h.vs,λe f a b=>h.off e f a (by simp [b])⟩
def Ws.back {w a:aP} {b c L2:I bh} {cI:I View} (h:Ws w0 F (b++L2) Vs w) (g:Ws w (b.flatMap bh.ids) c cI a):Ws w0 F (c++L2) Vs a:= Ws.ym h g.fr g.kn g.nd g.own
variable {eK:FuncId} {hc:bH ei} {jU:bH cn}
def Lw {ι:Type}     (c L2:I bh) (k:eS ops l g) (m:e' d n=ad) (o:Enters P eK) (p:h' l hc.toList=aa ea) (hL:L=c++L2) (v:ι->aR) (j:ι->I bh) (R:ι->Prop) (cI:I View) (q:∀r ∈ cI,r ∈ Vs) (hC:∀w,Ws w (c.flatMap bh.ids) c cI w->cx P eK ea.toArray w λe f=>∃i,e = cf (v i)/\R i/\Ws w (c.flatMap bh.ids) (j i) cI f) (s:∀i,R i->WL P ops Q n ds ((d,v i)::l) (Ws w0 F (j i++L2) Vs) rest) : WL P ops Q n ds l (Ws w0 F L Vs)<|⟨aa d,.call ⟨.value<|.func eK,hc,jU⟩,ty,pos,af,g⟩::rest:=by subst hL;refine WL.call k m o p v (λi f=>R i/\Ws w0 F (j i++L2) Vs f) (λw b=>(hC w<|b.self.aZ q).mono λe f ⟨i,t,u,h⟩=>⟨i,t,u,b.back h⟩) λi=>λa w x b=>s i b.1 a w x b.2
def uj (a L2 b:I bh) (f:eS ops l g) (h:e' d n=ad) (i:Enters P eK) (j:h' l hc.toList=aa ea) (hL:L=a++L2) (cI:I View) (k:∀m ∈ cI,m ∈ Vs) (hC:∀w,Ws w (a.flatMap bh.ids) a cI w->cx P eK ea.toArray w λe c=>e = cf (cO #[])/\Ws w (a.flatMap bh.ids) b cI c) (o:WL P ops Q n ds ((d,cO #[])::l) (Ws w0 F (b++L2) Vs) rest) : WL P ops Q n ds l (Ws w0 F L Vs)<|⟨aa d,.call ⟨.value<|.func eK,hc,jU⟩,ty,pos,af,g⟩::rest:= Lw (ι:=ef) a L2 f h i j hL (λ_=>cO #[]) (λ_=>b) (λ_=>True) cI k (λw p=>(hC w p).mono λe c ⟨q,r⟩=>⟨(),q,trivial,r⟩)<|λ_ _=>o
end
def hv (w:aP):View:=λb=>w.heap[b]?
def kZ (w:aP):Le (hv w) w:=λ_ _ h=>h
def mL (h:cm.heap[bE]? = aa a9) (a:cz a9 aL=aa ae):vc (hv cm) bE aL=aa ae:=by simp [vc,hv,h,a]
def o5 (h:Le bN cm):cX bN<|hv cm:=λb o a=>h b o a
def Ws.jH (h:Ws cm cS dG fh eU) (i:Z)   (hL:dG[i]? = aa (aQ bE a9))   (a:cz a9 aL=aa ae):vc (hv eU) bE aL=aa ae:= mL (h.kn _<|gd hL) a
def Ws.VD (h:Ws cm cS dG fh eU) (i:Z)  {size m c b:Z}  (hL:dG[i]? = aa (eV bx size (aE (aa ⟨b,0,ao⟩) m c) m ea))   (a:ea[bE]? = aa ae):vc (hv eU) b bE=aa ae:=by
 obtain ⟨cur,d,e,_⟩:=It<|h.kn _<|gd hL;refine mL d ?_;rw [<-e,jF] at a;split at a;·exact a
 ·cases a
section
variable {P:dJ} {ops:bH cg} {Q:di->cY->aP->Prop} {n:Z} {ds:I fw} {l l':I<|Z×aR} {W:aP->Prop} {w0:aP} {F:I Z} {L:I bh} {Vs:I View} {rest:I cg}
def eb {b:Z} {a:Obj} (i:Z) (d:Obj) (hL:L[i]? = aa (aQ b a)) (c:a=d) (h:WL P ops Q n ds l (Ws w0 F (L.set i<|aQ b d) Vs) rest):WL P ops Q n ds l (Ws w0 F L Vs) rest:=by
 subst c;have:L.set i (aQ b a)=L:=by obtain ⟨hi,c⟩:=cN.1 hL;rw [<-c];exact BV hi
 rwa [this] at h
end
def VE (v:aR) (hv:v.cells = #[v]) (k:Z):madeCells v.cells (((k:Z):ac).toNat*1)=(gb k v).toArray:=by rw [ku];exact M9 v hv k
def Ws.VF (h:Ws cm [] dG fh eU) (i:Z) {b:Z} {f:aB->aR}   (hL:dG[i]? = aa (aQ b<|aY (cv.map f).toArray bx (0,0))) (d:∀c b o x,vc c b o=aa (f x)->o3 c b o x) {a:I aB}  (e:a.length<=bE) (g:bE<=9223372036854775807) (k:∀(j:Z) (x:aB),a[j]? = aa x->cv[j]? = aa x):Sl o3 1 (nv cm eU) (aa ⟨b,0,ao⟩) bE a:= ⟨e,g,aK,λj x l=>⟨b,0,rfl,d _ _ _ _<|h.Ir i hL (by simp [cz,k j x l])⟩⟩
section
variable {P:dJ} {l:I<|Z×aR} {W:aP->Prop} {d:aA Tmp} {ty:cn} {pos:fO} {af:bH fY} {g:aA<|Z×aS}
variable {eY:cn} {bo ck:ei} {fy:IntKind} {az b':ac}
def Ng (b:b9 l bo=aa (am fy az)) (c:b9 l ck=aa (am fy b')) (e:b'≠0):Yl P l W ⟨d,.binOp .quo bx bo ck eY,ty,pos,af,g⟩<|am fy<|fy.wrap<|az.tdiv b':= λf w a _=>by simp [execOp,a bo _ b,a ck _ c,eqGuard,binOp,Op.intDiv,e]
def Nh (b:b9 l bo=aa (am fy az)) (c:b9 l ck=aa (am fy b')) (e:b'≠0):Yl P l W ⟨d,.binOp .rem bx bo ck eY,ty,pos,af,g⟩<|am fy<|az.tmod b':= λf w a _=>by simp [execOp,a bo _ b,a ck _ c,eqGuard,binOp,Op.intDiv,e]
end
def Sl.flat {b o c:Z}   (h:Sl o3 bE bN (aa ⟨b,o,ao⟩) c cv) (a:∀x,(ej x).length=bE) (m:0<bE) (n:∀b o x,o3 bN b o x->cB bN b o (ej x)) : ∀j u,(cv.flatMap ej)[j]? = aa u->vc bN b (o+j)=aa u:=by
 intro j u d;have f:=(cN.1 d).1;rw [ui a] at f;have hi:j / bE<cv.length:=Z.div_lt_of_lt_mul (by rw [Z.mul_comm];exact f);have g:cv[j / bE]? = aa cv[j / bE]:=cy hi;have p:j % bE<bE:=HV _ m;have e:j / bE*bE+j % bE=j:=by rw [Z.mul_comm];exact Z.div_add_mod j bE
 have i:=pM a g p;rw [e,d] at i;obtain ⟨r,s,k,q⟩:=h.ct _ _ g;simp at k;obtain ⟨rfl,rfl⟩:=k;have l:=n _ _ _ q (j % bE) u i.symm;rw [vm,e] at l;exact l
def VG (w:aP) (base:Z) (e:cn) (size:Z):w.ownsRow base e size (aE ao 0 0) 0 []:=aP.ownsRow_nil _ _ _ _
def vz:I cg->Z->Z->I Z| [],_,_=>[]| o::r,i,m=>bif !m.testBit i&&o.after.toList.all (λe=>!Region.binds .any e||m.testBit e.on) then i::vz r (i+1) m else vz r (i+1) m
def E5 (a:cg) (ops:bH cg) (i:Z):I cg->Z->Z->aS| [],_,_=>ad| o::r,j,m=>(j==i||m.testBit j||(o.after.toList.any (λe=>rY .any e&&e.on==i)||a.apart ops o))&&E5 a ops i r (j+1) m
def Ni (os:I cg) (i m:Z):aS:=match os[i]? with| ao=>aq| aa a=>E5 a os.toArray i os 0 m
def wV (os:I cg):I (Z×aS)->Z->aS| [],m=>(vz os 0 m).isEmpty| (i,q)::r,m=>(bif q then (vz os 0 m).contains i&&Ni os i m else vz os 0 m==[i])&&wV os r (m||| 2 ^ i)
structure LM (n:Z) (listed:bH aS) (m:Z):Prop where
 size:listed.size=n
 bit:∀j,listed.getD j aq=m.testBit j
variable {ka:bH aS} {dl:Z}
def LM.t (h:LM bE ka aL)  (a:dl<bE):ka.getD dl ad=aL.testBit dl:=by
 rw [<-h.bit dl];have:dl<ka.size:=by rw [h.size];exact a
 simp [bH.getD,this]
def LM.set (h:LM bE ka aL) (hi:dl<bE):LM bE (ka.setIfInBounds dl ad)<|aL||| 2 ^ dl:=by
 refine ⟨by simp [h.size],λj=>?_⟩;rw [Z.testBit_or,Z.testBit_two_pow,<-h.bit j];have b:dl<ka.size:=by rw [h.size];exact hi
 by_cases e:dl=j;·subst e;simp [bH.getD,b]
 ·by_cases a:j<ka.size;·simp [bH.getD,a,e]
  ·simp [bH.getD,a,e]
def Nj (ops:bH cg) {a:bH aS} {m:Z} (h:LM ops.size a m):∀(os:I cg) (i:Z),i+os.length=ops.size->(∀j o,os[j]? = aa o->ops[i+j]? = aa o)->
   vz os i m=((lf os.length).map (i + ·)).filter λk=>!a.getD k ad&&((ops[k]?).map (·.after.all λe=>!Region.binds .any e||a.getD e.on aq)).getD aq
 | [],_,_,_=>by simp [vz]
 | o::r,i,b,c=>by
  have d:=c 0 o rfl;rw [wI] at d;have f:=Nj ops h r (i+1) (by simp at b;omega) λj g l=>by rw [show i+1+j=i+(j+1) by omega];exact c (j+1) g (by simpa using l)
  have e:(lf (o::r).length).map (i + ·)=i::(lf r.length).map (i+1 + ·):=by rw [gj,I.range_succ_eq_map,nt,zR];congr 1;refine ya λk _=>?_;show i+(k+1)=i+1+k;omega
  have n:(!a.getD i ad&&((ops[i]?).map (·.after.all λe=>!Region.binds .any e||a.getD e.on aq)).getD aq)=(!m.testBit i&&o.after.toList.all (λe=>!Region.binds .any e||m.testBit e.on)):=by rw [h.t (by simp at b;omega),d,a5,o1,<-bH.all_toList];congr 2;funext e;rw [h.bit]
  rw [e,I.filter_cons,n,vz,f];cases (!m.testBit i&&o.after.toList.all (λe=>!Region.binds .any e||m.testBit e.on))<;>simp
variable {aH:I cg}
def Nk (h:LM aH.toArray.size ka bE):vz aH 0 bE=ld .any aH.toArray ka:=by rw [Nj aH.toArray h aH 0 aK λj o a=>by simpa using a];unfold ld;have:(lf aH.length).map (0 + ·)=lf aH.toArray.size:=aK;rw [this]
def Nl (ops:bH cg)   {d:cg} (h:LM ops.size ka bE):∀(os:I cg) (k:Z),k+os.length=ops.size->(∀j o,os[j]? = aa o->ops[k+j]? = aa o)->E5 d ops aL os k bE=ad->
   ∀j,k<=j->j<ops.size->(j==aL||ka.getD j ad||match ops[j]? with| aa f=>f.after.any (λe=>rY .any e&&e.on==aL)||d.apart ops f| ao=>ad)=ad
 | [],k,a,_,_,j,l,b=>by simp at a;omega
 | o::r,k,a,g,c,j,l,b=>by
  rw [E5,eI] at c;by_cases e:k=j;·subst e;have i:=g 0 o rfl;rw [wI] at i;rw [h.t b,i];have:=c.1;simpa using this
  ·exact Nl ops h r (k+1) (by simp at a;omega) (λj m n=>by rw [show k+1+j=k+(j+1) by omega];exact g (j+1) m (by simpa using n)) c.2 j ai b
def Nn:∀(ord:I<|Z×aS) (b:bH aS) (m:Z),LM aH.toArray.size b m->wV aH ord m=ad->qv .any aH.toArray ord b=ad
 | [],b,m,h,c=>by rw [wV,Nk h] at c;exact c
 | (i,q)::r,b,m,h,c=>by
  rw [wV,eI,Nk h] at c;obtain ⟨a,g⟩:=c;have hi:i<aH.toArray.size:=by
   have f:i ∈ ld .any aH.toArray b:=by cases q with| true=>simp only [wO,eI] at a;simpa using a.1| false=>simp only [tz,j8] at a;rw [a];simp
   unfold ld at f;exact yb.1 (I.mem_filter.1 f).1
  rw [qv,eI];refine ⟨?_,Nn r _ _ (h.set hi) g⟩;cases q with| false=>exact a| true=>simp only [wO,eI] at a ⊢;refine ⟨a.1,?_⟩;have d:=a.2;unfold Ni at d;have k:aH[i]? = aa aH[i]:=cy (by simpa using hi);rw [k] at d;unfold Region.free;rw [show aH.toArray[i]? = aa aH[i] by simp];simp only [gA,yb];exact λj e=>Nl aH.toArray h aH 0 aK (λj o e=>by simpa using e) d j (dw _) e
def VH (n:Z):LM n (vk n aq) 0:=⟨aK,λj=>by simp [bH.getD]⟩
def Iv {ord:I<|Z×aS} (h:(q8 aH.toArray&&(ord.length==aH.toArray.size&&wV aH ord 0))=ad):(q8 aH.toArray&&(ord.length==aH.toArray.size&&qv .any aH.toArray ord (vk aH.toArray.size aq)))=ad:=by simp only [eI] at h ⊢;exact ⟨h.1,h.2.1,Nn ord _ 0 (VH _) h.2.2⟩
section
variable {P:dJ} {Q:di->cY->aP->Prop} {n:Z} {ds:I fw} {l:I<|Z×aR}
def WC.o6 (ord:I<|Z×aS) (b:P.follows .mixedOrders=ad) (e:(q8 aH.toArray&&(ord.length==aH.toArray.size&&wV aH ord 0))=ad) (f:∀c a w d v,Q (.panic c) (a.put d v) w->Q (.panic c) a w) (h:WD P aH.toArray (Ws cm cS dG fh) Q n ds l (Ws cm cS dG fh) ord):WC P (.region bE aH.toArray ad) Q n ds l<|Ws cm cS dG fh:= WC.Nb _ ord b (Iv e) f (λ_ h=>h.drew) h
def WC.nS (i:Z) (ord:I<|Z×aS) (b:P.follows .mixedOrders=ad) (e:(q8 aH.toArray&&(ord.length==aH.toArray.size&&wV aH ord 0))=ad) (f:∀c a w d v,Q (.panic c) (a.put d v) w->Q (.panic c) a w) (h:WD P aH.toArray (Ws cm cS (gk i dG) fh) Q n ds l (Ws cm cS dG fh) ord):WC P (.region bE aH.toArray ad) Q n ds l<|Ws cm cS dG fh:= WC.Nb _ ord b (Iv e) f (λ_ h=>h.drew) h
end
section
variable {P:dJ} {l:I<|Z×aR} {W:aP->Prop} {d:aA Tmp} {ty:cn} {pos:fO} {af:bH fY} {g:aA<|Z×aS}
variable {eY:cn} {bo ck:ei} {az b':ac}
def o7 {a b:Z}  (c:b9 l bo=aa (am an az)) (e:b9 l ck=aa (am an b')) (f:az=(a:ac)) (h:b'=(b:ac)) (i:(a:ac)+b<=9223372036854775807):Yl P l W ⟨d,.binOp .add bx bo ck eY,ty,pos,af,g⟩<|am an ((a+b:Z):ac):=by subst f h;have:=pK (P:=P) (W:=W) (d:=d) (ty:=ty) (pos:=pos) (af:=af) (g:=g) (t:=bx) (u:=eY) c e ⟨ai,i⟩;rwa [show ((a+b:Z):ac)=(a:ac)+b by omega]
def No {a b:Z}  (c:b9 l bo=aa (am an az)) (e:b9 l ck=aa (am an b')) (f:az=(a:ac)) (h:b'=(b:ac)) (i:b<=a) (j:(a:ac)<=9223372036854775807):Yl P l W ⟨d,.binOp .sub bx bo ck eY,ty,pos,af,g⟩<|am an ((a-b:Z):ac):=by subst f h;have:=EQ (P:=P) (W:=W) (d:=d) (ty:=ty) (pos:=pos) (af:=af) (g:=g) (t:=bx) (u:=eY) c e ⟨ai,ai⟩;rwa [show ((a-b:Z):ac)=(a:ac)-b by omega]
def wW {f:FuncId} {a:bH ei} {vs:I aR} (b:h' l a.toList=aa vs):Yl P l W ⟨d,.makeFunc (.func f) #[] a,ty,pos,af,g⟩<|.func (.func f) #[] vs.toArray:=by
 intro c w h _;have e:a.map c=vs.toArray:=by apply wJ;simpa using EX h _ _ b
 simp [execOp,Instr.makeFunc,e]
end
section
variable {P:dJ} {ops:bH cg} {Q:di->cY->aP->Prop} {n:Z} {ds:I fw} {l:I<|Z×aR} {w0:aP} {F:I Z} {L:I bh} {Vs:I View} {rest:I cg}
def WL.m7 {e:cn} {size m:Z} {v:aR} {xs:I aR} (i m':Z) (a:I aR) (hL:L[i]? = aa (eV e size v m xs)) (b:m=m') (c:xs=a) (h:WL P ops Q n ds l (Ws w0 F (L.set i<|eV e size v m' a) Vs) rest):WL P ops Q n ds l (Ws w0 F L Vs) rest:=by
 subst b c;have:L.set i (eV e size v m xs)=L:=by obtain ⟨hi,d⟩:=cN.1 hL;rw [<-d];exact BV hi
 rwa [this] at h
end
def Ws.eD {L L':I bh}  (h:Ws cm cS (L++L') fh eU):Ws cm cS L fh eU:=Ws.drop<|h.perm I.perm_append_comm
def E6 (l:I ar):(ByteArray.mk l.toArray).size=l.length:=by show l.toArray.size=_;simp
section
variable {P:dJ} {l:I<|Z×aR} {W:aP->Prop} {w0:aP} {F:I Z} {L:I bh} {Vs:I View} {d:aA Tmp} {ty:cn} {pos:fO} {af:bH fY} {g:aA<|Z×aS}
def Iw {s t:TypeId} {k1 k k2:IntKind} {x:Operand} {n:Int} (a:P.underlying s=some (.int k1)) (b:P.underlying t=some (.int k2)) (c:b9 l x=some (.int k n)):Yl P l W ⟨d,.convert s t x,ty,pos,af,g⟩<|.int k2<|k2.wrap n:=by intro f w e _;simp [execOp,e x _ c,convert,run_underlying a,run_underlying b,Conv.intToInt]
end
def VI (h:Ws cm cS dG fh eU) (i:Z)  {c:bH aR}  {a:Z×Z} (hL:dG[i]? = aa (aQ bE<|aY c bx a)) {k:Z}  (b:c.toList[k]? = aa ae):eU.cell? ((⟨bE,0,ao⟩:a6).add k)=aa ae:=by rw [r3];exact cell_of_heap (h.kn _<|gd hL) (by simpa [cz] using b)
def bv (b:Z) (a:Obj):View:=λk=>if k=b then aa a else ao
def Ws.yp (h:Ws cm cS dG fh eU) (i:Z)   (hL:dG[i]? = aa (aQ bE a9)):Ws cm cS (gk i dG) (bv bE a9::fh) eU:=by
 have f:=h.perm<|pJ i dG hL;have c:Ws cm cS (gk i dG) fh eU:=Ws.drop (L:=[aQ bE a9]) f;have l:eU.heap[bE]? = aa a9:=h.kn _<|gd hL;have nd:=f.nd;rw [lK,l9] at nd;refine ⟨c.fr,c.kn,c.nd,c.own,?_,?_⟩
 ·intro d b;rcases eR.1 b with rfl | b
  ·intro k o a;unfold bv at a;split at a;·rename_i e;subst e;injection a with a;subst a;exact l
   ·cases a
  ·exact c.vs d b
 ·intro d b g j k a;rcases eR.1 b with rfl | b;·unfold bv;rw [aj];intro e;subst e;exact nd.2.2 k (by simp [aQ]) k (nO.2 ⟨g,j,a⟩) O
  ·exact c.off d b g j k a
section
variable {P:dJ} {ops:bH cg} {Q:di->cY->aP->Prop} {n:Z} {ds:I fw} {l:I<|Z×aR} {w0:aP} {F:I Z} {L:I bh} {Vs:I View} {rest:I cg}
def WL.yp {b:Z} {a:Obj} (i:Z) (hL:L[i]? = aa (aQ b a)) (h:WL P ops Q n ds l (Ws w0 F (gk i L)<|bv b a::Vs) rest):WL P ops Q n ds l (Ws w0 F L Vs) rest:= LW (λ_ c=>c.yp i hL) h
end
section
variable {P:dJ} {l:I<|Z×aR} {W:aP->Prop} {d:aA Tmp} {ty:cn} {pos:fO} {af:bH fY} {g:aA<|Z×aS}
variable {eY:cn} {bo ck:ei} {az b':ac}
def E7 (v:ac) (a:b9 l bo=aa (am an az)) (b:b9 l ck=aa (am an b')) (c:az+b'=v) (e : -9223372036854775808<=v/\v<=9223372036854775807):Yl P l W ⟨d,.binOp .add bx bo ck eY,ty,pos,af,g⟩<|am an v:=by subst c;exact pK a b e
def dC (v:ac) (a:b9 l bo=aa (am an az)) (b:b9 l ck=aa (am an b')) (c:az-b'=v) (e : -9223372036854775808<=v/\v<=9223372036854775807):Yl P l W ⟨d,.binOp .sub bx bo ck eY,ty,pos,af,g⟩<|am an v:=by subst c;exact EQ a b e
end
def E8 (size:Z):Z->I (Z×aR)->aS| _,[]=>ad| k,(i,v)::r=>ju i k&&ju (bm v).length size&&E8 size (k+1) r
def Aa:I (Z×aR)->I aR| []=>[]| (_,v)::r=>bm v++Aa r
def Np (size:Z):∀(vs:I<|Z×aR) (k:Z) (done rest:I aR),E8 size k vs=ad->done.length=k*size->rest.length=vs.length*size-> ue (λi=>aa (i*size,size)) (done++rest) vs=aa (done++Aa vs)
 | [],k,done,rest,_,_,a=>by have:rest=[]:=s' (by simpa using a);simp [ue,Aa,this]
 | (i,v)::r,k,done,rest,e,c,a=>by
  simp only [E8,eI] at e;obtain ⟨⟨d,b⟩,f⟩:=e;have d:=o0 d;subst d;have b:=o0 b;have l:size<=rest.length:=by rw [a,gj,wK];omega
  have g:(ju (bm v).length size&&Z.ble (i*size+size) (done++rest).length)=ad:=by rw [b,BU,yc];exact sk (by simp;omega)
  simp only [ue,g,wO];have h:(done++rest).take (i*size)=done:=by rw [<-c];simp
  have j:(done++rest).drop (i*size+size)=rest.drop size:=by rw [HZ,c,Mw ai];simp
  rw [h,j];have:=Np size r (i+1) (done++bm v) (rest.drop size) f (by simp [c,b,wK]) (by simp [a,wK]);rw [this];simp [Aa]
def VJ (z:aR) (k:Z):(wU z k).length=k:=by simp [wU]
section
variable {P:dJ} {ops:bH cg} {Q:di->cY->aP->Prop} {n:Z} {ds:I fw} {l:I<|Z×aR} {w0:aP} {F:I Z} {L:I bh} {Vs:I View} {rest:I cg} {d:Z} {ty:cn} {pos:fO} {af:bH fY} {g:aA<|Z×aS}
def Lb {t e:cn} {len size a:Z} {parts:I<|Z×ei} {z:aR} {vs:I<|Z×aR} (c:eS ops l g) (f:e' d n=ad) (i:ii P t e z size a) (hv:vx l parts=aa vs) (j:Z.ble (len*size) 16777216=ad) (k:E8 size 0 vs=ad) (m:vs.length=len) (h:∀b,WL P ops Q n ds ((d,aE (aa ⟨b,0,ao⟩) len len)::l) (Ws w0 F (aQ b (aY (Aa vs).toArray e (0,0))::L) Vs) rest) : WL P ops Q n ds l (Ws w0 F L Vs)<|⟨aa d,.buildSlice t len parts.toArray,ty,pos,af,g⟩::rest:=by
 refine WL.Ca c f i hv j (out:=Aa vs) ?_ h;have o:(bif ju (len*size) 0 then [] else wU z (len*size))=wU z (len*size):=by cases p:ju (len*size) 0 with| false=>rfl| true=>have:=o0 p;rw [this];rfl
 rw [o];have:=Np size vs 0 [] (wU z<|len*size) k aK (by rw [VJ,m]);simpa using this
end
inductive Ord where
 | nil
 | stop
 | q (i:Nat) (r:Ord)
 | e (i:Nat) (r alt:Ord)
def Ord.alts:Ord->I Z| .e i _ a=>i::a.alts| _=>[]
section
variable {P:dJ} {md:q7} {ops:bH cg} {C:aP->Prop} {Q:di->cY->aP->Prop}
def nC (P:dJ) (ops:bH cg) (C:aP->Prop) (Q:di->cY->aP->Prop):Ord->cY->aP->Prop| .nil,a,w=>C w/\Q .normal a w| .stop,_,_=>True| .q i r,a,w=>C w/\∃o v,ops[i]? = aa o/\YV P ops C o v a/\nC P ops C Q r (a.put o.dst v) w| .e i r alt,a,w=>C w/\(wpOp P ops Q i (nC P ops C Q r) a w/\nC P ops C Q alt a w)
variable {n:Z} {ds:I fw} {l:I<|Z×aR} {W:aP->Prop}
def WT (P:dJ) (ops:bH cg) (C:aP->Prop) (Q:di->cY->aP->Prop) (n:Z) (ds:I fw) (l:I<|Z×aR) (W:aP->Prop) (ord:Ord):Prop:= ∀a w,Ag n ds l a->W w->nC P ops C Q ord a w
def WT.q {r:Ord} {i d:Z} {op:Op} {ty:cn} {pos:fO} {af:bH fY} {g:aA<|Z×aS} {v:aR} (hi:ops[i]? = aa ⟨aa d,op,ty,pos,af,g⟩) (e:eS ops l g) (f:e' d n=ad) (hC:∀w,W w->C w) (j:Yl P l C ⟨aa d,op,ty,pos,af,g⟩ v) (h:WT P ops C Q n ds ((d,v)::l) W r):WT P ops C Q n ds l W<|.q i r:=by intro a w b c;refine ⟨hC w c,_,v,hi,bB ⟨eS.wanted (o:=⟨aa d,op,ty,pos,af,g⟩) e b,λk m=>j a.eval k (λx u p=>b.eval p) m⟩,h _ _ (b.put f v) c⟩
def WT.e {r g:Ord} {i:Z} {o:cg} (hi:ops[i]? = aa o) (hC:∀w,W w->C w) (h:WL P ops (di.then (nC P ops C Q r) Q) n ds l W [o]) (c:WT P ops C Q n ds l W g):WT P ops C Q n ds l W<|.e i r g:=by
 intro a w j d;refine ⟨hC w d,?_,c a w j d⟩;have:=h a w j d;unfold wpList at this;unfold wpOp;simp only [hi];split
 ·rename_i f;rw [aD f] at this;rcases this with this | ⟨k,a2,m,c⟩;·left;unfold kt at this ⊢;unfold cg.upon at this ⊢;split at this;all_goals first|exact this|(refine this.mono λe p b=>?_;cases e with| returned v=>exact b| panicked t=>exact b| outgrown=>obtain ⟨a3,q,s⟩:=b;exact ⟨a3,q,s⟩)|exact this.mono λv p b=>b
  ·exact be ⟨k,a2,m,c⟩
 ·rename_i f;rw [aj f] at this;exact this
def WT.stop:WT P ops C Q n ds l W .stop:=λ_ _ _ _=>trivial
def WT.nil (hC:∀w,W w->C w) (h:WE Q .normal n ds l W):WT P ops C Q n ds l W .nil:=λa w c b=>⟨hC w b,h a w c b⟩
end
abbrev rc:=I ar×aR×Z
def pO (e:rc):MapEntry:={ key:=st e.1,val:=e.2.1,born:=e.2.2 }
def r5 (m:I rc) (c:Z):Obj:=.map (m.map pO).toArray c
def re (k:I ar):I rc->Z->aA (Z×aR)| [],_=>ao| e::r,i=>if (k==e.1)=ad then aa (i,e.2.1) else re k r (i+1)
def Ab (k:I ar) (v:aR) (m:I rc) (c:Z):I rc:=match re k m 0 with| aa (i,_)=>m.modify i λe=>(k,v,e.2.2)| ao=>m++[(k,v,c)]
def Ac (k:I ar) (m:I rc) (c:Z):Z:=match re k m 0 with| aa _=>c| ao=>c+1
def nE (k:I ar) (m:I rc) (z:aR):aR:=match re k m 0 with| aa (_,v)=>v| ao=>z
def Ix (a b:I ar):(ByteArray.mk a.toArray==ByteArray.mk b.toArray)=(a==b):=by show (a.toArray==b.toArray)=_;simp
def WH (m:I rc) (j:Z) (k:I ar) (v:aR):(m.map pO).modify j (λe=>{ e with key:=st k,val:=v })=(m.modify j λe=>(k,v,e.2.2)).map pO:=by apply r0;intro i;simp only [vp,fp];cases m[i]? with| none=>simp| some e=>by_cases h:j=i<;>simp [h,pO]
def Iy (k:I ar):∀(m:I rc) (i:Z),Instr.findNow .string (st k) (m.map pO) i=aa (re k m i)
 | [],_=>rfl
 | e::r,i=>by
  simp only [nt,Instr.findNow,pO,st,Instr.sameNow,Ix,re];cases h:(k==e.1);·simp only [en,dF];exact Iy k r<|i+1
  ·simp
section
variable {P:dJ} {ops:bH cg} {Q:di->cY->aP->Prop} {n:Z} {ds:I fw} {l:I<|Z×aR} {w0:aP} {F:I Z} {L:I bh} {Vs:I View} {rest:I cg} {d:Z} {ty:cn} {pos:fO} {af:bH fY} {g:aA<|Z×aS}
def WL.VL (a:eS ops l g) (c:e' d n=ad) (h:∀b,WL P ops Q n ds ((d,.map<|aa b)::l) (Ws w0 F (aQ b (r5 [] 0)::L) Vs) rest) : WL P ops Q n ds l (Ws w0 F L Vs)<|⟨aa d,.makeMap bx ao,ty,pos,af,g⟩::rest:= WL.new (mk:=λb=>.map<|aa b) (o:=r5 [] 0) a c (λe w _ _=>by simp only [execOp];simp [Instr.makeMap,r5]) h
variable {cA:aA Tmp} {eY pP:cn} {um:I rc} {bc:I ar}
def VM {x y:ei}     (i:Z) (c:P.underlying bx=aa (.map eY pP)) (a:P.underlying eY=aa .string) (d:zeroOf P pP=aa ae) (e:b9 l x=aa (.map<|aa bE)) (f:b9 l y=aa (st bc)) (hL:L[i]? = aa (aQ bE<|r5 um aL)) : Yl P l (Ws w0 F L Vs) ⟨cA,.lookup bx x y aq,ty,pos,af,g⟩<|nE bc um ae:=by
 intro p w b h;have j:w.heap[bE]? = aa (.map (um.map pO).toArray aL):=h.kn _<|gd hL;have m:=Iy bc um 0;have n:(Instr.checkKey (um.map pO).toArray.isEmpty 10000 eY<|st bc).run P w = .ok () w:=MapKept.run_checkKey (k:=st bc) a (by simp [MapKept.IsKey,st]) _ 9999;have o:(Instr.lookup bx (.map<|aa bE) (st bc) aq).run P w = .ok (nE bc um ae) w:=by simp only [Instr.lookup,j7,run_underlying c,jc,MapKept.run_getObj_map j,lG,n];rw [MapKept.run_findKey a (by simpa using m)];unfold nE;cases q:re bc um 0 with| none=>simp [jc,yn d]| some r=>obtain ⟨i,v⟩:=r;simp [jc]
 simp [execOp,b x _ e,b y _ f,o]
def E9 {x:ei}   (i:Z) (a:P.underlying bx=aa (.map eY pP)) (b:b9 l x=aa (.map<|aa bE)) (hL:L[i]? = aa (aQ bE<|r5 um aL)) : Yl P l (Ws w0 F L Vs) ⟨cA,.call ⟨.builtin .len,#[x],#[bx]⟩,ty,pos,af,g⟩<|am an (um.length:ac):=by intro f w c d;have e:w.heap[bE]? = aa (.map (um.map pO).toArray aL):=d.kn _<|gd hL;simp [execOp,resolve,invoke,builtin,c x _ b,Builtin.len_,run_underlying a,MapKept.run_getObj_map e,goInt]
def WL.VN {t o e:cn} {x y u:ei}  {m:I rc}   (i:Z) (A:eS ops l g) (B:P.underlying t=aa (.map o e)) (c:P.underlying o=aa .string) (C:b9 l x=aa (.map<|aa bE)) (D:b9 l y=aa (st bc)) (E:b9 l u=aa ae) (hL:L[i]? = aa (aQ bE<|r5 m aL)) (h:WL P ops Q n ds l (Ws w0 F (L.set i<|aQ bE<|r5 (Ab bc ae m aL)<|Ac bc m aL) Vs) rest) : WL P ops Q n ds l (Ws w0 F L Vs)<|⟨ao,.mapUpdate t x y u,ty,pos,af,g⟩::rest:=by
 refine WL.step A λa w d s X G=>?_;have f:w.heap[bE]? = aa (.map (m.map pO).toArray aL):=s.kn _<|gd hL;have H:=Iy bc m 0;have J:(Instr.checkKey aq 10000 o<|st bc).run P w = .ok () w:=MapKept.run_checkKey (k:=st bc) c (by simp [MapKept.IsKey,st]) _ 9999;have K:(Instr.mapUpdate t (.map<|aa bE) (st bc) ae).run P w = .ok () { w with heap:=w.heap.setIfInBounds bE<|r5 (Ab bc ae m aL)<|Ac bc m aL }:=by
  simp only [Instr.mapUpdate,j7,run_underlying B,jc,MapKept.run_getObj_map f,lG,J];rw [MapKept.run_findKey c (by simpa using H)];unfold Ab Ac;cases M:re bc m 0 with
  | none=>simp [jc,MapKept.run_setObj_map _ f,r5,pO,st]
  | some r=>
   obtain ⟨j,N⟩:=r;have p:m[j]?.map (·.1)=aa bc:=by
    have key:∀(m:I rc) (b:Z),re bc m b=aa (j,N)->b<=j/\(m[j-b]?).map (·.1)=aa bc:=by
     intro m;induction m with
     | nil=>intro b h;simp [re] at h
     | cons e r R=>
      intro b h;simp only [re] at h;split at h;·rename_i c;injection h with h;injection h with v z;subst v;simp at c;simp [c]
      ·obtain ⟨v,z⟩:=R (b+1) h;refine ⟨ai,?_⟩;have:j-b=(j-(b+1))+1:=ai;rw [this];simpa using z
    simpa using (key m 0 M).2
   have S:((((m.map pO).toArray)[j]?).map (·.key)).getD (st bc)=st bc:=by cases q:m[j]? with| none=>simp [q]| some e=>rw [q] at p;simp at p;simp [q,pO,p]
   simp only [S,jc];have T:(Instr.keyThatStays (st bc)<|st bc).run P w = .ok (st bc) w:=by simp [Instr.keyThatStays,Instr.sameBits,st,Ix]
   simp only [j7,T,jc,MapKept.run_setObj_map _ f,r5];have U:(m.map pO).toArray.modify j (λe=>{ e with key:=st bc,val:=ae })=((m.modify j λe=>(bc,ae,e.2.2)).map pO).toArray:=by apply wJ;rw [My];exact WH m j bc ae
   rw [U]
 have V:(execOp a.eval ⟨ao,.mapUpdate t x y u,ty,pos,af,g⟩).run P w = .ok .skip { w with heap:=w.heap.setIfInBounds bE<|r5 (Ab bc ae m aL)<|Ac bc m aL }:=by simp only [execOp,d.eval C,d.eval D,d.eval E,j7,K,jc,lG]
 simp only [kt,V,cg.upon_skip];refine G _ _<|h _ _ (d.z0 undef) ?_;refine Ws.vv s i hL ⟨O,O,O,aK,λj Y W=>?_⟩ ?_ (by simp [aQ]) (by simp [aQ]);·have:bE≠j:=λe=>W (by simp [aQ,e]);simp [vl this]
 ·show (w.heap.setIfInBounds bE _)[bE]? = _;simp [lt_of_heap f]
def WL.Nq {e:cn} {size m:Z} {v:aR} {xs:I aR} (i:Z) (hL:L[i]? = aa (eV e size v m xs)) (h:∀a k,v = aE a m k->WL P ops Q n ds l (Ws w0 F L Vs) rest):WL P ops Q n ds l (Ws w0 F L Vs) rest:=by
 intro a w d c;obtain ⟨o,f⟩:=(c.kn _<|gd hL:w.ownsRow 0 e size v m xs);rcases f with ⟨g,j⟩ | ⟨b,cap,cur,hv,_⟩;·exact h ao 0 (by rw [g,j]) a w d c
 ·exact h _ _ hv a w d c
end
section
variable {P:dJ} {ops:bH cg} {Q:di->cY->aP->Prop} {n:Z} {ds:I fw} {l:I<|Z×aR} {W:aP->Prop} {w0:aP} {F:I Z} {L:I bh} {Vs:I View} {rest:I cg} {d:Z} {ty:cn} {pos:fO} {af:bH fY} {g:aA<|Z×aS}
variable {eK:FuncId} {hc:bH ei} {jU:bH cn}
def bU {ι κ:Type}     (k L2:I bh) (t:eS ops l g) (u:e' d n=ad) (x:Enters P eK) (y:h' l hc.toList=aa ea) (hL:L=k++L2) (v:ι->aR) (o:ι->I bh) (R:ι->Prop) (p:κ->I oZ) (Lp:κ->I bh) (q:κ->Prop) (cI:I View) (z:∀A ∈ cI,A ∈ Vs) (hC:∀w,Ws w (k.flatMap bh.ids) k cI w->cx P eK ea.toArray w λe f=>(∃i,e = cf (v i)/\R i/\Ws w (k.flatMap bh.ids) (o i) cI f)\/(∃j,e = .panicked (p j)/\q j/\Ws w (k.flatMap bh.ids) (Lp j) cI f)) (B:∀j,q j->WE Q (.panic<|p j) n ds l (Ws w0 F (Lp j++L2) Vs)) (C:∀i,R i->WL P ops Q n ds ((d,v i)::l) (Ws w0 F (o i++L2) Vs) rest) : WL P ops Q n ds l (Ws w0 F L Vs)<|⟨aa d,.call ⟨.value<|.func eK,hc,jU⟩,ty,pos,af,g⟩::rest:=by
 subst hL;refine WL.B8 t u x y v (λi f=>R i/\Ws w0 F (o i++L2) Vs f) (λc f=>∃j,c=p j/\q j/\Ws w0 F (Lp j++L2) Vs f) (λw b=>(hC w<|b.self.aZ z).mono λe f h=>?_) (λi=>?_)<|λc=>?_
 ·rcases h with ⟨i,r,m,h⟩ | ⟨j,r,m,h⟩;·exact bB ⟨i,r,m,b.back h⟩
  ·exact be ⟨_,r,j,O,m,b.back h⟩
 ·intro a w s b;exact C i b.1 a w s b.2
 ·rintro a w s ⟨j,rfl,m,b⟩;exact B j m a w s b
variable {bo:ei}
def WL.VO {ι κ:Type}   {t:bH aR}    (k L2:I bh) (u:eS ops l g) (x:e' d n=ad) (y:Enters P eK) (z:b9 l bo=aa (.func (.func eK) #[] t)) (A:h' l hc.toList=aa ea) (hL:L=k++L2) (v:ι->aR) (o:ι->I bh) (R:ι->Prop) (p:κ->I oZ) (Lp:κ->I bh) (q:κ->Prop) (cI:I View) (B:∀C ∈ cI,C ∈ Vs) (hC:∀w,Ws w (k.flatMap bh.ids) k cI w->cx P eK (ea.toArray++t) w λe f=>(∃i,e = cf (v i)/\R i/\Ws w (k.flatMap bh.ids) (o i) cI f)\/(∃j,e = .panicked (p j)/\q j/\Ws w (k.flatMap bh.ids) (Lp j) cI f)) (D:∀j,q j->WE Q (.panic<|p j) n ds l (Ws w0 F (Lp j++L2) Vs)) (E:∀i,R i->WL P ops Q n ds ((d,v i)::l) (Ws w0 F (o i++L2) Vs) rest) : WL P ops Q n ds l (Ws w0 F L Vs)<|⟨aa d,.call ⟨.value bo,hc,jU⟩,ty,pos,af,g⟩::rest:=by
 subst hL;refine WL.VA u x y z A v (λi f=>R i/\Ws w0 F (o i++L2) Vs f) (λc f=>∃j,c=p j/\q j/\Ws w0 F (Lp j++L2) Vs f) (λw b=>(hC w<|b.self.aZ B).mono λe f h=>?_) (λi=>?_)<|λc=>?_
 ·rcases h with ⟨i,r,m,h⟩ | ⟨j,r,m,h⟩;·exact bB ⟨i,r,m,b.back h⟩
  ·exact be ⟨_,r,j,O,m,b.back h⟩
 ·intro a w s b;exact E i b.1 a w s b.2
 ·rintro a w s ⟨j,rfl,m,b⟩;exact D j m a w s b
variable {kY:aP->Prop} {cA:aA Tmp}
def r6 (a:P.concrete bx=ad) (b:b9 l bo=aa ae):Yl P l kY ⟨cA,.makeInterface bx bo,ty,pos,af,g⟩<|.iface bx ae:= λd w c _=>by have e:(Instr.makeInterface bx ae).run P w = .ok (.iface bx ae) w:=run_makeInterface (h:=a) ..;simp [execOp,c bo ae b,e]
def WL.panic (c:eS ops l g) (d:b9 l bo=aa (.iface bx ae)) (h:WE Q (.panic [⟨.iface bx ae,aq,aq⟩]) n ds l W):WL P ops Q n ds l W<|⟨cA,.panic bo,ty,pos,af,g⟩::rest:=by
 refine WL.step c λa w b f i j=>?_;have:(execOp a.eval ⟨cA,.panic bo,ty,pos,af,g⟩).run P w = .halt (.panic<|.iface bx ae) w:=by have e:(Instr.panic<|.iface bx ae).run P w = .halt (.panic<|.iface bx ae) w:=rfl;simp [execOp,b.eval d,e]
 simp only [kt,this,cg.upon_panic];exact h a w b f
def WL.defer (c:eS ops l g) (d:b9 l bo=aa (.func (.func eK) #[] ea.toArray)) (h:WL P ops Q n (⟨.fn (.func eK) ea.toArray,#[]⟩::ds) l W rest):WL P ops Q n ds l W<|⟨ao,.defer ⟨.value bo,#[],jU⟩,ty,pos,af,g⟩::rest:=by
 refine WL.step c λa w b e i f=>?_;have:(execOp a.eval ⟨ao,.defer ⟨.value bo,#[],jU⟩,ty,pos,af,g⟩).run P w = .ok (.defer ⟨.fn (.func eK) ea.toArray,#[]⟩) w:=by simp [execOp,resolve,b.eval d,fw.ofValue]
 simp only [kt,this,cg.upon_defer];refine f _ _<|h _ _ ⟨b.size,?_,b.jT⟩ e;show _::a.defers=_;rw [b.defs]
variable {gc:Func} {gE:Code} {hz:Ending->aP->Prop}
def E' {w:aP}  (c:P.funcs[eK]? = aa gc) (d:gc.body=aa gE) (m:Z) (e:gc.ntmps=m) (f:Z.ble ea.length m=ad) (h:WC P gE (bodyPostD P gc hz) m [] (yi 0 ea)<|λg=>g=w):cx P eK ea.toArray w hz:=by
 refine calls_of_wp_defers c d<|h _ _ ?_ O;have i:=s9 f;subst e;refine ⟨by simp;omega,O,λt v hv=>?_⟩;obtain ⟨_,a⟩:=Ii ea 0 t v hv;simp only [qp] at a;have b:t<ea.length:=by
  rcases m2 t ea.length with h | h;·exact h
  ·simp [x7 h] at a
 simp [lI,rR,b];simp [cy b] at a;exact a
def Rs (P:dJ) (fn:Func) (l:I<|Z×aR) (W:aP->Prop) (v:aR):Prop:=∀(tmps:bH aR) w,(∀t u,lk l t=aa u->tmps.getD t undef=u)->W w->(results fn tmps).run P w = .ok v w
def r7 (tmps:bH aR):ResultVar->Sem aR| .tmp t=>pure<|tmps.getD t undef| .cell a t=>do loadVar t (<-asAddr (tmps.getD a undef))
def Cf (fn:Func) (tmps:bH aR):results fn tmps=(do let vs <-fn.results.mapM (r7 tmps); pure (if h:vs.size=1 then vs[0] else cO vs)):=by
 have e:(λr:ResultVar=>match r with| .tmp t=>(pure<|tmps.getD t undef:Sem aR)| .cell a t=>do loadVar t (<-asAddr (tmps.getD a undef)))=r7 tmps:=by funext r;cases r<;>rfl
 rw [<-e];rfl
def vA (P:dJ) (l:I<|Z×aR) (W:aP->Prop) (r:ResultVar) (v:aR):Prop:=∀(tmps:bH aR) w,(∀t u,lk l t=aa u->tmps.getD t undef=u)->W w->(r7 tmps r).run P w = .ok v w
def jI (h:lk l bE=aa ae):vA P l W (.tmp bE) ae:=λtmps w a _=>by simp only [r7,a bE ae h,lG]
def jJ {a b o:Z}    (i:Z) (c:lk l a=aa (b8<|aa ⟨b,o,ao⟩)) (hL:L[i]? = aa (aQ b a9)) (d:cz a9 o=aa ae) (e:fJ P bx=ad):vA P l (Ws w0 F L Vs) (.cell a bx) ae:=λtmps w h f=>by simp only [r7,h a _ c,asAddr,j7,lG,jc,MZ e<|cell_of_heap (f.kn _<|gd hL) d]
def fj {a b o k:Z}   (i:Z) (d:lk l a=aa (b8<|aa ⟨b,o,ao⟩)) (hL:L[i]? = aa (aQ b a9)) (e:i2 P bx=aa k) (f:(cellsIn a9 o k).length=k):vA P l (Ws w0 F L Vs) (.cell a bx)<|b0 (cellsIn a9 o k).toArray:=λtmps w h g=>by
 have m:(loadVar bx ⟨b,o,ao⟩).run P w = .ok (b0 (cellsIn a9 o k).toArray) w:=EO e f λj v c=>by
  have n:w.heap[b]? = aa a9:=g.kn _<|gd hL;refine cell_of_heap n ?_;cases a9<;>simp [cellsIn,cz] at *;rw [jF] at c;split at c;·simpa using c
  ·cases c
 simp only [r7,h a _ d,asAddr,j7,lG,jc,m]
def kJ {r:ResultVar}  (a:gc.results = #[r]) (h:vA P l W r ae):Rs P gc l W ae:=λtmps w b c=>by have d:=h tmps w b c;simp [Cf,a,zO,x8,H1,d]
variable {Ad:aR}
def hX {r s:ResultVar}  (c:gc.results = #[r,s]) (h:vA P l W r ae) (d:vA P l W s Ad):Rs P gc l W<|cO #[ae,Ad]:=λtmps w a b=>by have e:=h tmps w a b;have f:=d tmps w a b;simp [Cf,c,zO,x8,H1,e,f]
def yr {r s u:ResultVar} {v x y:aR} (c:gc.results = #[r,s,u]) (h:vA P l W r v) (d:vA P l W s x) (e:vA P l W u y):Rs P gc l W<|cO #[v,x,y]:=λtmps w a b=>by have f:=h tmps w a b;have g:=d tmps w a b;have i:=e tmps w a b;simp [Cf,c,zO,x8,H1,f,g,i]
def WE.gF (d:Rs P gc l W ae) (h:∀w,W w->hz (cf ae) w):WE (bodyPost P gc hz) .ret n [] l W:= λa w b c=>bodyPost_ret (d a.tmps w b.jT c) b.defs<|h w c
def WE.Iz (g:Enters P eK) (hC:∀w,W w->CallsD P eK ea.toArray .returning w λe c b=>e = cf (cO #[])/\c = .returning/\kY b) (i:Rs P gc l kY ae) (h:∀w,kY w->hz (cf ae) w):WE (bodyPostD P gc hz) .ret n [⟨.fn (.func eK) ea.toArray,#[]⟩] l W:=by
 intro a w d j;show Leaves P gc a.tmps hz a.defers .returning w;rw [d.defs];refine ⟨aK,.func eK,ea.toArray,eK,ea.toArray,O,?_,(hC w j).mono λe c b k=>?_⟩;·simp only [invoke];simpa using g ea.toArray w
 ·obtain ⟨rfl,rfl,f⟩:=k;exact ⟨ae,i a.tmps b d.jT f,h b f⟩
def WE.td (g:Enters P eK) (hC:∀w,W w->CallsD P eK ea.toArray (.panicking [⟨Ad,aq,aq⟩]) w λe c b=>e = cf (cO #[])/\c = .panicking [⟨Ad,ad,aq⟩]/\kY b) (i:Rs P gc l kY ae) (h:∀w,kY w->hz (cf ae) w):WE (bodyPostD P gc hz) (.panic [⟨Ad,aq,aq⟩]) n [⟨.fn (.func eK) ea.toArray,#[]⟩] l W:=by
 intro a w d j;show Leaves P gc a.tmps hz a.defers (.panicking [⟨Ad,aq,aq⟩]) w;rw [d.defs];refine ⟨aK,.func eK,ea.toArray,eK,ea.toArray,O,?_,(hC w j).mono λe c b k=>?_⟩;·simp only [invoke];simpa using g ea.toArray w
 ·obtain ⟨rfl,rfl,f⟩:=k;exact ⟨ae,i a.tmps b d.jT f,h b f⟩
def WE.vB (d:Rs P gc l W ae) (h:∀w,W w->hz (cf ae) w):WE (bodyPostD P gc hz) .ret n [] l W:=by intro a w b c;show Leaves P gc a.tmps hz a.defers .returning w;rw [b.defs];exact ⟨ae,d a.tmps w b.jT c,h w c⟩
def Nr (u:FrameMode) (rv:aR) (a:FrameMode):Prop:=(u = .returning/\rv = .nilIface/\a = .returning)\/∃v,u = .panicking [⟨v,aq,aq⟩]/\rv=v/\a = .panicking [⟨v,ad,aq⟩]
variable {e6:cg}
def VP {c:Frame} {cs:I Frame} {a:cY} {w:aP}  {d:FrameMode} {Q:di->cY->aP->Prop} {i:di->cY->I Frame->aP->Prop} (p:e6.dst=aa aL) (q:e6.guard=ao) (l:(execOp a.eval e6).run P w = .ok .recover w) (r:Nr c.mode ae d) (m:∀e a w,Q e a w->i e a ({ c with mode:=d }::cs) w) (h:wpList P (e6::aH).toArray (di.then (gE.wp P Q) Q) aH (a.put (aa aL) ae) w):(Code.seq (.region bE (e6::aH).toArray aq) gE).wpS P i a (c::cs) w:=by
 refine wpS_seq ?_;intro b k s F;have n:(e6::aH).toArray[0]? = aa e6:=rfl;have t:nN e6 (yielded (e6::aH).toArray a.tmps)=ad:=by simp [nN,q]
 have u:=stepG_op (P:=P) (b:=b) (k:=k) (cs:=c::cs) (w:=w) (rest:=I.range' 1 aH.length) n t;have x:(b.at a<|.inRegion (e6::aH).toArray (0::I.range' 1 aH.length)::k).kind = .deferred:=s;have g:=tryRecover_deferred x<|c::cs;have y:∀v,(b.at a<|.inRegion (e6::aH).toArray (0::I.range' 1 aH.length)::k).finish v=b.at (a.put (aa aL) v) (.inRegion (e6::aH).toArray (I.range' 1 aH.length)::k):=by intro v;rw [Frame.finish_at,n,<-p];rfl
 have z:step P (lone (b.at a<|.inRegion (e6::aH).toArray (0::I.range' 1 aH.length)::k) (c::cs) w) = .next (lone (b.at (a.put (aa aL) ae)<|.inRegion (e6::aH).toArray (I.range' 1 aH.length)::k) ({ c with mode:=d }::cs) w):=by
  refine step_lone_go ?_;rw [u,<-y];simp only [Frame.at] at g ⊢;rcases r with ⟨f,rfl,rfl⟩ | ⟨v,f,rfl,rfl⟩;·simp [stepG.apply,l,g,recoverD,f];rw [<-f]
  ·simp [stepG.apply,l,g,recoverD,f]
 have A:wpOps P (e6::aH).toArray (di.then (gE.wp P Q) Q) (I.range' 1 aH.length) (a.put (aa aL) ae) w:=by rw [wpOps_eq_wpList aH 1 (λj=>by simp [H2 1 j])];exact h
 obtain ⟨e,B,C,o,D⟩:=wp_ops _ _ _ A b k<|{ c with mode:=d }::cs;have E:step P (lone (b.at a<|.code (.region bE (e6::aH).toArray aq)::k) (c::cs) w) = .next (lone (b.at a<|.inRegion (e6::aH).toArray (0::I.range' 1 aH.length)::k) (c::cs) w):=by have:=step_region (P:=P) (b:=b) (a:=a) (k:=k) (cs:=c::cs) (w:=w) (ops:=(e6::aH).toArray) (id:=bE);rw [this];simp [I.range_eq_range',I.range'_succ]
 refine ⟨e,B,_,C,?_,.of_steps (.head E<|.one z) D⟩;cases e with| normal=>exact wpS_of_wp<|wp_mono o λe a w h=>m e a w h| _=>exact m _ _ _ o
def lx {w:aP}  {u c:FrameMode}  (j:P.funcs[eK]? = aa gc) (k:gc.body=aa (.seq (.region bE (e6::aH).toArray aq) gE)) (m:Z) (l:gc.ntmps=m) (n:Z.ble ea.length m=ad) (o:e6.dst=aa aL) (p:e' aL m=ad) (q:e6.guard=ao) (r:∀(s:ei->aR),(execOp s e6).run P w = .ok .recover w) (x:Nr u ae c) (h:WL P (e6::aH).toArray (di.then (gE.wp P<|bodyPost P gc hz)<|bodyPost P gc hz) m [] ((aL,ae)::yi 0 ea) (λf=>f=w) aH):CallsD P eK ea.toArray u w λe y f=>y=c/\hz e f:=by
 refine callsD_of_wpS j k λB cs z=>VP (Q:=bodyPost P gc hz) o q (r _) (by rw [z];exact x) (λe a w b=>?_)<|h _ _ ?_ O;·cases e with| normal=>exact ⟨b.1,c,rfl,b.2.choose,b.2.choose_spec.1,rfl,b.2.choose_spec.2⟩| ret=>exact ⟨b.1,c,rfl,b.2.choose,b.2.choose_spec.1,rfl,b.2.choose_spec.2⟩| panic C=>exact ⟨b.1,c,rfl,rfl,b.2⟩| outgrown=>exact ⟨c,rfl,b⟩| exit i=>exact b| goto i=>exact b
 ·have D:=s9 n;subst l;have A:Ag gc.ntmps [] (yi 0 ea) { tmps:=ea.toArray++vk (gc.ntmps-ea.toArray.size) undef,defers:=[] }:=by
   refine ⟨by simp;omega,O,λt v hv=>?_⟩;obtain ⟨_,d⟩:=Ii ea 0 t v hv;simp only [qp] at d;have g:t<ea.length:=by
    rcases m2 t ea.length with h | h;·exact h
    ·simp [x7 h] at d
   simp [lI,rR,g];simp [cy g] at d;exact d
  exact A.put p ae
def IA {t u:cn}    (b:P.underlying t=aa (.interface<|P.methodsAt t)) (c:b9 l bo=aa .nilIface):Yl P l kY ⟨cA,.binOp .neq t bo (.const .nilIface) u,ty,pos,af,g⟩<|bW aq:=by intro d w a _;have e:d (.const .nilIface) = .nilIface:=a _ _ rfl;simp only [execOp,a bo _ c,e,j7];simp [eqGuard_nil_constR,run_neq_nil_nil (h:=b)]
def VQ {t u s:cn}     (b:P.underlying t=aa (.interface<|P.methodsAt t)) (c:b9 l bo=aa (.iface s ae)):Yl P l kY ⟨cA,.binOp .neq t bo (.const .nilIface) u,ty,pos,af,g⟩<|bW ad:=by
 intro d w a _;have e:d (.const .nilIface) = .nilIface:=a _ _ rfl;have f:(eqGuard .neq t bo (.const .nilIface) (.iface s ae) .nilIface)=pure ():=by cases bo<;>rfl
 simp only [execOp,a bo _ c,e,j7,f];simp [run_neq_held_nil (h:=b)]
end
section
variable {P:dJ} {l:I<|Z×aR} {W:aP->Prop} {d:aA Tmp} {ty:cn} {pos:fO} {af:bH fY} {g:aA<|Z×aS}
def I4 (s:I ar) (i j:Z):aR.string ((ByteArray.mk s.toArray).extract i j)=st ((s.take j).drop i):=by
 have e:((ByteArray.mk s.toArray).extract i j)=⟨((s.take j).drop i).toArray⟩:=by apply ByteArray.ext;simp [I.drop_take]
 rw [e];rfl
variable {bo ck:ei} {bc:I ar} {fy:IntKind} {az:ac}
def Nt (a:P.underlying bx=some .string) (c:b9 l bo=some (st bc)) (f:b9 l ck=some (.int fy az)) (i:0<=az) (j:az<=bc.length):Yl P l W ⟨d,.slice bx bo none (some ck) none,ty,pos,af,g⟩<|st<|bc.take az.toNat:=by
 intro m w b _;have e:=run_slice_string_h (P:=P) w bx ⟨bc.toArray⟩ a fy az i (by rw [E6];exact j);have k:(Instr.sliceAt bx (.string ⟨bc.toArray⟩) none (some<|.int fy az) none).run P w = .ok (st<|bc.take az.toNat) w:=by rw [run_sliceAt_string (h:=a),e,I4];simp
 simp [execOp,b bo _ c,b ck _ f,st,k]
def IB (a:P.underlying bx=some .string) (c:b9 l bo=some (st bc)) (f:b9 l ck=some (.int fy az)) (i:0<=az) (j:az<=bc.length):Yl P l W ⟨d,.slice bx bo (some ck) none none,ty,pos,af,g⟩<|st<|bc.drop az.toNat:=by
 intro m w b _;have e:=run_slice_string_l (P:=P) w bx ⟨bc.toArray⟩ a fy az i (by rw [E6];exact j);have k:(Instr.sliceAt bx (.string ⟨bc.toArray⟩) (some<|.int fy az) none none).run P w = .ok (st<|bc.drop az.toNat) w:=by rw [run_sliceAt_string (h:=a),e,I4,E6,gH]
 simp [execOp,b bo _ c,b ck _ f,st,k]
end
abbrev cQ {α:Type} (e:cn) (k:Z) (f:α->I aR) (a:aA a6) (c:Z) (xs:I α):bh:=eV e k (aE a xs.length c) xs.length<|xs.flatMap f
section
variable {P:dJ} {ops:bH cg} {Q:di->cY->aP->Prop} {n:Z} {ds:I fw} {l:I<|Z×aR} {w0:aP} {F:I Z} {L:I bh} {Vs:I View} {rest:I cg} {d:Z} {ty:cn} {pos:fO} {af:bH fY} {g:aA<|Z×aS}
def LA {α:Type} {f:α->I aR} {t e:cn} {z:aR} {size q cc:Z} {s y:ei} {a:aA a6} {c r:Z} {xs:I α} {T:cn} {A:Z×Z} (x:α) (i j:Z) (B:eS ops l g) (C:e' d n=ad) (D:ii P t e z size q) (E:b9 l s=aa (aE a xs.length c)) (G:b9 l y=aa (aE (aa ⟨r,0,ao⟩) 1 cc)) (hL:L[i]? = aa (cQ e size f a c xs)) (H:L[j]? = aa (aQ r<|aY (f x).toArray T A)) (J:(f x).length=size) (K:(f x).all (·.oneCell')=ad) (U:xs.length+1<=9223372036854775807) (M:(xs.length+1)*q<=140737488355328) (h:∀b o,WL P ops Q n ds ((d,aE b (xs++[x]).length o)::l) (Ws w0 F (L.set i<|cQ e size f b o<|xs++[x]) Vs) rest) : WL P ops Q n ds l (Ws w0 F L Vs)<|⟨aa d,.call ⟨.builtin .append,#[s,y],#[t,t]⟩,ty,pos,af,g⟩::rest:=by refine WL.append i B C D E G hL (news:=f x) (k:=1) (by rw [Z.one_mul];exact J) (λw N k u p=>VI N j H (k:=k) (by simpa using p)) (λu p=>gA.1 K u p) (by unfold maxLen;omega) M λO _=>?_;have R:(xs.flatMap f)++f x=(xs++[x]).flatMap f:=aK;have S:xs.length+1=(xs++[x]).length:=aK;rw [R,S];have hi:i<L.length:=(cN.1 hL).1;refine WL.Nq i (m:=(xs++[x]).length) (xs:=(xs++[x]).flatMap f) (e:=e) (size:=size) (v:=O) (by simp [hi]) λb o hv=>?_;subst hv;exact h b o
end
def Ws.kb {rd:View->Z->Z->aB->Prop}      (h:Ws cm [] dG fh eU) (i:Z)     (hL:dG[i]? = aa (cQ bx bE ej cq aL cv)) (e:∀x,(ej x).length=bE) (k:∀f b o x,cB f b o (ej x)->rd f b o x):Sl rd bE (nv cm eU) cq aL cv:=by
 rcases h.Nf i hL with ⟨a,g⟩ | ⟨b,r,a,g,l,m⟩;·injection a with c n d;subst c d;have:cv=[]:=s' ai;subst this;exact Sl.nil
 ·injection a with c n d;subst c d;refine ⟨g,by unfold maxLen at l;omega,aK,λi x p=>⟨b,0,O,k _ _ _ _ λj v hv=>?_⟩⟩;have q:j<bE:=by have:=(cN.1 hv).1;rw [e] at this;exact this
  rw [lJ];exact m _ _ (by rw [pM e p q];exact hv)
def Ws.IC (h:Ws cm cS dG fh eU) (i:Z)     (hL:dG[i]? = aa (cQ bx bE ej cq aL cv)) (e:∀x,(ej x).length=bE) (g:∀f b o x,cB f b o (ej x)->o3 f b o x):Sl o3 bE (hv eU) cq aL cv:=by
 obtain ⟨w,k⟩:=(h.kn _<|gd hL:eU.ownsRow 0 bx bE _ cv.length (cv.flatMap ej));rcases k with ⟨l,y⟩ | ⟨b,cap,cur,m,_,n,p,c,z,q⟩;·injection l with d r c;subst d c;have:cv=[]:=s' ai;subst this;exact Sl.nil
 ·injection m with d r s;subst d s;refine ⟨p,by unfold maxLen at c;omega,aK,λi x t=>⟨b,0,O,g _ _ _ _ λj v hv=>?_⟩⟩;have u:j<bE:=by have:=(cN.1 hv).1;rw [e] at this;exact this
  have a:(cv.flatMap ej)[i*bE+j]? = aa v:=by rw [pM e t u];exact hv
  rw [<-q,jF] at a;split at a;·refine mL n ?_;simpa [cz] using a
  ·cases a
def ow (rs:I ResultVar) (d:aA Tmp):aS:=match d with| ao=>ad| aa d=>rs.all λr=>match r with| .tmp t=>!(ju d t)| .cell a _=>!(ju d a)
def VR {r:ResultVar}   {a:cY} (h:(match r with| .tmp t=>!(ju bE t)| .cell a _=>!(ju bE a))=ad):r7 (a.put (aa bE) ae).tmps r=r7 a.tmps r:=by
 have key:∀t,(!(ju bE t))=ad->(a.put (aa bE) ae).tmps.getD t undef=a.tmps.getD t undef:=λt b=>by
  have c:bE≠t:=λe=>by subst e;simp at b
  simp only [cY.put,lI];rw [vl c]
 cases r with| tmp t=>simp only [r7,key t h]| cell x _=>simp only [r7,key x h]
variable {gc:Func} {Cg:I ResultVar} {lj:cY}
def VS (a:gc.results=Cg.toArray) {d:aA Tmp}   (h:ow Cg d=ad):results gc (lj.put d ae).tmps=results gc lj.tmps:=by
 cases d with
 | none=>rfl
 | some d=>
  simp only [ow,gA] at h;have e:∀l:I ResultVar,(∀r ∈ l,r ∈ Cg)->l.mapM (r7 (lj.put (aa d) ae).tmps)=l.mapM (r7 lj.tmps):=by intro l;induction l with| nil=>intro _;rfl| cons x l c=>intro b;rw [x8,x8,VR<|h x<|b x aK,c λr a=>b r (by simp [a])]
  rw [Cf,Cf,a,zO,zO,e _ λr a=>by simpa using a]
variable {hz:Ending->aP->Prop} {cA:aA Tmp}
def ID (b:gc.results=Cg.toArray)  {v:aR}  (h:ow Cg cA=ad):∀(ds:I fw) (u:FrameMode) (w:aP),Leaves iI gc (lj.put cA v).tmps hz ds u w->Leaves iI gc lj.tmps hz ds u w| [],.returning,w,a=>by simp only [Leaves] at a ⊢;rw [VS b h] at a;exact a| [],.panicking _,_,a=>a| [],.run,_,a=>a| x::ds,u,w,a=>by obtain ⟨d,g,cap,f,args,i,j,k⟩:=a;refine ⟨d,g,cap,f,args,i,j,k.mono λe l m c=>?_⟩;cases e with| returned v=>exact ID b h ds _ _ c| panicked n=>exact ID b h ds _ _ c| outgrown=>exact c
def rf {fn:Func} (rs:I ResultVar)  (b:fn.results=rs.toArray)    {c:I oZ}  (h:ow rs cA=ad) (a:bodyPostD iI fn hz (.panic c) (lj.put cA ae) cm):bodyPostD iI fn hz (.panic c) lj cm:=by
 have e:(lj.put cA ae).defers=lj.defers:=by cases cA<;>rfl
 have a:Leaves iI fn (lj.put cA ae).tmps hz (lj.put cA ae).defers (.panicking c) cm:=a;rw [e] at a;exact ID b h _ _ _ a
section
variable {P:dJ} {md:q7} {ops:bH cg} {C:aP->Prop} {Q:di->cY->aP->Prop}
def yt (ok:aA Tmp->aS) (ops:bH cg):aS:=ops.toList.all λo=>ok o.dst
variable {E_:aA Tmp->aS} {e6:cg}
def Nu (h:yt E_ ops=ad)   (a:ops[bE]? = aa e6):E_ e6.dst=ad:=by
 refine gA.1 h e6 ?_;have:ops.toList[bE]? = aa e6:=by simpa using a
 exact aW this
def IE (f:yt E_ ops=ad) (g:q8 ops=ad) (k:∀c a w d v,E_ d=ad->Q (.panic c) (a.put d v) w->Q (.panic c) a w):∀(ord:I<|Z×aS) (e:bH aS) (a:cY) (w:aP), qv md ops ord e=ad->qw P ops C Q ord a w->wT P md ops C Q ord.length e a w| [],e,a,w,b,h=>⟨h.1,by simpa [qv] using b,h.2⟩| (i,ad)::r,e,a,w,b,h=>by simp only [qv,wO,eI] at b;obtain ⟨hC,o,v,l,n,h⟩:=h;exact Na l (Region.noSelect_spec g) (λc a w=>k c a w o.dst v<|Nu f l) r.length e a w (Region.free_spec l b.1.2) (by simpa using b.1.1) n hC<|IE f g k r _ _ _ b.2 h| (i,aq)::r,e,a,w,b,h=>by simp only [qv,tz,eI,j8] at b;refine ⟨h.1,λp=>(by rw [p] at b;cases b.1),λj m=>?_⟩;rw [b.1] at m;simp at m;subst m;exact wpOp_mono (λs t q=>IE f g k r _ _ _ b.2 q) h.2
variable {n:Z} {ds:I fw} {l:I<|Z×aR} {W:aP->Prop}
def outs:I Z->I bh->I bh| [],L=>L| i::r,L=>outs r<|gk i L
def Wo (i:Z) (h:Ws cm cS dG fh eU):Ws cm cS (gk i dG) fh eU:=Ws.out i h
def Wt (n:Z) (h:Ws cm cS dG fh eU):Ws cm cS (dG.take n) fh eU:=Ws.eD (L':=dG.drop n) (by rw [rZ];exact h)
def Wd (n:Z) (h:Ws cm cS dG fh eU):Ws cm cS (dG.drop n) fh eU:=Ws.drop (L:=dG.take n) (by rw [rZ];exact h)
def Wv (n:Z) (h:Ws cm cS dG fh eU):Ws cm cS dG (fh.drop n) eU:=Ws.aZ h λ_ a=>I.mem_of_mem_drop a
variable {nR:bh}
def Ws.f (i:Z)  (h:Ws cm cS dG fh eU) (a:dG[i]? = aa nR):Ws cm cS (nR::gk i dG) fh eU:=h.perm<|pJ i dG a
def Wp (i:Z):∀w,Ws cm cS dG fh w->Ws cm cS (gk i dG) fh w:=λ_ h=>Wo i h
def dn (is:I Z):∀w,Ws cm cS dG fh w->Ws cm cS (outs is dG) fh w:=λ_ h=>by induction is generalizing dG with| nil=>exact h| cons i r a=>exact a<|Wo i h
def WC.Fa {os:I cg}     (ok:aA Tmp->aS) (is:I Z) (ord:I<|Z×aS) (e:P.follows .mixedOrders=ad) (f:yt ok os.toArray=ad) (b:(q8 os.toArray&&(ord.length==os.toArray.size&&wV os ord 0))=ad) (g:∀c a w d v,ok d=ad->Q (.panic c) (a.put d v) w->Q (.panic c) a w) (h:WD P os.toArray (Ws cm cS (outs is dG) fh) Q n ds l (Ws cm cS dG fh) ord):WC P (.region bE os.toArray ad) Q n ds l<|Ws cm cS dG fh:=by intro a w i j;have b:=Iv b;simp only [eI,j8] at b;have:=Ip (md:=.any) _ _ _ _<|IE f b.1 g ord _ a w.drew b.2.2<|h a w.drew i j.drew;rw [b.2.1] at this;exact wp_region_any e this
def WD.skip {r:I<|Z×aS} {i d:Z} {op:Op} {ty:cn} {pos:fO} {af:bH fY}  {b:aS}  {c:Z} (hi:ops[i]? = aa ⟨aa d,op,ty,pos,af,aa (bE,b)⟩) (j:e' d n=ad) (k:ops[bE]? = aa e6) (m:e6.dst=aa c) (o:e' c n=ad) (p:lk l c=aa (bW<|!b)) (hC:∀w,W w->C w) (h:WD P ops C Q n ds ((d,undef)::l) W r):WD P ops C Q n ds l W<|(i,ad)::r:=by
 intro a w e f;have hv:a.tmps.getD c undef = bW (!b):=e.jT c _ p;have g:c<a.tmps.size:=by rw [e.size];exact s9 o
 have q:a.tmps[c]? = aa (bW<|!b):=by rw [lI,x6 g] at hv;rw [x6 g];simpa using hv
 have s:yielded ops a.tmps bE=aa (!b):=by simp [yielded,k,m,q]
 exact ⟨hC w f,_,undef,hi,be ⟨by simp [nN,s],O⟩,h _ _ (e.put j undef) f⟩
def WE.front {e:di}  (i:Z) (hL:dG[i]? = aa nR) (h:WE Q e n ds l<|Ws cm cS (nR::gk i dG) fh):WE Q e n ds l<|Ws cm cS dG fh:= WE.world (λ_ a=>a.perm<|pJ i dG hL) h
def qx {f:FuncId} {args:bH aR} {u d:FrameMode} (a L2 g:I bh) (hL:dG=a++L2) (hC:∀w,Ws w (a.flatMap bh.ids) a [] w->CallsD P f args u w λe b c=>b=d/\(e = cf (cO #[])/\Ws w (a.flatMap bh.ids) g [] c)) : ∀w,Ws cm cS dG fh w->CallsD P f args u w λe b c=>e = cf (cO #[])/\b=d/\Ws cm cS (g++L2) fh c:=by intro w h;subst hL;exact (hC w<|h.self.aZ aK).mono λe b c ⟨i,j,k⟩=>⟨j,i,h.back k⟩
end
open Go.ChangeShapes Go.WideShapes Go.ChangeAt Go.RowKit Go.Joins Go.Deep
def Nv (p:Z->aB->Prop):∀n,(∀i,i<n->∃x,p i x)->∃l:I aB,l.length=n/\∀(i:Z) (x:aB),l[i]? = aa x->p i x
 | 0,_=>⟨[],rfl,aK⟩
 | n+1,h=>by
  obtain ⟨l,c,d⟩:=Nv p n λi hi=>h i ai;obtain ⟨x,e⟩:=h n ai;refine ⟨l++[x],by simp [c],λi y a=>?_⟩;rcases Mz i n with b | b | b;·rw [q9 ai] at a;exact d i y a
  ·subst b;rw [pH ai,c] at a;simp at a;subst a;exact e
  ·rw [x7 (by simp;omega)] at a;cases a
def IF (h:cm.cell? ⟨bE,aL,ao⟩=aa ae):vc (hv cm) bE aL=aa ae:=by unfold vc hv;unfold aP.cell? at h;cases a:cm.heap[bE]? with| none=>simp [a] at h| some b=>cases b<;>simp [a,cz] at h ⊢<;>exact h
inductive Sh where
 | int
 | str
 | bool
deriving DecidableEq
def Sh.fit:Sh->Value->Prop| .int,v=>∃k:Int,v = .int .i64 k/\-9223372036854775808<=k/\k<=9223372036854775807| .str,v=>∃l:List UInt8,v=st l/\l.length<=9223372036854775807| .bool,v=>∃b,v = .bool b
def IG (P:Program) (t:TypeId):Option Sh:=match P.underlying t with| some<|.int .i64=>some .int| some .string=>some .str| some .bool=>some .bool| _=>none
def r8 (P:dJ):Z->I Field->aS| _,[]=>ad| i,f::r=>ju f.offset i&&(ju (P.cellsOf f.type) 1&&r8 P (i+1) r)
section
variable {P:dJ} {H:Type} {enc:cn×aR->H} {w:aP} {base:Z} {spare:Z->aS} {held:aS}
def VT {s:Sh}   {x:DataW H×List MemPlace} (a:IG P bx=some s) (h:DataW.trod enc P w base spare held bE bx [ae]=some x):s.fit ae:=by
 unfold IG at a;cases c:P.underlying bx with
 | none=>simp [c] at a
 | some d=>
  cases d<;>simp [c] at a;case int k=>cases k<;>simp at a;subst a;obtain ⟨n,e,_,f⟩:=DataW.trod_int c h;injection e with e _;subst e;refine ⟨n,O,?_⟩;simp [Lit.wf,IntKind.min,IntKind.max,IntKind.signed,IntKind.bits] at f;omega
  case string=>subst a;obtain ⟨s,e,_,f⟩:=DataW.trod_string c h;injection e with e _;subst e;exact ⟨s.data.toList,by simp [st],by unfold maxLen at f;simpa using f⟩
  case bool=>subst a;obtain ⟨b,e,_⟩:=DataW.trod_bool c h;injection e with e _;exact ⟨b,e⟩
def open_int {r:Reach}    {d:DataW H} {p:List MemPlace} (a:P.underlying bx=some (.int .i64)) (b:Value.okWide P w r bE bx ae) (h:DataW.Trod enc P w base spare held bx ae d p) : ∃k:Int,ae = .int .i64 k/\-9223372036854775808<=k/\k<=9223372036854775807:=by obtain ⟨n,rfl⟩:=okWide_int a b;obtain ⟨fuel,h⟩:=h;exact VT (s:=.int) (by simp [IG,a]) h
end
end Go.Bw
end
section
namespace Go.Bw
set_option linter.unnecessarySimpa false
open Go Go.RowKit
def hg (As:I bh):bh:=⟨As.flatMap bh.ids,λw=>∀a ∈ As,a.holds w,
 λw e h d a c=>a.loc w e (λk b=>h k<|nO.2 ⟨a,c,b⟩)<|d a c,
 λw d k b=>let ⟨a,c,b⟩:=nO.1 b; a.z6 w (d a c) k b⟩
section
variable {P:dJ} {ops:bH cg} {Q:di->cY->aP->Prop} {n:Z} {ds:I fw} {l:I<|Z×aR} {w0 w:aP} {F:I Z} {L:I bh} {Vs:I View} {rest:I cg} {A:bh} {As:I bh}
def Ws.Ae (h:Ws w0 F (hg (A::As)::L) Vs w):Ws w0 F (A::hg As::L) Vs w:=by
 refine ⟨h.fr,?_,?_,?_,h.vs,?_⟩
 ·intro B a;have e:=h.kn (hg<|A::As) aK;rcases eR.1 a with rfl | a;·exact e _ aK
  ·rcases eR.1 a with rfl | a;·exact λC hC=>e C (by simp [hC])
   ·exact h.kn B (by simp [a])
 ·have:=h.nd;simpa [hg] using this
 ·intro B a k b;rcases eR.1 a with rfl | a;·exact h.own (hg<|B::As) aK k (by simp [hg,b])
  ·rcases eR.1 a with rfl | a;·exact h.own (hg<|A::As) aK k (by simp only [hg,lK] at b ⊢;exact s_ _ b)
   ·exact h.own B (by simp [a]) k b
 ·intro c d B a k b;rcases eR.1 a with rfl | a;·exact h.off c d (hg<|B::As) aK k (by simp [hg,b])
  ·rcases eR.1 a with rfl | a;·exact h.off c d (hg<|A::As) aK k (by simp only [hg,lK] at b ⊢;exact s_ _ b)
   ·exact h.off c d B (by simp [a]) k b
def Ws.Af (h:Ws w0 F (A::hg As::L) Vs w):Ws w0 F (hg (A::As)::L) Vs w:=by
 have e:=h.kn A aK;have f:=h.kn (hg As) aK;refine ⟨h.fr,?_,?_,?_,h.vs,?_⟩
 ·intro B b;rcases eR.1 b with rfl | b
  ·intro C hC;rcases eR.1 hC with rfl | hC;·exact e
   ·exact f C hC
  ·exact h.kn B (by simp [b])
 ·have:=h.nd;simpa [hg] using this
 ·intro B b k a;rcases eR.1 b with rfl | b
  ·simp only [hg,lK,fe] at a;rcases a with a | a;·exact h.own A aK k a
   ·exact h.own (hg As) aK k a
  ·exact h.own B (by simp [b]) k a
 ·intro c d B b k a;rcases eR.1 b with rfl | b
  ·simp only [hg,lK,fe] at a;rcases a with a | a;·exact h.off c d A aK k a
   ·exact h.off c d (hg As) aK k a
  ·exact h.off c d B (by simp [b]) k a
def Ws.VU (h:Ws w0 F L Vs w):Ws w0 F (hg []::L) Vs w:=by
 refine ⟨h.fr,?_,by simpa [hg] using h.nd,?_,h.vs,?_⟩
 ·intro B a;rcases eR.1 a with rfl | a;·intro C hC;cases hC
  ·exact h.kn B a
 ·intro B a k b;rcases eR.1 a with rfl | a;·simp [hg] at b
  ·exact h.own B a k b
 ·intro c d B a k b;rcases eR.1 a with rfl | a;·simp [hg] at b
  ·exact h.off c d B a k b
variable {bx:cn} {cq:aA a6}
def VV {w:aP}  {size m m' c:Z}  {xs:I aR} (h:w.ownsRow 0 bx size (aE cq m c) m xs) (e:m'<=m):w.ownsRow 0 bx size (aE cq m' c) m'<|xs.take<|m'*size:=by
 obtain ⟨f,a⟩:=h;have p:m'*size<=m*size:=x9 _ e;rcases a with ⟨a,q⟩ | ⟨g,cap,cur,hv,i,j,r,b,k,l⟩;·injection a with d n b;subst d b;obtain rfl:m'=0:=ai;exact ⟨aK,bB ⟨O,aK⟩⟩
 ·injection hv with d n o;subst d o;refine ⟨by rw [m3,f];omega,be ⟨g,c,cur,O,i,j,ai,b,k,?_⟩⟩;rw [<-l,H3];congr 1;omega
variable {aB:Type} {ej:aB->I aR}
def Nw {k:Z} (a:∀x,(ej x).length=k):∀(xs:I aB) (m:Z),(xs.flatMap ej).take (m*k)=(xs.take m).flatMap ej| [],m=>by simp| x::r,0=>by simp| x::r,m+1=>by simp only [lK,qq];rw [HX,a,mz (by rw [a,wK];omega),<-Nw a r m];congr 2;rw [wK];omega
def WL.VW {k c:Z}  {xs:I aB} (i m:Z) (hL:L[i]? = aa (cQ bx k ej cq c xs)) (e:∀x,(ej x).length=k) (f:m<=xs.length)
   (h:WL P ops Q n ds l (Ws w0 F (L.set i<|cQ bx k ej cq c<|xs.take m) Vs) rest):WL P ops Q n ds l (Ws w0 F L Vs) rest:=by
 refine LW (λw a=>?_) h;have g:w.ownsRow 0 bx k (aE cq xs.length c) xs.length<|xs.flatMap ej:=a.kn _<|gd hL;have b:=VV g f;rw [Nw e] at b;refine Ws.vv a i hL (Fr.refl _ _) ?_ (by simp [eV];cases cq<;>simp [l8])<|λk d=>?_;·show w.ownsRow 0 bx k (aE cq (xs.take m).length c) (xs.take m).length _;rw [show (xs.take m).length=m by simp;omega];exact b
 ·refine bB ?_;simp only [eV] at d ⊢;cases cq<;>simpa [l8] using d
end
section
variable {P:dJ} {l:I<|Z×aR} {W:aP->Prop} {d:aA Tmp} {ty:cn} {pos:fO} {af:bH fY} {g:aA<|Z×aS}
variable {bx:cn} {bo ck:ei} {cq:aA a6} {bE aL dl:Z} {fy:IntKind} {az:ac}
def vC (n:Nat) (a:g_ P bx=some dl) (b:b9 l bo=some (.slice cq bE aL)) (c:∀p,cq=some p->p.spot=none) (e:b9 l ck=some (.int fy az)) (f:az=(n:Int)) (h:n<=aL) : Yl P l W ⟨d,.slice bx bo none (some ck) none,ty,pos,af,g⟩<|.slice cq n aL:=by subst f;exact M' a b c e ai ai
def Ch (n:Nat) (a:g_ P bx=some dl) (h:b9 l bo=some (.slice cq bE aL)) (i:b9 l ck=some (.int fy az)) (j:az=(n:Int)) (k:n<=bE) (o:bE<=aL) : Yl P l W ⟨d,.slice bx bo (some ck) none none,ty,pos,af,g⟩ (.slice (if aL-n=0 then cq else cq.map (·.add<|n*dl)) (bE-n)<|aL-n):=by
 intro p w c _;subst j;unfold g_ at a;cases b:P.underlying bx with
 | none=>simp [b] at a
 | some m=>
  cases m<;>simp [b] at a;rename_i e;obtain ⟨q,hi,rfl⟩:=a;simp [execOp,c bo _ h,c ck _ i,Instr.sliceAt,Instr.slice,Instr.sliceBounds,Instr.sliceBound,asIntOf,run_underlying b,sizeOf,typeInfo,hi,k];by_cases f:aL=n;·subst f;simp
  ·have:¬aL-n=0:=ai;simp [f,this]
end
variable {aB:Type} {o3:View->Z->Z->aB->Prop} {bE aL:Z} {bN:View} {cq:aA a6} {cv:I aB}
def Sl.drop (h:Sl o3 bE bN cq aL cv) (n:Z) (g:n<=cv.length):Sl o3 bE bN (if aL-n=0 then cq else cq.map (·.add<|n*bE)) (aL-n)<|cv.drop n:=by
 have j:=h.cap;refine ⟨by simp;omega,by have:=h.max;omega,?_,λi x c=>?_⟩
 ·intro p a k;split at a;·omega
  ·cases cq with| none=>cases a| some q=>have e:=h.spot q rfl ai;obtain ⟨b,o,s⟩:=q;obtain rfl:s=ao:=e;simp [r3] at a;subst a;rfl
 ·rw [H0] at c;have hi:=(cN.1 c).1;obtain ⟨b,o,f,d⟩:=h.ct _ _ c;subst f;refine ⟨b,o+n*bE,?_,?_⟩;·rw [aj ai];simp [r3]
  ·rw [wK] at d;rw [vm];exact d
def Sl.take (h:Sl o3 bE bN cq aL cv) (n:Z):Sl o3 bE bN cq aL<|cv.take n:= ⟨by have:=h.cap;simp;omega,h.max,h.spot,λi x a=>h.ct i x (by
 rw [jF] at a;split at a;·exact a
 ·cases a)⟩
end Go.Bw
end
section
namespace Go.Bw
set_option linter.unnecessarySimpa false
open Go Go.RowKit
section
variable {P:dJ} {md:q7} {ops:bH cg} {S:I Z} {C D:aP->Prop} {Q:di->cY->aP->Prop}
def pR (S:I Z) (a:bH aS):Prop:=∀s ∈ S,a.getD s ad=aq
def gq (P:dJ) (md:q7) (ops:bH cg) (S:I Z) (C D:aP->Prop) (Q:di->cY->aP->Prop):Z->bH aS->cY->aP->Prop| 0,listed,a,w=>((pR S listed->C w)/\D w)/\ld md ops listed=[]/\Q .normal a w| fuel+1,listed,a,w=>((pR S listed->C w)/\D w)/\(ld md ops listed=[]->Q .normal a w)/\ ∀i ∈ ld md ops listed,wpOp P ops Q i (gq P md ops S C D Q fuel<|listed.setIfInBounds i ad) a w
def Nx:∀(fuel:Z) (b:bH aS) (a:cY) (w:aP),gq P md ops S C D Q fuel b a w->wpAny P md ops Q fuel b a w| 0,_,_,_,h=>h.2| fuel+1,b,a,w,h=>⟨h.2.1,λi hi=>wpOp_mono (λc d e=>Nx fuel _ c d e)<|h.2.2 i hi⟩
variable {bE:Z} {ka:bH aS} {cm:aP}
def gq.c {a:cY}  (h:gq P md ops S C D Q bE ka a cm):(pR S ka->C cm)/\D cm:=by cases bE<;>exact h.1
def Fc (hi:bE ∉ S) :pR S (ka.setIfInBounds bE ad)↔pR S ka:=by
 constructor
 ·intro h s a;have b:bE≠s:=λe=>by subst e;exact hi a
  have:=h s a;rwa [getD_set_ne ad b] at this
 ·intro h s a;have b:bE≠s:=λe=>by subst e;exact hi a
  rw [getD_set_ne ad b];exact h s a
def lD (md:q7) (ops:bH cg) (a:bH aS):Prop:=∀(j:Z) (o:cg),ops[j]? = aa o->a.getD j ad=ad->∀e ∈ o.after,rY md e=ad->a.getD e.on ad=ad
def Ah (md:q7) (ops:bH cg) (i:Z):Z->Z->aS| 0,_=>aq| f+1,s=>match ops[s]? with| aa os=>os.after.any λe=>rY md e&&(ju e.on i||Ah md ops i f e.on)| ao=>aq
def Ny (g:lD md ops ka) :∀(f s:Z),Ah md ops bE f s=ad->(∀o,ops[s]? = aa o->∀e ∈ o.after,rY md e=ad->ka.getD e.on ad=ad)->ka.getD bE ad=ad
 | 0,s,h,_=>by simp [Ah] at h
 | f+1,s,h,i=>by
  simp only [Ah] at h;cases a:ops[s]? with
  | none=>simp [a] at h
  | some o=>
   simp only [a] at h;obtain ⟨e,j,b⟩:=bH.any_eq_true'.1 h;simp only [eI,zS] at b;have c:=i o a e j b.1;rcases b.2 with d | d;·have:=o0 d;rw [this] at c;exact c
   ·exact Ny g f e.on d λk l m n p=>g e.on k l c m n p
def Nz (d:bE ∈ ld md ops ka):∀o,ops[bE]? = aa o->∀e ∈ o.after,rY md e=ad->ka.getD e.on ad=ad:=by
 intro o f e g h;obtain ⟨_,j,a,i⟩:=mem_ready.1 d;rw [f] at a;injection a with a;subst a;have c:=i e g h;rcases m2 e.on ka.size with b | b;·simp [lI,b] at c ⊢;exact c
 ·simp [lI,zN b]
def lD.set (h:lD md ops ka) (i:bE ∈ ld md ops ka):lD md ops<|ka.setIfInBounds bE ad:=by
 have up:∀k,ka.getD k ad=ad->(ka.setIfInBounds bE ad).getD k ad=ad:=by
  intro k b;by_cases a:bE=k
  ·subst a;rcases m2 bE ka.size with c | c;·simp [lI,c]
   ·simp [lI,c]
  ·rw [getD_set_ne ad a];exact b
 intro k o d b e f g;by_cases a:bE=k;·subst a;exact up _<|Nz i o d e f g
 ·rw [getD_set_ne ad a] at b;exact up _<|h k o d b e f g
def Kept (md:q7) (ops:bH cg) (S:I Z) (C D a:aP->Prop) (i:Z):Prop:= (∀w,D w->a w)\/((∀w,C w->a w)/\∀s ∈ S,Ah md ops i ops.size s=ad)
variable {e6:cg} {ae:aR}
def VX {q:aP->Prop} (hi:ops[bE]? = aa e6) (A:∀(j:Z) (o:cg) cs b,ops[j]? = aa o->o.op≠.select cs b) (K:∀c a w,Q (.panic c) (a.put e6.dst ae) w->Q (.panic c) a w) (L:bE ∉ S) (g:Kept md ops S C D q bE) : ∀(fuel:Z) (d:bH aS) (a:cY) (w:aP), (∀j n,ops[j]? = aa n->j≠bE->d.getD j ad=aq->(∀e ∈ n.after,rY md e=ad->e.on≠bE)->e6.apart ops n=ad)-> bE ∈ ld md ops d->lD md ops d->YV P ops q e6 ae a->((pR S d->C w)/\D w)->((∀w,D w->q w)\/pR S d)-> gq P md ops S C D Q fuel (d.setIfInBounds bE ad) (a.put e6.dst ae) w->gq P md ops S C D Q (fuel+1) d a w:=by
 have B:∀(d:bH aS) (w:aP),((pR S d->C w)/\D w)->((∀w,D w->q w)\/pR S d)->q w:=by
  intro d w f p;rcases p with p | p;·exact p w f.2
  ·rcases g with g | g;·exact g w f.2
   ·exact g.1 w<|f.1 p
 intro fuel;induction fuel with
 | zero=>
  intro d a w _ l _ u hC m s;refine ⟨hC,λh=>(by rw [h] at l;cases l),λj r=>?_⟩;by_cases i:j=bE;·subst i;exact u.wpOp hi (B _ _ hC m) s
  ·have:=ready_mono r i;rw [s.2.1] at this;cases this
 | succ fuel M=>
  intro d a w E l F u hC m s;refine ⟨hC,λh=>(by rw [h] at l;cases l),λj r=>?_⟩;by_cases i:j=bE;·subst i;exact u.wpOp hi (B _ _ hC m) s
  ·have f:=s.2.2 j<|ready_mono r i;obtain ⟨G,n,v,N⟩:=mem_ready.1 r;have O:∀e ∈ n.after,rY md e=ad->e.on≠bE:=λe R T U=>by
    have f:=N e R T;have t:=(mem_ready.1 l).1;rw [U] at f;rcases m2 bE d.size with x | x;·simp [x] at t f;rw [t] at f;cases f
    ·simp [zN x] at f
   have V:(∀w,D w->q w)\/pR S (d.setIfInBounds j ad):=by
    rcases g with g | g;·exact bB g
    ·rcases m with m | m;·exact bB m
     ·refine be<|(Fc λW=>?_).2 m;have X:=Ny F _ j (g.2 j W)<|Nz r;have t:=(mem_ready.1 l).1;rw [X] at t;cases t
   have p:=M_ v (E j n v i G O) (λcs b=>A bE e6 cs b hi) (λcs b=>A j n cs b v) K u f;have Y:∀k ok,ops[k]? = aa ok->k≠bE->(d.setIfInBounds j ad).getD k ad=aq-> (∀e ∈ ok.after,rY md e=ad->e.on≠bE)->e6.apart ops ok=ad:=λk ok ab af H ag=>by
    refine E k ok ab af ?_ ag;by_cases J:j=k;·subst J;exact G
    ·rw [getD_set_ne ad J] at H;exact H
   refine wpOp_mono (λah ai y=>M (d.setIfInBounds j ad) ah ai Y (ready_mono l<|x_ i) (F.set r) y.1 ?_ V ?_) p;·have z:=y.2.c;rw [HU _ _<|x_ i] at z;exact ⟨λaj=>z.1<|(Fc L).2 aj,z.2⟩
   ·rw [HU _ _ i];exact y.2
inductive qy where
 | nil
 | stop
 | q (m:Bool) (i:Nat) (r:qy)
 | e (i:Nat) (r alt:qy)
def qy.alts:qy->I Z| .e i _ a=>i::a.alts| _=>[]
def behind (md:q7) (ops:bH cg) (i:Z) (S:I Z):aS:=S.all λs=>Ah md ops i ops.size s
def Fe (i:Z) (S:I Z):aS:=S.all λs=>!(ju s i)
def NA (h:Fe bE S=ad):bE ∉ S:=λhi=>by have:=gA.1 h bE hi;simp at this
def wX (md:q7) (ops:bH cg):I Z->bH aS->aS| [],listed=>(ld md ops listed).isEmpty| s::r,listed=>ld md ops listed==[s]&&wX md ops r (listed.setIfInBounds s ad)
def mE (md:q7) (ops:bH cg) (S:I Z):aS->qy->Z->bH aS->aS
 | top,.nil,k,listed=>top&&(ju k S.length&&wX md ops S listed)| top,.stop,_,_=>!top| top,.q m i r,k,listed=>match k with| 0=>aq| k+1=>top&&((ld md ops listed).contains i&&(Region.free md ops listed i&&(Fe i S&&((!m||behind md ops i S)&&mE md ops S ad r k (listed.setIfInBounds i ad)))))
 | top,.e i r alt,k,listed=>match k with| 0=>aq| k+1=>(bif top then ld md ops listed==i::alt.alts else ad)&&(Fe i S&&(mE md ops S ad r k (listed.setIfInBounds i ad)&&mE md ops S aq alt (k+1) listed))
def wY (P:dJ) (ops:bH cg) (D:aP->Prop) (Q:di->cY->aP->Prop):I Z->cY->aP->Prop| [],a,w=>D w/\Q .normal a w| s::r,a,w=>D w/\wpOp P ops Q s (wY P ops D Q r) a w
def uo (P:dJ) (ops:bH cg) (S:I Z) (C D:aP->Prop) (Q:di->cY->aP->Prop):qy->cY->aP->Prop| .nil,a,w=>C w/\wY P ops D Q S a w| .stop,_,_=>True| .q m i r,a,w=>(C w/\D w)/\∃o v,ops[i]? = aa o/\YV P ops (bif m then C else D) o v a/\uo P ops S C D Q r (a.put o.dst v) w| .e i r alt,a,w=>(C w/\D w)/\(wpOp P ops Q i (uo P ops S C D Q r) a w/\uo P ops S C D Q alt a w)
def VY:∀(r:I Z) (b:bH aS) (a:cY) (w:aP),(r=S/\C w\/¬pR S b)->(∀s ∈ r,s ∈ S)->(∀s ∈ r,b.getD s ad=aq)->wX md ops r b=ad->wY P ops D Q r a w->gq P md ops S C D Q r.length b a w
 | [],b,a,w,c,_,_,d,h=>⟨⟨λe=>(by rcases c with c | c;exact c.2;exact absurd e c),h.1⟩,by simpa [wX] using d,h.2⟩
 | s::r,b,a,w,c,l,o,d,h=>by
  simp only [wX,eI,j8] at d;refine ⟨⟨λe=>(by rcases c with c | c;exact c.2;exact absurd e c),h.1⟩,λi=>(by rw [i] at d;cases d.1),λj g=>?_⟩;rw [d.1] at g;simp at g;subst g;have p:j<b.size:=by
   have:=o j aK;rcases m2 j b.size with f | f;·exact f
   ·simp [zN f] at this
  have q:¬pR S (b.setIfInBounds j ad):=λe=>by have:=e j<|l j aK;simp [lI,p] at this
  refine wpOp_mono (λm n f=>NB r (b.setIfInBounds j ad) m n q (λs k=>l s (by simp [k])) d.2 f) h.2 where NB:∀(r:I Z) (b:bH aS) (a:cY) (w:aP),¬pR S b->(∀s ∈ r,s ∈ S)->wX md ops r b=ad->wY P ops D Q r a w->gq P md ops S C D Q r.length b a w
 | [],b,a,w,c,_,d,h=>⟨⟨λe=>absurd e c,h.1⟩,by simpa [wX] using d,h.2⟩
 | s::r,b,a,w,c,l,d,h=>by
  simp only [wX,eI,j8] at d;refine ⟨⟨λe=>absurd e c,h.1⟩,λi=>(by rw [i] at d;cases d.1),λj g=>?_⟩;rw [d.1] at g;simp at g;subst g;refine wpOp_mono (λm n f=>NB r (b.setIfInBounds j ad) m n (λe=>c λs k=>?_) (λs k=>l s (by simp [k])) d.2 f) h.2;have:=e s k;rcases Z.decEq j s with t | i;·rwa [getD_set_ne ad t] at this
  ·subst i;rcases m2 j b.size with f | f;·simp [lI,f] at this
   ·simp [lI] at this
def Ff {ok:aA Tmp->aS} (p:yt ok ops=ad) (l:q8 ops=ad) (t:∀c a w d v,ok d=ad->Q (.panic c) (a.put d v) w->Q (.panic c) a w):∀(o:qy) (k:Z) (f:bH aS) (a:cY) (w:aP),pR S f->lD md ops f-> (mE md ops S ad o k f=ad->uo P ops S C D Q o a w->gq P md ops S C D Q k f a w)/\ ((∀j ∈ o.alts,j ∈ ld md ops f)->mE md ops S aq o k f=ad->uo P ops S C D Q o a w->∀j ∈ o.alts,∃x,k=x+1/\wpOp P ops Q j (gq P md ops S C D Q x<|f.setIfInBounds j ad) a w)
 | .nil,k,f,a,w,hu,_=>by refine ⟨λb h=>?_,λ_ b=>by simp [mE] at b⟩;simp only [mE,yc,eI] at b;obtain rfl:=o0 b.1;exact VY S f a w (bB ⟨O,h.1⟩) a' hu b.2 h.2| .stop,k,f,a,w,hu,_=>⟨λb=>by simp [mE] at b,λ_ _ _ j g=>by simp [qy.alts] at g⟩
 | .q m i r,k,f,a,w,hu,n=>by
  cases k with
  | zero=>exact ⟨λb=>by simp [mE] at b,λ_ b=>by simp [mE] at b⟩
  | succ k=>
   refine ⟨λb h=>?_,λ_ b=>by simp [mE] at b⟩;simp only [mE,yc,eI] at b;obtain ⟨G,H,J,A,K⟩:=b;obtain ⟨hC,o,v,y,L,h⟩:=h;have B:=NA J;have M:Kept md ops S C D (bif m then C else D) i:=by cases m with| false=>exact bB λ_ h=>h| true=>refine be ⟨λ_ h=>h,λs l=>?_⟩;simp only [aS.not_true,zT] at A;exact gA.1 A s l
   have E:i ∈ ld md ops f:=by simpa using G
   exact VX y (Region.noSelect_spec l) (λc a w=>t c a w o.dst v<|Nu p y) B M k f a w (Region.free_spec y H) E n L ⟨λ_=>hC.1,hC.2⟩ (be hu)<|(Ff p l t r k _ _ _ ((Fc B).2 hu)<|n.set E).1 K h
 | .e i r alt,k,f,a,w,hu,n=>by
  cases k with
  | zero=>exact ⟨λb=>by simp [mE] at b,λ_ b=>by simp [mE] at b⟩
  | succ k=>
   have F:(∀j ∈ i::alt.alts,j ∈ ld md ops f)->Fe i S=ad->mE md ops S ad r k (f.setIfInBounds i ad)=ad->mE md ops S aq alt (k+1) f=ad->uo P ops S C D Q (.e i r alt) a w-> ∀j ∈ i::alt.alts,wpOp P ops Q j (gq P md ops S C D Q k<|f.setIfInBounds j ad) a w:=by
    intro u N R T h j g;rcases eR.1 g with rfl | g;·exact wpOp_mono (λU V W=>(Ff p l t r k _ U V ((Fc<|NA N).2 hu)<|n.set<|u _ aK).1 R W) h.2.1
    ·obtain ⟨x,z,X⟩:=(Ff p l t alt (k+1) f a w hu n).2 (λj g=>u j (by simp [g])) T h.2.2 j g;injection z with z;subst z;exact X
   refine ⟨λb h=>?_,λu b h j g=>?_⟩;·simp only [mE,wO,eI,j8] at b;refine ⟨⟨λ_=>h.1.1,h.1.2⟩,λY=>(by rw [Y] at b;cases b.1),λj g=>?_⟩;rw [b.1] at g;exact F (λj g=>by rw [b.1];exact g) b.2.1 b.2.2.1 b.2.2.2 h j g
   ·simp only [mE,tz,yc,eI] at b;exact ⟨k,O,F u b.1 b.2.1 b.2.2 h j g⟩
variable {n:Z} {ds:I fw} {l:I<|Z×aR} {W:aP->Prop}
def WU (P:dJ) (ops:bH cg) (S:I Z) (C D:aP->Prop) (Q:di->cY->aP->Prop) (n:Z) (ds:I fw) (l:I<|Z×aR) (W:aP->Prop) (ord:qy):Prop:= ∀a w,Ag n ds l a->W w->uo P ops S C D Q ord a w
def WS (P:dJ) (ops:bH cg) (D:aP->Prop) (Q:di->cY->aP->Prop) (n:Z) (ds:I fw) (l:I<|Z×aR) (W:aP->Prop) (S:I Z):Prop:= ∀a w,Ag n ds l a->W w->wY P ops D Q S a w
abbrev rh:aP->Prop:=λ_=>True
def Fg (k:Z) (S:I Z):aS:=S.all λs=>e' s k
def VZ (h:Fg ops.size S=ad):pR S<|vk ops.size aq:=λs a=>by have:=gA.1 h s a;have b:=Z.blt_eq.mp this;simp [lI,b]
variable {aH:I cg}
def WC.NC {W' e f:aP->Prop} (ok:aA Tmp->aS) (S:I Z) (ord:qy) (g:P.follows .mixedOrders=ad) (i:∀w,W' w->W' w.drew) (b:(yt ok aH.toArray&&(q8 aH.toArray&&(Fg aH.toArray.size S&&mE .any aH.toArray S ad ord aH.toArray.size (vk aH.toArray.size aq))))=ad) (k:∀c a w d v,ok d=ad->Q (.panic c) (a.put d v) w->Q (.panic c) a w) (h:WU P aH.toArray S e f Q n ds l W' ord):WC P (.region bE aH.toArray ad) Q n ds l W':=by
 intro a w m p;simp only [eI] at b;have:=Nx (md:=.any) _ _ _ _<|(Ff b.1 b.2.1 k ord _ _ a w.drew (VZ b.2.2.1) (λj o q r=>by
  have s:j<aH.length:=by simpa using (bH.getElem?_eq_some_iff.1 q).1
  simp [lI,bH.getElem?_replicate,s] at r)).1 b.2.2.2<|h a w.drew m<|i w p;exact wp_region_any g this
variable {cS:I Z} {dG:I bh} {fh:I View}
def CU (ok:aA Tmp->aS) (is:I Z) (S:I Z) (ord:qy) (b:P.follows .mixedOrders=ad) (e:(yt ok aH.toArray&&(q8 aH.toArray&&(Fg aH.toArray.size S&&mE .any aH.toArray S ad ord aH.toArray.size (vk aH.toArray.size aq))))=ad) (f:∀c a w d v,ok d=ad->Q (.panic c) (a.put d v) w->Q (.panic c) a w) (h:WU P aH.toArray S (Ws cm cS (outs is dG) fh) rh Q n ds l (Ws cm cS dG fh) ord):WC P (.region bE aH.toArray ad) Q n ds l<|Ws cm cS dG fh:= WC.NC ok S ord b (λ_ h=>h.drew) e f h
def WC.WI (ok:aA Tmp->aS) (is b:I Z) (S:I Z) (ord:qy) (e:P.follows .mixedOrders=ad) (f:(yt ok aH.toArray&&(q8 aH.toArray&&(Fg aH.toArray.size S&&mE .any aH.toArray S ad ord aH.toArray.size (vk aH.toArray.size aq))))=ad) (g:∀c a w d v,ok d=ad->Q (.panic c) (a.put d v) w->Q (.panic c) a w) (h:WU P aH.toArray S (Ws cm cS (outs is dG) fh) (Ws cm cS (outs b dG) fh) Q n ds l (Ws cm cS dG fh) ord):WC P (.region bE aH.toArray ad) Q n ds l<|Ws cm cS dG fh:= WC.NC ok S ord e (λ_ h=>h.drew) f g h
variable {dS:aS} {qz:qy} {aL:Z} {cL:Op} {bx:cn} {gS:fO} {hy:bH fY} {bP:aA<|Z×aS}
def WV.q (hi:ops[bE]? = aa ⟨aa aL,cL,bx,gS,hy,bP⟩) (d:eS ops l bP) (e:e' aL n=ad) (hC:∀w,W w->C w) (f:∀w,W w->D w) (g:Yl P l (bif dS then C else D) ⟨aa aL,cL,bx,gS,hy,bP⟩ ae) (h:WU P ops S C D Q n ds ((aL,ae)::l) W qz):WU P ops S C D Q n ds l W<|.q dS bE qz:=by intro a w b c;refine ⟨⟨hC w c,f w c⟩,_,ae,hi,bB ⟨eS.wanted (o:=⟨aa aL,cL,bx,gS,hy,bP⟩) d b,λi j=>g a.eval i (λx u k=>b.eval k) j⟩,h _ _ (b.put e ae) c⟩
def Uq (hi:ops[bE]? = aa ⟨aa aL,cL,bx,gS,hy,bP⟩) (a:eS ops l bP) (b:e' aL n=ad) (hC:∀w,W w->C w) (c:Yl P l (bif dS then C else λ_=>True) ⟨aa aL,cL,bx,gS,hy,bP⟩ ae) (h:WU P ops S C rh Q n ds ((aL,ae)::l) W qz):WU P ops S C rh Q n ds l W<|.q dS bE qz:=WV.q hi a b hC (λ_ _=>trivial) c h
def U0 (hi:ops[bE]? = aa ⟨aa aL,cL,bx,gS,hy,ao⟩) (hC:∀w,W w->C w) (a:Yl P l (bif dS then C else λ_=>True) ⟨aa aL,cL,bx,gS,hy,ao⟩ ae) (h:WU P ops S C rh Q n ds ((aL,ae)::l) W qz) (b:e' aL n=ad:=by rfl):WU P ops S C rh Q n ds l W<|.q dS bE qz:=Uq hi (bB rfl) b hC a h
def WU.skip {j:Z}   {b:Z} (hi:ops[bE]? = aa ⟨aa aL,cL,bx,gS,hy,aa (j,dS)⟩) (f:e' aL n=ad) (g:ops[j]? = aa e6) (i:e6.dst=aa b) (k:e' b n=ad) (m:lk l b=aa (bW<|!dS)) (hC:∀w,W w->C w) (h:WU P ops S C rh Q n ds ((aL,undef)::l) W qz):WU P ops S C rh Q n ds l W<|.q aq bE qz:=by
 intro a w c d;have hv:a.tmps.getD b undef = bW (!dS):=c.jT b _ m;have e:b<a.tmps.size:=by rw [c.size];exact s9 k
 have o:a.tmps[b]? = aa (bW<|!dS):=by rw [lI,x6 e] at hv;rw [x6 e];simpa using hv
 have p:yielded ops a.tmps j=aa (!dS):=by simp [yielded,g,i,o]
 exact ⟨⟨hC w d,trivial⟩,_,undef,hi,be ⟨by simp [nN,p],O⟩,h _ _ (c.put f undef) d⟩
def ND {d:cY->aP->Prop} (hi:ops[bE]? = aa e6) {a:cY}  (this:wpList P ops (di.then d Q) [e6] a cm):wpOp P ops Q bE d a cm:=by
 unfold wpList at this;unfold wpOp;simp only [hi];split
 ·rename_i c;rw [aD c] at this;rcases this with this | ⟨f,a2,g,h⟩;·left;unfold kt at this ⊢;unfold cg.upon at this ⊢;split at this;all_goals first|exact this|(refine this.mono λe i b=>?_;cases e with| returned v=>exact b| panicked l=>exact b| outgrown=>obtain ⟨a3,j,k⟩:=b;exact ⟨a3,j,k⟩)|exact this.mono λv i b=>b
  ·exact be ⟨f,a2,g,h⟩
 ·rename_i c;rw [aj c] at this;exact this
variable {Fh:qy}
def WV.e {o:cg} (hi:ops[bE]? = aa o) (hC:∀w,W w->C w) (d:∀w,W w->D w) (h:WL P ops (di.then (uo P ops S C D Q qz) Q) n ds l W [o]) (f:WU P ops S C D Q n ds l W Fh):WU P ops S C D Q n ds l W<|.e bE qz Fh:= λa w c b=>⟨⟨hC w b,d w b⟩,ND hi<|h a w c b,f a w c b⟩
def Ue (hi:ops[bE]? = aa e6) (hC:∀w,W w->C w) (h:WL P ops (di.then (uo P ops S C rh Q qz) Q) n ds l W [e6]) (a:WU P ops S C rh Q n ds l W Fh):WU P ops S C rh Q n ds l W<|.e bE qz Fh:=WV.e hi hC (λ_ _=>trivial) h a
def WU.stop:WU P ops S C D Q n ds l W .stop:=λ_ _ _ _=>trivial
def Eu (h:WU P ops S C D Q n ds l W qz):WE (di.then (uo P ops S C D Q qz) Q) .normal n ds l W:=h
def WU.nil (hC:∀w,W w->C w) (h:WS P ops D Q n ds l W S):WU P ops S C D Q n ds l W .nil:=λa w c b=>⟨hC w b,h a w c b⟩
def nT.nil (c:∀w,W w->D w) (h:WE Q .normal n ds l W):WS P ops D Q n ds l W []:=λa w d b=>⟨c w b,h a w d b⟩
def WS.nil (h:WE Q .normal n ds l W):WS P ops rh Q n ds l W []:=nT.nil (λ_ _=>trivial) h
def nT.e {o:cg} (hi:ops[bE]? = aa o) (c:∀w,W w->D w) (h:WL P ops (di.then (wY P ops D Q cS) Q) n ds l W [o]):WS P ops D Q n ds l W<|bE::cS:= λa w d b=>⟨c w b,ND hi<|h a w d b⟩
def WS.e {o:cg} (hi:ops[bE]? = aa o) (h:WL P ops (di.then (wY P ops rh Q cS) Q) n ds l W [o]):WS P ops rh Q n ds l W<|bE::cS:=nT.e hi (λ_ _=>trivial) h
def Es (h:WS P ops D Q n ds l W cS):WE (di.then (wY P ops D Q cS) Q) .normal n ds l W:=h
end
end Go.Bw
end
section
namespace Go.Bw
set_option linter.unnecessarySimpa false
open Go Go.RowKit
def IH {α:Type} {f:α->I aR} {e:cn} {k c b o:Z} {a:aA a6} {xs:I α} {w:aP} (h:(cQ e k f a c xs).holds w) (i:a=aa ⟨b,o,ao⟩) : o=0/\∃cur,w.heap[b]? = aa (aY cur e (0,0))/\cur.toList.take (xs.length*k)=xs.flatMap f/\cur.size=c*k/\xs.length<=c:=by
 subst i;obtain ⟨s,j⟩:=(h:w.ownsRow 0 e k _ xs.length (xs.flatMap f));rcases j with ⟨d,_⟩ | ⟨g,cap,cur,hv,_,l,m,t,n,p⟩;·cases d
 ·injection hv with d _ q;injection d with d;injection d with d r;subst d q r;exact ⟨O,cur,l,p,n,m⟩
section
variable {P:dJ} {ops:bH cg} {Q:di->cY->aP->Prop} {n:Z} {ds:I fw} {l:I<|Z×aR} {w0:aP} {F:I Z} {L:I bh} {Vs:I View} {rest:I cg} {ty:cn} {pos:fO} {af:bH fY} {g:aA<|Z×aS}
variable {aB:Type} {ej:aB->I aR} {bx:cn} {bE aL:Z} {cq:aA a6} {cv:I aB}
def II {w:aP} (d:Ws w0 F L Vs w) (i:Z) (hL:L[i]? = aa (cQ bx bE ej cq aL cv)) (h:0<cv.length):(∃b,cq=aa ⟨b,0,ao⟩)/\cv.length<=aL/\aL<=maxLen:=by
 obtain ⟨j,e⟩:=(d.kn _<|gd hL:w.ownsRow 0 bx bE _ cv.length (cv.flatMap ej));rcases e with ⟨a,c⟩ | ⟨b,cap,cur,hv,_,_,f,g,_⟩;·injection a with _ k _;omega
 ·injection hv with a _ c;subst a c;exact ⟨⟨b,O⟩,f,g⟩
variable {gE:Code}
def WC.tf (i:Z) (hL:L[i]? = aa (cQ bx bE ej cq aL cv)) (c:0<cv.length) (h:∀b,cq=aa ⟨b,0,ao⟩->cv.length<=aL->aL<=maxLen->WC P gE Q n ds l (Ws w0 F L Vs)):WC P gE Q n ds l<|Ws w0 F L Vs:=by intro d w e a;obtain ⟨⟨b,f⟩,g,j⟩:=II a i hL c;exact h b f g j d w e a
def WL.tf (i:Z) (hL:L[i]? = aa (cQ bx bE ej cq aL cv)) (c:0<cv.length) (h:∀b,cq=aa ⟨b,0,ao⟩->cv.length<=aL->aL<=maxLen->WL P ops Q n ds l (Ws w0 F L Vs) rest):WL P ops Q n ds l (Ws w0 F L Vs) rest:=by intro d w e a;obtain ⟨⟨b,f⟩,g,j⟩:=II a i hL c;exact h b f g j d w e a
def WC.V1 (i:Z) (hL:L[i]? = aa (cQ bx bE ej cq aL cv)) (h:(∀p,cq=aa p->p.spot=ao)->cv.length<=aL->aL<=maxLen->WC P gE Q n ds l (Ws w0 F L Vs)):WC P gE Q n ds l<|Ws w0 F L Vs:=by
 intro d w e a;obtain ⟨q,g⟩:=(a.kn _<|gd hL:w.ownsRow 0 bx bE _ cv.length (cv.flatMap ej));rcases g with ⟨c,f⟩ | ⟨b,cap,cur,hv,_,_,j,k,_⟩;·injection c with m r o;subst m o;exact h aK ai (by unfold maxLen;omega) d w e a
 ·injection hv with c _ f;subst c f;exact h aK j k d w e a
variable {eY:cn} {ae:aR}
def nU {x:ei} {b o p k c:Z}   {y:aB}  {d:aA Tmp} (i j q:Z) (h:b9 l x=aa (b8<|aa ⟨b,p,ao⟩)) (hL:L[i]? = aa (cQ eY k ej cq c cv)) (m:cq=aa ⟨b,o,ao⟩) (n:p=o+j*k+q) (e:∀x,(ej x).length=k) (r:cv[j]? = aa y) (f:(ej y)[q]? = aa ae) (s:fJ P bx=ad):Yl P l (Ws w0 F L Vs) ⟨d,.load bx x,ty,pos,af,g⟩ ae:=B6 s h λw t=>by
 obtain ⟨rfl,cur,u,v,A,B⟩:=IH (t.kn _<|gd hL) m;refine cell_of_heap u ?_;have z:q<k:=by have:=(cN.1 f).1;rw [e] at this;exact this
 have a:(cv.flatMap ej)[j*k+q]? = aa ae:=by rw [pM e r z];exact f
 rw [<-v,jF] at a;split at a;·subst n;simpa [cz] using a
 ·cases a
def WL.storeT {x z:ei} {b o p k a c:Z}   {y:aB}  (i j q:Z) (e:aB) (E:eS ops l g) (G:b9 l x=aa (b8<|aa ⟨b,p,ao⟩)) (H:b9 l z=aa ae) (hL:L[i]? = aa (cQ eY k ej cq c cv)) (f:cq=aa ⟨b,o,ao⟩) (J:p=o+j*k+q) (t:∀x,(ej x).length=k) (u:cv[j]? = aa y) (K:e2 P bx=aa a) (m:(bm ae).length=a) (M:(bm ae).all (·.oneCell')=ad) (az:q+a<=k) (N:ej e=(ej y).take q++bm ae++(ej y).drop (q+a)) (h:WL P ops Q n ds l (Ws w0 F (L.set i<|cQ eY k ej cq c<|cv.set j e) Vs) rest):WL P ops Q n ds l (Ws w0 F L Vs)<|⟨ao,.store bx x z,ty,pos,af,g⟩::rest:=by
 refine WL.step E λR w r v aD S=>?_;have A:(cQ eY k ej cq c cv).holds w:=v.kn _<|gd hL;obtain ⟨rfl,cur,B,T,s,U⟩:=IH A f;have V:j<cv.length:=(cN.1 u).1;have aF:j*k+k<=cv.length*k:=by rw [<-H4];exact x9 _ V
 have aG:cv.length*k<=c*k:=x9 _ U;have W:ra (aY cur eY (0,0)) p a=ad:=by simp only [ra,BU,HW,aS.and_self];exact sk (by simp [s];omega)
 have X:(execOp R.eval ⟨ao,.store bx x z,ty,pos,af,g⟩).run P w = .ok .skip { w with heap:=w.heap.setIfInBounds b<|mD (aY cur eY (0,0)) p<|bm ae }:=by simp only [execOp,r.eval G,r.eval H,Instr.storeAt,Instr.sureAddr,j7,lG,jc,Im K m M B W]
 simp only [kt,X,cg.upon_skip];refine S _ _<|h _ _ (r.z0 undef) ?_;have Y:=lt_of_heap B;have C:(cv.set j e).length=cv.length:=aK;have ab:=Is t u (j:=q) (vs:=bm ae) (y:=e) ai (by rw [m];exact N);refine Ws.vv v i hL ⟨O,O,O,aK,λag aH ah=>?_⟩ ?_ (by subst f;simp [eV,l8])<|λaI D=>?_;·have:b≠ag:=λaj=>ah (by subst f;simp [eV,l8,aj]);simp [vl this]
 ·show aP.ownsRow _ 0 eY k (aE cq (cv.set j e).length c) (cv.set j e).length _;rw [C];obtain ⟨aL,ak⟩:=(A:w.ownsRow 0 eY k _ cv.length (cv.flatMap ej));refine ⟨by rw [ui t,C],be ?_⟩;rcases ak with ⟨al,_⟩ | ⟨g,cap,aM,hv,aN,aO,ap,au,aQ,aT⟩;·subst f;cases al
  ·subst f;injection hv with d _ av;injection d with d;injection d with d;subst d av;refine ⟨b,c,(cur.toList.take p++bm ae++cur.toList.drop (p+(bm ae).length)).toArray,O,dw _,?_,ap,au,?_,?_⟩;·show (w.heap.setIfInBounds b _)[b]? = _;simp [Y,mD]
   ·simp [s];omega
   ·rw [<-ab,<-T];subst J;simp only [lJ];have aw:cur.toList.length=c*k:=by simp [s]
    have ax:((cur.toList.take<|cv.length*k).take<|j*k+q)=cur.toList.take (j*k+q):=by rw [H3];congr 1;omega
    have ay:(cur.toList.take<|j*k+q).length=j*k+q:=by rw [m3,aw];omega
    have d:(cur.toList.take (j*k+q)++bm ae).length=j*k+q+a:=by rw [iy,ay,m]
    rw [ax,m];have aU:cv.length*k=(j*k+q+a)+(cv.length*k-(j*k+q+a)):=ai;rw [HX,d,mz (by rw [d];omega),I.drop_take]
 ·refine bB ?_;simp only [eV] at D ⊢;subst f;simpa [l8] using D
def WL.Ci (i:Z) (ys:I aB) (hL:L[i]? = aa (cQ bx bE ej cq aL cv)) (a:∀x,(ej x).length=bE) (b:ys.length<=cv.length) (c:cv.take ys.length=ys) (h:WL P ops Q n ds l (Ws w0 F (L.set i<|cQ bx bE ej cq aL ys) Vs) rest):WL P ops Q n ds l (Ws w0 F L Vs) rest:= WL.VW i ys.length hL a b (by rw [c];exact h)
variable {nR:bh} {dG:I bh}
def WL.NE (h:WL P ops Q n ds l (Ws w0 F (nR::hg dG::L) Vs) rest):WL P ops Q n ds l (Ws w0 F (hg (nR::dG)::L) Vs) rest:=LW (λ_ h=>h.Ae) h
def WL.NF (h:WL P ops Q n ds l (Ws w0 F (hg (nR::dG)::L) Vs) rest):WL P ops Q n ds l (Ws w0 F (nR::hg dG::L) Vs) rest:=LW (λ_ h=>h.Af) h
def WC.NE (h:WC P gE Q n ds l<|Ws w0 F (nR::hg dG::L) Vs):WC P gE Q n ds l<|Ws w0 F (hg (nR::dG)::L) Vs:=pI (λ_ h=>h.Ae) h
def WC.NF (h:WC P gE Q n ds l<|Ws w0 F (hg (nR::dG)::L) Vs):WC P gE Q n ds l<|Ws w0 F (nR::hg dG::L) Vs:=pI (λ_ h=>h.Af) h
def WL.perm (a:L.Perm dG) (h:WL P ops Q n ds l (Ws w0 F dG Vs) rest):WL P ops Q n ds l (Ws w0 F L Vs) rest:=LW (λ_ h=>h.perm a) h
end
end Go.Bw
end
section
namespace Go.Bw
set_option linter.unnecessarySimpa false
open Go Go.RowKit
section
variable {P:dJ} {ops:bH cg} {Q:di->cY->aP->Prop} {n:Z} {ds:I fw} {l:I<|Z×aR} {w0 w:aP} {F:I Z} {L:I bh} {Vs:I View} {rest:I cg} {A:bh} {As:I bh}
def Ws.V2 (h:Ws w0 F L Vs w) (i:Z) (hL:L[i]? = aa (hg<|A::As)):Ws w0 F (L.set i<|hg As) Vs w:=by have a:=(h.perm<|pJ i L hL).Ae;have b:Ws w0 F (hg As::gk i L) Vs w:=Ws.drop (L:=[A]) a;exact b.perm<|set_perm i L hL
def Ws.NG (h:Ws w0 F L Vs w) (i:Z) (hL:L[i]? = aa (hg As)) (e:cn) (size:Z):Ws w0 F (L.set i<|hg<|eV e size (aE ao 0 0) 0 []::As) Vs w:=by have a:=(h.perm<|pJ i L hL).hM e size;have b:=a.Af;exact b.perm<|set_perm i L hL
def Ws.bs (h:Ws w0 F L Vs w) (i:Z) (hL:L[i]? = aa A):Ws w0 F (A::gk i L) Vs w:=h.perm<|pJ i L hL
def WL.NH {t f e:TypeId} {z:Value} {kn k:IntKind} {o d:Nat} {x y:Operand} {ty:TypeId} {pos:String} {af:Array Edge} {g:Option<|Nat×Bool} (m:Nat) (q:eS ops l g) (r:Nat.blt d n=true) (i:ii P t e z 1 o) (s:P.underlying f=some (.int kn)) (u:b9 l x=some (.slice none 0 0)) (v:b9 l y=some (.int k (m:Int))) (A:0<m) (p:m<=maxLen) (B:m*o<=281474976710656) (h:∀b c cur,m<=c->c<=maxLen->cur.size=c->WL P ops Q n ds ((d,.slice (some ⟨b,0,none⟩) m c)::l) (Ws w0 F (aQ b (.cells cur e (0,0))::L) Vs) rest) : WL P ops Q n ds l (Ws w0 F L Vs)<|⟨some d,.call ⟨.builtin .append,#[x,y],#[t,f]⟩,ty,pos,af,g⟩::rest:=by
 refine WL.step q λa w j C O D=>?_;obtain ⟨E,hi,G,R,H⟩:=i.info;have J:=Lib.run_append_nil_zeros (P:=P) w t f ty e E z k kn i.under s hi G m A ai (by unfold maxLen at p;omega) (by rw [H];exact B);have K:(execOp a.eval ⟨some d,.call ⟨.builtin .append,#[x,y],#[t,f]⟩,ty,pos,af,g⟩).run P w = .ok (.value<|.slice (some ⟨w.heap.size,0,none⟩) m<|grownCap w m 0 e) (w.drew.alloc<|.cells (Builtin.zeroCells z.cells m++Builtin.zeroCells z.cells (grownCap w m 0 e-m)) e):=by simp only [execOp,resolve,Ba,nt,HT,j.eval u,j.eval v,Sem.run_bind,Sem.run_pure,Result.andThen_ok,invoke,builtin,J]
 simp only [Oper.wp,K,Oper.upon_value];have M:=grownCap_ge w m 0 e;refine D _ _<|h w.heap.size _ (Builtin.zeroCells z.cells m++Builtin.zeroCells z.cells (grownCap w m 0 e-m)) M (grownCap_le_maxLen w m 0 e p) ?_ _ _ (j.put r _) ?_;·have N:z.cells.size=1:=i.zs;simp [Builtin.zeroCells,N];omega
 ·exact C.drew.alloc _
end
section
variable {P:dJ} {l:I<|Z×aR} {W:aP->Prop} {d:aA Tmp} {ty:cn} {pos:fO} {af:bH fY} {g:aA<|Z×aS}
def tW {t:TypeId} {x:Operand} {a:Option Addr} {n c s:Nat} (b:g_ P t=some s) (f:b9 l x=some (.slice a n c)):Yl P l W ⟨d,.call ⟨.builtin .cap,#[x],#[t]⟩,ty,pos,af,g⟩<|.int .i64 (c:Int):=by intro j w h _;unfold g_ at b;cases e:P.underlying t with| none=>simp [e] at b| some i=>cases i<;>simp [e] at b;simp [execOp,resolve,invoke,builtin,h x _ f,Builtin.cap_,run_underlying e,goInt]
end
end Go.Bw
end
section
namespace Go.Bw
set_option linter.unnecessarySimpa false
open Go Go.RowKit
section
variable {P:dJ} {ops:bH cg} {Q:di->cY->aP->Prop} {n:Z} {ds:I fw} {l:I<|Z×aR} {w0 w:aP} {F:I Z} {L:I bh} {Vs:I View} {rest:I cg} {ty:cn} {pos:fO} {af:bH fY} {g:aA<|Z×aS} {d:Z}
def WL.wZ {α:Type} {f:α->I aR} {rd:View->Z->Z->α->Prop} {t e:cn} {z:aR} {size K:Z} {s y:ei} {a a2:aA a6} {c c2:Z} {xs ys:I α} (i:Z) (j:aP->View) (M:eS ops l g) (N:e' d n=ad) (q:ii P t e z size K) (O:b9 l s=aa (aE a xs.length c)) (R:b9 l y=aa (aE a2 ys.length c2)) (hL:L[i]? = aa (cQ e size f a c xs)) (S:∀w,Ws w0 F L Vs w->Le (j w) w/\Sl rd size (j w) a2 c2 ys) (U:∀j b o x,rd j b o x->cB j b o (f x)) (T:∀x,(f x).length=size) (V:∀x,(f x).all (·.oneCell')=ad) (aG:xs.length+ys.length<=9223372036854775807) (W:(xs.length+ys.length)*K<=140737488355328) (h:∀C D,WL P ops Q n ds ((d,aE C (xs++ys).length D)::l) (Ws w0 F (L.set i<|cQ e size f C D<|xs++ys) Vs) rest) : WL P ops Q n ds l (Ws w0 F L Vs)<|⟨aa d,.call ⟨.builtin .append,#[s,y],#[t,t]⟩,ty,pos,af,g⟩::rest:=by
 cases a2 with
 | none=>
  refine WL.step M λX w H A aH Y=>?_;obtain ⟨ab,hi,aI,aL,aM⟩:=q.info;obtain ⟨_,E⟩:=S w A;have ae:ys=[]:=by cases ys with| nil=>rfl| cons x r=>obtain ⟨b,o,B,_⟩:=E.ct 0 x rfl;cases B
  subst ae;have ag:w.ownsRow 0 e size (aE a xs.length c) xs.length<|xs.flatMap f:=A.kn _<|gd hL;have ah:xs.length<=c:=by
   rcases ag.2 with ⟨ai,_⟩ | ⟨b,cap,cur,hv,_,_,aN,_⟩;·injection ai with _ aO aj;omega
   ·injection hv with _ _ aj;omega
  have ak:=run_append_nothing (P:=P) w t t ty e ab q.under hi a xs.length c ah (aE ao 0 c2) ⟨bB ⟨e,q.under⟩,by simp [Builtin.lenOf],run_firstCells_none w _ 0 0 c2,run_firstCells_none w.drew _ 0 0 c2,aK,aK⟩;have al:(execOp X.eval ⟨aa d,.call ⟨.builtin .append,#[s,y],#[t,t]⟩,ty,pos,af,g⟩).run P w = .ok (.value<|aE a xs.length c) w:=by simp only [execOp,resolve,Ba,nt,HT,H.eval O,H.eval R,j7,lG,jc,invoke,builtin,jS,ak]
  simp only [kt,al,cg.upon_value];have ap:i<L.length:=(cN.1 hL).1;have au:L.set i (cQ e size f a c xs)=L:=by rw [<-(cN.1 hL).2];exact BV ap
  have J:=h a c;simp only [yd] at J;rw [au] at J;exact Y _ _<|J _ _ (H.put N _) A
 | some p=>
  have av:(xs.flatMap f)++ys.flatMap f=(xs++ys).flatMap f:=aK;have aw:xs.length+ys.length=(xs++ys).length:=aK;refine WL.append i M N q O R hL (news:=ys.flatMap f) (k:=ys.length) (ui T ys) (λw A k u G=>?_) (λu G=>?_) (by unfold maxLen;omega) W λax _=>?_
  ·obtain ⟨ay,E⟩:=S w A;have az:=(cN.1 G).1;have aB:0<ys.length:=by cases ys with| nil=>simp at az| cons x r=>simp
   obtain ⟨b,o,B,_⟩:=E.ct 0 _<|cy aB;injection B with B;subst B;rw [r3];have aD:=q.pos;exact ay.cell<|E.flat T aD (U _) k u G
  ·obtain ⟨x,_,aF⟩:=nO.1 G;exact gA.1 (V x) u aF
  ·rw [av,aw];have hi:i<L.length:=(cN.1 hL).1;refine WL.Nq i (m:=(xs++ys).length) (xs:=(xs++ys).flatMap f) (e:=e) (size:=size) (v:=ax) (by simp [hi]) λC D hv=>?_;subst hv;exact h C D
def WL.Cj {ι:Type} {f:FuncId} {args:bH ei} {ts:bH cn} {vs:I aR} (o:eS ops l g) (p:e' d n=ad) (q:Enters P f) (r:h' l args.toList=aa vs) (v:ι->aR) (c:ι->I bh) (R:ι->Prop) (hC:∀w,Ws w0 F L Vs w->cx P f vs.toArray w λe j=>∃i,e = cf (v i)/\R i/\Ws w [] (c i) [] j) (s:∀i,R i->WL P ops Q n ds ((d,v i)::l) (Ws w0 F (c i++L) Vs) rest) : WL P ops Q n ds l (Ws w0 F L Vs)<|⟨aa d,.call ⟨.value<|.func f,args,ts⟩,ty,pos,af,g⟩::rest:=by
 refine WL.call o p q r v (λi j=>R i/\Ws w0 F (c i++L) Vs j) (λw b=>(hC w b).mono λe j ⟨i,t,u,h⟩=>⟨i,t,u,?_⟩) λi=>?_
 ·exact Ws.ym (L:=[]) (L':=c i) (L2:=L) (by simpa using b) (by simpa using h.fr) h.kn h.nd (λx y k z=>by
   rcases h.own x y k z with m | m;·simp at m
   ·exact be m)
 ·intro a w A b;exact s i b.1 a w A b.2
end
end Go.Bw
end
section
namespace Go.Bw
set_option linter.unnecessarySimpa false
open Go Go.RowKit
section
variable {P:dJ} {ops:bH cg} {Q:di->cY->aP->Prop} {n:Z} {ds:I fw} {l:I<|Z×aR} {w0:aP} {F:I Z} {L:I bh} {Vs:I View} {rest:I cg} {c:Code} {ty:cn} {pos:fO} {af:bH fY} {g:aA<|Z×aS}
variable {kY:aP->Prop}
def WC.fact {p:Prop}  (d:∀w,kY w->p) (h:p->WC P c Q n ds l kY):WC P c Q n ds l kY:=λa w e b=>h (d w b) a w e b
def WL.fact {p:Prop}  (c:∀w,kY w->p) (h:p->WL P ops Q n ds l kY rest):WL P ops Q n ds l kY rest:=λa w d b=>h (c w b) a w d b
variable {aB:Type} {bx:cn} {cm:aP}
def Ws.r9 {f:aB->I aR} {k b c:Z}  {xs:I aB}  (h:Ws w0 F L Vs cm) (i:Z) (hL:L[i]? = aa (aQ b<|aY (xs.flatMap f).toArray bx (0,0))) (d:∀x,(f x).length=k) (a:xs.length=c) (g:c<=maxLen):Ws w0 F (L.set i<|cQ bx k f (aa ⟨b,0,ao⟩) c xs) Vs cm:=by
 have e:=h.M6 i hL (m:=c) (cap:=c) (size:=k) (c7 _) g (by simp [ui d,a]);have j:eV bx k (aE (aa ⟨b,0,ao⟩) c c) c ((xs.flatMap f).toArray.toList.take<|c*k)=cQ bx k f (aa ⟨b,0,ao⟩) c xs:=by show _=eV bx k (aE (aa ⟨b,0,ao⟩) xs.length c) xs.length (xs.flatMap f);rw [a,mz (by rw [I.toList_toArray,ui d,a];exact c7 _)]
 rw [j] at e;exact e
def WC.nI {ι:Type} {x y:Code}  (b:ι->I (Z×aR)) (Wi:ι->aP->Prop) (R:ι->Prop) (d:WC P x (di.then (λa w=>∃i,R i/\Ag n ds (b i) a/\Wi i w) Q) n ds l kY) (f:∀i,R i->WC P y Q n ds (b i) (Wi i)):WC P (.seq x y) Q n ds l kY:=by intro a w g h;refine wp_seq<|wp_mono (d a w g h) λe j k c=>?_;cases e with| normal=>obtain ⟨i,m,o,p⟩:=c;exact f i m j k o p| _=>exact c
variable {q_:di->cY->aP->Prop}
def Em {b:aB->I (Z×aR)} {Wi:aB->aP->Prop} {R:aB->Prop} (i:aB) (c:R i) (d:∀p ∈ b i,lk l p.1=aa p.2) (e:∀w,kY w->Wi i w) : WE (di.then (λa w=>∃i,R i/\Ag n ds (b i) a/\Wi i w) q_) .normal n ds l kY:=λa w f g=>⟨i,c,f.sub d,e w g⟩
def lL {b:aB->I (Z×aR)} {Wi:aB->aP->Prop} {R:aB->Prop} (i:aB) (c:R i) (d:∀w,kY w->Wi i w) (e:z1 l (b i)=z2 (b i):=by rfl):WE (di.then (λa w=>∃i,R i/\Ag n ds (b i) a/\Wi i w) q_) .normal n ds l kY:=Em i c (mH e) d
def IJ {a:bh} (i:Z) (hL:L[i]? = aa a):L.set i a=L:=by rw [<-(cN.1 hL).2];exact BV (cN.1 hL).1
def WL.pS {a A':bh} (i:Z) (hL:L[i]? = aa a) (b:a=A') (h:WL P ops Q n ds l (Ws w0 F (L.set i A') Vs) rest):WL P ops Q n ds l (Ws w0 F L Vs) rest:=by subst b;rwa [IJ i hL] at h
def WC.pS {a A':bh} (i:Z) (hL:L[i]? = aa a) (b:a=A') (h:WC P c Q n ds l<|Ws w0 F (L.set i A') Vs):WC P c Q n ds l<|Ws w0 F L Vs:=by subst b;rwa [IJ i hL] at h
def Ws.pS {a A':bh} (h:Ws w0 F L Vs cm) (i:Z) (hL:L[i]? = aa a) (b:a=A'):Ws w0 F (L.set i A') Vs cm:=by subst b;rwa [IJ i hL]
variable {ej:aB->I aR} {cq:aA a6}
def V3 {t e:cn} {x:ei} {b o p k c:Z}  {xs:I aB} {y:aB} {v:aR} {d:aA Tmp} {As:I bh} (i j q:Z) (m:b9 l x=aa (b8<|aa ⟨b,p,ao⟩)) (hL:L[i]? = aa (hg As)) (n:cQ e k ej cq c xs ∈ As) (r:cq=aa ⟨b,o,ao⟩) (s:p=o+j*k+q) (f:∀x,(ej x).length=k) (u:xs[j]? = aa y) (h:(ej y)[q]? = aa v) (z:fJ P t=ad):Yl P l (Ws w0 F L Vs) ⟨d,.load t x,ty,pos,af,g⟩ v:=B6 z m λw A=>by
 have B:(cQ e k ej cq c xs).holds w:=(A.kn _<|gd hL:(hg As).holds w) _ n;obtain ⟨rfl,cur,C,D,G,H⟩:=IH B r;refine cell_of_heap C ?_;have E:q<k:=by have:=(cN.1 h).1;rw [f] at this;exact this
 have a:(xs.flatMap ej)[j*k+q]? = aa v:=by rw [pM f u E];exact h
 rw [<-D,jF] at a;split at a;·subst s;simpa [cz] using a
 ·cases a
variable {bE aL:Z} {cv:I aB}
def I_ {As:I bh} (d:Ws w0 F L Vs cm) (i:Z) (hL:L[i]? = aa (hg As)) (e:cQ bx bE ej cq aL cv ∈ As) (g:0<cv.length):∃b o,cq=aa ⟨b,o,ao⟩:=by
 obtain ⟨h,f⟩:=((d.kn _<|gd hL:(hg As).holds cm) _ e:cm.ownsRow 0 bx bE _ cv.length (cv.flatMap ej));rcases f with ⟨a,c⟩ | ⟨b,cap,cur,hv,_,_,j,k,_⟩;·injection a with _ l _;omega
 ·injection hv with a _ c;subst a c;exact ⟨b,0,O⟩
def Fj (a:Ws w0 F L Vs cm) (i:Z) (hL:L[i]? = aa (cQ bx bE ej cq aL cv)) (c:0<cv.length):∃b o,cq=aa ⟨b,o,ao⟩:=by obtain ⟨⟨b,h⟩,_⟩:=II a i hL c;exact ⟨b,0,h⟩
end
section
variable {P:dJ} {l:I<|Z×aR} {W:aP->Prop} {d:aA Tmp} {ty:cn} {pos:fO} {af:bH fY} {g:aA<|Z×aS}
variable {bx eY:cn} {bo ck:ei} {fy:IntKind} {az b':ac}
def V4 (a:b9 l bo=aa (am fy az)) (b:b9 l ck=aa (am fy b')) (h:az<b'):Yl P l W ⟨d,.binOp .lss bx bo ck eY,ty,pos,af,g⟩<|bW ad:=by have:=c8 (P:=P) (W:=W) (d:=d) (ty:=ty) (pos:=pos) (af:=af) (g:=g) (t:=bx) (u:=eY) a b;rwa [show decide (az<b')=ad by simpa using h] at this
def V5 (a:b9 l bo=aa (am fy az)) (b:b9 l ck=aa (am fy b')) (h:b'<=az):Yl P l W ⟨d,.binOp .lss bx bo ck eY,ty,pos,af,g⟩<|bW aq:=by have:=c8 (P:=P) (W:=W) (d:=d) (ty:=ty) (pos:=pos) (af:=af) (g:=g) (t:=bx) (u:=eY) a b;rwa [show decide (az<b')=aq by simp;omega] at this
end
section
variable {P:dJ} {l:I<|Z×aR} {W:aP->Prop} {d:aA Tmp} {ty:cn} {pos:fO} {af:bH fY} {g:aA<|Z×aS}
def Ai (v:aR) (b:aS):Prop:=(b=ad->v = .nilIface)/\(b=aq->∃t x,v = .iface t x)
def V6 {t u:cn} {x:ei} {v:aR} (b:aS) (c:P.underlying t=aa (.interface<|P.methodsAt t)) (e:b9 l x=aa v) (f:Ai v b):Yl P l W ⟨d,.binOp .eql t x (.const .nilIface) u,ty,pos,af,g⟩<|bW b:=by
 intro j w a _;have i:j (.const .nilIface) = .nilIface:=a _ _ rfl;cases b with
 | true=>obtain rfl:=f.1 rfl;simp only [execOp,a x _ e,i,j7];simp [eqGuard_nil_constR,run_eql_nil_nil (h:=c)]
 | false=>
  obtain ⟨s,y,rfl⟩:=f.2 rfl;have k:(eqGuard .eql t x (.const .nilIface) (.iface s y) .nilIface)=pure ():=by cases x<;>rfl
  simp only [execOp,a x _ e,i,j7,k];simp [run_eql_held_nil (h:=c)]
end
variable {iI:dJ} {bE:Z}
def WL.wk {ops:bH cg} {Q:di->cY->aP->Prop}  {ds:I fw} {l:I<|Z×aR} {W W':aP->Prop} {rest:I cg} (b:∀w,W w->W' w) (h:WL iI ops Q bE ds l W' rest):WL iI ops Q bE ds l W rest:=λa w c d=>h a w c<|b w d
structure IK (P:dJ) (gp gs gr:Z) (H:View):Prop where
 pow:∃t f,H gp=aa (aY (Lib.pow10Tab.map λz=>aR.int .u64 z).toArray t f)
 V9:∃ev,vc H gs 0=aa ev/\(ev = .nilIface\/∃te pe,ev = .iface te pe)
 V':∃ev,vc H gr 0=aa ev/\(ev = .nilIface\/∃te pe,ev = .iface te pe)
variable {cm:aP} {gS:fO}
def IK.ot {a c d:Z} {b:View} (h:IK iI a c d b)  (e:Le b cm)  (g:iI.globalNamed gS=aa a):Lib.TabIs iI cm gS .u64 Lib.pow10Tab:=by obtain ⟨t,f,i⟩:=h.pow;unfold Lib.TabIs aP.var?;rw [g];simp [e _ _ i]
def V_ (a:Lib.TabIs iI cm gS .u64 Lib.pow10Tab) (c:iI.globalNamed gS=aa bE):∃t f,hv cm bE=aa (aY (Lib.pow10Tab.map λz=>aR.int .u64 z).toArray t f):=by unfold Lib.TabIs aP.var? at a;rw [c] at a;simp only [cH] at a;cases b:cm.heap[bE]? with| none=>simp [b] at a| some o=>cases o with| cells cs t f=>simp only [b,gI] at a;subst a;exact ⟨t,f,b⟩| _=>simp [b] at a
def Wa (w:aP) (k:Z) (os:bH Obj):Ext w<|Go.Sort.grow (w.drewN k) os:=by refine ⟨O,O,O,by simp [Go.Sort.grow,aP.drewN],λb a _=>?_⟩;simp [Go.Sort.grow,aP.drewN,rR,a]
structure tg {κ:Type} [BEq κ] [LawfulBEq κ] (kd:TypeDesc) (kv:κ->aR):Prop where
 same:∀a b,Instr.sameNow kd (kv a) (kv b)=aa (a==b)
 isKey:∀a,MapKept.IsKey kd (kv a)
def m4:tg (.int .i64)<|λn:Int=>Value.int .i64 n:=⟨λa b=>by simp [Instr.sameNow],λa=>by simp [MapKept.IsKey]⟩
def jx:tg .string st:=⟨λa b=>by simp only [st,Instr.sameNow,Ix],λa=>by simp [MapKept.IsKey,st]⟩
section
variable {κ:Type} {kv:κ->aR}
abbrev fz (κ:Type):=κ×aR×Z
def qA (a:κ->aR) (e:fz κ):MapEntry:={ key:=a e.1,val:=e.2.1,born:=e.2.2 }
def dT (a:κ->aR) (m:I<|fz κ) (c:Z):Obj:=.map (m.map<|qA a).toArray c
def Wb (m:I<|fz κ) (j:Z) (k:κ) (v:aR):(m.map<|qA kv).modify j (λe=>{ e with key:=kv k,val:=v })=(m.modify j λe=>(k,v,e.2.2)).map (qA kv):=by apply r0;intro i;simp only [vp,fp];cases m[i]? with| none=>simp| some e=>by_cases h:j=i<;>simp [h,qA]
variable {P:dJ} {ops:bH cg} {Q:di->cY->aP->Prop} {n:Z} {ds:I fw} {l:I<|Z×aR} {w0:aP} {F:I Z} {L:I bh} {Vs:I View} {rest:I cg} {d:Z} {ty:cn} {pos:fO} {af:bH fY} {g:aA<|Z×aS}
def WL.pT {t:cn} (a:κ->aR) (c:eS ops l g) (e:e' d n=ad) (h:∀b,WL P ops Q n ds ((d,.map<|aa b)::l) (Ws w0 F (aQ b (dT a [] 0)::L) Vs) rest) : WL P ops Q n ds l (Ws w0 F L Vs)<|⟨aa d,.makeMap t ao,ty,pos,af,g⟩::rest:= WL.new (mk:=λb=>.map<|aa b) (o:=dT a [] 0) c e (λf w _ _=>by simp only [execOp];simp [Instr.makeMap,dT]) h
end
section
variable {κ:Type} [BEq κ] [LawfulBEq κ] {kd:TypeDesc} {kv:κ->aR}
def eq (k:κ):I (fz κ)->Z->aA (Z×aR)| [],_=>ao| e::r,i=>if (k==e.1)=ad then aa (i,e.2.1) else eq k r (i+1)
def gB (k:κ) (v:aR) (m:I<|fz κ) (c:Z):I<|fz κ:=match eq k m 0 with| aa (i,_)=>m.modify i λe=>(k,v,e.2.2)| ao=>m++[(k,v,c)]
def kc (k:κ) (m:I<|fz κ) (c:Z):Z:=match eq k m 0 with| aa _=>c| ao=>c+1
def bO (k:κ) (m:I<|fz κ) (z:aR):aR:=match eq k m 0 with| aa (_,v)=>v| ao=>z
def ri (k:κ) (m:I<|fz κ):aS:=(eq k m 0).isSome
def IN (a:tg kd kv) (k:κ):∀(m:I<|fz κ) (i:Z),Instr.findNow kd (kv k) (m.map<|qA kv) i=aa (eq k m i)
 | [],_=>rfl
 | e::r,i=>by
  simp only [nt,Instr.findNow,qA,a.same,eq];cases h:(k==e.1);·simp only [en,dF];exact IN a k r<|i+1
  ·simp
def NJ (k:κ) (j:Z) (b:aR):∀(m:I<|fz κ) (a:Z),eq k m a=aa (j,b)->a<=j/\(m[j-a]?).map (·.1)=aa k
 | [],a,h=>by simp [eq] at h
 | e::r,a,h=>by
  simp only [eq] at h;split at h;·rename_i c;injection h with h;injection h with d f;subst d;simp at c;simp [c]
  ·obtain ⟨d,f⟩:=NJ k j b r (a+1) h;refine ⟨ai,?_⟩;have:j-a=(j-(a+1))+1:=ai;rw [this];simpa using f
variable {P:dJ} {ops:bH cg} {Q:di->cY->aP->Prop} {n:Z} {ds:I fw} {l:I<|Z×aR} {w0:aP} {F:I Z} {L:I bh} {Vs:I View} {rest:I cg} {d:Z} {ty:cn} {pos:fO} {af:bH fY} {g:aA<|Z×aS}
variable {bx eY pP:cn} {aL:Z} {ae:aR}
def Fk {m:I<|fz κ} {k:κ}  (b:aS) (c:tg kd kv) (e:P.underlying bx=aa (.map eY pP)) (d:P.underlying eY=aa kd) (f:zeroOf P pP=aa ae) (a:cm.heap[bE]? = aa (dT kv m aL)) : (Instr.lookup bx (.map<|aa bE) (kv k) b).run P cm = .ok (if b=ad then cO #[bO k m ae,bW (ri k m)] else bO k m ae) cm:=by have g:=IN c k m 0;have a:cm.heap[bE]? = aa (.map (m.map<|qA kv).toArray aL):=a;have h:(Instr.checkKey (m.map<|qA kv).toArray.isEmpty 10000 eY<|kv k).run P cm = .ok () cm:=MapKept.run_checkKey (k:=kv k) d (c.isKey k) _ 9999;simp only [Instr.lookup,j7,run_underlying e,jc,MapKept.run_getObj_map a,lG,h];rw [MapKept.run_findKey d (by simpa using g)];unfold bO ri;cases j:eq k m 0 with| none=>simp [jc,yn f]| some r=>obtain ⟨i,v⟩:=r;simp [jc]
variable {cA:aA Tmp} {bo ck:ei}
def rj {m:I<|fz κ} {k:κ}  (i:Z) (b:tg kd kv) (c:P.underlying bx=aa (.map eY pP)) (d:P.underlying eY=aa kd) (e:zeroOf P pP=aa ae) (f:b9 l bo=aa (.map<|aa bE)) (h:b9 l ck=aa (kv k)) (hL:L[i]? = aa (aQ bE<|dT kv m aL)) : Yl P l (Ws w0 F L Vs) ⟨cA,.lookup bx bo ck aq,ty,pos,af,g⟩<|bO k m ae:=by intro n w a j;simp [execOp,a bo _ f,a ck _ h,Fk (P:=P) (k:=k) aq b c d e (j.kn _<|gd hL:w.heap[bE]? = aa (dT kv m aL))]
def Fl {m:I<|fz κ} {k:κ}  (i:Z) (b:tg kd kv) (c:P.underlying bx=aa (.map eY pP)) (d:P.underlying eY=aa kd) (e:zeroOf P pP=aa ae) (f:b9 l bo=aa (.map<|aa bE)) (h:b9 l ck=aa (kv k)) (hL:L[i]? = aa (aQ bE<|dT kv m aL)) : Yl P l (Ws w0 F L Vs) ⟨cA,.lookup bx bo ck ad,ty,pos,af,g⟩<|cO #[bO k m ae,bW (ri k m)]:=by intro n w a j;simp [execOp,a bo _ f,a ck _ h,Fk (P:=P) (k:=k) ad b c d e (j.kn _<|gd hL:w.heap[bE]? = aa (dT kv m aL))]
def NK {t a e:cn}  {m:I<|fz κ} {k:κ}  (b:tg kd kv) (h:P.underlying t=aa (.map a e)) (g:P.underlying a=aa kd) (i:cm.heap[bE]? = aa (dT kv m aL)) : (Instr.mapUpdate t (.map<|aa bE) (kv k) ae).run P cm = .ok () { cm with heap:=cm.heap.setIfInBounds bE<|dT kv (gB k ae m aL)<|kc k m aL }:=by
 have c:cm.heap[bE]? = aa (.map (m.map<|qA kv).toArray aL):=i;have l:=IN b k m 0;have n:(Instr.checkKey aq 10000 a<|kv k).run P cm = .ok () cm:=MapKept.run_checkKey (k:=kv k) g (b.isKey k) _ 9999;simp only [Instr.mapUpdate,j7,run_underlying h,jc,MapKept.run_getObj_map c,lG,n];rw [MapKept.run_findKey g (by simpa using l)];unfold gB kc;cases o:eq k m 0 with
 | none=>simp [jc,MapKept.run_setObj_map _ c,dT,qA]
 | some r=>
  obtain ⟨j,p⟩:=r;have d:m[j]?.map (·.1)=aa k:=by simpa using (NJ k j p m 0 o).2
  have q:((((m.map<|qA kv).toArray)[j]?).map (·.key)).getD (kv k)=kv k:=by cases f:m[j]? with| none=>simp [f]| some e=>rw [f] at d;simp at d;simp [f,qA,d]
  simp only [q,jc];simp only [j7,MapKept.run_keyThatStays<|b.isKey k,jc,MapKept.run_setObj_map _ c,dT];have s:(m.map<|qA kv).toArray.modify j (λe=>{ e with key:=kv k,val:=ae })=((m.modify j λe=>(k,ae,e.2.2)).map<|qA kv).toArray:=by apply wJ;rw [My];exact Wb m j k ae
  rw [s]
variable {kH:ei}
def WL.rk {t c e:cn}   {m:I<|fz κ} {k:κ}  (i:Z) (o:tg kd kv) (p:eS ops l g) (q:P.underlying t=aa (.map c e)) (r:P.underlying c=aa kd) (s:b9 l bo=aa (.map<|aa bE)) (u:b9 l ck=aa (kv k)) (v:b9 l kH=aa ae) (hL:L[i]? = aa (aQ bE<|dT kv m aL)) (h:WL P ops Q n ds l (Ws w0 F (L.set i<|aQ bE<|dT kv (gB k ae m aL)<|kc k m aL) Vs) rest) : WL P ops Q n ds l (Ws w0 F L Vs)<|⟨ao,.mapUpdate t bo ck kH,ty,pos,af,g⟩::rest:=by
 refine WL.step p λa w b d A x=>?_;have f:w.heap[bE]? = aa (dT kv m aL):=d.kn _<|gd hL;have y:(execOp a.eval ⟨ao,.mapUpdate t bo ck kH,ty,pos,af,g⟩).run P w = .ok .skip { w with heap:=w.heap.setIfInBounds bE<|dT kv (gB k ae m aL)<|kc k m aL }:=by simp only [execOp,b.eval s,b.eval u,b.eval v,j7,NK o q r f,jc,lG]
 simp only [kt,y,cg.upon_skip];refine x _ _<|h _ _ (b.z0 undef) ?_;refine Ws.vv d i hL ⟨O,O,O,aK,λj B z=>?_⟩ ?_ (by simp [aQ]) (by simp [aQ]);·have:bE≠j:=λe=>z (by simp [aQ,e]);simp [vl this]
 ·show (w.heap.setIfInBounds bE _)[bE]? = _;simp [lt_of_heap f]
def WL.pU {t c e:cn}   {m:I<|fz κ} {k:κ}  (i:Z) (o:tg kd kv) (p:eS ops l g) (q:P.underlying t=aa (.map c e)) (r:P.underlying c=aa kd) (s:b9 l bo=aa (.map<|aa bE)) (u:b9 l ck=aa (kv k)) (v:b9 l kH=aa ae) (hL:L[i]? = aa (aQ bE<|dT kv m aL)) (h:WL P ops Q n ds l (Ws w0 F (L.set i<|aQ bE<|dT kv (gB k ae m aL)<|kc k m aL) Vs) rest) : WL P ops Q n ds l (Ws w0 F L Vs)<|⟨ao,.insert t bo ck kH,ty,pos,af,g⟩::rest:=by
 refine WL.step p λa w b d A x=>?_;have f:w.heap[bE]? = aa (dT kv m aL):=d.kn _<|gd hL;have y:(execOp a.eval ⟨ao,.insert t bo ck kH,ty,pos,af,g⟩).run P w = .ok .skip { w with heap:=w.heap.setIfInBounds bE<|dT kv (gB k ae m aL)<|kc k m aL }:=by simp only [execOp,b.eval s,b.eval u,b.eval v,j7,NK o q r f,jc,lG]
 simp only [kt,y,cg.upon_skip];refine x _ _<|h _ _ (b.z0 undef) ?_;refine Ws.vv d i hL ⟨O,O,O,aK,λj B z=>?_⟩ ?_ (by simp [aQ]) (by simp [aQ]);·have:bE≠j:=λe=>z (by simp [aQ,e]);simp [vl this]
 ·show (w.heap.setIfInBounds bE _)[bE]? = _;simp [lt_of_heap f]
end
def yw (P:dJ) (t:cn):aA<|Z×Z:=match P.underlying t with| aa<|.array n e=>(P.info? e).map λi=>(n,i.size)| _=>ao
def uk (P:dJ) (t:cn):aA Z:=match P.underlying t with| aa<|.array n e=>if fJ P e=ad/\(P.info? e).map (·.size)=aa 1 then aa n else ao| _=>ao
section
variable {P:dJ} {l:I<|Z×aR} {W:aP->Prop} {d:aA Tmp} {ty:cn} {pos:fO} {af:bH fY} {g:aA<|Z×aS}
variable {bx:cn} {bo ck:ei} {fy:IntKind}
def yx {b o n s:Z}  {i:Z} (a:yw P bx=aa (n,s)) (h:b9 l bo=aa (b8<|aa ⟨b,o,ao⟩)) (j:b9 l ck=aa (am fy (i:ac))) (k:i<n) : Yl P l W ⟨d,.indexAddr bx bo ck,ty,pos,af,g⟩<|b8<|aa ⟨b,o+i*s,ao⟩:=by intro u w f _;unfold yw at a;cases c:P.underlying bx with| none=>simp [c] at a| some p=>cases p<;>simp [c] at a;rename_i m e;obtain ⟨v,hi,q,r⟩:=a;subst q r;have t:(i:ac)<(m:ac):=ai;simp [execOp,f bo _ h,f ck _ j,Instr.indexAt,run_underlying c,asIntOf,t,k,sizeOf,typeInfo,hi,r3,Instr.sureAddr]
def NL {n:Z} {cs:bH aR}  {i:Z} {v:aR} (a:uk P bx=aa n) (f:b9 l bo=aa (b0 cs)) (h:b9 l ck=aa (am fy (i:ac))) (j:i<n) (hv:cs[i]? = aa v) : Yl P l W ⟨d,.index bx bo ck,ty,pos,af,g⟩ v:=by
 intro u w c _;unfold uk at a;cases b:P.underlying bx with
 | none=>simp [b] at a
 | some k=>
  cases k<;>simp [b] at a;rename_i m e;obtain ⟨⟨o,p,hi,q⟩,rfl⟩:=a;have r:(i:ac)<(m:ac):=ai;have s:=Il o w;have t:(part e cs<|i*p.size).run P w = .ok v w:=by simp [part,s,q,hv]
  simp [execOp,c bo _ f,c ck _ h,Instr.index,run_underlying b,asIntOf,r,j,sizeOf,typeInfo,hi,t]
end
end Go.Bw
end
section
namespace Go.Bw
open Go
structure Tok where
 kind:ac
 n:ac
 text:I ar
deriving DecidableEq
def Tok.cells (t:Tok):I aR:=[am an t.kind,am an t.n,st t.text]
def Tok.dR (x:Tok):x.cells.length=3:=rfl
def e3 (a:View) (b o:Z) (x:Tok):Prop:=cB a b o x.cells
def pV (u:ac):aS:=decide (97<=u)&&decide (u<=122)
def Cm (u:ac):aS:=decide (48<=u)&&decide (u<=57)
def mF (u:ar):aS:=pV u.toNat||Cm u.toNat
def gG (s:I ar):aS:=(decide (1<=s.length)&&decide (s.length<=8))&&pV ((s[0]?.getD 0).toNat)&&s.all mF
def vF:I ar:=[123,125,40,41,91,93,44,59,61,46,43,45,42,47,37,60,33,38,124]
def pW (u:ar):aS:=vF.contains u
def hY:I ar->Z| []=>0| c::r=>if mF c=ad then hY r+1 else 0
def yy (s:I ar):aA Z:=match Lib.decNat s with| aa n=>if n<=1099511627775/\lH n=s then aa n else ao| ao=>ao
def th (s:I ar):aA Tok:=if gG s=ad then aa ⟨1,0,s⟩ else (yy s).map (λn:Z=>(⟨2,(n:ac),[]⟩:Tok))
def o8:Z->I ar->aA (I Tok)| _,[]=>aa []| 0,_::_=>ao| f+1,c::r=> if 0<hY (c::r) then match th<|(c::r).take<|hY<|c::r with| aa t=>(o8 f<|(c::r).drop<|hY<|c::r).map (t::·)| ao=>ao else if pW c=ad then (o8 f r).map (⟨3,0,[c]⟩::·) else if c=32\/c=10 then o8 f r else ao
def i3 (s:I ar):aA<|I Tok:=o8 s.length s
def bL (s:I ar):I Tok×ac:=if 4096<s.length then ([],2) else match i3 s with| aa l=>(l,0)| ao=>([],1)
def uq (t:Tok):aS:=decide (1<=t.kind)&&decide (t.kind<=3)
def mG (t:Tok):aS:=if t.kind=1 then t.n==0&&gG t.text else if t.kind=2 then t.text==[]&&(decide (0<=t.n)&&decide (t.n<=1099511627775)) else t.n==0&&(t.text.length==1&&pW (t.text[0]?.getD 0))
def Fo (t:Tok):aS:=!uq t
def Fp (t:Tok):aS:=!mG t
def Cn (l:I Tok):ac:=if l.any Fo=ad then 4 else if l.any Fp=ad then 1 else if 4096<l.length then 2 else 0
def qB (t:Tok):I ar:=if t.kind=2 then lg t.n else t.text
def vG (l:I Tok):I ar:=Lib.join (l.map qB) [32]
def NM:∀s:I ar,hY s<=s.length| []=>c7 _| c::r=>by have:=NM r;unfold hY;split<;>simp<;>omega
def NN (b:I ar) (c:ar) (d:mF c=aq):∀a:I ar,hY (a++c::b)=hY a| []=>by simp [hY,d]| x::a=>by rw [ix];unfold hY;rw [NN b c d a]
def IP:∀(s:I ar) (n:Z),n<=s.length->(∀j,j<n->mF (s[j]?.getD 0)=ad)->(n=s.length\/mF (s[n]?.getD 0)=aq)->hY s=n
 | [],n,h,_,_=>by simp at h;subst h;rfl
 | c::r,0,_,_,h=>by
  have:mF c=aq:=by
   rcases h with h | h;·simp at h
   ·simpa using h
  simp [hY,this]
 | c::r,n+1,b,a,h=>by
  have d:mF c=ad:=by simpa using a 0 ai
  rw [hY,aD d,IP r n (by simpa using b) (λj e=>by simpa using a (j+1) ai) (by rcases h with h | h;left;simpa using h;right;simpa using h)]
variable {bc:I ar}
def NO (h:bc.all mF=ad):hY bc=bc.length:=by refine IP bc bc.length (c7 _) (λj a=>?_) Y;rw [cy a];exact gA.1 h _<|sD a
def IQ:∀(f g:Z) (s:I ar),s.length<=f->s.length<=g->o8 f s=o8 g s
 | _,_,[],_,_=>by simp [o8]| 0,_,_::_,h,_=>by simp at h| _+1,0,_::_,_,h=>by simp at h
 | f+1,g+1,c::r,a,b=>by
  simp only [gj] at a b;unfold o8;rw [IQ f g r ai ai];by_cases d:0<hY (c::r);·rw [IQ f g ((c::r).drop<|hY<|c::r) (by simp;omega) (by simp;omega)]
  ·simp only [aj d]
def Co:i3 []=aa []:=rfl
def yz {s:I ar} (h:0<hY s):i3 s=match th<|s.take<|hY s with| aa t=>(i3<|s.drop<|hY s).map (t::·)| ao=>ao:=by cases s with| nil=>simp [hY] at h| cons c r=>show o8 (r.length+1) (c::r)=_;rw [o8,aD h];unfold i3;rw [IQ r.length ((c::r).drop<|hY<|c::r).length _ (by simp;omega)<|c7 _]
variable {hb:ar}
def Cp (h:hY (hb::bc)=0) (a:pW hb=ad):i3 (hb::bc)=(i3 bc).map (⟨3,0,[hb]⟩::·):=by show o8 (bc.length+1) (hb::bc)=_;rw [o8,aj ai,aD a];rfl
def Cq (h:hY (hb::bc)=0) (a:pW hb=aq) (b:hb=32\/hb=10):i3 (hb::bc)=i3 bc:=by show o8 (bc.length+1) (hb::bc)=_;rw [o8,aj ai,aj (by simp [a]),aD b];rfl
def Fq (h:hY (hb::bc)=0) (a:pW hb=aq) (b:¬(hb=32\/hb=10)):i3 (hb::bc)=ao:=by show o8 (bc.length+1) (hb::bc)=_;rw [o8,aj ai,aj (by simp [a]),aj b]
def Wc:∀u:ar,pW u=ad->mF u=aq:=by have h:∀u ∈ vF,mF u=aq:=a8;intro u a;exact h u (by simpa [pW] using a)
def IR:∀(k:Z) (a b:I ar),a.length<=k->i3 (a++32::b)=(i3 a).bind λl=>(i3 b).map (l++·)
 | _,[],b,_=>by have g:mF 32=aq:=a8;rw [t_,Cq (by simp [hY,g]) a8<|bB rfl];simp only [Co,cH,t_];cases i3 b<;>rfl| 0,_::_,_,h=>by simp at h
 | k+1,c::r,b,j=>by
  have g:mF 32=aq:=a8;have m:=NN b 32 g<|c::r;have n:=NM<|c::r;by_cases p:0<hY (c::r);·rw [yz (s:=(c::r)++32::b) ai,yz p,m,HY n,MA n];cases th ((c::r).take<|hY<|c::r) with| none=>rfl| some t=>simp only;rw [IR k ((c::r).drop<|hY<|c::r) b (by simp at j ⊢;omega)];cases i3 ((c::r).drop<|hY<|c::r)<;>simp;cases i3 b<;>simp
  ·have e:hY (c::r)=0:=ai;have i:hY (c::(r++32::b))=0:=by rw [<-ix,m];exact e
   have o:=IR k r b (by simpa using j);rw [ix];cases d:pW c with
   | true=>rw [Cp i d,Cp e d,o];cases i3 r<;>simp;cases i3 b<;>simp
   | false=>
    by_cases f:c=32\/c=10;·rw [Cq i d f,Cq e d f,o]
    ·rw [Fq i d f,Fq e d f];rfl
def IS (d:Z) (f:d<10):∀(l:I ar) (a n:Z),Lib.decFrom a l=aa n->Lib.decFrom a (l++[ar.ofNat<|48+d])=aa (n*10+d)
 | [],a,n,h=>by
  simp only [Lib.decFrom,gI] at h;subst h;have e:(ar.ofNat<|48+d).toNat=48+d:=by simp [MB];omega
  have:Lib.digitVal (ar.ofNat<|48+d)=aa d:=by unfold Lib.digitVal;rw [e,aD ai];simp
  simp only [t_,Lib.decFrom,this]| b::r,a,n,h=>by simp only [Lib.decFrom,ix] at h ⊢;cases c:Lib.digitVal b with| none=>simp [c] at h| some e=>simp only [c] at h ⊢;exact IS d f r _ n h
def IT (n:Z):lH n≠[]:=by rw [lH];split<;>simp
def WJ (n:Z):Lib.decFrom 0 (lH n)=aa n:=by
 induction n using om with
 | _ n a=>
  rw [lH];split;·rename_i h;have:=IS n h [] 0 0 rfl;simpa using this
  ·rename_i h;rw [IS (n % 10) ai _ _ _<|a (n / 10) ai];congr 1;omega
def NP (n:Z):Lib.decNat (lH n)=aa n:=by unfold Lib.decNat;rw [aj (by simpa using IT n),WJ]
def NQ (n:Z):∀x ∈ lH n,48<=x.toNat/\x.toNat<=57:=by
 induction n using om with
 | _ n b=>
  rw [lH];have e:∀d,d<10->(ar.ofNat<|48+d).toNat=48+d:=λd c=>by simp [MB];omega
  split;·rename_i h;intro x a;simp only [e_] at a;subst a;rw [e n h];omega
  ·intro x a;rw [fe,e_] at a;rcases a with a | a;·exact b (n / 10) ai x a
   ·subst a;rw [e _ ai];omega
def NR:∀(k n:Z),n<10 ^ (k+1)->(lH n).length<=k+1
 | 0,n,h=>by rw [lH,dif_pos (by simpa using h)];simp
 | k+1,n,h=>by
  rw [lH];split;·simp
  ·rw [Z.pow_succ] at h;have:=NR k (n / 10) ai;simp;omega
def We (n:Z):lg (n:ac)=lH n:=by unfold lg;rw [aj ai];simp
def IU {n:ac} (h:0<=n):lg n=lH n.toNat:=by unfold lg;rw [aj ai]
variable {bE:Z}
def XT (h:bE<=1099511627775):(lH bE).length<=13:=NR 12 bE ai
def NS (h:yy bc=aa bE):bE<=1099511627775/\lH bE=bc:=by
 unfold yy at h;split at h
 ·split at h;·injection h with h;subst h;assumption
  ·cases h
 ·cases h
def NT (h:bE<=1099511627775):yy (lH bE)=aa bE:=by unfold yy;rw [NP];simp [h]
def pX (s:I ar):Tok×aS:=if gG s=ad then (⟨1,0,s⟩,ad) else match Lib.atoiAll s with| .ok v=>(⟨2,v,[]⟩,(decide (0<=v)&&decide (v<=1099511627775))&&(lg v==s))| .range=>(⟨2,Lib.atoiSat s,[]⟩,aq)| _=>(⟨2,0,[]⟩,aq)
def NU {n:Z} (h:n<=1099511627775):Lib.atoiAll (lH n) = .ok (n:ac):=by
 have k:=XT h;rw [Lib.atoiAll_short _ ai];have g:=IT n;have a:=NQ n;have c:=NP n;cases d:lH n with
 | nil=>exact absurd d g
 | cons b r=>
  rw [d] at a c;have f:=a b aK;have i:(b==45)=aq:=by rw [MW];intro e;subst e;revert f;decide
  have j:(b==43)=aq:=by rw [MW];intro e;subst e;revert f;decide
  simp [Lib.atoi,i,j,c,Lib.NumEnd.ofOption]
def NV (s:I ar):th s=if (pX s).2=ad then aa (pX s).1 else ao:=by
 unfold th pX;by_cases b:gG s=ad;·simp [b]
 ·simp only [aj b];cases h:yy s with
  | some n=>obtain ⟨a,c⟩:=NS h;subst c;rw [NU a];have:((n:ac)<=1099511627775):=ai;simp [We,this]
  | none=>
   cases e:Lib.atoiAll s with
   | ok v=>
    simp only;by_cases hv:((decide (0<=v)&&decide (v<=1099511627775))&&(lg v==s))=ad
    ·simp only [eI,cw,j8] at hv;obtain ⟨⟨a,c⟩,d⟩:=hv;have:yy s=aa v.toNat:=by rw [<-d,IU a];exact NT ai
     rw [h] at this;cases this
    ·rw [aj hv];rfl| range=>rfl| _=>rfl
variable {m5:Tok}
def Wg (h:th bc=aa m5):uq m5=ad/\mG m5=ad:=by
 unfold th at h;split at h;·rename_i a;injection h with h;subst h;exact ⟨O,by simp [mG,a]⟩
 ·obtain ⟨n,a,rfl⟩:=eQ.1 h;have:=(NS a).1;exact ⟨O,by simp [mG];omega⟩
def Fs:∀(k:Z) (s:I ar) (l:I Tok),s.length<=k->i3 s=aa l->(∀t ∈ l,uq t=ad/\mG t=ad)/\l.length<=s.length
 | _,[],l,_,h=>by rw [Co] at h;injection h with h;subst h;simp| 0,_::_,_,h,_=>by simp at h
 | k+1,c::r,l,n,h=>by
  simp only [gj] at n;by_cases o:0<hY (c::r)
  ·rw [yz o] at h;cases f:th ((c::r).take<|hY<|c::r) with
   | none=>simp [f] at h
   | some t=>
    simp only [f] at h;obtain ⟨g,i,rfl⟩:=eQ.1 h;obtain ⟨b,d⟩:=Fs k ((c::r).drop<|hY<|c::r) g (by simp;omega) i;refine ⟨λx a=>?_,?_⟩
    ·rcases eR.1 a with rfl | a;·exact Wg f
     ·exact b x a
    ·simp at d ⊢;omega
  ·have j:hY (c::r)=0:=ai;cases e:pW c with
   | true=>
    rw [Cp j e] at h;obtain ⟨g,i,rfl⟩:=eQ.1 h;obtain ⟨b,d⟩:=Fs k r g ai i;refine ⟨λx a=>?_,by simpa using d⟩;rcases eR.1 a with rfl | a;·exact ⟨O,by simp [mG,e]⟩
    ·exact b x a
   | false=>
    by_cases m:c=32\/c=10;·rw [Cq j e m] at h;obtain ⟨b,d⟩:=Fs k r l ai h;exact ⟨b,by simp;omega⟩
    ·rw [Fq j e m] at h;cases h
def any_none {α:Type} {p:α->aS} {l:I α} (h:∀t ∈ l,p t=aq):l.any p=aq:=by rw [vq];intro x a;simp [h x a]
variable {r':I Tok}
def Wh (h:∀t ∈ r',uq t=ad/\mG t=ad) (b:r'.length<=4096):Cn r'=0:=by unfold Cn;rw [any_none (p:=Fo) λt a=>by simp [Fo,(h t a).1],any_none (p:=Fp) λt a=>by simp [Fp,(h t a).2]];simp;omega
def NW (h:Cn r'=0):(∀t ∈ r',uq t=ad/\mG t=ad)/\r'.length<=4096:=by
 unfold Cn at h;split at h;·cases h
 ·rename_i a;split at h;·cases h
  ·rename_i b;split at h;·cases h
   ·rename_i d;simp only [ta,not_exists,not_and] at a b;refine ⟨λt c=>⟨?_,?_⟩,ai⟩;·have:=a t c;simpa [Fo] using this
    ·have:=b t c;simpa [Fp] using this
def NX (h:(bL bc).2=0):Cn (bL bc).1=0:=by
 unfold bL at h ⊢;split;·simp_all
 ·rename_i b;cases a:i3 bc with| none=>simp [b,a] at h| some l=>obtain ⟨c,d⟩:=Fs _ bc l (c7 _) a;exact Wh c (show l.length<=4096 by omega)
def X3 (h:48<=hb.toNat/\hb.toNat<=57):mF hb=ad:=by unfold mF Cm;have a:((48:ac)<=(hb.toNat:ac)):=ai;have b:((hb.toNat:ac)<=57):=ai;simp [a,b]
def NY (j:uq m5=ad) (d:mG m5=ad):i3 (qB m5)=aa [m5]:=by
 obtain ⟨k,n,s⟩:=m5;have l:k=1\/k=2\/k=3:=by simp [uq] at j;omega
 rcases l with rfl | rfl | rfl;·simp only [mG,aD,eI,j8] at d;obtain ⟨rfl,f⟩:=d;have g:=f;simp only [gG,eI,cw] at g;obtain ⟨⟨⟨m,w⟩,_⟩,o⟩:=g;have e:=NO o;show i3 s=_;rw [yz ai,e,gH,wL];simp [th,f,Co]
 ·simp only [mG,eI,j8,cw] at d;obtain ⟨rfl,p,m⟩:=(by simpa using d:s=[]/\0<=n/\n<=1099511627775);show i3 (lg n)=_;rw [IU p];have h:=NQ n.toNat;have e:hY (lH n.toNat)=(lH n.toNat).length:=NO<|gA.2 λx q=>X3<|h x q;have i:=IT n.toNat;have y:0<(lH n.toNat).length:=I.length_pos_iff.2 i;rw [yz ai,e,gH,wL];have t:gG (lH n.toNat)=aq:=by
   cases a:lH n.toNat with
   | nil=>exact absurd a i
   | cons b r=>
    have z:=h b (by rw [a];simp);have:pV (b.toNat:ac)=aq:=by simp [pV];omega
    simp [gG,this]
  have u:((n.toNat:Z):ac)=n:=ai;simp [th,t,NT (show n.toNat<=1099511627775 by omega),Co,u]
 ·obtain ⟨rfl,v,a⟩:=(by simpa [mG] using d:n=0/\s.length=1/\pW (s[0]?.getD 0)=ad);match s,v with
  | [c],_=>
   have a:pW c=ad:=by simpa using a
   show i3 [c]=_;rw [Cp (by simp [hY,Wc c a]) a];rfl
def Wj (x y:I ar) (r:I<|I ar) (s:I ar):Lib.join (x::y::r) s=x++s++Lib.join (y::r) s:=by simp [Lib.join,I.intercalate,I.intersperse]
def NZ:∀l:I Tok,(∀t ∈ l,uq t=ad/\mG t=ad)->i3 (vG l)=aa l
 | [],_=>rfl
 | [t],h=>by
  have e:vG [t]=qB t:=by simp [vG,Lib.join,I.intercalate]
  rw [e];exact NY (h t aK).1 (h t aK).2
 | t::u::r,h=>by
  have e:vG (t::u::r)=qB t++32::vG (u::r):=by unfold vG;simp only [nt,Wj];simp
  rw [e,IR _ _ _<|c7 _,NY (h t aK).1 (h t aK).2,NZ (u::r)<|λx a=>h x<|m1 _ a];rfl
end Go.Bw
end
section
namespace Go.Bw
open Go
inductive cF where
 | mk (op n:Int) (mod nm:List UInt8) (args:List cF)
inductive cG where
 | mk (op:Int) (mod nm:List UInt8) (args:List cF) (body other:List cG)
def cF.op:cF->ac| .mk o _ _ _ _=>o
def cF.n:cF->ac| .mk _ n _ _ _=>n
def cF.mod:cF->I ar| .mk _ _ m _ _=>m
def cF.nm:cF->I ar| .mk _ _ _ s _=>s
def cF.args:cF->I cF| .mk _ _ _ _ a=>a
def cG.op:cG->ac| .mk o _ _ _ _ _=>o
def cG.mod:cG->I ar| .mk _ m _ _ _ _=>m
def cG.nm:cG->I ar| .mk _ _ s _ _ _=>s
def cG.args:cG->I cF| .mk _ _ _ a _ _=>a
def cG.body:cG->I cG| .mk _ _ _ _ b _=>b
def cG.other:cG->I cG| .mk _ _ _ _ _ o=>o
structure fd where
 kind:ac
 nm:I ar
 dp:aS
 n:ac
deriving DecidableEq
structure gU where
 nm:I ar
 dp:aS
 params:I<|I ar
 aX:I<|I ar
 body:I cG
structure cV where
 nm:I ar
 aN:I<|I ar
 decls:I fd
 procs:I gU
 main:I cG
structure aJ where
 f:Z
 m:Z
 k:Z
deriving DecidableEq
instance:Add aJ:=⟨λa b=>⟨a.f+b.f,a.m+b.m,a.k+b.k⟩⟩
def aJ.aM (c:aJ):Z:=c.f+c.m+c.k
def c0:aJ:=⟨0,0,0⟩
def aJ.yA (a b:aJ):(a+b).f=a.f+b.f:=rfl
def aJ.yB (a b:aJ):(a+b).m=a.m+b.m:=rfl
def aJ.yC (a b:aJ):(a+b).k=a.k+b.k:=rfl
def aJ.ext' {a b:aJ} (c:a.f=b.f) (d:a.m=b.m) (e:a.k=b.k):a=b:=by cases a;cases b;simp_all
def aJ.ky (a b c:aJ):a+b+c=a+(b+c):=aJ.ext' (vm _ _ _) (vm _ _ _)<|vm _ _ _
def aJ.ga (a b:aJ):(a+b).aM=a.aM+b.aM:=by simp only [aJ.aM,aJ.yA,aJ.yB,aJ.yC];omega
def IV (b:aS):Z:=if b=ad then 1 else 0
def hB (b:aS):aJ:=⟨IV b,0,0⟩
def fq (b:aS):aJ:=⟨0,IV b,0⟩
def i4 (b:aS):aJ:=⟨0,0,IV b⟩
def ti:I<|I ar:=[[109,111,100,117,108,101],[117,115,101],[112,117,98],[99,111,110,115,116],[118,97,114],[97,114,114,97,121],[112,114,111,99],[108,111,99,97,108],[109,97,105,110],[105,102],[101,108,115,101],[119,104,105,108,101],[114,101,116,117,114,110],[111,117,116],[105,110]]
def gN (s:I ar):aS:=gG s&&!(ti.contains s)
def bT (op:ac):aA<|aS×ac:=if op=1\/op=2 then aa (aq,0) else if op=3 then aa (ad,0) else if op=4 then aa (ad,1) else if op=5 then aa (ad,-1) else if op=6 then aa (aq,1) else if 7<=op/\op<=15 then aa (aq,2) else ao
def gt (op:ac):aA<|aS×ac:=if op=1 then aa (ad,1) else if op=2 then aa (ad,2) else if op=3 then aa (ad,-1) else if 4<=op/\op<=7 then aa (aq,1) else ao
def cJ (r:aS) (mod nm:I ar):aS:=(r&&((!(mod==[])&&!gN mod)||!gN nm))||(!r&&!(mod++nm==[]))
def o9 (a:ac) (len:Z):aS:=decide (0<=a)&&!((len:ac)==a)
def iS (s:aS×ac) (mod nm:I ar) (len:Z):aJ:=hB (cJ s.1 mod nm)+hB (o9 s.2 len)+fq (decide<|3<len)
def lN (op n:ac):aS:=((op==1)&&(decide (n<0)||decide (1099511627775<n)))||(!(op==1)&&!(n==0))
mutual
def cM:cF->Z->aJ| .mk op n mod nm args,d=>if 6<d then ⟨0,1,0⟩ else i4 (bT op).isNone+iS ((bT op).getD (aq,0)) mod nm args.length+hB (lN op n)+gg args (d+1)
def gg:I cF->Z->aJ| [],_=>c0| x::r,d=>cM x d+gg r d
end
def inner (op:ac):aS:=(op==4)||(op==5)
def o' (op:ac) (b o:Z):aS:=(!inner op&&decide (0<b))||(!(op==4)&&decide (0<o))
def pY (d len:Z) (c:aJ):aJ:=if 6<d then ⟨0,1,0⟩ else fq (decide<|10<len)+c
mutual
def jg:cG->Z->aJ| .mk op mod nm args body other,d=>i4 (gt op).isNone+iS ((gt op).getD (aq,0)) mod nm args.length+gg args 1+hB (o' op body.length other.length) + (if (inner op||decide (0<body.length))=ad then pY (d+1) body.length (bf body<|d+1) else c0)+(if 0<other.length then pY (d+1) other.length (bf other<|d+1) else c0)
def bf:I cG->Z->aJ| [],_=>c0| x::r,d=>jg x d+bf r d
end
def bM (l:I cG) (d:Z):aJ:=pY d l.length<|bf l d
def du:I (I ar)->aJ| []=>c0| s::r=>hB (!gN s)+du r
def kz (d:fd):aJ:=du [d.nm]+(if d.kind=1 then hB (decide (d.n<0)||decide (1099511627775<d.n)) else if d.kind=2 then hB (!(d.n==0)) else if d.kind=3 then hB (decide (d.n<1)||decide (32<d.n)) else i4 ad)
def hj:I fd->aJ| []=>c0| d::r=>kz d+hj r
def rl (p:gU):aJ:=du [p.nm]+du p.params+du p.aX+fq (decide (3<p.params.length)||decide (4<p.aX.length))+bM p.body 1
def iz:I gU->aJ| []=>c0| p::r=>rl p+iz r
def tj (m:cV):aJ:=du [m.nm]+du m.aN+fq ((decide (3<m.aN.length)||decide (10<m.decls.length))||decide (6<m.procs.length))+hj m.decls+iz m.procs+bM m.main 1
def vH (c:aJ):ac:=if 0<c.k then 4 else if 0<c.m then 2 else if 0<c.f then 1 else 0
def jh (m:cV):ac:=vH<|tj m
def fL (n a b:ac):aS:=decide (a<=n)&&decide (n<=b)
def ll (op:ac):ac:=if op=1\/op=2\/op=3 then 0 else if op=4\/op=6 then 1 else if op=5 then -1 else 2
def rm (op:ac):ac:=if op=2 then 2 else if op=3 then -1 else 1
def N0 (op:ac):(bT op).isNone = !fL op 1 15:=by
 unfold bT fL;rw [mA];split;·simp;omega
 ·split;·simp;omega
  ·split;·simp;omega
   ·split;·simp;omega
    ·split;·simp;omega
     ·split;·simp;omega
      ·simp;omega
def N1 (op:ac):(gt op).isNone = !fL op 1 7:=by
 unfold gt fL;rw [mA];split;·simp;omega
 ·split;·simp;omega
  ·split;·simp;omega
   ·split;·simp;omega
    ·simp;omega
def Wk (a b:I ar):(a++b==[])=((a==[])&&(b==[])):=by cases a<;>cases b<;>rfl
variable {az:ac}
def Wl (h:(bT az).isNone=aq):((bT az).getD (aq,0)).1=fL az 3 5/\((bT az).getD (aq,0)).2=ll az:=by
 rw [N0] at h;have a:az=1\/az=2\/az=3\/az=4\/az=5\/az=6\/(7<=az/\az<=15):=by simp [fL] at h;omega
 rcases a with rfl | rfl | rfl | rfl | rfl | rfl | b;any_goals exact ⟨rfl,rfl⟩
 unfold bT ll fL;rw [aj ai,aj ai,aj ai,aj ai,aj ai,aD b,aj ai,aj ai,aj ai];refine ⟨?_,O⟩;simp;omega
def ZL (h:(gt az).isNone=aq):((gt az).getD (aq,0)).1=fL az 1 3/\((gt az).getD (aq,0)).2=rm az:=by
 rw [N1] at h;have a:az=1\/az=2\/az=3\/az=4\/az=5\/az=6\/az=7:=by simp [fL] at h;omega
 rcases a with rfl | rfl | rfl | rfl | rfl | rfl | rfl<;>exact ⟨rfl,rfl⟩
end Go.Bw
end
section
namespace Go.Bw
open Go
def g4 (s:I ar):I aR:=[st s]
def rdStr (a:View) (b o:Z) (s:I ar):Prop:=cB a b o<|g4 s
def rn (s:I ar):(g4 s).length=1:=rfl
variable {bN cR:View}
def Aj (h:cX bN cR) (b o:Z) (x:I ar) (r:rdStr bN b o x):rdStr cR b o x:=cB.mono h r
def fd.cells (d:fd):I aR:=[am an d.kind,st d.nm,bW d.dp,am an d.n]
def fd.dR (d:fd):d.cells.length=4:=rfl
def Ak (a:View) (b o:Z) (d:fd):Prop:=cB a b o d.cells
def Wn (h:cX bN cR) (b o:Z) (x:fd) (r:Ak bN b o x):Ak cR b o x:=cB.mono h r
def yD (e:cF) (a:aA a6) (c:Z):I aR:=[am an e.op,am an e.n,st e.mod,st e.nm,aE a e.args.length c]
def lm:Z->View->Z->Z->cF->Prop| 0=>λ_ _ _ _=>False| k+1=>λd b o e=>∃a c,cB d b o (yD e a c)/\Sl (lm k) 5 d a c e.args
def yE (s:cG) (a:aA a6) (c:Z) (a2:aA a6) (c2:Z) (a3:aA a6) (c3:Z):I aR:=[am an s.op,st s.mod,st s.nm,aE a s.args.length c,aE a2 s.body.length c2,aE a3 s.other.length c3]
def jV (ke:Z):Z->View->Z->Z->cG->Prop| 0=>λ_ _ _ _=>False| k+1=>λd b o s=>∃a c a2 c2 a3 c3,cB d b o (yE s a c a2 c2 a3 c3)/\Sl (lm ke) 5 d a c s.args/\Sl (jV ke k) 6 d a2 c2 s.body/\Sl (jV ke k) 6 d a3 c3 s.other
def IW (p:gU) (a1:aA a6) (c1:Z) (a2:aA a6) (c2:Z) (a3:aA a6) (c3:Z):I aR:=[st p.nm,bW p.dp,aE a1 p.params.length c1,aE a2 p.aX.length c2,aE a3 p.body.length c3]
def Ft (ke ks:Z) (a:View) (b o:Z) (p:gU):Prop:=∃a1 c1 a2 c2 a3 c3,cB a b o (IW p a1 c1 a2 c2 a3 c3)/\Sl rdStr 1 a a1 c1 p.params/\Sl rdStr 1 a a2 c2 p.aX/\Sl (jV ke ks) 6 a a3 c3 p.body
structure ox where
 a1:aA a6
 c1:Z
 a2:aA a6
 c2:Z
 a3:aA a6
 c3:Z
 a4:aA a6
 c4:Z
def b7 (m:cV) (r:ox):I aR:=[st m.nm,aE r.a1 m.aN.length r.c1,aE r.a2 m.decls.length r.c2,aE r.a3 m.procs.length r.c3,aE r.a4 m.main.length r.c4]
structure oy (ke ks:Z) (H:View) (r:ox) (m:cV):Prop where
 aN:Sl rdStr 1 H r.a1 r.c1 m.aN
 decls:Sl Ak 4 H r.a2 r.c2 m.decls
 procs:Sl (Ft ke ks) 5 H r.a3 r.c3 m.procs
 main:Sl (jV ke ks) 6 H r.a4 r.c4 m.main
variable {aB:Type} {bE aL:Z} {cv:I aB}
def Sl.imp {rd c:View->Z->Z->aB->Prop}   {a:aA a6}   (d:∀b o x,rd bN b o x->c cR b o x) (h:Sl rd bE bN a aL cv):Sl c bE cR a aL cv:= ⟨h.cap,h.max,h.spot,λi x e=>by obtain ⟨b,o,f,g⟩:=h.ct i x e;exact ⟨b,o,f,d _ _ _ g⟩⟩
def lM (f:cX bN cR):∀{k d:Z},k<=d->∀(b o:Z) (e:cF),lm k bN b o e->lm d cR b o e| 0,_,_,_,_,_,h=>h.elim| k+1,0,g,_,_,_,_=>absurd g ai| k+1,d+1,g,b,o,e,h=>by obtain ⟨a,c,i,j⟩:=h;exact ⟨a,c,cB.mono f i,j.imp λb o x l=>lM f ai b o x l⟩
def yF (f:cX bN cR)  (g:bE<=aL):∀{k i:Z},k<=i->∀(b o:Z) (e:cG),jV bE k bN b o e->jV aL i cR b o e| 0,_,_,_,_,_,h=>h.elim| k+1,0,j,_,_,_,_=>absurd j ai| k+1,i+1,j,b,o,e,h=>by obtain ⟨a,c,a2,c2,a3,c3,l,m,n,p⟩:=h;exact ⟨a,c,a2,c2,a3,c3,cB.mono f l,m.imp λb o x d=>lM f g b o x d,n.imp λb o x d=>yF f g ai b o x d,p.imp λb o x d=>yF f g ai b o x d⟩
def N2 (c:cX bN cR) {ke d ks e:Z} (f:ke<=d) (g:ks<=e) (b o:Z) (p:gU) (h:Ft ke ks bN b o p):Ft d e cR b o p:=by obtain ⟨a1,c1,a2,c2,a3,c3,i,j,k,l⟩:=h;exact ⟨a1,c1,a2,c2,a3,c3,cB.mono c i,j.imp λb o x a=>Aj c b o x a,k.imp λb o x a=>Aj c b o x a,l.imp λb o x a=>yF c f g b o x a⟩
mutual
def wE:cF->Z| .mk _ _ mod nm args=>1+mod.length+nm.length+g5 args
def g5:I cF->Z| []=>0| x::r=>wE x+g5 r
end
mutual
def wS:cG->Z| .mk _ mod nm args body other=>1+mod.length+nm.length+g5 args+bC body+bC other
def bC:I cG->Z| []=>0| x::r=>wS x+bC r
end
def wN:I (I ar)->Z| []=>0| s::r=>1+s.length+wN r
def wD:I fd->Z| []=>0| d::r=>1+d.nm.length+wD r
def wP:I gU->Z| []=>0| p::r=>1+p.nm.length+wN p.params+wN p.aX+bC p.body+wP r
def wM (m:cV):Z:=1+m.nm.length+wN m.aN+wD m.decls+wP m.procs+bC m.main
def aaz:∀x:cF,1<=wE x| .mk _ _ _ _ _=>by unfold wE;omega
def aaA:∀x:cG,1<=wS x| .mk _ _ _ _ _ _=>by unfold wS;omega
def N3 (x:cF):wE x=1+x.mod.length+x.nm.length+g5 x.args:=by cases x;rfl
def N4 (x:cG):wS x=1+x.mod.length+x.nm.length+g5 x.args+bC x.body+bC x.other:=by cases x;rfl
def N5 {i:Z} {x:cF}:∀{l:I cF},l[i]? = aa x->wE x<=g5 l| [],h=>by simp at h| y::r,h=>by unfold g5;cases i with| zero=>simp at h;subst h;omega| succ i=>have:=N5 (i:=i) (l:=r) (by simpa using h);omega
def N6 {i:Z} {x:cG}:∀{l:I cG},l[i]? = aa x->wS x<=bC l| [],h=>by simp at h| y::r,h=>by unfold bC;cases i with| zero=>simp at h;subst h;omega| succ i=>have:=N6 (i:=i) (l:=r) (by simpa using h);omega
def N7:∀l:I cF,l.length<=g5 l| []=>c7 _| x::r=>by have:=N7 r;have:=aaz x;unfold g5;simp;omega
def N8:∀l:I cG,l.length<=bC l| []=>c7 _| x::r=>by have:=N8 r;have:=aaA x;unfold bC;simp;omega
def Am:∀l:I<|I ar,l.length<=wN l| []=>c7 _| x::r=>by have:=Am r;unfold wN;simp;omega
def o_ (b:aS):(hB b).aM<=1:=by cases b<;>decide
def An (b:aS):(fq b).aM<=1:=by cases b<;>decide
def oE (b:aS):(i4 b).aM<=1:=by cases b<;>decide
def Fu (s:aS×ac) (mod nm:I ar) (len:Z):(iS s mod nm len).aM<=3:=by unfold iS;rw [aJ.ga,aJ.ga];have:=o_<|cJ s.1 mod nm;have:=o_<|o9 s.2 len;have:=An<|decide<|3<len;omega
def N9:c0.aM=0:=rfl
mutual
def Wq:∀(x:cF) (d:Z),(cM x d).aM<=8*wE x
 | .mk op n mod nm args,d=>by
  unfold cM wE;split;·show 0+1+0<=_;omega
  ·rw [aJ.ga,aJ.ga,aJ.ga];have:=Ao args<|d+1;have:=oE (bT op).isNone;have:=Fu ((bT op).getD (aq,0)) mod nm args.length;have:=o_<|lN op n;omega
def Ao:∀(l:I cF) (d:Z),(gg l d).aM<=8*g5 l| [],_=>c7 _| x::r,d=>by have:=Wq x d;have:=Ao r d;unfold gg g5;rw [aJ.ga];omega
end
def IX (d len:Z) (c:aJ):(pY d len c).aM<=1+c.aM:=by
 unfold pY;split;·show 0+1+0<=_;omega
 ·rw [aJ.ga];have:=An<|decide<|10<len;omega
def N' (b:Prop) [Decidable b] (c:aJ):(if b then c else c0).aM<=c.aM:=by
 split;·exact c7 _
 ·exact dw _
mutual
def Wr:∀(x:cG) (d:Z),(jg x d).aM<=8*wS x| .mk op mod nm args body other,d=>by unfold jg wS;rw [aJ.ga,aJ.ga,aJ.ga,aJ.ga,aJ.ga];have a:=Ao args 1;have b:=oE (gt op).isNone;have c:=Fu ((gt op).getD (aq,0)) mod nm args.length;have e:=o_<|o' op body.length other.length;have f:=N' ((inner op||decide (0<body.length))=ad)<|pY (d+1) body.length<|bf body<|d+1;have g:=N' (0<other.length)<|pY (d+1) other.length<|bf other<|d+1;have h:=IX (d+1) body.length<|bf body<|d+1;have i:=IX (d+1) other.length<|bf other<|d+1;have j:=oX body<|d+1;have k:=oX other<|d+1;omega
def oX:∀(l:I cG) (d:Z),(bf l d).aM<=8*bC l| [],_=>c7 _| x::r,d=>by have:=Wr x d;have:=oX r d;unfold bf bC;rw [aJ.ga];omega
end
def lO:∀l:I<|I ar,(du l).aM<=wN l| []=>c7 _| s::r=>by have:=lO r;have:=o_<|!gN s;unfold du wN;rw [aJ.ga];omega
def adH (d:fd):(kz d).aM<=2:=by
 unfold kz du du;rw [aJ.ga,aJ.ga,N9];have:=o_<|!gN d.nm;split;·have:=o_<|decide (d.n<0)||decide (1099511627775<d.n);omega
 ·split;·have:=o_<|!(d.n==0);omega
  ·split;·have:=o_<|decide (d.n<1)||decide (32<d.n);omega
   ·have:=oE ad;omega
def IY:∀l:I fd,(hj l).aM<=8*wD l| []=>c7 _| d::r=>by have:=IY r;have:=adH d;unfold hj wD;rw [aJ.ga];omega
def IZ (l:I cG) (d:Z):(bM l d).aM<=1+8*bC l:=by unfold bM;have:=IX d l.length<|bf l d;have:=oX l d;omega
def I0 (s:I ar):(du [s]).aM<=1:=by unfold du du;rw [aJ.ga,N9];have:=o_<|!gN s;omega
def ahv (p:gU):(rl p).aM<=3+wN p.params+wN p.aX+8*bC p.body:=by unfold rl;rw [aJ.ga,aJ.ga,aJ.ga,aJ.ga];have:=I0 p.nm;have:=lO p.params;have:=lO p.aX;have:=An<|decide (3<p.params.length)||decide (4<p.aX.length);have:=IZ p.body 1;omega
def Fv:∀l:I gU,(iz l).aM<=8*wP l| []=>c7 _| p::r=>by have:=Fv r;have:=ahv p;unfold iz wP;rw [aJ.ga];omega
def I1 {rd:View->Z->Z->aB->Prop} {f:aB->I aR}  {a:View} {b m:Z} {T:cn} {c:Z×Z}  (e:a b=aa (aY (cv.flatMap f).toArray T c)) (d:∀x,(f x).length=bE) (g:∀a b o x,cB a b o (f x)->rd a b o x) (h:cv.length<=m) (k:m<=9223372036854775807):Sl rd bE a (aa ⟨b,0,ao⟩) m cv:=by
 refine ⟨h,k,aK,λi x l=>⟨b,0,O,g _ _ _ _ λj v hv=>?_⟩⟩;have n:j<bE:=by rw [<-d x];exact (cN.1 hv).1
 have p:vc a b (0+i*bE+j)=cz (aY (cv.flatMap f).toArray T c) (0+i*bE+j):=by unfold vc;rw [e];rfl
 rw [p];simp only [cz,lJ];rw [pM d l n];exact hv
section
variable {P:dJ} {ops:bH cg} {Q:di->cY->aP->Prop} {n:Z} {ds:I fw} {l:I<|Z×aR} {w0:aP} {F:I Z} {L:I bh} {Vs:I View} {rest:I cg}
def jW {T:cn} {m b:Z} {cur:bH aR} {a:Z×Z} (i:Z) (xs:I<|I ar) (hL:L[i]? = aa (aQ b<|aY cur T a)) (d:cur=(xs.flatMap g4).toArray) (e:xs.length<=m) (g:m<=9223372036854775807) (h:∀c,Sl rdStr 1 c (aa ⟨b,0,ao⟩) m xs->WL P ops Q n ds l (Ws w0 F (gk i L)<|c::Vs) rest):WL P ops Q n ds l (Ws w0 F L Vs) rest:=by
 subst d;have j:bv b (aY (xs.flatMap g4).toArray T a) b=aa (aY (xs.flatMap g4).toArray T a):=by simp [bv]
 exact WL.yp i hL<|h _<|I1 (f:=g4) j rn iH e g
end
section
variable {P:dJ} {l:I<|Z×aR} {W:aP->Prop} {d:aA Tmp} {ty:cn} {pos:fO} {af:bH fY} {g:aA<|Z×aS}
def N_ {t:cn} {parts:I<|Z×ei} {vs:I<|Z×aR} {z:aR} {n s:Z} {out:I aR} (h:zeroOf P t=aa z) (a:yw P t=aa (n,s)) (hv:vx l parts=aa vs) (j:ue (λi=>aa (i*s,s)) (bm z) vs=aa out):Yl P l W ⟨d,.build t parts.toArray,ty,pos,af,g⟩<|b0 out.toArray:=by
 intro k w o _;have p:(parts.toArray.map λ (i,x)=>(i,k x):bH (Z×aR)).toList=vs:=by simpa using EW o parts vs hv
 unfold yw at a;cases b:P.underlying t with
 | none=>simp [b] at a
 | some q=>
  cases q<;>simp [b] at a;rename_i m e;obtain ⟨c,hi,r,u⟩:=a;subst r u;have f:Instr.fill (λi=>aa (i*c.size,c.size)) z.cells vs=aa out.toArray:=by refine B7 _ vs z.cells out ?_;rw [wQ];simpa using j
  simp only [execOp,Instr.build,j7,yn h,jc,run_underlying b,p,f,sizeOf,typeInfo,hi,lG];simp [hi,f]
end
section
variable {P:dJ} {ops:bH cg} {Q:di->cY->aP->Prop} {n:Z} {ds:I fw} {l:I<|Z×aR} {w0:aP} {F:I Z} {L:I bh} {Vs:I View} {rest:I cg} {d:Z} {ty:cn} {pos:fO} {af:bH fY} {g:aA<|Z×aS}
variable {eK:FuncId} {hc:bH ei} {jU:bH cn} {ea:I aR}
def ro {ι κ:Type}     (o L2:I bh) (D:eS ops l g) (E:e' d n=ad) (G:Enters P eK) (H:h' l hc.toList=aa ea) (hL:L=o++L2) (v:ι->aR) (u:ι->I bh) (R:View->ι->Prop) (y:κ->I oZ) (Lp:κ->I bh) (z:κ->Prop) (cI:I View) (J:∀f ∈ cI,f ∈ Vs) (K:∀i,∀k ∈ (u i).flatMap bh.ids,k ∈ o.flatMap bh.ids) (hC:∀w,Ws w (o.flatMap bh.ids) o cI w->cx P eK ea.toArray w λe b=>(∃i,e = cf (v i)/\R (nv w b) i/\Ws w (o.flatMap bh.ids) (u i) cI b)\/(∃j,e = .panicked (y j)/\z j/\Ws w (o.flatMap bh.ids) (Lp j) cI b)) (M:∀j,z j->WE Q (.panic<|y j) n ds l (Ws w0 F (Lp j++L2) Vs)) (N:∀f i,hf w0 f->R f i->WL P ops Q n ds ((d,v i)::l) (Ws w0 F (u i++L2)<|f::Vs) rest) : WL P ops Q n ds l (Ws w0 F L Vs)<|⟨aa d,.call ⟨.value<|.func eK,hc,jU⟩,ty,pos,af,g⟩::rest:=by
 subst hL;refine WL.B8 (ι:=View×ι) D E G H (λi=>v i.2) (λi b=>(hf w0 i.1/\R i.1 i.2)/\Ws w0 F (u i.2++L2) (i.1::Vs) b) (λc b=>∃j,c=y j/\z j/\Ws w0 F (Lp j++L2) Vs b) (λw p=>(hC w<|p.self.aZ J).mono λe b S=>?_) (λi=>?_)<|λc=>?_
 ·rcases S with ⟨i,rfl,s,h⟩ | ⟨j,rfl,s,h⟩
  ·have q:=p.back h;refine bB ⟨(nv w b,i),O,⟨(z5 w b).mono p.fr.size,s⟩,q.fr,q.kn,q.nd,q.own,λf m=>?_,λf m x r k A=>?_⟩
   ·rcases eR.1 m with rfl | m;·exact Ij w b
    ·exact q.vs f m
   ·rcases eR.1 m with rfl | m
    ·have T:k<w.heap.size:=by
      rcases fe.1 r with r | r;·have U:=K i k<|nO.2 ⟨x,r,A⟩;obtain ⟨B,V,W⟩:=nO.1 U;exact B.z6 w (p.kn B (by simp [V])) k W
      ·exact x.z6 w (p.kn x (by simp [r])) k A
     exact (z5 w b).off T
    ·exact q.off f m x r k A
  ·exact be ⟨_,O,j,O,s,p.back h⟩
 ·intro a w C t;exact N i.1 i.2 t.1.1 t.1.2 a w C t.2
 ·rintro a w C ⟨j,rfl,s,t⟩;exact M j s a w C t
def Wu {ι:Type}     (a L2:I bh) (j:eS ops l g) (m:e' d n=ad) (o:Enters P eK) (p:h' l hc.toList=aa ea) (hL:L=a++L2) (v:ι->aR) (c:ι->I bh) (R:View->ι->Prop) (cI:I View) (q:∀b ∈ cI,b ∈ Vs) (r:∀i,∀k ∈ (c i).flatMap bh.ids,k ∈ a.flatMap bh.ids) (hC:∀w,Ws w (a.flatMap bh.ids) a cI w->cx P eK ea.toArray w λe f=>∃i,e = cf (v i)/\R (nv w f) i/\Ws w (a.flatMap bh.ids) (c i) cI f) (s:∀b i,hf w0 b->R b i->WL P ops Q n ds ((d,v i)::l) (Ws w0 F (c i++L2)<|b::Vs) rest) : WL P ops Q n ds l (Ws w0 F L Vs)<|⟨aa d,.call ⟨.value<|.func eK,hc,jU⟩,ty,pos,af,g⟩::rest:= ro (κ:=ef) a L2 j m o p hL v c R (λ_=>[]) (λ_=>[]) (λ_=>False) cI q r (λw t=>(hC w t).mono λ_ _ h=>bB h) (λ_ h=>h.elim) s
end
end Go.Bw
end
