/- WholeShown: how a module is written changes nothing: shown anew, in another order, a program means the same. -/
import Derived.Below
import Derived.Carry
import Derived.ChangeOld
import Derived.Deep.Quiet
import Derived.Deep.Slices
import Derived.Deep.Upon
import Derived.Defers
import Derived.JoinedCond
import Derived.LaidEql
import Derived.Laws.BytesString
import Derived.Laws.DeepStrings4
import Derived.Laws.Externs
import Derived.Laws.Pointers
import Derived.Laws.Slices
import Derived.Lib.AppendStr
import Derived.Lib.AppendZeros
import Derived.Lib.AtoiAllCases
import Derived.Lib.AtoiTie
import Derived.Lib.Builder
import Derived.Lib.Bytealg
import Derived.Lib.ConvBytes
import Derived.Lib.ItoaNum
import Derived.Lib.Join
import Derived.Lib.LaidTab
import Derived.Lib.SmallJoins
import Derived.Lib.UnsafeStr
import Derived.MapKept
import Derived.OpenShut
import Derived.ProofKit
import Derived.Recover
import Derived.Sort.Grow
import Derived.WalkKit
import Derived.WalkSpells
import Derived.WideMake
set_option linter.unusedVariables false
set_option linter.unusedSimpArgs false
set_option linter.defProp false
open _root_ renaming List->I,Nat->Z,Int->ab,Option->az,Bool->aQ,UInt8->a7,Array->bE,Unit->dT,String->bg
open Option renaming some->aa,none->ak
open Bool renaming true->ac,false->au
open Go.Value renaming int->an,slice->aC,agg->bU,bool->bV,pointer->b0,tuple->cN,ownBlock->lq
open Go.IntKind renaming i64->am
open Go renaming World->aL,Value->aT,Addr->a0,TypeId->b_,Calls->cr,Oper->ay,Act->aN,Exit->aO,Program->aV,Operand->dF,Deferred->e',Edge->fw,FuncId->jU,PanicEntry->nW
open Go.Obj renaming cells->aM
open Or renaming inr->bl,inl->bA
open Go.Ending renaming returned->ax
open Nat renaming blt->eB,beq->ik,strongRecOn->c8
open List renaming replicate->gI,range->kJ
open Go.Lib renaming itoa->hO,decDigits->kY,atoiAll->p'
open Go.Result renaming andThen_ok->ie
open Go.Sem renaming run_bind->iN,run_pure->kK
open Go.Oper renaming wp->jB
open Go.Region renaming ready->j7,wanted->m1,Mode->p8,noSelect->p9,binds->qP
open Array renaming replicate->uc
namespace Go
def aj {p:Prop} (h:p:=by omega):p:=h
def aG {p:Prop} (h:p:=by simp):p:=h
def a' {p:Prop} (h:p:=by decide):p:=h
def mW {p:Prop} (h:p:=by assumption):p:=h
def ah {p:Prop} (h:p:=by kernel_rfl):p:=h
def dO {α:Type _} {l:I α} {i:Z} (h:i<l.length):∃x,l[i]? = aa x:=⟨_,I.getElem?_eq_getElem h⟩
def aR {α:Sort _} {p:α->Prop}:∀a,p a->p a:=λ_ h=>h
def ud {α β:Sort _} {p:α->β->Prop}:∀a b,p a b->p a b:=λ_ _ h=>h
def fp {α β e f:Sort _} {p:α->β->e->f->Prop}:∀a b c d,p a b c d->p a b c d:=λ_ _ _ _ h=>h
def r2:=@Z.le_of_ble_eq_true
def nX:=@Z.eq_of_beq_eq_true
def kZ:=@bE.getD_eq_getD_getElem?
def ue:=@bE.getElem?_setIfInBounds_ne
def CO:=@I.mem_cons_self
def mI:=@I.mem_cons_of_mem
def wQ:=@bE.getElem?_eq_getElem
def eZ:=@I.mem_cons
def Ar:=@Z.beq_refl
def p_:=@Z.sub_zero
def m2:=@Z.lt_or_ge
def pP:=@I.getElem?_eq_none
def CP:=@bE.getElem?_append
def dh:=@I.getElem?_eq_getElem
def KQ:=@Classical.choose_spec
def qa:=@Z.le_trans
def eC:=@Z.le_refl
def CQ:=@Z.lt_of_lt_of_le
def yp:=@bE.getElem?_eq_none
def At:=@I.flatMap_append
def lJ:=@I.nodup_append
def m3:=@I.mem_flatMap
def bm:=@I.mem_append
def dJ:=@I.mem_of_getElem?
def b8:=@I.getElem?_take
def uf:=@Z.add_assoc
def eW:=@aQ.and_eq_true
def vq:=@Z.add_zero
def KR:=@bE.length_toList
def vr:=@bE.ext'
def wR:=@I.mapM_cons
def eI:=@az.map_some
def cF:=@az.bind_some
def yq:=@bE.mapM_eq_mapM_toList
def gw:=@I.all_eq_true
def lr:=@I.length_take
def lU:=@Z.min_eq_left
def nn:=@Z.mul_le_mul_right
def de:=@Z.zero_le
def vt:=@Z.add_mul
def yb:=@I.map_toArray
def l_:=@I.map_cons
def CR:=@I.map_nil
def KS:=@az.mem_toList
def yr:=@I.all_cons
def hx:=@I.cons_append
def qb:=@I.take_append_drop
def c_:=@I.getElem?_eq_some_iff
def KT:=@I.getElem_cons_drop
def Au:=@Z.mul_one
def r3:=@I.ext_getElem?
def dP:=@aQ.false_eq_true
def CS:=@Ne.symm
def Gd:=@bE.setIfInBounds_comm
def Av:=@I.map_congr_left
def Ge:=@Z.mod_lt
def Gf:=@aQ.and_true
def CT:=@Z.ble_eq_true_of_le
def k0:=@Z.zero_add
def n_:=@I.length_singleton
def jm:=@I.flatMap_cons
def qc:=@I.take_succ_cons
def ho:=@I.append_assoc
def r4:=@I.getElem?_append_right
def sQ:=@Z.add_sub_cancel_left
def Aw:=@I.getElem?_append_left
def Gg:=@I.take_append
def i':=@I.take_of_length_le
def Gh:=@I.take_append_of_le_length
def ym:=@I.drop_append
def KU:=@I.drop_of_length_le
def s7:=@I.nil_append
def KV:=@I.getElem?_append
def e_:=@I.length_append
def F0:=@I.getElem?_drop
def Ax:=@I.set_getElem_self
def m4:=@ab.toNat_natCast
def eL:=@I.length_cons
def CV:=@I.map_map
def px:=@az.getD_some
def wT:=@I.mem_range
def r5:=@I.eq_nil_of_length_eq_zero
def wU:=@aQ.true_and
def yt:=@I.getElem?_modify
def gh:=@I.getElem?_map
def KX:=@bE.toList_modify
def Gj:=@I.mapM_nil
def gJ:=@I.take_length
def KY:=@Z.lt_trichotomy
def cG:=@I.mem_append_right
def s0:=@aQ.or_eq_true
def yu:=@aQ.false_or
def y7:=@Z.succ_mul
def fT:=@I.length_nil
def qd:=@I.append_nil
def gi:=@az.some.injEq
def CX:=@I.getElem_mem
def KZ:=@a7.toNat_ofNat'
def fq:=@I.mem_singleton
def eD:=@az.map_eq_some_iff
def wV:=@I.any_eq_false
def s8:=@I.any_eq_true
def wW:=@I.drop_length
def nY:=@I.map_append
def lK:=@aQ.eq_iff_iff
def dl:=@az.bind_eq_some_iff
def ug:=@aQ.eq_false_iff
def s9:=@I.getElem?_inj
def CY:=@I.pairwise_iff_getElem
def ls:=@I.getElem?_of_mem
def yv:=@I.all_eq_false
def hP:=@I.take_add_one
def nZ:=@I.drop_eq_getElem_cons
def yw:=@I.nodup_cons
def Ay:=@Z.sub_self
def lL:=@I.getElem?_cons_zero
def bb:=@az.map_none
def lM:=@I.getElem?_cons_succ
def lN:=@aQ.or_eq_false_iff
def Az:=@aQ.or_false
def K0:=@a7.toNat_inj
def Gl:=@a7.lt_iff_toNat_lt
def K1:=@I.dropLast_concat_getLast
def CZ:=@I.set_append_right
def yx:=@I.getElem?_set
def Gm:=@I.length_set
def py:=@I.mem_map
def K2:=@I.modify_succ_cons
def C0:=@I.range_succ
def Gn:=@I.mem_append_left
def pR:=@I.mem_of_mem_take
def gj:=@aQ.and_eq_true_iff
def C1:=@Z.le_add_right
def AB:=@I.sum_cons
def C2:=@I.replicate_succ
def AC:=@I.prefix_rfl
def Gp:=@aQ.or_eq_true_iff
def wX:=@I.drop_eq_nil_of_le
def Gq:=@I.getElem?_replicate
def C3:=@I.contains_iff_mem
def dd:=@Z.lt_succ_iff_lt_or_eq
def yy:=@I.reverse_cons
def K3:=@I.sum_append
def K4:=@I.length_flatMap
def C4:=@I.flatMap_nil
def Gr:=@I.drop_reverse
def zi:=@I.take_reverse
def zq:=@ab.le_refl
def Gu:=@Z.eq_zero_or_pos
def C5:=@I.length_replicate
def uh:=@Function.comp_def
def C6:=@aQ.or_true
def C7:=@aQ.true_or
def C8:=@aQ.or_self
def fK:=@I.length_map
def K5:=@I.pairwise_append
def K6:=@I.pairwise_cons
def Gv:=@Classical.byContradiction
def Gw:=@Z.mul_add
def K7:=@Z.mul_le_mul_left
def K8:=@I.getElem?_take_of_lt
def AD:=@I.getElem?_mapIdx
def K9:=@I.getElem?_set_ne
def C9:=@I.count_append
def zG:=@I.count_cons
def ui:=@I.not_mem_nil
def dY:=@Prod.mk.injEq
def C':=@aQ.not_eq_true'
def Gy:=@I.filterMap_cons
def K':=@I.getElem?_eq_none_iff
def e5:=@I.forall_mem_cons
def gK:=@I.forall_mem_nil
def eX:=@az.bind_none
def AE:=@aQ.not_eq_true
def C_:=@Z.not_lt_zero
def K_:=@I.count_le_length
def G3:=@aQ.eq_false_or_eq_true
def G5:=@I.length_range
def Lc:=@az.some.inj
def aU:=@if_pos
def ao:=@if_neg
def dp:=@if_true
def vu:=@cond_true
def dq:=@if_false
def Da:=@cond_false
def j8:=@beq_iff_eq
def G6:=@beq_eq_false_iff_ne
def mb:=@decide_eq_true_eq
def ny:=@decide_eq_false_iff_not
def Db:=@decide_eq_false
def kL:=@decide_eq_true
def uj:=@of_decide_eq_true
def Dc:=@forall_eq_or_imp
def Gz:=@of_decide_eq_false
def qQ:=@or_false
def s':=@or_self
def AF:=@true_or
def Hk:=@beq_self_eq_true
def O {α : Sort _} {a : α} : a = a := rfl
def Y {α : Sort _} {a : α} {b : Prop} : a = a \/ b := bA rfl
end Go
section
namespace Go.Bw
open Go Go.RowKit
def lk:I (Z×aT)->Z->az aT| [],_=>ak| (k,v)::r,n=>bif ik k n then aa v else lk r n
structure Ag (n:Z) (ds:I e') (l:I<|Z×aT) (a:aN):Prop where
 size:a.tmps.size=n
 defs:a.defers=ds
 jn:∀t v,lk l t=aa v->a.tmps.getD t undef=v
def b5 (l:I<|Z×aT):dF->az aT| .tmp t=>lk l t| .const v=>aa v| .global g=>aa<|b0<|aa ⟨g,0,ak⟩| .func f=>aa<|.func (.func f) #[] #[]
section
variable {n:Z} {ds:I e'} {l:I<|Z×aT} {a:aN}
def Ag.eval (h:Ag n ds l a) {x:dF} {v:aT} (b:b5 l x=aa v):a.eval x=v:=by cases x with| tmp t=>exact h.jn t v b| const u=>simpa [b5,aN.eval] using b| global g=>simpa [b5,aN.eval] using b| func f=>simpa [b5,aN.eval] using b
def Ag.put (h:Ag n ds l a) {d:Z} (c:eB d n=ac) (v:aT):Ag n ds ((d,v)::l)<|a.put (aa d) v:=by
 have f:d<a.tmps.size:=by rw [h.size];exact r2 c
 refine ⟨by simp [aN.put,h.size],h.defs,λt u b=>?_⟩;simp only [lk] at b;by_cases e:d=t;·subst e;simp at b;subst b;simp [aN.put,bE.getD,f]
 ·have:ik d t=au:=by cases g:ik d t with| false=>rfl| true=>exact absurd (nX g) e
  rw [this] at b;have:=h.jn t u b;simp only [aN.put,kZ] at *;rw [ue e];exact this
def Ag.yz (h:Ag n ds l a) (v:aT):Ag n ds l<|a.put ak v:=h
def Ag.sub (h:Ag n ds l a) {b:I<|Z×aT} (d:∀p ∈ b,lk l p.1=aa p.2):Ag n ds b a:=by refine ⟨h.size,h.defs,λt v hv=>?_⟩;suffices hm:(t,v) ∈ b from h.jn t v<|d _ hm;induction b with| nil=>cases hv| cons p r e=>obtain ⟨k,u⟩:=p;simp only [lk] at hv;cases c:ik k t with| true=>rw [c] at hv;have:=nX c;subst this;simp at hv;subst hv;exact CO| false=>rw [c] at hv;exact mI _<|e (λp f=>d p<|mI _ f) hv
def yA (l:I<|Z×aT):I (Z×aT)->I (az aT)| []=>[]| p::r=>lk l p.1::yA l r
def yB:I (Z×aT)->I (az aT)| []=>[]| p::r=>aa p.2::yB r
def AG {l:I<|Z×aT}:∀{r:I<|Z×aT},yA l r=yB r->∀p ∈ r,lk l p.1=aa p.2
 | [],_,p,h=>by cases h
 | q::r,e,p,h=>by
  injection e with a b;rcases I.mem_cons.1 h with rfl|h;·exact a
  ·exact AG b p h
end
section
variable {P:aV} {ops:bE ay} {Q:aO->aN->aL->Prop} {n:Z} {ds:I e'} {l:I<|Z×aT} {W:aL->Prop}
def WL (P:aV) (ops:bE ay) (Q:aO->aN->aL->Prop) (n:Z) (ds:I e') (l:I<|Z×aT) (W:aL->Prop) (rest:I ay):Prop:= ∀a w,Ag n ds l a->W w->wpList P ops Q rest a w
def WC (P:aV) (c:Code) (Q:aO->aN->aL->Prop) (n:Z) (ds:I e') (l:I<|Z×aT) (W:aL->Prop):Prop:= ∀a w,Ag n ds l a->W w->c.wp P Q a w
def WE (Q:aO->aN->aL->Prop) (e:aO) (n:Z) (ds:I e') (l:I<|Z×aT) (W:aL->Prop):Prop:= ∀a w,Ag n ds l a->W w->Q e a w
def Yl (P:aV) (l:I<|Z×aT) (W:aL->Prop) (o:ay) (v:aT):Prop:= ∀(a:dF->aT) (w:aL),(∀x u,b5 l x=aa u->a x=u)->W w->(execOp a o).run P w = .ok (.value v) w
def Ln (h:WE Q .normal n ds l W):WL P ops Q n ds l W []:=λa w b c=>h a w b c
def eE (ops:bE ay) (l:I<|Z×aT) (g:az<|Z×aQ):Prop:= g=ak\/∃j b a,g=aa (j,b)/\(ops[j]?).bind (·.dst)=aa a/\lk l a=aa (bV b)
def eE.wanted {o:ay} {a:aN} (h:eE ops l o.guard) (e:Ag n ds l a):m1 o (yielded ops a.tmps)=ac:=by
 rcases h with h | ⟨j,b,d,f,g,i⟩;·simp [m1,h]
 ·have hv:=e.jn d _ i;rw [kZ] at hv;cases c:a.tmps[d]? with| none=>simp [c,undef] at hv| some u=>simp [c] at hv;subst hv;simp [m1,f,yielded,g,c]
variable {b6:I ay} {eR:ay}
def WL.step (d:eE ops l eR.guard) (h:∀a w,Ag n ds l a->W w->∀b:aN->aL->Prop,(∀a w,wpList P ops Q b6 a w->b a w)->eR.wp P a w b Q):WL P ops Q n ds l W<|eR::b6:=by intro a w c e;refine wpList_step λb f=>?_;rw [aU<|d.wanted c];exact h a w c e b f
variable {ae:Z} {lu:Op} {bs:b_} {gk:bg} {gU:bE fw} {bn:aT} {gE:az<|Z×aQ}
def Lv (d:eE ops l gE) (e:eB ae n=ac) (f:Yl P l W ⟨aa ae,lu,bs,gk,gU,gE⟩ bn) (h:WL P ops Q n ds ((ae,bn)::l) W b6):WL P ops Q n ds l W<|⟨aa ae,lu,bs,gk,gU,gE⟩::b6:=by refine WL.step d λa w b c j g=>?_;have:=f a.eval w (λx u i=>b.eval i) c;simp only [jB,this,ay.upon_value];exact g _ _<|h _ _ (b.put e bn) c
def V0 (a:Yl P l W ⟨aa ae,lu,bs,gk,gU,ak⟩ bn) (h:WL P ops Q n ds ((ae,bn)::l) W b6) (b:eB ae n=ac:=by rfl):WL P ops Q n ds l W<|⟨aa ae,lu,bs,gk,gU,ak⟩::b6:=Lv (bA rfl) b a h
def Vg (a:Yl P l W ⟨aa ae,lu,bs,gk,gU,gE⟩ bn) (h:WL P ops Q n ds ((ae,bn)::l) W b6) (b:eE ops l gE:=by exact bl ⟨_,_,_,rfl,rfl,rfl⟩) (c:eB ae n=ac:=by rfl):WL P ops Q n ds l W<|⟨aa ae,lu,bs,gk,gU,gE⟩::b6:=Lv b c a h
variable {dE:aQ} {aH:Z}
def eE.g (a:gE=aa (ae,dE)) (b:(ops[ae]?).bind (·.dst)=aa aH) (c:lk l aH=aa (bV dE)):eE ops l gE:=bl ⟨ae,dE,aH,a,b,c⟩
def WL.skip {b:Z} (e:eB ae n=ac) (f:ops[aH]? = aa eR) (g:eR.dst=aa b) (i:eB b n=ac) (j:lk l b=aa (bV<|!dE)) (h:WL P ops Q n ds ((ae,undef)::l) W b6):WL P ops Q n ds l W<|⟨aa ae,lu,bs,gk,gU,aa (aH,dE)⟩::b6:=by
 intro a w c k;refine wpList_step λq m=>?_;have hv:a.tmps.getD b undef = bV (!dE):=c.jn b _ j;have d:b<a.tmps.size:=by rw [c.size];exact r2 i
 have o:a.tmps[b]? = aa (bV<|!dE):=by rw [kZ,wQ d] at hv;rw [wQ d];simpa using hv
 have p:yielded ops a.tmps aH=aa (!dE):=by simp [yielded,f,g,o]
 rw [ao (by simp [m1,p])];exact m _ _<|h _ _ (c.put e undef) k
def WL.sub (b:I<|Z×aT) (c:∀p ∈ b,lk l p.1=aa p.2) (h:WL P ops Q n ds b W b6):WL P ops Q n ds l W b6:= λa w d e=>h a w (d.sub c) e
variable {bG:Code}
def WC.sub (b:I<|Z×aT) (c:∀p ∈ b,lk l p.1=aa p.2) (h:WC P bG Q n ds b W):WC P bG Q n ds l W:= λa w d e=>h a w (d.sub c) e
variable {Dd:aO}
def WE.sub (b:I<|Z×aT) (c:∀p ∈ b,lk l p.1=aa p.2) (h:WE Q Dd n ds b W):WE Q Dd n ds l W:= λa w d e=>h a w (d.sub c) e
def LW {W':aL->Prop} (b:∀w,W w->W' w) (h:WL P ops Q n ds l W' b6):WL P ops Q n ds l W b6:= λa w c d=>h a w c<|b w d
def oO {W':aL->Prop} (b:∀w,W w->W' w) (h:WC P bG Q n ds l W'):WC P bG Q n ds l W:= λa w c d=>h a w c<|b w d
def WE.world {W':aL->Prop} (b:∀w,W w->W' w) (h:WE Q Dd n ds l W'):WE Q Dd n ds l W:= λa w c d=>h a w c<|b w d
def sn {l:I<|Z×aT}:∀p ∈ ([]:I (Z×aT)),lk l p.1=aa p.2:=aG
def sc {l r:I<|Z×aT}   (h:lk l ae=aa bn) (b:∀p ∈ r,lk l p.1=aa p.2):∀p ∈ (ae,bn)::r,lk l p.1=aa p.2:=by
 intro p a;rcases eZ.1 a with rfl | a;·exact h
 ·exact b p a
variable {wY:Code}
def Cs (h:WC P bG (aO.then (wY.wp P Q) Q) n ds l W):WC P (.seq bG wY) Q n ds l W:=λa w b c=>wp_seq<|h a w b c
def Ck (h:WE Q .normal n ds l W):WC P .skip Q n ds l W:=λa w b c=>wp_skip<|h a w b c
def bq (h:WE Q .ret n ds l W):WC P .ret Q n ds l W:=λa w b c=>wp_ret<|h a w b c
def Ce (h:WE Q (.exit ae) n ds l W):WC P (.exit ae) Q n ds l W:=λa w b c=>wp_exit<|h a w b c
def Cb (h:WC P bG (aO.inBlock ae Q) n ds l W):WC P (.block ae bG) Q n ds l W:=λa w b c=>wp_block<|h a w b c
def Cr (h:WL P b6.toArray Q n ds l W b6):WC P (.region ae b6.toArray au) Q n ds l W:=λa w b c=>wp_region_lit<|h a w b c
variable {bC:dF}
def Cc (d:b5 l bC=aa (bV dE)) (e:dE=ac->WC P bG Q n ds l W) (f:dE=au->WC P wY Q n ds l W):WC P (.cond bC bG wY) Q n ds l W:= λa w b c=>wp_cond_split (b.eval d) (λh=>e h a w b c)<|λh=>f h a w b c
def WC.s6 (c:b5 l bC=aa (bV ac)) (h:WC P bG Q n ds l W):WC P (.cond bC bG wY) Q n ds l W:= λa w b d=>wp_cond_true (b.eval c)<|h a w b d
def WC.r6 (c:b5 l bC=aa (bV au)) (h:WC P wY Q n ds l W):WC P (.cond bC bG wY) Q n ds l W:= λa w b d=>wp_cond_false (b.eval c)<|h a w b d
variable {mc:aO->aN->aL->Prop}
def Et (h:WC P bG Q n ds l W):WE (aO.then (bG.wp P Q) mc) .normal n ds l W:=λa w b c=>h a w b c
variable {vv:aN->aL->Prop}
def Er (h:WE Q .ret n ds l W):WE (aO.then vv Q) .ret n ds l W:=h
def Ex (h:WE Q (.exit ae) n ds l W):WE (aO.then vv Q) (.exit ae) n ds l W:=h
def ag (h:WC P bG Q n ds l W):WL P ops (aO.then (bG.wp P Q) mc) n ds l W []:=Ln<|Et h
def ai (h:WL P b6.toArray (aO.then (bG.wp P Q) Q) n ds l W b6):WC P (.seq (.region ae b6.toArray au) bG) Q n ds l W:=Cs<|Cr h
def bO (h:WC P bG Q n ds l W):WC P .skip (aO.then (bG.wp P Q) mc) n ds l W:=Ck<|Et h
def Eb (h:WE Q .normal n ds l W):WE (aO.inBlock ae Q) .normal n ds l W:=h
def cZ (h:WE Q .ret n ds l W):WE (aO.inBlock ae Q) .ret n ds l W:=h
def dy (h:WE Q .normal n ds l W):WE (aO.inBlock ae Q) (.exit ae) n ds l W:=λa w b c=>by simp only [aO.inBlock,dp];exact h a w b c
def AH (b:ik aH ae=au) (h:WE Q (.exit aH) n ds l W):WE (aO.inBlock ae Q) (.exit aH) n ds l W:=λa w c d=>by
 have:aH≠ae:=λe=>by subst e;rw [Ar] at b;cases b
 simp only [aO.inBlock,ao this];exact h a w c d
def wZ:Z->I aT->I (Z×aT)| _,[]=>[]| i,v::r=>(i,v)::wZ (i+1) r
def zW (vs:I aT):∀(i t:Z) (v:aT),lk (wZ i vs) t=aa v->i<=t/\vs[t-i]? = aa v:=by induction vs with| nil=>intro i t v h;cases h| cons x r b=>intro i t v h;simp only [wZ,lk] at h;cases a:ik i t with| true=>rw [a] at h;have:=nX a;subst this;simp at h;simp [h]| false=>rw [a] at h;obtain ⟨d,c⟩:=b (i+1) t v h;refine ⟨aj,?_⟩;have:t-i=(t-(i+1))+1:=aj;rw [this];simpa using c
variable {bo:Func} {hp:Ending->aL->Prop}
def enter {f:jU}   {vs:I aT} {w:aL}  (c:P.funcs[f]? = aa bo) (d:bo.body=aa bG) (m:Z) (e:bo.ntmps=m) (g:Z.ble vs.length m=ac) (h:WC P bG (bodyPost P bo hp) m [] (wZ 0 vs)<|λi=>i=w):cr P f vs.toArray w hp:=by
 refine calls_of_wp c d<|h _ _ ?_ O;have j:=r2 g;subst e;refine ⟨by simp;omega,O,λt v hv=>?_⟩;obtain ⟨_,a⟩:=zW vs 0 t v hv;simp only [p_] at a;have b:t<vs.length:=by
  rcases m2 t vs.length with h | h;·exact h
  ·simp [pP h] at a
 simp [kZ,CP,b];simp [dh b] at a;exact a
def WE.ul (b:bo.results = #[]) (h:∀w,W w->hp (ax<|cN #[]) w):WE (bodyPost P bo hp) .ret n [] l W:= λa w c d=>bodyPost_ret (results_none b _ _ _) c.defs<|h w d
def E0 (b:bo.results = #[]) (h:∀w,W w->hp (ax<|cN #[]) w):WE (bodyPost P bo hp) .normal n [] l W:= λa w c d=>bodyPost_end (results_none b _ _ _) c.defs<|h w d
def R1 (c:bo.results = #[.tmp ae]) (d:lk l ae=aa bn) (h:∀w,W w->hp (ax bn) w):WE (bodyPost P bo hp) .ret n [] l W:= λa w b e=>bodyPost_ret (results_tmp c _ _ _) b.defs (by rw [b.jn ae bn d];exact h w e)
def WE.iA {v x:aT} (c:bo.results = #[.tmp ae,.tmp aH]) (d:lk l ae=aa v) (e:lk l aH=aa x) (h:∀w,W w->hp (ax<|cN #[v,x]) w):WE (bodyPost P bo hp) .ret n [] l W:= λa w b f=>bodyPost_ret (results_tmp2 c _ _ _) b.defs (by rw [b.jn ae v d,b.jn aH x e];exact h w f)
variable {yC:I nW}
def b3 (h:∀w,W w->hp (.panicked yC) w):WE (bodyPost P bo hp) (.panic yC) n [] l W:= λa w b c=>⟨b.defs,h w c⟩
def Ep (h:WE Q (.panic yC) n ds l W):WE (aO.then vv Q) (.panic yC) n ds l W:=h
def WE.aF (h:WE Q (.panic yC) n ds l W):WE (aO.inBlock ae Q) (.panic yC) n ds l W:=h
def T4 {p:Z->Prop}:∀m,p m->∃k,p k/\∀j,p j->k<=j:=by
 intro m;induction m using c8 with
 | _ m b=>
  intro c;by_cases h:∃j,j<m/\p j;·obtain ⟨j,d,a⟩:=h;exact b j d a
  ·exact ⟨m,c,λj a=>Z.le_of_not_lt λe=>h ⟨j,e,a⟩⟩
variable {bW:Type}
def wp_loop_ghost {a:aN} {w:aL} (b:bW->aN->aL->Prop) (c:bW->Z) (g:bW) (n:b g a w) (o:∀i a w,b i a w->bG.wp P (aO.then (λd f=>∃j,c j<c i/\b j d f) Q) a w):(Code.loop bG).wp P Q a w:=by
 classical
  let J:aN->aL->Prop:=λa w=>∃i,b i a w;have ex:∀a w,J a w->∃k,(∃i,b i a w/\c i=k)/\∀j,(∃i,b i a w/\c i=j)->k<=j:=by rintro a w ⟨i,hi⟩;exact T4 (c i) ⟨i,hi,O⟩
  let M:aN->aL->Z:=λa w=>if h:J a w then Classical.choose (ex a w h) else 0;have p:∀a w,J a w->∃i,b i a w/\c i=M a w:=by intro a w h;have:=(KQ<|ex a w h).1;simp only [M,dif_pos h];exact this
  have q:∀a w i,b i a w->M a w<=c i:=by intro a w i hi;have h:J a w:=⟨i,hi⟩;simp only [M,dif_pos h];exact (KQ<|ex a w h).2 _ ⟨i,hi,O⟩
  refine wp_loop J M ⟨g,n⟩ λa w r=>?_;obtain ⟨i,hi,s⟩:=p a w r;refine wp_mono (o i a w hi) λe d f l=>?_;cases e with| normal=>obtain ⟨j,t,m⟩:=l;exact ⟨⟨j,m⟩,by have:=q d f j m;omega⟩| _=>exact l
def WC.loop (b:bW->I (Z×aT)) (Wi:bW->aL->Prop) (R:bW->Prop) (d:bW->Z) (c:bW) (f:R c) (g:∀p ∈ b c,lk l p.1=aa p.2) (h:∀w,W w->Wi c w) (k:∀i,R i->WC P bG (aO.then (λm o=>∃j,d j<d i/\R j/\Ag n ds (b j) m/\Wi j o) Q) n ds (b i) (Wi i)):WC P (.loop bG) Q n ds l W:=by intro a w q r;refine wp_loop_ghost (λi a w=>R i/\Ag n ds (b i) a/\Wi i w) d c ⟨f,q.sub g,h w r⟩ λi a w e=>?_;exact k i e.1 a w e.2.1 e.2.2
def Ea {c:bW->I (Z×aT)} {Wi:bW->aL->Prop} {R:bW->Prop} {b:bW->Z} {i:bW} (j:bW) (d:b j<b i) (e:R j) (f:∀p ∈ c j,lk l p.1=aa p.2) (g:∀w,W w->Wi j w) : WE (aO.then (λh k=>∃j,b j<b i/\R j/\Ag n ds (c j) h/\Wi j k) Q) .normal n ds l W:=λa w m o=>⟨j,d,e,m.sub f,g w o⟩
def cU {ι:Type} {b:ι->I (Z×aT)} {Wi:ι->aL->Prop} {R:ι->Prop} {a:ι->Z} {i:ι} (j:ι) (c:a j<a i) (d:R j) (e:∀w,W w->Wi j w) (f:yA l (b j)=yB (b j):=by rfl):WE (aO.then (λg h=>∃j,a j<a i/\R j/\Ag n ds (b j) g/\Wi j h) Q) .normal n ds l W:=Ea j c d (AG f) e
end
abbrev View:=Z->az Obj
def Le (H:View) (w:aL):Prop:=∀b o,H b=aa o->w.heap[b]? = aa o
def cV (H a:View):Prop:=∀b o,H b=aa o->a b=aa o
def cV.refl (H:View):cV H H:=λ_ _ h=>h
def cV.trans {a B C:View} (h:cV a B) (k:cV B C):cV a C:=λb o x=>k b o<|h b o x
def nz (o:Obj):aQ:=match o with| aM _ _ f=>ik f.1 0&&ik f.2 0| _=>ac
def g8 (w:aL) (H:View):Prop:=∀b o,H b=aa o->w.heap.size<=b/\nz o=ac
variable {cb:aL} {bt:View} {ae:Z}
def g8.off (h:g8 cb bt)  (a:ae<cb.heap.size):bt ae=ak:=by cases e:bt ae with| none=>rfl| some o=>have:=(h ae o e).1;omega
def nv (a w:aL):View:=λb=>if a.heap.size<=b then (w.heap[b]?).filter nz else ak
variable {eJ:aL} {eT:Obj}
def nE:nv cb eJ ae=aa eT↔cb.heap.size<=ae/\eJ.heap[ae]? = aa eT/\nz eT=ac:=by
 unfold nv;split;·rename_i h;rw [az.filter_eq_some_iff];simp [h]
 ·rename_i h;simp [h]
def GB (a w:aL):Le (nv a w) w:=λb o h=>(nE.1 h).2.1
def yD (a w:aL):g8 a<|nv a w:=λb o h=>⟨(nE.1 h).1,(nE.1 h).2.2⟩
def Tl (c:Le bt eJ) (a:g8 cb bt):cV bt<|nv cb eJ:=λb o h=>nE.2 ⟨(a b o h).1,c b o h,(a b o h).2⟩
def g8.mono (h:g8 eJ bt) (c:cb.heap.size<=eJ.heap.size):g8 cb bt:=λb o a=>⟨qa c (h b o a).1,(h b o a).2⟩
structure Fr (F:I Z) (w0 w:aL):Prop where
 os:w.os=w0.os
 tape:w.tape=w0.tape
 output:w.output=w0.output
 size:w0.heap.size<=w.heap.size
 block:∀k,k<w0.heap.size->k ∉ F->w.heap[k]? = w0.heap[k]?
abbrev Ext (w a:aL):Prop:=Fr [] w a
def Fr.refl (a:I Z) (w:aL):Fr a w w:=⟨rfl,rfl,rfl,eC _,λ_ _ _=>rfl⟩
variable {w2:aL}
def Fr.trans {a b:I Z}  (h:Fr a cb eJ) (k:Fr b eJ w2) (e:∀x ∈ b,x ∈ a\/cb.heap.size<=x):Fr a cb w2:= ⟨k.os.trans h.os,k.tape.trans h.tape,k.output.trans h.output,qa h.size k.size,λi hi c=> (k.block i (CQ hi h.size) λf=>by rcases e i f with d | d;exact c d;omega).trans<|h.block i hi c⟩
def Ext.trans (h:Ext cb eJ) (k:Ext eJ w2):Ext cb w2:=Fr.trans h k aG
def Ext.below (h:Ext cb eJ):Below cb.heap.size cb eJ:=⟨h.os,h.tape,h.output,h.size,λk a=>h.block k a aG⟩
def Ext.GC (h:Below cb.heap.size cb eJ):Ext cb eJ:=⟨h.os,h.tape,h.output,h.size,λk a _=>h.block k a⟩
def Ext.drew (w:aL):Ext w w.drew:=⟨rfl,rfl,rfl,eC _,λ_ _ _=>rfl⟩
def Ext.alloc (w:aL) (o:Obj):Ext w<|w.alloc o:=⟨rfl,rfl,rfl,aG,λk a _=>Below.heap_alloc _ _ _ a⟩
def lt_of_heap (h:cb.heap[ae]? = aa eT):ae<cb.heap.size:=by
 rcases m2 ae cb.heap.size with a | a;·exact a
 ·rw [yp a] at h;cases h
def Le.ext (h:Le bt cb) (e:Ext cb eJ):Le bt eJ:=λb o x=>(e.block b (lt_of_heap<|h b o x) aG).trans<|h b o x
structure bc where
 ids:I Z
 holds:aL->Prop
 loc:∀w w',(∀k ∈ ids,w'.heap[k]? = w.heap[k]?)->holds w->holds w'
 yE:∀w,holds w->∀k ∈ ids,k<w.heap.size
def aJ (b:Z) (o:Obj):bc:=⟨[b],λw=>w.heap[b]? = aa o,λw d h a=>(h b aG).trans a,λw a k c=>by simp at c;subst c;exact lt_of_heap a⟩
structure Ws (w0:aL) (F:I Z) (L:I bc) (Vs:I View) (w:aL):Prop where
 fr:Fr F w0 w
 kn:∀A ∈ L,A.holds w
 nd:(L.flatMap bc.ids).Nodup
 own:∀A ∈ L,∀k ∈ A.ids,k ∈ F\/w0.heap.size<=k
 vs:∀H ∈ Vs,Le H w
 off:∀H ∈ Vs,∀A ∈ L,∀k ∈ A.ids,H k=ak
section
variable {w0 w w':aL} {F:I Z} {L L' L2:I bc} {Vs:I View}
def Ws.init (a:∀H ∈ Vs,Le H w):Ws w [] [] Vs w:=⟨Fr.refl _ _,aG,aG,aG,a,aG⟩
def CE {P:aV} {Q:aO->aN->aL->Prop} {n:Z} {ds:I e'} {l:I<|Z×aT} {c:Code} {a w:aL} {b:I Z} {L:I bc} {Vs:I View} (d:Ws a b L Vs w) (h:WC P c Q n ds l<|Ws a b L Vs):WC P c Q n ds l<|λf=>f=w:= oO (λ_ e=>by subst e;exact d) h
def Ws.w3 (h:Ws w0 F (L++L2) Vs w) (p:Fr (L.flatMap bc.ids) w w') (n:∀c ∈ L',c.holds w') (t:(L'.flatMap bc.ids).Nodup) (hi:∀c ∈ L',∀k ∈ c.ids,k ∈ L.flatMap bc.ids\/w.heap.size<=k):Ws w0 F (L'++L2) Vs w':=by
 have nd:=h.nd;rw [At,lJ] at nd;have same:∀c ∈ L2,∀k ∈ c.ids,w'.heap[k]? = w.heap[k]?:=λc a k n=> p.block k (c.yE w (h.kn c (by simp [a])) k n) λq=>nd.2.2 k q k (m3.2 ⟨c,a,n⟩) rfl;refine ⟨?_,?_,?_,?_,?_,?_⟩;·refine h.fr.trans p λx r=>?_;obtain ⟨c,a,i⟩:=m3.1 r;exact h.own c (by simp [a]) x i
 ·intro c a;rcases bm.1 a with a | a;·exact n c a
  ·exact c.loc w w' (same c a)<|h.kn c (by simp [a])
 ·rw [At,lJ];refine ⟨t,nd.2.1,λx r y s e=>?_⟩;subst e;obtain ⟨c,a,i⟩:=m3.1 r;obtain ⟨B,j,l⟩:=m3.1 s;rcases hi c a x i with d | d;·exact nd.2.2 x d x s O
  ·have:=B.yE w (h.kn B (by simp [j])) x l;omega
 ·intro c a k m;rcases bm.1 a with a | a
  ·rcases hi c a k m with d | d;·obtain ⟨B,j,l⟩:=m3.1 d;exact h.own B (by simp [j]) k l
   ·exact bl<|qa h.fr.size d
  ·exact h.own c (by simp [a]) k m
 ·intro H f b o g;rw [p.block b<|lt_of_heap<|h.vs H f b o g];·exact h.vs H f b o g
  ·intro q;obtain ⟨c,a,i⟩:=m3.1 q;have:=h.off H f c (by simp [a]) b i;rw [this] at g;cases g
 ·intro H f c a k m;rcases bm.1 a with a | a
  ·rcases hi c a k m with d | d;·obtain ⟨B,j,l⟩:=m3.1 d;exact h.off H f B (by simp [j]) k l
   ·cases g:H k with| none=>rfl| some o=>have:=lt_of_heap<|h.vs H f k o g;omega
  ·exact h.off H f c (by simp [a]) k m
def Ws.ext (h:Ws w0 F L Vs w) (e:Ext w w'):Ws w0 F L Vs w':=by have:=Ws.w3 (L:=[]) (L':=[]) (L2:=L) (by simpa using h) (by simpa using e) aG aG aG;simpa using this
def Ws.alloc (h:Ws w0 F L Vs w) (o:Obj):Ws w0 F (aJ w.heap.size o::L) Vs<|w.alloc o:=by have:=Ws.w3 (L:=[]) (L':=[aJ w.heap.size o]) (L2:=L) (by simpa using h) (by simpa using Ext.alloc w o) (by intro b a;simp at a;subst a;show (w.heap.push o)[w.heap.size]? = aa o;simp) (by simp [aJ]) (by simp [aJ]);simpa using this
def Ws.view (h:Ws w0 F L Vs w) (e:Ext w w') {H:View} (f:Le H w') (i:g8 w H):Ws w0 F L (H::Vs) w':=by
 have g:=h.ext e;refine ⟨g.fr,g.kn,g.nd,g.own,?_,?_⟩
 ·intro V a;rcases eZ.1 a with rfl | a;·exact f
  ·exact g.vs V a
 ·intro V a b c k d;rcases eZ.1 a with rfl | a;·exact i.off<|b.yE w (h.kn b c) k d
  ·exact g.off V a b c k d
def Ws.perm (h:Ws w0 F L Vs w) (c:L.Perm L'):Ws w0 F L' Vs w:= ⟨h.fr,λa b=>h.kn a<|c.mem_iff.2 b,(I.Perm.flatMap_right _ c).nodup_iff.1 h.nd,λa b=>h.own a<|c.mem_iff.2 b,h.vs,λH d a b=>h.off H d a<|c.mem_iff.2 b⟩
def Ws.drop (h:Ws w0 F (L++L') Vs w):Ws w0 F L' Vs w:=by have nd:=h.nd;rw [At,lJ] at nd;exact ⟨h.fr,λa b=>h.kn a (by simp [b]),nd.2.1,λa b=>h.own a (by simp [b]),h.vs,λH c a b=>h.off H c a (by simp [b])⟩
def Ws.dr (h:Ws w0 F L Vs w) {cB:I View} (b:∀H ∈ cB,H ∈ Vs):Ws w0 F L cB w:= ⟨h.fr,h.kn,h.nd,h.own,λH a=>h.vs H<|b H a,λH a=>h.off H<|b H a⟩
end
def fR {α:Type}:Z->I α->I α| _,[]=>[]| 0,_::r=>r| i+1,x::r=>x::fR i r
variable {bW:Type} {hg:bW}
def oP:∀(i:Z) (l:I bW),l[i]? = aa hg->l.Perm (hg::fR i l)| _,[],h=>by cases h| 0,y::r,h=>by simp at h;subst h;exact I.Perm.refl _| i+1,y::r,h=>by have:=oP i r (by simpa using h);exact (I.Perm.cons y this).trans<|I.Perm.swap _ _ _
def set_perm {x y:bW}:∀(i:Z) (l:I bW),l[i]? = aa x->(y::fR i l).Perm (l.set i y)| _,[],h=>by cases h| 0,z::r,_=>by simp [fR]| i+1,z::r,h=>by have:=set_perm (y:=y) i r (by simpa using h);exact (I.Perm.swap _ _ _).trans<|I.Perm.cons z this
variable {cJ:I Z} {di:I bc} {en:I View}
def Ws.um (h:Ws cb cJ di en eJ) (i:Z) {a B:bc} (hi:di[i]? = aa a) (b:Fr a.ids eJ w2) (c:B.holds w2) (d:B.ids.Nodup) (e:∀k ∈ B.ids,k ∈ a.ids\/eJ.heap.size<=k):Ws cb cJ (di.set i B) en w2:=by have f:=h.perm<|oP i di hi;have g:=Ws.w3 (L:=[a]) (L':=[B]) (L2:=fR i di) (by simpa using f) (by simpa using b) (by simpa using c) (by simpa using d) (by simpa using e);exact Ws.perm (by simpa using g)<|set_perm i di hi
variable {cg:I bW}
def bu {i:Z}  (h:cg[i]? = aa hg):hg ∈ cg:=dJ h
def Ws.V {a w:aL} {b:I Z} {L:I bc} {Vs:I View} {H:View} (h:Ws a b L Vs w) (c:H ∈ Vs:=by simp):Le H w:=h.vs H c
def qR (P:aV) (t:b_):aQ:=match P.underlying t with| aa<|.struct _ | aa<|.array _ _ | ak=>au| _=>ac
def iC (P:aV) (t:b_):az Z:=match P.underlying t with| aa<|.struct _ | aa<|.array _ _=>(P.info? t).map (·.size)| _=>ak
def cX (P:aV) (t:b_) (f:Z):az Z:=match P.underlying t with
 | aa<|.struct fs=>match fs[f]? with
  | aa x=>match P.info? x.type with| aa i=>if i.size=0 then ak else aa x.offset| ak=>ak
  | ak=>ak
 | _=>ak
def g1 (P:Program) (t:TypeId):Option Nat:=match P.underlying t with| some<|.slice e=>(P.info? e).map (·.size)| _=>none
section
variable {P:aV} {w:aL}
variable {bs:b_}
def zX (h:qR P bs=ac) (w:aL):(isAgg bs).run P w = .ok au w:=by unfold qR at h;cases a:P.underlying bs with| none=>simp [a] at h| some d=>cases d<;>simp_all [isAgg,run_underlying a]
def Tm (h:iC P bs=aa ae) (w:aL):(isAgg bs).run P w = .ok ac w/\(sizeOf bs).run P w = .ok ae w:=by unfold iC at h;cases a:P.underlying bs with| none=>simp [a] at h| some d=>cases hi:P.info? bs with| none=>cases d<;>simp_all| some i=>cases d<;>simp_all [isAgg,run_underlying a,sizeOf,typeInfo]
def jV (o:Obj) (k:Z):az aT:=match o with| aM c _ _=>c.toList[k]?| _=>ak
def vc (H:View) (b k:Z):az aT:=(H b).bind (jV · k)
variable {aH:Z} {bn:aT}
def cell_of_heap {o:Obj}  (h:w.heap[ae]? = aa o) (a:jV o aH=aa bn):w.cell? ⟨ae,aH,ak⟩=aa bn:=by cases o<;>simp_all [jV,aL.cell?]
def Le.cell {H:View} (h:Le H w)   (a:vc H ae aH=aa bn):w.cell? ⟨ae,aH,ak⟩=aa bn:=by unfold vc at a;cases b:H ae with| none=>simp [b] at a| some o=>simp [b] at a;exact cell_of_heap (h ae o b) a
def cV.cell {H c:View} (h:cV H c)   (a:vc H ae aH=aa bn):vc c ae aH=aa bn:=by unfold vc at *;cases b:H ae with| none=>simp [b] at a| some o=>simp [b] at a;simp [h ae o b,a]
def qS (b o k:Z):(⟨b,o,ak⟩:a0).add k=⟨b,o+k,ak⟩:=by unfold a0.add;split<;>simp_all
def Lg (a:qR P bs=ac)   (b:w.cell? ⟨ae,aH,ak⟩=aa bn):(loadVar bs ⟨ae,aH,ak⟩).run P w = .ok bn w:=by simp [loadVar,zX a,b]
def Df (a:iC P bs=aa ae) {b k:Z} {cs:I aT} (c:cs.length=ae) (d:∀j v,cs[j]? = aa v->w.cell? ⟨b,k+j,ak⟩=aa v) : (loadVar bs ⟨b,k,ak⟩).run P w = .ok (bU cs.toArray) w:=by obtain ⟨e,f⟩:=Tm a w;have:=run_loadCells_list (P:=P) w ⟨b,k,ak⟩ cs (λj v h=>by rw [qS];exact d j v h);rw [c] at this;simp [loadVar,e,f,this]
end
def st (l:I a7):aT:=.string ⟨l.toArray⟩
section
variable {P:aV} {l:I<|Z×aT} {W:aL->Prop} {w0:aL} {F:I Z} {L:I bc} {Vs:I View} {d:az Tmp} {ty:b_} {pos:bg} {af:bE fw} {g:az<|Z×aQ}
variable {bC:dF} {bn:aT}
def Ym (a:b5 l bC=aa bn):Yl P l W ⟨d,.move bC,ty,pos,af,g⟩ bn:=λc w b _=>by simp [execOp,b bC bn a]
def Ya (a:b5 l bC=aa bn):Yl P l W ⟨d,.assign bC,ty,pos,af,g⟩ bn:=λc w b _=>by simp [execOp,b bC bn a]
variable {ig:aV} {lO:bE ay} {mc:aO->aN->aL->Prop} {n0:I e'} {eb:I<|Z×aT} {kr:aL->Prop} {b6:I ay} {aH:Z} {bs:b_} {gk:bg} {gU:bE fw}
def ad (a:b5 eb bC=aa bn) (h:WL ig lO mc ae n0 ((aH,bn)::eb) kr b6) (b:eB aH ae=ac:=by rfl):WL ig lO mc ae n0 eb kr<|⟨aa aH,.move bC,bs,gk,gU,ak⟩::b6:=V0 (Ym a) h b
def ar (a:b5 eb bC=aa bn) (h:WL ig lO mc ae n0 ((aH,bn)::eb) kr b6) (b:eB aH ae=ac:=by rfl):WL ig lO mc ae n0 eb kr<|⟨aa aH,.assign bC,bs,gk,gU,ak⟩::b6:=V0 (Ya a) h b
variable {aE j9:dF} {dE:aQ}
def Lh {u v:aT} (b:b5 l bC=aa (bV dE)) (c:b5 l aE=aa u) (e:b5 l j9=aa v):Yl P l W ⟨d,.pick bC aE j9,ty,pos,af,g⟩<|if dE then u else v:= λf w a _=>by simp [execOp,a bC _ b,a aE _ c,a j9 _ e,asBool]
def Li (b:b5 l bC=aa (bV ac)) (c:b5 l aE=aa bn):Yl P l W ⟨d,.pick bC aE j9,ty,pos,af,g⟩ bn:= λe w a _=>by simp [execOp,a bC _ b,a aE _ c,asBool]
def Lj (b:b5 l bC=aa (bV au)) (c:b5 l j9=aa bn):Yl P l W ⟨d,.pick bC aE j9,ty,pos,af,g⟩ bn:= λe w a _=>by simp [execOp,a bC _ b,a j9 _ c,asBool]
variable {fd:IntKind} {aP cp:ab}
def bN {t u:b_}    (b:b5 l bC=aa (an fd aP)) (c:b5 l aE=aa (an fd cp)):Yl P l W ⟨d,.binOp .eql t bC aE u,ty,pos,af,g⟩<|bV<|aP==cp:= λe w a _=>by simp [execOp,a bC _ b,a aE _ c,eqGuard,binOp,Op.intCmp]
def g2 {t u:b_}    (b:b5 l bC=aa (an fd aP)) (c:b5 l aE=aa (an fd cp)):Yl P l W ⟨d,.binOp .neq t bC aE u,ty,pos,af,g⟩<|bV<|aP != cp:= λe w a _=>by simp [execOp,a bC _ b,a aE _ c,eqGuard,binOp,Op.intCmp]
def cP {t u:b_}    (b:b5 l bC=aa (an fd aP)) (c:b5 l aE=aa (an fd cp)):Yl P l W ⟨d,.binOp .lss t bC aE u,ty,pos,af,g⟩<|bV<|decide<|aP<cp:= λe w a _=>by simp [execOp,a bC _ b,a aE _ c,eqGuard,binOp,Op.intCmp]
variable {eM:b_}
def kM (b:b5 l bC=aa (an fd aP)) (c:b5 l aE=aa (an fd cp)):Yl P l W ⟨d,.binOp .leq bs bC aE eM,ty,pos,af,g⟩<|bV<|decide<|aP<=cp:= λe w a _=>by simp [execOp,a bC _ b,a aE _ c,eqGuard,binOp,Op.intCmp]
def ek (b:b5 l bC=aa (an fd aP)) (c:b5 l aE=aa (an fd cp)):Yl P l W ⟨d,.binOp .gtr bs bC aE eM,ty,pos,af,g⟩<|bV<|decide<|cp<aP:= λe w a _=>by simp [execOp,a bC _ b,a aE _ c,eqGuard,binOp,Op.intCmp]
def hE (b:b5 l bC=aa (an fd aP)) (c:b5 l aE=aa (an fd cp)):Yl P l W ⟨d,.binOp .geq bs bC aE eM,ty,pos,af,g⟩<|bV<|decide<|cp<=aP:= λe w a _=>by simp [execOp,a bC _ b,a aE _ c,eqGuard,binOp,Op.intCmp]
def s_ {t u:b_}    (b:b5 l bC=aa (an fd aP)) (c:b5 l aE=aa (an fd cp)):Yl P l W ⟨d,.binOp .add t bC aE u,ty,pos,af,g⟩<|an fd<|fd.wrap<|aP+cp:= λe w a _=>by simp [execOp,a bC _ b,a aE _ c,eqGuard,binOp,Op.intArith]
def Dg {t u:b_}    (b:b5 l bC=aa (an fd aP)) (c:b5 l aE=aa (an fd cp)):Yl P l W ⟨d,.binOp .sub t bC aE u,ty,pos,af,g⟩<|an fd<|fd.wrap<|aP-cp:= λe w a _=>by simp [execOp,a bC _ b,a aE _ c,eqGuard,binOp,Op.intArith]
def Lk (b:b5 l bC=aa (an fd aP)) (c:b5 l aE=aa (an fd cp)):Yl P l W ⟨d,.binOp .mul bs bC aE eM,ty,pos,af,g⟩<|an fd<|fd.wrap<|aP*cp:= λe w a _=>by simp [execOp,a bC _ b,a aE _ c,eqGuard,binOp,Op.intArith]
def Dh (h : -9223372036854775808<=aP/\aP<=9223372036854775807):am.wrap aP=aP:=by rw [IntKind.wrap_i64];omega
def oQ {t u:b_}   (a:b5 l bC=aa (an am aP)) (b:b5 l aE=aa (an am cp)) (c : -9223372036854775808<=aP+cp/\aP+cp<=9223372036854775807):Yl P l W ⟨d,.binOp .add t bC aE u,ty,pos,af,g⟩<|an am<|aP+cp:=by have:=s_ (P:=P) (W:=W) (d:=d) (t:=t) (u:=u) (ty:=ty) (pos:=pos) (af:=af) (g:=g) a b;rwa [Dh c] at this
def yF {t u:b_}   (a:b5 l bC=aa (an am aP)) (b:b5 l aE=aa (an am cp)) (c : -9223372036854775808<=aP-cp/\aP-cp<=9223372036854775807):Yl P l W ⟨d,.binOp .sub t bC aE u,ty,pos,af,g⟩<|an am<|aP-cp:=by have:=Dg (P:=P) (W:=W) (d:=d) (t:=t) (u:=u) (ty:=ty) (pos:=pos) (af:=af) (g:=g) a b;rwa [Dh c] at this
def Yi {a:Z}  (b:b5 l bC=aa (an am (a:ab))) (c:b5 l aE=aa (an am aP)) (e:aP=1) (f:(a:ab)<9223372036854775807):Yl P l W ⟨d,.binOp .add bs bC aE eM,ty,pos,af,g⟩<|an am ((a+1:Z):ab):=by subst e;have:=oQ (P:=P) (W:=W) (d:=d) (t:=bs) (u:=eM) (ty:=ty) (pos:=pos) (af:=af) (g:=g) b c aj;simpa using this
variable {be eu:I a7}
def AI (b:b5 l bC=aa (st be)) (c:b5 l aE=aa (st eu)):Yl P l W ⟨d,.binOp .eql bs bC aE eM,ty,pos,af,g⟩<|bV<|be==eu:= λe w a _=>by simp [execOp,a bC _ b,a aE _ c,st,eqGuard,binOp,Op.stringOp]
def AJ {t u:b_}   (b:b5 l bC=aa (st be)) (c:b5 l aE=aa (st eu)):Yl P l W ⟨d,.binOp .neq t bC aE u,ty,pos,af,g⟩<|bV<|!(be==eu):= λe w a _=>by simp [execOp,a bC _ b,a aE _ c,st,eqGuard,binOp,Op.stringOp]
def yG {a b:I a7} (f:b5 l bC=aa (st a)) (i:b5 l aE=aa (st b)) (h:a.length+b.length<=9223372036854775807):Yl P l W ⟨d,.binOp .add bs bC aE eM,ty,pos,af,g⟩<|st<|a++b:=by
 intro j w c _;have e:(Op.stringOp .add ⟨a.toArray⟩ ⟨b.toArray⟩).run P w = .ok (st<|a++b) w:=by rw [run_string_add_sum w _ _ (by show a.toArray.size+b.toArray.size<=_;simpa using h)];simp [st];rfl
 simp [execOp,c bC _ f,c aE _ i,st,eqGuard,binOp,e]
def hV (a:b5 l bC=aa (bV dE)):Yl P l W ⟨d,.unOp .not bs bC,ty,pos,af,g⟩<|bV<|!dE:= λc w b _=>by simp [execOp,b bC _ a,Op.unary]
def bP {p:a0} (a:b5 l bC=aa (b0<|aa p)):Yl P l W ⟨d,.nilCheck bC,ty,pos,af,g⟩<|b0<|aa p:= λc w b _=>by simp [execOp,b bC _ a]
def Yx {vs:bE aT}   (a:b5 l bC=aa (cN vs)) (hi:vs[ae]? = aa bn):Yl P l W ⟨d,.extract bC ae,ty,pos,af,g⟩ bn:= λc w b _=>by simp [execOp,b bC _ a,Instr.extract,hi]
variable {aK hQ:Z}
def Yf (a:cX P bs ae=aa hQ) (e:b5 l bC=aa (b0<|aa ⟨aK,aH,ak⟩)):Yl P l W ⟨d,.fieldAddr bs bC ae,ty,pos,af,g⟩<|b0<|aa ⟨aK,aH+hQ,ak⟩:=by intro m w f _;unfold cX at a;cases b:P.underlying bs with| none=>simp [b] at a| some h=>cases h<;>simp [b] at a;rename_i fs;cases c:fs[ae]? with| none=>simp [c] at a| some j=>simp [c] at a;cases hi:P.info? j.type with| none=>simp [hi] at a| some i=>simp [hi] at a;obtain ⟨k,rfl⟩:=a;simp [execOp,f bC _ e,Instr.fieldAt,run_underlying b,c,Instr.sureAddr,fieldPlace,sizeOf,typeInfo,hi,k,qS]
variable {lP:Z}
def Di (a:g1 P bs=some lP) (f:b5 l bC=some (.slice (some ⟨ae,aH,none⟩) aK hQ)) (h:b5 l aE=some (.int fd aP)) (i:0<=aP) (j:aP<aK) : Yl P l W ⟨d,.indexAddr bs bC aE,ty,pos,af,g⟩<|.pointer<|some ⟨ae,aH+aP.toNat*lP,none⟩:=by intro m w c _;unfold g1 at a;cases b:P.underlying bs with| none=>simp [b] at a| some k=>cases k<;>simp [b] at a;rename_i e;obtain ⟨n,hi,rfl⟩:=a;simp [execOp,c bC _ f,c aE _ h,Instr.indexAt,run_underlying b,asIntOf,i,j,sizeOf,typeInfo,hi,qS]
def pz {i:Z} (a:g1 P bs=aa lP) (b:b5 l bC=aa (aC (aa ⟨ae,aH,ak⟩) aK hQ)) (c:b5 l aE=aa (an fd (i:ab))) (e:i<aK) : Yl P l W ⟨d,.indexAddr bs bC aE,ty,pos,af,g⟩<|b0<|aa ⟨ae,aH+i*lP,ak⟩:=by have:=Di (P:=P) (W:=W) (d:=d) (ty:=ty) (pos:=pos) (af:=af) (g:=g) a b c aj aj;simpa using this
def Yn {a:Option Addr} {n c s:Nat} (b:g1 P bs=some s) (f:b5 l bC=some (.slice a n c)):Yl P l W ⟨d,.call ⟨.builtin .len,#[bC],#[bs]⟩,ty,pos,af,g⟩<|.int .i64 (n:Int):=by intro j w h _;unfold g1 at b;cases e:P.underlying bs with| none=>simp [e] at b| some i=>cases i<;>simp [e] at b;simp [execOp,resolve,invoke,builtin,h bC _ f,Builtin.len_,run_underlying e,goInt]
def yH (a:P.underlying bs=aa .string) (b:b5 l bC=aa (st be)):Yl P l W ⟨d,.call ⟨.builtin .len,#[bC],#[bs]⟩,ty,pos,af,g⟩<|an am (be.length:ab):=by
 intro f w c _;have e:(ByteArray.mk be.toArray).size=be.length:=by show be.toArray.size=_;simp
 simp [execOp,resolve,invoke,builtin,c bC _ b,st,Builtin.len_,run_underlying a,goInt,e]
def Tn (s:I a7) (i:Z):(ByteArray.mk s.toArray)[i]? = s[i]?:=by
 rcases m2 i s.length with h | h;·rw [dh h,getElem?_pos (ByteArray.mk s.toArray) i (by show i<s.toArray.size;simpa using h)];rfl
 ·rw [pP h,getElem?_neg (ByteArray.mk s.toArray) i (by show ¬i<s.toArray.size;simpa using h)]
variable {g3:a7}
def To (b:P.underlying bs=aa .string) (c:b5 l bC=aa (st be)) (e:b5 l aE=aa (an fd aP)) (f:0<=aP) (h:be[aP.toNat]? = aa g3) : Yl P l W ⟨d,.index bs bC aE,ty,pos,af,g⟩<|an .u8 (g3.toNat:ab):=by intro i w a _;simp [execOp,a bC _ c,a aE _ e,st,Instr.index,asIntOf,run_underlying b,f,Tn,h]
def yI {i:Z}  (a:P.underlying bs=aa .string) (b:b5 l bC=aa (st be)) (c:b5 l aE=aa (an fd (i:ab))) (e:be[i]? = aa g3) : Yl P l W ⟨d,.index bs bC aE,ty,pos,af,g⟩<|an .u8 (g3.toNat:ab):=To a b c aj (by simpa using e)
def AK (a:qR P bs=ac) (b:b5 l bC=aa (b0<|aa ⟨ae,aH,ak⟩)) (c:∀w,W w->w.cell? ⟨ae,aH,ak⟩=aa bn):Yl P l W ⟨d,.load bs bC,ty,pos,af,g⟩ bn:= λh w e f=>by simp [execOp,e bC _ b,Instr.loadAt,Instr.sureAddr,Lg a<|c w f]
def Dj {cs:I aT} (a:iC P bs=aa aK) (b:b5 l bC=aa (b0<|aa ⟨ae,aH,ak⟩)) (c:cs.length=aK) (e:∀w,W w->∀j v,cs[j]? = aa v->w.cell? ⟨ae,aH+j,ak⟩=aa v) : Yl P l W ⟨d,.load bs bC,ty,pos,af,g⟩<|bU cs.toArray:= λi w f h=>by simp [execOp,f bC _ b,Instr.loadAt,Instr.sureAddr,Df a c<|e w h]
def dQ (i:Z) (a:qR P bs=ac) (b:b5 l bC=aa (b0<|aa ⟨ae,aH,ak⟩)) (c:Vs[i]? = aa bt) (e:vc bt ae aH=aa bn) : Yl P l (Ws w0 F L Vs) ⟨d,.load bs bC,ty,pos,af,g⟩ bn:=AK a b λ_ f=>(f.vs bt<|bu c).cell e
def dG {cs:I aT}  (i:Z) (a:iC P bs=aa aK) (b:b5 l bC=aa (b0<|aa ⟨ae,aH,ak⟩)) (c:Vs[i]? = aa bt) (e:cs.length=aK) (f:∀j v,cs[j]? = aa v->vc bt ae (aH+j)=aa v) : Yl P l (Ws w0 F L Vs) ⟨d,.load bs bC,ty,pos,af,g⟩<|bU cs.toArray:=Dj a b e λ_ k j v h=>(k.vs bt<|bu c).cell<|f j v h
def Yd {v:aT}  (i:Z) (a:b5 l bC=aa (b0<|aa ⟨ae,aH,ak⟩)) (hL:L[i]? = aa (aJ ae eT)) (b:jV eT aH=aa v) (c:qR P bs=ac) : Yl P l (Ws w0 F L Vs) ⟨d,.load bs bC,ty,pos,af,g⟩ v:=AK c a λ_ e=>cell_of_heap (e.kn _<|bu hL) b
def cellsIn (o:Obj) (k n:Z):I aT:=match o with| aM c _ _=>(c.toList.drop k).take n| _=>[]
def dv (i:Z) (a:b5 l bC=aa (b0<|aa ⟨ae,aH,ak⟩)) (hL:L[i]? = aa (aJ ae eT)) (b:iC P bs=aa aK) (c:(cellsIn eT aH aK).length=aK) : Yl P l (Ws w0 F L Vs) ⟨d,.load bs bC,ty,pos,af,g⟩<|bU (cellsIn eT aH aK).toArray:=Dj b a c λw e j v h=>by
 have f:w.heap[ae]? = aa eT:=e.kn _<|bu hL;refine cell_of_heap f ?_;cases eT<;>simp [cellsIn,jV] at *;rw [b8] at h;split at h;·simpa using h
 ·cases h
end
def zeroOf (P:aV) (t:b_):az aT:=(P.info? t).bind (·.zero)
def eP (P:aV) (t:b_):az Z:=(P.info? t).map (·.size)
variable {ig:aV} {bs:b_} {bn:aT}
def w4 (h:zeroOf ig bs=aa bn) (w:aL):(zeroValue bs).run ig w = .ok bn w:=by unfold zeroOf at h;cases hi:ig.info? bs with| none=>simp [hi] at h| some i=>simp [hi] at h;simp [zeroValue,typeInfo,hi,h]
def Dk (h:eP ig bs=aa ae) (w:aL):(sizeOf bs).run ig w = .ok ae w:=by unfold eP at h;cases hi:ig.info? bs with| none=>simp [hi] at h| some i=>simp [hi] at h;simp [sizeOf,typeInfo,hi,h]
def Tp (vs:I aT):∀(k off:Z) (cells:bE aT),off+k+vs.length<=cells.size-> ((vs.zipIdx k).foldl (λcs (p:aT×Z)=>cs.setIfInBounds (off+p.2) p.1) cells).toList=cells.toList.take (off+k)++vs++cells.toList.drop (off+k+vs.length):=by induction vs with| nil=>intro k off cells _;simp| cons v r a=>intro k off cells h;simp only [I.zipIdx_cons,I.foldl_cons];rw [a (k+1) off _ (by simp at h ⊢;omega)];simp only [bE.toList_setIfInBounds];have:=list_seg_step cells.toList (off+k) v r (by simp at h ⊢;omega);simpa [uf] using this
def fh:aT->I aT| bU cs=>cs.toList| v=>[v]
def vx (v:aT):v.cells.toList=fh v:=by cases v<;>rfl
def ta (place:Z->az (Z×Z)):I aT->I (Z×aT)->az (I aT)| cells,[]=>aa cells| cells,(i,v)::r=>match place i with| aa (off,size)=>bif ik (fh v).length size&&Z.ble (off+size) cells.length then ta place (cells.take off++fh v++cells.drop (off+size)) r else ak| ak=>ak
def AL (place:Z->az (Z×Z)):∀(parts:I<|Z×aT) (cells:bE aT) (out:I aT),ta place cells.toList parts=aa out->Instr.fill place cells parts=aa out.toArray
 | [],cells,out,h=>by simp [ta] at h;simp [Instr.fill,<-h]
 | (i,v)::r,cells,out,h=>by
  simp only [ta] at h;cases d:place i with
  | none=>simp [d] at h
  | some x=>
   obtain ⟨off,size⟩:=x;simp only [d] at h;cases a:(ik (fh v).length size&&Z.ble (off+size) cells.toList.length) with
   | false=>rw [a] at h;cases h
   | true=>
    rw [a] at h;simp only [eW] at a;have g:=nX a.1;have k:=r2 a.2;have b:v.cells.size=size:=by rw [<-g,<-vx];simp
    have f:off+v.cells.size<=cells.size:=by rw [b];simpa using k
    simp only [Instr.fill,d];rw [ao (by simp [b];rw [b] at f;omega)];have e:=Tp v.cells.toList 0 off cells (by simpa using f);simp only [vq,KR] at e;have l:(v.cells.zipIdx.foldl (λcs (c,j)=>cs.setIfInBounds (off+j) c) cells)=(cells.toList.take off++fh v++cells.toList.drop (off+size)).toArray:=by apply vr;rw [<-bE.foldl_toList,bE.toList_zipIdx];rw [b] at e;rw [e,vx]
    rw [l];exact AL place r _ out (by simpa using h)
def hy (P:aV) (t:b_):az<|I<|Z×Z:=match P.underlying t with| aa<|.struct fs=>fs.toList.mapM λf=>(eP P f.type).map (f.offset,·)| _=>ak
def run_places {P:aV}:∀(fs:I Field) (pl:I<|Z×Z),fs.mapM (λf=>(eP P f.type).map (f.offset,·))=aa pl->∀w:aL, (fs.mapM (m:=Sem) λf=>do pure (f.offset,<-sizeOf f.type)).run P w = .ok pl w| [],pl,h,w=>by simp at h;subst h;simp| f::fs,pl,h,w=>by simp only [wR,az.bind_eq_bind] at h;cases a:eP P f.type with| none=>simp [a] at h| some k=>simp only [a,eI,cF] at h;cases b:fs.mapM (λf=>(eP P f.type).map (f.offset,·)) with| none=>simp [b] at h| some c=>simp [b] at h;subst h;have d:=run_places fs c b w;simp only [wR,iN,Dk a,ie,kK,d]
def uo (l:I<|Z×aT):I (Z×dF)->az (I<|Z×aT)| []=>aa []| (i,x)::r=>match b5 l x,uo l r with| aa v,aa vs=>aa<|(i,v)::vs| _,_=>ak
variable {eb:I<|Z×aT} {Dl:dF->aT}
def Dm (c:∀x u,b5 eb x=aa u->Dl x=u):∀(ps:I<|Z×dF) (vs:I<|Z×aT),uo eb ps=aa vs->ps.map (λp=>(p.1,Dl p.2))=vs| [],vs,h=>by simp [uo] at h;simp [h]| (i,x)::r,vs,h=>by simp only [uo] at h;cases a:b5 eb x with| none=>simp [a] at h| some v=>cases b:uo eb r with| none=>simp [a,b] at h| some us=>simp [a,b] at h;subst h;simp [c x v a,Dm c r us b]
def hF (l:I<|Z×aT):I dF->az (I aT)| []=>aa []| x::r=>match b5 l x,hF l r with| aa v,aa vs=>aa<|v::vs| _,_=>ak
def Dn (c:∀x u,b5 eb x=aa u->Dl x=u):∀(ps:I dF) (vs:I aT),hF eb ps=aa vs->ps.map Dl=vs| [],vs,h=>by simp [hF] at h;simp [h]| x::r,vs,h=>by simp only [hF] at h;cases a:b5 eb x with| none=>simp [a] at h| some v=>cases b:hF eb r with| none=>simp [a,b] at h| some us=>simp [a,b] at h;subst h;simp [c x v a,Dn c r us b]
section
variable {P:aV} {l:I<|Z×aT} {W:aL->Prop} {w0:aL} {F:I Z} {L:I bc} {Vs:I View} {d:az Tmp} {ty:b_} {pos:bg} {af:bE fw} {g:az<|Z×aQ}
def Yb {t:b_} {parts:I<|Z×dF} {vs:I<|Z×aT} {a:aT} {pl:I<|Z×Z} {out:I aT} (e:zeroOf P t=aa a) (b:hy P t=aa pl) (hv:uo l parts=aa vs) (h:ta (λi=>pl[i]?) (fh a) vs=aa out):Yl P l W ⟨d,.build t parts.toArray,ty,pos,af,g⟩<|bU out.toArray:=by
 intro j w k _;have n:(parts.toArray.map λ (i,x)=>(i,j x):bE (Z×aT)).toList=vs:=by simpa using Dm k parts vs hv
 unfold hy at b;cases c:P.underlying t with
 | none=>simp [c] at b
 | some o=>
  cases o<;>simp [c] at b;rename_i fs;have p:=run_places (P:=P) fs.toList pl (by simpa using b) w;have q:(fs.mapM (m:=Sem) λf=>do pure (f.offset,<-sizeOf f.type)).run P w = .ok pl.toArray w:=by rw [yq,Sem.run_map,p];rfl
  have r:Instr.fill (λi=>pl.toArray[i]?) a.cells vs=aa out.toArray:=by refine AL _ vs a.cells out ?_;rw [vx];simpa using h
  simp only [execOp,Instr.build,iN,w4 e,ie,run_underlying c,q,n,r,kK]
end
section
variable {P:aV} {ops:bE ay} {Q:aO->aN->aL->Prop} {n:Z} {ds:I e'} {l:I<|Z×aT} {W:aL->Prop} {w0:aL} {F:I Z} {L:I bc} {Vs:I View} {rest:I ay} {d:Z} {ty:b_} {pos:bg} {af:bE fw} {g:az<|Z×aQ}
def Ll (t:b_) (v:aT) (w:aL):(newVar t v).run P w = .ok ⟨w.heap.size,0,ak⟩ (w.alloc<|aM v.cells t):=by simp [newVar,newRow]
def WL.new {op:Op} {o:Obj} {mk:Z->aT} (i:eE ops l g) (j:eB d n=ac) (k:∀(c:dF->aT) (w:aL),(∀x u,b5 l x=aa u->c x=u)->Ws w0 F L Vs w->(execOp c ⟨aa d,op,ty,pos,af,g⟩).run P w = .ok (.value<|mk w.heap.size) (w.alloc o)) (h:∀b,WL P ops Q n ds ((d,mk b)::l) (Ws w0 F (aJ b o::L) Vs) rest) : WL P ops Q n ds l (Ws w0 F L Vs)<|⟨aa d,op,ty,pos,af,g⟩::rest:=by refine WL.step i λa w e f q m=>?_;have:=k a.eval w (λx u p=>e.eval p) f;simp only [jB,this,ay.upon_value];exact m _ _<|h w.heap.size _ _ (e.put j _)<|f.alloc o
def WL.box {x:dF}  (a:eE ops l g) (c:eB d n=ac) (e:b5 l x=aa bn) (h:∀b,WL P ops Q n ds ((d,b0<|aa ⟨b,0,ak⟩)::l) (Ws w0 F (aJ b (aM bn.cells bs (0,0))::L) Vs) rest) : WL P ops Q n ds l (Ws w0 F L Vs)<|⟨aa d,.box bs x,ty,pos,af,g⟩::rest:= WL.new (mk:=λb=>b0<|aa ⟨b,0,ak⟩) a c (λi w f j=>by simp [execOp,Instr.box,f x bn e,Ll]) h
def Al (a:eE ops l g) (c:eB d n=ac) (e:zeroOf P bs=aa bn) (h:∀b,WL P ops Q n ds ((d,b0<|aa ⟨b,0,ak⟩)::l) (Ws w0 F (aJ b (aM bn.cells bs (0,0))::L) Vs) rest) : WL P ops Q n ds l (Ws w0 F L Vs)<|⟨aa d,.alloc bs,ty,pos,af,g⟩::rest:= WL.new (mk:=λb=>b0<|aa ⟨b,0,ak⟩) a c (λf w i j=>by simp [execOp,Instr.alloc,w4 e,Ll]) h
def lQ (a:Obj) (o:Z) (vs:I aT):Obj:=match a with| aM c T f=>aM (c.toList.take o++vs++c.toList.drop (o+vs.length)).toArray T f| x=>x
def qe (a:Obj) (o k:Z):aQ:=match a with| aM c _ f=>Z.ble (o+k) c.toList.length&&(ik f.1 0&&ik f.2 0)| _=>au
variable {aH aK:Z}
def z3 {w:aL} (i:eP P bs=aa ae) (k:(fh bn).length=ae) (l:(fh bn).all (·.oneCell')=ac) (a:w.heap[aH]? = aa eT) (b:qe eT aK ae=ac) : (storeVar bs ⟨aH,aK,ak⟩ bn).run P w = .ok () { w with heap:=w.heap.setIfInBounds aH<|lQ eT aK<|fh bn }:=by
 cases eT with
 | cells c T f=>
  obtain ⟨v,x⟩:=f;simp only [qe,eW] at b;obtain ⟨d,m,n⟩:=b;have o:=nX m;have p:=nX n;subst o;subst p;have d:=r2 d;have e:=run_storeCells_at P aH aK T (fh bn) 0 c w a (by simp at d ⊢;omega)<|λu q=>gw.1 l u q;have r:bn.cells.size=ae:=by rw [<-k,<-vx];simp
  have s:(storeVar bs ⟨aH,aK,ak⟩ bn).run P w=(storeCells ⟨aH,aK,ak⟩<|fh bn).run P w:=by simp [storeVar,Dk i,r,vx]
  rw [s,e];have h:=setRow_heap w aH c (c.toList.take (aK+0)++fh bn++c.toList.drop (aK+0+(fh bn).length)).toArray T (0,0) a;have t:=lt_of_heap a;simp only [lQ,vq] at h ⊢;suffices hh:(w.setRow aH (c.toList.take aK++fh bn++c.toList.drop (aK+(fh bn).length)).toArray).heap=w.heap.setIfInBounds aH (aM (c.toList.take aK++fh bn++c.toList.drop (aK+(fh bn).length)).toArray T (0,0)) by rw [<-hh];rfl
  apply bE.ext_getElem?;intro j;by_cases g:aH=j;·subst g;rw [h];simp [t]
  ·rw [ue g];simp [aL.setRow,bE.getElem?_modify,g]| _=>simp [qe] at b
def aq {x y:dF}    (i:Z) (f:eE ops l g) (k:b5 l x=aa (b0<|aa ⟨ae,aH,ak⟩)) (m:b5 l y=aa bn) (hL:L[i]? = aa (aJ ae eT)) (o:eP P bs=aa aK) (p:(fh bn).length=aK) (q:(fh bn).all (·.oneCell')=ac) (r:qe eT aH aK=ac) (h:WL P ops Q n ds l (Ws w0 F (L.set i<|aJ ae<|lQ eT aH<|fh bn) Vs) rest) : WL P ops Q n ds l (Ws w0 F L Vs)<|⟨ak,.store bs x y,ty,pos,af,g⟩::rest:=by
 refine WL.step f λa w b c v s=>?_;have d:w.heap[ae]? = aa eT:=c.kn _<|bu hL;have t:(execOp a.eval ⟨ak,.store bs x y,ty,pos,af,g⟩).run P w = .ok .skip { w with heap:=w.heap.setIfInBounds ae<|lQ eT aH<|fh bn }:=by simp only [execOp,b.eval k,b.eval m,Instr.storeAt,Instr.sureAddr,iN,kK,ie,z3 o p q d r]
 simp only [jB,t,ay.upon_skip];refine s _ _<|h _ _ (b.yz undef) ?_;refine Ws.um c i hL ⟨O,O,O,aG,λj z u=>?_⟩ ?_ (by simp [aJ]) (by simp [aJ]);·have:ae≠j:=λe=>u (by simp [aJ,e]);simp [ue this]
 ·show (w.heap.setIfInBounds ae _)[ae]? = _;simp [lt_of_heap d]
def Enters (P:aV) (f:jU):Prop:=∀args w,(callFunc f args).run P w = .ok (.enter f args) w
variable {ef:jU}
def enters_of {fn : Func} (b : P.funcs[ef]? = aa fn) (c : (fn.name == "runtime.NumGoroutine") = au) (a : fn.body.isNone = au) : Enters P ef := λargs w => by
 have d : fn.name ≠ "runtime.NumGoroutine" := by simpa using c
 have f:fn.body≠ak:=by intro e;rw [e] at a;cases a
 simp [callFunc,b,d,f]
def Lm (P:aV) (f:jU):aQ:=match P.funcs[f]? with| aa fn=>!(fn.name=="runtime.NumGoroutine")&&!fn.body.isNone| ak=>au
def bf {P:aV} {f:jU} (h:Lm P f=ac:=by kernel_rfl):Enters P f:=by unfold Lm at h;cases e:P.funcs[f]? with| none=>rw [e] at h;cases h| some fn=>rw [e] at h;simp only [aQ.and_eq_true,aQ.not_eq_true'] at h;exact enters_of e h.1 h.2
variable {f':bE dF} {dC:I aT}
def Do {a:dF->aT} {dst:az Tmp}   {ts:bE b_}  {w:aL} (c:Enters P ef) (b:∀x u,b5 l x=aa u->a x=u) (d:hF l f'.toList=aa dC) : (execOp a ⟨dst,.call ⟨.value<|.func ef,f',ts⟩,ty,pos,af,g⟩).run P w = .ok (.enter ef dC.toArray) w:=by
 have e:f'.map a=dC.toArray:=by apply vr;simpa using Dn b _ _ d
 have f:a (.func ef) = .func (.func ef) #[] #[]:=b (.func ef) _ rfl;simp only [execOp,resolve,e,f,e'.ofValue,iN,kK,ie,invoke];simpa using c _ w
variable {iD:bE b_}
def WL.AM {ι:Type}     (k:eE ops l g) (m:eB d n=ac) (o:Enters P ef) (p:hF l f'.toList=aa dC) (v:ι->aT) (R:ι->aL->Prop) (j:I nW->aL->Prop) (hC:∀w,W w->cr P ef dC.toArray w λe c=>(∃i,e = ax (v i)/\R i c)\/∃b,e = .panicked b/\j b c) (q:∀i,WL P ops Q n ds ((d,v i)::l) (R i) rest) (r:∀b,WE Q (.panic b) n ds l (j b)) : WL P ops Q n ds l W<|⟨aa d,.call ⟨.value<|.func ef,f',iD⟩,ty,pos,af,g⟩::rest:=by
 refine WL.step k λa w f s B t=>?_;have y:=Do (P:=P) (dst:=aa d) (ts:=iD) (ty:=ty) (pos:=pos) (af:=af) (g:=g) (w:=w) o (λx u z=>f.eval z) p;simp only [jB,y,ay.upon_enter];refine (hC w s).mono λe c A=>?_;rcases A with ⟨i,rfl,h⟩ | ⟨b,rfl,h⟩;·exact t _ _<|q i _ _ (f.put m _) h
 ·exact r b _ _ f h
def WL.call (a:eE ops l g) (b:eB d n=ac) (c:Enters P ef) (f:hF l f'.toList=aa dC) (v:bW->aT) (R:bW->aL->Prop) (hC:∀w,W w->cr P ef dC.toArray w λe j=>∃i,e = ax (v i)/\R i j) (k:∀i,WL P ops Q n ds ((d,v i)::l) (R i) rest) : WL P ops Q n ds l W<|⟨aa d,.call ⟨.value<|.func ef,f',iD⟩,ty,pos,af,g⟩::rest:= WL.AM a b c f v R (λ_ _=>False) (λw m=>(hC w m).mono λ_ _ h=>bA h) k<|λ_ _ _ _ h=>h.elim
def Lp (i:eE ops l g) (j:eB d n=ac) (k:Enters P ef) (m:hF l f'.toList=aa dC) (hC:∀w,Ws w0 F L Vs w->cr P ef dC.toArray w λe b=>e = ax bn/\Ext w b) (o:WL P ops Q n ds ((d,bn)::l) (Ws w0 F L Vs) rest) : WL P ops Q n ds l (Ws w0 F L Vs)<|⟨aa d,.call ⟨.value<|.func ef,f',iD⟩,ty,pos,af,g⟩::rest:=by refine WL.step i λa w c f t p=>?_;have q:=Do (P:=P) (dst:=aa d) (ts:=iD) (ty:=ty) (pos:=pos) (af:=af) (g:=g) (w:=w) k (λx u r=>c.eval r) m;simp only [jB,q,ay.upon_enter];refine (hC w f).mono λe b s=>?_;obtain ⟨rfl,h⟩:=s;exact p _ _<|o _ _ (c.put j _)<|f.ext h
def Ld (j:eE ops l g) (k:eB d n=ac) (m:Enters P ef) (o:hF l f'.toList=aa dC) (v:bW->aT) (R:View->bW->Prop) (hC:∀w,Ws w0 F L Vs w->cr P ef dC.toArray w λe b=>∃i,e = ax (v i)/\Ext w b/\R (nv w b) i) (p:∀H i,g8 w0 H->R H i->WL P ops Q n ds ((d,v i)::l) (Ws w0 F L<|H::Vs) rest) : WL P ops Q n ds l (Ws w0 F L Vs)<|⟨aa d,.call ⟨.value<|.func ef,f',iD⟩,ty,pos,af,g⟩::rest:=by refine WL.step j λa w f c z q=>?_;have r:=Do (P:=P) (dst:=aa d) (ts:=iD) (ty:=ty) (pos:=pos) (af:=af) (g:=g) (w:=w) m (λx u s=>f.eval s) o;simp only [jB,r,ay.upon_enter];refine (hC w c).mono λe b t=>?_;obtain ⟨i,rfl,h,y⟩:=t;exact q _ _<|p (nv w b) i ((yD w b).mono c.fr.size) y _ _ (f.put k _)<|c.view h (GB w b)<|yD w b
end
section
variable {P:aV} {ops:bE ay} {Q:aO->aN->aL->Prop} {n:Z} {ds:I e'} {l:I<|Z×aT} {W:aL->Prop} {w0:aL} {F:I Z} {L:I bc} {Vs:I View} {rest:I ay} {d:Z} {ty:b_} {pos:bg} {af:bE fw} {g:az<|Z×aQ}
def eK (e:b_) (size:Z) (v:aT) (m:Z) (xs:I aT):bc:= ⟨v.ownBlock.toList,λw=>w.ownsRow 0 e size v m xs, λw l h b=>by
 obtain ⟨f,a⟩:=b;refine ⟨f,?_⟩;rcases a with a | ⟨g,cap,i,hv,j,c,r⟩;·exact bA a
 ·exact bl ⟨g,cap,i,hv,j,by rw [h g (by simp [hv,lq])];exact c,r⟩, λw b k d=>by
 obtain ⟨f,a⟩:=b;rcases a with ⟨a,_⟩ | ⟨g,cap,i,hv,j,c,r⟩;·subst a;simp [lq] at d
 ·subst hv;simp [lq] at d;subst d;exact lt_of_heap c⟩
def Ws.bJ (h:Ws w0 F L Vs cb) (e:b_) (size:Z):Ws w0 F (eK e size (aC ak 0 0) 0 []::L) Vs cb:=by have:=Ws.w3 (L:=[]) (L':=[eK e size (aC ak 0 0) 0 []]) (L2:=L) (by simpa using h) (Fr.refl _ _) (by intro b a;simp at a;subst a;exact aL.ownsRow_nil _ _ _ _) (by simp [eK,lq]) (by simp [eK,lq]);simpa using this
def Ws.Hl (h:Ws w0 F L Vs cb) (i:Z) {b m cap:Z} {a:bE aT} {e:b_} {size:Z} (hL:L[i]? = aa (aJ b<|aM a e (0,0))) (c:m<=cap) (f:cap<=maxLen) (d:a.size=cap*size) : Ws w0 F (L.set i<|eK e size (aC (aa ⟨b,0,ak⟩) m cap) m<|a.toList.take<|m*size) Vs cb:=by have g:cb.heap[b]? = aa (aM a e (0,0)):=h.kn _<|bu hL;refine Ws.um h i hL (Fr.refl _ _) ?_ (by simp [eK,lq]) (by simp [eK,aJ,lq]);exact ⟨by rw [lr,KR,d];exact lU<|nn _ c,bl ⟨b,cap,a,O,de _,g,c,f,d,O⟩⟩
structure hW (P:Program) (t e:TypeId) (z:Value) (size bytes:Nat):Prop where
 under:P.underlying t=some (.slice e)
 info:∃i,P.info? e=some i/\i.zero=some z/\i.size=size/\i.bytes=bytes
 zs:z.cells.size=size
 pos:0<size
def Hr (P:Program) (t:TypeId):Option<|TypeId×Value×Nat×Nat:=match P.underlying t with
 | some<|.slice e=>match P.info? e with
  | some i=>match i.zero with| some a=>bif Nat.beq a.cells.size i.size&&Nat.blt 0 i.size then some (e,a,i.size,i.bytes) else none| none=>none
  | none=>none
 | _=>none
def jD {t e:b_} {d:aT} {size f:Z} (h:Hr P t=aa (e,d,size,f)):hW P t e d size f:=by unfold Hr at h;cases b:P.underlying t with| none=>simp [b] at h| some g=>cases g<;>simp [b] at h;rename_i j;cases hi:P.info? j with| none=>simp [hi] at h| some i=>simp [hi] at h;cases c:i.zero with| none=>simp [c] at h| some k=>simp only [c] at h;cases a:(ik k.cells.size i.size&&eB 0 i.size) with| false=>rw [a] at h;cases h| true=>rw [a] at h;simp at h;obtain ⟨rfl,rfl,rfl,rfl⟩:=h;simp only [eW] at a;exact ⟨b,⟨i,hi,c,O,O⟩,nX a.1,r2 a.2⟩
variable {vy:a0}
def Tr {t e ty:b_} {i v b:aT} {size p m c k:Z}  {xs news:I aT} {w y:aL} (d:hW P t e i size p) (z:w.ownsRow 0 e size v m xs) (f:news.length=k*size) (l:∀j u,news[j]? = aa u->w.cell? (vy.add j)=aa u) (A:∀u ∈ news,u.oneCell'=ac) (B:m+k<=maxLen) (q:(m+k)*p<=140737488355328) (n:(Builtin.append_ #[t,t] ty #[v,aC (aa vy) k c]).run P w = .ok b y) (C:b = aC ak 0 0↔v = aC ak 0 0/\k=0) : b.ownBlock=v.ownBlock\/b.ownBlock=aa w.heap.size:=by
 obtain ⟨o,hi,r,D,E⟩:=d.info;subst D;subst E;have F:((m+k:Z):ab)<=9223372036854775807:=by simp only [maxLen] at B;omega
 obtain ⟨G,H⟩:=z;rcases H with ⟨rfl,rfl⟩ | ⟨g,cap,J,rfl,_,s,Q,R,K,L⟩
 ·by_cases M:k=0;·exact bA (by rw [C.2 ⟨O,M⟩])
  ·have a:=run_append_nil (P:=P) w t ty e o i d.under hi r vy k c news f l aj aj (by simp at q;omega);rw [n] at a;injection a with a _;exact bl (by rw [a];rfl)
 ·by_cases x:m+k<=cap;·have a:=run_append_room (P:=P) w t ty e o d.under hi g m cap J s vy k c news f l A x (by rw [f,K,<-vt];exact nn _ x);rw [n] at a;injection a with a _;exact bA (by rw [a];rfl)
  ·have N:∀j v,xs[j]? = aa v->w.cell? ((⟨g,0,ak⟩:a0).add j)=aa v:=by
    intro j u h;rw [qS,<-L] at *;refine cell_of_heap s ?_;rw [b8] at h;split at h;·simpa [jV] using h
    ·cases h
   have a:=run_append_grow (P:=P) w t ty e o i d.under hi r ⟨g,0,ak⟩ m cap xs G N vy k c news f l aj F<|growslice_fits aj q;rw [n] at a;injection a with a _;exact bl (by rw [a];rfl)
def WL.append {t e:b_} {y v:aT} {size q m c k:Z} {s x:dF}  {xs news:I aT} (i:Z) (J:eE ops l g) (K:eB d n=ac) (f:hW P t e y size q) (M:b5 l s=aa v) (N:b5 l x=aa (aC (aa vy) k c)) (hL:L[i]? = aa (eK e size v m xs)) (z:news.length=k*size) (A:∀w,Ws w0 F L Vs w->∀j u,news[j]? = aa u->w.cell? (vy.add j)=aa u) (B:∀u ∈ news,u.oneCell'=ac) (C:m+k<=maxLen) (D:(m+k)*q<=140737488355328) (h:∀a,(a = aC ak 0 0↔v = aC ak 0 0/\k=0)->WL P ops Q n ds ((d,a)::l) (Ws w0 F (L.set i<|eK e size a (m+k)<|xs++news) Vs) rest) : WL P ops Q n ds l (Ws w0 F L Vs)<|⟨aa d,.call ⟨.builtin .append,#[s,x],#[t,t]⟩,ty,pos,af,g⟩::rest:=by
 refine WL.step J λO w r p ae R=>?_;obtain ⟨S,hi,T,U,V⟩:=f.info;have E:w.ownsRow 0 e size v m xs:=p.kn _<|bu hL;obtain ⟨a,W,G,X,o,H⟩:=run_append_own (P:=P) w 0 t ty e S y size q f.under hi T U V f.zs f.pos v m xs E vy k c news z (A w p) B C D<|de _;have Y:(execOp O.eval ⟨aa d,.call ⟨.builtin .append,#[s,x],#[t,t]⟩,ty,pos,af,g⟩).run P w = .ok (.value a) W:=by simp only [execOp,resolve,yb,l_,CR,r.eval M,r.eval N,iN,kK,ie,invoke,builtin,G]
 simp only [jB,Y,ay.upon_value];refine R _ _<|h a H _ _ (r.put K _) ?_;refine Ws.um p i hL ⟨o.os,o.tape,o.output,o.size,λj b ad=>o.block j b λe=>ad ?_⟩ X ?_ λj b=>?_;·simp [eK,<-e]
 ·cases hv:a.ownBlock<;>simp [eK,hv]
 ·simp only [eK,KS] at b ⊢;rcases Tr f E z (A w p) B C D G H with e | e;·exact bA (by rw [<-e];exact b)
  ·rw [e] at b;injection b with b;exact bl aj
end
section
variable {P:aV} {ops:bE ay} {Q:aO->aN->aL->Prop} {n:Z} {ds:I e'} {l:I<|Z×aT} {W:aL->Prop} {w0:aL} {F:I Z} {L:I bc} {Vs:I View}
def qU (us l:I<|Z×aT):aQ:=us.all λp=>(lk l p.1).isNone
def Ts (a:qU eb l=ac)   (b:lk l ae=aa bn):lk (eb++l) ae=aa bn:=by induction eb with| nil=>exact b| cons p r d=>obtain ⟨k,v⟩:=p;simp only [qU,yr,eW] at a;simp only [hx,lk];cases e:ik k ae with| false=>exact d a.2| true=>have:=nX e;subst this;have c:=a.1;rw [b] at c;cases c
variable {kN:aN}
def Ag.forget (h:Ag n ds (eb++l) kN) (a:qU eb l=ac):Ag n ds l kN:= ⟨h.size,h.defs,λt u b=>h.jn t u<|Ts a b⟩
def Ag.Dp (m:Z) (h:Ag n ds eb kN) (a:eb.drop m=l) (b:qU (eb.take m) l=ac):Ag n ds l kN:=by subst a;rw [<-qb m eb] at h;exact h.forget b
def nA (ops:bE ay):I (Z×aT)->I ay->az (I<|Z×aT)
 | l,[]=>aa l
 | l,o::r=>match o.guard,o.dst with
  | aa (j,b),aa d=>match (ops[j]?).bind (·.dst) with
   | aa a=>match lk l a with| aa<|bV c=>bif (c != b) then nA ops ((d,undef)::l) r else ak| aa<|cN _=>nA ops ((d,undef)::l) r| _=>ak
   | ak=>ak
  | _,_=>ak
def tb (n:Z) (os:I ay):aQ:=os.all λo=>match o.dst with| aa d=>eB d n| ak=>ac
def Hs (b:Ag n ds eb kN)   (h:lk eb ae=aa bn) (hv:bn≠undef\/ae<n):kN.tmps[ae]? = aa bn:=by
 have a:=b.jn ae bn h;rw [kZ] at a;rcases m2 ae kN.tmps.size with d | c;·rw [wQ d] at a ⊢;simpa using a
 ·rw [yp c] at a;rcases hv with hv | hv;·exact absurd (by simpa using a.symm) hv
  ·rw [b.size] at c;omega
variable {b6 AN:I ay}
def WL.GG:∀{l:I<|Z×aT},nA ops l b6=aa eb->tb n b6=ac->(∀a w,Ag n ds eb a->W w->wpList P ops Q AN a w)-> ∀a w,Ag n ds l a->W w->wpList P ops Q (b6++AN) a w:=by
 induction b6 with
 | nil=>intro l c _ h a w f m;simp [nA] at c;subst c;exact h a w f m
 | cons o r y=>
  intro l c p h a w f m;simp only [nA] at c;simp only [tb,yr,eW] at p;have key:∀d,o.dst=aa d->m1 o (yielded ops a.tmps)=au->nA ops ((d,undef)::l) r=aa eb->wpList P ops Q (o::r++AN) a w:=by
   intro d e z A;have B:eB d n=ac:=by have:=p.1;rw [e] at this;exact this
   simp only [hx,wpList,z];rw [e];exact y A p.2 h _ _ (f.put B undef) m
  cases g:o.guard with
  | none=>simp [g] at c
  | some C=>
   obtain ⟨j,b⟩:=C;cases e:o.dst with
   | none=>simp [g,e] at c
   | some d=>
    simp only [g,e] at c;cases i:(ops[j]?).bind (·.dst) with
    | none=>simp [i] at c
    | some q=>
     simp only [i] at c;cases k:lk l q with
     | none=>simp [k] at c
     | some v=>
      simp only [k] at c;have hv:=f.jn q v k;cases v with
      | bool s=>
       cases t:(s != b) with
       | false=>simp [t] at c
       | true=>
        simp only [t,vu] at c;refine key d e ?_ c;have D:=Hs f k<|bA (by simp [undef]);have x:yielded ops a.tmps j=aa s:=by simp [yielded,i,D]
        simp only [m1,g,x];cases b<;>cases s<;>first|rfl|(simp at t)
      | tuple vs=>
       refine key d e ?_ c;have x:yielded ops a.tmps j=ak:=by simp only [yielded,i,cF];rw [kZ] at hv;cases E:a.tmps[q]? with| none=>rfl| some u=>simp [E] at hv;simp [hv]
       simp [m1,g,x]| _=>simp at c
def Tt:∀(a:aN) (w:aL),wpList P ops (aO.then (wpList P ops Q AN) Q) b6 a w->wpList P ops Q (b6++AN) a w:=by
 induction b6 with
 | nil=>intro a w h;exact h
 | cons o r c=>
  intro a w h;simp only [hx,wpList] at h ⊢;split
  ·rename_i d;rw [aU d] at h;rcases h with h | ⟨f,a2,g,i⟩;·left;unfold jB at h ⊢;unfold ay.upon at h ⊢;split at h;all_goals first|exact c _ _ h|exact h|(refine h.mono λe j b=>?_;cases e with| returned v=>exact c _ _ b| panicked m=>exact b| outgrown=>obtain ⟨a3,k,l⟩:=b;exact ⟨a3,k,l⟩)|exact h.mono λv j b=>c _ _ b
   ·exact bl ⟨f,a2,g,i⟩
  ·rename_i d;rw [ao d] at h;exact c _ _ h
def Tu {g:aO->aN->aL->Prop} (b:∀e a w,Q e a w->g e a w) :∀(a:aN) (w:aL),wpList P ops Q b6 a w->wpList P ops g b6 a w:=by
 induction b6 with
 | nil=>intro a w h;exact b _ _ _ h
 | cons o r d=>
  intro a w h;simp only [wpList] at h ⊢;split
  ·rename_i f;rw [aU f] at h;rcases h with h | ⟨i,a2,j,k⟩;·left;unfold jB at h ⊢;unfold ay.upon at h ⊢;split at h;all_goals first|exact d _ _ h|exact b _ _ _ h|exact h|(refine h.mono λe l c=>?_;cases e with| returned v=>exact d _ _ c| panicked p=>exact b _ _ _ c| outgrown=>obtain ⟨a3,m,n⟩:=c;exact ⟨a3,m,b _ _ _ n⟩)|exact h.mono λv l c=>d _ _ c
   ·exact bl ⟨i,a2,j,b _ _ _ k⟩
  ·rename_i f;rw [ao f] at h;exact d _ _ h
def tc (Q:aO->aN->aL->Prop) (n:Z) (ds:I e') (l:I<|Z×aT) (W:aL->Prop) (dx:Z) (x:aT):aO->aN->aL->Prop:= aO.then (λa w=>(Ag n ds l a/\a.tmps.getD dx undef=x)/\W w) Q
def Gt (m:Z) (c:lk eb ae=aa bn) (d:eb.drop m=l) (e:qU (eb.take m) l=ac):WL P ops (tc Q n ds l W ae bn) n ds eb W []:= λa w b f=>⟨⟨b.Dp m d e,b.jn _ _ c⟩,f⟩
def Ag.known (h:Ag n ds l kN)   (hv:lk l ae=aa bn):Ag n ds ((ae,bn)::l) kN:= ⟨h.size,h.defs,λt u a=>by simp only [lk] at a;cases b:ik ae t with| true=>rw [b] at a;have:=nX b;subst this;simp at a;subst a;exact h.jn _ _ hv| false=>rw [b] at a;exact h.jn t u a⟩
def Ag.tg (h:Ag n ds ((ae,bn)::l) kN) (hv:lk l ae=aa bn):Ag n ds l kN:= ⟨h.size,h.defs,λt u a=>by refine h.jn t u ?_;simp only [lk];cases b:ik ae t with| true=>have:=nX b;subst this;rw [hv] at a;simpa using a| false=>exact a⟩
variable {aH aK:Z} {bC aE j9:dF} {gk:bg} {gU:bE fw} {gE:az<|Z×aQ}
def WL.AP (m:Z)   (a:aQ) {c x:aQ} (z:b6[m]? = aa ⟨aa aH,.pick bC aE j9,bs,gk,gU,gE⟩) (A:bC = .tmp ae) (j:lk l ae=aa (bV c)) (B:tb n (b6.take m)=ac) (C:eE ops l gE) (D:eB aH n=ac) (f:(aE,j9)=(bif a then (dF.tmp aK,dF.const<|bV au) else (dF.const<|bV ac,dF.tmp aK))) (E:nA ops ((ae,bV<|!a)::l) (b6.take m)=aa eb) (F:eb.drop m=(ae,bV<|!a)::l) (G:qU (eb.take m) ((ae,bV<|!a)::l)=ac) (H:c=a->WL P ops (tc Q n ds ((ae,bV a)::l) W aK<|bV x) n ds ((ae,bV a)::l) W (b6.take m)) (h:WL P ops Q n ds ((aH,bV<|bif a then c&&x else c||x)::l) W<|b6.drop<|m+1):WL P ops Q n ds l W b6:=by
 intro q w s t;have J:b6=b6.take m++⟨aa aH,.pick bC aE j9,bs,gk,gU,gE⟩::b6.drop (m+1):=by obtain ⟨K,L⟩:=c_.1 z;rw [<-L,KT K,qb]
 rw [J];subst A;have u:∀(b:aN) (d:aL) (r:aQ),Ag n ds l b->W d->(if c then b.eval aE else b.eval j9) = bV r->r=(bif a then c&&x else c||x)-> wpList P ops Q (⟨aa aH,.pick (.tmp ae) aE j9,bs,gk,gU,gE⟩::b6.drop (m+1)) b d:=by
  intro b d r g k hv M;refine wpList_step λT N=>?_;rw [aU<|eE.wanted (o:=⟨aa aH,.pick (.tmp ae) aE j9,bs,gk,gU,gE⟩) C g];have O:(execOp b.eval ⟨aa aH,.pick (.tmp ae) aE j9,bs,gk,gU,gE⟩).run P d = .ok (.value<|bV r) d:=by have R:b.eval (.tmp ae) = bV c:=g.jn ae _ j;simp only [execOp,R,asBool,iN,kK,ie,hv]
  simp only [jB,O,ay.upon_value];exact N _ _<|h _ _ (by rw [<-M];exact g.put D _) k
 by_cases i:c=a
 ·refine Tt _ _<|Tu (Q:=tc Q n ds ((ae,bV a)::l) W aK<|bV x) (λe b d v=>?_) _ _<|H i q w (s.known (by rw [<-i];exact j)) t;cases e with
  | normal=>
   obtain ⟨⟨g,y⟩,k⟩:=v;refine u b d x (g.tg (by rw [<-i];exact j)) k ?_ ?_
   ·subst i;cases c;·simp at f;obtain ⟨rfl,rfl⟩:=f;exact y
    ·simp at f;obtain ⟨rfl,rfl⟩:=f;exact y
   ·subst i;cases c<;>rfl| _=>exact v
 ·have p:c = !a:=by cases c<;>cases a<;>first|rfl|exact absurd rfl i
  refine WL.GG E B (λb d g k=>?_) q w (s.known (by rw [<-p];exact j)) t;have S:Ag n ds l b:=(g.Dp m F G).tg (by rw [<-p];exact j);refine u b d c S k ?_ ?_
  ·subst p;cases a;·simp at f;obtain ⟨rfl,rfl⟩:=f;rfl
   ·simp at f;obtain ⟨rfl,rfl⟩:=f;rfl
  ·subst p;cases a<;>rfl
def La (m:Z)   {c x:aQ} (a:b6[m]? = aa ⟨aa aH,.pick bC aE j9,bs,gk,gU,gE⟩) (b:bC = .tmp ae) (d:lk l ae=aa (bV c)) (e:tb n (b6.take m)=ac) (f:eE ops l gE) (g:eB aH n=ac) (i:(aE,j9)=(dF.tmp aK,dF.const<|bV au)) (j:nA ops ((ae,bV au)::l) (b6.take m)=aa eb) (k:eb.drop m=(ae,bV au)::l) (o:qU (eb.take m) ((ae,bV au)::l)=ac) (p:c=ac->WL P ops (tc Q n ds ((ae,bV ac)::l) W aK<|bV x) n ds ((ae,bV ac)::l) W (b6.take m)) (h:WL P ops Q n ds ((aH,bV<|c&&x)::l) W<|b6.drop<|m+1):WL P ops Q n ds l W b6:= WL.AP m ac a b d e f g i j k o p h
def Lo (m:Z)   {c x:aQ} (a:b6[m]? = aa ⟨aa aH,.pick bC aE j9,bs,gk,gU,gE⟩) (b:bC = .tmp ae) (d:lk l ae=aa (bV c)) (e:tb n (b6.take m)=ac) (f:eE ops l gE) (g:eB aH n=ac) (i:(aE,j9)=(dF.const<|bV ac,dF.tmp aK)) (j:nA ops ((ae,bV ac)::l) (b6.take m)=aa eb) (k:eb.drop m=(ae,bV ac)::l) (o:qU (eb.take m) ((ae,bV ac)::l)=ac) (p:c=au->WL P ops (tc Q n ds ((ae,bV au)::l) W aK<|bV x) n ds ((ae,bV au)::l) W (b6.take m)) (h:WL P ops Q n ds ((aH,bV<|c||x)::l) W<|b6.drop<|m+1):WL P ops Q n ds l W b6:= WL.AP m au a b d e f g i j k o p h
end
section
variable {P:aV} {ops:bE ay} {Q:aO->aN->aL->Prop} {n:Z} {ds:I e'} {l l':I<|Z×aT} {W:aL->Prop} {w0:aL} {F:I Z} {L:I bc} {Vs:I View} {rest:I ay} {d:Z} {ty:b_} {pos:bg} {af:bE fw} {g:az<|Z×aQ}
variable {bG:Code}
def Lq {ι:Type}  (U:ι->I (Z×aT)) (a:I<|Z×aT) (Wi:ι->aL->Prop) (R:ι->Prop) (c:ι->Z) (b:ι) (d:R b) (e:∀p ∈ U b++a,lk l p.1=aa p.2) (f:∀w,W w->Wi b w) (g:∀i,R i->WC P bG (aO.then (λh k=>∃j,c j<c i/\R j/\Ag n ds (U j++a) h/\Wi j k) Q) n ds (U i++a) (Wi i)):WC P (.loop bG) Q n ds l W:= WC.loop (λi=>U i++a) Wi R c b d e f g
def dZ {ι:Type} {c:Code} (U:ι->I (Z×aT)) (a:I<|Z×aT) (Wi:ι->aL->Prop) (R:ι->Prop) (d:ι->Z) (b:ι) (e:R b) (f:∀w,W w->Wi b w) (g:∀i,R i->WC P c (aO.then (λh k=>∃j,d j<d i/\R j/\Ag n ds (U j++a) h/\Wi j k) Q) n ds (U i++a) (Wi i)) (m:yA l (U b++a)=yB (U b++a):=by rfl):WC P (.loop c) Q n ds l W:=Lq U a Wi R d b e (AG m) f g
def CW {ι:Type}  (U:ι->I (Z×aT)) (a:I<|Z×aT) (R:ι->Prop) (b:ι->Z) (c:ι) (d:R c) (e:∀p ∈ U c++a,lk l p.1=aa p.2) (f:∀i,R i->WC P bG (aO.then (λg h=>∃j,b j<b i/\R j/\Ag n ds (U j++a) g/\W h) Q) n ds (U i++a) W):WC P (.loop bG) Q n ds l W:= WC.loop (λi=>U i++a) (λ_=>W) R b c d e aR f
def dg {ι:Type} {c:Code} (U:ι->I (Z×aT)) (a:I<|Z×aT) (R:ι->Prop) (d:ι->Z) (b:ι) (e:R b) (f:∀i,R i->WC P c (aO.then (λg h=>∃j,d j<d i/\R j/\Ag n ds (U j++a) g/\W h) Q) n ds (U i++a) W) (k:yA l (U b++a)=yB (U b++a):=by rfl):WC P (.loop c) Q n ds l W:=CW U a R d b e (AG k) f
variable {bC aE:dF}
def WL.make {t e:b_}  {f i:IntKind} {c a:ab}  {size j:Z} (o:eE ops l g) (p:eB d n=ac) (k:hW P t e bn size j) (q:b5 l bC=aa (an f c)) (r:b5 l aE=aa (an i a)) (s:0<=c) (u:c<=a) (v:(j:ab)*a<=281474976710656) (x:a<=9223372036854775807) (h:∀b,WL P ops Q n ds ((d,aC (aa ⟨b,0,ak⟩) c.toNat a.toNat)::l) (Ws w0 F (aJ b (aM (madeCells bn.cells<|a.toNat*size) e (0,0))::L) Vs) rest) : WL P ops Q n ds l (Ws w0 F L Vs)<|⟨aa d,.makeSlice t bC aE,ty,pos,af,g⟩::rest:=by obtain ⟨y,hi,z,A,B⟩:=k.info;refine WL.new (mk:=λb=>aC (aa ⟨b,0,ak⟩) c.toNat a.toNat) o p (λC w m D=>?_) h;have:=run_make (P:=P) w t e y bn k.under hi z f i c a s u (by rw [B];exact v) x;rw [A] at this;simp [execOp,m bC _ q,m aE _ r,this]
def Ls (v:aT) (hv:v.cells = #[v]) (k:Z):madeCells v.cells (k*1)=(gI k v).toArray:=by
 rw [hv];apply vr;simp only [madeCells,Au];apply r3;intro j;rcases m2 j k with h | h;·simp [h,Z.mod_one]
 ·simp [h]
def WL.yJ {t:b_}  {b o k:Z} {a:Obj}  (i:Z) (c:Obj) (d:eE ops l g) (e:b5 l bC=aa (b0<|aa ⟨b,o,ak⟩)) (f:b5 l aE=aa bn) (hL:L[i]? = aa (aJ b a)) (j:eP P t=aa k) (m:(fh bn).length=k) (p:(fh bn).all (·.oneCell')=ac) (q:qe a o k=ac) (r:lQ a o (fh bn)=c) (h:WL P ops Q n ds l (Ws w0 F (L.set i<|aJ b c) Vs) rest) : WL P ops Q n ds l (Ws w0 F L Vs)<|⟨ak,.store t bC aE,ty,pos,af,g⟩::rest:=aq i d e f hL j m p q (by rw [r];exact h)
end
section
variable {P:aV} {l:I<|Z×aT} {W:aL->Prop} {w0:aL} {F:I Z} {L:I bc} {Vs:I View} {d:az Tmp} {ty:b_} {pos:bg} {af:bE fw} {g:az<|Z×aQ}
def Lt {t:TypeId} {x y:Operand} {a:Option Addr} {m c s:Nat} {k:IntKind} {h:Int} (b:g1 P t=some s) (j:b5 l x=some (.slice a m c)) (A:∀p,a=some p->p.spot=none) (n:b5 l y=some (.int k h)) (o:0<=h) (q:h<=c) : Yl P l W ⟨d,.slice t x none (some y) none,ty,pos,af,g⟩<|.slice a h.toNat c:=by
 intro B w i _;unfold g1 at b;cases f:P.underlying t with
 | none=>simp [f] at b
 | some r=>
  cases r<;>simp [f] at b;rename_i e;obtain ⟨u,hi,rfl⟩:=b;have v:(if c=0 then a else a.map (·.add<|0*u.size))=a:=by
   split;·rfl
   ·cases a with| none=>rfl| some p=>simp [Addr.add]
  have z:h<=(c:Int):=q;simp [execOp,i x _ j,i y _ n,Instr.sliceAt,Instr.slice,Instr.sliceBounds,Instr.sliceBound,asIntOf,run_underlying f,sizeOf,typeInfo,hi,o,z];simpa using v
end
def ct (H:View) (b o:Z) (cs:I aT):Prop:=∀j v,cs[j]? = aa v->vc H b (o+j)=aa v
variable {bX:View} {aH:Z} {dC:I aT}
def ct.mono (h:cV bt bX)   (r:ct bt ae aH dC):ct bX ae aH dC:=λj v hv=>h.cell<|r j v hv
structure Sl {α:Type} (rd:View->Z->Z->α->Prop) (k:Z) (H:View) (a:az a0) (c:Z) (l:I α):Prop where
 cap:l.length<=c
 max:c<=9223372036854775807
 spot:∀p,a=aa p->0<c->p.spot=ak
 b7:∀i x,l[i]? = aa x->∃b o,a=aa ⟨b,o,ak⟩/\rd H b (o+i*k) x
variable {dn:View->Z->Z->bW->Prop} {b':az a0}
def Sl.mono (a:∀b o x,dn bt b o x->dn bX b o x) (h:Sl dn ae bt b' aH cg):Sl dn ae bX b' aH cg:=
 ⟨h.cap,h.max,h.spot,λi x c=>let ⟨b,o,d,e⟩:=h.b7 i x c; ⟨b,o,d,a _ _ _ e⟩⟩
def Sl.nil:Sl dn ae bt ak 0 ([]:I bW):=⟨eC _,a',aG,aG⟩
section
variable {P:aV} {l:I<|Z×aT} {W:aL->Prop} {d:az Tmp} {ty:b_} {pos:bg} {af:bE fw} {g:az<|Z×aQ}
variable {bC aE:dF} {aK hQ lP:Z} {fd:IntKind}
def Yo {i:Z} (a:g1 P bs=aa lP) (b:b5 l bC=aa (aC b' aK hQ)) (c:b5 l aE=aa (an fd (i:ab))) (e:b'=aa ⟨ae,aH,ak⟩) (f:i<aK) : Yl P l W ⟨d,.indexAddr bs bC aE,ty,pos,af,g⟩<|b0<|aa ⟨ae,aH+i*lP,ak⟩:=by subst e;exact pz a b c f
def uq {i:ab} (a:g1 P bs=aa lP) (b:b5 l bC=aa (aC b' aK hQ)) (c:b5 l aE=aa (an fd i)) (e:b'=aa ⟨ae,aH,ak⟩) (f:0<=i) (h:i<aK) : Yl P l W ⟨d,.indexAddr bs bC aE,ty,pos,af,g⟩<|b0<|aa ⟨ae,aH+i.toNat*lP,ak⟩:=by subst e;exact Di a b c f h
end
section
variable {P:aV} {md:p8} {ops:bE ay} {C:aL->Prop} {Q:aO->aN->aL->Prop}
def YV (P:aV) (ops:bE ay) (C:aL->Prop) (o:ay) (v:aT) (a:aN):Prop:= (m1 o (yielded ops a.tmps)=ac/\∀w,C w->(execOp a.eval o).run P w = .ok (.value v) w)\/ (m1 o (yielded ops a.tmps)=au/\v=undef)
variable {eR:ay}
def YV.of_same {a b:aN} (c:YV P ops C eR bn a) (d:execOp b.eval eR=execOp a.eval eR) (e:m1 eR (yielded ops b.tmps)=m1 eR (yielded ops a.tmps)):YV P ops C eR bn b:=by unfold YV at *;rw [d,e];exact c
variable {vv:aN->aL->Prop}
def YV.wpOp {a:aN}  (hi:ops[ae]? = aa eR) (c:YV P ops C eR bn a) (hC:C cb)  (h:vv (a.put eR.dst bn) cb):wpOp P ops Q ae vv a cb:=by
 unfold Go.wpOp;simp only [hi];rcases c with ⟨b,hv⟩ | ⟨b,rfl⟩;·simp only [b,dp];refine bA ?_;simp only [jB,hv cb hC,ay.upon_value];exact h
 ·simp only [b,dP,dq];exact h
def vz (P:aV) (md:p8) (ops:bE ay) (C:aL->Prop) (Q:aO->aN->aL->Prop):Z->bE aQ->aN->aL->Prop| 0,listed,a,w=>C w/\j7 md ops listed=[]/\Q .normal a w| fuel+1,listed,a,w=>C w/\(j7 md ops listed=[]->Q .normal a w)/\ ∀i ∈ j7 md ops listed,wpOp P ops Q i (vz P md ops C Q fuel<|listed.setIfInBounds i ac) a w
def Ao:∀(fuel:Z) (b:bE aQ) (a:aN) (w:aL),vz P md ops C Q fuel b a w->wpAny P md ops Q fuel b a w| 0,_,_,_,h=>h.2| fuel+1,b,a,w,h=>⟨h.2.1,λi hi=>wpOp_mono (λc d e=>Ao fuel _ c d e)<|h.2.2 i hi⟩
def vz.c {b:bE aQ} {a:aN}  (h:vz P md ops C Q ae b a cb):C cb:=by cases ae<;>exact h.1
def Lu {g i:ay}  (z:ops[ae]? = aa i) (A:g.apart ops i=ac) (B:∀cs b,g.op≠.select cs b) (q:∀cs b,i.op≠.select cs b) (s:∀c a w,Q (.panic c) (a.put g.dst bn) w->Q (.panic c) a w)  {a:aN} {w:aL} (j:YV P ops C g bn a) (h:wpOp P ops Q ae vv (a.put g.dst bn) w) : wpOp P ops Q ae (λt m=>YV P ops C g bn t/\vv (t.put g.dst bn) m) a w:=by
 obtain ⟨o,k,v⟩:=ay.apart_spec A;have ej:∀(a:aN),YV P ops C g bn a->∀u,YV P ops C g bn (a.put i.dst u):=λa j u=> j.of_same (execOp_put g B a i.dst u v)<|wanted_put g a i.dst u v;have D:∀d,YV P ops C g bn { a with defers:=d::a.defers }:=λd=>j.of_same rfl rfl;unfold wpOp at *;simp only [z] at *;rw [wanted_put i a g.dst bn o] at h;split
 ·rename_i p;simp only [p,dp] at h;rcases h with h | ⟨y,E⟩;case inr=>exact bl ⟨by unfold ay.asks at *;rw [execOp_put i q a g.dst bn o] at y;exact y,E⟩
  refine bA ?_;unfold jB at *;rw [execOp_put i q a g.dst bn o] at h;generalize (execOp a.eval i).run P w=r at *;cases r with
  | ok n m=>
   cases n<;>simp only [ay.upon] at h ⊢;case value u=>exact ⟨ej a j u,by rw [<-aN.put_comm a bn u k];exact h⟩
   case skip=>exact ⟨ej a j _,by rw [<-aN.put_comm a bn undef k];exact h⟩
   case defer d=>refine ⟨ej _ (D d) _,?_⟩;rw [<-aN.put_comm _ bn undef k,<-aN.put_defers];exact h
   case enter f args=>refine cr.mono h λe F l=>?_;cases e with| returned u=>exact ⟨ej a j u,by rw [<-aN.put_comm a bn u k];exact l⟩| panicked c=>exact s _ _ _ l| outgrown=>exact l
   case row row args=>exact Rows.mono h λu F l=>⟨ej a j u,by rw [<-aN.put_comm a bn u k];exact l⟩| halt x m=>cases x<;>simp only [ay.upon] at h ⊢;case panic u=>exact s _ _ _ h
 ·rename_i p;simp only [p] at h;exact ⟨ej a j _,by rw [<-aN.put_comm a bn undef k];exact h⟩
def HV (hi:ops[ae]? = aa eR) (s:∀(j:Z) (o:ay) cs b,ops[j]? = aa o->o.op≠.select cs b) (z:∀c a w,Q (.panic c) (a.put eR.dst bn) w->Q (.panic c) a w) : ∀(fuel:Z) (d:bE aQ) (a:aN) (w:aL), (∀j g,ops[j]? = aa g->j≠ae->d.getD j ac=au->(∀e ∈ g.after,qP md e=ac->e.on≠ae)->eR.apart ops g=ac)-> ae ∈ j7 md ops d->YV P ops C eR bn a->C w-> vz P md ops C Q fuel (d.setIfInBounds ae ac) (a.put eR.dst bn) w->vz P md ops C Q (fuel+1) d a w:=by
 intro fuel;induction fuel with
 | zero=>
  intro d a w _ i m hC H;refine ⟨hC,λh=>(by rw [h] at i;cases i),λj n=>?_⟩;by_cases f:j=ae;·subst f;exact m.wpOp hi hC H
  ·have:=ready_mono n f;rw [H.2.1] at this;cases this
 | succ fuel A=>
  intro d a w t i m hC H;refine ⟨hC,λh=>(by rw [h] at i;cases i),λj n=>?_⟩;by_cases f:j=ae;·subst f;exact m.wpOp hi hC H
  ·have l:=H.2.2 j<|ready_mono n f;obtain ⟨u,g,p,B⟩:=mem_ready.1 n;have D:∀e ∈ g.after,qP md e=ac->e.on≠ae:=λe E F G=>by
    have l:=B e E F;have v:=(mem_ready.1 i).1;rw [G] at l;rcases m2 ae d.size with q | q;·simp [q] at v l;rw [v] at l;cases l
    ·simp [yp q] at l
   have J:=Lu p (t j g p f u D) (λcs b=>s ae eR cs b hi) (λcs b=>s j g cs b p) z m l;have K:∀k ok,ops[k]? = aa ok->k≠ae->(d.setIfInBounds j ac).getD k ac=au-> (∀e ∈ ok.after,qP md e=ac->e.on≠ae)->eR.apart ops ok=ac:=λk ok L M x N=>by
    refine t k ok L M ?_ N;by_cases y:j=k;·subst y;exact u
    ·rw [getD_set_ne ac y] at x;exact x
   refine wpOp_mono (λO R r=>A (d.setIfInBounds j ac) O R K (ready_mono i<|CS f) r.1 r.2.c ?_) J;rw [Gd _ _ f];exact r.2
def pA (md:p8) (ops:bE ay):I (Z×aQ)->bE aQ->aQ| [],listed=>(j7 md ops listed).isEmpty| (i,q)::r,listed=>(bif q then (j7 md ops listed).contains i&&Region.free md ops listed i else j7 md ops listed==[i])&&pA md ops r (listed.setIfInBounds i ac)
def pB (P:aV) (ops:bE ay) (C:aL->Prop) (Q:aO->aN->aL->Prop):I (Z×aQ)->aN->aL->Prop| [],a,w=>C w/\Q .normal a w| (i,ac)::r,a,w=>C w/\∃o v,ops[i]? = aa o/\YV P ops C o v a/\pB P ops C Q r (a.put o.dst v) w| (i,au)::r,a,w=>C w/\wpOp P ops Q i (pB P ops C Q r) a w
def Aq (f:p9 ops=ac) (g:∀c a w d v,Q (.panic c) (a.put d v) w->Q (.panic c) a w):∀(ord:I<|Z×aQ) (e:bE aQ) (a:aN) (w:aL), pA md ops ord e=ac->pB P ops C Q ord a w->vz P md ops C Q ord.length e a w| [],e,a,w,b,h=>⟨h.1,by simpa [pA] using b,h.2⟩| (i,ac)::r,e,a,w,b,h=>by simp only [pA,vu,eW] at b;obtain ⟨hC,o,v,l,m,h⟩:=h;exact HV l (Region.noSelect_spec f) (λc a w=>g c a w o.dst v) r.length e a w (Region.free_spec l b.1.2) (by simpa using b.1.1) m hC<|Aq f g r _ _ _ b.2 h| (i,au)::r,e,a,w,b,h=>by simp only [pA,Da,eW,j8] at b;refine ⟨h.1,λn=>(by rw [n] at b;cases b.1),λj k=>?_⟩;rw [b.1] at k;simp at k;subst k;exact wpOp_mono (λq s p=>Aq f g r _ _ _ b.2 p) h.2
variable {b6:I ay}
def Tv {a:aN} {w:aL}  (ord:I<|Z×aQ) (e:P.follows .mixedOrders=ac) (b:(p9 b6.toArray&&(ord.length==b6.toArray.size&&pA .any b6.toArray ord (uc b6.toArray.size au)))=ac) (f:∀c a w d v,Q (.panic c) (a.put d v) w->Q (.panic c) a w) (h:pB P b6.toArray C Q ord a w.drew):(Code.region ae b6.toArray ac).wp P Q a w:=by simp only [eW,j8] at b;have:=Ao (md:=.any) _ _ _ _<|Aq b.1 f ord _ a w.drew b.2.2 h;rw [b.2.1] at this;exact wp_region_any e this
variable {n:Z} {ds:I e'} {l:I<|Z×aT} {W:aL->Prop}
def WD (P:aV) (ops:bE ay) (C:aL->Prop) (Q:aO->aN->aL->Prop) (n:Z) (ds:I e') (l:I<|Z×aT) (W:aL->Prop) (ord:I<|Z×aQ):Prop:= ∀a w,Ag n ds l a->W w->pB P ops C Q ord a w
def WC.HZ (C:aL->Prop) (ord:I<|Z×aQ) (b:P.follows .mixedOrders=ac) (e:(p9 b6.toArray&&(ord.length==b6.toArray.size&&pA .any b6.toArray ord (uc b6.toArray.size au)))=ac) (f:∀c a w d v,Q (.panic c) (a.put d v) w->Q (.panic c) a w) (g:∀w,W w->W w.drew) (h:WD P b6.toArray C Q n ds l W ord):WC P (.region ae b6.toArray ac) Q n ds l W:= λa w i j=>Tv ord b e f<|h a w.drew i<|g w j
variable {im:I<|Z×aQ} {lu:Op} {gk:bg} {gU:bE fw}
def Dq {g:az<|Z×aQ}  (hi:ops[ae]? = aa ⟨aa aH,lu,bs,gk,gU,g⟩) (d:eE ops l g) (e:eB aH n=ac) (hC:∀w,W w->C w) (f:Yl P l C ⟨aa aH,lu,bs,gk,gU,g⟩ bn) (h:WD P ops C Q n ds ((aH,bn)::l) W im):WD P ops C Q n ds l W<|(ae,ac)::im:=by intro a w b c;refine ⟨hC w c,_,bn,hi,bA ⟨eE.wanted (o:=⟨aa aH,lu,bs,gk,gU,g⟩) d b,λi j=>f a.eval i (λx u k=>b.eval k) j⟩,h _ _ (b.put e bn) c⟩
def D0 (hi:ops[ae]? = aa ⟨aa aH,lu,bs,gk,gU,ak⟩) (hC:∀w,W w->C w) (a:Yl P l C ⟨aa aH,lu,bs,gk,gU,ak⟩ bn) (h:WD P ops C Q n ds ((aH,bn)::l) W im) (b:eB aH n=ac:=by rfl):WD P ops C Q n ds l W<|(ae,ac)::im:=Dq hi (bA rfl) b hC a h
def De (hi:ops[ae]? = aa eR) (hC:∀w,W w->C w) (h:WL P ops (aO.then (pB P ops C Q im) Q) n ds l W [eR]):WD P ops C Q n ds l W<|(ae,au)::im:=by
 intro a w f d;refine ⟨hC w d,?_⟩;have:=h a w f d;unfold wpList at this;unfold wpOp;simp only [hi];split
 ·rename_i c;rw [aU c] at this;rcases this with this | ⟨g,a2,i,j⟩;·left;unfold jB at this ⊢;unfold ay.upon at this ⊢;split at this;all_goals first|exact this|(refine this.mono λe k b=>?_;cases e with| returned v=>exact b| panicked p=>exact b| outgrown=>obtain ⟨a3,m,o⟩:=b;exact ⟨a3,m,o⟩)|exact this.mono λv k b=>b
  ·exact bl ⟨g,a2,i,j⟩
 ·rename_i c;rw [ao c] at this;exact this
def Ed (h:WD P ops C Q n ds l W im):WE (aO.then (pB P ops C Q im) Q) .normal n ds l W:=h
def WD.nil (hC:∀w,W w->C w) (h:WE Q .normal n ds l W):WD P ops C Q n ds l W []:=λa w c b=>⟨hC w b,h a w c b⟩
def Ws.drew (h:Ws cb cJ di en eJ):Ws cb cJ di en eJ.drew:=h.ext<|Ext.drew eJ
def Ws.out (i:Z) (h:Ws cb cJ di en eJ):Ws cb cJ (fR i di) en eJ:=by
 cases a:di[i]? with
 | none=>
  have:fR i di=di:=by clear h;induction di generalizing i with| nil=>cases i<;>rfl| cons x r b=>cases i with| zero=>simp at a| succ i=>simp only [fR];rw [b i (by simpa using a)]
  rw [this];exact h| some x=>exact Ws.drop (L:=[x])<|h.perm<|oP i di a
end
section
variable {P:aV} {ops:bE ay} {Q:aO->aN->aL->Prop} {n:Z} {ds:I e'} {l l':I<|Z×aT} {W:aL->Prop} {w0:aL} {F:I Z} {L:I bc} {Vs:I View} {rest:I ay} {d:Z} {ty:b_} {pos:bg} {af:bE fw} {g:az<|Z×aQ}
def vA (a:aT) (k:Z):I aT:=(kJ k).map λi=>((fh a)[i % (fh a).length]?).getD undef
def Tw (a:aT) (k:Z) (b:0<a.cells.size):((bE.range k).map (a.cells[· % a.cells.size]!):bE aT).toList=vA a k:=by
 simp only [bE.toList_map,bE.toList_range,vA];apply Av;intro i _;have c:i % a.cells.size<a.cells.size:=Ge _ b;have e:(fh a).length=a.cells.size:=by rw [<-vx];simp
 rw [e,<-vx];simp [c]
def WL.AQ {t e:TypeId} {len size p:Nat} {parts:List<|Nat×Operand}  {vs:List<|Nat×Value} {out:List Value} (q:eE ops l g) (r:Nat.blt d n=true) (a:hW P t e bn size p) (hv:uo l parts=some vs) (s:Nat.ble (len*size) 16777216=true) (j:ta (λi=>some (i*size,size)) (bif Nat.beq (len*size) 0 then [] else vA bn (len*size)) vs=some out) (h:∀b,WL P ops Q n ds ((d,.slice (some ⟨b,0,none⟩) len len)::l) (Ws w0 F (aJ b (.cells out.toArray e (0,0))::L) Vs) rest) : WL P ops Q n ds l (Ws w0 F L Vs)<|⟨some d,.buildSlice t len parts.toArray,ty,pos,af,g⟩::rest:=by
 obtain ⟨C,hi,u,v,D⟩:=a.info;have E:=r2 s;refine WL.new (mk:=λb=>.slice (some ⟨b,0,none⟩) len len) q r (λy w z G=>?_) h;have k:(parts.toArray.map λ (i,x)=>(i,y x):Array (Nat×Value)).toList=vs:=by simpa using Dm z parts vs hv
 have A:zeroOf P e=some bn:=by simp [zeroOf,hi,u]
 have m:eP P e=some size:=by simp [eP,hi,v]
 have o:¬len*size > 2 ^ 24:=aj;by_cases c:len*size=0
 ·have f:Instr.fill (λi=>some (i*size,size)) #[] vs=some out.toArray:=by refine AL _ vs #[] out ?_;simpa [c] using j
  simp only [execOp,Instr.buildSlice,Sem.run_bind,run_underlying a.under,Result.andThen_ok,Dk m,ao o,Sem.run_pure,aU c,k];simp [c,f,newRow,Array.range_zero']
 ·have f:Instr.fill (λi=>some (i*size,size)) ((Array.range<|len*size).map (bn.cells[· % bn.cells.size]!)) vs=some out.toArray:=by
   refine AL _ vs _ out ?_;rw [Tw bn _ (by rw [a.zs];exact a.pos)];have:Nat.beq (len*size) 0=false:=by cases B:Nat.beq (len*size) 0 with| false=>rfl| true=>exact absurd (nX B) c
   simpa [this] using j
  simp only [execOp,Instr.buildSlice,Sem.run_bind,run_underlying a.under,Result.andThen_ok,Dk m,ao o,Sem.run_pure,ao c,k,w4 A,f];simp [newRow]
variable {ef:jU} {bC:dF} {yK:bE aT} {f':bE dF}
def Lx {a:dF->aT} {dst:az Tmp}     {ts:bE b_}  {w:aL} (c:Enters P ef) (b:∀x u,b5 l x=aa u->a x=u) (d:b5 l bC=aa (.func (.func ef) #[] yK)) (f:hF l f'.toList=aa dC) : (execOp a ⟨dst,.call ⟨.value bC,f',ts⟩,ty,pos,af,g⟩).run P w = .ok (.enter ef<|dC.toArray++yK) w:=by
 have e:f'.map a=dC.toArray:=by apply vr;simpa using Dn b _ _ f
 simp only [execOp,resolve,e,b bC _ d,e'.ofValue,iN,kK,ie,invoke];simpa using c _ w
variable {iD:bE b_}
def WL.T5 {ι:Type}       (k:eE ops l g) (m:eB d n=ac) (o:Enters P ef) (p:b5 l bC=aa (.func (.func ef) #[] yK)) (q:hF l f'.toList=aa dC) (v:ι->aT) (R:ι->aL->Prop) (j:I nW->aL->Prop) (hC:∀w,W w->cr P ef (dC.toArray++yK) w λe c=>(∃i,e = ax (v i)/\R i c)\/∃b,e = .panicked b/\j b c) (r:∀i,WL P ops Q n ds ((d,v i)::l) (R i) rest) (s:∀b,WE Q (.panic b) n ds l (j b)) : WL P ops Q n ds l W<|⟨aa d,.call ⟨.value bC,f',iD⟩,ty,pos,af,g⟩::rest:=by
 refine WL.step k λa w f t C y=>?_;have z:=Lx (P:=P) (dst:=aa d) (ts:=iD) (ty:=ty) (pos:=pos) (af:=af) (g:=g) (w:=w) o (λx u A=>f.eval A) p q;simp only [jB,z,ay.upon_enter];refine (hC w t).mono λe c B=>?_;rcases B with ⟨i,rfl,h⟩ | ⟨b,rfl,h⟩;·exact y _ _<|r i _ _ (f.put m _) h
 ·exact s b _ _ f h
def WL.ur (i:eE ops l g) (j:eB d n=ac) (k:Enters P ef) (m:b5 l bC=aa (.func (.func ef) #[] yK)) (o:hF l f'.toList=aa dC) (hC:∀w,Ws w0 F L Vs w->cr P ef (dC.toArray++yK) w λe b=>e = ax bn/\Ext w b) (p:WL P ops Q n ds ((d,bn)::l) (Ws w0 F L Vs) rest) : WL P ops Q n ds l (Ws w0 F L Vs)<|⟨aa d,.call ⟨.value bC,f',iD⟩,ty,pos,af,g⟩::rest:=by refine WL.step i λa w c f v q=>?_;have r:=Lx (P:=P) (dst:=aa d) (ts:=iD) (ty:=ty) (pos:=pos) (af:=af) (g:=g) (w:=w) k (λx u s=>c.eval s) m o;simp only [jB,r,ay.upon_enter];refine (hC w f).mono λe b t=>?_;obtain ⟨rfl,h⟩:=t;exact q _ _<|p _ _ (c.put j _)<|f.ext h
variable {bo:Func} {hp:Ending->aL->Prop}
def WE.Ly {a b o k:Z}   (i:Z) (g:bo.results = #[.cell a bs]) (m:lk l a=aa (b0<|aa ⟨b,o,ak⟩)) (hL:L[i]? = aa (aJ b eT)) (p:iC P bs=aa k) (q:(cellsIn eT o k).length=k) (h:∀w,Ws w0 F L Vs w->hp (ax<|bU (cellsIn eT o k).toArray) w):WE (bodyPost P bo hp) .ret n [] l<|Ws w0 F L Vs:=by
 intro t w d e;have r:(loadVar bs ⟨b,o,ak⟩).run P w = .ok (bU (cellsIn eT o k).toArray) w:=Df p q λj v c=>by
  have s:w.heap[b]? = aa eT:=e.kn _<|bu hL;refine cell_of_heap s ?_;cases eT<;>simp [cellsIn,jV] at *;rw [b8] at c;split at c;·simpa using c
  ·cases c
 refine bodyPost_ret (v:=bU (cellsIn eT o k).toArray) ?_ d.defs<|h w e;have f:=d.jn a _ m;rw [kZ] at f;simp [results,g,f,asAddr,r]
def WE.td {a b o k u:Z}    (i:Z) (m:bo.results = #[.cell a bs,.tmp u]) (p:lk l a=aa (b0<|aa ⟨b,o,ak⟩)) (q:lk l u=aa bn) (hL:L[i]? = aa (aJ b eT)) (r:iC P bs=aa k) (s:(cellsIn eT o k).length=k) (h:∀w,Ws w0 F L Vs w->hp (ax<|cN #[bU (cellsIn eT o k).toArray,bn]) w):WE (bodyPost P bo hp) .ret n [] l<|Ws w0 F L Vs:=by
 intro y w d e;have t:(loadVar bs ⟨b,o,ak⟩).run P w = .ok (bU (cellsIn eT o k).toArray) w:=Df r s λj v c=>by
  have x:w.heap[b]? = aa eT:=e.kn _<|bu hL;refine cell_of_heap x ?_;cases eT<;>simp [cellsIn,jV] at *;rw [b8] at c;split at c;·simpa using c
  ·cases c
 refine bodyPost_ret (v:=cN #[bU (cellsIn eT o k).toArray,bn]) ?_ d.defs<|h w e;have f:=d.jn a _ p;have g:=d.jn u _ q;rw [kZ] at f g;simp [results,m,f,g,asAddr,t]
end
def Ws.GJ (h:Ws cb [] di en eJ) (i:Z)   (hL:di[i]? = aa (aJ ae eT))   (b:jV eT aH=aa bn) (c:nz eT=ac:=by rfl):vc (nv cb eJ) ae aH=aa bn:=by have d:eJ.heap[ae]? = aa eT:=h.kn _<|bu hL;have a:=h.own _ (bu hL) ae (by simp [aJ]);simp at a;unfold vc;rw [nE.2 ⟨a,d,c⟩];exact b
def Ws.Lz (h:Ws cb [] di en eJ) (i:Z)     (hL:di[i]? = aa (eK bs ae bn aH dC)) : (bn = aC ak 0 0/\dC=[])\/∃b c,bn = aC (aa ⟨b,0,ak⟩) aH c/\aH<=c/\c<=maxLen/\∀j u,dC[j]? = aa u->vc (nv cb eJ) b j=aa u:=by
 obtain ⟨e,f⟩:=(h.kn _<|bu hL:eJ.ownsRow 0 bs ae bn aH dC);rcases f with ⟨rfl,rfl⟩ | ⟨b,cap,n,rfl,_,g,k,l,o,m⟩;·exact bA ⟨O,by cases dC;rfl;simp at e⟩
 ·refine bl ⟨b,cap,O,k,l,λj u a=>?_⟩;have d:=h.own _ (bu hL) b (by simp [eK,lq]);simp at d;unfold vc;rw [nE.2 ⟨d,g,rfl⟩];rw [<-m,b8] at a;split at a;·simpa [jV] using a
  ·cases a
def Dr (f:bW->aT) (l:I bW) (T:b_) (k:Z) (h:k<l.length):qe (aM (l.map f).toArray T (0,0)) (0+k*1) 1=ac:=by simp only [qe,Ar,Gf];exact CT (by simp;omega)
def Ds (f:bW->aT) (l:I bW) (T:b_) (k:Z) (x:bW) (h:k<l.length):lQ (aM (l.map f).toArray T (0,0)) (0+k*1) [f x] = aM ((l.set k x).map f).toArray T (0,0):=by simp only [lQ,k0,Au,n_,I.set_eq_take_append_cons_drop,aU h];simp
variable {dN:bW->I aT}
def hS (a:∀x,(dN x).length=ae):∀l:I bW,(l.flatMap dN).length=l.length*ae| []=>by simp| x::r=>by simp [a,hS a r,vt];omega
def Dt (a:∀x,(dN x).length=ae):∀(l:I bW) (i:Z) (x:bW),l[i]? = aa x-> l.flatMap dN=(l.take i).flatMap dN++dN x++(l.drop<|i+1).flatMap dN| [],i,x,h=>by simp at h| y::r,0,x,h=>by simp at h;simp [h]| y::r,i+1,x,h=>by have:=Dt a r i x (by simpa using h);simp only [jm,qc,I.drop_succ_cons];rw [this];simp
def oR (a:∀x,(dN x).length=ae)   {x:bW} (h:cg[aH]? = aa x) {j:Z} (b:j<ae):(cg.flatMap dN)[aH*ae+j]? = (dN x)[j]?:=by
 have hi:=(c_.1 h).1;have c:((cg.take aH).flatMap dN).length=aH*ae:=by rw [hS a,lr,lU aj]
 rw [Dt a cg aH x h,ho,r4 aj,c,sQ,Aw (by rw [a];exact b)]
def GK (a:∀x,(dN x).length=ae)   {x y:bW} (h:cg[aH]? = aa x) {j:Z} {vs:I aT} (n:j+vs.length<=ae) (d:dN y=(dN x).take j++vs++(dN x).drop (j+vs.length)) : (cg.flatMap dN).take (aH*ae+j)++vs++(cg.flatMap dN).drop (aH*ae+j+vs.length)=(cg.set aH y).flatMap dN:=by
 have hi:=(c_.1 h).1;have c:((cg.take aH).flatMap dN).length=aH*ae:=by rw [hS a,lr,lU aj]
 have e:(cg.set aH y)[aH]? = aa y:=by simp [hi]
 rw [Dt a (cg.set aH y) aH y e,Dt a cg aH x h,d];have f:(cg.set aH y).take aH=cg.take aH:=I.take_set_of_le<|eC aH;have g:(cg.set aH y).drop (aH+1)=cg.drop (aH+1):=I.drop_set_of_lt aj;rw [f,g];generalize o:(cg.take aH).flatMap dN=b at *;generalize p:(cg.drop<|aH+1).flatMap dN=B at *;have i:(b++dN x++B).take (aH*ae+j)=b++(dN x).take j:=by rw [ho,Gg,c,i' aj,sQ,Gh (by rw [a];omega)]
 have k:(b++dN x++B).drop (aH*ae+j+vs.length)=(dN x).drop (j+vs.length)++B:=by rw [ho,ym,c,KU aj,s7,ym,a];have l:aH*ae+j+vs.length-aH*ae=j+vs.length:=aj;rw [l];have m:j+vs.length-ae=0:=aj;simp [m]
 rw [i,k];simp
section
variable {P:aV} {ops:bE ay} {Q:aO->aN->aL->Prop} {n:Z} {ds:I e'} {l l':I<|Z×aT} {W:aL->Prop} {w0:aL} {F:I Z} {L:I bc} {Vs:I View} {rest:I ay} {d:Z} {ty:b_} {pos:bg} {af:bE fw} {g:az<|Z×aQ}
def AO {size m c b:Z}  {w:aL} (h:(eK bs size (aC (aa ⟨b,0,ak⟩) m c) m dC).holds w):∃a,w.heap[b]? = aa (aM a bs (0,0))/\a.toList.take (m*size)=dC/\a.size=c*size/\m<=c/\dC.length=m*size:=by
 obtain ⟨f,e⟩:=(h:w.ownsRow 0 bs size _ m dC);rcases e with ⟨e,_⟩ | ⟨n,cap,a,hv,_,g,i,o,j,k⟩;·cases e
 ·injection hv with d _ l;injection d with d;injection d with d;subst d;subst l;exact ⟨a,g,k,j,i,f⟩
def yL {x:dF} {b o m c size:Z} {e:b_}   {d:az Tmp} (i:Z) (f:b5 l x=aa (b0<|aa ⟨b,o,ak⟩)) (hL:L[i]? = aa (eK e size (aC (aa ⟨b,0,ak⟩) m c) m dC)) (h:qR P bs=ac) (a:dC[o]? = aa bn) : Yl P l (Ws w0 F L Vs) ⟨d,.load bs x,ty,pos,af,g⟩ bn:=AK h f λw j=>by
 obtain ⟨p,k,n,_⟩:=AO<|j.kn _<|bu hL;refine cell_of_heap k ?_;rw [<-n,b8] at a;split at a;·exact a
 ·cases a
def WL.Bn {t e:b_} {x y:dF} {b o k m c size:Z}   (i:Z) (p:I aT) (C:eE ops l g) (D:b5 l x=aa (b0<|aa ⟨b,o,ak⟩)) (E:b5 l y=aa bn) (hL:L[i]? = aa (eK e size (aC (aa ⟨b,0,ak⟩) m c) m dC)) (u:eP P t=aa k) (G:(fh bn).length=k) (H:(fh bn).all (·.oneCell')=ac) (J:o+k<=dC.length) (v:dC.take o++fh bn++dC.drop (o+(fh bn).length)=p) (h:WL P ops Q n ds l (Ws w0 F (L.set i<|eK e size (aC (aa ⟨b,0,ak⟩) m c) m p) Vs) rest) : WL P ops Q n ds l (Ws w0 F L Vs)<|⟨ak,.store t x y,ty,pos,af,g⟩::rest:=by
 refine WL.step C λa w q r Y K=>?_;obtain ⟨d,z,M,A,f,B⟩:=AO<|r.kn _<|bu hL;have ad:dC.length<=d.size:=by rw [B,A];exact nn _ f
 have N:qe (aM d e (0,0)) o k=ac:=by simp only [qe,Ar,Gf];exact CT (by simp;omega)
 have R:(execOp a.eval ⟨ak,.store t x y,ty,pos,af,g⟩).run P w = .ok .skip { w with heap:=w.heap.setIfInBounds b<|lQ (aM d e (0,0)) o<|fh bn }:=by simp only [execOp,q.eval D,q.eval E,Instr.storeAt,Instr.sureAddr,iN,kK,ie,z3 u G H z N]
 simp only [jB,R,ay.upon_skip];refine K _ _<|h _ _ (q.yz undef) ?_;refine Ws.um r i hL ⟨O,O,O,aG,λj S T=>?_⟩ ?_ (by simp [eK,lq]) (by simp [eK,lq]);·have:b≠j:=λe=>T (by simp [eK,lq,e]);simp [ue this]
 ·obtain ⟨_,s⟩:=(r.kn _<|bu hL:w.ownsRow 0 e size _ m dC);have U:c<=maxLen:=by
   rcases s with ⟨s,_⟩ | ⟨ae,cap,ag,hv,_,J,f,V,u,ah⟩;·cases s
   ·injection hv with _ _ W;rw [W];exact V
  have X:p.length=dC.length:=by rw [<-v];simp;omega
  refine ⟨by rw [X,B],bl ⟨b,c,(d.toList.take o++fh bn++d.toList.drop (o+(fh bn).length)).toArray,O,de _,?_,f,U,?_,?_⟩⟩;·show (w.heap.setIfInBounds b _)[b]? = _;simp [lt_of_heap z,lQ]
  ·simp;omega
  ·have ai:o+(fh bn).length<=m*size:=aj;rw [<-v,<-M];apply r3;intro j;have al:d.toList.length=c*size:=by simpa using A
   have ap:m*size<=c*size:=nn _ f;simp only [b8,KV,e_,lr,F0];rw [lU (a:=m*size) aj,lU (a:=o) (b:=d.toList.length) aj,lU (a:=o) (b:=m*size) aj];split
   ·split
    ·split;·rfl
     ·rfl
    ·rw [aU aj]
   ·rename_i S;rw [ao aj,ao aj]
def WL.Ty {f:jU} {args:bE dF} {ts:bE b_}    {xs:I aT} (A:eE ops l g) (B:eB d n=ac) (C:Enters P f) (D:hF l args.toList=aa dC) (hC:∀w,Ws w0 F L Vs w->cr P f dC.toArray w λs i=>∃v,s = ax v/\Ext w i/\i.ownsRow w.heap.size bs ae v aH xs) (E:∀v,(v = aC ak 0 0/\aH=0\/∃b c,v = aC (aa ⟨b,0,ak⟩) aH c/\aH<=c/\c<=maxLen)->WL P ops Q n ds ((d,v)::l) (Ws w0 F (eK bs ae v aH xs::L) Vs) rest) : WL P ops Q n ds l (Ws w0 F L Vs)<|⟨aa d,.call ⟨.value<|.func f,args,ts⟩,ty,pos,af,g⟩::rest:=by
 refine WL.step A λa w t y T G=>?_;have H:=Do (P:=P) (dst:=aa d) (ts:=ts) (ty:=ty) (pos:=pos) (af:=af) (g:=g) (w:=w) C (λx u o=>t.eval o) D;simp only [jB,H,ay.upon_enter];refine (hC w y).mono λs i J=>?_;obtain ⟨v,rfl,o,p⟩:=J;have K:i.ownsRow 0 bs ae v aH xs:=by
  obtain ⟨z,e⟩:=p;rcases e with e | ⟨j,cap,q,hv,_,r⟩;·exact ⟨z,bA e⟩
  ·exact ⟨z,bl ⟨j,cap,q,hv,de _,r⟩⟩
 refine G _ _<|E v ?_ _ _ (t.put B _) ?_
 ·obtain ⟨_,e⟩:=p;rcases e with ⟨e,M⟩ | ⟨j,cap,q,hv,_,_,N,O,_⟩;·exact bA ⟨e,M⟩
  ·exact bl ⟨j,cap,hv,N,O⟩
 ·have:=Ws.w3 (L:=[]) (L':=[eK bs ae v aH xs]) (L2:=L) (by simpa using y) (by simpa using o) (by intro R h;simp at h;subst h;exact K) (by cases hv:v.ownBlock<;>simp [eK,hv]) (by
   intro R h k m;simp at h;subst h;simp only [eK,KS] at m;obtain ⟨_,e⟩:=p;rcases e with ⟨e,_⟩ | ⟨j,cap,q,hv,S,_⟩;·subst e;simp [lq] at m
   ·subst hv;simp [lq] at m;subst m;exact bl S);simpa using this
def WL.yM {b m cap:Z} {a:bE aT}  {size:Z} (i:Z) (hL:L[i]? = aa (aJ b<|aM a bs (0,0))) (c:m<=cap) (d:cap<=maxLen) (e:a.size=cap*size) (h:WL P ops Q n ds l (Ws w0 F (L.set i<|eK bs size (aC (aa ⟨b,0,ak⟩) m cap) m<|a.toList.take<|m*size) Vs) rest):WL P ops Q n ds l (Ws w0 F L Vs) rest:= LW (λ_ f=>f.Hl i hL c d e) h
def Ws.Tz {c w:aL} {L:I bc} {Vs:I View} (h:Ws c [] L Vs w) (i:Z)     (hL:L[i]? = aa (eK bs ae bn aH dC)):w.ownsRow c.heap.size bs ae bn aH dC:=by
 obtain ⟨e,a⟩:=(h.kn _<|bu hL:w.ownsRow 0 bs ae bn aH dC);refine ⟨e,?_⟩;rcases a with a | ⟨b,cap,f,rfl,_,r⟩;·exact bA a
 ·have d:=h.own _ (bu hL) b (by simp [eK,lq]);simp at d;exact bl ⟨b,cap,f,O,d,r⟩
end
section
variable {P:aV} {l:I<|Z×aT} {W:aL->Prop} {d:az Tmp} {ty:b_} {pos:bg} {af:bE fw} {g:az<|Z×aQ}
def Du {t u:TypeId} {x:Operand} {a:Option Addr} {m c s:Nat} (b:g1 P t=some s) (i:b5 l x=some (.slice a m c)):Yl P l W ⟨d,.binOp .eql t x (.const<|.slice none 0 0) u,ty,pos,af,g⟩<|.bool a.isNone:=by
 intro j w h _;unfold g1 at b;cases f:P.underlying t with
 | none=>simp [f] at b
 | some k=>
  cases k<;>simp [f] at b;have n:j (.const<|.slice none 0 0) = .slice none 0 0:=h _ _ rfl;rename_i o;have e:(binOp .eql t (.slice a m c)<|.slice none 0 0).run P w = .ok (.bool a.isNone) w:=by simp only [binOp];simp [Op.equal,Op.maxDepth,Lib.run_equalIn_slice_nil w 9999 t o a m c 0 0 f]
  simp only [execOp,h x _ i,n,eqGuard,Sem.run_bind];simp [e]
end
section
variable {P:aV} {ops:bE ay} {Q:aO->aN->aL->Prop} {n:Z} {ds:I e'} {l l':I<|Z×aT} {W:aL->Prop} {w0:aL} {F:I Z} {L:I bc} {Vs:I View} {rest:I ay} {d:Z} {ty:b_} {pos:bg} {af:bE fw} {g:az<|Z×aQ}
variable {m5:bc}
def Lf (i:Z) (hL:L[i]? = aa m5) (h:WL P ops Q n ds l (Ws w0 F (m5::fR i L) Vs) rest):WL P ops Q n ds l (Ws w0 F L Vs) rest:= LW (λ_ a=>a.perm<|oP i L hL) h
def WC.front {c:Code}  (i:Z) (hL:L[i]? = aa m5) (h:WC P c Q n ds l<|Ws w0 F (m5::fR i L) Vs):WC P c Q n ds l<|Ws w0 F L Vs:= oO (λ_ a=>a.perm<|oP i L hL) h
def Ws.self {w:aL} {c L2:I bc} (h:Ws w0 F (c++L2) Vs w):Ws w (c.flatMap bc.ids) c Vs w:=by have nd:=h.nd;rw [At,lJ] at nd;exact ⟨Fr.refl _ _,λa b=>h.kn a (by simp [b]),nd.1,λa b k d=>bA<|m3.2 ⟨a,b,d⟩,h.vs,λH e a b=>h.off H e a (by simp [b])⟩
def Ws.back {w a:aL} {b c L2:I bc} {cB:I View} (h:Ws w0 F (b++L2) Vs w) (g:Ws w (b.flatMap bc.ids) c cB a):Ws w0 F (c++L2) Vs a:= Ws.w3 h g.fr g.kn g.nd g.own
variable {ef:jU} {f':bE dF} {iD:bE b_}
def Lw {ι:Type}     (c L2:I bc) (k:eE ops l g) (m:eB d n=ac) (o:Enters P ef) (p:hF l f'.toList=aa dC) (hL:L=c++L2) (v:ι->aT) (j:ι->I bc) (R:ι->Prop) (cB:I View) (q:∀H ∈ cB,H ∈ Vs) (hC:∀w,Ws w (c.flatMap bc.ids) c cB w->cr P ef dC.toArray w λe f=>∃i,e = ax (v i)/\R i/\Ws w (c.flatMap bc.ids) (j i) cB f) (r:∀i,R i->WL P ops Q n ds ((d,v i)::l) (Ws w0 F (j i++L2) Vs) rest) : WL P ops Q n ds l (Ws w0 F L Vs)<|⟨aa d,.call ⟨.value<|.func ef,f',iD⟩,ty,pos,af,g⟩::rest:=by subst hL;refine WL.call k m o p v (λi f=>R i/\Ws w0 F (j i++L2) Vs f) (λw b=>(hC w<|b.self.dr q).mono λe f ⟨i,s,t,h⟩=>⟨i,s,t,b.back h⟩) λi=>?_;intro a w u b;exact r i b.1 a w u b.2
def tf (a L2 b:I bc) (f:eE ops l g) (h:eB d n=ac) (i:Enters P ef) (j:hF l f'.toList=aa dC) (hL:L=a++L2) (cB:I View) (k:∀H ∈ cB,H ∈ Vs) (hC:∀w,Ws w (a.flatMap bc.ids) a cB w->cr P ef dC.toArray w λe c=>e = ax (cN #[])/\Ws w (a.flatMap bc.ids) b cB c) (m:WL P ops Q n ds ((d,cN #[])::l) (Ws w0 F (b++L2) Vs) rest) : WL P ops Q n ds l (Ws w0 F L Vs)<|⟨aa d,.call ⟨.value<|.func ef,f',iD⟩,ty,pos,af,g⟩::rest:= Lw (ι:=dT) a L2 f h i j hL (λ_=>cN #[]) (λ_=>b) (λ_=>True) cB k (λw o=>(hC w o).mono λe c ⟨p,q⟩=>⟨(),p,trivial,q⟩)<|λ_ _=>m
end
def hv (w:aL):View:=λb=>w.heap[b]?
def b9 (w:aL):Le (hv w) w:=λ_ _ h=>h
def AR (h:cb.heap[ae]? = aa eT) (a:jV eT aH=aa bn):vc (hv cb) ae aH=aa bn:=by simp [vc,hv,h,a]
def n5 (h:Le bt cb):cV bt<|hv cb:=λb o a=>h b o a
def Ws.i_ (h:Ws cb cJ di en eJ) (i:Z)   (hL:di[i]? = aa (aJ ae eT))   (a:jV eT aH=aa bn):vc (hv eJ) ae aH=aa bn:= AR (h.kn _<|bu hL) a
def Ws.TA (h:Ws cb cJ di en eJ) (i:Z)  {size m c b:Z}  (hL:di[i]? = aa (eK bs size (aC (aa ⟨b,0,ak⟩) m c) m dC))   (a:dC[ae]? = aa bn):vc (hv eJ) b ae=aa bn:=by
 obtain ⟨f,d,e,_⟩:=AO<|h.kn _<|bu hL;refine AR d ?_;rw [<-e,b8] at a;split at a;·exact a
 ·cases a
section
variable {P:aV} {ops:bE ay} {Q:aO->aN->aL->Prop} {n:Z} {ds:I e'} {l l':I<|Z×aT} {W:aL->Prop} {w0:aL} {F:I Z} {L:I bc} {Vs:I View} {rest:I ay}
def dK {b:Z} {a:Obj} (i:Z) (d:Obj) (hL:L[i]? = aa (aJ b a)) (c:a=d) (h:WL P ops Q n ds l (Ws w0 F (L.set i<|aJ b d) Vs) rest):WL P ops Q n ds l (Ws w0 F L Vs) rest:=by
 subst c;have:L.set i (aJ b a)=L:=by obtain ⟨hi,c⟩:=c_.1 hL;rw [<-c];exact Ax hi
 rwa [this] at h
end
def TB (v:aT) (hv:v.cells = #[v]) (k:Z):madeCells v.cells (((k:Z):ab).toNat*1)=(gI k v).toArray:=by rw [m4];exact Ls v hv k
def Ws.TC (h:Ws cb [] di en eJ) (i:Z) {b:Z} {f:bW->aT}   (hL:di[i]? = aa (aJ b<|aM (cg.map f).toArray bs (0,0))) (c:∀H b o x,vc H b o=aa (f x)->dn H b o x) {a:I bW}  (d:a.length<=ae) (e:ae<=9223372036854775807) (g:∀(j:Z) (x:bW),a[j]? = aa x->cg[j]? = aa x):Sl dn 1 (nv cb eJ) (aa ⟨b,0,ak⟩) ae a:= ⟨d,e,aG,λj x k=>⟨b,0,rfl,c _ _ _ _<|h.GJ i hL (by simp [jV,g j x k])⟩⟩
section
variable {P:aV} {l:I<|Z×aT} {W:aL->Prop} {d:az Tmp} {ty:b_} {pos:bg} {af:bE fw} {g:az<|Z×aQ}
variable {eM:b_} {bC aE:dF} {fd:IntKind} {aP cp:ab}
def H5 (b:b5 l bC=aa (an fd aP)) (c:b5 l aE=aa (an fd cp)) (e:cp≠0):Yl P l W ⟨d,.binOp .quo bs bC aE eM,ty,pos,af,g⟩<|an fd<|fd.wrap<|aP.tdiv cp:= λf w a _=>by simp [execOp,a bC _ b,a aE _ c,eqGuard,binOp,Op.intDiv,e]
def LB (b:b5 l bC=aa (an fd aP)) (c:b5 l aE=aa (an fd cp)) (e:cp≠0):Yl P l W ⟨d,.binOp .rem bs bC aE eM,ty,pos,af,g⟩<|an fd<|aP.tmod cp:= λf w a _=>by simp [execOp,a bC _ b,a aE _ c,eqGuard,binOp,Op.intDiv,e]
end
def Sl.flat {b o c:Z}   (h:Sl dn ae bt (aa ⟨b,o,ak⟩) c cg) (a:∀x,(dN x).length=ae) (m:0<ae) (n:∀b o x,dn bt b o x->ct bt b o (dN x)) : ∀j u,(cg.flatMap dN)[j]? = aa u->vc bt b (o+j)=aa u:=by
 intro j u d;have f:=(c_.1 d).1;rw [hS a] at f;have hi:j / ae<cg.length:=Z.div_lt_of_lt_mul (by rw [Z.mul_comm];exact f);have g:cg[j / ae]? = aa cg[j / ae]:=dh hi;have p:j % ae<ae:=Ge _ m;have e:j / ae*ae+j % ae=j:=by rw [Z.mul_comm];exact Z.div_add_mod j ae
 have i:=oR a g p;rw [e,d] at i;obtain ⟨r,s,k,q⟩:=h.b7 _ _ g;simp at k;obtain ⟨rfl,rfl⟩:=k;have l:=n _ _ _ q (j % ae) u i.symm;rw [uf,e] at l;exact l
def TD (w:aL) (base:Z) (e:b_) (size:Z):w.ownsRow base e size (aC ak 0 0) 0 []:=aL.ownsRow_nil _ _ _ _
def ut:I ay->Z->Z->I Z| [],_,_=>[]| o::r,i,m=>bif !m.testBit i&&o.after.toList.all (λe=>!Region.binds .any e||m.testBit e.on) then i::ut r (i+1) m else ut r (i+1) m
def Dv (a:ay) (ops:bE ay) (i:Z):I ay->Z->Z->aQ| [],_,_=>ac| o::r,j,m=>(j==i||m.testBit j||(o.after.toList.any (λe=>qP .any e&&e.on==i)||a.apart ops o))&&Dv a ops i r (j+1) m
def LC (os:I ay) (i m:Z):aQ:=match os[i]? with| ak=>au| aa a=>Dv a os.toArray i os 0 m
def vB (os:I ay):I (Z×aQ)->Z->aQ| [],m=>(ut os 0 m).isEmpty| (i,q)::r,m=>(bif q then (ut os 0 m).contains i&&LC os i m else ut os 0 m==[i])&&vB os r (m||| 2 ^ i)
structure LM (n:Z) (listed:bE aQ) (m:Z):Prop where
 size:listed.size=n
 bit:∀j,listed.getD j au=m.testBit j
variable {jE:bE aQ} {aK:Z}
def LM.t (h:LM ae jE aH)  (a:aK<ae):jE.getD aK ac=aH.testBit aK:=by
 rw [<-h.bit aK];have:aK<jE.size:=by rw [h.size];exact a
 simp [bE.getD,this]
def LM.set (h:LM ae jE aH) (hi:aK<ae):LM ae (jE.setIfInBounds aK ac)<|aH||| 2 ^ aK:=by
 refine ⟨by simp [h.size],λj=>?_⟩;rw [Z.testBit_or,Z.testBit_two_pow,<-h.bit j];have b:aK<jE.size:=by rw [h.size];exact hi
 by_cases e:aK=j;·subst e;simp [bE.getD,b]
 ·by_cases a:j<jE.size;·simp [bE.getD,a,e]
  ·simp [bE.getD,a,e]
def LD (ops:bE ay) {a:bE aQ} {m:Z} (h:LM ops.size a m):∀(os:I ay) (i:Z),i+os.length=ops.size->(∀j o,os[j]? = aa o->ops[i+j]? = aa o)->
   ut os i m=((kJ os.length).map (i + ·)).filter λk=>!a.getD k ac&&((ops[k]?).map (·.after.all λe=>!Region.binds .any e||a.getD e.on au)).getD au
 | [],_,_,_=>by simp [ut]
 | o::r,i,b,c=>by
  have d:=c 0 o rfl;rw [vq] at d;have f:=LD ops h r (i+1) (by simp at b;omega) λj g l=>by rw [show i+1+j=i+(j+1) by omega];exact c (j+1) g (by simpa using l)
  have e:(kJ (o::r).length).map (i + ·)=i::(kJ r.length).map (i+1 + ·):=by rw [eL,I.range_succ_eq_map,l_,CV];congr 1;refine Av λk _=>?_;show i+(k+1)=i+1+k;omega
  have n:(!a.getD i ac&&((ops[i]?).map (·.after.all λe=>!Region.binds .any e||a.getD e.on au)).getD au)=(!m.testBit i&&o.after.toList.all (λe=>!Region.binds .any e||m.testBit e.on)):=by rw [h.t (by simp at b;omega),d,eI,px,<-bE.all_toList];congr 2;funext e;rw [h.bit]
  rw [e,I.filter_cons,n,ut,f];cases (!m.testBit i&&o.after.toList.all (λe=>!Region.binds .any e||m.testBit e.on))<;>simp
variable {b6:I ay}
def LF (h:LM b6.toArray.size jE ae):ut b6 0 ae=j7 .any b6.toArray jE:=by rw [LD b6.toArray h b6 0 aG λj o a=>by simpa using a];unfold j7;have:(kJ b6.length).map (0 + ·)=kJ b6.toArray.size:=aG;rw [this]
def LG (ops:bE ay)   {d:ay} (h:LM ops.size jE ae):∀(os:I ay) (k:Z),k+os.length=ops.size->(∀j o,os[j]? = aa o->ops[k+j]? = aa o)->Dv d ops aH os k ae=ac->
   ∀j,k<=j->j<ops.size->(j==aH||jE.getD j ac||match ops[j]? with| aa f=>f.after.any (λe=>qP .any e&&e.on==aH)||d.apart ops f| ak=>ac)=ac
 | [],k,a,_,_,j,l,b=>by simp at a;omega
 | o::r,k,a,g,c,j,l,b=>by
  rw [Dv,eW] at c;by_cases e:k=j;·subst e;have i:=g 0 o rfl;rw [vq] at i;rw [h.t b,i];have:=c.1;simpa using this
  ·exact LG ops h r (k+1) (by simp at a;omega) (λj m n=>by rw [show k+1+j=k+(j+1) by omega];exact g (j+1) m (by simpa using n)) c.2 j aj b
def LH:∀(ord:I<|Z×aQ) (b:bE aQ) (m:Z),LM b6.toArray.size b m->vB b6 ord m=ac->pA .any b6.toArray ord b=ac
 | [],b,m,h,c=>by rw [vB,LF h] at c;exact c
 | (i,q)::r,b,m,h,c=>by
  rw [vB,eW,LF h] at c;obtain ⟨a,g⟩:=c;have hi:i<b6.toArray.size:=by
   have f:i ∈ j7 .any b6.toArray b:=by cases q with| true=>simp only [vu,eW] at a;simpa using a.1| false=>simp only [Da,j8] at a;rw [a];simp
   unfold j7 at f;exact wT.1 (I.mem_filter.1 f).1
  rw [pA,eW];refine ⟨?_,LH r _ _ (h.set hi) g⟩;cases q with| false=>exact a| true=>simp only [vu,eW] at a ⊢;refine ⟨a.1,?_⟩;have d:=a.2;unfold LC at d;have k:b6[i]? = aa b6[i]:=dh (by simpa using hi);rw [k] at d;unfold Region.free;rw [show b6.toArray[i]? = aa b6[i] by simp];simp only [gw,wT];exact λj e=>LG b6.toArray h b6 0 aG (λj o e=>by simpa using e) d j (de _) e
def TE (n:Z):LM n (uc n au) 0:=⟨aG,λj=>by simp [bE.getD]⟩
def Bq {ord:I<|Z×aQ} (h:(p9 b6.toArray&&(ord.length==b6.toArray.size&&vB b6 ord 0))=ac):(p9 b6.toArray&&(ord.length==b6.toArray.size&&pA .any b6.toArray ord (uc b6.toArray.size au)))=ac:=by simp only [eW] at h ⊢;exact ⟨h.1,h.2.1,LH ord _ 0 (TE _) h.2.2⟩
section
variable {P:aV} {Q:aO->aN->aL->Prop} {n:Z} {ds:I e'} {l:I<|Z×aT}
def WC.n6 (ord:I<|Z×aQ) (b:P.follows .mixedOrders=ac) (e:(p9 b6.toArray&&(ord.length==b6.toArray.size&&vB b6 ord 0))=ac) (f:∀c a w d v,Q (.panic c) (a.put d v) w->Q (.panic c) a w) (h:WD P b6.toArray (Ws cb cJ di en) Q n ds l (Ws cb cJ di en) ord):WC P (.region ae b6.toArray ac) Q n ds l<|Ws cb cJ di en:= WC.HZ _ ord b (Bq e) f (λ_ h=>h.drew) h
def WC.m6 (i:Z) (ord:I<|Z×aQ) (b:P.follows .mixedOrders=ac) (e:(p9 b6.toArray&&(ord.length==b6.toArray.size&&vB b6 ord 0))=ac) (f:∀c a w d v,Q (.panic c) (a.put d v) w->Q (.panic c) a w) (h:WD P b6.toArray (Ws cb cJ (fR i di) en) Q n ds l (Ws cb cJ di en) ord):WC P (.region ae b6.toArray ac) Q n ds l<|Ws cb cJ di en:= WC.HZ _ ord b (Bq e) f (λ_ h=>h.drew) h
end
section
variable {P:aV} {l:I<|Z×aT} {W:aL->Prop} {d:az Tmp} {ty:b_} {pos:bg} {af:bE fw} {g:az<|Z×aQ}
variable {eM:b_} {bC aE:dF} {aP cp:ab}
def n7 {a b:Z}  (c:b5 l bC=aa (an am aP)) (e:b5 l aE=aa (an am cp)) (f:aP=(a:ab)) (h:cp=(b:ab)) (i:(a:ab)+b<=9223372036854775807):Yl P l W ⟨d,.binOp .add bs bC aE eM,ty,pos,af,g⟩<|an am ((a+b:Z):ab):=by subst f h;have:=oQ (P:=P) (W:=W) (d:=d) (ty:=ty) (pos:=pos) (af:=af) (g:=g) (t:=bs) (u:=eM) c e ⟨aj,i⟩;rwa [show ((a+b:Z):ab)=(a:ab)+b by omega]
def LI {a b:Z}  (c:b5 l bC=aa (an am aP)) (e:b5 l aE=aa (an am cp)) (f:aP=(a:ab)) (h:cp=(b:ab)) (i:b<=a) (j:(a:ab)<=9223372036854775807):Yl P l W ⟨d,.binOp .sub bs bC aE eM,ty,pos,af,g⟩<|an am ((a-b:Z):ab):=by subst f h;have:=yF (P:=P) (W:=W) (d:=d) (ty:=ty) (pos:=pos) (af:=af) (g:=g) (t:=bs) (u:=eM) c e ⟨aj,aj⟩;rwa [show ((a-b:Z):ab)=(a:ab)-b by omega]
def vC {f:jU} {a:bE dF} {vs:I aT} (b:hF l a.toList=aa vs):Yl P l W ⟨d,.makeFunc (.func f) #[] a,ty,pos,af,g⟩<|.func (.func f) #[] vs.toArray:=by
 intro c w h _;have e:a.map c=vs.toArray:=by apply vr;simpa using Dn h _ _ b
 simp [execOp,Instr.makeFunc,e]
end
section
variable {P:aV} {ops:bE ay} {Q:aO->aN->aL->Prop} {n:Z} {ds:I e'} {l:I<|Z×aT} {w0:aL} {F:I Z} {L:I bc} {Vs:I View} {rest:I ay}
def WL.AS {e:b_} {size m:Z} {v:aT} {xs:I aT} (i m':Z) (a:I aT) (hL:L[i]? = aa (eK e size v m xs)) (b:m=m') (c:xs=a) (h:WL P ops Q n ds l (Ws w0 F (L.set i<|eK e size v m' a) Vs) rest):WL P ops Q n ds l (Ws w0 F L Vs) rest:=by
 subst b c;have:L.set i (eK e size v m xs)=L:=by obtain ⟨hi,d⟩:=c_.1 hL;rw [<-d];exact Ax hi
 rwa [this] at h
end
def Ws.ej {L L':I bc}  (h:Ws cb cJ (L++L') en eJ):Ws cb cJ L en eJ:=Ws.drop<|h.perm I.perm_append_comm
def Dw (l:I a7):(ByteArray.mk l.toArray).size=l.length:=by show l.toArray.size=_;simp
section
variable {P:aV} {l:I<|Z×aT} {W:aL->Prop} {w0:aL} {F:I Z} {L:I bc} {Vs:I View} {d:az Tmp} {ty:b_} {pos:bg} {af:bE fw} {g:az<|Z×aQ}
def Ca {s t:TypeId} {b k a:IntKind} {x:Operand} {n:Int} (c:P.underlying s=some (.int b)) (e:P.underlying t=some (.int a)) (f:b5 l x=some (.int k n)):Yl P l W ⟨d,.convert s t x,ty,pos,af,g⟩<|.int a<|a.wrap n:=by intro i w h _;simp [execOp,h x _ f,convert,run_underlying c,run_underlying e,Conv.intToInt]
end
def TF (h:Ws cb cJ di en eJ) (i:Z)  {c:bE aT}  {a:Z×Z} (hL:di[i]? = aa (aJ ae<|aM c bs a)) {k:Z}  (b:c.toList[k]? = aa bn):eJ.cell? ((⟨ae,0,ak⟩:a0).add k)=aa bn:=by rw [qS];exact cell_of_heap (h.kn _<|bu hL) (by simpa [jV] using b)
def bv (b:Z) (a:Obj):View:=λk=>if k=b then aa a else ak
def Ws.w6 (h:Ws cb cJ di en eJ) (i:Z)   (hL:di[i]? = aa (aJ ae eT)):Ws cb cJ (fR i di) (bv ae eT::en) eJ:=by
 have d:=h.perm<|oP i di hL;have c:Ws cb cJ (fR i di) en eJ:=Ws.drop (L:=[aJ ae eT]) d;have j:eJ.heap[ae]? = aa eT:=h.kn _<|bu hL;have nd:=d.nd;rw [jm,lJ] at nd;refine ⟨c.fr,c.kn,c.nd,c.own,?_,?_⟩
 ·intro H b;rcases eZ.1 b with rfl | b
  ·intro k o a;unfold bv at a;split at a;·rename_i e;subst e;injection a with a;subst a;exact j
   ·cases a
  ·exact c.vs H b
 ·intro H b f g k a;rcases eZ.1 b with rfl | b;·unfold bv;rw [ao];intro e;subst e;exact nd.2.2 k (by simp [aJ]) k (m3.2 ⟨f,g,a⟩) O
  ·exact c.off H b f g k a
section
variable {P:aV} {ops:bE ay} {Q:aO->aN->aL->Prop} {n:Z} {ds:I e'} {l:I<|Z×aT} {w0:aL} {F:I Z} {L:I bc} {Vs:I View} {rest:I ay}
def WL.w6 {b:Z} {a:Obj} (i:Z) (hL:L[i]? = aa (aJ b a)) (h:WL P ops Q n ds l (Ws w0 F (fR i L)<|bv b a::Vs) rest):WL P ops Q n ds l (Ws w0 F L Vs) rest:= LW (λ_ c=>c.w6 i hL) h
end
section
variable {P:aV} {l:I<|Z×aT} {W:aL->Prop} {d:az Tmp} {ty:b_} {pos:bg} {af:bE fw} {g:az<|Z×aQ}
variable {eM:b_} {bC aE:dF} {aP cp:ab}
def Dx (v:ab) (a:b5 l bC=aa (an am aP)) (b:b5 l aE=aa (an am cp)) (c:aP+cp=v) (e : -9223372036854775808<=v/\v<=9223372036854775807):Yl P l W ⟨d,.binOp .add bs bC aE eM,ty,pos,af,g⟩<|an am v:=by subst c;exact oQ a b e
def m7 (v:ab) (a:b5 l bC=aa (an am aP)) (b:b5 l aE=aa (an am cp)) (c:aP-cp=v) (e : -9223372036854775808<=v/\v<=9223372036854775807):Yl P l W ⟨d,.binOp .sub bs bC aE eM,ty,pos,af,g⟩<|an am v:=by subst c;exact yF a b e
end
def Dy (size:Z):Z->I (Z×aT)->aQ| _,[]=>ac| k,(i,v)::r=>ik i k&&ik (fh v).length size&&Dy size (k+1) r
def yN:I (Z×aT)->I aT| []=>[]| (_,v)::r=>fh v++yN r
def LJ (size:Z):∀(vs:I<|Z×aT) (k:Z) (done rest:I aT),Dy size k vs=ac->done.length=k*size->rest.length=vs.length*size-> ta (λi=>aa (i*size,size)) (done++rest) vs=aa (done++yN vs)
 | [],k,done,rest,_,_,a=>by have:rest=[]:=r5 (by simpa using a);simp [ta,yN,this]
 | (i,v)::r,k,done,rest,e,c,a=>by
  simp only [Dy,eW] at e;obtain ⟨⟨d,b⟩,f⟩:=e;have d:=nX d;subst d;have b:=nX b;have l:size<=rest.length:=by rw [a,eL,vt];omega
  have g:(ik (fh v).length size&&Z.ble (i*size+size) (done++rest).length)=ac:=by rw [b,Ar,wU];exact CT (by simp;omega)
  simp only [ta,g,vu];have h:(done++rest).take (i*size)=done:=by rw [<-c];simp
  have j:(done++rest).drop (i*size+size)=rest.drop size:=by rw [ym,c,KU aj];simp
  rw [h,j];have:=LJ size r (i+1) (done++fh v) (rest.drop size) f (by simp [c,b,vt]) (by simp [a,vt]);rw [this];simp [yN]
def TG (a:aT) (k:Z):(vA a k).length=k:=by simp [vA]
section
variable {P:aV} {ops:bE ay} {Q:aO->aN->aL->Prop} {n:Z} {ds:I e'} {l:I<|Z×aT} {w0:aL} {F:I Z} {L:I bc} {Vs:I View} {rest:I ay} {d:Z} {ty:b_} {pos:bg} {af:bE fw} {g:az<|Z×aQ}
def Lb {t e:b_} {len size c:Z} {parts:I<|Z×dF} {a:aT} {vs:I<|Z×aT} (f:eE ops l g) (i:eB d n=ac) (j:hW P t e a size c) (hv:uo l parts=aa vs) (k:Z.ble (len*size) 16777216=ac) (m:Dy size 0 vs=ac) (o:vs.length=len) (h:∀b,WL P ops Q n ds ((d,aC (aa ⟨b,0,ak⟩) len len)::l) (Ws w0 F (aJ b (aM (yN vs).toArray e (0,0))::L) Vs) rest) : WL P ops Q n ds l (Ws w0 F L Vs)<|⟨aa d,.buildSlice t len parts.toArray,ty,pos,af,g⟩::rest:=by
 refine WL.AQ f i j hv k (out:=yN vs) ?_ h;have p:(bif ik (len*size) 0 then [] else vA a (len*size))=vA a (len*size):=by cases q:ik (len*size) 0 with| false=>rfl| true=>have:=nX q;rw [this];rfl
 rw [p];have:=LJ size vs 0 [] (vA a<|len*size) m aG (by rw [TG,o]);simpa using this
end
inductive Ord where
 | nil
 | stop
 | q (i:Nat) (r:Ord)
 | e (i:Nat) (r alt:Ord)
def Ord.alts:Ord->I Z| .e i _ a=>i::a.alts| _=>[]
section
variable {P:aV} {md:p8} {ops:bE ay} {C:aL->Prop} {Q:aO->aN->aL->Prop}
def AT (P:aV) (ops:bE ay) (C:aL->Prop) (Q:aO->aN->aL->Prop):Ord->aN->aL->Prop| .nil,a,w=>C w/\Q .normal a w| .stop,_,_=>True| .q i r,a,w=>C w/\∃o v,ops[i]? = aa o/\YV P ops C o v a/\AT P ops C Q r (a.put o.dst v) w| .e i r alt,a,w=>C w/\(wpOp P ops Q i (AT P ops C Q r) a w/\AT P ops C Q alt a w)
variable {n:Z} {ds:I e'} {l:I<|Z×aT} {W:aL->Prop}
def WT (P:aV) (ops:bE ay) (C:aL->Prop) (Q:aO->aN->aL->Prop) (n:Z) (ds:I e') (l:I<|Z×aT) (W:aL->Prop) (ord:Ord):Prop:= ∀a w,Ag n ds l a->W w->AT P ops C Q ord a w
def WT.q {r:Ord} {i d:Z} {op:Op} {ty:b_} {pos:bg} {af:bE fw} {g:az<|Z×aQ} {v:aT} (hi:ops[i]? = aa ⟨aa d,op,ty,pos,af,g⟩) (e:eE ops l g) (f:eB d n=ac) (hC:∀w,W w->C w) (j:Yl P l C ⟨aa d,op,ty,pos,af,g⟩ v) (h:WT P ops C Q n ds ((d,v)::l) W r):WT P ops C Q n ds l W<|.q i r:=by intro a w b c;refine ⟨hC w c,_,v,hi,bA ⟨eE.wanted (o:=⟨aa d,op,ty,pos,af,g⟩) e b,λk m=>j a.eval k (λx u p=>b.eval p) m⟩,h _ _ (b.put f v) c⟩
def WT.e {r g:Ord} {i:Z} {o:ay} (hi:ops[i]? = aa o) (hC:∀w,W w->C w) (h:WL P ops (aO.then (AT P ops C Q r) Q) n ds l W [o]) (c:WT P ops C Q n ds l W g):WT P ops C Q n ds l W<|.e i r g:=by
 intro a w j d;refine ⟨hC w d,?_,c a w j d⟩;have:=h a w j d;unfold wpList at this;unfold wpOp;simp only [hi];split
 ·rename_i f;rw [aU f] at this;rcases this with this | ⟨k,a2,m,c⟩;·left;unfold jB at this ⊢;unfold ay.upon at this ⊢;split at this;all_goals first|exact this|(refine this.mono λe p b=>?_;cases e with| returned v=>exact b| panicked t=>exact b| outgrown=>obtain ⟨a3,q,s⟩:=b;exact ⟨a3,q,s⟩)|exact this.mono λv p b=>b
  ·exact bl ⟨k,a2,m,c⟩
 ·rename_i f;rw [ao f] at this;exact this
def WT.stop:WT P ops C Q n ds l W .stop:=λ_ _ _ _=>trivial
def WT.nil (hC:∀w,W w->C w) (h:WE Q .normal n ds l W):WT P ops C Q n ds l W .nil:=λa w c b=>⟨hC w b,h a w c b⟩
end
abbrev qf:=I a7×aT×Z
def oS (e:qf):MapEntry:={ key:=st e.1,val:=e.2.1,born:=e.2.2 }
def qV (m:I qf) (c:Z):Obj:=.map (m.map oS).toArray c
def qg (k:I a7):I qf->Z->az (Z×aT)| [],_=>ak| e::r,i=>if (k==e.1)=ac then aa (i,e.2.1) else qg k r (i+1)
def yO (k:I a7) (v:aT) (m:I qf) (c:Z):I qf:=match qg k m 0 with| aa (i,_)=>m.modify i λe=>(k,v,e.2.2)| ak=>m++[(k,v,c)]
def yP (k:I a7) (m:I qf) (c:Z):Z:=match qg k m 0 with| aa _=>c| ak=>c+1
def AU (k:I a7) (m:I qf) (a:aT):aT:=match qg k m 0 with| aa (_,v)=>v| ak=>a
def CL (a b:I a7):(ByteArray.mk a.toArray==ByteArray.mk b.toArray)=(a==b):=by show (a.toArray==b.toArray)=_;simp
def TH (m:I qf) (j:Z) (k:I a7) (v:aT):(m.map oS).modify j (λe=>{ e with key:=st k,val:=v })=(m.modify j λe=>(k,v,e.2.2)).map oS:=by apply r3;intro i;simp only [yt,gh];cases m[i]? with| none=>simp| some e=>by_cases h:j=i<;>simp [h,oS]
def DC (k:I a7):∀(m:I qf) (i:Z),Instr.findNow .string (st k) (m.map oS) i=aa (qg k m i)
 | [],_=>rfl
 | e::r,i=>by
  simp only [l_,Instr.findNow,oS,st,Instr.sameNow,CL,qg];cases h:(k==e.1);·simp only [dP,dq];exact DC k r<|i+1
  ·simp
section
variable {P:aV} {ops:bE ay} {Q:aO->aN->aL->Prop} {n:Z} {ds:I e'} {l:I<|Z×aT} {w0:aL} {F:I Z} {L:I bc} {Vs:I View} {rest:I ay} {d:Z} {ty:b_} {pos:bg} {af:bE fw} {g:az<|Z×aQ}
def WL.TI (a:eE ops l g) (c:eB d n=ac) (h:∀b,WL P ops Q n ds ((d,.map<|aa b)::l) (Ws w0 F (aJ b (qV [] 0)::L) Vs) rest) : WL P ops Q n ds l (Ws w0 F L Vs)<|⟨aa d,.makeMap bs ak,ty,pos,af,g⟩::rest:= WL.new (mk:=λb=>.map<|aa b) (o:=qV [] 0) a c (λe w _ _=>by simp only [execOp];simp [Instr.makeMap,qV]) h
variable {j':az Tmp} {eM oT:b_} {ti:I qf} {be:I a7}
def TJ {x y:dF}     (i:Z) (c:P.underlying bs=aa (.map eM oT)) (a:P.underlying eM=aa .string) (d:zeroOf P oT=aa bn) (e:b5 l x=aa (.map<|aa ae)) (f:b5 l y=aa (st be)) (hL:L[i]? = aa (aJ ae<|qV ti aH)) : Yl P l (Ws w0 F L Vs) ⟨j',.lookup bs x y au,ty,pos,af,g⟩<|AU be ti bn:=by
 intro p w b h;have j:w.heap[ae]? = aa (.map (ti.map oS).toArray aH):=h.kn _<|bu hL;have m:=DC be ti 0;have n:(Instr.checkKey (ti.map oS).toArray.isEmpty 10000 eM<|st be).run P w = .ok () w:=MapKept.run_checkKey (k:=st be) a (by simp [MapKept.IsKey,st]) _ 9999;have o:(Instr.lookup bs (.map<|aa ae) (st be) au).run P w = .ok (AU be ti bn) w:=by simp only [Instr.lookup,iN,run_underlying c,ie,MapKept.run_getObj_map j,kK,n];rw [MapKept.run_findKey a (by simpa using m)];unfold AU;cases q:qg be ti 0 with| none=>simp [ie,w4 d]| some r=>obtain ⟨i,v⟩:=r;simp [ie]
 simp [execOp,b x _ e,b y _ f,o]
def Dz {x:dF}   (i:Z) (a:P.underlying bs=aa (.map eM oT)) (b:b5 l x=aa (.map<|aa ae)) (hL:L[i]? = aa (aJ ae<|qV ti aH)) : Yl P l (Ws w0 F L Vs) ⟨j',.call ⟨.builtin .len,#[x],#[bs]⟩,ty,pos,af,g⟩<|an am (ti.length:ab):=by intro f w c d;have e:w.heap[ae]? = aa (.map (ti.map oS).toArray aH):=d.kn _<|bu hL;simp [execOp,resolve,invoke,builtin,c x _ b,Builtin.len_,run_underlying a,MapKept.run_getObj_map e,goInt]
def WL.TK {t o e:b_} {x y u:dF}  {m:I qf}   (i:Z) (A:eE ops l g) (B:P.underlying t=aa (.map o e)) (c:P.underlying o=aa .string) (C:b5 l x=aa (.map<|aa ae)) (D:b5 l y=aa (st be)) (E:b5 l u=aa bn) (hL:L[i]? = aa (aJ ae<|qV m aH)) (h:WL P ops Q n ds l (Ws w0 F (L.set i<|aJ ae<|qV (yO be bn m aH)<|yP be m aH) Vs) rest) : WL P ops Q n ds l (Ws w0 F L Vs)<|⟨ak,.mapUpdate t x y u,ty,pos,af,g⟩::rest:=by
 refine WL.step A λa w d s X G=>?_;have f:w.heap[ae]? = aa (.map (m.map oS).toArray aH):=s.kn _<|bu hL;have H:=DC be m 0;have J:(Instr.checkKey au 10000 o<|st be).run P w = .ok () w:=MapKept.run_checkKey (k:=st be) c (by simp [MapKept.IsKey,st]) _ 9999;have K:(Instr.mapUpdate t (.map<|aa ae) (st be) bn).run P w = .ok () { w with heap:=w.heap.setIfInBounds ae<|qV (yO be bn m aH)<|yP be m aH }:=by
  simp only [Instr.mapUpdate,iN,run_underlying B,ie,MapKept.run_getObj_map f,kK,J];rw [MapKept.run_findKey c (by simpa using H)];unfold yO yP;cases M:qg be m 0 with
  | none=>simp [ie,MapKept.run_setObj_map _ f,qV,oS,st]
  | some r=>
   obtain ⟨j,N⟩:=r;have p:m[j]?.map (·.1)=aa be:=by
    have key:∀(m:I qf) (b:Z),qg be m b=aa (j,N)->b<=j/\(m[j-b]?).map (·.1)=aa be:=by
     intro m;induction m with
     | nil=>intro b h;simp [qg] at h
     | cons e r R=>
      intro b h;simp only [qg] at h;split at h;·rename_i c;injection h with h;injection h with v z;subst v;simp at c;simp [c]
      ·obtain ⟨v,z⟩:=R (b+1) h;refine ⟨aj,?_⟩;have:j-b=(j-(b+1))+1:=aj;rw [this];simpa using z
    simpa using (key m 0 M).2
   have S:((((m.map oS).toArray)[j]?).map (·.key)).getD (st be)=st be:=by cases q:m[j]? with| none=>simp [q]| some e=>rw [q] at p;simp at p;simp [q,oS,p]
   simp only [S,ie];have T:(Instr.keyThatStays (st be)<|st be).run P w = .ok (st be) w:=by simp [Instr.keyThatStays,Instr.sameBits,st,CL]
   simp only [iN,T,ie,MapKept.run_setObj_map _ f,qV];have U:(m.map oS).toArray.modify j (λe=>{ e with key:=st be,val:=bn })=((m.modify j λe=>(be,bn,e.2.2)).map oS).toArray:=by apply vr;rw [KX];exact TH m j be bn
   rw [U]
 have V:(execOp a.eval ⟨ak,.mapUpdate t x y u,ty,pos,af,g⟩).run P w = .ok .skip { w with heap:=w.heap.setIfInBounds ae<|qV (yO be bn m aH)<|yP be m aH }:=by simp only [execOp,d.eval C,d.eval D,d.eval E,iN,K,ie,kK]
 simp only [jB,V,ay.upon_skip];refine G _ _<|h _ _ (d.yz undef) ?_;refine Ws.um s i hL ⟨O,O,O,aG,λj Y W=>?_⟩ ?_ (by simp [aJ]) (by simp [aJ]);·have:ae≠j:=λe=>W (by simp [aJ,e]);simp [ue this]
 ·show (w.heap.setIfInBounds ae _)[ae]? = _;simp [lt_of_heap f]
def WL.LK {e:b_} {size m:Z} {v:aT} {xs:I aT} (i:Z) (hL:L[i]? = aa (eK e size v m xs)) (h:∀a k,v = aC a m k->WL P ops Q n ds l (Ws w0 F L Vs) rest):WL P ops Q n ds l (Ws w0 F L Vs) rest:=by
 intro a w d c;obtain ⟨o,f⟩:=(c.kn _<|bu hL:w.ownsRow 0 e size v m xs);rcases f with ⟨g,j⟩ | ⟨b,cap,p,hv,_⟩;·exact h ak 0 (by rw [g,j]) a w d c
 ·exact h _ _ hv a w d c
end
section
variable {P:aV} {ops:bE ay} {Q:aO->aN->aL->Prop} {n:Z} {ds:I e'} {l:I<|Z×aT} {W:aL->Prop} {w0:aL} {F:I Z} {L:I bc} {Vs:I View} {rest:I ay} {d:Z} {ty:b_} {pos:bg} {af:bE fw} {g:az<|Z×aQ}
variable {ef:jU} {f':bE dF} {iD:bE b_}
def hR {ι κ:Type}     (k L2:I bc) (t:eE ops l g) (u:eB d n=ac) (x:Enters P ef) (y:hF l f'.toList=aa dC) (hL:L=k++L2) (v:ι->aT) (o:ι->I bc) (R:ι->Prop) (p:κ->I nW) (Lp:κ->I bc) (q:κ->Prop) (cB:I View) (z:∀H ∈ cB,H ∈ Vs) (hC:∀w,Ws w (k.flatMap bc.ids) k cB w->cr P ef dC.toArray w λe f=>(∃i,e = ax (v i)/\R i/\Ws w (k.flatMap bc.ids) (o i) cB f)\/(∃j,e = .panicked (p j)/\q j/\Ws w (k.flatMap bc.ids) (Lp j) cB f)) (A:∀j,q j->WE Q (.panic<|p j) n ds l (Ws w0 F (Lp j++L2) Vs)) (B:∀i,R i->WL P ops Q n ds ((d,v i)::l) (Ws w0 F (o i++L2) Vs) rest) : WL P ops Q n ds l (Ws w0 F L Vs)<|⟨aa d,.call ⟨.value<|.func ef,f',iD⟩,ty,pos,af,g⟩::rest:=by
 subst hL;refine WL.AM t u x y v (λi f=>R i/\Ws w0 F (o i++L2) Vs f) (λc f=>∃j,c=p j/\q j/\Ws w0 F (Lp j++L2) Vs f) (λw b=>(hC w<|b.self.dr z).mono λe f h=>?_) (λi=>?_)<|λc=>?_
 ·rcases h with ⟨i,r,m,h⟩ | ⟨j,r,m,h⟩;·exact bA ⟨i,r,m,b.back h⟩
  ·exact bl ⟨_,r,j,O,m,b.back h⟩
 ·intro a w s b;exact B i b.1 a w s b.2
 ·rintro a w s ⟨j,rfl,m,b⟩;exact A j m a w s b
variable {bC:dF}
def WL.TL {ι κ:Type}   {t:bE aT}    (k L2:I bc) (u:eE ops l g) (x:eB d n=ac) (y:Enters P ef) (z:b5 l bC=aa (.func (.func ef) #[] t)) (A:hF l f'.toList=aa dC) (hL:L=k++L2) (v:ι->aT) (o:ι->I bc) (R:ι->Prop) (p:κ->I nW) (Lp:κ->I bc) (q:κ->Prop) (cB:I View) (B:∀H ∈ cB,H ∈ Vs) (hC:∀w,Ws w (k.flatMap bc.ids) k cB w->cr P ef (dC.toArray++t) w λe f=>(∃i,e = ax (v i)/\R i/\Ws w (k.flatMap bc.ids) (o i) cB f)\/(∃j,e = .panicked (p j)/\q j/\Ws w (k.flatMap bc.ids) (Lp j) cB f)) (C:∀j,q j->WE Q (.panic<|p j) n ds l (Ws w0 F (Lp j++L2) Vs)) (D:∀i,R i->WL P ops Q n ds ((d,v i)::l) (Ws w0 F (o i++L2) Vs) rest) : WL P ops Q n ds l (Ws w0 F L Vs)<|⟨aa d,.call ⟨.value bC,f',iD⟩,ty,pos,af,g⟩::rest:=by
 subst hL;refine WL.T5 u x y z A v (λi f=>R i/\Ws w0 F (o i++L2) Vs f) (λc f=>∃j,c=p j/\q j/\Ws w0 F (Lp j++L2) Vs f) (λw b=>(hC w<|b.self.dr B).mono λe f h=>?_) (λi=>?_)<|λc=>?_
 ·rcases h with ⟨i,r,m,h⟩ | ⟨j,r,m,h⟩;·exact bA ⟨i,r,m,b.back h⟩
  ·exact bl ⟨_,r,j,O,m,b.back h⟩
 ·intro a w s b;exact D i b.1 a w s b.2
 ·rintro a w s ⟨j,rfl,m,b⟩;exact C j m a w s b
variable {kr:aL->Prop} {j':az Tmp}
def qW (a:P.concrete bs=ac) (b:b5 l bC=aa bn):Yl P l kr ⟨j',.makeInterface bs bC,ty,pos,af,g⟩<|.iface bs bn:= λd w c _=>by have e:(Instr.makeInterface bs bn).run P w = .ok (.iface bs bn) w:=run_makeInterface (h:=a) ..;simp [execOp,c bC bn b,e]
def WL.panic (c:eE ops l g) (d:b5 l bC=aa (.iface bs bn)) (h:WE Q (.panic [⟨.iface bs bn,au,au⟩]) n ds l W):WL P ops Q n ds l W<|⟨j',.panic bC,ty,pos,af,g⟩::rest:=by
 refine WL.step c λa w b f i j=>?_;have:(execOp a.eval ⟨j',.panic bC,ty,pos,af,g⟩).run P w = .halt (.panic<|.iface bs bn) w:=by have e:(Instr.panic<|.iface bs bn).run P w = .halt (.panic<|.iface bs bn) w:=rfl;simp [execOp,b.eval d,e]
 simp only [jB,this,ay.upon_panic];exact h a w b f
def WL.defer (c:eE ops l g) (d:b5 l bC=aa (.func (.func ef) #[] dC.toArray)) (h:WL P ops Q n (⟨.fn (.func ef) dC.toArray,#[]⟩::ds) l W rest):WL P ops Q n ds l W<|⟨ak,.defer ⟨.value bC,#[],iD⟩,ty,pos,af,g⟩::rest:=by
 refine WL.step c λa w b e i f=>?_;have:(execOp a.eval ⟨ak,.defer ⟨.value bC,#[],iD⟩,ty,pos,af,g⟩).run P w = .ok (.defer ⟨.fn (.func ef) dC.toArray,#[]⟩) w:=by simp [execOp,resolve,b.eval d,e'.ofValue]
 simp only [jB,this,ay.upon_defer];refine f _ _<|h _ _ ⟨b.size,?_,b.jn⟩ e;show _::a.defers=_;rw [b.defs]
variable {bo:Func} {bG:Code} {hp:Ending->aL->Prop}
def DA {w:aL}  (c:P.funcs[ef]? = aa bo) (d:bo.body=aa bG) (m:Z) (e:bo.ntmps=m) (f:Z.ble dC.length m=ac) (h:WC P bG (bodyPostD P bo hp) m [] (wZ 0 dC)<|λg=>g=w):cr P ef dC.toArray w hp:=by
 refine calls_of_wp_defers c d<|h _ _ ?_ O;have i:=r2 f;subst e;refine ⟨by simp;omega,O,λt v hv=>?_⟩;obtain ⟨_,a⟩:=zW dC 0 t v hv;simp only [p_] at a;have b:t<dC.length:=by
  rcases m2 t dC.length with h | h;·exact h
  ·simp [pP h] at a
 simp [kZ,CP,b];simp [dh b] at a;exact a
def Rs (P:aV) (fn:Func) (l:I<|Z×aT) (W:aL->Prop) (v:aT):Prop:=∀(tmps:bE aT) w,(∀t u,lk l t=aa u->tmps.getD t undef=u)->W w->(results fn tmps).run P w = .ok v w
def qX (tmps:bE aT):ResultVar->Sem aT| .tmp t=>pure<|tmps.getD t undef| .cell a t=>do loadVar t (<-asAddr (tmps.getD a undef))
def AV (fn:Func) (tmps:bE aT):results fn tmps=(do let vs <-fn.results.mapM (qX tmps); pure (if h:vs.size=1 then vs[0] else cN vs)):=by
 have e:(λr:ResultVar=>match r with| .tmp t=>(pure<|tmps.getD t undef:Sem aT)| .cell a t=>do loadVar t (<-asAddr (tmps.getD a undef)))=qX tmps:=by funext r;cases r<;>rfl
 rw [<-e];rfl
def uu (P:aV) (l:I<|Z×aT) (W:aL->Prop) (r:ResultVar) (v:aT):Prop:=∀(tmps:bE aT) w,(∀t u,lk l t=aa u->tmps.getD t undef=u)->W w->(qX tmps r).run P w = .ok v w
def ja (h:lk l ae=aa bn):uu P l W (.tmp ae) bn:=λtmps w a _=>by simp only [qX,a ae bn h,kK]
def jb {a b o:Z}    (i:Z) (c:lk l a=aa (b0<|aa ⟨b,o,ak⟩)) (hL:L[i]? = aa (aJ b eT)) (d:jV eT o=aa bn) (e:qR P bs=ac):uu P l (Ws w0 F L Vs) (.cell a bs) bn:=λtmps w h f=>by simp only [qX,h a _ c,asAddr,iN,kK,ie,Lg e<|cell_of_heap (f.kn _<|bu hL) d]
def e1 {a b o k:Z}   (i:Z) (d:lk l a=aa (b0<|aa ⟨b,o,ak⟩)) (hL:L[i]? = aa (aJ b eT)) (e:iC P bs=aa k) (f:(cellsIn eT o k).length=k):uu P l (Ws w0 F L Vs) (.cell a bs)<|bU (cellsIn eT o k).toArray:=λtmps w h g=>by
 have m:(loadVar bs ⟨b,o,ak⟩).run P w = .ok (bU (cellsIn eT o k).toArray) w:=Df e f λj v c=>by
  have n:w.heap[b]? = aa eT:=g.kn _<|bu hL;refine cell_of_heap n ?_;cases eT<;>simp [cellsIn,jV] at *;rw [b8] at c;split at c;·simpa using c
  ·cases c
 simp only [qX,h a _ d,asAddr,iN,kK,ie,m]
def j_ {r:ResultVar}  (a:bo.results = #[r]) (h:uu P l W r bn):Rs P bo l W bn:=λtmps w b c=>by have d:=h tmps w b c;simp [AV,a,yq,wR,Gj,d]
variable {yQ:aT}
def hG {r s:ResultVar}  (c:bo.results = #[r,s]) (h:uu P l W r bn) (d:uu P l W s yQ):Rs P bo l W<|cN #[bn,yQ]:=λtmps w a b=>by have e:=h tmps w a b;have f:=d tmps w a b;simp [AV,c,yq,wR,Gj,e,f]
def w8 {r s u:ResultVar} {v x y:aT} (c:bo.results = #[r,s,u]) (h:uu P l W r v) (d:uu P l W s x) (e:uu P l W u y):Rs P bo l W<|cN #[v,x,y]:=λtmps w a b=>by have f:=h tmps w a b;have g:=d tmps w a b;have i:=e tmps w a b;simp [AV,c,yq,wR,Gj,f,g,i]
def WE.gt (d:Rs P bo l W bn) (h:∀w,W w->hp (ax bn) w):WE (bodyPost P bo hp) .ret n [] l W:= λa w b c=>bodyPost_ret (d a.tmps w b.jn c) b.defs<|h w c
def WE.GR (g:Enters P ef) (hC:∀w,W w->CallsD P ef dC.toArray .returning w λe c b=>e = ax (cN #[])/\c = .returning/\kr b) (i:Rs P bo l kr bn) (h:∀w,kr w->hp (ax bn) w):WE (bodyPostD P bo hp) .ret n [⟨.fn (.func ef) dC.toArray,#[]⟩] l W:=by
 intro a w d j;show Leaves P bo a.tmps hp a.defers .returning w;rw [d.defs];refine ⟨aG,.func ef,dC.toArray,ef,dC.toArray,O,?_,(hC w j).mono λe c b k=>?_⟩;·simp only [invoke];simpa using g dC.toArray w
 ·obtain ⟨rfl,rfl,f⟩:=k;exact ⟨bn,i a.tmps b d.jn f,h b f⟩
def WE.r7 (g:Enters P ef) (hC:∀w,W w->CallsD P ef dC.toArray (.panicking [⟨yQ,au,au⟩]) w λe c b=>e = ax (cN #[])/\c = .panicking [⟨yQ,ac,au⟩]/\kr b) (i:Rs P bo l kr bn) (h:∀w,kr w->hp (ax bn) w):WE (bodyPostD P bo hp) (.panic [⟨yQ,au,au⟩]) n [⟨.fn (.func ef) dC.toArray,#[]⟩] l W:=by
 intro a w d j;show Leaves P bo a.tmps hp a.defers (.panicking [⟨yQ,au,au⟩]) w;rw [d.defs];refine ⟨aG,.func ef,dC.toArray,ef,dC.toArray,O,?_,(hC w j).mono λe c b k=>?_⟩;·simp only [invoke];simpa using g dC.toArray w
 ·obtain ⟨rfl,rfl,f⟩:=k;exact ⟨bn,i a.tmps b d.jn f,h b f⟩
def WE.uv (d:Rs P bo l W bn) (h:∀w,W w->hp (ax bn) w):WE (bodyPostD P bo hp) .ret n [] l W:=by intro a w b c;show Leaves P bo a.tmps hp a.defers .returning w;rw [b.defs];exact ⟨bn,d a.tmps w b.jn c,h w c⟩
def LL (u:FrameMode) (rv:aT) (a:FrameMode):Prop:=(u = .returning/\rv = .nilIface/\a = .returning)\/∃v,u = .panicking [⟨v,au,au⟩]/\rv=v/\a = .panicking [⟨v,ac,au⟩]
variable {eR:ay}
def TM {c:Frame} {cs:I Frame} {a:aN} {w:aL}  {d:FrameMode} {Q:aO->aN->aL->Prop} {i:aO->aN->I Frame->aL->Prop} (p:eR.dst=aa aH) (q:eR.guard=ak) (l:(execOp a.eval eR).run P w = .ok .recover w) (r:LL c.mode bn d) (m:∀e a w,Q e a w->i e a ({ c with mode:=d }::cs) w) (h:wpList P (eR::b6).toArray (aO.then (bG.wp P Q) Q) b6 (a.put (aa aH) bn) w):(Code.seq (.region ae (eR::b6).toArray au) bG).wpS P i a (c::cs) w:=by
 refine wpS_seq ?_;intro b k s F;have n:(eR::b6).toArray[0]? = aa eR:=rfl;have t:m1 eR (yielded (eR::b6).toArray a.tmps)=ac:=by simp [m1,q]
 have u:=stepG_op (P:=P) (b:=b) (k:=k) (cs:=c::cs) (w:=w) (rest:=I.range' 1 b6.length) n t;have x:(b.at a<|.inRegion (eR::b6).toArray (0::I.range' 1 b6.length)::k).kind = .deferred:=s;have g:=tryRecover_deferred x<|c::cs;have y:∀v,(b.at a<|.inRegion (eR::b6).toArray (0::I.range' 1 b6.length)::k).finish v=b.at (a.put (aa aH) v) (.inRegion (eR::b6).toArray (I.range' 1 b6.length)::k):=by intro v;rw [Frame.finish_at,n,<-p];rfl
 have z:step P (lone (b.at a<|.inRegion (eR::b6).toArray (0::I.range' 1 b6.length)::k) (c::cs) w) = .next (lone (b.at (a.put (aa aH) bn)<|.inRegion (eR::b6).toArray (I.range' 1 b6.length)::k) ({ c with mode:=d }::cs) w):=by
  refine step_lone_go ?_;rw [u,<-y];simp only [Frame.at] at g ⊢;rcases r with ⟨f,rfl,rfl⟩ | ⟨v,f,rfl,rfl⟩;·simp [stepG.apply,l,g,recoverD,f];rw [<-f]
  ·simp [stepG.apply,l,g,recoverD,f]
 have A:wpOps P (eR::b6).toArray (aO.then (bG.wp P Q) Q) (I.range' 1 b6.length) (a.put (aa aH) bn) w:=by rw [wpOps_eq_wpList b6 1 (λj=>by simp [Z.add_comm 1 j])];exact h
 obtain ⟨e,B,C,o,D⟩:=wp_ops _ _ _ A b k<|{ c with mode:=d }::cs;have E:step P (lone (b.at a<|.code (.region ae (eR::b6).toArray au)::k) (c::cs) w) = .next (lone (b.at a<|.inRegion (eR::b6).toArray (0::I.range' 1 b6.length)::k) (c::cs) w):=by have:=step_region (P:=P) (b:=b) (a:=a) (k:=k) (cs:=c::cs) (w:=w) (ops:=(eR::b6).toArray) (id:=ae);rw [this];simp [I.range_eq_range',I.range'_succ]
 refine ⟨e,B,_,C,?_,.of_steps (.head E<|.one z) D⟩;cases e with| normal=>exact wpS_of_wp<|wp_mono o λe a w h=>m e a w h| _=>exact m _ _ _ o
def w9 {w:aL}  {u c:FrameMode}  (j:P.funcs[ef]? = aa bo) (k:bo.body=aa (.seq (.region ae (eR::b6).toArray au) bG)) (m:Z) (l:bo.ntmps=m) (n:Z.ble dC.length m=ac) (o:eR.dst=aa aH) (p:eB aH m=ac) (q:eR.guard=ak) (r:∀(s:dF->aT),(execOp s eR).run P w = .ok .recover w) (x:LL u bn c) (h:WL P (eR::b6).toArray (aO.then (bG.wp P<|bodyPost P bo hp)<|bodyPost P bo hp) m [] ((aH,bn)::wZ 0 dC) (λf=>f=w) b6):CallsD P ef dC.toArray u w λe y f=>y=c/\hp e f:=by
 refine callsD_of_wpS j k λB cs z=>?_;refine TM (Q:=bodyPost P bo hp) o q (r _) (by rw [z];exact x) (λe a w b=>?_)<|h _ _ ?_ O;·cases e with| normal=>exact ⟨b.1,c,rfl,b.2.choose,b.2.choose_spec.1,rfl,b.2.choose_spec.2⟩| ret=>exact ⟨b.1,c,rfl,b.2.choose,b.2.choose_spec.1,rfl,b.2.choose_spec.2⟩| panic C=>exact ⟨b.1,c,rfl,rfl,b.2⟩| outgrown=>exact ⟨c,rfl,b⟩| exit i=>exact b| goto i=>exact b
 ·have D:=r2 n;subst l;have A:Ag bo.ntmps [] (wZ 0 dC) { tmps:=dC.toArray++uc (bo.ntmps-dC.toArray.size) undef,defers:=[] }:=by
   refine ⟨by simp;omega,O,λt v hv=>?_⟩;obtain ⟨_,d⟩:=zW dC 0 t v hv;simp only [p_] at d;have g:t<dC.length:=by
    rcases m2 t dC.length with h | h;·exact h
    ·simp [pP h] at d
   simp [kZ,CP,g];simp [dh g] at d;exact d
  exact A.put p bn
def D1 {t u:b_}    (b:P.underlying t=aa (.interface<|P.methodsAt t)) (c:b5 l bC=aa .nilIface):Yl P l kr ⟨j',.binOp .neq t bC (.const .nilIface) u,ty,pos,af,g⟩<|bV au:=by intro d w a _;have e:d (.const .nilIface) = .nilIface:=a _ _ rfl;simp only [execOp,a bC _ c,e,iN];simp [eqGuard_nil_constR,run_neq_nil_nil (h:=b)]
def TN {t u s:b_}     (b:P.underlying t=aa (.interface<|P.methodsAt t)) (c:b5 l bC=aa (.iface s bn)):Yl P l kr ⟨j',.binOp .neq t bC (.const .nilIface) u,ty,pos,af,g⟩<|bV ac:=by
 intro d w a _;have e:d (.const .nilIface) = .nilIface:=a _ _ rfl;have f:(eqGuard .neq t bC (.const .nilIface) (.iface s bn) .nilIface)=pure ():=by cases bC<;>rfl
 simp only [execOp,a bC _ c,e,iN,f];simp [run_neq_held_nil (h:=b)]
end
section
variable {P:aV} {l:I<|Z×aT} {W:aL->Prop} {d:az Tmp} {ty:b_} {pos:bg} {af:bE fw} {g:az<|Z×aQ}
def H6 (s:I a7) (i j:Z):aT.string ((ByteArray.mk s.toArray).extract i j)=st ((s.take j).drop i):=by
 have e:((ByteArray.mk s.toArray).extract i j)=⟨((s.take j).drop i).toArray⟩:=by apply ByteArray.ext;simp [I.drop_take]
 rw [e];rfl
variable {bC aE:dF} {be:I a7} {fd:IntKind} {aP:ab}
def JW (a:P.underlying bs=some .string) (c:b5 l bC=some (st be)) (f:b5 l aE=some (.int fd aP)) (i:0<=aP) (j:aP<=be.length):Yl P l W ⟨d,.slice bs bC none (some aE) none,ty,pos,af,g⟩<|st<|be.take aP.toNat:=by
 intro m w b _;have e:=run_slice_string_h (P:=P) w bs ⟨be.toArray⟩ a fd aP i (by rw [Dw];exact j);have k:(Instr.sliceAt bs (.string ⟨be.toArray⟩) none (some<|.int fd aP) none).run P w = .ok (st<|be.take aP.toNat) w:=by rw [run_sliceAt_string (h:=a),e,H6];simp
 simp [execOp,b bC _ c,b aE _ f,st,k]
def D2 (a:P.underlying bs=some .string) (c:b5 l bC=some (st be)) (f:b5 l aE=some (.int fd aP)) (i:0<=aP) (j:aP<=be.length):Yl P l W ⟨d,.slice bs bC (some aE) none none,ty,pos,af,g⟩<|st<|be.drop aP.toNat:=by
 intro m w b _;have e:=run_slice_string_l (P:=P) w bs ⟨be.toArray⟩ a fd aP i (by rw [Dw];exact j);have k:(Instr.sliceAt bs (.string ⟨be.toArray⟩) (some<|.int fd aP) none none).run P w = .ok (st<|be.drop aP.toNat) w:=by rw [run_sliceAt_string (h:=a),e,H6,Dw,gJ]
 simp [execOp,b bC _ c,b aE _ f,st,k]
end
abbrev cO {α:Type} (e:b_) (k:Z) (f:α->I aT) (a:az a0) (c:Z) (xs:I α):bc:=eK e k (aC a xs.length c) xs.length<|xs.flatMap f
section
variable {P:aV} {ops:bE ay} {Q:aO->aN->aL->Prop} {n:Z} {ds:I e'} {l:I<|Z×aT} {w0:aL} {F:I Z} {L:I bc} {Vs:I View} {rest:I ay} {d:Z} {ty:b_} {pos:bg} {af:bE fw} {g:az<|Z×aQ}
def LA {α:Type} {f:α->I aT} {t e:b_} {z:aT} {size q A:Z} {s y:dF} {a:az a0} {c r:Z} {xs:I α} {T:b_} {B:Z×Z} (x:α) (i j:Z) (C:eE ops l g) (D:eB d n=ac) (E:hW P t e z size q) (G:b5 l s=aa (aC a xs.length c)) (H:b5 l y=aa (aC (aa ⟨r,0,ak⟩) 1 A)) (hL:L[i]? = aa (cO e size f a c xs)) (J:L[j]? = aa (aJ r<|aM (f x).toArray T B)) (K:(f x).length=size) (M:(f x).all (·.oneCell')=ac) (V:xs.length+1<=9223372036854775807) (N:(xs.length+1)*q<=140737488355328) (h:∀b o,WL P ops Q n ds ((d,aC b (xs++[x]).length o)::l) (Ws w0 F (L.set i<|cO e size f b o<|xs++[x]) Vs) rest) : WL P ops Q n ds l (Ws w0 F L Vs)<|⟨aa d,.call ⟨.builtin .append,#[s,y],#[t,t]⟩,ty,pos,af,g⟩::rest:=by refine WL.append i C D E G H hL (news:=f x) (k:=1) (by rw [Z.one_mul];exact K) (λw O k u p=>TF O j J (k:=k) (by simpa using p)) (λu p=>gw.1 M u p) (by unfold maxLen;omega) N λR _=>?_;have S:(xs.flatMap f)++f x=(xs++[x]).flatMap f:=aG;have U:xs.length+1=(xs++[x]).length:=aG;rw [S,U];have hi:i<L.length:=(c_.1 hL).1;refine WL.LK i (m:=(xs++[x]).length) (xs:=(xs++[x]).flatMap f) (e:=e) (size:=size) (v:=R) (by simp [hi]) λb o hv=>?_;subst hv;exact h b o
end
def Ws.jF {rd:View->Z->Z->bW->Prop}      (h:Ws cb [] di en eJ) (i:Z)     (hL:di[i]? = aa (cO bs ae dN b' aH cg)) (e:∀x,(dN x).length=ae) (g:∀H b o x,ct H b o (dN x)->rd H b o x):Sl rd ae (nv cb eJ) b' aH cg:=by
 rcases h.Lz i hL with ⟨a,f⟩ | ⟨b,q,a,f,k,l⟩;·injection a with c m d;subst c d;have:cg=[]:=r5 aj;subst this;exact Sl.nil
 ·injection a with c m d;subst c d;refine ⟨f,by unfold maxLen at k;omega,aG,λi x n=>⟨b,0,O,g _ _ _ _ λj v hv=>?_⟩⟩;have p:j<ae:=by have:=(c_.1 hv).1;rw [e] at this;exact this
  rw [k0];exact l _ _ (by rw [oR e n p];exact hv)
def Ws.GV (h:Ws cb cJ di en eJ) (i:Z)     (hL:di[i]? = aa (cO bs ae dN b' aH cg)) (e:∀x,(dN x).length=ae) (f:∀H b o x,ct H b o (dN x)->dn H b o x):Sl dn ae (hv eJ) b' aH cg:=by
 obtain ⟨u,g⟩:=(h.kn _<|bu hL:eJ.ownsRow 0 bs ae _ cg.length (cg.flatMap dN));rcases g with ⟨k,w⟩ | ⟨b,cap,y,l,_,m,n,c,z,p⟩;·injection k with d q c;subst d c;have:cg=[]:=r5 aj;subst this;exact Sl.nil
 ·injection l with d q r;subst d r;refine ⟨n,by unfold maxLen at c;omega,aG,λi x s=>⟨b,0,O,f _ _ _ _ λj v hv=>?_⟩⟩;have t:j<ae:=by have:=(c_.1 hv).1;rw [e] at this;exact this
  have a:(cg.flatMap dN)[i*ae+j]? = aa v:=by rw [oR e s t];exact hv
  rw [<-p,b8] at a;split at a;·refine AR m ?_;simpa [jV] using a
  ·cases a
def nB (b:I ResultVar) (d:az Tmp):aQ:=match d with| ak=>ac| aa d=>b.all λr=>match r with| .tmp t=>!(ik d t)| .cell a _=>!(ik d a)
def TO {r:ResultVar}   {a:aN} (h:(match r with| .tmp t=>!(ik ae t)| .cell a _=>!(ik ae a))=ac):qX (a.put (aa ae) bn).tmps r=qX a.tmps r:=by
 have key:∀t,(!(ik ae t))=ac->(a.put (aa ae) bn).tmps.getD t undef=a.tmps.getD t undef:=λt b=>by
  have c:ae≠t:=λe=>by subst e;simp at b
  simp only [aN.put,kZ];rw [ue c]
 cases r with| tmp t=>simp only [qX,key t h]| cell x _=>simp only [qX,key x h]
variable {bo:Func} {AW:I ResultVar} {kN:aN}
def TP (a:bo.results=AW.toArray) {d:az Tmp}   (h:nB AW d=ac):results bo (kN.put d bn).tmps=results bo kN.tmps:=by
 cases d with
 | none=>rfl
 | some d=>
  simp only [nB,gw] at h;have e:∀l:I ResultVar,(∀r ∈ l,r ∈ AW)->l.mapM (qX (kN.put (aa d) bn).tmps)=l.mapM (qX kN.tmps):=by intro l;induction l with| nil=>intro _;rfl| cons x l c=>intro b;rw [wR,wR,TO<|h x<|b x aG,c λr a=>b r (by simp [a])]
  rw [AV,AV,a,yq,yq,e _ λr a=>by simpa using a]
variable {hp:Ending->aL->Prop} {j':az Tmp}
def GW (b:bo.results=AW.toArray)  {v:aT}  (h:nB AW j'=ac):∀(ds:I e') (u:FrameMode) (w:aL),Leaves ig bo (kN.put j' v).tmps hp ds u w->Leaves ig bo kN.tmps hp ds u w| [],.returning,w,a=>by simp only [Leaves] at a ⊢;rw [TP b h] at a;exact a| [],.panicking _,_,a=>a| [],.run,_,a=>a| x::ds,u,w,a=>by obtain ⟨d,g,cap,f,args,i,j,k⟩:=a;refine ⟨d,g,cap,f,args,i,j,k.mono λe l m c=>?_⟩;cases e with| returned v=>exact GW b h ds _ _ c| panicked n=>exact GW b h ds _ _ c| outgrown=>exact c
def qh {fn:Func} (b:I ResultVar)  (d:fn.results=b.toArray)    {c:I nW}  (h:nB b j'=ac) (a:bodyPostD ig fn hp (.panic c) (kN.put j' bn) cb):bodyPostD ig fn hp (.panic c) kN cb:=by
 have e:(kN.put j' bn).defers=kN.defers:=by cases j'<;>rfl
 have a:Leaves ig fn (kN.put j' bn).tmps hp (kN.put j' bn).defers (.panicking c) cb:=a;rw [e] at a;exact GW d h _ _ _ a
section
variable {P:aV} {md:p8} {ops:bE ay} {C:aL->Prop} {Q:aO->aN->aL->Prop}
def n4 (ok:az Tmp->aQ) (ops:bE ay):aQ:=ops.toList.all λo=>ok o.dst
variable {DB:az Tmp->aQ} {eR:ay}
def LO (h:n4 DB ops=ac)   (a:ops[ae]? = aa eR):DB eR.dst=ac:=by
 refine gw.1 h eR ?_;have:ops.toList[ae]? = aa eR:=by simpa using a
 exact dJ this
def D3 (f:n4 DB ops=ac) (g:p9 ops=ac) (k:∀c a w d v,DB d=ac->Q (.panic c) (a.put d v) w->Q (.panic c) a w):∀(ord:I<|Z×aQ) (e:bE aQ) (a:aN) (w:aL), pA md ops ord e=ac->pB P ops C Q ord a w->vz P md ops C Q ord.length e a w| [],e,a,w,b,h=>⟨h.1,by simpa [pA] using b,h.2⟩| (i,ac)::r,e,a,w,b,h=>by simp only [pA,vu,eW] at b;obtain ⟨hC,o,v,l,n,h⟩:=h;exact HV l (Region.noSelect_spec g) (λc a w=>k c a w o.dst v<|LO f l) r.length e a w (Region.free_spec l b.1.2) (by simpa using b.1.1) n hC<|D3 f g k r _ _ _ b.2 h| (i,au)::r,e,a,w,b,h=>by simp only [pA,Da,eW,j8] at b;refine ⟨h.1,λp=>(by rw [p] at b;cases b.1),λj m=>?_⟩;rw [b.1] at m;simp at m;subst m;exact wpOp_mono (λs t q=>D3 f g k r _ _ _ b.2 q) h.2
variable {n:Z} {ds:I e'} {l:I<|Z×aT} {W:aL->Prop}
def outs:I Z->I bc->I bc| [],L=>L| i::r,L=>outs r<|fR i L
def Wo (i:Z) (h:Ws cb cJ di en eJ):Ws cb cJ (fR i di) en eJ:=Ws.out i h
def Wt (n:Z) (h:Ws cb cJ di en eJ):Ws cb cJ (di.take n) en eJ:=Ws.ej (L':=di.drop n) (by rw [qb];exact h)
def Wd (n:Z) (h:Ws cb cJ di en eJ):Ws cb cJ (di.drop n) en eJ:=Ws.drop (L:=di.take n) (by rw [qb];exact h)
def Wv (n:Z) (h:Ws cb cJ di en eJ):Ws cb cJ di (en.drop n) eJ:=Ws.dr h λ_ a=>I.mem_of_mem_drop a
variable {m5:bc}
def Ws.f (i:Z)  (h:Ws cb cJ di en eJ) (a:di[i]? = aa m5):Ws cb cJ (m5::fR i di) en eJ:=h.perm<|oP i di a
def Wp (i:Z):∀w,Ws cb cJ di en w->Ws cb cJ (fR i di) en w:=λ_ h=>Wo i h
def cn (is:I Z):∀w,Ws cb cJ di en w->Ws cb cJ (outs is di) en w:=λ_ h=>by induction is generalizing di with| nil=>exact h| cons i r a=>exact a<|Wo i h
def WC.w_ {os:I ay}     (ok:az Tmp->aQ) (is:I Z) (ord:I<|Z×aQ) (e:P.follows .mixedOrders=ac) (f:n4 ok os.toArray=ac) (b:(p9 os.toArray&&(ord.length==os.toArray.size&&vB os ord 0))=ac) (g:∀c a w d v,ok d=ac->Q (.panic c) (a.put d v) w->Q (.panic c) a w) (h:WD P os.toArray (Ws cb cJ (outs is di) en) Q n ds l (Ws cb cJ di en) ord):WC P (.region ae os.toArray ac) Q n ds l<|Ws cb cJ di en:=by intro a w i j;have b:=Bq b;simp only [eW,j8] at b;have:=Ao (md:=.any) _ _ _ _<|D3 f b.1 g ord _ a w.drew b.2.2<|h a w.drew i j.drew;rw [b.2.1] at this;exact wp_region_any e this
def WD.skip {r:I<|Z×aQ} {i d:Z} {op:Op} {ty:b_} {pos:bg} {af:bE fw}  {b:aQ}  {c:Z} (hi:ops[i]? = aa ⟨aa d,op,ty,pos,af,aa (ae,b)⟩) (j:eB d n=ac) (k:ops[ae]? = aa eR) (m:eR.dst=aa c) (o:eB c n=ac) (p:lk l c=aa (bV<|!b)) (hC:∀w,W w->C w) (h:WD P ops C Q n ds ((d,undef)::l) W r):WD P ops C Q n ds l W<|(i,ac)::r:=by
 intro a w e f;have hv:a.tmps.getD c undef = bV (!b):=e.jn c _ p;have g:c<a.tmps.size:=by rw [e.size];exact r2 o
 have q:a.tmps[c]? = aa (bV<|!b):=by rw [kZ,wQ g] at hv;rw [wQ g];simpa using hv
 have s:yielded ops a.tmps ae=aa (!b):=by simp [yielded,k,m,q]
 exact ⟨hC w f,_,undef,hi,bl ⟨by simp [m1,s],O⟩,h _ _ (e.put j undef) f⟩
def WE.front {e:aO}  (i:Z) (hL:di[i]? = aa m5) (h:WE Q e n ds l<|Ws cb cJ (m5::fR i di) en):WE Q e n ds l<|Ws cb cJ di en:= WE.world (λ_ a=>a.perm<|oP i di hL) h
def pC {f:jU} {args:bE aT} {u d:FrameMode} (a L2 g:I bc) (hL:di=a++L2) (hC:∀w,Ws w (a.flatMap bc.ids) a [] w->CallsD P f args u w λe b c=>b=d/\(e = ax (cN #[])/\Ws w (a.flatMap bc.ids) g [] c)) : ∀w,Ws cb cJ di en w->CallsD P f args u w λe b c=>e = ax (cN #[])/\b=d/\Ws cb cJ (g++L2) en c:=by intro w h;subst hL;exact (hC w<|h.self.dr aG).mono λe b c ⟨i,j,k⟩=>⟨j,i,h.back k⟩
end
open Go.ChangeShapes Go.WideShapes Go.ChangeAt Go.RowKit Go.Joins Go.Deep
def LP (p:Z->bW->Prop):∀n,(∀i,i<n->∃x,p i x)->∃l:I bW,l.length=n/\∀(i:Z) (x:bW),l[i]? = aa x->p i x
 | 0,_=>⟨[],rfl,aG⟩
 | n+1,h=>by
  obtain ⟨l,c,d⟩:=LP p n λi hi=>h i aj;obtain ⟨x,e⟩:=h n aj;refine ⟨l++[x],by simp [c],λi y a=>?_⟩;rcases KY i n with b | b | b;·rw [Aw aj] at a;exact d i y a
  ·subst b;rw [r4 aj,c] at a;simp at a;subst a;exact e
  ·rw [pP (by simp;omega)] at a;cases a
def GY (h:cb.cell? ⟨ae,aH,ak⟩=aa bn):vc (hv cb) ae aH=aa bn:=by unfold vc hv;unfold aL.cell? at h;cases a:cb.heap[ae]? with| none=>simp [a] at h| some b=>cases b<;>simp [a,jV] at h ⊢<;>exact h
inductive Sh where
 | int
 | str
 | bool
deriving DecidableEq
def Sh.fit:Sh->Value->Prop| .int,v=>∃k:Int,v = .int .i64 k/\-9223372036854775808<=k/\k<=9223372036854775807| .str,v=>∃l:List UInt8,v=st l/\l.length<=9223372036854775807| .bool,v=>∃b,v = .bool b
def GZ (P:Program) (t:TypeId):Option Sh:=match P.underlying t with| some<|.int .i64=>some .int| some .string=>some .str| some .bool=>some .bool| _=>none
def qY (P:aV):Z->I Field->aQ| _,[]=>ac| i,f::r=>ik f.offset i&&(ik (P.cellsOf f.type) 1&&qY P (i+1) r)
section
variable {P:aV} {H:Type} {enc:b_×aT->H} {w:aL} {base:Z} {spare:Z->aQ} {held:aQ}
def TQ {s:Sh}   {x:DataW H×List MemPlace} (a:GZ P bs=some s) (h:DataW.trod enc P w base spare held ae bs [bn]=some x):s.fit bn:=by
 unfold GZ at a;cases c:P.underlying bs with
 | none=>simp [c] at a
 | some d=>
  cases d<;>simp [c] at a;case int k=>cases k<;>simp at a;subst a;obtain ⟨n,e,_,f⟩:=DataW.trod_int c h;injection e with e _;subst e;refine ⟨n,O,?_⟩;simp [Lit.wf,IntKind.min,IntKind.max,IntKind.signed,IntKind.bits] at f;omega
  case string=>subst a;obtain ⟨s,e,_,f⟩:=DataW.trod_string c h;injection e with e _;subst e;exact ⟨s.data.toList,by simp [st],by unfold maxLen at f;simpa using f⟩
  case bool=>subst a;obtain ⟨b,e,_⟩:=DataW.trod_bool c h;injection e with e _;exact ⟨b,e⟩
def open_int {r:Reach}    {d:DataW H} {p:List MemPlace} (a:P.underlying bs=some (.int .i64)) (b:Value.okWide P w r ae bs bn) (h:DataW.Trod enc P w base spare held bs bn d p) : ∃k:Int,bn = .int .i64 k/\-9223372036854775808<=k/\k<=9223372036854775807:=by obtain ⟨n,rfl⟩:=okWide_int a b;obtain ⟨fuel,h⟩:=h;exact TQ (s:=.int) (by simp [GZ,a]) h
end
end Go.Bw
end
section
namespace Go.Bw
set_option linter.unnecessarySimpa false
open Go Go.RowKit
def bH (As:I bc):bc:=⟨As.flatMap bc.ids,λw=>∀a ∈ As,a.holds w,
 λw e h d a c=>a.loc w e (λk b=>h k<|m3.2 ⟨a,c,b⟩)<|d a c,
 λw d k b=>let ⟨a,c,b⟩:=m3.1 b; a.yE w (d a c) k b⟩
section
variable {P:aV} {ops:bE ay} {Q:aO->aN->aL->Prop} {n:Z} {ds:I e'} {l:I<|Z×aT} {w0 w:aL} {F:I Z} {L:I bc} {Vs:I View} {rest:I ay} {A:bc} {As:I bc}
def Ws.yR (h:Ws w0 F (bH (A::As)::L) Vs w):Ws w0 F (A::bH As::L) Vs w:=by
 refine ⟨h.fr,?_,?_,?_,h.vs,?_⟩
 ·intro B a;have d:=h.kn (bH<|A::As) aG;rcases eZ.1 a with rfl | a;·exact d _ aG
  ·rcases eZ.1 a with rfl | a;·exact λC hC=>d C (by simp [hC])
   ·exact h.kn B (by simp [a])
 ·have:=h.nd;simpa [bH] using this
 ·intro B a k b;rcases eZ.1 a with rfl | a;·exact h.own (bH<|B::As) aG k (by simp [bH,b])
  ·rcases eZ.1 a with rfl | a;·exact h.own (bH<|A::As) aG k (by simp only [bH,jm] at b ⊢;exact cG _ b)
   ·exact h.own B (by simp [a]) k b
 ·intro H c B a k b;rcases eZ.1 a with rfl | a;·exact h.off H c (bH<|B::As) aG k (by simp [bH,b])
  ·rcases eZ.1 a with rfl | a;·exact h.off H c (bH<|A::As) aG k (by simp only [bH,jm] at b ⊢;exact cG _ b)
   ·exact h.off H c B (by simp [a]) k b
def Ws.yS (h:Ws w0 F (A::bH As::L) Vs w):Ws w0 F (bH (A::As)::L) Vs w:=by
 have d:=h.kn A aG;have e:=h.kn (bH As) aG;refine ⟨h.fr,?_,?_,?_,h.vs,?_⟩
 ·intro B b;rcases eZ.1 b with rfl | b
  ·intro C hC;rcases eZ.1 hC with rfl | hC;·exact d
   ·exact e C hC
  ·exact h.kn B (by simp [b])
 ·have:=h.nd;simpa [bH] using this
 ·intro B b k a;rcases eZ.1 b with rfl | b
  ·simp only [bH,jm,bm] at a;rcases a with a | a;·exact h.own A aG k a
   ·exact h.own (bH As) aG k a
  ·exact h.own B (by simp [b]) k a
 ·intro H c B b k a;rcases eZ.1 b with rfl | b
  ·simp only [bH,jm,bm] at a;rcases a with a | a;·exact h.off H c A aG k a
   ·exact h.off H c (bH As) aG k a
  ·exact h.off H c B (by simp [b]) k a
def Ws.TR (h:Ws w0 F L Vs w):Ws w0 F (bH []::L) Vs w:=by
 refine ⟨h.fr,?_,by simpa [bH] using h.nd,?_,h.vs,?_⟩
 ·intro B a;rcases eZ.1 a with rfl | a;·intro C hC;cases hC
  ·exact h.kn B a
 ·intro B a k b;rcases eZ.1 a with rfl | a;·simp [bH] at b
  ·exact h.own B a k b
 ·intro H c B a k b;rcases eZ.1 a with rfl | a;·simp [bH] at b
  ·exact h.off H c B a k b
variable {bs:b_} {b':az a0}
def TS {w:aL}  {size m m' c:Z}  {xs:I aT} (h:w.ownsRow 0 bs size (aC b' m c) m xs) (e:m'<=m):w.ownsRow 0 bs size (aC b' m' c) m'<|xs.take<|m'*size:=by
 obtain ⟨f,a⟩:=h;have q:m'*size<=m*size:=nn _ e;rcases a with ⟨a,r⟩ | ⟨g,cap,i,hv,j,k,s,b,l,n⟩;·injection a with d o b;subst d b;obtain rfl:m'=0:=aj;exact ⟨aG,bA ⟨O,aG⟩⟩
 ·injection hv with d o p;subst d p;refine ⟨by rw [lr,f];omega,bl ⟨g,c,i,O,j,k,aj,b,l,?_⟩⟩;rw [<-n,I.take_take];congr 1;omega
variable {bW:Type} {dN:bW->I aT}
def LQ {k:Z} (a:∀x,(dN x).length=k):∀(xs:I bW) (m:Z),(xs.flatMap dN).take (m*k)=(xs.take m).flatMap dN| [],m=>by simp| x::r,0=>by simp| x::r,m+1=>by simp only [jm,qc];rw [Gg,a,i' (by rw [a,vt];omega),<-LQ a r m];congr 2;rw [vt];omega
def WL.TT {k c:Z}  {xs:I bW} (i m:Z) (hL:L[i]? = aa (cO bs k dN b' c xs)) (e:∀x,(dN x).length=k) (f:m<=xs.length)
   (h:WL P ops Q n ds l (Ws w0 F (L.set i<|cO bs k dN b' c<|xs.take m) Vs) rest):WL P ops Q n ds l (Ws w0 F L Vs) rest:=by
 refine LW (λw a=>?_) h;have g:w.ownsRow 0 bs k (aC b' xs.length c) xs.length<|xs.flatMap dN:=a.kn _<|bu hL;have b:=TS g f;rw [LQ e] at b;refine Ws.um a i hL (Fr.refl _ _) ?_ (by simp [eK];cases b'<;>simp [lq])<|λk d=>?_;·show w.ownsRow 0 bs k (aC b' (xs.take m).length c) (xs.take m).length _;rw [show (xs.take m).length=m by simp;omega];exact b
 ·refine bA ?_;simp only [eK] at d ⊢;cases b'<;>simpa [lq] using d
end
section
variable {P:aV} {l:I<|Z×aT} {W:aL->Prop} {d:az Tmp} {ty:b_} {pos:bg} {af:bE fw} {g:az<|Z×aQ}
variable {bs:b_} {bC aE:dF} {b':az a0} {ae aH aK:Z} {fd:IntKind} {aP:ab}
def uw (n:Nat) (a:g1 P bs=some aK) (b:b5 l bC=some (.slice b' ae aH)) (c:∀p,b'=some p->p.spot=none) (e:b5 l aE=some (.int fd aP)) (f:aP=(n:Int)) (h:n<=aH) : Yl P l W ⟨d,.slice bs bC none (some aE) none,ty,pos,af,g⟩<|.slice b' n aH:=by subst f;exact Lt a b c e aj aj
def AX (n:Nat) (a:g1 P bs=some aK) (h:b5 l bC=some (.slice b' ae aH)) (i:b5 l aE=some (.int fd aP)) (j:aP=(n:Int)) (k:n<=ae) (o:ae<=aH) : Yl P l W ⟨d,.slice bs bC (some aE) none none,ty,pos,af,g⟩ (.slice (if aH-n=0 then b' else b'.map (·.add<|n*aK)) (ae-n)<|aH-n):=by
 intro p w c _;subst j;unfold g1 at a;cases b:P.underlying bs with
 | none=>simp [b] at a
 | some m=>
  cases m<;>simp [b] at a;rename_i e;obtain ⟨q,hi,rfl⟩:=a;simp [execOp,c bC _ h,c aE _ i,Instr.sliceAt,Instr.slice,Instr.sliceBounds,Instr.sliceBound,asIntOf,run_underlying b,sizeOf,typeInfo,hi,k];by_cases f:aH=n;·subst f;simp
  ·have:¬aH-n=0:=aj;simp [f,this]
end
variable {bW:Type} {dn:View->Z->Z->bW->Prop} {ae aH:Z} {bt:View} {b':az a0} {cg:I bW}
def Sl.drop (h:Sl dn ae bt b' aH cg) (n:Z) (g:n<=cg.length):Sl dn ae bt (if aH-n=0 then b' else b'.map (·.add<|n*ae)) (aH-n)<|cg.drop n:=by
 have j:=h.cap;refine ⟨by simp;omega,by have:=h.max;omega,?_,λi x c=>?_⟩
 ·intro p a k;split at a;·omega
  ·cases b' with| none=>cases a| some q=>have e:=h.spot q rfl aj;obtain ⟨b,o,s⟩:=q;obtain rfl:s=ak:=e;simp [qS] at a;subst a;rfl
 ·rw [F0] at c;have hi:=(c_.1 c).1;obtain ⟨b,o,f,d⟩:=h.b7 _ _ c;subst f;refine ⟨b,o+n*ae,?_,?_⟩;·rw [ao aj];simp [qS]
  ·rw [vt] at d;rw [uf];exact d
def Sl.take (h:Sl dn ae bt b' aH cg) (n:Z):Sl dn ae bt b' aH<|cg.take n:= ⟨by have:=h.cap;simp;omega,h.max,h.spot,λi x a=>h.b7 i x (by
 rw [b8] at a;split at a;·exact a
 ·cases a)⟩
end Go.Bw
end
section
namespace Go.Bw
set_option linter.unnecessarySimpa false
open Go Go.RowKit
section
variable {P:aV} {md:p8} {ops:bE ay} {S:I Z} {C D:aL->Prop} {Q:aO->aN->aL->Prop}
def oV (S:I Z) (a:bE aQ):Prop:=∀s ∈ S,a.getD s ac=au
def r8 (P:aV) (md:p8) (ops:bE ay) (S:I Z) (C b:aL->Prop) (Q:aO->aN->aL->Prop):Z->bE aQ->aN->aL->Prop| 0,listed,a,w=>((oV S listed->C w)/\b w)/\j7 md ops listed=[]/\Q .normal a w| fuel+1,listed,a,w=>((oV S listed->C w)/\b w)/\(j7 md ops listed=[]->Q .normal a w)/\ ∀i ∈ j7 md ops listed,wpOp P ops Q i (r8 P md ops S C b Q fuel<|listed.setIfInBounds i ac) a w
def LR:∀(fuel:Z) (b:bE aQ) (a:aN) (w:aL),r8 P md ops S C D Q fuel b a w->wpAny P md ops Q fuel b a w| 0,_,_,_,h=>h.2| fuel+1,b,a,w,h=>⟨h.2.1,λi hi=>wpOp_mono (λc d e=>LR fuel _ c d e)<|h.2.2 i hi⟩
variable {ae:Z} {jE:bE aQ} {cb:aL}
def r8.c {a:aN}  (h:r8 P md ops S C D Q ae jE a cb):(oV S jE->C cb)/\D cb:=by cases ae<;>exact h.1
def DD (hi:ae ∉ S) :oV S (jE.setIfInBounds ae ac)↔oV S jE:=by
 constructor
 ·intro h s a;have b:ae≠s:=λe=>by subst e;exact hi a
  have:=h s a;rwa [getD_set_ne ac b] at this
 ·intro h s a;have b:ae≠s:=λe=>by subst e;exact hi a
  rw [getD_set_ne ac b];exact h s a
def yT (md:p8) (ops:bE ay) (a:bE aQ):Prop:=∀(j:Z) (o:ay),ops[j]? = aa o->a.getD j ac=ac->∀e ∈ o.after,qP md e=ac->a.getD e.on ac=ac
def yU (md:p8) (ops:bE ay) (i:Z):Z->Z->aQ| 0,_=>au| f+1,s=>match ops[s]? with| aa os=>os.after.any λe=>qP md e&&(ik e.on i||yU md ops i f e.on)| ak=>au
def LS (g:yT md ops jE) :∀(f s:Z),yU md ops ae f s=ac->(∀o,ops[s]? = aa o->∀e ∈ o.after,qP md e=ac->jE.getD e.on ac=ac)->jE.getD ae ac=ac
 | 0,s,h,_=>by simp [yU] at h
 | f+1,s,h,i=>by
  simp only [yU] at h;cases a:ops[s]? with
  | none=>simp [a] at h
  | some o=>
   simp only [a] at h;obtain ⟨e,j,b⟩:=bE.any_eq_true'.1 h;simp only [eW,s0] at b;have c:=i o a e j b.1;rcases b.2 with d | d;·have:=nX d;rw [this] at c;exact c
   ·exact LS g f e.on d λk l m n p=>g e.on k l c m n p
def LU (d:ae ∈ j7 md ops jE):∀o,ops[ae]? = aa o->∀e ∈ o.after,qP md e=ac->jE.getD e.on ac=ac:=by
 intro o f e g h;obtain ⟨_,j,a,i⟩:=mem_ready.1 d;rw [f] at a;injection a with a;subst a;have c:=i e g h;rcases m2 e.on jE.size with b | b;·simp [kZ,b] at c ⊢;exact c
 ·simp [kZ,yp b]
def yT.set (h:yT md ops jE) (i:ae ∈ j7 md ops jE):yT md ops<|jE.setIfInBounds ae ac:=by
 have up:∀k,jE.getD k ac=ac->(jE.setIfInBounds ae ac).getD k ac=ac:=by
  intro k b;by_cases a:ae=k
  ·subst a;rcases m2 ae jE.size with c | c;·simp [kZ,c]
   ·simp [kZ,c]
  ·rw [getD_set_ne ac a];exact b
 intro k o d b e f g;by_cases a:ae=k;·subst a;exact up _<|LU i o d e f g
 ·rw [getD_set_ne ac a] at b;exact up _<|h k o d b e f g
def Kept (md:p8) (ops:bE ay) (S:I Z) (C b a:aL->Prop) (i:Z):Prop:= (∀w,b w->a w)\/((∀w,C w->a w)/\∀s ∈ S,yU md ops i ops.size s=ac)
variable {eR:ay} {bn:aT}
def TU {q:aL->Prop} (hi:ops[ae]? = aa eR) (z:∀(j:Z) (o:ay) cs b,ops[j]? = aa o->o.op≠.select cs b) (K:∀c a w,Q (.panic c) (a.put eR.dst bn) w->Q (.panic c) a w) (L:ae ∉ S) (g:Kept md ops S C D q ae) : ∀(fuel:Z) (d:bE aQ) (a:aN) (w:aL), (∀j n,ops[j]? = aa n->j≠ae->d.getD j ac=au->(∀e ∈ n.after,qP md e=ac->e.on≠ae)->eR.apart ops n=ac)-> ae ∈ j7 md ops d->yT md ops d->YV P ops q eR bn a->((oV S d->C w)/\D w)->((∀w,D w->q w)\/oV S d)-> r8 P md ops S C D Q fuel (d.setIfInBounds ae ac) (a.put eR.dst bn) w->r8 P md ops S C D Q (fuel+1) d a w:=by
 have A:∀(d:bE aQ) (w:aL),((oV S d->C w)/\D w)->((∀w,D w->q w)\/oV S d)->q w:=by
  intro d w f p;rcases p with p | p;·exact p w f.2
  ·rcases g with g | g;·exact g w f.2
   ·exact g.1 w<|f.1 p
 intro fuel;induction fuel with
 | zero=>
  intro d a w _ l _ t hC m H;refine ⟨hC,λh=>(by rw [h] at l;cases l),λj r=>?_⟩;by_cases i:j=ae;·subst i;exact t.wpOp hi (A _ _ hC m) H
  ·have:=ready_mono r i;rw [H.2.1] at this;cases this
 | succ fuel M=>
  intro d a w B l E t hC m H;refine ⟨hC,λh=>(by rw [h] at l;cases l),λj r=>?_⟩;by_cases i:j=ae;·subst i;exact t.wpOp hi (A _ _ hC m) H
  ·have f:=H.2.2 j<|ready_mono r i;obtain ⟨F,n,u,N⟩:=mem_ready.1 r;have O:∀e ∈ n.after,qP md e=ac->e.on≠ae:=λe R T U=>by
    have f:=N e R T;have s:=(mem_ready.1 l).1;rw [U] at f;rcases m2 ae d.size with v | v;·simp [v] at s f;rw [s] at f;cases f
    ·simp [yp v] at f
   have V:(∀w,D w->q w)\/oV S (d.setIfInBounds j ac):=by
    rcases g with g | g;·exact bA g
    ·rcases m with m | m;·exact bA m
     ·refine bl<|(DD λW=>?_).2 m;have X:=LS E _ j (g.2 j W)<|LU r;have s:=(mem_ready.1 l).1;rw [X] at s;cases s
   have p:=Lu u (B j n u i F O) (λcs b=>z ae eR cs b hi) (λcs b=>z j n cs b u) K t f;have Y:∀k ok,ops[k]? = aa ok->k≠ae->(d.setIfInBounds j ac).getD k ac=au-> (∀e ∈ ok.after,qP md e=ac->e.on≠ae)->eR.apart ops ok=ac:=λk ok ad af G ag=>by
    refine B k ok ad af ?_ ag;by_cases J:j=k;·subst J;exact F
    ·rw [getD_set_ne ac J] at G;exact G
   refine wpOp_mono (λah ai x=>M (d.setIfInBounds j ac) ah ai Y (ready_mono l<|CS i) (E.set r) x.1 ?_ V ?_) p;·have y:=x.2.c;rw [Gd _ _<|CS i] at y;exact ⟨λaj=>y.1<|(DD L).2 aj,y.2⟩
   ·rw [Gd _ _ i];exact x.2
inductive pD where
 | nil
 | stop
 | q (m:Bool) (i:Nat) (r:pD)
 | e (i:Nat) (r alt:pD)
def pD.alts:pD->I Z| .e i _ a=>i::a.alts| _=>[]
def behind (md:p8) (ops:bE ay) (i:Z) (S:I Z):aQ:=S.all λs=>yU md ops i ops.size s
def DE (i:Z) (S:I Z):aQ:=S.all λs=>!(ik s i)
def LV (h:DE ae S=ac):ae ∉ S:=λhi=>by have:=gw.1 h ae hi;simp at this
def vD (md:p8) (ops:bE ay):I Z->bE aQ->aQ| [],listed=>(j7 md ops listed).isEmpty| s::r,listed=>j7 md ops listed==[s]&&vD md ops r (listed.setIfInBounds s ac)
def lR (md:p8) (ops:bE ay) (S:I Z):aQ->pD->Z->bE aQ->aQ
 | top,.nil,k,listed=>top&&(ik k S.length&&vD md ops S listed)| top,.stop,_,_=>!top| top,.q m i r,k,listed=>match k with| 0=>au| k+1=>top&&((j7 md ops listed).contains i&&(Region.free md ops listed i&&(DE i S&&((!m||behind md ops i S)&&lR md ops S ac r k (listed.setIfInBounds i ac)))))
 | top,.e i r alt,k,listed=>match k with| 0=>au| k+1=>(bif top then j7 md ops listed==i::alt.alts else ac)&&(DE i S&&(lR md ops S ac r k (listed.setIfInBounds i ac)&&lR md ops S au alt (k+1) listed))
def vE (P:aV) (ops:bE ay) (b:aL->Prop) (Q:aO->aN->aL->Prop):I Z->aN->aL->Prop| [],a,w=>b w/\Q .normal a w| s::r,a,w=>b w/\wpOp P ops Q s (vE P ops b Q r) a w
def tj (P:aV) (ops:bE ay) (S:I Z) (C b:aL->Prop) (Q:aO->aN->aL->Prop):pD->aN->aL->Prop| .nil,a,w=>C w/\vE P ops b Q S a w| .stop,_,_=>True| .q m i r,a,w=>(C w/\b w)/\∃o v,ops[i]? = aa o/\YV P ops (bif m then C else b) o v a/\tj P ops S C b Q r (a.put o.dst v) w| .e i r alt,a,w=>(C w/\b w)/\(wpOp P ops Q i (tj P ops S C b Q r) a w/\tj P ops S C b Q alt a w)
def TV:∀(r:I Z) (b:bE aQ) (a:aN) (w:aL),(r=S/\C w\/¬oV S b)->(∀s ∈ r,s ∈ S)->(∀s ∈ r,b.getD s ac=au)->vD md ops r b=ac->vE P ops D Q r a w->r8 P md ops S C D Q r.length b a w
 | [],b,a,w,c,_,_,d,h=>⟨⟨λe=>(by rcases c with c | c;exact c.2;exact absurd e c),h.1⟩,by simpa [vD] using d,h.2⟩
 | s::r,b,a,w,c,l,o,d,h=>by
  simp only [vD,eW,j8] at d;refine ⟨⟨λe=>(by rcases c with c | c;exact c.2;exact absurd e c),h.1⟩,λi=>(by rw [i] at d;cases d.1),λj g=>?_⟩;rw [d.1] at g;simp at g;subst g;have p:j<b.size:=by
   have:=o j aG;rcases m2 j b.size with f | f;·exact f
   ·simp [yp f] at this
  have q:¬oV S (b.setIfInBounds j ac):=λe=>by have:=e j<|l j aG;simp [kZ,p] at this
  refine wpOp_mono (λm n f=>Kl r (b.setIfInBounds j ac) m n q (λs k=>l s (by simp [k])) d.2 f) h.2 where Kl:∀(r:I Z) (b:bE aQ) (a:aN) (w:aL),¬oV S b->(∀s ∈ r,s ∈ S)->vD md ops r b=ac->vE P ops D Q r a w->r8 P md ops S C D Q r.length b a w
 | [],b,a,w,c,_,d,h=>⟨⟨λe=>absurd e c,h.1⟩,by simpa [vD] using d,h.2⟩
 | s::r,b,a,w,c,l,d,h=>by
  simp only [vD,eW,j8] at d;refine ⟨⟨λe=>absurd e c,h.1⟩,λi=>(by rw [i] at d;cases d.1),λj g=>?_⟩;rw [d.1] at g;simp at g;subst g;refine wpOp_mono (λm n f=>Kl r (b.setIfInBounds j ac) m n (λe=>c λs k=>?_) (λs k=>l s (by simp [k])) d.2 f) h.2;have:=e s k;rcases Z.decEq j s with t | i;·rwa [getD_set_ne ac t] at this
  ·subst i;rcases m2 j b.size with f | f;·simp [kZ,f] at this
   ·simp [kZ] at this
def DF {ok:az Tmp->aQ} (p:n4 ok ops=ac) (l:p9 ops=ac) (t:∀c a w d v,ok d=ac->Q (.panic c) (a.put d v) w->Q (.panic c) a w):∀(o:pD) (k:Z) (f:bE aQ) (a:aN) (w:aL),oV S f->yT md ops f-> (lR md ops S ac o k f=ac->tj P ops S C D Q o a w->r8 P md ops S C D Q k f a w)/\ ((∀j ∈ o.alts,j ∈ j7 md ops f)->lR md ops S au o k f=ac->tj P ops S C D Q o a w->∀j ∈ o.alts,∃x,k=x+1/\wpOp P ops Q j (r8 P md ops S C D Q x<|f.setIfInBounds j ac) a w)
 | .nil,k,f,a,w,hu,_=>by refine ⟨λb h=>?_,λ_ b=>by simp [lR] at b⟩;simp only [lR,wU,eW] at b;obtain rfl:=nX b.1;exact TV S f a w (bA ⟨O,h.1⟩) aR hu b.2 h.2| .stop,k,f,a,w,hu,_=>⟨λb=>by simp [lR] at b,λ_ _ _ j g=>by simp [pD.alts] at g⟩
 | .q m i r,k,f,a,w,hu,n=>by
  cases k with
  | zero=>exact ⟨λb=>by simp [lR] at b,λ_ b=>by simp [lR] at b⟩
  | succ k=>
   refine ⟨λb h=>?_,λ_ b=>by simp [lR] at b⟩;simp only [lR,wU,eW] at b;obtain ⟨G,H,J,A,K⟩:=b;obtain ⟨hC,o,v,y,L,h⟩:=h;have B:=LV J;have M:Kept md ops S C D (bif m then C else D) i:=by cases m with| false=>exact bA λ_ h=>h| true=>refine bl ⟨λ_ h=>h,λs l=>?_⟩;simp only [aQ.not_true,yu] at A;exact gw.1 A s l
   have E:i ∈ j7 md ops f:=by simpa using G
   exact TU y (Region.noSelect_spec l) (λc a w=>t c a w o.dst v<|LO p y) B M k f a w (Region.free_spec y H) E n L ⟨λ_=>hC.1,hC.2⟩ (bl hu)<|(DF p l t r k _ _ _ ((DD B).2 hu)<|n.set E).1 K h
 | .e i r alt,k,f,a,w,hu,n=>by
  cases k with
  | zero=>exact ⟨λb=>by simp [lR] at b,λ_ b=>by simp [lR] at b⟩
  | succ k=>
   have F:(∀j ∈ i::alt.alts,j ∈ j7 md ops f)->DE i S=ac->lR md ops S ac r k (f.setIfInBounds i ac)=ac->lR md ops S au alt (k+1) f=ac->tj P ops S C D Q (.e i r alt) a w-> ∀j ∈ i::alt.alts,wpOp P ops Q j (r8 P md ops S C D Q k<|f.setIfInBounds j ac) a w:=by
    intro u N R T h j g;rcases eZ.1 g with rfl | g;·exact wpOp_mono (λU V W=>(DF p l t r k _ U V ((DD<|LV N).2 hu)<|n.set<|u _ aG).1 R W) h.2.1
    ·obtain ⟨x,z,X⟩:=(DF p l t alt (k+1) f a w hu n).2 (λj g=>u j (by simp [g])) T h.2.2 j g;injection z with z;subst z;exact X
   refine ⟨λb h=>?_,λu b h j g=>?_⟩;·simp only [lR,vu,eW,j8] at b;refine ⟨⟨λ_=>h.1.1,h.1.2⟩,λY=>(by rw [Y] at b;cases b.1),λj g=>?_⟩;rw [b.1] at g;exact F (λj g=>by rw [b.1];exact g) b.2.1 b.2.2.1 b.2.2.2 h j g
   ·simp only [lR,Da,wU,eW] at b;exact ⟨k,O,F u b.1 b.2.1 b.2.2 h j g⟩
variable {n:Z} {ds:I e'} {l:I<|Z×aT} {W:aL->Prop}
def WU (P:aV) (ops:bE ay) (S:I Z) (C b:aL->Prop) (Q:aO->aN->aL->Prop) (n:Z) (ds:I e') (l:I<|Z×aT) (W:aL->Prop) (ord:pD):Prop:= ∀a w,Ag n ds l a->W w->tj P ops S C b Q ord a w
def WS (P:aV) (ops:bE ay) (b:aL->Prop) (Q:aO->aN->aL->Prop) (n:Z) (ds:I e') (l:I<|Z×aT) (W:aL->Prop) (S:I Z):Prop:= ∀a w,Ag n ds l a->W w->vE P ops b Q S a w
abbrev qi:aL->Prop:=λ_=>True
def DG (k:Z) (S:I Z):aQ:=S.all λs=>eB s k
def Uy (h:DG ops.size S=ac):oV S<|uc ops.size au:=λs a=>by have:=gw.1 h s a;have b:=Z.blt_eq.mp this;simp [kZ,b]
variable {b6:I ay}
def WC.LX {W' e f:aL->Prop} (ok:az Tmp->aQ) (S:I Z) (ord:pD) (g:P.follows .mixedOrders=ac) (i:∀w,W' w->W' w.drew) (b:(n4 ok b6.toArray&&(p9 b6.toArray&&(DG b6.toArray.size S&&lR .any b6.toArray S ac ord b6.toArray.size (uc b6.toArray.size au))))=ac) (k:∀c a w d v,ok d=ac->Q (.panic c) (a.put d v) w->Q (.panic c) a w) (h:WU P b6.toArray S e f Q n ds l W' ord):WC P (.region ae b6.toArray ac) Q n ds l W':=by
 intro a w m p;simp only [eW] at b;have:=LR (md:=.any) _ _ _ _<|(DF b.1 b.2.1 k ord _ _ a w.drew (Uy b.2.2.1) (λj o q r=>by
  have s:j<b6.length:=by simpa using (bE.getElem?_eq_some_iff.1 q).1
  simp [kZ,bE.getElem?_replicate,s] at r)).1 b.2.2.2<|h a w.drew m<|i w p;exact wp_region_any g this
variable {cJ:I Z} {di:I bc} {en:I View}
def CU (ok:az Tmp->aQ) (is:I Z) (S:I Z) (ord:pD) (b:P.follows .mixedOrders=ac) (e:(n4 ok b6.toArray&&(p9 b6.toArray&&(DG b6.toArray.size S&&lR .any b6.toArray S ac ord b6.toArray.size (uc b6.toArray.size au))))=ac) (f:∀c a w d v,ok d=ac->Q (.panic c) (a.put d v) w->Q (.panic c) a w) (h:WU P b6.toArray S (Ws cb cJ (outs is di) en) qi Q n ds l (Ws cb cJ di en) ord):WC P (.region ae b6.toArray ac) Q n ds l<|Ws cb cJ di en:= WC.LX ok S ord b (λ_ h=>h.drew) e f h
def WC.TX (ok:az Tmp->aQ) (is b:I Z) (S:I Z) (ord:pD) (e:P.follows .mixedOrders=ac) (f:(n4 ok b6.toArray&&(p9 b6.toArray&&(DG b6.toArray.size S&&lR .any b6.toArray S ac ord b6.toArray.size (uc b6.toArray.size au))))=ac) (g:∀c a w d v,ok d=ac->Q (.panic c) (a.put d v) w->Q (.panic c) a w) (h:WU P b6.toArray S (Ws cb cJ (outs is di) en) (Ws cb cJ (outs b di) en) Q n ds l (Ws cb cJ di en) ord):WC P (.region ae b6.toArray ac) Q n ds l<|Ws cb cJ di en:= WC.LX ok S ord e (λ_ h=>h.drew) f g h
variable {dE:aQ} {pE:pD} {aH:Z} {lu:Op} {bs:b_} {gk:bg} {gU:bE fw} {gE:az<|Z×aQ}
def WV.q (hi:ops[ae]? = aa ⟨aa aH,lu,bs,gk,gU,gE⟩) (d:eE ops l gE) (e:eB aH n=ac) (hC:∀w,W w->C w) (f:∀w,W w->D w) (g:Yl P l (bif dE then C else D) ⟨aa aH,lu,bs,gk,gU,gE⟩ bn) (h:WU P ops S C D Q n ds ((aH,bn)::l) W pE):WU P ops S C D Q n ds l W<|.q dE ae pE:=by intro a w b c;refine ⟨⟨hC w c,f w c⟩,_,bn,hi,bA ⟨eE.wanted (o:=⟨aa aH,lu,bs,gk,gU,gE⟩) d b,λi j=>g a.eval i (λx u k=>b.eval k) j⟩,h _ _ (b.put e bn) c⟩
def Uq (hi:ops[ae]? = aa ⟨aa aH,lu,bs,gk,gU,gE⟩) (a:eE ops l gE) (b:eB aH n=ac) (hC:∀w,W w->C w) (c:Yl P l (bif dE then C else λ_=>True) ⟨aa aH,lu,bs,gk,gU,gE⟩ bn) (h:WU P ops S C qi Q n ds ((aH,bn)::l) W pE):WU P ops S C qi Q n ds l W<|.q dE ae pE:=WV.q hi a b hC (λ_ _=>trivial) c h
def U0 (hi:ops[ae]? = aa ⟨aa aH,lu,bs,gk,gU,ak⟩) (hC:∀w,W w->C w) (a:Yl P l (bif dE then C else λ_=>True) ⟨aa aH,lu,bs,gk,gU,ak⟩ bn) (h:WU P ops S C qi Q n ds ((aH,bn)::l) W pE) (b:eB aH n=ac:=by rfl):WU P ops S C qi Q n ds l W<|.q dE ae pE:=Uq hi (bA rfl) b hC a h
def WU.skip {j:Z}   {b:Z} (hi:ops[ae]? = aa ⟨aa aH,lu,bs,gk,gU,aa (j,dE)⟩) (f:eB aH n=ac) (g:ops[j]? = aa eR) (i:eR.dst=aa b) (k:eB b n=ac) (m:lk l b=aa (bV<|!dE)) (hC:∀w,W w->C w) (h:WU P ops S C qi Q n ds ((aH,undef)::l) W pE):WU P ops S C qi Q n ds l W<|.q au ae pE:=by
 intro a w c d;have hv:a.tmps.getD b undef = bV (!dE):=c.jn b _ m;have e:b<a.tmps.size:=by rw [c.size];exact r2 k
 have o:a.tmps[b]? = aa (bV<|!dE):=by rw [kZ,wQ e] at hv;rw [wQ e];simpa using hv
 have p:yielded ops a.tmps j=aa (!dE):=by simp [yielded,g,i,o]
 exact ⟨⟨hC w d,trivial⟩,_,undef,hi,bl ⟨by simp [m1,p],O⟩,h _ _ (c.put f undef) d⟩
def LY {d:aN->aL->Prop} (hi:ops[ae]? = aa eR) {a:aN}  (this:wpList P ops (aO.then d Q) [eR] a cb):wpOp P ops Q ae d a cb:=by
 unfold wpList at this;unfold wpOp;simp only [hi];split
 ·rename_i c;rw [aU c] at this;rcases this with this | ⟨f,a2,g,h⟩;·left;unfold jB at this ⊢;unfold ay.upon at this ⊢;split at this;all_goals first|exact this|(refine this.mono λe i b=>?_;cases e with| returned v=>exact b| panicked l=>exact b| outgrown=>obtain ⟨a3,j,k⟩:=b;exact ⟨a3,j,k⟩)|exact this.mono λv i b=>b
  ·exact bl ⟨f,a2,g,h⟩
 ·rename_i c;rw [ao c] at this;exact this
variable {DH:pD}
def WV.e {o:ay} (hi:ops[ae]? = aa o) (hC:∀w,W w->C w) (d:∀w,W w->D w) (h:WL P ops (aO.then (tj P ops S C D Q pE) Q) n ds l W [o]) (f:WU P ops S C D Q n ds l W DH):WU P ops S C D Q n ds l W<|.e ae pE DH:= λa w c b=>⟨⟨hC w b,d w b⟩,LY hi<|h a w c b,f a w c b⟩
def Ue (hi:ops[ae]? = aa eR) (hC:∀w,W w->C w) (h:WL P ops (aO.then (tj P ops S C qi Q pE) Q) n ds l W [eR]) (a:WU P ops S C qi Q n ds l W DH):WU P ops S C qi Q n ds l W<|.e ae pE DH:=WV.e hi hC (λ_ _=>trivial) h a
def WU.stop:WU P ops S C D Q n ds l W .stop:=λ_ _ _ _=>trivial
def Eu (h:WU P ops S C D Q n ds l W pE):WE (aO.then (tj P ops S C D Q pE) Q) .normal n ds l W:=h
def WU.nil (hC:∀w,W w->C w) (h:WS P ops D Q n ds l W S):WU P ops S C D Q n ds l W .nil:=λa w c b=>⟨hC w b,h a w c b⟩
def m8.nil (c:∀w,W w->D w) (h:WE Q .normal n ds l W):WS P ops D Q n ds l W []:=λa w d b=>⟨c w b,h a w d b⟩
def WS.nil (h:WE Q .normal n ds l W):WS P ops qi Q n ds l W []:=m8.nil (λ_ _=>trivial) h
def m8.e {o:ay} (hi:ops[ae]? = aa o) (c:∀w,W w->D w) (h:WL P ops (aO.then (vE P ops D Q cJ) Q) n ds l W [o]):WS P ops D Q n ds l W<|ae::cJ:= λa w d b=>⟨c w b,LY hi<|h a w d b⟩
def WS.e {o:ay} (hi:ops[ae]? = aa o) (h:WL P ops (aO.then (vE P ops qi Q cJ) Q) n ds l W [o]):WS P ops qi Q n ds l W<|ae::cJ:=m8.e hi (λ_ _=>trivial) h
def Es (h:WS P ops D Q n ds l W cJ):WE (aO.then (vE P ops D Q cJ) Q) .normal n ds l W:=h
end
end Go.Bw
end
section
namespace Go.Bw
set_option linter.unnecessarySimpa false
open Go Go.RowKit
def G0 {α:Type} {f:α->I aT} {e:b_} {k c b o:Z} {a:az a0} {xs:I α} {w:aL} (h:(cO e k f a c xs).holds w) (j:a=aa ⟨b,o,ak⟩) : o=0/\∃i,w.heap[b]? = aa (aM i e (0,0))/\i.toList.take (xs.length*k)=xs.flatMap f/\i.size=c*k/\xs.length<=c:=by
 subst j;obtain ⟨t,l⟩:=(h:w.ownsRow 0 e k _ xs.length (xs.flatMap f));rcases l with ⟨d,_⟩ | ⟨g,cap,i,hv,_,m,n,u,p,q⟩;·cases d
 ·injection hv with d _ r;injection d with d;injection d with d s;subst d r s;exact ⟨O,i,m,q,p,n⟩
section
variable {P:aV} {ops:bE ay} {Q:aO->aN->aL->Prop} {n:Z} {ds:I e'} {l:I<|Z×aT} {w0:aL} {F:I Z} {L:I bc} {Vs:I View} {rest:I ay} {ty:b_} {pos:bg} {af:bE fw} {g:az<|Z×aQ}
variable {bW:Type} {dN:bW->I aT} {bs:b_} {ae aH:Z} {b':az a0} {cg:I bW}
def G1 {w:aL} (d:Ws w0 F L Vs w) (i:Z) (hL:L[i]? = aa (cO bs ae dN b' aH cg)) (h:0<cg.length):(∃b,b'=aa ⟨b,0,ak⟩)/\cg.length<=aH/\aH<=maxLen:=by
 obtain ⟨j,e⟩:=(d.kn _<|bu hL:w.ownsRow 0 bs ae _ cg.length (cg.flatMap dN));rcases e with ⟨a,c⟩ | ⟨b,cap,k,hv,_,_,f,g,_⟩;·injection a with _ l _;omega
 ·injection hv with a _ c;subst a c;exact ⟨⟨b,O⟩,f,g⟩
variable {bG:Code}
def WC.r9 (i:Z) (hL:L[i]? = aa (cO bs ae dN b' aH cg)) (c:0<cg.length) (h:∀b,b'=aa ⟨b,0,ak⟩->cg.length<=aH->aH<=maxLen->WC P bG Q n ds l (Ws w0 F L Vs)):WC P bG Q n ds l<|Ws w0 F L Vs:=by intro d w e a;obtain ⟨⟨b,f⟩,g,j⟩:=G1 a i hL c;exact h b f g j d w e a
def WL.r9 (i:Z) (hL:L[i]? = aa (cO bs ae dN b' aH cg)) (c:0<cg.length) (h:∀b,b'=aa ⟨b,0,ak⟩->cg.length<=aH->aH<=maxLen->WL P ops Q n ds l (Ws w0 F L Vs) rest):WL P ops Q n ds l (Ws w0 F L Vs) rest:=by intro d w e a;obtain ⟨⟨b,f⟩,g,j⟩:=G1 a i hL c;exact h b f g j d w e a
def WC.TY (i:Z) (hL:L[i]? = aa (cO bs ae dN b' aH cg)) (h:(∀p,b'=aa p->p.spot=ak)->cg.length<=aH->aH<=maxLen->WC P bG Q n ds l (Ws w0 F L Vs)):WC P bG Q n ds l<|Ws w0 F L Vs:=by
 intro d w e a;obtain ⟨q,g⟩:=(a.kn _<|bu hL:w.ownsRow 0 bs ae _ cg.length (cg.flatMap dN));rcases g with ⟨c,f⟩ | ⟨b,cap,r,hv,_,_,j,k,_⟩;·injection c with m s o;subst m o;exact h aG aj (by unfold maxLen;omega) d w e a
 ·injection hv with c _ f;subst c f;exact h aG j k d w e a
variable {eM:b_} {bn:aT}
def m9 {x:dF} {b o p k c:Z}   {y:bW}  {d:az Tmp} (i j q:Z) (h:b5 l x=aa (b0<|aa ⟨b,p,ak⟩)) (hL:L[i]? = aa (cO eM k dN b' c cg)) (m:b'=aa ⟨b,o,ak⟩) (n:p=o+j*k+q) (e:∀x,(dN x).length=k) (r:cg[j]? = aa y) (f:(dN y)[q]? = aa bn) (s:qR P bs=ac):Yl P l (Ws w0 F L Vs) ⟨d,.load bs x,ty,pos,af,g⟩ bn:=AK s h λw t=>by
 obtain ⟨rfl,A,u,v,B,C⟩:=G0 (t.kn _<|bu hL) m;refine cell_of_heap u ?_;have z:q<k:=by have:=(c_.1 f).1;rw [e] at this;exact this
 have a:(cg.flatMap dN)[j*k+q]? = aa bn:=by rw [oR e r z];exact f
 rw [<-v,b8] at a;split at a;·subst n;simpa [jV] using a
 ·cases a
def WL.storeT {x s:dF} {b o p k d c:Z}   {y:bW}  (i j q:Z) (f:bW) (G:eE ops l g) (H:b5 l x=aa (b0<|aa ⟨b,p,ak⟩)) (J:b5 l s=aa bn) (hL:L[i]? = aa (cO eM k dN b' c cg)) (m:b'=aa ⟨b,o,ak⟩) (K:p=o+j*k+q) (v:∀x,(dN x).length=k) (z:cg[j]? = aa y) (M:eP P bs=aa d) (r:(fh bn).length=d) (N:(fh bn).all (·.oneCell')=ac) (aD:q+d<=k) (R:dN f=(dN y).take q++fh bn++(dN y).drop (q+d)) (h:WL P ops Q n ds l (Ws w0 F (L.set i<|cO eM k dN b' c<|cg.set j f) Vs) rest):WL P ops Q n ds l (Ws w0 F L Vs)<|⟨ak,.store bs x s,ty,pos,af,g⟩::rest:=by
 refine WL.step G λS w t A aE T=>?_;have B:(cO eM k dN b' c cg).holds w:=A.kn _<|bu hL;obtain ⟨rfl,a,C,U,u,V⟩:=G0 B m;have W:j<cg.length:=(c_.1 z).1;have aF:j*k+k<=cg.length*k:=by rw [<-y7];exact nn _ W
 have aH:cg.length*k<=c*k:=nn _ V;have X:qe (aM a eM (0,0)) p d=ac:=by simp only [qe,Ar,Gf,aQ.and_self];exact CT (by simp [u];omega)
 have Y:(execOp S.eval ⟨ak,.store bs x s,ty,pos,af,g⟩).run P w = .ok .skip { w with heap:=w.heap.setIfInBounds b<|lQ (aM a eM (0,0)) p<|fh bn }:=by simp only [execOp,t.eval H,t.eval J,Instr.storeAt,Instr.sureAddr,iN,kK,ie,z3 M r N C X]
 simp only [jB,Y,ay.upon_skip];refine T _ _<|h _ _ (t.yz undef) ?_;have ad:=lt_of_heap C;have D:(cg.set j f).length=cg.length:=aG;have ae:=GK v z (j:=q) (vs:=fh bn) (y:=f) aj (by rw [r];exact R);refine Ws.um A i hL ⟨O,O,O,aG,λag aI ah=>?_⟩ ?_ (by subst m;simp [eK,lq])<|λaJ E=>?_;·have:b≠ag:=λai=>ah (by subst m;simp [eK,lq,ai]);simp [ue this]
 ·show aL.ownsRow _ 0 eM k (aC b' (cg.set j f).length c) (cg.set j f).length _;rw [D];obtain ⟨aK,al⟩:=(B:w.ownsRow 0 eM k _ cg.length (cg.flatMap dN));refine ⟨by rw [hS v,D],bl ?_⟩;rcases al with ⟨ao,_⟩ | ⟨g,cap,aP,hv,aR,aS,ap,aq,aU,aW⟩;·subst m;cases ao
  ·subst m;injection hv with e _ ar;injection e with e;injection e with e;subst e ar;refine ⟨b,c,(a.toList.take p++fh bn++a.toList.drop (p+(fh bn).length)).toArray,O,de _,?_,ap,aq,?_,?_⟩;·show (w.heap.setIfInBounds b _)[b]? = _;simp [ad,lQ]
   ·simp [u];omega
   ·rw [<-ae,<-U];subst K;simp only [k0];have av:a.toList.length=c*k:=by simp [u]
    have aw:((a.toList.take<|cg.length*k).take<|j*k+q)=a.toList.take (j*k+q):=by rw [I.take_take];congr 1;omega
    have aA:(a.toList.take<|j*k+q).length=j*k+q:=by rw [lr,av];omega
    have e:(a.toList.take (j*k+q)++fh bn).length=j*k+q+d:=by rw [e_,aA,r]
    rw [aw,r];have aX:cg.length*k=(j*k+q+d)+(cg.length*k-(j*k+q+d)):=aj;rw [Gg,e,i' (by rw [e];omega),I.drop_take]
 ·refine bA ?_;simp only [eK] at E ⊢;subst m;simpa [lq] using E
def WL.AY (i:Z) (ys:I bW) (hL:L[i]? = aa (cO bs ae dN b' aH cg)) (a:∀x,(dN x).length=ae) (b:ys.length<=cg.length) (c:cg.take ys.length=ys) (h:WL P ops Q n ds l (Ws w0 F (L.set i<|cO bs ae dN b' aH ys) Vs) rest):WL P ops Q n ds l (Ws w0 F L Vs) rest:= WL.TT i ys.length hL a b (by rw [c];exact h)
variable {m5:bc} {di:I bc}
def WL.LZ (h:WL P ops Q n ds l (Ws w0 F (m5::bH di::L) Vs) rest):WL P ops Q n ds l (Ws w0 F (bH (m5::di)::L) Vs) rest:=LW (λ_ h=>h.yR) h
def WL.L0 (h:WL P ops Q n ds l (Ws w0 F (bH (m5::di)::L) Vs) rest):WL P ops Q n ds l (Ws w0 F (m5::bH di::L) Vs) rest:=LW (λ_ h=>h.yS) h
def WC.LZ (h:WC P bG Q n ds l<|Ws w0 F (m5::bH di::L) Vs):WC P bG Q n ds l<|Ws w0 F (bH (m5::di)::L) Vs:=oO (λ_ h=>h.yR) h
def WC.L0 (h:WC P bG Q n ds l<|Ws w0 F (bH (m5::di)::L) Vs):WC P bG Q n ds l<|Ws w0 F (m5::bH di::L) Vs:=oO (λ_ h=>h.yS) h
def WL.perm (a:L.Perm di) (h:WL P ops Q n ds l (Ws w0 F di Vs) rest):WL P ops Q n ds l (Ws w0 F L Vs) rest:=LW (λ_ h=>h.perm a) h
end
end Go.Bw
end
section
namespace Go.Bw
set_option linter.unnecessarySimpa false
open Go Go.RowKit
section
variable {P:aV} {ops:bE ay} {Q:aO->aN->aL->Prop} {n:Z} {ds:I e'} {l:I<|Z×aT} {w0 w:aL} {F:I Z} {L:I bc} {Vs:I View} {rest:I ay} {A:bc} {As:I bc}
def Ws.TZ (h:Ws w0 F L Vs w) (i:Z) (hL:L[i]? = aa (bH<|A::As)):Ws w0 F (L.set i<|bH As) Vs w:=by have a:=(h.perm<|oP i L hL).yR;have b:Ws w0 F (bH As::fR i L) Vs w:=Ws.drop (L:=[A]) a;exact b.perm<|set_perm i L hL
def Ws.Kz (h:Ws w0 F L Vs w) (i:Z) (hL:L[i]? = aa (bH As)) (e:b_) (size:Z):Ws w0 F (L.set i<|bH<|eK e size (aC ak 0 0) 0 []::As) Vs w:=by have a:=(h.perm<|oP i L hL).bJ e size;have b:=a.yS;exact b.perm<|set_perm i L hL
def Ws.av (h:Ws w0 F L Vs w) (i:Z) (hL:L[i]? = aa A):Ws w0 F (A::fR i L) Vs w:=h.perm<|oP i L hL
def WL.KC {t i e:TypeId} {f:Value} {kn k:IntKind} {p d:Nat} {x y:Operand} {ty:TypeId} {pos:String} {af:Array Edge} {g:Option<|Nat×Bool} (m:Nat) (s:eE ops l g) (u:Nat.blt d n=true) (j:hW P t e f 1 p) (v:P.underlying i=some (.int kn)) (z:b5 l x=some (.slice none 0 0)) (A:b5 l y=some (.int k (m:Int))) (B:0<m) (q:m<=maxLen) (C:m*p<=281474976710656) (h:∀b c r,m<=c->c<=maxLen->r.size=c->WL P ops Q n ds ((d,.slice (some ⟨b,0,none⟩) m c)::l) (Ws w0 F (aJ b (.cells r e (0,0))::L) Vs) rest) : WL P ops Q n ds l (Ws w0 F L Vs)<|⟨some d,.call ⟨.builtin .append,#[x,y],#[t,i]⟩,ty,pos,af,g⟩::rest:=by
 refine WL.step s λa w o D R E=>?_;obtain ⟨G,hi,H,S,J⟩:=j.info;have K:=Lib.run_append_nil_zeros (P:=P) w t i ty e G f k kn j.under v hi H m B aj (by unfold maxLen at q;omega) (by rw [J];exact C);have M:(execOp a.eval ⟨some d,.call ⟨.builtin .append,#[x,y],#[t,i]⟩,ty,pos,af,g⟩).run P w = .ok (.value<|.slice (some ⟨w.heap.size,0,none⟩) m<|grownCap w m 0 e) (w.drew.alloc<|.cells (Builtin.zeroCells f.cells m++Builtin.zeroCells f.cells (grownCap w m 0 e-m)) e):=by simp only [execOp,resolve,yb,l_,CR,o.eval z,o.eval A,Sem.run_bind,Sem.run_pure,Result.andThen_ok,invoke,builtin,K]
 simp only [Oper.wp,M,Oper.upon_value];have N:=grownCap_ge w m 0 e;refine E _ _<|h w.heap.size _ (Builtin.zeroCells f.cells m++Builtin.zeroCells f.cells (grownCap w m 0 e-m)) N (grownCap_le_maxLen w m 0 e q) ?_ _ _ (o.put u _) ?_;·have O:f.cells.size=1:=j.zs;simp [Builtin.zeroCells,O];omega
 ·exact D.drew.alloc _
end
section
variable {P:aV} {l:I<|Z×aT} {W:aL->Prop} {d:az Tmp} {ty:b_} {pos:bg} {af:bE fw} {g:az<|Z×aQ}
def DI {t:TypeId} {x:Operand} {a:Option Addr} {n c s:Nat} (b:g1 P t=some s) (f:b5 l x=some (.slice a n c)):Yl P l W ⟨d,.call ⟨.builtin .cap,#[x],#[t]⟩,ty,pos,af,g⟩<|.int .i64 (c:Int):=by intro j w h _;unfold g1 at b;cases e:P.underlying t with| none=>simp [e] at b| some i=>cases i<;>simp [e] at b;simp [execOp,resolve,invoke,builtin,h x _ f,Builtin.cap_,run_underlying e,goInt]
end
end Go.Bw
end
section
namespace Go.Bw
set_option linter.unnecessarySimpa false
open Go Go.RowKit
section
variable {P:aV} {ops:bE ay} {Q:aO->aN->aL->Prop} {n:Z} {ds:I e'} {l:I<|Z×aT} {w0 w:aL} {F:I Z} {L:I bc} {Vs:I View} {rest:I ay} {ty:b_} {pos:bg} {af:bE fw} {g:az<|Z×aQ} {d:Z}
def WL.vF {α:Type} {f:α->I aT} {rd:View->Z->Z->α->Prop} {t e:b_} {T:aT} {size J:Z} {s y:dF} {a a2:az a0} {c c2:Z} {xs ys:I α} (i:Z) (H:aL->View) (K:eE ops l g) (M:eB d n=ac) (j:hW P t e T size J) (N:b5 l s=aa (aC a xs.length c)) (O:b5 l y=aa (aC a2 ys.length c2)) (hL:L[i]? = aa (cO e size f a c xs)) (R:∀w,Ws w0 F L Vs w->Le (H w) w/\Sl rd size (H w) a2 c2 ys) (U:∀H b o x,rd H b o x->ct H b o (f x)) (S:∀x,(f x).length=size) (V:∀x,(f x).all (·.oneCell')=ac) (aI:xs.length+ys.length<=9223372036854775807) (W:(xs.length+ys.length)*J<=140737488355328) (h:∀A B,WL P ops Q n ds ((d,aC A (xs++ys).length B)::l) (Ws w0 F (L.set i<|cO e size f A B<|xs++ys) Vs) rest) : WL P ops Q n ds l (Ws w0 F L Vs)<|⟨aa d,.call ⟨.builtin .append,#[s,y],#[t,t]⟩,ty,pos,af,g⟩::rest:=by
 cases a2 with
 | none=>
  refine WL.step K λX w E q aJ Y=>?_;obtain ⟨ad,hi,aK,aP,aR⟩:=j.info;obtain ⟨_,C⟩:=R w q;have ae:ys=[]:=by cases ys with| nil=>rfl| cons x r=>obtain ⟨b,o,z,_⟩:=C.b7 0 x rfl;cases z
  subst ae;have ag:w.ownsRow 0 e size (aC a xs.length c) xs.length<|xs.flatMap f:=q.kn _<|bu hL;have ah:xs.length<=c:=by
   rcases ag.2 with ⟨ai,_⟩ | ⟨b,cap,aS,hv,_,_,aU,_⟩;·injection ai with _ aW aj;omega
   ·injection hv with _ _ aj;omega
  have al:=run_append_nothing (P:=P) w t t ty e ad j.under hi a xs.length c ah (aC ak 0 c2) ⟨bA ⟨e,j.under⟩,by simp [Builtin.lenOf],run_firstCells_none w _ 0 0 c2,run_firstCells_none w.drew _ 0 0 c2,aG,aG⟩;have ao:(execOp X.eval ⟨aa d,.call ⟨.builtin .append,#[s,y],#[t,t]⟩,ty,pos,af,g⟩).run P w = .ok (.value<|aC a xs.length c) w:=by simp only [execOp,resolve,yb,l_,CR,E.eval N,E.eval O,iN,kK,ie,invoke,builtin,fT,al]
  simp only [jB,ao,ay.upon_value];have ap:i<L.length:=(c_.1 hL).1;have aq:L.set i (cO e size f a c xs)=L:=by rw [<-(c_.1 hL).2];exact Ax ap
  have G:=h a c;simp only [qd] at G;rw [aq] at G;exact Y _ _<|G _ _ (E.put M _) q
 | some p=>
  have ar:(xs.flatMap f)++ys.flatMap f=(xs++ys).flatMap f:=aG;have av:xs.length+ys.length=(xs++ys).length:=aG;refine WL.append i K M j N O hL (news:=ys.flatMap f) (k:=ys.length) (hS S ys) (λw q k u D=>?_) (λu D=>?_) (by unfold maxLen;omega) W λaw _=>?_
  ·obtain ⟨aA,C⟩:=R w q;have aD:=(c_.1 D).1;have aE:0<ys.length:=by cases ys with| nil=>simp at aD| cons x r=>simp
   obtain ⟨b,o,z,_⟩:=C.b7 0 _<|dh aE;injection z with z;subst z;rw [qS];have aF:=j.pos;exact aA.cell<|C.flat S aF (U _) k u D
  ·obtain ⟨x,_,aH⟩:=m3.1 D;exact gw.1 (V x) u aH
  ·rw [ar,av];have hi:i<L.length:=(c_.1 hL).1;refine WL.LK i (m:=(xs++ys).length) (xs:=(xs++ys).flatMap f) (e:=e) (size:=size) (v:=aw) (by simp [hi]) λA B hv=>?_;subst hv;exact h A B
def WL.AZ {ι:Type} {f:jU} {args:bE dF} {ts:bE b_} {vs:I aT} (o:eE ops l g) (p:eB d n=ac) (q:Enters P f) (r:hF l args.toList=aa vs) (v:ι->aT) (c:ι->I bc) (R:ι->Prop) (hC:∀w,Ws w0 F L Vs w->cr P f vs.toArray w λe j=>∃i,e = ax (v i)/\R i/\Ws w [] (c i) [] j) (s:∀i,R i->WL P ops Q n ds ((d,v i)::l) (Ws w0 F (c i++L) Vs) rest) : WL P ops Q n ds l (Ws w0 F L Vs)<|⟨aa d,.call ⟨.value<|.func f,args,ts⟩,ty,pos,af,g⟩::rest:=by
 refine WL.call o p q r v (λi j=>R i/\Ws w0 F (c i++L) Vs j) (λw b=>(hC w b).mono λe j ⟨i,t,u,h⟩=>⟨i,t,u,?_⟩) λi=>?_
 ·exact Ws.w3 (L:=[]) (L':=c i) (L2:=L) (by simpa using b) (by simpa using h.fr) h.kn h.nd (λx y k z=>by
   rcases h.own x y k z with m | m;·simp at m
   ·exact bl m)
 ·intro a w A b;exact s i b.1 a w A b.2
end
end Go.Bw
end
section
namespace Go.Bw
set_option linter.unnecessarySimpa false
open Go Go.RowKit
section
variable {P:aV} {ops:bE ay} {Q:aO->aN->aL->Prop} {n:Z} {ds:I e'} {l:I<|Z×aT} {w0:aL} {F:I Z} {L:I bc} {Vs:I View} {rest:I ay} {c:Code} {ty:b_} {pos:bg} {af:bE fw} {g:az<|Z×aQ}
variable {kr:aL->Prop}
def WC.fact {p:Prop}  (d:∀w,kr w->p) (h:p->WC P c Q n ds l kr):WC P c Q n ds l kr:=λa w e b=>h (d w b) a w e b
def WL.fact {p:Prop}  (c:∀w,kr w->p) (h:p->WL P ops Q n ds l kr rest):WL P ops Q n ds l kr rest:=λa w d b=>h (c w b) a w d b
variable {bW:Type} {bs:b_} {cb:aL}
def Ws.qZ {f:bW->I aT} {k b c:Z}  {xs:I bW}  (h:Ws w0 F L Vs cb) (i:Z) (hL:L[i]? = aa (aJ b<|aM (xs.flatMap f).toArray bs (0,0))) (d:∀x,(f x).length=k) (a:xs.length=c) (g:c<=maxLen):Ws w0 F (L.set i<|cO bs k f (aa ⟨b,0,ak⟩) c xs) Vs cb:=by
 have e:=h.Hl i hL (m:=c) (cap:=c) (size:=k) (eC _) g (by simp [hS d,a]);have j:eK bs k (aC (aa ⟨b,0,ak⟩) c c) c ((xs.flatMap f).toArray.toList.take<|c*k)=cO bs k f (aa ⟨b,0,ak⟩) c xs:=by show _=eK bs k (aC (aa ⟨b,0,ak⟩) xs.length c) xs.length (xs.flatMap f);rw [a,i' (by rw [I.toList_toArray,hS d,a];exact eC _)]
 rw [j] at e;exact e
def WC.A0 {ι:Type} {x y:Code}  (b:ι->I (Z×aT)) (Wi:ι->aL->Prop) (R:ι->Prop) (d:WC P x (aO.then (λa w=>∃i,R i/\Ag n ds (b i) a/\Wi i w) Q) n ds l kr) (f:∀i,R i->WC P y Q n ds (b i) (Wi i)):WC P (.seq x y) Q n ds l kr:=by intro a w g h;refine wp_seq<|wp_mono (d a w g h) λe j k c=>?_;cases e with| normal=>obtain ⟨i,m,o,p⟩:=c;exact f i m j k o p| _=>exact c
def Em {Q:aO->aN->aL->Prop}  {b:bW->I (Z×aT)} {Wi:bW->aL->Prop} {R:bW->Prop} (i:bW) (c:R i) (d:∀p ∈ b i,lk l p.1=aa p.2) (e:∀w,kr w->Wi i w) : WE (aO.then (λa w=>∃i,R i/\Ag n ds (b i) a/\Wi i w) Q) .normal n ds l kr:=λa w f g=>⟨i,c,f.sub d,e w g⟩
def jo {ι:Type} {Q:aO->aN->aL->Prop} {W:aL->Prop} {b:ι->I (Z×aT)} {Wi:ι->aL->Prop} {R:ι->Prop} (i:ι) (c:R i) (d:∀w,W w->Wi i w) (e:yA l (b i)=yB (b i):=by rfl):WE (aO.then (λa w=>∃i,R i/\Ag n ds (b i) a/\Wi i w) Q) .normal n ds l W:=Em i c (AG e) d
def G2 {a:bc} (i:Z) (hL:L[i]? = aa a):L.set i a=L:=by rw [<-(c_.1 hL).2];exact Ax (c_.1 hL).1
def WL.oW {a A':bc} (i:Z) (hL:L[i]? = aa a) (b:a=A') (h:WL P ops Q n ds l (Ws w0 F (L.set i A') Vs) rest):WL P ops Q n ds l (Ws w0 F L Vs) rest:=by subst b;rwa [G2 i hL] at h
def WC.oW {a A':bc} (i:Z) (hL:L[i]? = aa a) (b:a=A') (h:WC P c Q n ds l<|Ws w0 F (L.set i A') Vs):WC P c Q n ds l<|Ws w0 F L Vs:=by subst b;rwa [G2 i hL] at h
def Ws.oW {a A':bc} (h:Ws w0 F L Vs cb) (i:Z) (hL:L[i]? = aa a) (b:a=A'):Ws w0 F (L.set i A') Vs cb:=by subst b;rwa [G2 i hL]
variable {dN:bW->I aT} {b':az a0}
def T1 {t e:b_} {x:dF} {b o p k c:Z}  {xs:I bW} {y:bW} {v:aT} {d:az Tmp} {As:I bc} (i j q:Z) (m:b5 l x=aa (b0<|aa ⟨b,p,ak⟩)) (hL:L[i]? = aa (bH As)) (n:cO e k dN b' c xs ∈ As) (r:b'=aa ⟨b,o,ak⟩) (s:p=o+j*k+q) (f:∀x,(dN x).length=k) (u:xs[j]? = aa y) (h:(dN y)[q]? = aa v) (z:qR P t=ac):Yl P l (Ws w0 F L Vs) ⟨d,.load t x,ty,pos,af,g⟩ v:=AK z m λw A=>by
 have B:(cO e k dN b' c xs).holds w:=(A.kn _<|bu hL:(bH As).holds w) _ n;obtain ⟨rfl,G,C,D,H,J⟩:=G0 B r;refine cell_of_heap C ?_;have E:q<k:=by have:=(c_.1 h).1;rw [f] at this;exact this
 have a:(xs.flatMap dN)[j*k+q]? = aa v:=by rw [oR f u E];exact h
 rw [<-D,b8] at a;split at a;·subst s;simpa [jV] using a
 ·cases a
variable {ae aH:Z} {cg:I bW}
def L3 {As:I bc} (d:Ws w0 F L Vs cb) (i:Z) (hL:L[i]? = aa (bH As)) (e:cO bs ae dN b' aH cg ∈ As) (g:0<cg.length):∃b o,b'=aa ⟨b,o,ak⟩:=by
 obtain ⟨h,f⟩:=((d.kn _<|bu hL:(bH As).holds cb) _ e:cb.ownsRow 0 bs ae _ cg.length (cg.flatMap dN));rcases f with ⟨a,c⟩ | ⟨b,cap,j,hv,_,_,k,l,_⟩;·injection a with _ m _;omega
 ·injection hv with a _ c;subst a c;exact ⟨b,0,O⟩
def DJ (a:Ws w0 F L Vs cb) (i:Z) (hL:L[i]? = aa (cO bs ae dN b' aH cg)) (c:0<cg.length):∃b o,b'=aa ⟨b,o,ak⟩:=by obtain ⟨⟨b,h⟩,_⟩:=G1 a i hL c;exact ⟨b,0,h⟩
end
section
variable {P:aV} {l:I<|Z×aT} {W:aL->Prop} {d:az Tmp} {ty:b_} {pos:bg} {af:bE fw} {g:az<|Z×aQ}
variable {bs eM:b_} {bC aE:dF} {fd:IntKind} {aP cp:ab}
def T2 (a:b5 l bC=aa (an fd aP)) (b:b5 l aE=aa (an fd cp)) (h:aP<cp):Yl P l W ⟨d,.binOp .lss bs bC aE eM,ty,pos,af,g⟩<|bV ac:=by have:=cP (P:=P) (W:=W) (d:=d) (ty:=ty) (pos:=pos) (af:=af) (g:=g) (t:=bs) (u:=eM) a b;rwa [show decide (aP<cp)=ac by simpa using h] at this
def T3 (a:b5 l bC=aa (an fd aP)) (b:b5 l aE=aa (an fd cp)) (h:cp<=aP):Yl P l W ⟨d,.binOp .lss bs bC aE eM,ty,pos,af,g⟩<|bV au:=by have:=cP (P:=P) (W:=W) (d:=d) (ty:=ty) (pos:=pos) (af:=af) (g:=g) (t:=bs) (u:=eM) a b;rwa [show decide (aP<cp)=au by simp;omega] at this
end
section
variable {P:aV} {l:I<|Z×aT} {W:aL->Prop} {d:az Tmp} {ty:b_} {pos:bg} {af:bE fw} {g:az<|Z×aQ}
def yV (v:aT) (b:aQ):Prop:=(b=ac->v = .nilIface)/\(b=au->∃t x,v = .iface t x)
def L4 {t u:b_} {x:dF} {v:aT} (b:aQ) (c:P.underlying t=aa (.interface<|P.methodsAt t)) (e:b5 l x=aa v) (f:yV v b):Yl P l W ⟨d,.binOp .eql t x (.const .nilIface) u,ty,pos,af,g⟩<|bV b:=by
 intro j w a _;have i:j (.const .nilIface) = .nilIface:=a _ _ rfl;cases b with
 | true=>obtain rfl:=f.1 rfl;simp only [execOp,a x _ e,i,iN];simp [eqGuard_nil_constR,run_eql_nil_nil (h:=c)]
 | false=>
  obtain ⟨s,y,rfl⟩:=f.2 rfl;have k:(eqGuard .eql t x (.const .nilIface) (.iface s y) .nilIface)=pure ():=by cases x<;>rfl
  simp only [execOp,a x _ e,i,iN,k];simp [run_eql_held_nil (h:=c)]
end
variable {ig:aV} {ae:Z}
def WL.wk {ops:bE ay} {Q:aO->aN->aL->Prop}  {ds:I e'} {l:I<|Z×aT} {W W':aL->Prop} {rest:I ay} (b:∀w,W w->W' w) (h:WL ig ops Q ae ds l W' rest):WL ig ops Q ae ds l W rest:=λa w c d=>h a w c<|b w d
structure G4 (P:aV) (gp gs gr:Z) (H:View):Prop where
 pow:∃t f,H gp=aa (aM (Lib.pow10Tab.map λz=>aT.int .u64 z).toArray t f)
 T6:∃ev,vc H gs 0=aa ev/\(ev = .nilIface\/∃te pe,ev = .iface te pe)
 T7:∃ev,vc H gr 0=aa ev/\(ev = .nilIface\/∃te pe,ev = .iface te pe)
variable {cb:aL} {gk:bg}
def G4.A1 {a b c:Z} {H:View} (h:G4 ig a b c H)  (d:Le H cb)  (e:ig.globalNamed gk=aa a):Lib.TabIs ig cb gk .u64 Lib.pow10Tab:=by obtain ⟨t,f,g⟩:=h.pow;unfold Lib.TabIs aL.var?;rw [e];simp [d _ _ g]
def T8 (a:Lib.TabIs ig cb gk .u64 Lib.pow10Tab) (c:ig.globalNamed gk=aa ae):∃t f,hv cb ae=aa (aM (Lib.pow10Tab.map λd=>aT.int .u64 d).toArray t f):=by unfold Lib.TabIs aL.var? at a;rw [c] at a;simp only [cF] at a;cases b:cb.heap[ae]? with| none=>simp [b] at a| some o=>cases o with| cells cs t f=>simp only [b,gi] at a;subst a;exact ⟨t,f,b⟩| _=>simp [b] at a
def T9 (w:aL) (k:Z) (os:bE Obj):Ext w<|Go.Sort.grow (w.drewN k) os:=by refine ⟨O,O,O,by simp [Go.Sort.grow,aL.drewN],λb a _=>?_⟩;simp [Go.Sort.grow,aL.drewN,CP,a]
structure r' {κ:Type} [BEq κ] [LawfulBEq κ] (kd:TypeDesc) (kv:κ->aT):Prop where
 same:∀a b,Instr.sameNow kd (kv a) (kv b)=aa (a==b)
 isKey:∀a,MapKept.IsKey kd (kv a)
def me:r' (.int .i64)<|λn:Int=>Value.int .i64 n:=⟨λa b=>by simp [Instr.sameNow],λa=>by simp [MapKept.IsKey]⟩
def i2:r' .string st:=⟨λa b=>by simp only [st,Instr.sameNow,CL],λa=>by simp [MapKept.IsKey,st]⟩
section
variable {κ:Type} {kv:κ->aT}
abbrev fe (κ:Type):=κ×aT×Z
def pF (a:κ->aT) (e:fe κ):MapEntry:={ key:=a e.1,val:=e.2.1,born:=e.2.2 }
def dH (a:κ->aT) (m:I<|fe κ) (c:Z):Obj:=.map (m.map<|pF a).toArray c
def T' (m:I<|fe κ) (j:Z) (k:κ) (v:aT):(m.map<|pF kv).modify j (λe=>{ e with key:=kv k,val:=v })=(m.modify j λe=>(k,v,e.2.2)).map (pF kv):=by apply r3;intro i;simp only [yt,gh];cases m[i]? with| none=>simp| some e=>by_cases h:j=i<;>simp [h,pF]
variable {P:aV} {ops:bE ay} {Q:aO->aN->aL->Prop} {n:Z} {ds:I e'} {l:I<|Z×aT} {w0:aL} {F:I Z} {L:I bc} {Vs:I View} {rest:I ay} {d:Z} {ty:b_} {pos:bg} {af:bE fw} {g:az<|Z×aQ}
def WL.oX {t:b_} (a:κ->aT) (c:eE ops l g) (e:eB d n=ac) (h:∀b,WL P ops Q n ds ((d,.map<|aa b)::l) (Ws w0 F (aJ b (dH a [] 0)::L) Vs) rest) : WL P ops Q n ds l (Ws w0 F L Vs)<|⟨aa d,.makeMap t ak,ty,pos,af,g⟩::rest:= WL.new (mk:=λb=>.map<|aa b) (o:=dH a [] 0) c e (λf w _ _=>by simp only [execOp];simp [Instr.makeMap,dH]) h
end
section
variable {κ:Type} [BEq κ] [LawfulBEq κ] {kd:TypeDesc} {kv:κ->aT}
def dU (k:κ):I (fe κ)->Z->az (Z×aT)| [],_=>ak| e::r,i=>if (k==e.1)=ac then aa (i,e.2.1) else dU k r (i+1)
def bB (k:κ) (v:aT) (m:I<|fe κ) (c:Z):I<|fe κ:=match dU k m 0 with| aa (i,_)=>m.modify i λe=>(k,v,e.2.2)| ak=>m++[(k,v,c)]
def jG (k:κ) (m:I<|fe κ) (c:Z):Z:=match dU k m 0 with| aa _=>c| ak=>c+1
def hj (k:κ) (m:I<|fe κ) (a:aT):aT:=match dU k m 0 with| aa (_,v)=>v| ak=>a
def qj (k:κ) (m:I<|fe κ):aQ:=(dU k m 0).isSome
def G7 (a:r' kd kv) (k:κ):∀(m:I<|fe κ) (i:Z),Instr.findNow kd (kv k) (m.map<|pF kv) i=aa (dU k m i)
 | [],_=>rfl
 | e::r,i=>by
  simp only [l_,Instr.findNow,pF,a.same,dU];cases h:(k==e.1);·simp only [dP,dq];exact G7 a k r<|i+1
  ·simp
def L5 (k:κ) (j:Z) (b:aT):∀(m:I<|fe κ) (a:Z),dU k m a=aa (j,b)->a<=j/\(m[j-a]?).map (·.1)=aa k
 | [],a,h=>by simp [dU] at h
 | e::r,a,h=>by
  simp only [dU] at h;split at h;·rename_i c;injection h with h;injection h with d f;subst d;simp at c;simp [c]
  ·obtain ⟨d,f⟩:=L5 k j b r (a+1) h;refine ⟨aj,?_⟩;have:j-a=(j-(a+1))+1:=aj;rw [this];simpa using f
variable {P:aV} {ops:bE ay} {Q:aO->aN->aL->Prop} {n:Z} {ds:I e'} {l:I<|Z×aT} {w0:aL} {F:I Z} {L:I bc} {Vs:I View} {rest:I ay} {d:Z} {ty:b_} {pos:bg} {af:bE fw} {g:az<|Z×aQ}
variable {bs eM oT:b_} {aH:Z} {bn:aT}
def DK {m:I<|fe κ} {k:κ}  (b:aQ) (c:r' kd kv) (e:P.underlying bs=aa (.map eM oT)) (d:P.underlying eM=aa kd) (f:zeroOf P oT=aa bn) (a:cb.heap[ae]? = aa (dH kv m aH)) : (Instr.lookup bs (.map<|aa ae) (kv k) b).run P cb = .ok (if b=ac then cN #[hj k m bn,bV (qj k m)] else hj k m bn) cb:=by have g:=G7 c k m 0;have a:cb.heap[ae]? = aa (.map (m.map<|pF kv).toArray aH):=a;have h:(Instr.checkKey (m.map<|pF kv).toArray.isEmpty 10000 eM<|kv k).run P cb = .ok () cb:=MapKept.run_checkKey (k:=kv k) d (c.isKey k) _ 9999;simp only [Instr.lookup,iN,run_underlying e,ie,MapKept.run_getObj_map a,kK,h];rw [MapKept.run_findKey d (by simpa using g)];unfold hj qj;cases j:dU k m 0 with| none=>simp [ie,w4 f]| some r=>obtain ⟨i,v⟩:=r;simp [ie]
variable {j':az Tmp} {bC aE:dF}
def qk {m:I<|fe κ} {k:κ}  (i:Z) (b:r' kd kv) (c:P.underlying bs=aa (.map eM oT)) (d:P.underlying eM=aa kd) (e:zeroOf P oT=aa bn) (f:b5 l bC=aa (.map<|aa ae)) (h:b5 l aE=aa (kv k)) (hL:L[i]? = aa (aJ ae<|dH kv m aH)) : Yl P l (Ws w0 F L Vs) ⟨j',.lookup bs bC aE au,ty,pos,af,g⟩<|hj k m bn:=by intro n w a j;simp [execOp,a bC _ f,a aE _ h,DK (P:=P) (k:=k) au b c d e (j.kn _<|bu hL:w.heap[ae]? = aa (dH kv m aH))]
def DL {m:I<|fe κ} {k:κ}  (i:Z) (b:r' kd kv) (c:P.underlying bs=aa (.map eM oT)) (d:P.underlying eM=aa kd) (e:zeroOf P oT=aa bn) (f:b5 l bC=aa (.map<|aa ae)) (h:b5 l aE=aa (kv k)) (hL:L[i]? = aa (aJ ae<|dH kv m aH)) : Yl P l (Ws w0 F L Vs) ⟨j',.lookup bs bC aE ac,ty,pos,af,g⟩<|cN #[hj k m bn,bV (qj k m)]:=by intro n w a j;simp [execOp,a bC _ f,a aE _ h,DK (P:=P) (k:=k) ac b c d e (j.kn _<|bu hL:w.heap[ae]? = aa (dH kv m aH))]
def L6 {t a e:b_}  {m:I<|fe κ} {k:κ}  (b:r' kd kv) (h:P.underlying t=aa (.map a e)) (g:P.underlying a=aa kd) (i:cb.heap[ae]? = aa (dH kv m aH)) : (Instr.mapUpdate t (.map<|aa ae) (kv k) bn).run P cb = .ok () { cb with heap:=cb.heap.setIfInBounds ae<|dH kv (bB k bn m aH)<|jG k m aH }:=by
 have c:cb.heap[ae]? = aa (.map (m.map<|pF kv).toArray aH):=i;have l:=G7 b k m 0;have n:(Instr.checkKey au 10000 a<|kv k).run P cb = .ok () cb:=MapKept.run_checkKey (k:=kv k) g (b.isKey k) _ 9999;simp only [Instr.mapUpdate,iN,run_underlying h,ie,MapKept.run_getObj_map c,kK,n];rw [MapKept.run_findKey g (by simpa using l)];unfold bB jG;cases o:dU k m 0 with
 | none=>simp [ie,MapKept.run_setObj_map _ c,dH,pF]
 | some r=>
  obtain ⟨j,p⟩:=r;have d:m[j]?.map (·.1)=aa k:=by simpa using (L5 k j p m 0 o).2
  have q:((((m.map<|pF kv).toArray)[j]?).map (·.key)).getD (kv k)=kv k:=by cases f:m[j]? with| none=>simp [f]| some e=>rw [f] at d;simp at d;simp [f,pF,d]
  simp only [q,ie];simp only [iN,MapKept.run_keyThatStays<|b.isKey k,ie,MapKept.run_setObj_map _ c,dH];have s:(m.map<|pF kv).toArray.modify j (λe=>{ e with key:=kv k,val:=bn })=((m.modify j λe=>(k,bn,e.2.2)).map<|pF kv).toArray:=by apply vr;rw [KX];exact T' m j k bn
  rw [s]
variable {j9:dF}
def WL.ql {t c e:b_}   {m:I<|fe κ} {k:κ}  (i:Z) (o:r' kd kv) (p:eE ops l g) (q:P.underlying t=aa (.map c e)) (r:P.underlying c=aa kd) (s:b5 l bC=aa (.map<|aa ae)) (u:b5 l aE=aa (kv k)) (v:b5 l j9=aa bn) (hL:L[i]? = aa (aJ ae<|dH kv m aH)) (h:WL P ops Q n ds l (Ws w0 F (L.set i<|aJ ae<|dH kv (bB k bn m aH)<|jG k m aH) Vs) rest) : WL P ops Q n ds l (Ws w0 F L Vs)<|⟨ak,.mapUpdate t bC aE j9,ty,pos,af,g⟩::rest:=by
 refine WL.step p λa w b d A x=>?_;have f:w.heap[ae]? = aa (dH kv m aH):=d.kn _<|bu hL;have y:(execOp a.eval ⟨ak,.mapUpdate t bC aE j9,ty,pos,af,g⟩).run P w = .ok .skip { w with heap:=w.heap.setIfInBounds ae<|dH kv (bB k bn m aH)<|jG k m aH }:=by simp only [execOp,b.eval s,b.eval u,b.eval v,iN,L6 o q r f,ie,kK]
 simp only [jB,y,ay.upon_skip];refine x _ _<|h _ _ (b.yz undef) ?_;refine Ws.um d i hL ⟨O,O,O,aG,λj B z=>?_⟩ ?_ (by simp [aJ]) (by simp [aJ]);·have:ae≠j:=λe=>z (by simp [aJ,e]);simp [ue this]
 ·show (w.heap.setIfInBounds ae _)[ae]? = _;simp [lt_of_heap f]
def WL.oY {t c e:b_}   {m:I<|fe κ} {k:κ}  (i:Z) (o:r' kd kv) (p:eE ops l g) (q:P.underlying t=aa (.map c e)) (r:P.underlying c=aa kd) (s:b5 l bC=aa (.map<|aa ae)) (u:b5 l aE=aa (kv k)) (v:b5 l j9=aa bn) (hL:L[i]? = aa (aJ ae<|dH kv m aH)) (h:WL P ops Q n ds l (Ws w0 F (L.set i<|aJ ae<|dH kv (bB k bn m aH)<|jG k m aH) Vs) rest) : WL P ops Q n ds l (Ws w0 F L Vs)<|⟨ak,.insert t bC aE j9,ty,pos,af,g⟩::rest:=by
 refine WL.step p λa w b d A x=>?_;have f:w.heap[ae]? = aa (dH kv m aH):=d.kn _<|bu hL;have y:(execOp a.eval ⟨ak,.insert t bC aE j9,ty,pos,af,g⟩).run P w = .ok .skip { w with heap:=w.heap.setIfInBounds ae<|dH kv (bB k bn m aH)<|jG k m aH }:=by simp only [execOp,b.eval s,b.eval u,b.eval v,iN,L6 o q r f,ie,kK]
 simp only [jB,y,ay.upon_skip];refine x _ _<|h _ _ (b.yz undef) ?_;refine Ws.um d i hL ⟨O,O,O,aG,λj B z=>?_⟩ ?_ (by simp [aJ]) (by simp [aJ]);·have:ae≠j:=λe=>z (by simp [aJ,e]);simp [ue this]
 ·show (w.heap.setIfInBounds ae _)[ae]? = _;simp [lt_of_heap f]
end
def xb (P:aV) (t:b_):az<|Z×Z:=match P.underlying t with| aa<|.array n e=>(P.info? e).map λi=>(n,i.size)| _=>ak
def DM (P:aV) (t:b_):az Z:=match P.underlying t with| aa<|.array n e=>if qR P e=ac/\(P.info? e).map (·.size)=aa 1 then aa n else ak| _=>ak
section
variable {P:aV} {l:I<|Z×aT} {W:aL->Prop} {d:az Tmp} {ty:b_} {pos:bg} {af:bE fw} {g:az<|Z×aQ}
variable {bs:b_} {bC aE:dF} {fd:IntKind}
def xc {b o n s:Z}  {i:Z} (a:xb P bs=aa (n,s)) (h:b5 l bC=aa (b0<|aa ⟨b,o,ak⟩)) (j:b5 l aE=aa (an fd (i:ab))) (k:i<n) : Yl P l W ⟨d,.indexAddr bs bC aE,ty,pos,af,g⟩<|b0<|aa ⟨b,o+i*s,ak⟩:=by intro u w f _;unfold xb at a;cases c:P.underlying bs with| none=>simp [c] at a| some p=>cases p<;>simp [c] at a;rename_i m e;obtain ⟨v,hi,q,r⟩:=a;subst q r;have t:(i:ab)<(m:ab):=aj;simp [execOp,f bC _ h,f aE _ j,Instr.indexAt,run_underlying c,asIntOf,t,k,sizeOf,typeInfo,hi,qS,Instr.sureAddr]
def G8 {n:Z} {cs:bE aT}  {i:Z} {v:aT} (a:DM P bs=aa n) (f:b5 l bC=aa (bU cs)) (h:b5 l aE=aa (an fd (i:ab))) (j:i<n) (hv:cs[i]? = aa v) : Yl P l W ⟨d,.index bs bC aE,ty,pos,af,g⟩ v:=by
 intro u w c _;unfold DM at a;cases b:P.underlying bs with
 | none=>simp [b] at a
 | some k=>
  cases k<;>simp [b] at a;rename_i m e;obtain ⟨⟨o,p,hi,q⟩,rfl⟩:=a;have r:(i:ab)<(m:ab):=aj;have s:=zX o w;have t:(part e cs<|i*p.size).run P w = .ok v w:=by simp [part,s,q,hv]
  simp [execOp,c bC _ f,c aE _ h,Instr.index,run_underlying b,asIntOf,r,j,sizeOf,typeInfo,hi,t]
end
end Go.Bw
end
section
namespace Go.Bw
open Go
structure Tok where
 kind:ab
 n:ab
 text:I a7
deriving DecidableEq
def Tok.cells (t:Tok):I aT:=[an am t.kind,an am t.n,st t.text]
def Tok.dA (x:Tok):x.cells.length=3:=rfl
def aZ (H:View) (b o:Z) (x:Tok):Prop:=ct H b o x.cells
def oZ (u:ab):aQ:=decide (97<=u)&&decide (u<=122)
def A2 (u:ab):aQ:=decide (48<=u)&&decide (u<=57)
def lS (u:a7):aQ:=oZ u.toNat||A2 u.toNat
def gm (s:I a7):aQ:=(decide (1<=s.length)&&decide (s.length<=8))&&oZ ((s[0]?.getD 0).toNat)&&s.all lS
def uz:I a7:=[123,125,40,41,91,93,44,59,61,46,43,45,42,47,37,60,33,38,124]
def o0 (u:a7):aQ:=uz.contains u
def hH:I a7->Z| []=>0| c::r=>if lS c=ac then hH r+1 else 0
def xd (s:I a7):az Z:=match Lib.decNat s with| aa n=>if n<=1099511627775/\kY n=s then aa n else ak| ak=>ak
def r_ (s:I a7):az Tok:=if gm s=ac then aa ⟨1,0,s⟩ else (xd s).map (λn:Z=>(⟨2,(n:ab),[]⟩:Tok))
def n8:Z->I a7->az (I Tok)| _,[]=>aa []| 0,_::_=>ak| f+1,c::r=> if 0<hH (c::r) then match r_<|(c::r).take<|hH<|c::r with| aa t=>(n8 f<|(c::r).drop<|hH<|c::r).map (t::·)| ak=>ak else if o0 c=ac then (n8 f r).map (⟨3,0,[c]⟩::·) else if c=32\/c=10 then n8 f r else ak
def iE (s:I a7):az<|I Tok:=n8 s.length s
def g4 (s:I a7):I Tok×ab:=if 4096<s.length then ([],2) else match iE s with| aa l=>(l,0)| ak=>([],1)
def qm (t:Tok):aQ:=decide (1<=t.kind)&&decide (t.kind<=3)
def jW (t:Tok):aQ:=if t.kind=1 then t.n==0&&gm t.text else if t.kind=2 then t.text==[]&&(decide (0<=t.n)&&decide (t.n<=1099511627775)) else t.n==0&&(t.text.length==1&&o0 (t.text[0]?.getD 0))
def DN (t:Tok):aQ:=!qm t
def DO (t:Tok):aQ:=!jW t
def A3 (l:I Tok):ab:=if l.any DN=ac then 4 else if l.any DO=ac then 1 else if 4096<l.length then 2 else 0
def cj (t:Tok):I a7:=if t.kind=2 then hO t.n else t.text
def jX (l:I Tok):I a7:=Lib.join (l.map cj) [32]
def L7:∀s:I a7,hH s<=s.length| []=>eC _| c::r=>by have:=L7 r;unfold hH;split<;>simp<;>omega
def L8 (b:I a7) (c:a7) (d:lS c=au):∀a:I a7,hH (a++c::b)=hH a| []=>by simp [hH,d]| x::a=>by rw [hx];unfold hH;rw [L8 b c d a]
def G9:∀(s:I a7) (n:Z),n<=s.length->(∀j,j<n->lS (s[j]?.getD 0)=ac)->(n=s.length\/lS (s[n]?.getD 0)=au)->hH s=n
 | [],n,h,_,_=>by simp at h;subst h;rfl
 | c::r,0,_,_,h=>by
  have:lS c=au:=by
   rcases h with h | h;·simp at h
   ·simpa using h
  simp [hH,this]
 | c::r,n+1,b,a,h=>by
  have d:lS c=ac:=by simpa using a 0 aj
  rw [hH,aU d,G9 r n (by simpa using b) (λj e=>by simpa using a (j+1) aj) (by rcases h with h | h;left;simpa using h;right;simpa using h)]
variable {be:I a7}
def L9 (h:be.all lS=ac):hH be=be.length:=by refine G9 be be.length (eC _) (λj a=>?_) Y;rw [dh a];exact gw.1 h _<|CX a
def G':∀(f g:Z) (s:I a7),s.length<=f->s.length<=g->n8 f s=n8 g s
 | _,_,[],_,_=>by simp [n8]| 0,_,_::_,h,_=>by simp at h| _+1,0,_::_,_,h=>by simp at h
 | f+1,g+1,c::r,a,b=>by
  simp only [eL] at a b;unfold n8;rw [G' f g r aj aj];by_cases d:0<hH (c::r);·rw [G' f g ((c::r).drop<|hH<|c::r) (by simp;omega) (by simp;omega)]
  ·simp only [ao d]
def A4:iE []=aa []:=rfl
def xe {s:I a7} (h:0<hH s):iE s=match r_<|s.take<|hH s with| aa t=>(iE<|s.drop<|hH s).map (t::·)| ak=>ak:=by cases s with| nil=>simp [hH] at h| cons c r=>show n8 (r.length+1) (c::r)=_;rw [n8,aU h];unfold iE;rw [G' r.length ((c::r).drop<|hH<|c::r).length _ (by simp;omega)<|eC _]
variable {g3:a7}
def A5 (h:hH (g3::be)=0) (a:o0 g3=ac):iE (g3::be)=(iE be).map (⟨3,0,[g3]⟩::·):=by show n8 (be.length+1) (g3::be)=_;rw [n8,ao aj,aU a];rfl
def A6 (h:hH (g3::be)=0) (a:o0 g3=au) (b:g3=32\/g3=10):iE (g3::be)=iE be:=by show n8 (be.length+1) (g3::be)=_;rw [n8,ao aj,ao (by simp [a]),aU b];rfl
def DP (h:hH (g3::be)=0) (a:o0 g3=au) (b:¬(g3=32\/g3=10)):iE (g3::be)=ak:=by show n8 (be.length+1) (g3::be)=_;rw [n8,ao aj,ao (by simp [a]),ao b]
def T_:∀u:a7,o0 u=ac->lS u=au:=by have h:∀u ∈ uz,lS u=au:=a';intro u a;exact h u (by simpa [o0] using a)
def G_:∀(k:Z) (a b:I a7),a.length<=k->iE (a++32::b)=(iE a).bind λl=>(iE b).map (l++·)
 | _,[],b,_=>by have g:lS 32=au:=a';rw [s7,A6 (by simp [hH,g]) a'<|bA rfl];simp only [A4,cF,s7];cases iE b<;>rfl| 0,_::_,_,h=>by simp at h
 | k+1,c::r,b,j=>by
  have g:lS 32=au:=a';have m:=L8 b 32 g<|c::r;have n:=L7<|c::r;by_cases p:0<hH (c::r);·rw [xe (s:=(c::r)++32::b) aj,xe p,m,Gh n,I.drop_append_of_le_length n];cases r_ ((c::r).take<|hH<|c::r) with| none=>rfl| some t=>simp only;rw [G_ k ((c::r).drop<|hH<|c::r) b (by simp at j ⊢;omega)];cases iE ((c::r).drop<|hH<|c::r)<;>simp;cases iE b<;>simp
  ·have e:hH (c::r)=0:=aj;have i:hH (c::(r++32::b))=0:=by rw [<-hx,m];exact e
   have o:=G_ k r b (by simpa using j);rw [hx];cases d:o0 c with
   | true=>rw [A5 i d,A5 e d,o];cases iE r<;>simp;cases iE b<;>simp
   | false=>
    by_cases f:c=32\/c=10;·rw [A6 i d f,A6 e d f,o]
    ·rw [DP i d f,DP e d f];rfl
def Ha (d:Z) (f:d<10):∀(l:I a7) (a n:Z),Lib.decFrom a l=aa n->Lib.decFrom a (l++[a7.ofNat<|48+d])=aa (n*10+d)
 | [],a,n,h=>by
  simp only [Lib.decFrom,gi] at h;subst h;have e:(a7.ofNat<|48+d).toNat=48+d:=by simp [KZ];omega
  have:Lib.digitVal (a7.ofNat<|48+d)=aa d:=by unfold Lib.digitVal;rw [e,aU aj];simp
  simp only [s7,Lib.decFrom,this]| b::r,a,n,h=>by simp only [Lib.decFrom,hx] at h ⊢;cases c:Lib.digitVal b with| none=>simp [c] at h| some e=>simp only [c] at h ⊢;exact Ha d f r _ n h
def Hb (n:Z):kY n≠[]:=by rw [kY];split<;>simp
def Ua (n:Z):Lib.decFrom 0 (kY n)=aa n:=by
 induction n using c8 with
 | _ n a=>
  rw [kY];split;·rename_i h;have:=Ha n h [] 0 0 rfl;simpa using this
  ·rename_i h;rw [Ha (n % 10) aj _ _ _<|a (n / 10) aj];congr 1;omega
def KD (n:Z):Lib.decNat (kY n)=aa n:=by unfold Lib.decNat;rw [ao (by simpa using Hb n),Ua]
def L_ (n:Z):∀x ∈ kY n,48<=x.toNat/\x.toNat<=57:=by
 induction n using c8 with
 | _ n b=>
  rw [kY];have e:∀d,d<10->(a7.ofNat<|48+d).toNat=48+d:=λd c=>by simp [KZ];omega
  split;·rename_i h;intro x a;simp only [fq] at a;subst a;rw [e n h];omega
  ·intro x a;rw [bm,fq] at a;rcases a with a | a;·exact b (n / 10) aj x a
   ·subst a;rw [e _ aj];omega
def Ma:∀(k n:Z),n<10 ^ (k+1)->(kY n).length<=k+1
 | 0,n,h=>by rw [kY,dif_pos (by simpa using h)];simp
 | k+1,n,h=>by
  rw [kY];split;·simp
  ·rw [Z.pow_succ] at h;have:=Ma k (n / 10) aj;simp;omega
def Ub (n:Z):hO (n:ab)=kY n:=by unfold hO;rw [ao aj];simp
def DQ {n:ab} (h:0<=n):hO n=kY n.toNat:=by unfold hO;rw [ao aj]
variable {ae:Z}
def Mb (h:ae<=1099511627775):(kY ae).length<=13:=Ma 12 ae aj
def Mc (h:xd be=aa ae):ae<=1099511627775/\kY ae=be:=by
 unfold xd at h;split at h
 ·split at h;·injection h with h;subst h;assumption
  ·cases h
 ·cases h
def Md (h:ae<=1099511627775):xd (kY ae)=aa ae:=by unfold xd;rw [KD];simp [h]
def o1 (s:I a7):Tok×aQ:=if gm s=ac then (⟨1,0,s⟩,ac) else match p' s with| .ok v=>(⟨2,v,[]⟩,(decide (0<=v)&&decide (v<=1099511627775))&&(hO v==s))| .range=>(⟨2,Lib.atoiSat s,[]⟩,au)| _=>(⟨2,0,[]⟩,au)
def Me {n:Z} (h:n<=1099511627775):p' (kY n) = .ok (n:ab):=by
 have k:=Mb h;rw [Lib.atoiAll_short _ aj];have g:=Hb n;have a:=L_ n;have c:=KD n;cases d:kY n with
 | nil=>exact absurd d g
 | cons b r=>
  rw [d] at a c;have f:=a b aG;have i:(b==45)=au:=by rw [G6];intro e;subst e;revert f;decide
  have j:(b==43)=au:=by rw [G6];intro e;subst e;revert f;decide
  simp [Lib.atoi,i,j,c,Lib.NumEnd.ofOption]
def Mf (s:I a7):r_ s=if (o1 s).2=ac then aa (o1 s).1 else ak:=by
 unfold r_ o1;by_cases b:gm s=ac;·simp [b]
 ·simp only [ao b];cases h:xd s with
  | some n=>obtain ⟨a,c⟩:=Mc h;subst c;rw [Me a];have:((n:ab)<=1099511627775):=aj;simp [Ub,this]
  | none=>
   cases e:p' s with
   | ok v=>
    simp only;by_cases hv:((decide (0<=v)&&decide (v<=1099511627775))&&(hO v==s))=ac
    ·simp only [eW,mb,j8] at hv;obtain ⟨⟨a,c⟩,d⟩:=hv;have:xd s=aa v.toNat:=by rw [<-d,DQ a];exact Md aj
     rw [h] at this;cases this
    ·rw [ao hv];rfl| range=>rfl| _=>rfl
variable {jp:Tok}
def Uc (h:r_ be=aa jp):qm jp=ac/\jW jp=ac:=by
 unfold r_ at h;split at h;·rename_i a;injection h with h;subst h;exact ⟨O,by simp [jW,a]⟩
 ·obtain ⟨n,a,rfl⟩:=eD.1 h;have:=(Mc a).1;exact ⟨O,by simp [jW];omega⟩
def DR:∀(k:Z) (s:I a7) (l:I Tok),s.length<=k->iE s=aa l->(∀t ∈ l,qm t=ac/\jW t=ac)/\l.length<=s.length
 | _,[],l,_,h=>by rw [A4] at h;injection h with h;subst h;simp| 0,_::_,_,h,_=>by simp at h
 | k+1,c::r,l,n,h=>by
  simp only [eL] at n;by_cases o:0<hH (c::r)
  ·rw [xe o] at h;cases f:r_ ((c::r).take<|hH<|c::r) with
   | none=>simp [f] at h
   | some t=>
    simp only [f] at h;obtain ⟨g,i,rfl⟩:=eD.1 h;obtain ⟨b,d⟩:=DR k ((c::r).drop<|hH<|c::r) g (by simp;omega) i;refine ⟨λx a=>?_,?_⟩
    ·rcases eZ.1 a with rfl | a;·exact Uc f
     ·exact b x a
    ·simp at d ⊢;omega
  ·have j:hH (c::r)=0:=aj;cases e:o0 c with
   | true=>
    rw [A5 j e] at h;obtain ⟨g,i,rfl⟩:=eD.1 h;obtain ⟨b,d⟩:=DR k r g aj i;refine ⟨λx a=>?_,by simpa using d⟩;rcases eZ.1 a with rfl | a;·exact ⟨O,by simp [jW,e]⟩
    ·exact b x a
   | false=>
    by_cases m:c=32\/c=10;·rw [A6 j e m] at h;obtain ⟨b,d⟩:=DR k r l aj h;exact ⟨b,by simp;omega⟩
    ·rw [DP j e m] at h;cases h
def any_none {α:Type} {p:α->aQ} {l:I α} (h:∀t ∈ l,p t=au):l.any p=au:=by rw [wV];intro x a;simp [h x a]
variable {q0:I Tok}
def Ud (h:∀t ∈ q0,qm t=ac/\jW t=ac) (b:q0.length<=4096):A3 q0=0:=by unfold A3;rw [any_none (p:=DN) λt a=>by simp [DN,(h t a).1],any_none (p:=DO) λt a=>by simp [DO,(h t a).2]];simp;omega
def Mg (h:A3 q0=0):(∀t ∈ q0,qm t=ac/\jW t=ac)/\q0.length<=4096:=by
 unfold A3 at h;split at h;·cases h
 ·rename_i a;split at h;·cases h
  ·rename_i b;split at h;·cases h
   ·rename_i d;simp only [s8,not_exists,not_and] at a b;refine ⟨λt c=>⟨?_,?_⟩,aj⟩;·have:=a t c;simpa [DN] using this
    ·have:=b t c;simpa [DO] using this
def Mh (h:(g4 be).2=0):A3 (g4 be).1=0:=by
 unfold g4 at h ⊢;split;·simp_all
 ·rename_i b;cases a:iE be with| none=>simp [b,a] at h| some l=>obtain ⟨c,d⟩:=DR _ be l (eC _) a;exact Ud c (show l.length<=4096 by omega)
def UB (h:48<=g3.toNat/\g3.toNat<=57):lS g3=ac:=by unfold lS A2;have a:((48:ab)<=(g3.toNat:ab)):=aj;have b:((g3.toNat:ab)<=57):=aj;simp [a,b]
def Mi (j:qm jp=ac) (d:jW jp=ac):iE (cj jp)=aa [jp]:=by
 obtain ⟨k,n,s⟩:=jp;have l:k=1\/k=2\/k=3:=by simp [qm] at j;omega
 rcases l with rfl | rfl | rfl;·simp only [jW,aU,eW,j8] at d;obtain ⟨rfl,f⟩:=d;have g:=f;simp only [gm,eW,mb] at g;obtain ⟨⟨⟨m,w⟩,_⟩,o⟩:=g;have e:=L9 o;show iE s=_;rw [xe aj,e,gJ,wW];simp [r_,f,A4]
 ·simp only [jW,eW,j8,mb] at d;obtain ⟨rfl,p,m⟩:=(by simpa using d:s=[]/\0<=n/\n<=1099511627775);show iE (hO n)=_;rw [DQ p];have h:=L_ n.toNat;have e:hH (kY n.toNat)=(kY n.toNat).length:=L9<|gw.2 λx q=>UB<|h x q;have i:=Hb n.toNat;have y:0<(kY n.toNat).length:=I.length_pos_iff.2 i;rw [xe aj,e,gJ,wW];have t:gm (kY n.toNat)=au:=by
   cases a:kY n.toNat with
   | nil=>exact absurd a i
   | cons b r=>
    have z:=h b (by rw [a];simp);have:oZ (b.toNat:ab)=au:=by simp [oZ];omega
    simp [gm,this]
  have u:((n.toNat:Z):ab)=n:=aj;simp [r_,t,Md (show n.toNat<=1099511627775 by omega),A4,u]
 ·obtain ⟨rfl,v,a⟩:=(by simpa [jW] using d:n=0/\s.length=1/\o0 (s[0]?.getD 0)=ac);match s,v with
  | [c],_=>
   have a:o0 c=ac:=by simpa using a
   show iE [c]=_;rw [A5 (by simp [hH,T_ c a]) a];rfl
def D5 (x y:I a7) (r:I<|I a7) (s:I a7):Lib.join (x::y::r) s=x++s++Lib.join (y::r) s:=by simp [Lib.join,I.intercalate,I.intersperse]
def Mj:∀l:I Tok,(∀t ∈ l,qm t=ac/\jW t=ac)->iE (jX l)=aa l
 | [],_=>rfl
 | [t],h=>by
  have e:jX [t]=cj t:=by simp [jX,Lib.join,I.intercalate]
  rw [e];exact Mi (h t aG).1 (h t aG).2
 | t::u::r,h=>by
  have e:jX (t::u::r)=cj t++32::jX (u::r):=by unfold jX;simp only [l_,D5];simp
  rw [e,G_ _ _ _<|eC _,Mi (h t aG).1 (h t aG).2,Mj (u::r)<|λx a=>h x<|mI _ a];rfl
def DS (b:qm jp=ac) (a:jW jp=ac):(cj jp).length<=13:=by
 unfold cj;obtain ⟨k,n,s⟩:=jp;have c:k=1\/k=2\/k=3:=by simp [qm] at b;omega
 rcases c with rfl | rfl | rfl;·simp [jW,gm] at a ⊢;omega
 ·have:s=[]/\0<=n/\n<=1099511627775:=by simpa [jW] using a
  simp only [aU];rw [DQ this.2.1];exact Mb aj
 ·simp [jW] at a ⊢;omega
def Mk (t:Tok):∀l:I Tok,l≠[]->jX (l++[t])=jX l++[32]++cj t| [],h=>absurd rfl h| [u],_=>by simp [jX,Lib.join,I.intercalate,I.intersperse]| u::v::r,_=>by have a:=Mk t (v::r) aG;unfold jX at a ⊢;simp only [hx,l_,nY,CR,D5] at a ⊢;rw [a];simp
def Ml:∀l:I Tok,(∀t ∈ l,qm t=ac/\jW t=ac)->(jX l).length<=l.length*14| [],_=>by simp [jX,Lib.join,I.intercalate]| [t],h=>by have:=DS (h t aG).1 (h t aG).2;simp [jX,Lib.join,I.intercalate];omega| t::u::r,h=>by have c:=DS (h t aG).1 (h t aG).2;have a:=Ml (u::r) λx b=>h x<|mI _ b;unfold jX at a ⊢;simp only [l_,D5,e_,eL,fT] at a ⊢;omega
end Go.Bw
end
section
namespace Go.Bw
open Go
inductive cu where
 | mk (op n:Int) (mod nm:List UInt8) (args:List cu)
inductive cv where
 | mk (op:Int) (mod nm:List UInt8) (args:List cu) (body other:List cv)
def cu.op:cu->ab| .mk o _ _ _ _=>o
def cu.n:cu->ab| .mk _ n _ _ _=>n
def cu.mod:cu->I a7| .mk _ _ m _ _=>m
def cu.nm:cu->I a7| .mk _ _ _ s _=>s
def cu.args:cu->I cu| .mk _ _ _ _ a=>a
def cv.op:cv->ab| .mk o _ _ _ _ _=>o
def cv.mod:cv->I a7| .mk _ m _ _ _ _=>m
def cv.nm:cv->I a7| .mk _ _ s _ _ _=>s
def cv.args:cv->I cu| .mk _ _ _ a _ _=>a
def cv.body:cv->I cv| .mk _ _ _ _ b _=>b
def cv.other:cv->I cv| .mk _ _ _ _ _ o=>o
structure eQ where
 kind:ab
 nm:I a7
 cz:aQ
 n:ab
deriving DecidableEq
structure bz where
 nm:I a7
 cz:aQ
 params:I<|I a7
 a6:I<|I a7
 body:I cv
structure cM where
 nm:I a7
 aI:I<|I a7
 decls:I eQ
 procs:I bz
 main:I cv
structure ci where
 f:Z
 m:Z
 k:Z
deriving DecidableEq
instance:Add ci:=⟨λa b=>⟨a.f+b.f,a.m+b.m,a.k+b.k⟩⟩
def ci.cy (c:ci):Z:=c.f+c.m+c.k
def c0:ci:=⟨0,0,0⟩
def ci.xf (a b:ci):(a+b).f=a.f+b.f:=rfl
def ci.xg (a b:ci):(a+b).m=a.m+b.m:=rfl
def ci.xh (a b:ci):(a+b).k=a.k+b.k:=rfl
def ci.ext' {a b:ci} (c:a.f=b.f) (d:a.m=b.m) (e:a.k=b.k):a=b:=by cases a;cases b;simp_all
def ci.jY (a b c:ci):a+b+c=a+(b+c):=ci.ext' (uf _ _ _) (uf _ _ _)<|uf _ _ _
def ci.fG (a b:ci):(a+b).cy=a.cy+b.cy:=by simp only [ci.cy,ci.xf,ci.xg,ci.xh];omega
def Hd (b:aQ):Z:=if b=ac then 1 else 0
def hq (b:aQ):ci:=⟨Hd b,0,0⟩
def a9 (b:aQ):ci:=⟨0,Hd b,0⟩
def iF (b:aQ):ci:=⟨0,0,Hd b⟩
def gd:I<|I a7:=[[109,111,100,117,108,101],[117,115,101],[112,117,98],[99,111,110,115,116],[118,97,114],[97,114,114,97,121],[112,114,111,99],[108,111,99,97,108],[109,97,105,110],[105,102],[101,108,115,101],[119,104,105,108,101],[114,101,116,117,114,110],[111,117,116],[105,110]]
def gy (s:I a7):aQ:=gm s&&!(gd.contains s)
def hz (op:ab):az<|aQ×ab:=if op=1\/op=2 then aa (au,0) else if op=3 then aa (ac,0) else if op=4 then aa (ac,1) else if op=5 then aa (ac,-1) else if op=6 then aa (au,1) else if 7<=op/\op<=15 then aa (au,2) else ak
def f_ (op:ab):az<|aQ×ab:=if op=1 then aa (ac,1) else if op=2 then aa (ac,2) else if op=3 then aa (ac,-1) else if 4<=op/\op<=7 then aa (au,1) else ak
def jH (r:aQ) (mod nm:I a7):aQ:=(r&&((!(mod==[])&&!gy mod)||!gy nm))||(!r&&!(mod++nm==[]))
def n9 (a:ab) (len:Z):aQ:=decide (0<=a)&&!((len:ab)==a)
def ip (s:aQ×ab) (mod nm:I a7) (len:Z):ci:=hq (jH s.1 mod nm)+hq (n9 s.2 len)+a9 (decide<|3<len)
def k3 (op n:ab):aQ:=((op==1)&&(decide (n<0)||decide (1099511627775<n)))||(!(op==1)&&!(n==0))
mutual
def ka:cu->Z->ci| .mk op n mod nm args,d=>if 6<d then ⟨0,1,0⟩ else iF (hz op).isNone+ip ((hz op).getD (au,0)) mod nm args.length+hq (k3 op n)+fH args (d+1)
def fH:I cu->Z->ci| [],_=>c0| x::r,d=>ka x d+fH r d
end
def inner (op:ab):aQ:=(op==4)||(op==5)
def n' (op:ab) (b o:Z):aQ:=(!inner op&&decide (0<b))||(!(op==4)&&decide (0<o))
def o2 (d len:Z) (c:ci):ci:=if 6<d then ⟨0,1,0⟩ else a9 (decide<|10<len)+c
mutual
def ih:cv->Z->ci| .mk op mod nm args body other,d=>iF (f_ op).isNone+ip ((f_ op).getD (au,0)) mod nm args.length+fH args 1+hq (n' op body.length other.length) + (if (inner op||decide (0<body.length))=ac then o2 (d+1) body.length (e2 body<|d+1) else c0)+(if 0<other.length then o2 (d+1) other.length (e2 other<|d+1) else c0)
def e2:I cv->Z->ci| [],_=>c0| x::r,d=>ih x d+e2 r d
end
def gz (l:I cv) (d:Z):ci:=o2 d l.length<|e2 l d
def dj:I (I a7)->ci| []=>c0| s::r=>hq (!gy s)+dj r
def jZ (d:eQ):ci:=dj [d.nm]+(if d.kind=1 then hq (decide (d.n<0)||decide (1099511627775<d.n)) else if d.kind=2 then hq (!(d.n==0)) else if d.kind=3 then hq (decide (d.n<1)||decide (32<d.n)) else iF ac)
def g_:I eQ->ci| []=>c0| d::r=>jZ d+g_ r
def qn (p:bz):ci:=dj [p.nm]+dj p.params+dj p.a6+a9 (decide (3<p.params.length)||decide (4<p.a6.length))+gz p.body 1
def h5:I bz->ci| []=>c0| p::r=>qn p+h5 r
def qo (m:cM):ci:=dj [m.nm]+dj m.aI+a9 ((decide (3<m.aI.length)||decide (10<m.decls.length))||decide (6<m.procs.length))+g_ m.decls+h5 m.procs+gz m.main 1
def kc (c:ci):ab:=if 0<c.k then 4 else if 0<c.m then 2 else if 0<c.f then 1 else 0
def hI (m:cM):ab:=kc<|qo m
def fm (n a b:ab):aQ:=decide (a<=n)&&decide (n<=b)
def kO (op:ab):ab:=if op=1\/op=2\/op=3 then 0 else if op=4\/op=6 then 1 else if op=5 then -1 else 2
def qp (op:ab):ab:=if op=2 then 2 else if op=3 then -1 else 1
def Mm (op:ab):(hz op).isNone = !fm op 1 15:=by
 unfold hz fm;rw [lK];split;·simp;omega
 ·split;·simp;omega
  ·split;·simp;omega
   ·split;·simp;omega
    ·split;·simp;omega
     ·split;·simp;omega
      ·simp;omega
def Mn (op:ab):(f_ op).isNone = !fm op 1 7:=by
 unfold f_ fm;rw [lK];split;·simp;omega
 ·split;·simp;omega
  ·split;·simp;omega
   ·split;·simp;omega
    ·simp;omega
def Uf (a b:I a7):(a++b==[])=((a==[])&&(b==[])):=by cases a<;>cases b<;>rfl
variable {aP:ab}
def Ug (h:(hz aP).isNone=au):((hz aP).getD (au,0)).1=fm aP 3 5/\((hz aP).getD (au,0)).2=kO aP:=by
 rw [Mm] at h;have a:aP=1\/aP=2\/aP=3\/aP=4\/aP=5\/aP=6\/(7<=aP/\aP<=15):=by simp [fm] at h;omega
 rcases a with rfl | rfl | rfl | rfl | rfl | rfl | b;any_goals exact ⟨rfl,rfl⟩
 unfold hz kO fm;rw [ao aj,ao aj,ao aj,ao aj,ao aj,aU b,ao aj,ao aj,ao aj];refine ⟨?_,O⟩;simp;omega
def Uh (h:(f_ aP).isNone=au):((f_ aP).getD (au,0)).1=fm aP 1 3/\((f_ aP).getD (au,0)).2=qp aP:=by
 rw [Mn] at h;have a:aP=1\/aP=2\/aP=3\/aP=4\/aP=5\/aP=6\/aP=7:=by simp [fm] at h;omega
 rcases a with rfl | rfl | rfl | rfl | rfl | rfl | rfl<;>exact ⟨rfl,rfl⟩
end Go.Bw
end
section
namespace Go.Bw
open Go
def fV (s:I a7):I aT:=[st s]
def rdStr (H:View) (b o:Z) (s:I a7):Prop:=ct H b o<|fV s
def pG (s:I a7):(fV s).length=1:=rfl
variable {bt bX:View}
def yW (h:cV bt bX) (b o:Z) (x:I a7) (r:rdStr bt b o x):rdStr bX b o x:=ct.mono h r
def eQ.cells (d:eQ):I aT:=[an am d.kind,st d.nm,bV d.cz,an am d.n]
def eQ.dA (d:eQ):d.cells.length=4:=rfl
def yX (H:View) (b o:Z) (d:eQ):Prop:=ct H b o d.cells
def Ui (h:cV bt bX) (b o:Z) (x:eQ) (r:yX bt b o x):yX bX b o x:=ct.mono h r
def xi (e:cu) (a:az a0) (c:Z):I aT:=[an am e.op,an am e.n,st e.mod,st e.nm,aC a e.args.length c]
def jI:Z->View->Z->Z->cu->Prop| 0=>λ_ _ _ _=>False| k+1=>λH b o e=>∃a c,ct H b o (xi e a c)/\Sl (jI k) 5 H a c e.args
def xj (s:cv) (a:az a0) (c:Z) (a2:az a0) (c2:Z) (a3:az a0) (c3:Z):I aT:=[an am s.op,st s.mod,st s.nm,aC a s.args.length c,aC a2 s.body.length c2,aC a3 s.other.length c3]
def iG (ke:Z):Z->View->Z->Z->cv->Prop| 0=>λ_ _ _ _=>False| k+1=>λH b o s=>∃a c a2 c2 a3 c3,ct H b o (xj s a c a2 c2 a3 c3)/\Sl (jI ke) 5 H a c s.args/\Sl (iG ke k) 6 H a2 c2 s.body/\Sl (iG ke k) 6 H a3 c3 s.other
def xk (p:bz) (a1:az a0) (c1:Z) (a2:az a0) (c2:Z) (a3:az a0) (c3:Z):I aT:=[st p.nm,bV p.cz,aC a1 p.params.length c1,aC a2 p.a6.length c2,aC a3 p.body.length c3]
def DT (ke ks:Z) (H:View) (b o:Z) (p:bz):Prop:=∃a1 c1 a2 c2 a3 c3,ct H b o (xk p a1 c1 a2 c2 a3 c3)/\Sl rdStr 1 H a1 c1 p.params/\Sl rdStr 1 H a2 c2 p.a6/\Sl (iG ke ks) 6 H a3 c3 p.body
structure mf where
 a1:az a0
 c1:Z
 a2:az a0
 c2:Z
 a3:az a0
 c3:Z
 a4:az a0
 c4:Z
def hk (m:cM) (r:mf):I aT:=[st m.nm,aC r.a1 m.aI.length r.c1,aC r.a2 m.decls.length r.c2,aC r.a3 m.procs.length r.c3,aC r.a4 m.main.length r.c4]
structure mg (ke ks:Z) (H:View) (r:mf) (m:cM):Prop where
 aI:Sl rdStr 1 H r.a1 r.c1 m.aI
 decls:Sl yX 4 H r.a2 r.c2 m.decls
 procs:Sl (DT ke ks) 5 H r.a3 r.c3 m.procs
 main:Sl (iG ke ks) 6 H r.a4 r.c4 m.main
variable {bW:Type} {ae aH:Z} {cg:I bW}
def Sl.imp {rd c:View->Z->Z->bW->Prop}   {a:az a0}   (d:∀b o x,rd bt b o x->c bX b o x) (h:Sl rd ae bt a aH cg):Sl c ae bX a aH cg:= ⟨h.cap,h.max,h.spot,λi x e=>by obtain ⟨b,o,f,g⟩:=h.b7 i x e;exact ⟨b,o,f,d _ _ _ g⟩⟩
def yY (f:cV bt bX):∀{k d:Z},k<=d->∀(b o:Z) (e:cu),jI k bt b o e->jI d bX b o e| 0,_,_,_,_,_,h=>h.elim| k+1,0,g,_,_,_,_=>absurd g aj| k+1,d+1,g,b,o,e,h=>by obtain ⟨a,c,i,j⟩:=h;exact ⟨a,c,ct.mono f i,j.imp λb o x l=>yY f aj b o x l⟩
def xl (f:cV bt bX)  (g:ae<=aH):∀{k i:Z},k<=i->∀(b o:Z) (e:cv),iG ae k bt b o e->iG aH i bX b o e| 0,_,_,_,_,_,h=>h.elim| k+1,0,j,_,_,_,_=>absurd j aj| k+1,i+1,j,b,o,e,h=>by obtain ⟨a,c,a2,c2,a3,c3,l,m,n,p⟩:=h;exact ⟨a,c,a2,c2,a3,c3,ct.mono f l,m.imp λb o x d=>yY f g b o x d,n.imp λb o x d=>xl f g aj b o x d,p.imp λb o x d=>xl f g aj b o x d⟩
def Mo (c:cV bt bX) {ke d ks e:Z} (f:ke<=d) (g:ks<=e) (b o:Z) (p:bz) (h:DT ke ks bt b o p):DT d e bX b o p:=by obtain ⟨a1,c1,a2,c2,a3,c3,i,j,k,l⟩:=h;exact ⟨a1,c1,a2,c2,a3,c3,ct.mono c i,j.imp λb o x a=>yW c b o x a,k.imp λb o x a=>yW c b o x a,l.imp λb o x a=>xl c f g b o x a⟩
mutual
def wE:cu->Z| .mk _ _ mod nm args=>1+mod.length+nm.length+gF args
def gF:I cu->Z| []=>0| x::r=>wE x+gF r
end
mutual
def wS:cv->Z| .mk _ mod nm args body other=>1+mod.length+nm.length+gF args+fj body+fj other
def fj:I cv->Z| []=>0| x::r=>wS x+fj r
end
def wN:I (I a7)->Z| []=>0| s::r=>1+s.length+wN r
def wD:I eQ->Z| []=>0| d::r=>1+d.nm.length+wD r
def wP:I bz->Z| []=>0| p::r=>1+p.nm.length+wN p.params+wN p.a6+fj p.body+wP r
def wM (m:cM):Z:=1+m.nm.length+wN m.aI+wD m.decls+wP m.procs+fj m.main
def Uj:∀x:cu,1<=wE x| .mk _ _ _ _ _=>by unfold wE;omega
def Uk:∀x:cv,1<=wS x| .mk _ _ _ _ _ _=>by unfold wS;omega
def Mp (x:cu):wE x=1+x.mod.length+x.nm.length+gF x.args:=by cases x;rfl
def Mq (x:cv):wS x=1+x.mod.length+x.nm.length+gF x.args+fj x.body+fj x.other:=by cases x;rfl
def Mr {i:Z} {x:cu}:∀{l:I cu},l[i]? = aa x->wE x<=gF l| [],h=>by simp at h| y::r,h=>by unfold gF;cases i with| zero=>simp at h;subst h;omega| succ i=>have:=Mr (i:=i) (l:=r) (by simpa using h);omega
def Ms {i:Z} {x:cv}:∀{l:I cv},l[i]? = aa x->wS x<=fj l| [],h=>by simp at h| y::r,h=>by unfold fj;cases i with| zero=>simp at h;subst h;omega| succ i=>have:=Ms (i:=i) (l:=r) (by simpa using h);omega
def Mt:∀l:I cu,l.length<=gF l| []=>eC _| x::r=>by have:=Mt r;have:=Uj x;unfold gF;simp;omega
def Mu:∀l:I cv,l.length<=fj l| []=>eC _| x::r=>by have:=Mu r;have:=Uk x;unfold fj;simp;omega
def yZ:∀l:I<|I a7,l.length<=wN l| []=>eC _| x::r=>by have:=yZ r;unfold wN;simp;omega
def du (b:aQ):(hq b).cy<=1:=by cases b<;>decide
def y0 (b:aQ):(a9 b).cy<=1:=by cases b<;>decide
def A7 (b:aQ):(iF b).cy<=1:=by cases b<;>decide
def DU (s:aQ×ab) (mod nm:I a7) (len:Z):(ip s mod nm len).cy<=3:=by unfold ip;rw [ci.fG,ci.fG];have:=du<|jH s.1 mod nm;have:=du<|n9 s.2 len;have:=y0<|decide<|3<len;omega
def Mv:c0.cy=0:=rfl
mutual
def Ul:∀(x:cu) (d:Z),(ka x d).cy<=8*wE x
 | .mk op n mod nm args,d=>by
  unfold ka wE;split;·show 0+1+0<=_;omega
  ·rw [ci.fG,ci.fG,ci.fG];have:=y1 args<|d+1;have:=A7 (hz op).isNone;have:=DU ((hz op).getD (au,0)) mod nm args.length;have:=du<|k3 op n;omega
def y1:∀(l:I cu) (d:Z),(fH l d).cy<=8*gF l| [],_=>eC _| x::r,d=>by have:=Ul x d;have:=y1 r d;unfold fH gF;rw [ci.fG];omega
end
def He (d len:Z) (c:ci):(o2 d len c).cy<=1+c.cy:=by
 unfold o2;split;·show 0+1+0<=_;omega
 ·rw [ci.fG];have:=y0<|decide<|10<len;omega
def Mw (b:Prop) [Decidable b] (c:ci):(if b then c else c0).cy<=c.cy:=by
 split;·exact eC _
 ·exact de _
mutual
def Um:∀(x:cv) (d:Z),(ih x d).cy<=8*wS x| .mk op mod nm args body other,d=>by unfold ih wS;rw [ci.fG,ci.fG,ci.fG,ci.fG,ci.fG];have a:=y1 args 1;have b:=A7 (f_ op).isNone;have c:=DU ((f_ op).getD (au,0)) mod nm args.length;have e:=du<|n' op body.length other.length;have f:=Mw ((inner op||decide (0<body.length))=ac)<|o2 (d+1) body.length<|e2 body<|d+1;have g:=Mw (0<other.length)<|o2 (d+1) other.length<|e2 other<|d+1;have h:=He (d+1) body.length<|e2 body<|d+1;have i:=He (d+1) other.length<|e2 other<|d+1;have j:=A8 body<|d+1;have k:=A8 other<|d+1;omega
def A8:∀(l:I cv) (d:Z),(e2 l d).cy<=8*fj l| [],_=>eC _| x::r,d=>by have:=Um x d;have:=A8 r d;unfold e2 fj;rw [ci.fG];omega
end
def y2:∀l:I<|I a7,(dj l).cy<=wN l| []=>eC _| s::r=>by have:=y2 r;have:=du<|!gy s;unfold dj wN;rw [ci.fG];omega
def Un (d:eQ):(jZ d).cy<=2:=by
 unfold jZ dj dj;rw [ci.fG,ci.fG,Mv];have:=du<|!gy d.nm;split;·have:=du<|decide (d.n<0)||decide (1099511627775<d.n);omega
 ·split;·have:=du<|!(d.n==0);omega
  ·split;·have:=du<|decide (d.n<1)||decide (32<d.n);omega
   ·have:=A7 ac;omega
def Hf:∀l:I eQ,(g_ l).cy<=8*wD l| []=>eC _| d::r=>by have:=Hf r;have:=Un d;unfold g_ wD;rw [ci.fG];omega
def Hg (l:I cv) (d:Z):(gz l d).cy<=1+8*fj l:=by unfold gz;have:=He d l.length<|e2 l d;have:=A8 l d;omega
def Hh (s:I a7):(dj [s]).cy<=1:=by unfold dj dj;rw [ci.fG,Mv];have:=du<|!gy s;omega
def Uo (p:bz):(qn p).cy<=3+wN p.params+wN p.a6+8*fj p.body:=by unfold qn;rw [ci.fG,ci.fG,ci.fG,ci.fG];have:=Hh p.nm;have:=y2 p.params;have:=y2 p.a6;have:=y0<|decide (3<p.params.length)||decide (4<p.a6.length);have:=Hg p.body 1;omega
def DV:∀l:I bz,(h5 l).cy<=8*wP l| []=>eC _| p::r=>by have:=DV r;have:=Uo p;unfold h5 wP;rw [ci.fG];omega
def Hi {rd:View->Z->Z->bW->Prop} {f:bW->I aT}  {H:View} {b m:Z} {T:b_} {a:Z×Z}  (d:H b=aa (aM (cg.flatMap f).toArray T a)) (c:∀x,(f x).length=ae) (e:∀H b o x,ct H b o (f x)->rd H b o x) (g:cg.length<=m) (h:m<=9223372036854775807):Sl rd ae H (aa ⟨b,0,ak⟩) m cg:=by
 refine ⟨g,h,aG,λi x k=>⟨b,0,O,e _ _ _ _ λj v hv=>?_⟩⟩;have l:j<ae:=by rw [<-c x];exact (c_.1 hv).1
 have n:vc H b (0+i*ae+j)=jV (aM (cg.flatMap f).toArray T a) (0+i*ae+j):=by unfold vc;rw [d];rfl
 rw [n];simp only [jV,k0];rw [oR c k l];exact hv
section
variable {P:aV} {ops:bE ay} {Q:aO->aN->aL->Prop} {n:Z} {ds:I e'} {l:I<|Z×aT} {w0:aL} {F:I Z} {L:I bc} {Vs:I View} {rest:I ay}
def aY {T:b_} {m b:Z} {c:bE aT} {a:Z×Z} (i:Z) (xs:I<|I a7) (hL:L[i]? = aa (aJ b<|aM c T a)) (d:c=(xs.flatMap fV).toArray) (e:xs.length<=m) (g:m<=9223372036854775807) (h:∀H,Sl rdStr 1 H (aa ⟨b,0,ak⟩) m xs->WL P ops Q n ds l (Ws w0 F (fR i L)<|H::Vs) rest):WL P ops Q n ds l (Ws w0 F L Vs) rest:=by
 subst d;have j:bv b (aM (xs.flatMap fV).toArray T a) b=aa (aM (xs.flatMap fV).toArray T a):=by simp [bv]
 exact WL.w6 i hL<|h _<|Hi (f:=fV) j pG fp e g
end
section
variable {P:aV} {l:I<|Z×aT} {W:aL->Prop} {d:az Tmp} {ty:b_} {pos:bg} {af:bE fw} {g:az<|Z×aQ}
def Mx {t:b_} {parts:I<|Z×dF} {vs:I<|Z×aT} {a:aT} {n s:Z} {out:I aT} (j:zeroOf P t=aa a) (b:xb P t=aa (n,s)) (hv:uo l parts=aa vs) (k:ta (λi=>aa (i*s,s)) (fh a) vs=aa out):Yl P l W ⟨d,.build t parts.toArray,ty,pos,af,g⟩<|bU out.toArray:=by
 intro o w p _;have q:(parts.toArray.map λ (i,x)=>(i,o x):bE (Z×aT)).toList=vs:=by simpa using Dm p parts vs hv
 unfold xb at b;cases c:P.underlying t with
 | none=>simp [c] at b
 | some r=>
  cases r<;>simp [c] at b;rename_i m e;obtain ⟨f,hi,u,v⟩:=b;subst u v;have h:Instr.fill (λi=>aa (i*f.size,f.size)) a.cells vs=aa out.toArray:=by refine AL _ vs a.cells out ?_;rw [vx];simpa using k
  simp only [execOp,Instr.build,iN,w4 j,ie,run_underlying c,q,h,sizeOf,typeInfo,hi,kK];simp [hi,h]
end
section
variable {P:aV} {ops:bE ay} {Q:aO->aN->aL->Prop} {n:Z} {ds:I e'} {l:I<|Z×aT} {w0:aL} {F:I Z} {L:I bc} {Vs:I View} {rest:I ay} {d:Z} {ty:b_} {pos:bg} {af:bE fw} {g:az<|Z×aQ}
variable {ef:jU} {f':bE dF} {iD:bE b_} {dC:I aT}
def qq {ι κ:Type}     (m L2:I bc) (C:eE ops l g) (D:eB d n=ac) (E:Enters P ef) (G:hF l f'.toList=aa dC) (hL:L=m++L2) (v:ι->aT) (t:ι->I bc) (R:View->ι->Prop) (x:κ->I nW) (Lp:κ->I bc) (y:κ->Prop) (cB:I View) (J:∀H ∈ cB,H ∈ Vs) (K:∀i,∀k ∈ (t i).flatMap bc.ids,k ∈ m.flatMap bc.ids) (hC:∀w,Ws w (m.flatMap bc.ids) m cB w->cr P ef dC.toArray w λe b=>(∃i,e = ax (v i)/\R (nv w b) i/\Ws w (m.flatMap bc.ids) (t i) cB b)\/(∃j,e = .panicked (x j)/\y j/\Ws w (m.flatMap bc.ids) (Lp j) cB b)) (M:∀j,y j->WE Q (.panic<|x j) n ds l (Ws w0 F (Lp j++L2) Vs)) (N:∀H i,g8 w0 H->R H i->WL P ops Q n ds ((d,v i)::l) (Ws w0 F (t i++L2)<|H::Vs) rest) : WL P ops Q n ds l (Ws w0 F L Vs)<|⟨aa d,.call ⟨.value<|.func ef,f',iD⟩,ty,pos,af,g⟩::rest:=by
 subst hL;refine WL.AM (ι:=View×ι) C D E G (λi=>v i.2) (λi b=>(g8 w0 i.1/\R i.1 i.2)/\Ws w0 F (t i.2++L2) (i.1::Vs) b) (λc b=>∃j,c=x j/\y j/\Ws w0 F (Lp j++L2) Vs b) (λw o=>(hC w<|o.self.dr J).mono λe b S=>?_) (λi=>?_)<|λc=>?_
 ·rcases S with ⟨i,rfl,r,h⟩ | ⟨j,rfl,r,h⟩
  ·have p:=o.back h;refine bA ⟨(nv w b,i),O,⟨(yD w b).mono o.fr.size,r⟩,p.fr,p.kn,p.nd,p.own,λH f=>?_,λH f u q k z=>?_⟩
   ·rcases eZ.1 f with rfl | f;·exact GB w b
    ·exact p.vs H f
   ·rcases eZ.1 f with rfl | f
    ·have T:k<w.heap.size:=by
      rcases bm.1 q with q | q;·have U:=K i k<|m3.2 ⟨u,q,z⟩;obtain ⟨B,V,W⟩:=m3.1 U;exact B.yE w (o.kn B (by simp [V])) k W
      ·exact u.yE w (o.kn u (by simp [q])) k z
     exact (yD w b).off T
    ·exact p.off H f u q k z
  ·exact bl ⟨_,O,j,O,r,o.back h⟩
 ·intro a w A s;exact N i.1 i.2 s.1.1 s.1.2 a w A s.2
 ·rintro a w A ⟨j,rfl,r,s⟩;exact M j r a w A s
def Up {ι:Type}     (a L2:I bc) (f:eE ops l g) (j:eB d n=ac) (m:Enters P ef) (o:hF l f'.toList=aa dC) (hL:L=a++L2) (v:ι->aT) (b:ι->I bc) (R:View->ι->Prop) (cB:I View) (p:∀H ∈ cB,H ∈ Vs) (q:∀i,∀k ∈ (b i).flatMap bc.ids,k ∈ a.flatMap bc.ids) (hC:∀w,Ws w (a.flatMap bc.ids) a cB w->cr P ef dC.toArray w λe c=>∃i,e = ax (v i)/\R (nv w c) i/\Ws w (a.flatMap bc.ids) (b i) cB c) (r:∀H i,g8 w0 H->R H i->WL P ops Q n ds ((d,v i)::l) (Ws w0 F (b i++L2)<|H::Vs) rest) : WL P ops Q n ds l (Ws w0 F L Vs)<|⟨aa d,.call ⟨.value<|.func ef,f',iD⟩,ty,pos,af,g⟩::rest:= qq (κ:=dT) a L2 f j m o hL v b R (λ_=>[]) (λ_=>[]) (λ_=>False) cB p q (λw s=>(hC w s).mono λ_ _ h=>bA h) (λ_ h=>h.elim) r
end
end Go.Bw
end
