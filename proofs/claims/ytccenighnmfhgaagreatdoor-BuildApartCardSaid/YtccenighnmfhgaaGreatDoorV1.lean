/- BuildApart: compiled one by one, each with the faces of its uses alone, and linked, modules are what Build tells. -/
import Derived.Below
import Derived.Carry
import Derived.ChangeOld
import Derived.Deep.Quiet
import Derived.Deep.Slices
import Derived.Deep.Upon
import Derived.Defers
import Derived.JoinedCond
import Derived.LaidEql
import Derived.Laws.BytesString
import Derived.Laws.DeepStrings4
import Derived.Laws.Externs
import Derived.Laws.Pointers
import Derived.Laws.Slices
import Derived.Lib.AppendStr
import Derived.Lib.AppendZeros
import Derived.Lib.AtoiAllCases
import Derived.Lib.AtoiTie
import Derived.Lib.Builder
import Derived.Lib.Bytealg
import Derived.Lib.ConvBytes
import Derived.Lib.ItoaNum
import Derived.Lib.Join
import Derived.Lib.LaidTab
import Derived.Lib.SmallJoins
import Derived.Lib.UnsafeStr
import Derived.MapKept
import Derived.OpenShut
import Derived.ProofKit
import Derived.Recover
import Derived.Sort.Grow
import Derived.WalkKit
import Derived.WalkSpells
import Derived.WideMake
set_option linter.unusedVariables false
set_option linter.unusedSimpArgs false
set_option linter.defProp false
namespace Go
theorem ae {p:Prop} (h:p:=by omega):p:=h
theorem aj {p:Prop} (h:p:=by simp):p:=h
theorem aF {p:Prop} (h:p:=by decide):p:=h
theorem vK {p:Prop} (h:p:=by assumption):p:=h
theorem ab {p:Prop} (h:p:=by kernel_rfl):p:=h
theorem cg {α:Type _} {l:List α} {i:Nat} (h:i<l.length):∃x,l[i]? = some x:=⟨_,List.getElem?_eq_getElem h⟩
theorem an {α:Sort _} {p:α->Prop}:∀a,p a->p a:=λ_ h=>h
theorem gO {α β:Sort _} {p:α->β->Prop}:∀a b,p a b->p a b:=λ_ _ h=>h
theorem cp {α β e f:Sort _} {p:α->β->e->f->Prop}:∀a b c d,p a b c d->p a b c d:=λ_ _ _ _ h=>h
def oq:=@Nat.le_of_ble_eq_true
def kE:=@Nat.eq_of_beq_eq_true
def iL:=@Array.getD_eq_getD_getElem?
def rm:=@Array.getElem?_setIfInBounds_ne
def bE:=@List.mem_cons_of_mem
def sB:=@Array.getElem?_eq_getElem
def dU:=@List.mem_cons
def AW:=@Nat.beq_refl
def qj:=@Nat.sub_zero
def kY:=@Nat.lt_or_ge
def gN:=@List.getElem?_eq_none
def xX:=@Array.getElem?_append
def dL:=@List.getElem?_eq_getElem
def E2:=@Classical.choose_spec
def dp:=@Nat.le_refl
def kZ:=@Nat.le_trans
def tQ:=@Array.getElem?_eq_none
def xY:=@List.flatMap_append
def jx:=@List.nodup_append
def lX:=@List.mem_flatMap
def dA:=@List.mem_append
def ax:=@List.mem_of_getElem?
def jy:=@List.getElem?_take
def xZ:=@List.foldl_cons
def tR:=@Nat.add_assoc
def cO:=@Bool.and_eq_true
def x0:=@Nat.add_zero
def E3:=@Array.length_toList
def qk:=@Array.ext'
def ha:=@List.mapM_cons
def da:=@Option.map_some
def bt:=@Option.bind_some
def vL:=@Array.mapM_eq_mapM_toList
def fG:=@List.all_eq_true
def E4:=@Array.getElem?_modify
def jh:=@List.length_take
def hc:=@Nat.min_eq_left
def vM:=@Nat.mul_le_mul_right
def cq:=@Nat.zero_le
def sC:=@Nat.add_mul
def vN:=@List.map_toArray
def jT:=@List.map_cons
def vO:=@List.map_nil
def E5:=@Option.mem_toList
def sD:=@List.all_cons
def fL:=@List.cons_append
def ot:=@List.take_append_drop
def cf:=@List.getElem?_eq_some_iff
def E6:=@List.getElem_cons_drop
def pc:=@Bool.false_eq_true
def vP:=@Ne.symm
def AX:=@Array.setIfInBounds_comm
def x1:=@List.map_congr_left
def AY:=@Nat.mod_lt
def gd:=@List.flatMap_cons
def rn:=@List.take_succ_cons
def et:=@List.append_assoc
def hD:=@List.getElem?_append_right
def x2:=@Nat.add_sub_cancel_left
def ql:=@List.getElem?_append_left
def E7:=@List.take_append
def kF:=@List.take_of_length_le
def AZ:=@List.take_append_of_le_length
def A0:=@List.drop_append
def E8:=@List.drop_of_length_le
def dv:=@List.nil_append
def vQ:=@List.set_getElem_self
def A1:=@List.singleton_append
def hM:=@Bool.or_eq_false_iff
def du:=@List.length_cons
def x3:=@List.map_map
def mY:=@Option.getD_some
def x4:=@List.mem_range
def qm:=@Function.comp_def
def dr:=@Option.map_eq_some_iff
def ou:=@List.eq_nil_of_length_eq_zero
def dw:=@Bool.true_and
def E9:=@Nat.ble_eq_true_of_le
def rp:=@List.ext_getElem?
def rq:=@List.getElem?_modify
def eZ:=@List.getElem?_map
def E':=@Array.toList_modify
def ew:=@List.take_length
def mu:=@Int.toNat_natCast
def E_:=@BitVec.toNat_ofInt
def Fa:=@Nat.shiftLeft_eq
def cj:=@Nat.zero_add
def Fb:=@Nat.lt_trichotomy
def Fc:=@List.getElem?_drop
def x5:=@Bool.or_eq_true
def A2:=@Nat.succ_mul
def dG:=@List.length_append
def eT:=@List.length_nil
def h3:=@List.append_nil
def e0:=@Option.some.injEq
def x6:=@List.getElem_mem
def Fe:=@List.drop_append_of_le_length
def Ff:=@UInt8.toNat_ofNat'
def az:=@List.mem_singleton
def vR:=@List.any_eq_false
def rr:=@List.any_eq_true
def sE:=@List.drop_length
def Fg:=@List.length_pos_iff
def jz:=@Bool.eq_iff_iff
def b':=@Option.bind_eq_some_iff
def qn:=@Bool.eq_false_iff
def ru:=@List.getElem?_inj
def x7:=@List.pairwise_iff_getElem
def jA:=@List.getElem?_of_mem
def jH:=@List.all_eq_false
def aZ:=@List.take_add_one
def pf:=@List.drop_eq_getElem_cons
def qo:=@List.nodup_cons
def sF:=@Nat.sub_self
def kf:=@List.getElem?_cons_zero
def dB:=@Option.map_none
def lY:=@List.getElem?_cons_succ
def Fh:=@UInt8.toNat_inj
def A3:=@UInt8.lt_iff_toNat_lt
def Fi:=@List.dropLast_concat_getLast
def A4:=@List.set_append_right
def x8:=@List.getElem?_set
def k0:=@List.mem_map
def Fj:=@List.modify_succ_cons
def nI:=@List.map_append
def gf:=@List.length_singleton
def vT:=@List.range_succ
def tV:=@List.mem_append_left
def qp:=@List.mem_append_right
def d':=@Bool.and_eq_true_iff
def A5:=@Nat.le_add_right
def Fk:=@List.replicate_succ
def A6:=@Bool.or_eq_true_iff
def x9:=@List.contains_iff_mem
def mZ:=@Nat.lt_succ_iff_lt_or_eq
def Fl:=@List.getElem?_replicate
def eo:=@List.length_map
def A7:=@List.pairwise_append
def A8:=@List.pairwise_singleton
def x':=@Int.le_refl
def xv:=@List.mem_replicate
def Fo:=@List.count_eq_zero
def A9:=@List.pairwise_cons
def mw:=@Int.fdiv_eq_ediv_of_nonneg
def x_:=@List.mem_of_mem_take
def A':=@Nat.le_of_eq
def Fp:=@List.getElem?_take_of_lt
def vU:=@List.getElem?_mapIdx
def Fq:=@List.getElem?_set_ne
def ya:=@List.count_append
def A_:=@List.count_cons
def cr:=@List.not_mem_nil
def df:=@Prod.mk.injEq
def sG:=@Bool.not_eq_true'
def kG:=@List.flatMap_nil
def Fs:=@List.filterMap_append
def Ba:=@List.filterMap_cons
def Ft:=@Nat.eq_zero_or_pos
def yb:=@Bool.not_eq_false'
def yc:=@List.drop_eq_nil_of_le
def Fu:=@List.getElem?_toArray
def cW:=@Option.bind_none
def vV:=@Bool.not_eq_true
def Bb:=@Nat.not_lt_zero
def Fv:=@List.count_le_length
def yd:=@List.take_zero
def Fw:=@List.length_range
def Fx:=@List.mem_filterMap
def Fy:=@List.getElem?_eq_none_iff
def Fz:=@Option.some.inj
theorem O {α : Sort _} {a : α} : a = a := rfl
theorem Y {α : Sort _} {a : α} {b : Prop} : a = a \/ b := .inl rfl
end Go
section
namespace Go.Bw
open Go Go.RowKit
def lk:List (Nat×Value)->Nat->Option Value
 | [],_=>none
 | (k,v)::r,n=>bif Nat.beq k n then some v else lk r n
structure Ag (n:Nat) (ds:List Deferred) (l:List (Nat×Value)) (a:Act):Prop where
 size:a.tmps.size=n
 defs:a.defers=ds
 gv:∀t v,lk l t=some v->a.tmps.getD t undef=v
def bn (l:List (Nat×Value)):Operand->Option Value
 | .tmp t=>lk l t
 | .const v=>some v
 | .global g=>some (.pointer (some ⟨g,0,none⟩))
 | .func f=>some (.func (.func f) #[] #[])
section
variable {n:Nat} {ds:List Deferred} {l:List (Nat×Value)} {a:Act}
theorem Ag.eval (h:Ag n ds l a) {x:Operand} {v:Value} (b:bn l x=some v):a.eval x=v:=by
 cases x with
 | tmp t=>exact h.gv t v b
 | const u=>simpa [bn,Act.eval] using b
 | global g=>simpa [bn,Act.eval] using b
 | func f=>simpa [bn,Act.eval] using b
theorem Ag.put (h:Ag n ds l a) {d:Nat} (c:Nat.blt d n=true) (v:Value):Ag n ds ((d,v)::l) (a.put (some d) v):=by
 have f:d<a.tmps.size:=by rw [h.size]; exact oq c
 refine ⟨by simp [Act.put,h.size],h.defs,λt u b=>?_⟩;simp only [lk] at b
 by_cases e:d=t
 · subst e
   simp at b;subst b;simp [Act.put,Array.getD,f]
 · have:Nat.beq d t=false:=by
     cases g:Nat.beq d t with
     | false=>rfl
     | true=>exact absurd (kE g) e
   rw [this] at b;have:=h.gv t u b;simp only [Act.put,iL] at *;rw [rm e];exact this
theorem Ag.vW (h:Ag n ds l a) (v:Value):Ag n ds l (a.put none v):=h
theorem Ag.sub (h:Ag n ds l a) {b:List (Nat×Value)} (d:∀p ∈ b,lk l p.1=some p.2):Ag n ds b a:=by
 refine ⟨h.size,h.defs,λt v hv=>?_⟩
 suffices hm:(t,v) ∈ b from h.gv t v (d _ hm)
 induction b with
 | nil=>cases hv
 | cons p r e=>
   obtain ⟨k,u⟩:=p;simp only [lk] at hv
   cases c:Nat.beq k t with
   | true=>
     rw [c] at hv;have:=kE c;subst this;simp at hv;subst hv;exact List.mem_cons_self
   | false=>
     rw [c] at hv;exact bE _ (e (λp f=>d p (bE _ f)) hv)
def tW (l:List (Nat×Value)):List (Nat×Value)->List (Option Value)
 | []=>[]
 | p::r=>lk l p.1::tW l r
def hE:List (Nat×Value)->List (Option Value)
 | []=>[]
 | p::r=>some p.2::hE r
theorem vX {l:List (Nat×Value)}:∀{r:List (Nat×Value)},tW l r=hE r->∀p ∈ r,lk l p.1=some p.2
 | [],_,p,h=>by cases h
 | q::r,e,p,h=>by
  injection e with a b
  rcases List.mem_cons.1 h with rfl|h
  · exact a
  · exact vX b p h
end
section
variable {P:Program} {ops:Array Oper} {Q:Exit->Act->World->Prop} {n:Nat} {ds:List Deferred} {l:List (Nat×Value)} {W:World->Prop}
def WL (P:Program) (ops:Array Oper) (Q:Exit->Act->World->Prop) (n:Nat) (ds:List Deferred) (l:List (Nat×Value)) (W:World->Prop) (rest:List Oper):Prop:=
 ∀a w,Ag n ds l a->W w->wpList P ops Q rest a w
def WC (P:Program) (c:Code) (Q:Exit->Act->World->Prop) (n:Nat) (ds:List Deferred) (l:List (Nat×Value)) (W:World->Prop):Prop:=
 ∀a w,Ag n ds l a->W w->c.wp P Q a w
def WE (Q:Exit->Act->World->Prop) (e:Exit) (n:Nat) (ds:List Deferred) (l:List (Nat×Value)) (W:World->Prop):Prop:=
 ∀a w,Ag n ds l a->W w->Q e a w
def Yl (P:Program) (l:List (Nat×Value)) (W:World->Prop) (o:Oper) (v:Value):Prop:=
 ∀(ρ:Operand->Value) (w:World),(∀x u,bn l x=some u->ρ x=u)->W w->(execOp ρ o).run P w = .ok (.value v) w
theorem Ln (h:WE Q .normal n ds l W):WL P ops Q n ds l W []:=λa w b c=>h a w b c
def dN (ops:Array Oper) (l:List (Nat×Value)) (g:Option (Nat×Bool)):Prop:=
 g=none\/∃j b a,g=some (j,b)/\(ops[j]?).bind (·.dst)=some a/\lk l a=some (.bool b)
theorem dN.wanted {o:Oper} {a:Act} (h:dN ops l o.guard) (e:Ag n ds l a):Region.wanted o (yielded ops a.tmps)=true:=by
 rcases h with h | ⟨j,b,d,f,g,i⟩
 · simp [Region.wanted,h]
 · have hv:=e.gv d _ i
   rw [iL] at hv
   cases c:a.tmps[d]? with
   | none=>simp [c,undef] at hv
   | some u=>
     simp [c] at hv;subst hv;simp [Region.wanted,f,yielded,g,c]
theorem WL.step {rest:List Oper} {o:Oper} (d:dN ops l o.guard)
   (h:∀a w,Ag n ds l a->W w->∀b:Act->World->Prop,(∀a w,wpList P ops Q rest a w->b a w)->o.wp P a w b Q):WL P ops Q n ds l W (o::rest):=by
 intro a w c e;refine wpList_step λb f=>?_;rw [if_pos (d.wanted c)];exact h a w c e b f
theorem Lv {rest:List Oper} {d:Nat} {op:Op} {ty:TypeId} {pos:String} {af:Array Edge} {v:Value} {g:Option (Nat×Bool)} (e:dN ops l g) (f:Nat.blt d n=true)
   (i:Yl P l W ⟨some d,op,ty,pos,af,g⟩ v) (h:WL P ops Q n ds ((d,v)::l) W rest):WL P ops Q n ds l W (⟨some d,op,ty,pos,af,g⟩::rest):=by
 refine WL.step e λa w b c m j=>?_;have:=i a.eval w (λx u k=>b.eval k) c;simp only [Oper.wp,this,Oper.upon_value];exact j _ _ (h _ _ (b.put f v) c)
theorem I {rest:List Oper} {d:Nat} {op:Op} {ty:TypeId} {pos:String} {af:Array Edge} {v:Value} (a:Yl P l W ⟨some d,op,ty,pos,af,none⟩ v) (h:WL P ops Q n ds ((d,v)::l) W rest) (b:Nat.blt d n=true:=by rfl):WL P ops Q n ds l W (⟨some d,op,ty,pos,af,none⟩::rest):=Lv (.inl rfl) b a h
theorem Vg {rest:List Oper} {d:Nat} {op:Op} {ty:TypeId} {pos:String} {af:Array Edge} {v:Value} {g:Option (Nat×Bool)} (a:Yl P l W ⟨some d,op,ty,pos,af,g⟩ v) (h:WL P ops Q n ds ((d,v)::l) W rest) (b:dN ops l g:=by exact .inr ⟨_,_,_,rfl,rfl,rfl⟩) (c:Nat.blt d n=true:=by rfl):WL P ops Q n ds l W (⟨some d,op,ty,pos,af,g⟩::rest):=Lv b c a h
theorem dN.g {j:Nat} {b:Bool} {a:Nat} {g:Option (Nat×Bool)} (c:g=some (j,b)) (d:(ops[j]?).bind (·.dst)=some a) (e:lk l a=some (.bool b)):dN ops l g:=.inr ⟨j,b,a,c,d,e⟩
theorem WL.skip {rest:List Oper} {d:Nat} {op:Op} {ty:TypeId} {pos:String} {af:Array Edge} {j:Nat} {b:Bool} {f:Oper} {c:Nat} (i:Nat.blt d n=true)
   (k:ops[j]? = some f) (m:f.dst=some c) (o:Nat.blt c n=true) (p:lk l c=some (.bool (!b)))
   (h:WL P ops Q n ds ((d,undef)::l) W rest):WL P ops Q n ds l W (⟨some d,op,ty,pos,af,some (j,b)⟩::rest):=by
 intro a w e q;refine wpList_step λu r=>?_;have hv:a.tmps.getD c undef = .bool (!b):=e.gv c _ p
 have g:c<a.tmps.size:=by rw [e.size]; exact oq o
 have s:a.tmps[c]? = some (.bool (!b)):=by
   rw [iL,sB g] at hv;rw [sB g]
   simpa using hv
 have t:yielded ops a.tmps j=some (!b):=by simp [yielded,k,m,s]
 rw [if_neg (by simp [Region.wanted,t])];exact r _ _ (h _ _ (e.put i undef) q)
theorem WL.sub {rest:List Oper} (b:List (Nat×Value)) (c:∀p ∈ b,lk l p.1=some p.2) (h:WL P ops Q n ds b W rest):WL P ops Q n ds l W rest:=
 λa w d e=>h a w (d.sub c) e
theorem WC.sub {c:Code} (b:List (Nat×Value)) (d:∀p ∈ b,lk l p.1=some p.2) (h:WC P c Q n ds b W):WC P c Q n ds l W:=
 λa w e f=>h a w (e.sub d) f
theorem WE.sub {e:Exit} (b:List (Nat×Value)) (c:∀p ∈ b,lk l p.1=some p.2) (h:WE Q e n ds b W):WE Q e n ds l W:=
 λa w d f=>h a w (d.sub c) f
theorem LW {rest:List Oper} {W':World->Prop} (b:∀w,W w->W' w) (h:WL P ops Q n ds l W' rest):WL P ops Q n ds l W rest:=
 λa w c d=>h a w c (b w d)
theorem dJ {c:Code} {W':World->Prop} (b:∀w,W w->W' w) (h:WC P c Q n ds l W'):WC P c Q n ds l W:=
 λa w d e=>h a w d (b w e)
theorem WE.world {e:Exit} {W':World->Prop} (b:∀w,W w->W' w) (h:WE Q e n ds l W'):WE Q e n ds l W:=
 λa w c d=>h a w c (b w d)
theorem sn {l:List (Nat×Value)}:∀p ∈ ([]:List (Nat×Value)),lk l p.1=some p.2:=aj
theorem sc {l r:List (Nat×Value)} {k:Nat} {v:Value} (h:lk l k=some v) (b:∀p ∈ r,lk l p.1=some p.2):∀p ∈ (k,v)::r,lk l p.1=some p.2:=by
 intro p a
 rcases dU.1 a with rfl | a
 · exact h
 · exact b p a
theorem Cs {x y:Code} (h:WC P x (Exit.then (y.wp P Q) Q) n ds l W):WC P (.seq x y) Q n ds l W:=λa w b c=>wp_seq (h a w b c)
theorem Ck (h:WE Q .normal n ds l W):WC P .skip Q n ds l W:=λa w b c=>wp_skip (h a w b c)
theorem a7 (h:WE Q .ret n ds l W):WC P .ret Q n ds l W:=λa w b c=>wp_ret (h a w b c)
theorem Ce {id:Nat} (h:WE Q (.exit id) n ds l W):WC P (.exit id) Q n ds l W:=λa w b c=>wp_exit (h a w b c)
theorem Cb {id:Nat} {c:Code} (h:WC P c (Exit.inBlock id Q) n ds l W):WC P (.block id c) Q n ds l W:=λa w b d=>wp_block (h a w b d)
theorem Cr {id:Nat} {o:List Oper} (h:WL P o.toArray Q n ds l W o):WC P (.region id o.toArray false) Q n ds l W:=λa w b c=>wp_region_lit (h a w b c)
theorem Cc {c:Operand} {x y:Code} {t:Bool} (e:bn l c=some (.bool t)) (f:t=true->WC P x Q n ds l W) (g:t=false->WC P y Q n ds l W):WC P (.cond c x y) Q n ds l W:=
 λa w b d=>wp_cond_split (b.eval e) (λh=>f h a w b d) (λh=>g h a w b d)
theorem WC.ye {c:Operand} {x y:Code} (d:bn l c=some (.bool true)) (h:WC P x Q n ds l W):WC P (.cond c x y) Q n ds l W:=
 λa w b e=>wp_cond_true (b.eval d) (h a w b e)
theorem WC.kg {c:Operand} {x y:Code} (d:bn l c=some (.bool false)) (h:WC P y Q n ds l W):WC P (.cond c x y) Q n ds l W:=
 λa w b e=>wp_cond_false (b.eval d) (h a w b e)
theorem Et {y:Code} {b:Exit->Act->World->Prop} (h:WC P y Q n ds l W):WE (Exit.then (y.wp P Q) b) .normal n ds l W:=λa w c d=>h a w c d
theorem Er {a:Act->World->Prop} (h:WE Q .ret n ds l W):WE (Exit.then a Q) .ret n ds l W:=h
theorem Ex {a:Act->World->Prop} {id:Nat} (h:WE Q (.exit id) n ds l W):WE (Exit.then a Q) (.exit id) n ds l W:=h
theorem aa {y:Code} {a:Exit->Act->World->Prop} (h:WC P y Q n ds l W):WL P ops (Exit.then (y.wp P Q) a) n ds l W []:=Ln (Et h)
theorem ag {id:Nat} {o:List Oper} {y:Code} (h:WL P o.toArray (Exit.then (y.wp P Q) Q) n ds l W o):WC P (.seq (.region id o.toArray false) y) Q n ds l W:=Cs (Cr h)
theorem bk {y:Code} {a:Exit->Act->World->Prop} (h:WC P y Q n ds l W):WC P .skip (Exit.then (y.wp P Q) a) n ds l W:=Ck (Et h)
theorem Eb {id:Nat} (h:WE Q .normal n ds l W):WE (Exit.inBlock id Q) .normal n ds l W:=h
theorem cG {id:Nat} (h:WE Q .ret n ds l W):WE (Exit.inBlock id Q) .ret n ds l W:=h
theorem cB {id:Nat} (h:WE Q .normal n ds l W):WE (Exit.inBlock id Q) (.exit id) n ds l W:=λa w b c=>by
 simp only [Exit.inBlock,if_true]; exact h a w b c
theorem vY {id b:Nat} (c:Nat.beq b id=false) (h:WE Q (.exit b) n ds l W):WE (Exit.inBlock id Q) (.exit b) n ds l W:=λa w d f=>by
 have:b≠id:=λe=>by subst e; rw [AW] at c; cases c
 simp only [Exit.inBlock,if_neg this]; exact h a w d f
def sH:Nat->List Value->List (Nat×Value)
 | _,[]=>[]
 | i,v::r=>(i,v)::sH (i+1) r
theorem Bc (vs:List Value):∀(i t:Nat) (v:Value),lk (sH i vs) t=some v->i<=t/\vs[t-i]? = some v:=by
 induction vs with
 | nil=>intro i t v h; cases h
 | cons x r b=>
   intro i t v h;simp only [sH,lk] at h
   cases a:Nat.beq i t with
   | true=>
     rw [a] at h;have:=kE a;subst this;simp at h;simp [h]
   | false=>
     rw [a] at h;obtain ⟨d,c⟩:=b (i+1) t v h;refine ⟨ae,?_⟩
     have:t-i=(t-(i+1))+1:=ae
     rw [this]
     simpa using c
theorem enter {f:FuncId} {fn:Func} {c:Code} {vs:List Value} {w:World} {R:Ending->World->Prop} (d:P.funcs[f]? = some fn) (e:fn.body=some c)
   (m:Nat) (g:fn.ntmps=m) (i:Nat.ble vs.length m=true) (h:WC P c (bodyPost P fn R) m [] (sH 0 vs) (λw'=>w'=w)):Calls P f vs.toArray w R:=by
 refine calls_of_wp d e (h _ _ ?_ O);have j:=oq i;subst g;refine ⟨by simp; omega,O,λt v hv=>?_⟩;obtain ⟨_,a⟩:=Bc vs 0 t v hv;simp only [qj] at a
 have b:t<vs.length:=by
   rcases kY t vs.length with h | h
   · exact h
   · simp [gN h] at a
 simp [iL,xX,b];simp [dL b] at a;exact a
theorem WE.yf {fn:Func} {R:Ending->World->Prop} (b:fn.results = #[]) (h:∀w,W w->R (.returned (.tuple #[])) w):WE (bodyPost P fn R) .ret n [] l W:=
 λa w c d=>bodyPost_ret (results_none b _ _ _) c.defs (h w d)
theorem E0 {fn:Func} {R:Ending->World->Prop} (b:fn.results = #[]) (h:∀w,W w->R (.returned (.tuple #[])) w):WE (bodyPost P fn R) .normal n [] l W:=
 λa w c d=>bodyPost_end (results_none b _ _ _) c.defs (h w d)
theorem R1 {fn:Func} {R:Ending->World->Prop} {t:Nat} {v:Value} (c:fn.results = #[.tmp t]) (d:lk l t=some v) (h:∀w,W w->R (.returned v) w):WE (bodyPost P fn R) .ret n [] l W:=
 λa w b e=>bodyPost_ret (results_tmp c _ _ _) b.defs (by rw [b.gv t v d]; exact h w e)
theorem WE.gZ {fn:Func} {R:Ending->World->Prop} {t u:Nat} {v x:Value} (c:fn.results = #[.tmp t,.tmp u]) (d:lk l t=some v) (e:lk l u=some x) (h:∀w,W w->R (.returned (.tuple #[v,x])) w):WE (bodyPost P fn R) .ret n [] l W:=
 λa w b f=>bodyPost_ret (results_tmp2 c _ _ _) b.defs (by rw [b.gv t v d,b.gv u x e]; exact h w f)
theorem MI {fn:Func} {t u s:Tmp} (h:fn.results = #[.tmp t,.tmp u,.tmp s]) (tmps:Array Value) (P:Program) (w:World) :
   (results fn tmps).run P w = .ok (.tuple #[tmps.getD t undef,tmps.getD u undef,tmps.getD s undef]) w:=by
 simp [results,h]
theorem WE.ry {fn:Func} {R:Ending->World->Prop} {t u s:Nat} {v x y:Value} (c:fn.results = #[.tmp t,.tmp u,.tmp s]) (d:lk l t=some v) (e:lk l u=some x) (f:lk l s=some y) (h:∀w,W w->R (.returned (.tuple #[v,x,y])) w):WE (bodyPost P fn R) .ret n [] l W:=
 λa w b g=>bodyPost_ret (MI c _ _ _) b.defs (by rw [b.gv t v d,b.gv u x e,b.gv s y f]; exact h w g)
theorem bU {fn:Func} {R:Ending->World->Prop} {b:List PanicEntry} (h:∀w,W w->R (.panicked b) w):WE (bodyPost P fn R) (.panic b) n [] l W:=
 λa w c d=>⟨c.defs,h w d⟩
theorem Ep {b:Act->World->Prop} {a:List PanicEntry} (h:WE Q (.panic a) n ds l W):WE (Exit.then b Q) (.panic a) n ds l W:=h
theorem WE.cm {id:Nat} {a:List PanicEntry} (h:WE Q (.panic a) n ds l W):WE (Exit.inBlock id Q) (.panic a) n ds l W:=h
theorem MJ {p:Nat->Prop}:∀m,p m->∃k,p k/\∀j,p j->k<=j:=by
 intro m
 induction m using Nat.strongRecOn with
 | _ m b=>
   intro c
   by_cases h:∃j,j<m/\p j
   · obtain ⟨j,d,a⟩:=h
     exact b j d a
   · exact ⟨m,c,λj a=>Nat.le_of_not_lt λe=>h ⟨j,e,a⟩⟩
theorem wp_loop_ghost {ι:Type} {c:Code} {a:Act} {w:World} (b:ι->Act->World->Prop) (d:ι->Nat) (l:ι) (o:b l a w)
   (p:∀i a w,b i a w->c.wp P (Exit.then (λf w'=>∃j,d j<d i/\b j f w') Q) a w):(Code.loop c).wp P Q a w:=by
 classical
 let J:Act->World->Prop:=λa w=>∃i,b i a w
 have g:∀a w,J a w->∃k,(∃i,b i a w/\d i=k)/\∀j,(∃i,b i a w/\d i=j)->k<=j:=by
   rintro a w ⟨i,hi⟩
   exact MJ (d i) ⟨i,hi,O⟩
 let M:Act->World->Nat:=λa w=>if h:J a w then Classical.choose (g a w h) else 0
 have q:∀a w,J a w->∃i,b i a w/\d i=M a w:=by
   intro a w h;have:=(E2 (g a w h)).1;simp only [M,dif_pos h];exact this
 have r:∀a w i,b i a w->M a w<=d i:=by
   intro a w i hi;have h:J a w:=⟨i,hi⟩;simp only [M,dif_pos h];exact (E2 (g a w h)).2 _ ⟨i,hi,O⟩
 refine wp_loop J M ⟨l,o⟩ λa w s=>?_;obtain ⟨i,hi,t⟩:=q a w s;refine wp_mono (p i a w hi) λe f w' m=>?_
 cases e with
 | normal=>
   obtain ⟨j,u,n⟩:=m;exact ⟨⟨j,n⟩,by have:=r f w' j n; omega⟩
 | _=>exact m
theorem WC.loop {ι:Type} {c:Code} (b:ι->List (Nat×Value)) (d:ι->World->Prop) (R:ι->Prop) (f:ι->Nat) (e:ι) (h:R e) (k:∀p ∈ b e,lk l p.1=some p.2) (m:∀w,W w->d e w)
   (o:∀i,R i->WC P c (Exit.then (λq w'=>∃j,f j<f i/\R j/\Ag n ds (b j) q/\d j w') Q) n ds (b i) (d i)):WC P (.loop c) Q n ds l W:=by
 intro a w r s;refine wp_loop_ghost (λi a w=>R i/\Ag n ds (b i) a/\d i w) f e ⟨h,r.sub k,m w s⟩ λi a w g=>?_;exact o i g.1 a w g.2.1 g.2.2
theorem Ea {ι:Type} {c:ι->List (Nat×Value)} {d:ι->World->Prop} {R:ι->Prop} {b:ι->Nat} {i:ι} (j:ι) (e:b j<b i) (f:R j) (g:∀p ∈ c j,lk l p.1=some p.2) (h:∀w,W w->d j w) :
   WE (Exit.then (λk w'=>∃j,b j<b i/\R j/\Ag n ds (c j) k/\d j w') Q) .normal n ds l W:=λa w m o=>⟨j,e,f,m.sub g,h w o⟩
theorem b8 {ι:Type} {b:ι->List (Nat×Value)} {c:ι->World->Prop} {R:ι->Prop} {a:ι->Nat} {i:ι} (j:ι) (d:a j<a i) (e:R j) (f:∀w,W w->c j w) (g:tW l (b j)=hE (b j):=by rfl):WE (Exit.then (λh w'=>∃j,a j<a i/\R j/\Ag n ds (b j) h/\c j w') Q) .normal n ds l W:=Ea j d e (vX g) f
end
abbrev View:=Nat->Option Obj
def Le (a:View) (w:World):Prop:=∀b o,a b=some o->w.heap[b]? = some o
def bF (a c:View):Prop:=∀b o,a b=some o->c b=some o
theorem bF.refl (a:View):bF a a:=λ_ _ h=>h
theorem bF.trans {A B C:View} (h:bF A B) (k:bF B C):bF A C:=λb o x=>k b o (h b o x)
def fj (w:World) (a:View):Prop:=∀b,b<w.heap.size->a b=none
def nv (a w:World):View:=λb=>if a.heap.size<=b then w.heap[b]? else none
theorem nF (a w:World):Le (nv a w) w:=λb o h=>by unfold nv at h; split at h; exact h; cases h
theorem tY (a w:World):fj a (nv a w):=λb h=>by unfold nv; rw [if_neg ae]
theorem ML {a w:World} {c:View} (e:Le c w) (f:fj a c):bF c (nv a w):=λb o h=>by
 unfold nv;rw [if_pos,e b o h]
 rcases kY b a.heap.size with d | d
 · rw [f b d] at h; cases h
 · exact d
theorem fj.mono {w w':World} {a:View} (h:fj w' a) (c:w.heap.size<=w'.heap.size):fj w a:=λb d=>h b ae
structure Fr (F:List Nat) (w0 w:World):Prop where
 os:w.os=w0.os
 tape:w.tape=w0.tape
 output:w.output=w0.output
 size:w0.heap.size<=w.heap.size
 block:∀k,k<w0.heap.size->k ∉ F->w.heap[k]? = w0.heap[k]?
abbrev Ext (w w':World):Prop:=Fr [] w w'
theorem Fr.refl (a:List Nat) (w:World):Fr a w w:=⟨rfl,rfl,rfl,dp _,λ_ _ _=>rfl⟩
theorem Fr.trans {d e:List Nat} {a b c:World} (h:Fr d a b) (k:Fr e b c) (j:∀x ∈ e,x ∈ d\/a.heap.size<=x):Fr d a c:=
 ⟨k.os.trans h.os,k.tape.trans h.tape,k.output.trans h.output,kZ h.size k.size,λi hi f=>
   (k.block i (Nat.lt_of_lt_of_le hi h.size) λl=>by rcases j i l with g | g; exact f g; omega).trans (h.block i hi f)⟩
theorem Ext.trans {a b c:World} (h:Ext a b) (k:Ext b c):Ext a c:=Fr.trans h k aj
theorem Ext.below {w w':World} (h:Ext w w'):Below w.heap.size w w':=⟨h.os,h.tape,h.output,h.size,λk a=>h.block k a aj⟩
theorem Ext.Be {w w':World} (h:Below w.heap.size w w'):Ext w w':=⟨h.os,h.tape,h.output,h.size,λk a _=>h.block k a⟩
theorem Ext.drew (w:World):Ext w w.drew:=⟨rfl,rfl,rfl,dp _,λ_ _ _=>rfl⟩
theorem Ext.alloc (w:World) (o:Obj):Ext w (w.alloc o):=⟨rfl,rfl,rfl,aj,λk a _=>Below.heap_alloc _ _ _ a⟩
theorem lt_of_heap {w:World} {b:Nat} {o:Obj} (h:w.heap[b]? = some o):b<w.heap.size:=by
 rcases kY b w.heap.size with a | a
 · exact a
 · rw [tQ a] at h; cases h
theorem Le.ext {a:View} {w w':World} (h:Le a w) (e:Ext w w'):Le a w':=λb o x=>(e.block b (lt_of_heap (h b o x)) aj).trans (h b o x)
structure aW where
 ids:List Nat
 holds:World->Prop
 loc:∀w w',(∀k ∈ ids,w'.heap[k]? = w.heap[k]?)->holds w->holds w'
 vZ:∀w,holds w->∀k ∈ ids,k<w.heap.size
def ao (b:Nat) (o:Obj):aW:=⟨[b],λw=>w.heap[b]? = some o,λw w' h a=>(h b aj).trans a,λw a k c=>by simp at c; subst c; exact lt_of_heap a⟩
structure Ws (w0:World) (F:List Nat) (L:List aW) (Vs:List View) (w:World):Prop where
 fr:Fr F w0 w
 kn:∀A ∈ L,A.holds w
 nd:(L.flatMap aW.ids).Nodup
 own:∀A ∈ L,∀k ∈ A.ids,k ∈ F\/w0.heap.size<=k
 vs:∀H ∈ Vs,Le H w
 off:∀H ∈ Vs,∀A ∈ L,∀k ∈ A.ids,H k=none
section
variable {w0 w w':World} {F:List Nat} {L L' L2:List aW} {Vs:List View}
theorem Ws.init (a:∀b ∈ Vs,Le b w):Ws w [] [] Vs w:=⟨Fr.refl _ _,aj,aj,aj,a,aj⟩
theorem CE {P:Program} {Q:Exit->Act->World->Prop} {n:Nat} {ds:List Deferred} {l:List (Nat×Value)} {c:Code} {a w:World} {b:List Nat} {L:List aW} {Vs:List View} (d:Ws a b L Vs w) (h:WC P c Q n ds l (Ws a b L Vs)):WC P c Q n ds l (λw'=>w'=w):=
 dJ (λ_ e=>by subst e; exact d) h
theorem Ws.rz (h:Ws w0 F (L++L2) Vs w) (p:Fr (L.flatMap aW.ids) w w') (n:∀A ∈ L',A.holds w')
   (t:(L'.flatMap aW.ids).Nodup) (hi:∀A ∈ L',∀k ∈ A.ids,k ∈ L.flatMap aW.ids\/w.heap.size<=k):Ws w0 F (L'++L2) Vs w':=by
 have nd:=h.nd;rw [xY,jx] at nd
 have same:∀A ∈ L2,∀k ∈ A.ids,w'.heap[k]? = w.heap[k]?:=λA a k n=>
   p.block k (A.vZ w (h.kn A (by simp [a])) k n) λq=>nd.2.2 k q k (lX.2 ⟨A,a,n⟩) rfl
 refine ⟨?_,?_,?_,?_,?_,?_⟩
 · refine h.fr.trans p λx r=>?_
   obtain ⟨A,a,i⟩:=lX.1 r;exact h.own A (by simp [a]) x i
 · intro A a
   rcases dA.1 a with a | a
   · exact n A a
   · exact A.loc w w' (same A a) (h.kn A (by simp [a]))
 · rw [xY,jx]
   refine ⟨t,nd.2.1,λx r y s e=>?_⟩;subst e;obtain ⟨A,a,i⟩:=lX.1 r;obtain ⟨B,j,l⟩:=lX.1 s
   rcases hi A a x i with c | c
   · exact nd.2.2 x c x s O
   · have:=B.vZ w (h.kn B (by simp [j])) x l
     omega
 · intro A a k m
   rcases dA.1 a with a | a
   · rcases hi A a k m with c | c
     · obtain ⟨B,j,l⟩:=lX.1 c
       exact h.own B (by simp [j]) k l
     · exact .inr (kZ h.fr.size c)
   · exact h.own A (by simp [a]) k m
 · intro d f b o g
   rw [p.block b (lt_of_heap (h.vs d f b o g))]
   · exact h.vs d f b o g
   · intro q
     obtain ⟨A,a,i⟩:=lX.1 q;have:=h.off d f A (by simp [a]) b i;rw [this] at g; cases g
 · intro d f A a k m
   rcases dA.1 a with a | a
   · rcases hi A a k m with c | c
     · obtain ⟨B,j,l⟩:=lX.1 c
       exact h.off d f B (by simp [j]) k l
     · cases g:d k with
       | none=>rfl
       | some o=>have:=lt_of_heap (h.vs d f k o g); omega
   · exact h.off d f A (by simp [a]) k m
theorem Ws.ext (h:Ws w0 F L Vs w) (e:Ext w w'):Ws w0 F L Vs w':=by
 have:=Ws.rz (L:=[]) (L':=[]) (L2:=L) (by simpa using h) (by simpa using e) aj aj aj
 simpa using this
theorem Ws.alloc (h:Ws w0 F L Vs w) (o:Obj):Ws w0 F (ao w.heap.size o::L) Vs (w.alloc o):=by
 have:=Ws.rz (L:=[]) (L':=[ao w.heap.size o]) (L2:=L) (by simpa using h) (by simpa using Ext.alloc w o)
   (by intro A a; simp at a; subst a; show (w.heap.push o)[w.heap.size]? = some o; simp) (by simp [ao]) (by simp [ao])
 simpa using this
theorem Ws.view (h:Ws w0 F L Vs w) (e:Ext w w') {b:View} (f:Le b w') (i:fj w b):Ws w0 F L (b::Vs) w':=by
 have g:=h.ext e;refine ⟨g.fr,g.kn,g.nd,g.own,?_,?_⟩
 · intro V a
   rcases dU.1 a with rfl | a
   · exact f
   · exact g.vs V a
 · intro V a A c k d
   rcases dU.1 a with rfl | a
   · exact i k (A.vZ w (h.kn A c) k d)
   · exact g.off V a A c k d
theorem Ws.perm (h:Ws w0 F L Vs w) (b:L.Perm L'):Ws w0 F L' Vs w:=
 ⟨h.fr,λA a=>h.kn A (b.mem_iff.2 a),(List.Perm.flatMap_right _ b).nodup_iff.1 h.nd,λA a=>h.own A (b.mem_iff.2 a),h.vs,λc d A a=>h.off c d A (b.mem_iff.2 a)⟩
theorem Ws.drop (h:Ws w0 F (L++L') Vs w):Ws w0 F L' Vs w:=by
 have nd:=h.nd;rw [xY,jx] at nd;exact ⟨h.fr,λA a=>h.kn A (by simp [a]),nd.2.1,λA a=>h.own A (by simp [a]),h.vs,λb c A a=>h.off b c A (by simp [a])⟩
theorem Ws.av (h:Ws w0 F L Vs w) {b3:List View} (c:∀a ∈ b3,a ∈ Vs):Ws w0 F L b3 w:=
 ⟨h.fr,h.kn,h.nd,h.own,λa b=>h.vs a (c a b),λa b=>h.off a (c a b)⟩
end
def eu {α:Type}:Nat->List α->List α
 | _,[]=>[]
 | 0,_::r=>r
 | i+1,x::r=>x::eu i r
theorem mx {α:Type} {x:α}:∀(i:Nat) (l:List α),l[i]? = some x->l.Perm (x::eu i l)
 | _,[],h=>by cases h
 | 0,y::r,h=>by simp at h; subst h; exact List.Perm.refl _
 | i+1,y::r,h=>by
   have:=mx i r (by simpa using h);exact (List.Perm.cons y this).trans (List.Perm.swap _ _ _)
theorem set_perm {α:Type} {x y:α}:∀(i:Nat) (l:List α),l[i]? = some x->(y::eu i l).Perm (l.set i y)
 | _,[],h=>by cases h
 | 0,z::r,_=>by simp [eu]
 | i+1,z::r,h=>by
   have:=set_perm (y:=y) i r (by simpa using h);exact (List.Perm.swap _ _ _).trans (List.Perm.cons z this)
theorem Ws.dM {a w w':World} {b:List Nat} {L:List aW} {Vs:List View} (h:Ws a b L Vs w) (i:Nat) {A B:aW} (hi:L[i]? = some A) (c:Fr A.ids w w') (d:B.holds w')
   (e:B.ids.Nodup) (f:∀k ∈ B.ids,k ∈ A.ids\/w.heap.size<=k):Ws a b (L.set i B) Vs w':=by
 have g:=h.perm (mx i L hi);have j:=Ws.rz (L:=[A]) (L':=[B]) (L2:=eu i L) (by simpa using g) (by simpa using c) (by simpa using d) (by simpa using e) (by simpa using f);exact Ws.perm (by simpa using j) (set_perm i L hi)
theorem eL {α:Type} {l:List α} {i:Nat} {x:α} (h:l[i]? = some x):x ∈ l:=ax h
theorem Ws.V {b w:World} {c:List Nat} {L:List aW} {Vs:List View} {a:View} (h:Ws b c L Vs w) (d:a ∈ Vs:=by simp):Le a w:=h.vs a d
def nJ (P:Program) (t:TypeId):Bool:=match P.underlying t with | some (.struct _) | some (.array _ _) | none=>false | _=>true
def gP (P:Program) (t:TypeId):Option Nat:=match P.underlying t with | some (.struct _) | some (.array _ _)=>(P.info? t).map (·.size) | _=>none
def cx (P:Program) (t:TypeId) (f:Nat):Option Nat:=match P.underlying t with
 | some (.struct fs)=>match fs[f]? with
   | some x=>match P.info? x.type with
     | some i=>if i.size=0 then none else some x.offset
     | none=>none
   | none=>none
 | _=>none
def fk (P:Program) (t:TypeId):Option Nat:=match P.underlying t with | some (.slice e)=>(P.info? e).map (·.size) | _=>none
section
variable {P:Program} {w:World}
theorem yg {t:TypeId} (h:nJ P t=true) (w:World):(isAgg t).run P w = .ok false w:=by
 unfold nJ at h
 cases a:P.underlying t with
 | none=>simp [a] at h
 | some d=>cases d<;>simp_all [isAgg,run_underlying a]
theorem MM {t:TypeId} {k:Nat} (h:gP P t=some k) (w:World):(isAgg t).run P w = .ok true w/\(sizeOf t).run P w = .ok k w:=by
 unfold gP at h
 cases a:P.underlying t with
 | none=>simp [a] at h
 | some d=>
   cases hi:P.info? t with
   | none=>cases d<;>simp_all
   | some i=>cases d<;>simp_all [isAgg,run_underlying a,sizeOf,typeInfo]
def gQ (o:Obj) (k:Nat):Option Value:=match o with | .cells c _ _=>c.toList[k]? | _=>none
def vc (a:View) (b k:Nat):Option Value:=(a b).bind (gQ · k)
theorem cell_of_heap {b k:Nat} {o:Obj} {v:Value} (h:w.heap[b]? = some o) (a:gQ o k=some v):w.cell? ⟨b,k,none⟩=some v:=by
 cases o<;>simp_all [gQ,World.cell?]
theorem Le.cell {c:View} (h:Le c w) {b k:Nat} {v:Value} (a:vc c b k=some v):w.cell? ⟨b,k,none⟩=some v:=by
 unfold vc at a
 cases d:c b with
 | none=>simp [d] at a
 | some o=>simp [d] at a; exact cell_of_heap (h b o d) a
theorem bF.cell {a e:View} (h:bF a e) {b k:Nat} {v:Value} (c:vc a b k=some v):vc e b k=some v:=by
 unfold vc at *
 cases d:a b with
 | none=>simp [d] at c
 | some o=>simp [d] at c; simp [h b o d,c]
theorem m_ (b o k:Nat):(⟨b,o,none⟩:Addr).add k=⟨b,o+k,none⟩:=by unfold Addr.add; split<;>simp_all
theorem FB {t:TypeId} (a:nJ P t=true) {b k:Nat} {v:Value} (c:w.cell? ⟨b,k,none⟩=some v):(loadVar t ⟨b,k,none⟩).run P w = .ok v w:=by
 simp [loadVar,yg a,c]
theorem yh {t:TypeId} {n:Nat} (a:gP P t=some n) {b k:Nat} {cs:List Value} (c:cs.length=n) (d:∀j v,cs[j]? = some v->w.cell? ⟨b,k+j,none⟩=some v) :
   (loadVar t ⟨b,k,none⟩).run P w = .ok (.agg cs.toArray) w:=by
 obtain ⟨e,f⟩:=MM a w;have:=run_loadCells_list (P:=P) w ⟨b,k,none⟩ cs (λj v h=>by rw [m_]; exact d j v h);rw [c] at this;simp [loadVar,e,f,this]
end
def st (l:List UInt8):Value:=.string ⟨l.toArray⟩
section
variable {P:Program} {l:List (Nat×Value)} {W:World->Prop} {w0:World} {F:List Nat} {L:List aW} {Vs:List View}
 {d:Option Tmp} {ty:TypeId} {pos:String} {af:Array Edge} {g:Option (Nat×Bool)}
theorem Ym {x:Operand} {v:Value} (a:bn l x=some v):Yl P l W ⟨d,.move x,ty,pos,af,g⟩ v:=λρ w b _=>by simp [execOp,b x v a]
theorem Ya {x:Operand} {v:Value} (a:bn l x=some v):Yl P l W ⟨d,.assign x,ty,pos,af,g⟩ v:=λρ w b _=>by simp [execOp,b x v a]
theorem ad {P:Program} {ops:Array Oper} {Q:Exit->Act->World->Prop} {n:Nat} {ds:List Deferred} {l:List (Nat×Value)} {W:World->Prop} {rest:List Oper} {d:Nat} {x:Operand} {ty:TypeId} {pos:String} {af:Array Edge} {v:Value} (a:bn l x=some v) (h:WL P ops Q n ds ((d,v)::l) W rest) (b:Nat.blt d n=true:=by rfl):WL P ops Q n ds l W (⟨some d,.move x,ty,pos,af,none⟩::rest):=I (Ym a) h b
theorem ak {P:Program} {ops:Array Oper} {Q:Exit->Act->World->Prop} {n:Nat} {ds:List Deferred} {l:List (Nat×Value)} {W:World->Prop} {rest:List Oper} {d:Nat} {x:Operand} {ty:TypeId} {pos:String} {af:Array Edge} {v:Value} (a:bn l x=some v) (h:WL P ops Q n ds ((d,v)::l) W rest) (b:Nat.blt d n=true:=by rfl):WL P ops Q n ds l W (⟨some d,.assign x,ty,pos,af,none⟩::rest):=I (Ya a) h b
theorem bY {t u:TypeId} {x y:Operand} {k:IntKind} {a b:Int} (e:bn l x=some (.int k a)) (f:bn l y=some (.int k b)):Yl P l W ⟨d,.binOp .eql t x y u,ty,pos,af,g⟩ (.bool (a==b)):=
 λρ w c _=>by simp [execOp,c x _ e,c y _ f,eqGuard,binOp,Op.intCmp]
theorem fz {t u:TypeId} {x y:Operand} {k:IntKind} {a b:Int} (e:bn l x=some (.int k a)) (f:bn l y=some (.int k b)):Yl P l W ⟨d,.binOp .neq t x y u,ty,pos,af,g⟩ (.bool (a != b)):=
 λρ w c _=>by simp [execOp,c x _ e,c y _ f,eqGuard,binOp,Op.intCmp]
theorem ai {t u:TypeId} {x y:Operand} {k:IntKind} {a b:Int} (e:bn l x=some (.int k a)) (f:bn l y=some (.int k b)):Yl P l W ⟨d,.binOp .lss t x y u,ty,pos,af,g⟩ (.bool (decide (a<b))):=
 λρ w c _=>by simp [execOp,c x _ e,c y _ f,eqGuard,binOp,Op.intCmp]
theorem ir {t u:TypeId} {x y:Operand} {k:IntKind} {a b:Int} (e:bn l x=some (.int k a)) (f:bn l y=some (.int k b)):Yl P l W ⟨d,.binOp .leq t x y u,ty,pos,af,g⟩ (.bool (decide (a<=b))):=
 λρ w c _=>by simp [execOp,c x _ e,c y _ f,eqGuard,binOp,Op.intCmp]
theorem dO {t u:TypeId} {x y:Operand} {k:IntKind} {a b:Int} (e:bn l x=some (.int k a)) (f:bn l y=some (.int k b)):Yl P l W ⟨d,.binOp .gtr t x y u,ty,pos,af,g⟩ (.bool (decide (b<a))):=
 λρ w c _=>by simp [execOp,c x _ e,c y _ f,eqGuard,binOp,Op.intCmp]
theorem gw {t u:TypeId} {x y:Operand} {k:IntKind} {a b:Int} (e:bn l x=some (.int k a)) (f:bn l y=some (.int k b)):Yl P l W ⟨d,.binOp .geq t x y u,ty,pos,af,g⟩ (.bool (decide (b<=a))):=
 λρ w c _=>by simp [execOp,c x _ e,c y _ f,eqGuard,binOp,Op.intCmp]
theorem yi {t u:TypeId} {x y:Operand} {k:IntKind} {a b:Int} (e:bn l x=some (.int k a)) (f:bn l y=some (.int k b)):Yl P l W ⟨d,.binOp .add t x y u,ty,pos,af,g⟩ (.int k (k.wrap (a+b))):=
 λρ w c _=>by simp [execOp,c x _ e,c y _ f,eqGuard,binOp,Op.intArith]
theorem MN {t u:TypeId} {x y:Operand} {k:IntKind} {a b:Int} (e:bn l x=some (.int k a)) (f:bn l y=some (.int k b)):Yl P l W ⟨d,.binOp .sub t x y u,ty,pos,af,g⟩ (.int k (k.wrap (a-b))):=
 λρ w c _=>by simp [execOp,c x _ e,c y _ f,eqGuard,binOp,Op.intArith]
theorem yj {n:Int} (h : -9223372036854775808<=n/\n<=9223372036854775807):IntKind.i64.wrap n=n:=by rw [IntKind.wrap_i64]; omega
theorem l0 {t u:TypeId} {x y:Operand} {a b:Int} (c:bn l x=some (.int .i64 a)) (e:bn l y=some (.int .i64 b)) (f : -9223372036854775808<=a+b/\a+b<=9223372036854775807):Yl P l W ⟨d,.binOp .add t x y u,ty,pos,af,g⟩ (.int .i64 (a+b)):=by
 have:=yi (P:=P) (W:=W) (d:=d) (t:=t) (u:=u) (ty:=ty) (pos:=pos) (af:=af) (g:=g) c e
 rwa [yj f] at this
theorem MO {t u:TypeId} {x y:Operand} {a b:Int} (c:bn l x=some (.int .i64 a)) (e:bn l y=some (.int .i64 b)) (f : -9223372036854775808<=a-b/\a-b<=9223372036854775807):Yl P l W ⟨d,.binOp .sub t x y u,ty,pos,af,g⟩ (.int .i64 (a-b)):=by
 have:=MN (P:=P) (W:=W) (d:=d) (t:=t) (u:=u) (ty:=ty) (pos:=pos) (af:=af) (g:=g) c e
 rwa [yj f] at this
theorem Yi {t u:TypeId} {x y:Operand} {a:Nat} {b:Int} (c:bn l x=some (.int .i64 (a:Int))) (e:bn l y=some (.int .i64 b)) (f:b=1) (h:(a:Int)<9223372036854775807):Yl P l W ⟨d,.binOp .add t x y u,ty,pos,af,g⟩ (.int .i64 ((a+1:Nat):Int)):=by
 subst f;have:=l0 (P:=P) (W:=W) (d:=d) (t:=t) (u:=u) (ty:=ty) (pos:=pos) (af:=af) (g:=g) c e ae
 simpa using this
theorem qq {t u:TypeId} {x y:Operand} {a b:List UInt8} (e:bn l x=some (st a)) (f:bn l y=some (st b)):Yl P l W ⟨d,.binOp .eql t x y u,ty,pos,af,g⟩ (.bool (a==b)):=
 λρ w c _=>by simp [execOp,c x _ e,c y _ f,st,eqGuard,binOp,Op.stringOp]
theorem v7 {t u:TypeId} {x y:Operand} {a b:List UInt8} (e:bn l x=some (st a)) (f:bn l y=some (st b)):Yl P l W ⟨d,.binOp .neq t x y u,ty,pos,af,g⟩ (.bool (!(a==b))):=
 λρ w c _=>by simp [execOp,c x _ e,c y _ f,st,eqGuard,binOp,Op.stringOp]
theorem Lm {t u:TypeId} {x y:Operand} {a b:List UInt8} (f:bn l x=some (st a)) (i:bn l y=some (st b)) (h:a.length+b.length<=9223372036854775807):Yl P l W ⟨d,.binOp .add t x y u,ty,pos,af,g⟩ (st (a++b)):=by
 intro ρ w c _
 have e:(Op.stringOp .add ⟨a.toArray⟩ ⟨b.toArray⟩).run P w = .ok (st (a++b)) w:=by
   rw [run_string_add_sum w _ _ (by show a.toArray.size+b.toArray.size<=_; simpa using h)];simp [st]
   rfl
 simp [execOp,c x _ f,c y _ i,st,eqGuard,binOp,e]
theorem e5 {t:TypeId} {x:Operand} {b:Bool} (a:bn l x=some (.bool b)):Yl P l W ⟨d,.unOp .not t x,ty,pos,af,g⟩ (.bool (!b)):=
 λρ w c _=>by simp [execOp,c x _ a,Op.unary]
theorem cJ {x:Operand} {p:Addr} (a:bn l x=some (.pointer (some p))):Yl P l W ⟨d,.nilCheck x,ty,pos,af,g⟩ (.pointer (some p)):=
 λρ w b _=>by simp [execOp,b x _ a]
theorem Yx {x:Operand} {vs:Array Value} {i:Nat} {v:Value} (a:bn l x=some (.tuple vs)) (hi:vs[i]? = some v):Yl P l W ⟨d,.extract x i,ty,pos,af,g⟩ v:=
 λρ w b _=>by simp [execOp,b x _ a,Instr.extract,hi]
theorem Yf {t:TypeId} {x:Operand} {f o b k:Nat} (a:cx P t f=some k) (h:bn l x=some (.pointer (some ⟨b,o,none⟩))):Yl P l W ⟨d,.fieldAddr t x f,ty,pos,af,g⟩ (.pointer (some ⟨b,o+k,none⟩)):=by
 intro ρ w j _;unfold cx at a
 cases c:P.underlying t with
 | none=>simp [c] at a
 | some m=>
   cases m<;>simp [c] at a
   rename_i fs
   cases e:fs[f]? with
   | none=>simp [e] at a
   | some n=>
     simp [e] at a
     cases hi:P.info? n.type with
     | none=>simp [hi] at a
     | some i=>
       simp [hi] at a;obtain ⟨p,rfl⟩:=a;simp [execOp,j x _ h,Instr.fieldAt,run_underlying c,e,Instr.sureAddr,fieldPlace,sizeOf,typeInfo,hi,p,m_]
theorem FC {t:TypeId} {x y:Operand} {b o n c s:Nat} {k:IntKind} {i:Int} (a:fk P t=some s) (j:bn l x=some (.slice (some ⟨b,o,none⟩) n c)) (m:bn l y=some (.int k i)) (p:0<=i) (q:i<n) :
   Yl P l W ⟨d,.indexAddr t x y,ty,pos,af,g⟩ (.pointer (some ⟨b,o+i.toNat*s,none⟩)):=by
 intro ρ w h _;unfold fk at a
 cases f:P.underlying t with
 | none=>simp [f] at a
 | some r=>
   cases r<;>simp [f] at a
   rename_i e;obtain ⟨u,hi,rfl⟩:=a;simp [execOp,h x _ j,h y _ m,Instr.indexAt,run_underlying f,asIntOf,p,q,sizeOf,typeInfo,hi,m_]
theorem FD {t:TypeId} {x y:Operand} {b o n c s:Nat} {k:IntKind} {i:Nat} (a:fk P t=some s) (e:bn l x=some (.slice (some ⟨b,o,none⟩) n c)) (f:bn l y=some (.int k (i:Int))) (h:i<n) :
   Yl P l W ⟨d,.indexAddr t x y,ty,pos,af,g⟩ (.pointer (some ⟨b,o+i*s,none⟩)):=by
 have:=FC (P:=P) (W:=W) (d:=d) (ty:=ty) (pos:=pos) (af:=af) (g:=g) a e f ae ae
 simpa using this
theorem Yn {t:TypeId} {x:Operand} {a:Option Addr} {n c s:Nat} (b:fk P t=some s) (f:bn l x=some (.slice a n c)):Yl P l W ⟨d,.call ⟨.builtin .len,#[x],#[t]⟩,ty,pos,af,g⟩ (.int .i64 (n:Int)):=by
 intro ρ w h _;unfold fk at b
 cases e:P.underlying t with
 | none=>simp [e] at b
 | some i=>
   cases i<;>simp [e] at b
   simp [execOp,resolve,invoke,builtin,h x _ f,Builtin.len_,run_underlying e,goInt]
theorem nK {t:TypeId} {x:Operand} {s:List UInt8} (a:P.underlying t=some .string) (b:bn l x=some (st s)):Yl P l W ⟨d,.call ⟨.builtin .len,#[x],#[t]⟩,ty,pos,af,g⟩ (.int .i64 (s.length:Int)):=by
 intro ρ w c _
 have e:(ByteArray.mk s.toArray).size=s.length:=by show s.toArray.size=_; simp
 simp [execOp,resolve,invoke,builtin,c x _ b,st,Builtin.len_,run_underlying a,goInt,e]
theorem MQ (s:List UInt8) (i:Nat):(ByteArray.mk s.toArray)[i]? = s[i]?:=by
 rcases kY i s.length with h | h
 · rw [dL h,getElem?_pos (ByteArray.mk s.toArray) i (by show i<s.toArray.size; simpa using h)]
   rfl
 · rw [gN h,getElem?_neg (ByteArray.mk s.toArray) i (by show ¬i<s.toArray.size; simpa using h)]
theorem MR {t:TypeId} {x y:Operand} {s:List UInt8} {k:IntKind} {i:Int} {u:UInt8} (b:P.underlying t=some .string) (c:bn l x=some (st s)) (e:bn l y=some (.int k i)) (f:0<=i) (h:s[i.toNat]? = some u) :
   Yl P l W ⟨d,.index t x y,ty,pos,af,g⟩ (.int .u8 (u.toNat:Int)):=by
 intro ρ w a _;simp [execOp,a x _ c,a y _ e,st,Instr.index,asIntOf,run_underlying b,f,MQ,h]
theorem sI {t:TypeId} {x y:Operand} {s:List UInt8} {k:IntKind} {i:Nat} {u:UInt8} (a:P.underlying t=some .string) (b:bn l x=some (st s)) (c:bn l y=some (.int k (i:Int))) (e:s[i]? = some u) :
   Yl P l W ⟨d,.index t x y,ty,pos,af,g⟩ (.int .u8 (u.toNat:Int)):=MR a b c ae (by simpa using e)
theorem Bf {t:TypeId} {x:Operand} {b o:Nat} {v:Value} (a:nJ P t=true) (c:bn l x=some (.pointer (some ⟨b,o,none⟩))) (e:∀w,W w->w.cell? ⟨b,o,none⟩=some v):Yl P l W ⟨d,.load t x,ty,pos,af,g⟩ v:=
 λρ w f h=>by simp [execOp,f x _ c,Instr.loadAt,Instr.sureAddr,FB a (e w h)]
theorem FE {t:TypeId} {x:Operand} {b o n:Nat} {cs:List Value} (a:gP P t=some n) (c:bn l x=some (.pointer (some ⟨b,o,none⟩))) (e:cs.length=n) (f:∀w,W w->∀j v,cs[j]? = some v->w.cell? ⟨b,o+j,none⟩=some v) :
   Yl P l W ⟨d,.load t x,ty,pos,af,g⟩ (.agg cs.toArray):=
 λρ w h i=>by simp [execOp,h x _ c,Instr.loadAt,Instr.sureAddr,yh a e (f w i)]
theorem cu {t:TypeId} {x:Operand} {b o:Nat} {v:Value} {a:View} (i:Nat) (c:nJ P t=true) (e:bn l x=some (.pointer (some ⟨b,o,none⟩))) (f:Vs[i]? = some a) (h:vc a b o=some v) :
   Yl P l (Ws w0 F L Vs) ⟨d,.load t x,ty,pos,af,g⟩ v:=Bf c e λ_ j=>(j.vs a (eL f)).cell h
theorem dV {t:TypeId} {x:Operand} {b o n:Nat} {cs:List Value} {a:View} (i:Nat) (c:gP P t=some n) (e:bn l x=some (.pointer (some ⟨b,o,none⟩))) (f:Vs[i]? = some a) (k:cs.length=n) (m:∀j v,cs[j]? = some v->vc a b (o+j)=some v) :
   Yl P l (Ws w0 F L Vs) ⟨d,.load t x,ty,pos,af,g⟩ (.agg cs.toArray):=FE c e k λ_ p j v h=>(p.vs a (eL f)).cell (m j v h)
theorem Yd {t:TypeId} {x:Operand} {b o:Nat} {v:Value} {a:Obj} (i:Nat) (c:bn l x=some (.pointer (some ⟨b,o,none⟩))) (e:L[i]? = some (ao b a)) (f:gQ a o=some v) (h:nJ P t=true) :
   Yl P l (Ws w0 F L Vs) ⟨d,.load t x,ty,pos,af,g⟩ v:=Bf h c λ_ j=>cell_of_heap (j.kn _ (eL e)) f
def cellsIn (o:Obj) (k n:Nat):List Value:=match o with | .cells c _ _=>(c.toList.drop k).take n | _=>[]
theorem cc {t:TypeId} {x:Operand} {b o n:Nat} {a:Obj} (i:Nat) (c:bn l x=some (.pointer (some ⟨b,o,none⟩))) (e:L[i]? = some (ao b a)) (f:gP P t=some n) (k:(cellsIn a o n).length=n) :
   Yl P l (Ws w0 F L Vs) ⟨d,.load t x,ty,pos,af,g⟩ (.agg (cellsIn a o n).toArray):=FE f c k λw m j v h=>by
 have p:w.heap[b]? = some a:=m.kn _ (eL e);refine cell_of_heap p ?_
 cases a<;>simp [cellsIn,gQ] at *
 rw [jy] at h
 split at h
 · simpa using h
 · cases h
end
def zeroOf (P:Program) (t:TypeId):Option Value:=(P.info? t).bind (·.zero)
def dI (P:Program) (t:TypeId):Option Nat:=(P.info? t).map (·.size)
theorem sJ {P:Program} {t:TypeId} {a:Value} (h:zeroOf P t=some a) (w:World):(zeroValue t).run P w = .ok a w:=by
 unfold zeroOf at h
 cases hi:P.info? t with
 | none=>simp [hi] at h
 | some i=>simp [hi] at h; simp [zeroValue,typeInfo,hi,h]
theorem yk {P:Program} {t:TypeId} {k:Nat} (h:dI P t=some k) (w:World):(sizeOf t).run P w = .ok k w:=by
 unfold dI at h
 cases hi:P.info? t with
 | none=>simp [hi] at h
 | some i=>simp [hi] at h; simp [sizeOf,typeInfo,hi,h]
theorem MS (vs:List Value):∀(k off:Nat) (cells:Array Value),off+k+vs.length<=cells.size->
   ((vs.zipIdx k).foldl (λcs (p:Value×Nat)=>cs.setIfInBounds (off+p.2) p.1) cells).toList=cells.toList.take (off+k)++vs++cells.toList.drop (off+k+vs.length):=by
 induction vs with
 | nil=>intro k off cells _; simp
 | cons v r a=>
   intro k off cells h;simp only [List.zipIdx_cons,xZ];rw [a (k+1) off _ (by simp at h ⊢; omega)];simp only [Array.toList_setIfInBounds];have:=list_seg_step cells.toList (off+k) v r (by simp at h ⊢; omega)
   simpa [tR] using this
def e_:Value->List Value | .agg cs=>cs.toList | v=>[v]
theorem rB (v:Value):v.cells.toList=e_ v:=by cases v<;>rfl
def pg (place:Nat->Option (Nat×Nat)):List Value->List (Nat×Value)->Option (List Value)
 | cells,[]=>some cells
 | cells,(i,v)::r=>match place i with
   | some (off,size)=>bif Nat.beq (e_ v).length size&&Nat.ble (off+size) cells.length then pg place (cells.take off++e_ v++cells.drop (off+size)) r else none
   | none=>none
theorem v8 (place:Nat->Option (Nat×Nat)):∀(parts:List (Nat×Value)) (cells:Array Value) (out:List Value),pg place cells.toList parts=some out->Instr.fill place cells parts=some out.toArray
 | [],cells,out,h=>by simp [pg] at h; simp [Instr.fill,<-h]
 | (i,v)::r,cells,out,h=>by
   simp only [pg] at h
   cases d:place i with
   | none=>simp [d] at h
   | some x=>
     obtain ⟨off,size⟩:=x;simp only [d] at h
     cases a:(Nat.beq (e_ v).length size&&Nat.ble (off+size) cells.toList.length) with
     | false=>rw [a] at h; cases h
     | true=>
       rw [a] at h;simp only [cO] at a;have g:=kE a.1;have k:=oq a.2
       have b:v.cells.size=size:=by rw [<-g,<-rB]; simp
       have f:off+v.cells.size<=cells.size:=by rw [b]; simpa using k
       simp only [Instr.fill,d];rw [if_neg (by simp [b]; rw [b] at f; omega)];have e:=MS v.cells.toList 0 off cells (by simpa using f);simp only [x0,E3] at e
       have l:(v.cells.zipIdx.foldl (λcs (c,j)=>cs.setIfInBounds (off+j) c) cells)=(cells.toList.take off++e_ v++cells.toList.drop (off+size)).toArray:=by
         apply qk;rw [<-Array.foldl_toList,Array.toList_zipIdx];rw [b] at e;rw [e,rB]
       rw [l];exact v8 place r _ out (by simpa using h)
def gx (P:Program) (t:TypeId):Option (List (Nat×Nat)):=match P.underlying t with
 | some (.struct fs)=>fs.toList.mapM λf=>(dI P f.type).map (f.offset,·)
 | _=>none
theorem run_places {P:Program}:∀(fs:List Field) (pl:List (Nat×Nat)),fs.mapM (λf=>(dI P f.type).map (f.offset,·))=some pl->∀w:World,
   (fs.mapM (m:=Sem) λf=>do pure (f.offset,<-sizeOf f.type)).run P w = .ok pl w
 | [],pl,h,w=>by simp at h; subst h; simp
 | f::fs,pl,h,w=>by
   simp only [ha,Option.bind_eq_bind] at h
   cases a:dI P f.type with
   | none=>simp [a] at h
   | some k=>
     simp only [a,da,bt] at h
     cases b:fs.mapM (λf=>(dI P f.type).map (f.offset,·)) with
     | none=>simp [b] at h
     | some c=>
       simp [b] at h;subst h;have d:=run_places fs c b w;simp only [ha,Sem.run_bind,yk a,Result.andThen_ok,Sem.run_pure,d]
def qs (l:List (Nat×Value)):List (Nat×Operand)->Option (List (Nat×Value))
 | []=>some []
 | (i,x)::r=>match bn l x,qs l r with
   | some v,some vs=>some ((i,v)::vs)
   | _,_=>none
theorem yl {l:List (Nat×Value)} {ρ:Operand->Value} (c:∀x u,bn l x=some u->ρ x=u):∀(ps:List (Nat×Operand)) (vs:List (Nat×Value)),qs l ps=some vs->ps.map (λp=>(p.1,ρ p.2))=vs
 | [],vs,h=>by simp [qs] at h; simp [h]
 | (i,x)::r,vs,h=>by
   simp only [qs] at h
   cases a:bn l x with
   | none=>simp [a] at h
   | some v=>
     cases b:qs l r with
     | none=>simp [a,b] at h
     | some us=>
       simp [a,b] at h;subst h;simp [c x v a,yl c r us b]
def iu (l:List (Nat×Value)):List Operand->Option (List Value)
 | []=>some []
 | x::r=>match bn l x,iu l r with
   | some v,some vs=>some (v::vs)
   | _,_=>none
theorem v' {l:List (Nat×Value)} {ρ:Operand->Value} (c:∀x u,bn l x=some u->ρ x=u):∀(ps:List Operand) (vs:List Value),iu l ps=some vs->ps.map ρ=vs
 | [],vs,h=>by simp [iu] at h; simp [h]
 | x::r,vs,h=>by
   simp only [iu] at h
   cases a:bn l x with
   | none=>simp [a] at h
   | some v=>
     cases b:iu l r with
     | none=>simp [a,b] at h
     | some us=>
       simp [a,b] at h;subst h;simp [c x v a,v' c r us b]
section
variable {P:Program} {l:List (Nat×Value)} {W:World->Prop} {w0:World} {F:List Nat} {L:List aW} {Vs:List View}
 {d:Option Tmp} {ty:TypeId} {pos:String} {af:Array Edge} {g:Option (Nat×Bool)}
theorem Yb {t:TypeId} {parts:List (Nat×Operand)} {vs:List (Nat×Value)} {a:Value} {pl:List (Nat×Nat)} {out:List Value} (e:zeroOf P t=some a) (b:gx P t=some pl)
   (hv:qs l parts=some vs) (h:pg (λi=>pl[i]?) (e_ a) vs=some out):Yl P l W ⟨d,.build t parts.toArray,ty,pos,af,g⟩ (.agg out.toArray):=by
 intro ρ w j _
 have k:((parts.toArray.map λ (i,x)=>(i,ρ x)):Array (Nat×Value)).toList=vs:=by simpa using yl j parts vs hv
 unfold gx at b
 cases c:P.underlying t with
 | none=>simp [c] at b
 | some n=>
   cases n<;>simp [c] at b
   rename_i fs;have o:=run_places (P:=P) fs.toList pl (by simpa using b) w
   have p:(fs.mapM (m:=Sem) λf=>do pure (f.offset,<-sizeOf f.type)).run P w = .ok pl.toArray w:=by
     rw [vL,Sem.run_map,o]; rfl
   have q:Instr.fill (λi=>pl.toArray[i]?) a.cells vs=some out.toArray:=by
     refine v8 _ vs a.cells out ?_;rw [rB]
     simpa using h
   simp only [execOp,Instr.build,Sem.run_bind,sJ e,Result.andThen_ok,run_underlying c,p,k,q,Sem.run_pure]
end
section
variable {P:Program} {ops:Array Oper} {Q:Exit->Act->World->Prop} {n:Nat} {ds:List Deferred} {l:List (Nat×Value)} {W:World->Prop} {w0:World} {F:List Nat} {L:List aW} {Vs:List View}
 {rest:List Oper} {d:Nat} {ty:TypeId} {pos:String} {af:Array Edge} {g:Option (Nat×Bool)}
theorem FF (t:TypeId) (v:Value) (w:World):(newVar t v).run P w = .ok ⟨w.heap.size,0,none⟩ (w.alloc (.cells v.cells t)):=by
 simp [newVar,newRow]
theorem WL.new {op:Op} {o:Obj} {mk:Nat->Value} (f:dN ops l g) (i:Nat.blt d n=true)
   (j:∀(ρ:Operand->Value) (w:World),(∀x u,bn l x=some u->ρ x=u)->Ws w0 F L Vs w->(execOp ρ ⟨some d,op,ty,pos,af,g⟩).run P w = .ok (.value (mk w.heap.size)) (w.alloc o))
   (h:∀b,WL P ops Q n ds ((d,mk b)::l) (Ws w0 F (ao b o::L) Vs) rest) :
   WL P ops Q n ds l (Ws w0 F L Vs) (⟨some d,op,ty,pos,af,g⟩::rest):=by
 refine WL.step f λa w c e p k=>?_;have:=j a.eval w (λx u m=>c.eval m) e;simp only [Oper.wp,this,Oper.upon_value];exact k _ _ (h w.heap.size _ _ (c.put i _) (e.alloc o))
theorem WL.box {T:TypeId} {x:Operand} {v:Value} (a:dN ops l g) (c:Nat.blt d n=true) (e:bn l x=some v)
   (h:∀b,WL P ops Q n ds ((d,.pointer (some ⟨b,0,none⟩))::l) (Ws w0 F (ao b (.cells v.cells T (0,0))::L) Vs) rest) :
   WL P ops Q n ds l (Ws w0 F L Vs) (⟨some d,.box T x,ty,pos,af,g⟩::rest):=
 WL.new (mk:=λb=>.pointer (some ⟨b,0,none⟩)) a c (λρ w f i=>by simp [execOp,Instr.box,f x v e,FF]) h
theorem Al {T:TypeId} {a:Value} (c:dN ops l g) (e:Nat.blt d n=true) (f:zeroOf P T=some a)
   (h:∀b,WL P ops Q n ds ((d,.pointer (some ⟨b,0,none⟩))::l) (Ws w0 F (ao b (.cells a.cells T (0,0))::L) Vs) rest) :
   WL P ops Q n ds l (Ws w0 F L Vs) (⟨some d,.alloc T,ty,pos,af,g⟩::rest):=
 WL.new (mk:=λb=>.pointer (some ⟨b,0,none⟩)) c e (λρ w i j=>by simp [execOp,Instr.alloc,sJ f,FF]) h
def qt (a:Obj) (o:Nat) (vs:List Value):Obj:=match a with | .cells c T f=>.cells (c.toList.take o++vs++c.toList.drop (o+vs.length)).toArray T f | x=>x
def qu (a:Obj) (o k:Nat):Bool:=match a with | .cells c _ f=>Nat.ble (o+k) c.toList.length&&(Nat.beq f.1 0&&Nat.beq f.2 0) | _=>false
theorem FG {t:TypeId} {k b o:Nat} {a:Obj} {v:Value} {w:World} (m:dI P t=some k) (n:(e_ v).length=k) (p:(e_ v).all (·.oneCell')=true) (d:w.heap[b]? = some a) (g:qu a o k=true) :
   (storeVar t ⟨b,o,none⟩ v).run P w = .ok () { w with heap:=w.heap.setIfInBounds b (qt a o (e_ v)) }:=by
 cases a with
 | cells c T f=>
   obtain ⟨C,D⟩:=f;simp only [qu,cO] at g;obtain ⟨h,q,r⟩:=g;have s:=kE q;have x:=kE r;subst s; subst x;have h:=oq h;have e:=run_storeCells_at P b o T (e_ v) 0 c w d (by simp at h ⊢; omega) (λu y=>fG.1 p u y)
   have z:v.cells.size=k:=by rw [<-n,<-rB]; simp
   have A:(storeVar t ⟨b,o,none⟩ v).run P w=(storeCells ⟨b,o,none⟩ (e_ v)).run P w:=by
     simp [storeVar,yk m,z,rB]
   rw [A,e];have l:=setRow_heap w b c (c.toList.take (o+0)++e_ v++c.toList.drop (o+0+(e_ v).length)).toArray T (0,0) d;have B:=lt_of_heap d;simp only [qt,x0] at l ⊢
   suffices hh:(w.setRow b (c.toList.take o++e_ v++c.toList.drop (o+(e_ v).length)).toArray).heap=w.heap.setIfInBounds b (.cells (c.toList.take o++e_ v++c.toList.drop (o+(e_ v).length)).toArray T (0,0)) by
     rw [<-hh]; rfl
   apply Array.ext_getElem?;intro j
   by_cases i:b=j
   · subst i
     rw [l];simp [B]
   · rw [rm i]
     simp [World.setRow,E4,i]
 | _=>simp [qu] at g
theorem aQ {t:TypeId} {x y:Operand} {b o k:Nat} {c:Obj} {v:Value} (i:Nat) (q:dN ops l g) (r:bn l x=some (.pointer (some ⟨b,o,none⟩))) (s:bn l y=some v) (f:L[i]? = some (ao b c))
   (u:dI P t=some k) (z:(e_ v).length=k) (A:(e_ v).all (·.oneCell')=true) (B:qu c o k=true)
   (h:WL P ops Q n ds l (Ws w0 F (L.set i (ao b (qt c o (e_ v)))) Vs) rest) :
   WL P ops Q n ds l (Ws w0 F L Vs) (⟨none,.store t x y,ty,pos,af,g⟩::rest):=by
 refine WL.step q λa w d m G C=>?_;have p:w.heap[b]? = some c:=m.kn _ (eL f)
 have D:(execOp a.eval ⟨none,.store t x y,ty,pos,af,g⟩).run P w = .ok .skip { w with heap:=w.heap.setIfInBounds b (qt c o (e_ v)) }:=by
   simp only [execOp,d.eval r,d.eval s,Instr.storeAt,Instr.sureAddr,Sem.run_bind,Sem.run_pure,Result.andThen_ok,FG u z A p B]
 simp only [Oper.wp,D,Oper.upon_skip];refine C _ _ (h _ _ (d.vW undef) ?_);refine Ws.dM m i f ⟨O,O,O,aj,λj H E=>?_⟩ ?_ (by simp [ao]) (by simp [ao])
 · have:b≠j:=λe=>E (by simp [ao,e])
   simp [rm this]
 · show (w.heap.setIfInBounds b _)[b]? = _
   simp [lt_of_heap p]
def Enters (P:Program) (f:FuncId):Prop:=∀args w,(callFunc f args).run P w = .ok (.enter f args) w
theorem enters_of {f : FuncId} {fn : Func} (b : P.funcs[f]? = some fn) (c : (fn.name == "runtime.NumGoroutine") = false) (a : fn.body.isNone = false) : Enters P f := λargs w => by
 have d : fn.name ≠ "runtime.NumGoroutine" := by simpa using c
 have g:fn.body≠none:=by intro e; rw [e] at a; cases a
 simp [callFunc,b,d,g]
def FH (P:Program) (f:FuncId):Bool:=match P.funcs[f]? with
 | some fn=>!(fn.name=="runtime.NumGoroutine")&&!fn.body.isNone
 | none=>false
theorem aC {P:Program} {f:FuncId} (h:FH P f=true:=by kernel_rfl):Enters P f:=by
 unfold FH at h
 cases e:P.funcs[f]? with
 | none=>rw [e] at h; cases h
 | some fn=>
  rw [e] at h;simp only [Bool.and_eq_true,Bool.not_eq_true'] at h
  exact enters_of e h.1 h.2
theorem Bg {ρ:Operand->Value} {dst:Option Tmp} {f:FuncId} {args:Array Operand} {ts:Array TypeId} {vs:List Value} {w:World} (b:Enters P f) (a:∀x u,bn l x=some u->ρ x=u) (c:iu l args.toList=some vs) :
   (execOp ρ ⟨dst,.call ⟨.value (.func f),args,ts⟩,ty,pos,af,g⟩).run P w = .ok (.enter f vs.toArray) w:=by
 have e:args.map ρ=vs.toArray:=by
   apply qk
   simpa using v' a _ _ c
 have d:ρ (.func f) = .func (.func f) #[] #[]:=a (.func f) _ rfl;simp only [execOp,resolve,e,d,Deferred.ofValue,Sem.run_bind,Sem.run_pure,Result.andThen_ok,invoke]
 simpa using b _ w
theorem WL.v_ {ι:Type} {f:FuncId} {args:Array Operand} {ts:Array TypeId} {vs:List Value} (k:dN ops l g) (m:Nat.blt d n=true) (o:Enters P f) (p:iu l args.toList=some vs)
   (v:ι->Value) (R:ι->World->Prop) (j:List PanicEntry->World->Prop)
   (q:∀w,W w->Calls P f vs.toArray w λe w'=>(∃i,e = .returned (v i)/\R i w')\/∃b,e = .panicked b/\j b w')
   (r:∀i,WL P ops Q n ds ((d,v i)::l) (R i) rest) (s:∀b,WE Q (.panic b) n ds l (j b)) :
   WL P ops Q n ds l W (⟨some d,.call ⟨.value (.func f),args,ts⟩,ty,pos,af,g⟩::rest):=by
 refine WL.step k λa w c t C y=>?_;have z:=Bg (P:=P) (dst:=some d) (ts:=ts) (ty:=ty) (pos:=pos) (af:=af) (g:=g) (w:=w) o (λx u A=>c.eval A) p;simp only [Oper.wp,z,Oper.upon_enter];refine (q w t).mono λe w' B=>?_
 rcases B with ⟨i,rfl,h⟩ | ⟨b,rfl,h⟩
 · exact y _ _ (r i _ _ (c.put m _) h)
 · exact s b _ _ c h
theorem WL.call {ι:Type} {f:FuncId} {args:Array Operand} {ts:Array TypeId} {vs:List Value} (a:dN ops l g) (b:Nat.blt d n=true) (c:Enters P f) (j:iu l args.toList=some vs)
   (v:ι->Value) (R:ι->World->Prop)
   (k:∀w,W w->Calls P f vs.toArray w λe w'=>∃i,e = .returned (v i)/\R i w')
   (m:∀i,WL P ops Q n ds ((d,v i)::l) (R i) rest) :
   WL P ops Q n ds l W (⟨some d,.call ⟨.value (.func f),args,ts⟩,ty,pos,af,g⟩::rest):=
 WL.v_ a b c j v R (λ_ _=>False) (λw o=>(k w o).mono λ_ _ h=>.inl h) m (λ_ _ _ _ h=>h.elim)
theorem Lp {f:FuncId} {args:Array Operand} {ts:Array TypeId} {vs:List Value} {v:Value} (i:dN ops l g) (j:Nat.blt d n=true) (k:Enters P f) (m:iu l args.toList=some vs)
   (o:∀w,Ws w0 F L Vs w->Calls P f vs.toArray w λe w'=>e = .returned v/\Ext w w')
   (p:WL P ops Q n ds ((d,v)::l) (Ws w0 F L Vs) rest) :
   WL P ops Q n ds l (Ws w0 F L Vs) (⟨some d,.call ⟨.value (.func f),args,ts⟩,ty,pos,af,g⟩::rest):=by
 refine WL.step i λa w b c y q=>?_;have r:=Bg (P:=P) (dst:=some d) (ts:=ts) (ty:=ty) (pos:=pos) (af:=af) (g:=g) (w:=w) k (λx u s=>b.eval s) m;simp only [Oper.wp,r,Oper.upon_enter];refine (o w c).mono λe w' t=>?_;obtain ⟨rfl,h⟩:=t;exact q _ _ (p _ _ (b.put j _) (c.ext h))
theorem Ld {ι:Type} {f:FuncId} {args:Array Operand} {ts:Array TypeId} {vs:List Value} (k:dN ops l g) (m:Nat.blt d n=true) (o:Enters P f) (p:iu l args.toList=some vs)
   (v:ι->Value) (R:View->ι->Prop)
   (q:∀w,Ws w0 F L Vs w->Calls P f vs.toArray w λe w'=>∃i,e = .returned (v i)/\Ext w w'/\R (nv w w') i)
   (r:∀b i,fj w0 b->R b i->WL P ops Q n ds ((d,v i)::l) (Ws w0 F L (b::Vs)) rest) :
   WL P ops Q n ds l (Ws w0 F L Vs) (⟨some d,.call ⟨.value (.func f),args,ts⟩,ty,pos,af,g⟩::rest):=by
 refine WL.step k λa w j c B s=>?_;have t:=Bg (P:=P) (dst:=some d) (ts:=ts) (ty:=ty) (pos:=pos) (af:=af) (g:=g) (w:=w) o (λx u y=>j.eval y) p;simp only [Oper.wp,t,Oper.upon_enter];refine (q w c).mono λe w' z=>?_;obtain ⟨i,rfl,h,A⟩:=z;exact s _ _ (r (nv w w') i ((tY w w').mono c.fr.size) A _ _ (j.put m _) (c.view h (nF w w') (tY w w')))
end
section
variable {P:Program} {ops:Array Oper} {Q:Exit->Act->World->Prop} {n:Nat} {ds:List Deferred} {l:List (Nat×Value)} {W:World->Prop} {w0:World} {F:List Nat} {L:List aW} {Vs:List View}
 {rest:List Oper} {d:Nat} {ty:TypeId} {pos:String} {af:Array Edge} {g:Option (Nat×Bool)}
def b6 (e:TypeId) (size:Nat) (v:Value) (m:Nat) (xs:List Value):aW:=
 ⟨v.ownBlock.toList,λw=>w.ownsRow 0 e size v m xs,
  λw w' h b=>by
   obtain ⟨f,a⟩:=b;refine ⟨f,?_⟩
   rcases a with a | ⟨g,cap,i,hv,j,c,r⟩
   · exact .inl a
   · exact .inr ⟨g,cap,i,hv,j,by rw [h g (by simp [hv,Value.ownBlock])]; exact c,r⟩,
  λw b k d=>by
   obtain ⟨f,a⟩:=b
   rcases a with ⟨a,_⟩ | ⟨g,cap,i,hv,j,c,r⟩
   · subst a; simp [Value.ownBlock] at d
   · subst hv; simp [Value.ownBlock] at d; subst d; exact lt_of_heap c⟩
theorem Ws.eM {w:World} (h:Ws w0 F L Vs w) (e:TypeId) (size:Nat):Ws w0 F (b6 e size (.slice none 0 0) 0 []::L) Vs w:=by
 have:=Ws.rz (L:=[]) (L':=[b6 e size (.slice none 0 0) 0 []]) (L2:=L) (by simpa using h) (Fr.refl _ _)
   (by intro A a; simp at a; subst a; exact World.ownsRow_nil _ _ _ _) (by simp [b6,Value.ownBlock]) (by simp [b6,Value.ownBlock])
 simpa using this
theorem Ws.FI {w:World} (h:Ws w0 F L Vs w) (i:Nat) {b m cap:Nat} {a:Array Value} {e:TypeId} {size:Nat} (c:L[i]? = some (ao b (.cells a e (0,0)))) (d:m<=cap) (g:cap<=maxLen) (f:a.size=cap*size) :
   Ws w0 F (L.set i (b6 e size (.slice (some ⟨b,0,none⟩) m cap) m (a.toList.take (m*size)))) Vs w:=by
 have j:w.heap[b]? = some (.cells a e (0,0)):=h.kn _ (eL c);refine Ws.dM h i c (Fr.refl _ _) ?_ (by simp [b6,Value.ownBlock]) (by simp [b6,ao,Value.ownBlock]);exact ⟨by rw [jh,E3,f]; exact hc (vM _ d),.inr ⟨b,cap,a,O,cq _,j,d,g,f,O⟩⟩
structure gg (P:Program) (t e:TypeId) (z:Value) (size bytes:Nat):Prop where
 under:P.underlying t=some (.slice e)
 info:∃i,P.info? e=some i/\i.zero=some z/\i.size=size/\i.bytes=bytes
 zs:z.cells.size=size
 pos:0<size
def FJ (P:Program) (t:TypeId):Option (TypeId×Value×Nat×Nat):=match P.underlying t with
 | some (.slice e)=>match P.info? e with
   | some i=>match i.zero with
     | some a=>bif Nat.beq a.cells.size i.size&&Nat.blt 0 i.size then some (e,a,i.size,i.bytes) else none
     | none=>none
   | none=>none
 | _=>none
theorem iN {t e:TypeId} {d:Value} {size f:Nat} (h:FJ P t=some (e,d,size,f)):gg P t e d size f:=by
 unfold FJ at h
 cases b:P.underlying t with
 | none=>simp [b] at h
 | some g=>
   cases g<;>simp [b] at h
   rename_i j
   cases hi:P.info? j with
   | none=>simp [hi] at h
   | some i=>
     simp [hi] at h
     cases c:i.zero with
     | none=>simp [c] at h
     | some k=>
       simp only [c] at h
       cases a:(Nat.beq k.cells.size i.size&&Nat.blt 0 i.size) with
       | false=>rw [a] at h; cases h
       | true=>
         rw [a] at h;simp at h;obtain ⟨rfl,rfl,rfl,rfl⟩:=h;simp only [cO] at a;exact ⟨b,⟨i,hi,c,O,O⟩,kE a.1,oq a.2⟩
theorem MU {t e ty:TypeId} {l v d:Value} {size q m c k:Nat} {a:Addr} {xs news:List Value} {w w':World} (f:gg P t e l size q) (z:w.ownsRow 0 e size v m xs)
   (h:news.length=k*size) (n:∀j u,news[j]? = some u->w.cell? (a.add j)=some u) (A:∀u ∈ news,u.oneCell'=true)
   (B:m+k<=maxLen) (r:(m+k)*q<=140737488355328) (o:(Builtin.append_ #[t,t] ty #[v,.slice (some a) k c]).run P w = .ok d w') (C:d = .slice none 0 0↔v = .slice none 0 0/\k=0) :
   d.ownBlock=v.ownBlock\/d.ownBlock=some w.heap.size:=by
 obtain ⟨p,hi,s,D,E⟩:=f.info;subst D; subst E
 have F:((m+k:Nat):Int)<=9223372036854775807:=by simp only [maxLen] at B; omega
 obtain ⟨G,H⟩:=z
 rcases H with ⟨rfl,rfl⟩ | ⟨g,cap,I,rfl,_,x,N,Q,J,K⟩
 · by_cases L:k=0
   · exact .inl (by rw [C.2 ⟨O,L⟩])
   · have b:=run_append_nil (P:=P) w t ty e p l f.under hi s a k c news h n ae ae (by simp at r; omega)
     rw [o] at b
     injection b with b _
     exact .inr (by rw [b]; rfl)
 · by_cases y:m+k<=cap
   · have b:=run_append_room (P:=P) w t ty e p f.under hi g m cap I x a k c news h n A y (by
       rw [h,J,<-sC]; exact vM _ y)
     rw [o] at b
     injection b with b _
     exact .inl (by rw [b]; rfl)
   · have M:∀j v,xs[j]? = some v->w.cell? ((⟨g,0,none⟩:Addr).add j)=some v:=by
       intro j u i;rw [m_,<-K] at *;refine cell_of_heap x ?_;rw [jy] at i
       split at i
       · simpa [gQ] using i
       · cases i
     have b:=run_append_grow (P:=P) w t ty e p l f.under hi s ⟨g,0,none⟩ m cap xs G M a k c news h n ae F (growslice_fits ae r);rw [o] at b
     injection b with b _
     exact .inr (by rw [b]; rfl)
theorem WL.append {t e:TypeId} {z v:Value} {size r m c k:Nat} {s x:Operand} {a:Addr} {xs news:List Value} (i:Nat) (K:dN ops l g) (M:Nat.blt d n=true) (o:gg P t e z size r)
   (N:bn l s=some v) (O:bn l x=some (.slice (some a) k c)) (A:L[i]? = some (b6 e size v m xs))
   (B:news.length=k*size) (C:∀w,Ws w0 F L Vs w->∀j u,news[j]? = some u->w.cell? (a.add j)=some u) (D:∀u ∈ news,u.oneCell'=true)
   (E:m+k<=maxLen) (G:(m+k)*r<=140737488355328)
   (h:∀b,(b = .slice none 0 0↔v = .slice none 0 0/\k=0)->WL P ops Q n ds ((d,b)::l) (Ws w0 F (L.set i (b6 e size b (m+k) (xs++news))) Vs) rest) :
   WL P ops Q n ds l (Ws w0 F L Vs) (⟨some d,.call ⟨.builtin .append,#[s,x],#[t,t]⟩,ty,pos,af,g⟩::rest):=by
 refine WL.step K λR w y q aa S=>?_;obtain ⟨T,hi,U,V,W⟩:=o.info;have H:w.ownsRow 0 e size v m xs:=q.kn _ (eL A);obtain ⟨b,w',I,X,p,J⟩:=run_append_own (P:=P) w 0 t ty e T z size r o.under hi U V W o.zs o.pos v m xs H a k c news B (C w q) D E G (cq _)
 have Y:(execOp R.eval ⟨some d,.call ⟨.builtin .append,#[s,x],#[t,t]⟩,ty,pos,af,g⟩).run P w = .ok (.value b) w':=by
   simp only [execOp,resolve,vN,jT,vO,y.eval N,y.eval O,Sem.run_bind,Sem.run_pure,Result.andThen_ok,invoke,builtin,I]
 simp only [Oper.wp,Y,Oper.upon_value];refine S _ _ (h b J _ _ (y.put M _) ?_);refine Ws.dM q i A ⟨p.os,p.tape,p.output,p.size,λj f Z=>p.block j f λe=>Z ?_⟩ X ?_ λj f=>?_
 · simp [b6,<-e]
 · cases hv:b.ownBlock<;>simp [b6,hv]
 · simp only [b6,E5] at f ⊢
   rcases MU o H B (C w q) D E G I J with e | e
   · exact .inl (by rw [<-e]; exact f)
   · rw [e] at f; injection f with f; exact .inr ae
end
section
variable {P:Program} {ops:Array Oper} {Q:Exit->Act->World->Prop} {n:Nat} {ds:List Deferred} {l:List (Nat×Value)} {W:World->Prop} {w0:World} {F:List Nat} {L:List aW} {Vs:List View}
def nL (us l:List (Nat×Value)):Bool:=us.all λp=>(lk l p.1).isNone
theorem MV {us:List (Nat×Value)} (a:nL us l=true) {t:Nat} {u:Value} (b:lk l t=some u):lk (us++l) t=some u:=by
 induction us with
 | nil=>exact b
 | cons p r d=>
   obtain ⟨k,v⟩:=p;simp only [nL,sD,cO] at a;simp only [fL,lk]
   cases e:Nat.beq k t with
   | false=>exact d a.2
   | true=>
     have:=kE e;subst this;have c:=a.1;rw [b] at c;cases c
theorem Ag.forget {a:Act} {us:List (Nat×Value)} (h:Ag n ds (us++l) a) (b:nL us l=true):Ag n ds l a:=
 ⟨h.size,h.defs,λt u c=>h.gv t u (MV b c)⟩
theorem Ag.ym {a:Act} {b:List (Nat×Value)} (m:Nat) (h:Ag n ds b a) (c:b.drop m=l) (d:nL (b.take m) l=true):Ag n ds l a:=by
 subst c;rw [<-ot m b] at h;exact h.forget d
def bP (ops:Array Oper):List (Nat×Value)->List Oper->Option (List (Nat×Value))
 | l,[]=>some l
 | l,o::r=>match o.guard,o.dst with
   | some (j,b),some d=>match (ops[j]?).bind (·.dst) with
     | some a=>match lk l a with
       | some (.bool c)=>bif (c != b) then bP ops ((d,undef)::l) r else none
       | some (.tuple _)=>bP ops ((d,undef)::l) r
       | _=>none
     | none=>none
   | _,_=>none
def ph (n:Nat) (os:List Oper):Bool:=os.all λo=>match o.dst with | some d=>Nat.blt d n | none=>true
theorem yT {a:Act} {l:List (Nat×Value)} (c:Ag n ds l a) {t:Nat} {v:Value} (h:lk l t=some v) (hv:v≠undef\/t<n):a.tmps[t]? = some v:=by
 have b:=c.gv t v h;rw [iL] at b
 rcases kY t a.tmps.size with e | d
 · rw [sB e] at b ⊢
   simpa using b
 · rw [tQ d] at b
   rcases hv with hv | hv
   · exact absurd (by simpa using b.symm) hv
   · rw [c.size] at d; omega
theorem WL.Bh {i rest:List Oper} {p:List (Nat×Value)}:∀{l:List (Nat×Value)},bP ops l i=some p->ph n i=true->(∀a w,Ag n ds p a->W w->wpList P ops Q rest a w)->
   ∀a w,Ag n ds l a->W w->wpList P ops Q (i++rest) a w:=by
 induction i with
 | nil=>intro l c _ h a w f q; simp [bP] at c; subst c; exact h a w f q
 | cons o r A=>
   intro l c s h a w f q;simp only [bP] at c;simp only [ph,sD,cO] at s
   have key:∀d,o.dst=some d->Region.wanted o (yielded ops a.tmps)=false->bP ops ((d,undef)::l) r=some p->wpList P ops Q (o::r++rest) a w:=by
     intro d e B C
     have D:Nat.blt d n=true:=by have:=s.1; rw [e] at this; exact this
     simp only [fL,wpList,B];rw [e];exact A C s.2 h _ _ (f.put D undef) q
   cases g:o.guard with
   | none=>simp [g] at c
   | some E=>
     obtain ⟨j,b⟩:=E
     cases e:o.dst with
     | none=>simp [g,e] at c
     | some d=>
       simp only [g,e] at c
       cases k:(ops[j]?).bind (·.dst) with
       | none=>simp [k] at c
       | some t=>
         simp only [k] at c
         cases m:lk l t with
         | none=>simp [m] at c
         | some v=>
           simp only [m] at c;have hv:=f.gv t v m
           cases v with
           | bool x=>
             cases y:(x != b) with
             | false=>simp [y] at c
             | true=>
               simp only [y,cond_true] at c;refine key d e ?_ c;have F:=yT f m (.inl (by simp [undef]))
               have z:yielded ops a.tmps j=some x:=by simp [yielded,k,F]
               simp only [Region.wanted,g,z]
               cases b<;>cases x<;>first | rfl | (simp at y)
           | tuple vs=>
             refine key d e ?_ c
             have z:yielded ops a.tmps j=none:=by
               simp only [yielded,k,bt];rw [iL] at hv
               cases G:a.tmps[t]? with
               | none=>rfl
               | some u=>simp [G] at hv; simp [hv]
             simp [Region.wanted,g,z]
           | _=>simp at c
theorem MW {d rest:List Oper}:∀(a:Act) (w:World),wpList P ops (Exit.then (wpList P ops Q rest) Q) d a w->wpList P ops Q (d++rest) a w:=by
 induction d with
 | nil=>intro a w h; exact h
 | cons o r c=>
   intro a w h;simp only [fL,wpList] at h ⊢
   split
   · rename_i f
     rw [if_pos f] at h
     rcases h with h | ⟨g,a2,i,j⟩
     · left
       unfold Oper.wp at h ⊢;unfold Oper.upon at h ⊢
       split at h
       all_goals first
         | exact c _ _ h
         | exact h
         | (refine h.mono λe w' b=>?_
            cases e with
            | returned v=>exact c _ _ b
            | panicked m=>exact b
            | outgrown=>obtain ⟨a3,k,l⟩:=b; exact ⟨a3,k,l⟩)
         | exact h.mono λv w' b=>c _ _ b
     · exact .inr ⟨g,a2,i,j⟩
   · rename_i f
     rw [if_neg f] at h;exact c _ _ h
theorem MX {i:Exit->Act->World->Prop} (b:∀e a w,Q e a w->i e a w) {f:List Oper}:∀(a:Act) (w:World),wpList P ops Q f a w->wpList P ops i f a w:=by
 induction f with
 | nil=>intro a w h; exact b _ _ _ h
 | cons o r d=>
   intro a w h;simp only [wpList] at h ⊢
   split
   · rename_i g
     rw [if_pos g] at h
     rcases h with h | ⟨j,a2,k,l⟩
     · left
       unfold Oper.wp at h ⊢;unfold Oper.upon at h ⊢
       split at h
       all_goals first
         | exact d _ _ h
         | exact b _ _ _ h
         | exact h
         | (refine h.mono λe w' c=>?_
            cases e with
            | returned v=>exact d _ _ c
            | panicked p=>exact b _ _ _ c
            | outgrown=>obtain ⟨a3,m,n⟩:=c; exact ⟨a3,m,b _ _ _ n⟩)
         | exact h.mono λv w' c=>d _ _ c
     · exact .inr ⟨j,a2,k,b _ _ _ l⟩
   · rename_i g
     rw [if_neg g] at h;exact d _ _ h
def pj (Q:Exit->Act->World->Prop) (n:Nat) (ds:List Deferred) (l:List (Nat×Value)) (W:World->Prop) (dx:Nat) (x:Value):Exit->Act->World->Prop:=
 Exit.then (λa w=>(Ag n ds l a/\a.tmps.getD dx undef=x)/\W w) Q
theorem Gt {b:List (Nat×Value)} {dx:Nat} {x:Value} (m:Nat) (d:lk b dx=some x) (e:b.drop m=l) (f:nL (b.take m) l=true):WL P ops (pj Q n ds l W dx x) n ds b W []:=
 λa w c g=>⟨⟨c.ym m e f,c.gv _ _ d⟩,g⟩
theorem Ag.known {a:Act} (h:Ag n ds l a) {d:Nat} {v:Value} (hv:lk l d=some v):Ag n ds ((d,v)::l) a:=
 ⟨h.size,h.defs,λt u b=>by
   simp only [lk] at b
   cases c:Nat.beq d t with
   | true=>
     rw [c] at b;have:=kE c;subst this;simp at b; subst b;exact h.gv _ _ hv
   | false=>rw [c] at b; exact h.gv t u b⟩
theorem Ag.yn {a:Act} {d:Nat} {v:Value} (h:Ag n ds ((d,v)::l) a) (hv:lk l d=some v):Ag n ds l a:=
 ⟨h.size,h.defs,λt u b=>by
   refine h.gv t u ?_;simp only [lk]
   cases c:Nat.beq d t with
   | true=>
     have:=kE c;subst this;rw [hv] at b
     simpa using b
   | false=>exact b⟩
theorem WL.wa (m:Nat) {os:List Oper} {f k dx:Nat} (d:Bool) {c x:Bool} {t a b:Operand} {ty:TypeId} {pos:String} {af:Array Edge} {g:Option (Nat×Bool)} {y:List (Nat×Value)}
   (F:os[m]? = some ⟨some k,.pick t a b,ty,pos,af,g⟩) (G:t = .tmp f) (s:lk l f=some (.bool c)) (H:ph n (os.take m)=true)
   (I:dN ops l g) (J:Nat.blt k n=true)
   (j:(a,b)=(bif d then (Operand.tmp dx,Operand.const (.bool false)) else (Operand.const (.bool true),Operand.tmp dx)))
   (K:bP ops ((f,.bool (!d))::l) (os.take m)=some y) (L:y.drop m=(f,.bool (!d))::l) (M:nL (y.take m) ((f,.bool (!d))::l)=true)
   (N:c=d->WL P ops (pj Q n ds ((f,.bool d)::l) W dx (.bool x)) n ds ((f,.bool d)::l) W (os.take m))
   (h:WL P ops Q n ds ((k,.bool (bif d then c&&x else c||x))::l) W (os.drop (m+1))):WL P ops Q n ds l W os:=by
 intro z w A B
 have O:os=os.take m++⟨some k,.pick t a b,ty,pos,af,g⟩::os.drop (m+1):=by
   obtain ⟨R,S⟩:=cf.1 F;rw [<-S,E6 R,ot]
 rw [O];subst G
 have C:∀(i:Act) (w':World) (r:Bool),Ag n ds l i->W w'->(if c then i.eval a else i.eval b) = .bool r->r=(bif d then c&&x else c||x)->
     wpList P ops Q (⟨some k,.pick (.tmp f) a b,ty,pos,af,g⟩::os.drop (m+1)) i w':=by
   intro i w' r p u hv T;refine wpList_step λZ U=>?_;rw [if_pos (dN.wanted (o:=⟨some k,.pick (.tmp f) a b,ty,pos,af,g⟩) I p)]
   have V:(execOp i.eval ⟨some k,.pick (.tmp f) a b,ty,pos,af,g⟩).run P w' = .ok (.value (.bool r)) w':=by
     have X:i.eval (.tmp f) = .bool c:=p.gv f _ s;simp only [execOp,X,asBool,Sem.run_bind,Sem.run_pure,Result.andThen_ok,hv]
   simp only [Oper.wp,V,Oper.upon_value];exact U _ _ (h _ _ (by rw [<-T]; exact p.put J _) u)
 by_cases q:c=d
 · refine MW _ _ (MX (Q:=pj Q n ds ((f,.bool d)::l) W dx (.bool x)) (λe i w' D=>?_) _ _ (N q z w (A.known (by rw [<-q]; exact s)) B))
   cases e with
   | normal=>
     obtain ⟨⟨p,E⟩,u⟩:=D;refine C i w' x (p.yn (by rw [<-q]; exact s)) u ?_ ?_
     · subst q
       cases c
       · simp at j; obtain ⟨rfl,rfl⟩:=j; exact E
       · simp at j; obtain ⟨rfl,rfl⟩:=j; exact E
     · subst q; cases c<;>rfl
   | _=>exact D
 · have v:c = !d:=by cases c<;>cases d<;>first | rfl | exact absurd rfl q
   refine WL.Bh K H (λi w' p u=>?_) z w (A.known (by rw [<-v]; exact s)) B;have Y:Ag n ds l i:=(p.ym m L M).yn (by rw [<-v]; exact s);refine C i w' c Y u ?_ ?_
   · subst v
     cases d
     · simp at j; obtain ⟨rfl,rfl⟩:=j; rfl
     · simp at j; obtain ⟨rfl,rfl⟩:=j; rfl
   · subst v; cases d<;>rfl
theorem La (m:Nat) {os:List Oper} {d e dx:Nat} {c x:Bool} {t a b:Operand} {ty:TypeId} {pos:String} {af:Array Edge} {g:Option (Nat×Bool)} {f:List (Nat×Value)}
   (i:os[m]? = some ⟨some e,.pick t a b,ty,pos,af,g⟩) (j:t = .tmp d) (k:lk l d=some (.bool c)) (o:ph n (os.take m)=true)
   (p:dN ops l g) (q:Nat.blt e n=true) (r:(a,b)=(Operand.tmp dx,Operand.const (.bool false)))
   (s:bP ops ((d,.bool false)::l) (os.take m)=some f) (u:f.drop m=(d,.bool false)::l) (v:nL (f.take m) ((d,.bool false)::l)=true)
   (w:c=true->WL P ops (pj Q n ds ((d,.bool true)::l) W dx (.bool x)) n ds ((d,.bool true)::l) W (os.take m))
   (h:WL P ops Q n ds ((e,.bool (c&&x))::l) W (os.drop (m+1))):WL P ops Q n ds l W os:=
 WL.wa m true i j k o p q r s u v w h
theorem Lo (m:Nat) {os:List Oper} {d e dx:Nat} {c x:Bool} {t a b:Operand} {ty:TypeId} {pos:String} {af:Array Edge} {g:Option (Nat×Bool)} {f:List (Nat×Value)}
   (i:os[m]? = some ⟨some e,.pick t a b,ty,pos,af,g⟩) (j:t = .tmp d) (k:lk l d=some (.bool c)) (o:ph n (os.take m)=true)
   (p:dN ops l g) (q:Nat.blt e n=true) (r:(a,b)=(Operand.const (.bool true),Operand.tmp dx))
   (s:bP ops ((d,.bool true)::l) (os.take m)=some f) (u:f.drop m=(d,.bool true)::l) (v:nL (f.take m) ((d,.bool true)::l)=true)
   (w:c=false->WL P ops (pj Q n ds ((d,.bool false)::l) W dx (.bool x)) n ds ((d,.bool false)::l) W (os.take m))
   (h:WL P ops Q n ds ((e,.bool (c||x))::l) W (os.drop (m+1))):WL P ops Q n ds l W os:=
 WL.wa m false i j k o p q r s u v w h
end
section
variable {P:Program} {ops:Array Oper} {Q:Exit->Act->World->Prop} {n:Nat} {ds:List Deferred} {l l':List (Nat×Value)} {W:World->Prop} {w0:World} {F:List Nat} {L:List aW} {Vs:List View}
 {rest:List Oper} {d:Nat} {ty:TypeId} {pos:String} {af:Array Edge} {g:Option (Nat×Bool)}
theorem MY {ι:Type} {c:Code} (U:ι->List (Nat×Value)) (a:List (Nat×Value)) (b:ι->World->Prop) (R:ι->Prop) (e:ι->Nat) (d:ι) (f:R d) (g:∀p ∈ U d++a,lk l p.1=some p.2) (h:∀w,W w->b d w)
   (k:∀i,R i->WC P c (Exit.then (λm w'=>∃j,e j<e i/\R j/\Ag n ds (U j++a) m/\b j w') Q) n ds (U i++a) (b i)):WC P (.loop c) Q n ds l W:=
 WC.loop (λi=>U i++a) b R e d f g h k
theorem dc {ι:Type} {c:Code} (U:ι->List (Nat×Value)) (a:List (Nat×Value)) (d:ι->World->Prop) (R:ι->Prop) (e:ι->Nat) (b:ι) (f:R b) (g:∀w,W w->d b w) (h:∀i,R i->WC P c (Exit.then (λk w'=>∃j,e j<e i/\R j/\Ag n ds (U j++a) k/\d j w') Q) n ds (U i++a) (d i)) (m:tW l (U b++a)=hE (U b++a):=by rfl):WC P (.loop c) Q n ds l W:=MY U a d R e b f (vX m) g h
theorem CW {ι:Type} {c:Code} (U:ι->List (Nat×Value)) (a:List (Nat×Value)) (R:ι->Prop) (b:ι->Nat) (d:ι) (e:R d) (f:∀p ∈ U d++a,lk l p.1=some p.2)
   (g:∀i,R i->WC P c (Exit.then (λh w'=>∃j,b j<b i/\R j/\Ag n ds (U j++a) h/\W w') Q) n ds (U i++a) W):WC P (.loop c) Q n ds l W:=
 WC.loop (λi=>U i++a) (λ_=>W) R b d e f an g
theorem bV {ι:Type} {c:Code} (U:ι->List (Nat×Value)) (a:List (Nat×Value)) (R:ι->Prop) (d:ι->Nat) (b:ι) (e:R b) (f:∀i,R i->WC P c (Exit.then (λg w'=>∃j,d j<d i/\R j/\Ag n ds (U j++a) g/\W w') Q) n ds (U i++a) W) (h:tW l (U b++a)=hE (U b++a):=by rfl):WC P (.loop c) Q n ds l W:=CW U a R d b e (vX h) f
theorem WL.make {t e:TypeId} {x y:Operand} {i j:IntKind} {c a:Int} {f:Value} {size k:Nat} (p:dN ops l g) (q:Nat.blt d n=true) (m:gg P t e f size k)
   (r:bn l x=some (.int i c)) (s:bn l y=some (.int j a)) (u:0<=c) (v:c<=a) (z:(k:Int)*a<=281474976710656) (A:a<=9223372036854775807)
   (h:∀b,WL P ops Q n ds ((d,.slice (some ⟨b,0,none⟩) c.toNat a.toNat)::l) (Ws w0 F (ao b (.cells (madeCells f.cells (a.toNat*size)) e (0,0))::L) Vs) rest) :
   WL P ops Q n ds l (Ws w0 F L Vs) (⟨some d,.makeSlice t x y,ty,pos,af,g⟩::rest):=by
 obtain ⟨B,hi,C,D,E⟩:=m.info;refine WL.new (mk:=λb=>.slice (some ⟨b,0,none⟩) c.toNat a.toNat) p q (λρ w o G=>?_) h;have:=run_make (P:=P) w t e B f m.under hi C i j c a u v (by rw [E]; exact z) A;rw [D] at this;simp [execOp,o x _ r,o y _ s,this]
theorem WL.FL {t:TypeId} {x y:Operand} {b o k:Nat} {a:Obj} {v:Value} (i:Nat) (c:Obj) (d:dN ops l g) (e:bn l x=some (.pointer (some ⟨b,o,none⟩))) (f:bn l y=some v) (j:L[i]? = some (ao b a))
   (m:dI P t=some k) (p:(e_ v).length=k) (q:(e_ v).all (·.oneCell')=true) (r:qu a o k=true) (s:qt a o (e_ v)=c)
   (h:WL P ops Q n ds l (Ws w0 F (L.set i (ao b c)) Vs) rest) :
   WL P ops Q n ds l (Ws w0 F L Vs) (⟨none,.store t x y,ty,pos,af,g⟩::rest):=aQ i d e f j m p q r (by rw [s]; exact h)
end
section
variable {P:Program} {l:List (Nat×Value)} {W:World->Prop} {w0:World} {F:List Nat} {L:List aW} {Vs:List View}
 {d:Option Tmp} {ty:TypeId} {pos:String} {af:Array Edge} {g:Option (Nat×Bool)}
theorem M0 {t:TypeId} {x y:Operand} {a:Option Addr} {m c s:Nat} {k:IntKind} {h:Int} (b:fk P t=some s) (j:bn l x=some (.slice a m c)) (A:∀p,a=some p->p.spot=none) (n:bn l y=some (.int k h)) (o:0<=h) (q:h<=c) :
   Yl P l W ⟨d,.slice t x none (some y) none,ty,pos,af,g⟩ (.slice a h.toNat c):=by
 intro ρ w i _;unfold fk at b
 cases f:P.underlying t with
 | none=>simp [f] at b
 | some r=>
   cases r<;>simp [f] at b
   rename_i e;obtain ⟨u,hi,rfl⟩:=b
   have v:(if c=0 then a else a.map (·.add (0*u.size)))=a:=by
     split
     · rfl
     · cases a with
       | none=>rfl
       | some p=>simp [Addr.add]
   have z:h<=(c:Int):=q;simp [execOp,i x _ j,i y _ n,Instr.sliceAt,Instr.slice,Instr.sliceBounds,Instr.sliceBound,asIntOf,run_underlying f,sizeOf,typeInfo,hi,o,z]
   simpa using v
end
def bR (a:View) (b o:Nat) (cs:List Value):Prop:=∀j v,cs[j]? = some v->vc a b (o+j)=some v
theorem bR.mono {a c:View} (h:bF a c) {b o:Nat} {cs:List Value} (r:bR a b o cs):bR c b o cs:=λj v hv=>h.cell (r j v hv)
structure Sl {α:Type} (rd:View->Nat->Nat->α->Prop) (k:Nat) (H:View) (a:Option Addr) (c:Nat) (l:List α):Prop where
 cap:l.length<=c
 max:c<=9223372036854775807
 spot:∀p,a=some p->0<c->p.spot=none
 bT:∀i x,l[i]? = some x->∃b o,a=some ⟨b,o,none⟩/\rd H b (o+i*k) x
theorem Sl.mono {α:Type} {rd:View->Nat->Nat->α->Prop} {k:Nat} {d e:View} {a:Option Addr} {c:Nat} {l:List α} (f:∀b o x,rd d b o x->rd e b o x) (h:Sl rd k d a c l):Sl rd k e a c l:=
 ⟨h.cap,h.max,h.spot,λi x g=>let ⟨b,o,j,m⟩:=h.bT i x g; ⟨b,o,j,f _ _ _ m⟩⟩
theorem Sl.nil {α:Type} {rd:View->Nat->Nat->α->Prop} {k:Nat} {a:View}:Sl rd k a none 0 ([]:List α):=⟨dp _,aF,aj,aj⟩
section
variable {P:Program} {l:List (Nat×Value)} {W:World->Prop} {d:Option Tmp} {ty:TypeId} {pos:String} {af:Array Edge} {g:Option (Nat×Bool)}
theorem Yo {t:TypeId} {x y:Operand} {a:Option Addr} {b o n c s:Nat} {k:IntKind} {i:Nat} (e:fk P t=some s) (f:bn l x=some (.slice a n c)) (h:bn l y=some (.int k (i:Int))) (j:a=some ⟨b,o,none⟩) (m:i<n) :
   Yl P l W ⟨d,.indexAddr t x y,ty,pos,af,g⟩ (.pointer (some ⟨b,o+i*s,none⟩)):=by subst j; exact FD e f h m
theorem wb {t:TypeId} {x y:Operand} {a:Option Addr} {b o n c s:Nat} {k:IntKind} {i:Int} (e:fk P t=some s) (f:bn l x=some (.slice a n c)) (h:bn l y=some (.int k i)) (j:a=some ⟨b,o,none⟩) (m:0<=i) (p:i<n) :
   Yl P l W ⟨d,.indexAddr t x y,ty,pos,af,g⟩ (.pointer (some ⟨b,o+i.toNat*s,none⟩)):=by subst j; exact FC e f h m p
end
section
variable {P:Program} {md:Region.Mode} {ops:Array Oper} {C:World->Prop} {Q:Exit->Act->World->Prop}
def YV (P:Program) (ops:Array Oper) (C:World->Prop) (o:Oper) (v:Value) (a:Act):Prop:=
 (Region.wanted o (yielded ops a.tmps)=true/\∀w,C w->(execOp a.eval o).run P w = .ok (.value v) w)\/
 (Region.wanted o (yielded ops a.tmps)=false/\v=undef)
theorem YV.of_same {o:Oper} {v:Value} {a b:Act} (c:YV P ops C o v a) (d:execOp b.eval o=execOp a.eval o)
   (e:Region.wanted o (yielded ops b.tmps)=Region.wanted o (yielded ops a.tmps)):YV P ops C o v b:=by
 unfold YV at *;rw [d,e];exact c
theorem YV.wpOp {i:Nat} {o:Oper} {v:Value} {a:Act} {w:World} (hi:ops[i]? = some o) (d:YV P ops C o v a) (e:C w) {c:Act->World->Prop} (h:c (a.put o.dst v) w):wpOp P ops Q i c a w:=by
 unfold Go.wpOp;simp only [hi]
 rcases d with ⟨b,hv⟩ | ⟨b,rfl⟩
 · simp only [b,if_true]
   refine .inl ?_;simp only [Oper.wp,hv w e,Oper.upon_value];exact h
 · simp only [b,pc,if_false]; exact h
def ow (P:Program) (md:Region.Mode) (ops:Array Oper) (C:World->Prop) (Q:Exit->Act->World->Prop):Nat->Array Bool->Act->World->Prop
 | 0,listed,a,w=>C w/\Region.ready md ops listed=[]/\Q .normal a w
 | fuel+1,listed,a,w=>C w/\(Region.ready md ops listed=[]->Q .normal a w)/\
   ∀i ∈ Region.ready md ops listed,wpOp P ops Q i (ow P md ops C Q fuel (listed.setIfInBounds i true)) a w
theorem yo:∀(fuel:Nat) (b:Array Bool) (a:Act) (w:World),ow P md ops C Q fuel b a w->wpAny P md ops Q fuel b a w
 | 0,_,_,_,h=>h.2
 | fuel+1,b,a,w,h=>⟨h.2.1,λi hi=>wpOp_mono (λc w' d=>yo fuel _ c w' d) (h.2.2 i hi)⟩
theorem ow.c {fuel:Nat} {b:Array Bool} {a:Act} {w:World} (h:ow P md ops C Q fuel b a w):C w:=by cases fuel<;>exact h.1
theorem FM {j:Nat} {g i:Oper} {v:Value} (B:ops[j]? = some i) (D:g.apart ops i=true)
   (E:∀cs b,g.op≠.select cs b) (q:∀cs b,i.op≠.select cs b)
   (s:∀c a w,Q (.panic c) (a.put g.dst v) w->Q (.panic c) a w) {t:Act->World->Prop} {a:Act} {w:World}
   (k:YV P ops C g v a) (h:wpOp P ops Q j t (a.put g.dst v) w) :
   wpOp P ops Q j (λy w'=>YV P ops C g v y/\t (y.put g.dst v) w') a w:=by
 obtain ⟨o,l,z⟩:=Oper.apart_spec D
 have iO:∀(a:Act),YV P ops C g v a->∀u,YV P ops C g v (a.put i.dst u):=λa k u=>
   k.of_same (execOp_put g E a i.dst u z) (wanted_put g a i.dst u z)
 have F:∀d,YV P ops C g v { a with defers:=d::a.defers }:=λd=>k.of_same rfl rfl;unfold wpOp at *;simp only [B] at *;rw [wanted_put i a g.dst v o] at h
 split
 · rename_i p
   simp only [p,if_true] at h
   rcases h with h | ⟨A,G⟩
   case inr=>exact .inr ⟨by unfold Oper.asks at *; rw [execOp_put i q a g.dst v o] at A; exact A,G⟩
   refine .inl ?_;unfold Oper.wp at *;rw [execOp_put i q a g.dst v o] at h
   generalize (execOp a.eval i).run P w=r at *
   cases r with
   | ok n w'=>
     cases n<;>simp only [Oper.upon] at h ⊢
     case value u=>exact ⟨iO a k u,by rw [<-Act.put_comm a v u l]; exact h⟩
     case skip=>exact ⟨iO a k _,by rw [<-Act.put_comm a v undef l]; exact h⟩
     case defer d=>
       refine ⟨iO _ (F d) _,?_⟩;rw [<-Act.put_comm _ v undef l,<-Act.put_defers];exact h
     case enter f args=>
       refine Calls.mono h λe H m=>?_
       cases e with
       | returned u=>exact ⟨iO a k u,by rw [<-Act.put_comm a v u l]; exact m⟩
       | panicked c=>exact s _ _ _ m
       | outgrown=>exact m
     case row row args=>exact Rows.mono h λu H m=>⟨iO a k u,by rw [<-Act.put_comm a v u l]; exact m⟩
   | halt x w'=>
     cases x<;>simp only [Oper.upon] at h ⊢
     case panic u=>exact s _ _ _ h
 · rename_i p
   simp only [p] at h;exact ⟨iO a k _,by rw [<-Act.put_comm a v undef l]; exact h⟩
theorem Bi {i:Nat} {g:Oper} {v:Value} (hi:ops[i]? = some g) (y:∀(j:Nat) (o:Oper) cs b,ops[j]? = some o->o.op≠.select cs b)
   (F:∀c a w,Q (.panic c) (a.put g.dst v) w->Q (.panic c) a w) :
   ∀(fuel:Nat) (d:Array Bool) (a:Act) (w:World),
     (∀j l,ops[j]? = some l->j≠i->d.getD j true=false->(∀e ∈ l.after,Region.binds md e=true->e.on≠i)->g.apart ops l=true)->
     i ∈ Region.ready md ops d->YV P ops C g v a->C w->
     ow P md ops C Q fuel (d.setIfInBounds i true) (a.put g.dst v) w->ow P md ops C Q (fuel+1) d a w:=by
 intro fuel
 induction fuel with
 | zero=>
   intro d a w _ m r p q;refine ⟨p,λh=>(by rw [h] at m; cases m),λj s=>?_⟩
   by_cases f:j=i
   · subst f; exact r.wpOp hi p q
   · have:=ready_mono s f
     rw [q.2.1] at this;cases this
 | succ fuel G=>
   intro d a w z m r p q;refine ⟨p,λh=>(by rw [h] at m; cases m),λj s=>?_⟩
   by_cases f:j=i
   · subst f; exact r.wpOp hi p q
   · have n:=q.2.2 j (ready_mono s f)
     obtain ⟨A,l,t,H⟩:=mem_ready.1 s
     have I:∀e ∈ l.after,Region.binds md e=true->e.on≠i:=λe J K L=>by
       have n:=H e J K;have B:=(mem_ready.1 m).1;rw [L] at n
       rcases kY i d.size with u | u
       · simp [u] at B n; rw [B] at n; cases n
       · simp [tQ u] at n
     have M:=FM t (z j l t f A I) (λcs b=>y i g cs b hi) (λcs b=>y j l cs b t) F r n
     have N:∀k ok,ops[k]? = some ok->k≠i->(d.setIfInBounds j true).getD k true=false->
         (∀e ∈ ok.after,Region.binds md e=true->e.on≠i)->g.apart ops ok=true:=λk ok O R D S=>by
       refine z k ok O R ?_ S
       by_cases E:j=k
       · subst E; exact A
       · rw [getD_set_ne true E] at D; exact D
     refine wpOp_mono (λT w' x=>G (d.setIfInBounds j true) T w' N (ready_mono m (vP f)) x.1 x.2.c ?_) M;rw [AX _ _ f];exact x.2
def my (md:Region.Mode) (ops:Array Oper):List (Nat×Bool)->Array Bool->Bool
 | [],listed=>(Region.ready md ops listed).isEmpty
 | (i,q)::r,listed=>(bif q then (Region.ready md ops listed).contains i&&Region.free md ops listed i else Region.ready md ops listed==[i])&&my md ops r (listed.setIfInBounds i true)
def mz (P:Program) (ops:Array Oper) (C:World->Prop) (Q:Exit->Act->World->Prop):List (Nat×Bool)->Act->World->Prop
 | [],a,w=>C w/\Q .normal a w
 | (i,true)::r,a,w=>C w/\∃o v,ops[i]? = some o/\YV P ops C o v a/\mz P ops C Q r (a.put o.dst v) w
 | (i,false)::r,a,w=>C w/\wpOp P ops Q i (mz P ops C Q r) a w
theorem Bj (f:Region.noSelect ops=true) (g:∀c a w d v,Q (.panic c) (a.put d v) w->Q (.panic c) a w):∀(ord:List (Nat×Bool)) (e:Array Bool) (a:Act) (w:World),
   my md ops ord e=true->mz P ops C Q ord a w->ow P md ops C Q ord.length e a w
 | [],e,a,w,b,h=>⟨h.1,by simpa [my] using b,h.2⟩
 | (i,true)::r,e,a,w,b,h=>by
   simp only [my,cond_true,cO] at b;obtain ⟨m,o,v,l,n,h⟩:=h
   exact Bi l (Region.noSelect_spec f) (λc a w=>g c a w o.dst v) r.length e a w (Region.free_spec l b.1.2) (by simpa using b.1.1) n m
     (Bj f g r _ _ _ b.2 h)
 | (i,false)::r,e,a,w,b,h=>by
   simp only [my,cond_false,cO,beq_iff_eq] at b;refine ⟨h.1,λp=>(by rw [p] at b; cases b.1),λj k=>?_⟩;rw [b.1] at k;simp at k;subst k;exact wpOp_mono (λs w' q=>Bj f g r _ _ _ b.2 q) h.2
theorem M1 {id:Nat} {a:Act} {w:World} {l:List Oper} (ord:List (Nat×Bool)) (e:P.follows .mixedOrders=true) (b:(Region.noSelect l.toArray&&(ord.length==l.toArray.size&&my .any l.toArray ord (Array.replicate l.toArray.size false)))=true)
   (f:∀c a w d v,Q (.panic c) (a.put d v) w->Q (.panic c) a w) (h:mz P l.toArray C Q ord a w.drew):(Code.region id l.toArray true).wp P Q a w:=by
 simp only [cO,beq_iff_eq] at b;have:=yo (md:=.any) _ _ _ _ (Bj b.1 f ord _ a w.drew b.2.2 h);rw [b.2.1] at this;exact wp_region_any e this
variable {n:Nat} {ds:List Deferred} {l:List (Nat×Value)} {W:World->Prop}
def WD (P:Program) (ops:Array Oper) (C:World->Prop) (Q:Exit->Act->World->Prop) (n:Nat) (ds:List Deferred) (l:List (Nat×Value)) (W:World->Prop) (ord:List (Nat×Bool)):Prop:=
 ∀a w,Ag n ds l a->W w->mz P ops C Q ord a w
theorem WC.FN {id:Nat} {os:List Oper} (C:World->Prop) (ord:List (Nat×Bool)) (b:P.follows .mixedOrders=true) (e:(Region.noSelect os.toArray&&(ord.length==os.toArray.size&&my .any os.toArray ord (Array.replicate os.toArray.size false)))=true)
   (f:∀c a w d v,Q (.panic c) (a.put d v) w->Q (.panic c) a w) (g:∀w,W w->W w.drew) (h:WD P os.toArray C Q n ds l W ord):WC P (.region id os.toArray true) Q n ds l W:=
 λa w i j=>M1 ord b e f (h a w.drew i (g w j))
theorem Dq {r:List (Nat×Bool)} {i d:Nat} {op:Op} {ty:TypeId} {pos:String} {af:Array Edge} {g:Option (Nat×Bool)} {v:Value} (hi:ops[i]? = some ⟨some d,op,ty,pos,af,g⟩) (e:dN ops l g) (f:Nat.blt d n=true)
   (j:∀w,W w->C w) (k:Yl P l C ⟨some d,op,ty,pos,af,g⟩ v) (h:WD P ops C Q n ds ((d,v)::l) W r):WD P ops C Q n ds l W ((i,true)::r):=by
 intro a w b c;refine ⟨j w c,_,v,hi,.inl ⟨dN.wanted (o:=⟨some d,op,ty,pos,af,g⟩) e b,λw' m=>k a.eval w' (λx u p=>b.eval p) m⟩,h _ _ (b.put f v) c⟩
theorem D0 {i d:Nat} {op:Op} {ty:TypeId} {pos:String} {af:Array Edge} {v:Value} {r:List (Nat×Bool)} (hi:ops[i]? = some ⟨some d,op,ty,pos,af,none⟩) (a:∀w,W w->C w) (b:Yl P l C ⟨some d,op,ty,pos,af,none⟩ v) (h:WD P ops C Q n ds ((d,v)::l) W r) (c:Nat.blt d n=true:=by rfl):WD P ops C Q n ds l W ((i,true)::r):=Dq hi (.inl rfl) c a b h
theorem De {r:List (Nat×Bool)} {i:Nat} {o:Oper} (hi:ops[i]? = some o) (f:∀w,W w->C w) (h:WL P ops (Exit.then (mz P ops C Q r) Q) n ds l W [o]):WD P ops C Q n ds l W ((i,false)::r):=by
 intro a w g d;refine ⟨f w d,?_⟩;have:=h a w g d;unfold wpList at this;unfold wpOp;simp only [hi]
 split
 · rename_i c
   rw [if_pos c] at this
   rcases this with this | ⟨j,a2,k,m⟩
   · left
     unfold Oper.wp at this ⊢;unfold Oper.upon at this ⊢
     split at this
     all_goals first
       | exact this
       | (refine this.mono λe w' b=>?_
          cases e with
          | returned v=>exact b
          | panicked s=>exact b
          | outgrown=>obtain ⟨a3,p,q⟩:=b; exact ⟨a3,p,q⟩)
       | exact this.mono λv w' b=>b
   · exact .inr ⟨j,a2,k,m⟩
 · rename_i c
   rw [if_neg c] at this;exact this
theorem Ed {r:List (Nat×Bool)} (h:WD P ops C Q n ds l W r):WE (Exit.then (mz P ops C Q r) Q) .normal n ds l W:=h
theorem WD.nil (c:∀w,W w->C w) (h:WE Q .normal n ds l W):WD P ops C Q n ds l W []:=λa w d b=>⟨c w b,h a w d b⟩
theorem Ws.drew {a w:World} {b:List Nat} {L:List aW} {Vs:List View} (h:Ws a b L Vs w):Ws a b L Vs w.drew:=h.ext (Ext.drew w)
theorem Ws.out {b w:World} {c:List Nat} {L:List aW} {Vs:List View} (i:Nat) (h:Ws b c L Vs w):Ws b c (eu i L) Vs w:=by
 cases a:L[i]? with
 | none=>
   have:eu i L=L:=by
     clear h
     induction L generalizing i with
     | nil=>cases i<;>rfl
     | cons x r d=>
       cases i with
       | zero=>simp at a
       | succ i=>simp only [eu]; rw [d i (by simpa using a)]
   rw [this]; exact h
 | some x=>exact Ws.drop (L:=[x]) (h.perm (mx i L a))
end
section
variable {P:Program} {ops:Array Oper} {Q:Exit->Act->World->Prop} {n:Nat} {ds:List Deferred} {l l':List (Nat×Value)} {W:World->Prop} {w0:World} {F:List Nat} {L:List aW} {Vs:List View}
 {rest:List Oper} {d:Nat} {ty:TypeId} {pos:String} {af:Array Edge} {g:Option (Nat×Bool)}
def rC (a:Value) (k:Nat):List Value:=(List.range k).map λi=>((e_ a)[i % (e_ a).length]?).getD undef
theorem M3 (a:Value) (k:Nat) (b:0<a.cells.size):((Array.range k).map (a.cells[· % a.cells.size]!):Array Value).toList=rC a k:=by
 simp only [Array.toList_map,Array.toList_range,rC];apply x1;intro i _;have c:i % a.cells.size<a.cells.size:=AY _ b
 have e:(e_ a).length=a.cells.size:=by rw [<-rB]; simp
 rw [e,<-rB];simp [c]
theorem WL.FO {t e:TypeId} {len size q:Nat} {parts:List (Nat×Operand)} {a:Value} {vs:List (Nat×Value)} {out:List Value} (r:dN ops l g) (s:Nat.blt d n=true) (c:gg P t e a size q)
   (hv:qs l parts=some vs) (u:Nat.ble (len*size) 16777216=true) (k:pg (λi=>some (i*size,size)) (bif Nat.beq (len*size) 0 then [] else rC a (len*size)) vs=some out)
   (h:∀b,WL P ops Q n ds ((d,.slice (some ⟨b,0,none⟩) len len)::l) (Ws w0 F (ao b (.cells out.toArray e (0,0))::L) Vs) rest) :
   WL P ops Q n ds l (Ws w0 F L Vs) (⟨some d,.buildSlice t len parts.toArray,ty,pos,af,g⟩::rest):=by
 obtain ⟨C,hi,v,y,D⟩:=c.info;have E:=oq u;refine WL.new (mk:=λb=>.slice (some ⟨b,0,none⟩) len len) r s (λρ w z G=>?_) h
 have m:((parts.toArray.map λ (i,x)=>(i,ρ x)):Array (Nat×Value)).toList=vs:=by simpa using yl z parts vs hv
 have A:zeroOf P e=some a:=by simp [zeroOf,hi,v]
 have o:dI P e=some size:=by simp [dI,hi,y]
 have p:¬len*size > 2 ^ 24:=ae
 by_cases f:len*size=0
 · have j:Instr.fill (λi=>some (i*size,size)) #[] vs=some out.toArray:=by
     refine v8 _ vs #[] out ?_
     simpa [f] using k
   simp only [execOp,Instr.buildSlice,Sem.run_bind,run_underlying c.under,Result.andThen_ok,yk o,if_neg p,Sem.run_pure,if_pos f,m];simp [f,j,newRow,Array.range_zero']
 · have j:Instr.fill (λi=>some (i*size,size)) ((Array.range (len*size)).map (a.cells[· % a.cells.size]!)) vs=some out.toArray:=by
     refine v8 _ vs _ out ?_;rw [M3 a _ (by rw [c.zs]; exact c.pos)]
     have:Nat.beq (len*size) 0=false:=by
       cases B:Nat.beq (len*size) 0 with
       | false=>rfl
       | true=>exact absurd (kE B) f
     simpa [this] using k
   simp only [execOp,Instr.buildSlice,Sem.run_bind,run_underlying c.under,Result.andThen_ok,yk o,if_neg p,Sem.run_pure,if_neg f,m,sJ A,j];simp [newRow]
theorem yU {ρ:Operand->Value} {dst:Option Tmp} {f:FuncId} {a:Operand} {b:Array Value} {args:Array Operand} {ts:Array TypeId} {vs:List Value} {w:World} (d:Enters P f) (c:∀x u,bn l x=some u->ρ x=u)
   (h:bn l a=some (.func (.func f) #[] b)) (i:iu l args.toList=some vs) :
   (execOp ρ ⟨dst,.call ⟨.value a,args,ts⟩,ty,pos,af,g⟩).run P w = .ok (.enter f (vs.toArray++b)) w:=by
 have e:args.map ρ=vs.toArray:=by
   apply qk
   simpa using v' c _ _ i
 simp only [execOp,resolve,e,c a _ h,Deferred.ofValue,Sem.run_bind,Sem.run_pure,Result.andThen_ok,invoke]
 simpa using d _ w
theorem WL.M4 {ι:Type} {f:FuncId} {j:Operand} {k:Array Value} {args:Array Operand} {ts:Array TypeId} {vs:List Value} (o:dN ops l g) (p:Nat.blt d n=true) (q:Enters P f) (r:bn l j=some (.func (.func f) #[] k)) (s:iu l args.toList=some vs)
   (v:ι->Value) (R:ι->World->Prop) (m:List PanicEntry->World->Prop)
   (t:∀w,W w->Calls P f (vs.toArray++k) w λe w'=>(∃i,e = .returned (v i)/\R i w')\/∃b,e = .panicked b/\m b w')
   (y:∀i,WL P ops Q n ds ((d,v i)::l) (R i) rest) (z:∀b,WE Q (.panic b) n ds l (m b)) :
   WL P ops Q n ds l W (⟨some d,.call ⟨.value j,args,ts⟩,ty,pos,af,g⟩::rest):=by
 refine WL.step o λa w c A F B=>?_;have C:=yU (P:=P) (dst:=some d) (ts:=ts) (ty:=ty) (pos:=pos) (af:=af) (g:=g) (w:=w) q (λx u D=>c.eval D) r s;simp only [Oper.wp,C,Oper.upon_enter];refine (t w A).mono λe w' E=>?_
 rcases E with ⟨i,rfl,h⟩ | ⟨b,rfl,h⟩
 · exact B _ _ (y i _ _ (c.put p _) h)
 · exact z b _ _ c h
theorem WL.tZ {f:FuncId} {b:Operand} {c:Array Value} {args:Array Operand} {ts:Array TypeId} {vs:List Value} {v:Value} (k:dN ops l g) (m:Nat.blt d n=true) (o:Enters P f) (p:bn l b=some (.func (.func f) #[] c)) (q:iu l args.toList=some vs)
   (r:∀w,Ws w0 F L Vs w->Calls P f (vs.toArray++c) w λe w'=>e = .returned v/\Ext w w')
   (s:WL P ops Q n ds ((d,v)::l) (Ws w0 F L Vs) rest) :
   WL P ops Q n ds l (Ws w0 F L Vs) (⟨some d,.call ⟨.value b,args,ts⟩,ty,pos,af,g⟩::rest):=by
 refine WL.step k λa w i j B t=>?_;have y:=yU (P:=P) (dst:=some d) (ts:=ts) (ty:=ty) (pos:=pos) (af:=af) (g:=g) (w:=w) o (λx u z=>i.eval z) p q;simp only [Oper.wp,y,Oper.upon_enter];refine (r w j).mono λe w' A=>?_;obtain ⟨rfl,h⟩:=A;exact t _ _ (s _ _ (i.put m _) (j.ext h))
theorem WE.t' {fn:Func} {R:Ending->World->Prop} {a b o k:Nat} {t:TypeId} {c:Obj} (i:Nat) (m:fn.results = #[.cell a t]) (p:lk l a=some (.pointer (some ⟨b,o,none⟩))) (q:L[i]? = some (ao b c)) (r:gP P t=some k) (s:(cellsIn c o k).length=k)
   (h:∀w,Ws w0 F L Vs w->R (.returned (.agg (cellsIn c o k).toArray)) w):WE (bodyPost P fn R) .ret n [] l (Ws w0 F L Vs):=by
 intro A w e f
 have u:(loadVar t ⟨b,o,none⟩).run P w = .ok (.agg (cellsIn c o k).toArray) w:=yh r s λj v d=>by
   have x:w.heap[b]? = some c:=f.kn _ (eL q);refine cell_of_heap x ?_
   cases c<;>simp [cellsIn,gQ] at *
   rw [jy] at d
   split at d
   · simpa using d
   · cases d
 refine bodyPost_ret (v:=.agg (cellsIn c o k).toArray) ?_ e.defs (h w f);have g:=e.gv a _ p;rw [iL] at g;simp [results,m,g,asAddr,u]
theorem WE.dQ {fn:Func} {R:Ending->World->Prop} {a b o k u:Nat} {x:Value} {t:TypeId} {c:Obj} (i:Nat) (p:fn.results = #[.cell a t,.tmp u]) (q:lk l a=some (.pointer (some ⟨b,o,none⟩))) (r:lk l u=some x) (s:L[i]? = some (ao b c)) (y:gP P t=some k) (z:(cellsIn c o k).length=k)
   (h:∀w,Ws w0 F L Vs w->R (.returned (.tuple #[.agg (cellsIn c o k).toArray,x])) w):WE (bodyPost P fn R) .ret n [] l (Ws w0 F L Vs):=by
 intro A w e f
 have B:(loadVar t ⟨b,o,none⟩).run P w = .ok (.agg (cellsIn c o k).toArray) w:=yh y z λj v d=>by
   have C:w.heap[b]? = some c:=f.kn _ (eL s);refine cell_of_heap C ?_
   cases c<;>simp [cellsIn,gQ] at *
   rw [jy] at d
   split at d
   · simpa using d
   · cases d
 refine bodyPost_ret (v:=.tuple #[.agg (cellsIn c o k).toArray,x]) ?_ e.defs (h w f);have g:=e.gv a _ q;have m:=e.gv u _ r;rw [iL] at g m;simp [results,p,g,m,asAddr,B]
end
theorem Ws.Bk {c w:World} {L:List aW} {Vs:List View} (h:Ws c [] L Vs w) (i:Nat) {b:Nat} {a:Obj} (d:L[i]? = some (ao b a)) {k:Nat} {v:Value} (f:gQ a k=some v):vc (nv c w) b k=some v:=by
 have g:w.heap[b]? = some a:=h.kn _ (eL d);have e:=h.own _ (eL d) b (by simp [ao]);simp at e;unfold vc nv;rw [if_pos e,g];exact f
theorem Ws.M5 {d w:World} {L:List aW} {Vs:List View} (h:Ws d [] L Vs w) (i:Nat) {e:TypeId} {size m:Nat} {v:Value} {xs:List Value} (f:L[i]? = some (b6 e size v m xs)) :
   (v = .slice none 0 0/\xs=[])\/∃b c,v = .slice (some ⟨b,0,none⟩) m c/\m<=c/\c<=maxLen/\∀j u,xs[j]? = some u->vc (nv d w) b j=some u:=by
 obtain ⟨k,l⟩:=(h.kn _ (eL f):w.ownsRow 0 e size v m xs)
 rcases l with ⟨rfl,rfl⟩ | ⟨b,cap,r,rfl,_,n,o,p,s,q⟩
 · exact .inl ⟨O,by cases xs; rfl; simp at k⟩
 · refine .inr ⟨b,cap,O,o,p,λj u a=>?_⟩
   have g:=h.own _ (eL f) b (by simp [b6,Value.ownBlock]);simp at g;unfold vc nv;rw [if_pos g,n];rw [<-q,jy] at a
   split at a
   · simpa [gQ] using a
   · cases a
theorem dR {α:Type} {f:α->List Value} {k:Nat} (a:∀x,(f x).length=k):∀l:List α,(l.flatMap f).length=l.length*k
 | []=>by simp
 | x::r=>by simp [a,dR a r,sC]; omega
theorem yp {α:Type} {f:α->List Value} {k:Nat} (a:∀x,(f x).length=k):∀(l:List α) (i:Nat) (x:α),l[i]? = some x->
   l.flatMap f=(l.take i).flatMap f++f x++(l.drop (i+1)).flatMap f
 | [],i,x,h=>by simp at h
 | y::r,0,x,h=>by simp at h; simp [h]
 | y::r,i+1,x,h=>by
   have:=yp a r i x (by simpa using h);simp only [gd,rn,List.drop_succ_cons];rw [this];simp
theorem qv {α:Type} {f:α->List Value} {k:Nat} (a:∀x,(f x).length=k) {l:List α} {i:Nat} {x:α} (h:l[i]? = some x) {j:Nat} (b:j<k):(l.flatMap f)[i*k+j]? = (f x)[j]?:=by
 have hi:=(cf.1 h).1
 have c:((l.take i).flatMap f).length=i*k:=by rw [dR a,jh,hc ae]
 rw [yp a l i x h,et,hD ae,c,x2,ql (by rw [a]; exact b)]
theorem M6 {α:Type} {f:α->List Value} {k:Nat} (a:∀x,(f x).length=k) {l:List α} {i:Nat} {x y:α} (h:l[i]? = some x) {j:Nat} {vs:List Value} (q:j+vs.length<=k) (c:f y=(f x).take j++vs++(f x).drop (j+vs.length)) :
   (l.flatMap f).take (i*k+j)++vs++(l.flatMap f).drop (i*k+j+vs.length)=(l.set i y).flatMap f:=by
 have hi:=(cf.1 h).1
 have b:((l.take i).flatMap f).length=i*k:=by rw [dR a,jh,hc ae]
 have d:(l.set i y)[i]? = some y:=by simp [hi]
 rw [yp a (l.set i y) i y d,yp a l i x h,c];have e:(l.set i y).take i=l.take i:=List.take_set_of_le (dp i);have g:(l.set i y).drop (i+1)=l.drop (i+1):=List.drop_set_of_lt ae;rw [e,g]
 generalize r:(l.take i).flatMap f=A at *
 generalize s:(l.drop (i+1)).flatMap f=B at *
 have m:(A++f x++B).take (i*k+j)=A++(f x).take j:=by
   rw [et,E7,b,kF ae,x2,AZ (by rw [a]; omega)]
 have n:(A++f x++B).drop (i*k+j+vs.length)=(f x).drop (j+vs.length)++B:=by
   rw [et,A0,b,E8 ae,dv,A0,a]
   have o:i*k+j+vs.length-i*k=j+vs.length:=ae
   rw [o]
   have p:j+vs.length-k=0:=ae
   simp [p]
 rw [m,n];simp
section
variable {P:Program} {ops:Array Oper} {Q:Exit->Act->World->Prop} {n:Nat} {ds:List Deferred} {l l':List (Nat×Value)} {W:World->Prop} {w0:World} {F:List Nat} {L:List aW} {Vs:List View}
 {rest:List Oper} {d:Nat} {ty:TypeId} {pos:String} {af:Array Edge} {g:Option (Nat×Bool)}
theorem M7 {e:TypeId} {size m c b:Nat} {xs:List Value} {w:World} (h:(b6 e size (.slice (some ⟨b,0,none⟩) m c) m xs).holds w):∃a,w.heap[b]? = some (.cells a e (0,0))/\a.toList.take (m*size)=xs/\a.size=c*size/\m<=c/\xs.length=m*size:=by
 obtain ⟨g,f⟩:=(h:w.ownsRow 0 e size _ m xs)
 rcases f with ⟨f,_⟩ | ⟨o,cap,a,hv,_,i,j,p,k,l⟩
 · cases f
 · injection hv with d _ n
   injection d with d
   injection d with d
   subst d; subst n;exact ⟨a,i,l,k,j,g⟩
theorem WL.yV {b m cap:Nat} {a:Array Value} {e:TypeId} {size:Nat} (i:Nat) (c:L[i]? = some (ao b (.cells a e (0,0)))) (d:m<=cap) (f:cap<=maxLen) (g:a.size=cap*size)
   (h:WL P ops Q n ds l (Ws w0 F (L.set i (b6 e size (.slice (some ⟨b,0,none⟩) m cap) m (a.toList.take (m*size)))) Vs) rest):WL P ops Q n ds l (Ws w0 F L Vs) rest:=
 LW (λ_ j=>j.FI i c d f g) h
end
section
variable {P:Program} {l:List (Nat×Value)} {W:World->Prop} {d:Option Tmp} {ty:TypeId} {pos:String} {af:Array Edge} {g:Option (Nat×Bool)}
theorem M8 {t u:TypeId} {x:Operand} {a:Option Addr} {m c s:Nat} (b:fk P t=some s) (i:bn l x=some (.slice a m c)):Yl P l W ⟨d,.binOp .eql t x (.const (.slice none 0 0)) u,ty,pos,af,g⟩ (.bool a.isNone):=by
 intro ρ w h _;unfold fk at b
 cases f:P.underlying t with
 | none=>simp [f] at b
 | some j=>
   cases j<;>simp [f] at b
   have k:ρ (.const (.slice none 0 0)) = .slice none 0 0:=h _ _ rfl;rename_i n
   have e:(binOp .eql t (.slice a m c) (.slice none 0 0)).run P w = .ok (.bool a.isNone) w:=by
     simp only [binOp];simp [Op.equal,Op.maxDepth,Lib.run_equalIn_slice_nil w 9999 t n a m c 0 0 f]
   simp only [execOp,h x _ i,k,eqGuard,Sem.run_bind];simp [e]
end
section
variable {P:Program} {ops:Array Oper} {Q:Exit->Act->World->Prop} {n:Nat} {ds:List Deferred} {l l':List (Nat×Value)} {W:World->Prop} {w0:World} {F:List Nat} {L:List aW} {Vs:List View}
 {rest:List Oper} {d:Nat} {ty:TypeId} {pos:String} {af:Array Edge} {g:Option (Nat×Bool)}
theorem Lf {A:aW} (i:Nat) (a:L[i]? = some A) (h:WL P ops Q n ds l (Ws w0 F (A::eu i L) Vs) rest):WL P ops Q n ds l (Ws w0 F L Vs) rest:=
 LW (λ_ b=>b.perm (mx i L a)) h
theorem WC.front {c:Code} {A:aW} (i:Nat) (a:L[i]? = some A) (h:WC P c Q n ds l (Ws w0 F (A::eu i L) Vs)):WC P c Q n ds l (Ws w0 F L Vs):=
 dJ (λ_ b=>b.perm (mx i L a)) h
theorem Ws.self {w:World} {b L2:List aW} (h:Ws w0 F (b++L2) Vs w):Ws w (b.flatMap aW.ids) b Vs w:=by
 have nd:=h.nd;rw [xY,jx] at nd;exact ⟨Fr.refl _ _,λA a=>h.kn A (by simp [a]),nd.1,λA a k c=>.inl (lX.2 ⟨A,a,c⟩),h.vs,λd e A a=>h.off d e A (by simp [a])⟩
theorem Ws.back {w w':World} {a b L2:List aW} {b3:List View} (h:Ws w0 F (a++L2) Vs w) (g:Ws w (a.flatMap aW.ids) b b3 w'):Ws w0 F (b++L2) Vs w':=
 Ws.rz h g.fr g.kn g.nd g.own
theorem Lw {ι:Type} {f:FuncId} {args:Array Operand} {ts:Array TypeId} {vs:List Value} (c L2:List aW) (k:dN ops l g) (m:Nat.blt d n=true) (o:Enters P f) (p:iu l args.toList=some vs) (q:L=c++L2)
   (v:ι->Value) (j:ι->List aW) (R:ι->Prop) (b3:List View) (r:∀s ∈ b3,s ∈ Vs)
   (t:∀w,Ws w (c.flatMap aW.ids) c b3 w->Calls P f vs.toArray w λe w'=>∃i,e = .returned (v i)/\R i/\Ws w (c.flatMap aW.ids) (j i) b3 w')
   (u:∀i,R i->WL P ops Q n ds ((d,v i)::l) (Ws w0 F (j i++L2) Vs) rest) :
   WL P ops Q n ds l (Ws w0 F L Vs) (⟨some d,.call ⟨.value (.func f),args,ts⟩,ty,pos,af,g⟩::rest):=by
 subst q;refine WL.call k m o p v (λi w'=>R i/\Ws w0 F (j i++L2) Vs w') (λw b=>(t w (b.self.av r)).mono λe w' ⟨i,x,y,h⟩=>⟨i,x,y,b.back h⟩) λi=>?_;intro a w z b;exact u i b.1 a w z b.2
theorem fR {f:FuncId} {args:Array Operand} {ts:Array TypeId} {vs:List Value} (a L2 b:List aW) (c:dN ops l g) (h:Nat.blt d n=true) (i:Enters P f) (j:iu l args.toList=some vs) (k:L=a++L2)
   (b3:List View) (m:∀o ∈ b3,o ∈ Vs)
   (p:∀w,Ws w (a.flatMap aW.ids) a b3 w->Calls P f vs.toArray w λe w'=>e = .returned (.tuple #[])/\Ws w (a.flatMap aW.ids) b b3 w')
   (q:WL P ops Q n ds ((d,.tuple #[])::l) (Ws w0 F (b++L2) Vs) rest) :
   WL P ops Q n ds l (Ws w0 F L Vs) (⟨some d,.call ⟨.value (.func f),args,ts⟩,ty,pos,af,g⟩::rest):=
 Lw (ι:=Unit) a L2 c h i j k (λ_=>.tuple #[]) (λ_=>b) (λ_=>True) b3 m (λw r=>(p w r).mono λe w' ⟨s,t⟩=>⟨(),s,trivial,t⟩) (λ_ _=>q)
end
def hv (w:World):View:=λb=>w.heap[b]?
theorem jU (w:World):Le (hv w) w:=λ_ _ h=>h
theorem yq {w:World} {b k:Nat} {a:Obj} {v:Value} (h:w.heap[b]? = some a) (c:gQ a k=some v):vc (hv w) b k=some v:=by simp [vc,hv,h,c]
theorem nM {w:World} {a:View} (h:Le a w):bF a (hv w):=λb o c=>h b o c
theorem Ws.lr {c w:World} {d:List Nat} {L:List aW} {Vs:List View} (h:Ws c d L Vs w) (i:Nat) {b:Nat} {a:Obj} (e:L[i]? = some (ao b a)) {k:Nat} {v:Value} (f:gQ a k=some v):vc (hv w) b k=some v:=
 yq (h.kn _ (eL e)) f
section
variable {P:Program} {ops:Array Oper} {Q:Exit->Act->World->Prop} {n:Nat} {ds:List Deferred} {l l':List (Nat×Value)} {W:World->Prop} {w0:World} {F:List Nat} {L:List aW} {Vs:List View} {rest:List Oper}
theorem cF {b:Nat} {a:Obj} (i:Nat) (d:Obj) (e:L[i]? = some (ao b a)) (c:a=d) (h:WL P ops Q n ds l (Ws w0 F (L.set i (ao b d)) Vs) rest):WL P ops Q n ds l (Ws w0 F L Vs) rest:=by
 subst c
 have:L.set i (ao b a)=L:=by
   obtain ⟨hi,c⟩:=cf.1 e;rw [<-c];exact vQ hi
 rwa [this] at h
end
def wc (P:Program) (t:TypeId):Option Nat:=match P.underlying t with | some (.int _)=>some 0 | some .string=>some 1 | some .bool=>some 2 | _=>none
def t_ (P:Program):Nat->List Field->Option (List Nat)
 | _,[]=>some []
 | i, f :: r => bif Nat.beq f.offset i && !(f.name == "_") then (match wc P f.type, t_ P (i + 1) r with | some k, some ks => some (k :: ks) | _, _ => none) else none
def we (P:Program) (t:TypeId):Option (List Nat):=match P.underlying t with
 | some (.struct fs)=>bif P.stoodInHeld t||P.eqGuardType P.depth t then none else t_ P 0 fs.toList
 | _=>none
def bC:List Nat->List Value->List Value->Option Bool
 | [],[],[]=>some true
 | 0::ks,.int k a::xs,.int c b::ys=>match bC ks xs ys with | some r=>if k=c then some ((a==b)&&r) else none | none=>none
 | 1::ks,.string a::xs,.string b::ys=>match bC ks xs ys with | some r=>some ((a.data.toList==b.data.toList)&&r) | none=>none
 | 2::ks,.bool a::xs,.bool b::ys=>match bC ks xs ys with | some r=>some ((a==b)&&r) | none=>none
 | _,_,_=>none
section
variable {P:Program}
theorem FR {t:TypeId} {k:Nat} (h:wc P t=some k) (cs:Array Value) (off:Nat) (v:Value) (hv:cs[off]? = some v) (w:World):(part t cs off).run P w = .ok v w:=by
 have a:nJ P t=true:=by
   unfold wc at h;unfold nJ
   cases b:P.underlying t with
   | none=>simp [b] at h
   | some d=>cases d<;>simp_all
 simp [part,yg a,hv]
theorem FT (d:Nat):∀(fs:List Field) (i:Nat) (ks:List Nat) (xs ys:List Value) (pre h:List Value) (r:Bool) (w:World),t_ P i fs=some ks->bC ks xs ys=some r->pre.length=i->h.length=i->
   (Op.eqFields (d+1) (pre++xs).toArray (h++ys).toArray fs).run P w = .ok r w
 | [],i,ks,xs,ys,pre,h,r,w,a,c,_,_=>by
   simp [t_] at a;subst a
   cases xs<;>cases ys<;>simp [bC] at c
   subst c;simp [Op.eqFields]
 | f::fs,i,ks,xs,ys,pre,h,r,w,a,c,hp,o=>by
   simp only [t_] at a
   cases hb : (Nat.beq f.offset i && !(f.name == "_")) with
   | false=>rw [hb] at a; cases a
   | true=>
     rw [hb] at a;simp only [cond_true] at a;simp only [cO] at hb;have p:=kE hb.1
     have u : f.name ≠ "_" := by simpa using hb.2
     cases e:wc P f.type with
     | none=>simp [e] at a
     | some k=>
       cases m:t_ P (i+1) fs with
       | none=>simp [e,m] at a
       | some n=>
         simp [e,m] at a;subst a
         cases xs with
         | nil=>cases ys<;>simp [bC] at c
         | cons x xs=>
           cases ys with
           | nil=>rcases k with _ | _ | _ | k<;>cases x<;>simp [bC] at c
           | cons y ys=>
             have v:((pre++x::xs).toArray)[f.offset]? = some x:=by simp [p,<-hp]
             have z:((h++y::ys).toArray)[f.offset]? = some y:=by simp [p,<-o]
             have key:∀b g,(Op.equalIn (d+1) f.type x y).run P w = .ok b w->bC n xs ys=some g->r=(b&&g)->(Op.eqFields (d+1) (pre++x::xs).toArray (h++y::ys).toArray (f::fs)).run P w = .ok r w:=by
               intro b g A B q;have s:=FT d fs (i+1) n xs ys (pre++[x]) (h++[y]) g w m B (by simp [hp]) (by simp [o]);simp only [et,A1] at s;simp only [Op.eqFields,u,ne_eq,not_false_eq_true,if_true,Sem.run_bind,FR e _ _ _ v,FR e _ _ _ z,Result.andThen_ok,A];cases b
               · simp [q]
               · simp [q,s]
             unfold wc at e
             cases j:P.underlying f.type with
             | none=>simp [j] at e
             | some t=>
               cases l:bC n xs ys with
               | none=>cases t<;>simp [j] at e<;>subst e<;>cases x<;>cases y<;>simp [bC,l] at c
               | some g=>
                 cases t<;>simp [j] at e<;>subst e<;>cases x<;>cases y<;>simp [bC,l] at c
                 · exact key _ g (run_equalIn_bool' w d _ _ _ j) l c.symm
                 · obtain ⟨rfl,c⟩:=c
                   exact key _ g (run_equalIn_int w d _ _ _ _ _ j) l c.symm
                 · refine key _ g (run_equalIn_string w d _ _ _ j) l ?_
                   rw [ByteArray.toList_eq,ByteArray.toList_eq];rw [<-c]; simp
variable {l:List (Nat×Value)} {W:World->Prop} {d:Option Tmp} {ty:TypeId} {pos:String} {af:Array Edge} {g:Option (Nat×Bool)}
theorem M9 {t:TypeId} {ks:List Nat} {xs ys:List Value} {r:Bool} (a:we P t=some ks) (e:bC ks xs ys=some r) (w:World) :
   (Op.equalIn 10000 t (.agg xs.toArray) (.agg ys.toArray)).run P w = .ok r w/\P.eqGuardType P.depth t=false:=by
 unfold we at a
 cases c:P.underlying t with
 | none=>simp [c] at a
 | some f=>
   cases f<;>simp [c] at a
   rename_i fs
   cases b:(P.stoodInHeld t||P.eqGuardType P.depth t) with
   | true=>rw [b] at a; cases a
   | false=>
     rw [b] at a;simp only [hM] at b
     have d:P.fieldsOf t=fs:=by simp [Program.fieldsOf,c]
     refine ⟨?_,b.2⟩;rw [run_equalIn_struct w 9999 t _ _ (by rw [d]; exact c) b.1,d]
     simpa using FT 9998 fs.toList 0 ks xs ys [] [] r w (by simpa using a) e rfl rfl
theorem M' {t u:TypeId} {x y:Operand} {ks:List Nat} {xs ys:List Value} {r:Bool} (b:we P t=some ks) (c:bn l x=some (.agg xs.toArray)) (e:bn l y=some (.agg ys.toArray)) (f:bC ks xs ys=some r) :
   Yl P l W ⟨d,.binOp .neq t x y u,ty,pos,af,g⟩ (.bool (!r)):=by
 intro ρ w a _;obtain ⟨h,i⟩:=M9 b f w;simp only [execOp,a x _ c,a y _ e,Sem.run_bind,run_eqGuard_agg w _ _ _ _ _ _ i,Result.andThen_ok,run_neq_struct w,h,Sem.run_pure]
end
theorem Sl.flat {α:Type} {rd:View->Nat->Nat->α->Prop} {k:Nat} {a:View} {b o c:Nat} {l:List α} {f:α->List Value} (h:Sl rd k a (some ⟨b,o,none⟩) c l) (d:∀x,(f x).length=k) (r:0<k) (s:∀b o x,rd a b o x->bR a b o (f x)) :
   ∀j u,(l.flatMap f)[j]? = some u->vc a b (o+j)=some u:=by
 intro j u g;have i:=(cf.1 g).1;rw [dR d] at i;have hi:j / k<l.length:=Nat.div_lt_of_lt_mul (by rw [Nat.mul_comm]; exact i);have m:l[j / k]? = some l[j / k]:=dL hi;have t:j % k<k:=AY _ r
 have e:j / k*k+j % k=j:=by rw [Nat.mul_comm]; exact Nat.div_add_mod j k
 have n:=qv d m t;rw [e,g] at n;obtain ⟨w,y,p,v⟩:=h.bT _ _ m;simp at p;obtain ⟨rfl,rfl⟩:=p;have q:=s _ _ _ v (j % k) u n.symm;rw [tR,e] at q;exact q
def qw:List Oper->Nat->Nat->List Nat
 | [],_,_=>[]
 | o::r,i,m=>bif !m.testBit i&&o.after.toList.all (λe=>!Region.binds .any e||m.testBit e.on) then i::qw r (i+1) m else qw r (i+1) m
def yr (a:Oper) (ops:Array Oper) (i:Nat):List Oper->Nat->Nat->Bool
 | [],_,_=>true
 | o::r,j,m=>(j==i||m.testBit j||(o.after.toList.any (λe=>Region.binds .any e&&e.on==i)||a.apart ops o))&&yr a ops i r (j+1) m
def FU (os:List Oper) (i m:Nat):Bool:=match os[i]? with | none=>false | some a=>yr a os.toArray i os 0 m
def dW (os:List Oper):List (Nat×Bool)->Nat->Bool
 | [],m=>(qw os 0 m).isEmpty
 | (i,q)::r,m=>(bif q then (qw os 0 m).contains i&&FU os i m else qw os 0 m==[i])&&dW os r (m||| 2 ^ i)
structure LM (n:Nat) (listed:Array Bool) (m:Nat):Prop where
 size:listed.size=n
 bit:∀j,listed.getD j false=m.testBit j
theorem LM.t {n m:Nat} {a:Array Bool} (h:LM n a m) {j:Nat} (b:j<n):a.getD j true=m.testBit j:=by
 rw [<-h.bit j]
 have:j<a.size:=by rw [h.size]; exact b
 simp [Array.getD,this]
theorem LM.set {n m i:Nat} {a:Array Bool} (h:LM n a m) (hi:i<n):LM n (a.setIfInBounds i true) (m||| 2 ^ i):=by
 refine ⟨by simp [h.size],λj=>?_⟩;rw [Nat.testBit_or,Nat.testBit_two_pow,<-h.bit j]
 have c:i<a.size:=by rw [h.size]; exact hi
 by_cases e:i=j
 · subst e
   simp [Array.getD,c]
 · by_cases b:j<a.size
   · simp [Array.getD,b,e]
   · simp [Array.getD,b,e]
theorem FV (ops:Array Oper) {a:Array Bool} {m:Nat} (h:LM ops.size a m):∀(os:List Oper) (i:Nat),i+os.length=ops.size->(∀j o,os[j]? = some o->ops[i+j]? = some o)->
   qw os i m=((List.range os.length).map (i + ·)).filter λk=>!a.getD k true&&((ops[k]?).map (·.after.all λe=>!Region.binds .any e||a.getD e.on false)).getD false
 | [],_,_,_=>by simp [qw]
 | o::r,i,b,c=>by
   have d:=c 0 o rfl;rw [x0] at d
   have f:=FV ops h r (i+1) (by simp at b; omega) λj g l=>by rw [show i+1+j=i+(j+1) by omega]; exact c (j+1) g (by simpa using l)
   have e:(List.range (o::r).length).map (i + ·)=i::(List.range r.length).map (i+1 + ·):=by
     rw [du,List.range_succ_eq_map,jT,x3]
     congr 1
     refine x1 λk _=>?_
     show i+(k+1)=i+1+k
     omega
   have n:(!a.getD i true&&((ops[i]?).map (·.after.all λe=>!Region.binds .any e||a.getD e.on false)).getD false)=(!m.testBit i&&o.after.toList.all (λe=>!Region.binds .any e||m.testBit e.on)):=by
     rw [h.t (by simp at b; omega),d,da,mY,<-Array.all_toList]
     congr 2
     funext e
     rw [h.bit]
   rw [e,List.filter_cons,n,qw,f]
   cases (!m.testBit i&&o.after.toList.all (λe=>!Region.binds .any e||m.testBit e.on))<;>simp
theorem FW {os:List Oper} {a:Array Bool} {m:Nat} (h:LM os.toArray.size a m):qw os 0 m=Region.ready .any os.toArray a:=by
 rw [FV os.toArray h os 0 aj λj o b=>by simpa using b];unfold Region.ready
 have:(List.range os.length).map (0 + ·)=List.range os.toArray.size:=aj
 rw [this]
theorem FX (ops:Array Oper) {d:Array Bool} {m i:Nat} {f:Oper} (h:LM ops.size d m):∀(os:List Oper) (k:Nat),k+os.length=ops.size->(∀j o,os[j]? = some o->ops[k+j]? = some o)->yr f ops i os k m=true->
   ∀j,k<=j->j<ops.size->(j==i||d.getD j true||match ops[j]? with
     | some g=>g.after.any (λe=>Region.binds .any e&&e.on==i)||f.apart ops g
     | none=>true)=true
 | [],k,a,_,_,j,p,b=>by simp at a; omega
 | o::r,k,a,l,c,j,p,b=>by
   rw [yr,cO] at c
   by_cases e:k=j
   · subst e
     have n:=l 0 o rfl;rw [x0] at n;rw [h.t b,n];have:=c.1
     simpa using this
   · exact FX ops h r (k+1) (by simp at a; omega) (λj q s=>by rw [show k+1+j=k+(j+1) by omega]; exact l (j+1) q (by simpa using s)) c.2 j ae b
theorem FY {os:List Oper}:∀(ord:List (Nat×Bool)) (b:Array Bool) (m:Nat),LM os.toArray.size b m->dW os ord m=true->my .any os.toArray ord b=true
 | [],b,m,h,c=>by
   rw [dW,FW h] at c;exact c
 | (i,q)::r,b,m,h,c=>by
   rw [dW,cO,FW h] at c;obtain ⟨a,g⟩:=c
   have hi:i<os.toArray.size:=by
     have f:i ∈ Region.ready .any os.toArray b:=by
       cases q with
       | true=>simp only [cond_true,cO] at a; simpa using a.1
       | false=>simp only [cond_false,beq_iff_eq] at a; rw [a]; simp
     unfold Region.ready at f;exact x4.1 (List.mem_filter.1 f).1
   rw [my,cO];refine ⟨?_,FY r _ _ (h.set hi) g⟩
   cases q with
   | false=>exact a
   | true=>
     simp only [cond_true,cO] at a ⊢;refine ⟨a.1,?_⟩;have d:=a.2;unfold FU at d;have k:os[i]? = some os[i]:=dL (by simpa using hi);rw [k] at d;unfold Region.free;rw [show os.toArray[i]? = some os[i] by simp];simp only [fG,x4];exact λj e=>FX os.toArray h os 0 aj (λj o e=>by simpa using e) d j (cq _) e
theorem M_ (n:Nat):LM n (Array.replicate n false) 0:=⟨aj,λj=>by simp [Array.getD]⟩
theorem Bl {os:List Oper} {ord:List (Nat×Bool)} (h:(Region.noSelect os.toArray&&(ord.length==os.toArray.size&&dW os ord 0))=true):(Region.noSelect os.toArray&&(ord.length==os.toArray.size&&my .any os.toArray ord (Array.replicate os.toArray.size false)))=true:=by
 simp only [cO] at h ⊢;exact ⟨h.1,h.2.1,FY ord _ 0 (M_ _) h.2.2⟩
section
variable {P:Program} {Q:Exit->Act->World->Prop} {n:Nat} {ds:List Deferred} {l:List (Nat×Value)}
theorem WC.k3 {id:Nat} {os:List Oper} {b:World} {e:List Nat} {L:List aW} {Vs:List View} (ord:List (Nat×Bool)) (f:P.follows .mixedOrders=true) (g:(Region.noSelect os.toArray&&(ord.length==os.toArray.size&&dW os ord 0))=true)
   (i:∀c a w d v,Q (.panic c) (a.put d v) w->Q (.panic c) a w) (h:WD P os.toArray (Ws b e L Vs) Q n ds l (Ws b e L Vs) ord):WC P (.region id os.toArray true) Q n ds l (Ws b e L Vs):=
 WC.FN _ ord f (Bl g) i (λ_ h=>h.drew) h
theorem WC.lu {id:Nat} {os:List Oper} {b:World} {e:List Nat} {L:List aW} {Vs:List View} (i:Nat) (ord:List (Nat×Bool)) (f:P.follows .mixedOrders=true) (g:(Region.noSelect os.toArray&&(ord.length==os.toArray.size&&dW os ord 0))=true)
   (j:∀c a w d v,Q (.panic c) (a.put d v) w->Q (.panic c) a w) (h:WD P os.toArray (Ws b e (eu i L) Vs) Q n ds l (Ws b e L Vs) ord):WC P (.region id os.toArray true) Q n ds l (Ws b e L Vs):=
 WC.FN _ ord f (Bl g) j (λ_ h=>h.drew) h
end
section
variable {P:Program} {l:List (Nat×Value)} {W:World->Prop} {d:Option Tmp} {ty:TypeId} {pos:String} {af:Array Edge} {g:Option (Nat×Bool)}
theorem lq {t u:TypeId} {x y:Operand} {a b:Nat} {c e:Int} (f:bn l x=some (.int .i64 c)) (h:bn l y=some (.int .i64 e)) (i:c=(a:Int)) (j:e=(b:Int)) (k:(a:Int)+b<=9223372036854775807):Yl P l W ⟨d,.binOp .add t x y u,ty,pos,af,g⟩ (.int .i64 ((a+b:Nat):Int)):=by
 subst i j;have:=l0 (P:=P) (W:=W) (d:=d) (ty:=ty) (pos:=pos) (af:=af) (g:=g) (t:=t) (u:=u) f h ⟨ae,k⟩
 rwa [show ((a+b:Nat):Int)=(a:Int)+b by omega]
theorem pn {f:FuncId} {a:Array Operand} {vs:List Value} (b:iu l a.toList=some vs):Yl P l W ⟨d,.makeFunc (.func f) #[] a,ty,pos,af,g⟩ (.func (.func f) #[] vs.toArray):=by
 intro ρ w c _
 have e:a.map ρ=vs.toArray:=by
   apply qk
   simpa using v' c _ _ b
 simp [execOp,Instr.makeFunc,e]
end
section
variable {P:Program} {ops:Array Oper} {Q:Exit->Act->World->Prop} {n:Nat} {ds:List Deferred} {l:List (Nat×Value)} {w0:World} {F:List Nat} {L:List aW} {Vs:List View} {rest:List Oper}
theorem WL.shape {e:TypeId} {size m:Nat} {v:Value} {xs:List Value} (i:Nat) (f:L[i]? = some (b6 e size v m xs)) (p:0<m)
   (h:∀b c,v = .slice (some ⟨b,0,none⟩) m c->m<=c->c<=maxLen->WL P ops Q n ds l (Ws w0 F L Vs) rest):WL P ops Q n ds l (Ws w0 F L Vs) rest:=by
 intro a w g d;obtain ⟨q,j⟩:=(d.kn _ (eL f):w.ownsRow 0 e size v m xs)
 rcases j with ⟨r,s⟩ | ⟨b,cap,t,hv,_,_,k,o,_⟩
 · omega
 · exact h b cap hv k o a w g d
theorem WL.yt {e:TypeId} {size m:Nat} {v:Value} {xs:List Value} (i a:Nat) (b:List Value) (c:L[i]? = some (b6 e size v m xs)) (d:m=a) (f:xs=b)
   (h:WL P ops Q n ds l (Ws w0 F (L.set i (b6 e size v a b)) Vs) rest):WL P ops Q n ds l (Ws w0 F L Vs) rest:=by
 subst d f
 have:L.set i (b6 e size v m xs)=L:=by
   obtain ⟨hi,g⟩:=cf.1 c;rw [<-g];exact vQ hi
 rwa [this] at h
end
theorem Ws.iO {a w:World} {b:List Nat} {L L':List aW} {Vs:List View} (h:Ws a b (L++L') Vs w):Ws a b L Vs w:=Ws.drop (h.perm List.perm_append_comm)
def dh (b:UInt8):Value:=.int .u8 (b.toNat:Int)
theorem Na (l:List UInt8):Lib.strCells ⟨l.toArray⟩=l.map dh:=by simp [Lib.strCells,dh,qm]
theorem sL (l:List UInt8):(ByteArray.mk l.toArray).size=l.length:=by show l.toArray.size=_; simp
theorem Bm {w:World} {b:Nat} {c:Array Value} {T:TypeId} {a:Nat×Nat} (h:w.heap[b]? = some (.cells c T a)):w.shape? b=some (T,c.size):=by simp [World.shape?,h]
section
variable {P:Program} {l:List (Nat×Value)} {W:World->Prop} {w0:World} {F:List Nat} {L:List aW} {Vs:List View} {d:Option Tmp} {ty:TypeId} {pos:String} {af:Array Edge} {g:Option (Nat×Bool)}
theorem hF {s t:TypeId} {b k a:IntKind} {x:Operand} {n:Int} (c:P.underlying s=some (.int b)) (e:P.underlying t=some (.int a)) (f:bn l x=some (.int k n)):Yl P l W ⟨d,.convert s t x,ty,pos,af,g⟩ (.int a (a.wrap n)):=by
 intro ρ w h _;simp [execOp,h x _ f,convert,run_underlying c,run_underlying e,Conv.intToInt]
theorem Nb {s t u:TypeId} {x:Operand} {b o:Nat} {c:Array Value} {T:TypeId} {a:Nat×Nat} {j:Nat} (i:Nat) (f:P.underlying s=some (.pointer u)) (h:P.underlying t=some .unsafePointer) (k:dI P u=some (j+1)) (m:L[i]? = some (ao b (.cells c T a))) (n:Nat.blt o c.toList.length=true)
   (p:bn l x=some (.pointer (some ⟨b,o,none⟩))):Yl P l (Ws w0 F L Vs) ⟨d,.convert s t x,ty,pos,af,g⟩ (.pointer (some ⟨b,o,none⟩)):=by
 intro ρ w q r;obtain ⟨y,hi,z⟩:=dr.1 k;have v:=Bm (r.kn _ (eL m):w.heap[b]? = some (.cells c T a));have e:=Lib.run_to_unsafe (P:=P) w ⟨b,o,none⟩ f h hi ae v (by have:=Nat.blt_eq.mp n; simpa using this);simp [execOp,q x _ p,e]
theorem Nc {s t u:TypeId} {x:Operand} {b o:Nat} {c:Array Value} {T:TypeId} {a:Nat×Nat} {j n:Nat} (i:Nat) (f:P.underlying s=some .unsafePointer) (h:P.underlying t=some (.pointer u)) (k:dI P u=some j) (m:L[i]? = some (ao b (.cells c T a)))
   (p:c.toList.length=n) (q:liesAt P P.depth T (n / P.cellsOf T) o u 1=true)
   (r:bn l x=some (.pointer (some ⟨b,o,none⟩))):Yl P l (Ws w0 F L Vs) ⟨d,.convert s t x,ty,pos,af,g⟩ (.pointer (some ⟨b,o,none⟩)):=by
 intro ρ w v y;obtain ⟨B,hi,C⟩:=dr.1 k;have z:=Bm (y.kn _ (eL m):w.heap[b]? = some (.cells c T a))
 have A:c.size=n:=by simpa using p
 have e:=Lib.run_from_unsafe (P:=P) w ⟨b,o,none⟩ f h hi z (by rw [A]; exact q);simp [execOp,v x _ r,e]
theorem Nd {f:FuncId} {x:Operand} {v:Value} {ts:Array TypeId} (b:∀(u:Value) (w:World),(callFunc f #[u]).run P w = .ok (.value u) w) (c:bn l x=some v):Yl P l W ⟨d,.call ⟨.value (.func f),#[x],ts⟩,ty,pos,af,g⟩ v:=by
 intro ρ w a _;have e:ρ (.func f) = .func (.func f) #[] #[]:=a _ _ rfl;simp [execOp,resolve,Deferred.ofValue,invoke,a x _ c,e,b]
theorem Nf {f : FuncId} {fn : Func} (a : P.funcs[f]? = some fn) (b : (fn.name == "runtime.NumGoroutine") = false) (c : fn.body.isNone = true) (d : Extern.findNext fn = none) (e : Extern.find fn = some Extern.AbiNoEscape.same) :
   ∀(u:Value) (w:World),(callFunc f #[u]).run P w = .ok (.value u) w:=by
 intro u w;rw [run_callFunc_extern a b c d e,Lib.run_noEscape]; rfl
theorem Ng {t u e:TypeId} {x:Operand} {q:Option Addr} (a:P.underlying t=some (.pointer e)) (c:bn l x=some (.pointer q)):Yl P l W ⟨d,.binOp .eql t x (.const (.pointer none)) u,ty,pos,af,g⟩ (.bool q.isNone):=by
 intro ρ w b _;have f:ρ (.const (.pointer none)) = .pointer none:=b _ _ rfl
 have h:P.underlying t=some (.pointer (P.pointee t)):=by rw [a]; simp [Program.pointee,a]
 have i:=run_eql_pointer_nil (P:=P) w t q h;simp only [execOp,b x _ c,f,eqGuard,Sem.run_bind];simp [i]
theorem Nh {t e:TypeId} {a:Addr} {k:Nat} (b:P.underlying t=some (.pointer e)) (c:dI P e=some (k+1)) (w:World) (m:Nat):(Op.equalIn (m+1) t (.pointer (some a)) (.pointer (some a))).run P w = .ok true w:=by
 obtain ⟨d,hi,g⟩:=dr.1 c
 have f:d.size≠0:=ae
 simp only [Op.equalIn,Sem.run_bind,run_underlying b,Result.andThen_ok,sizeOf,typeInfo];simp [hi,f,run_sameAddr_same]
theorem Ni {t u e:TypeId} {x y:Operand} {a:Addr} {j:Nat} (c:P.underlying t=some (.pointer e)) (f:dI P e=some (j+1)) (h:bn l x=some (.pointer (some a))) (i:bn l y=some (.pointer (some a))):Yl P l W ⟨d,.binOp .neq t x y u,ty,pos,af,g⟩ (.bool false):=by
 intro ρ w b _;have k:=Nh (P:=P) (a:=a) c f w 9999
 have m:(binOp .neq t (.pointer (some a)) (.pointer (some a))).run P w = .ok (.bool false) w:=by
   simp only [binOp];have n:(Op.equal t (.pointer (some a)) (.pointer (some a))).run P w = .ok true w:=k;simp [n]
 simp only [execOp,b x _ h,b y _ i,eqGuard,Sem.run_bind];simp [m]
theorem Nj {t u:TypeId} {x y:Operand} {k b:IntKind} {n m:Int} (c:bn l x=some (.int k n)) (e:bn l y=some (.int b m)) (f:0<=m):Yl P l W ⟨d,.binOp .shr t x y u,ty,pos,af,g⟩ (.int k (n.fdiv (2 ^ (min m.toNat k.bits)))):=by
 intro ρ w a _
 have:¬m<0:=ae
 simp [execOp,a x _ c,a y _ e,eqGuard,binOp,Op.shift,this]
theorem Nk {x:Operand} {ts:Array TypeId} {a:Addr} {n c:Nat} (b:c≠0) (e:bn l x=some (.slice (some a) n c)):Yl P l W ⟨d,.call ⟨.builtin .unsafeSliceData,#[x],ts⟩,ty,pos,af,g⟩ (.pointer (some a)):=by
 intro ρ w f _;simp [execOp,resolve,invoke,builtin,f x _ e,Lib.run_unsafeSliceData_row w _ _ a n c b]
end
section
variable {P:Program} {ops:Array Oper} {Q:Exit->Act->World->Prop} {n:Nat} {ds:List Deferred} {l:List (Nat×Value)} {w0:World} {F:List Nat} {L:List aW} {Vs:List View} {rest:List Oper} {d:Nat} {ty:TypeId} {pos:String} {af:Array Edge} {g:Option (Nat×Bool)}
theorem Nl {t u e ty:TypeId} {v c:Value} {m:Nat} {s:ByteArray} {xs:List Value} {w w':World} {i:TypeInfo} (d:P.underlying t=some (.slice e)) (b:P.underlying u=some .string) (hi:P.info? e=some i) (h:i.zero=some (.int .u8 0)) (k:i.size=1) (l:i.bytes=1)
   (o:w.ownsRow 0 e 1 v m xs) (C:m+s.size<=140737488355328) (f:(Builtin.append_ #[t,u] ty #[v,.string s]).run P w = .ok c w') (p:c = .slice none 0 0↔v = .slice none 0 0/\s.size=0) :
   c.ownBlock=v.ownBlock\/c.ownBlock=some w.heap.size:=by
 obtain ⟨q,r⟩:=o
 have D:xs.length=m:=by simpa using q
 rcases r with ⟨rfl,rfl⟩ | ⟨g,cap,x,rfl,_,n,E,F,G,y⟩
 · by_cases z:s.size=0
   · exact .inl (by rw [p.2 ⟨O,z⟩])
   · have a:=run_append_nil_string (P:=P) w t u ty e i (.int .u8 0) d b hi h s ae ae (by rw [l]; omega)
     rw [f] at a
     injection a with a _
     exact .inr (by rw [a]; rfl)
 · by_cases A:m+s.size<=cap
   · have a:=Lib.run_append_room_string (P:=P) w t u ty e i d b hi k g m cap x n s A ae
     rw [f] at a
     injection a with a _
     exact .inl (by rw [a]; rfl)
   · have B:∀j v,xs[j]? = some v->w.cell? ((⟨g,0,none⟩:Addr).add j)=some v:=by
       intro j u b;rw [m_,<-y] at *;refine cell_of_heap n ?_;rw [jy] at b
       split at b
       · simpa [gQ] using b
       · cases b
     have a:=Lib.run_append_grow_string (P:=P) w t u ty e i (.int .u8 0) d b hi h ⟨g,0,none⟩ m cap xs (by rw [k]; omega) B s ae ae (by rw [l]; exact growslice_fits ae ae);rw [f] at a
     injection a with a _
     exact .inr (by rw [a]; rfl)
theorem WL.Nn {t u e:TypeId} {v:Value} {m:Nat} {s x:Operand} {a:List UInt8} {xs:List Value} (i:Nat) (I:dN ops l g) (J:Nat.blt d n=true) (o:gg P t e (.int .u8 0) 1 1) (r:P.underlying u=some .string)
   (K:bn l s=some v) (M:bn l x=some (st a)) (y:L[i]? = some (b6 e 1 v m xs)) (z:m+a.length<=140737488355328)
   (h:∀b,(b = .slice none 0 0↔v = .slice none 0 0/\a.length=0)->WL P ops Q n ds ((d,b)::l) (Ws w0 F (L.set i (b6 e 1 b (m+a.length) (xs++a.map dh))) Vs) rest) :
   WL P ops Q n ds l (Ws w0 F L Vs) (⟨some d,.call ⟨.builtin .append,#[s,x],#[t,u]⟩,ty,pos,af,g⟩::rest):=by
 refine WL.step I λN w p A V O=>?_;obtain ⟨R,hi,B,C,D⟩:=o.info;have E:w.ownsRow 0 e 1 v m xs:=A.kn _ (eL y);have f:=sL a;obtain ⟨b,w',G,H,k,q⟩:=Lib.run_append_own_string (P:=P) w 0 t u ty e R o.under r hi B C D v m xs E ⟨a.toArray⟩ (by rw [f]; unfold maxLen; omega) (by rw [f]; exact z) (cq _);have S:=Nl o.under r hi B C D E (by rw [f]; exact z) G q;rw [f,Na] at H;rw [f] at q
 have T:(execOp N.eval ⟨some d,.call ⟨.builtin .append,#[s,x],#[t,u]⟩,ty,pos,af,g⟩).run P w = .ok (.value b) w':=by
   simp only [execOp,resolve,vN,jT,vO,p.eval K,p.eval M,Sem.run_bind,Sem.run_pure,Result.andThen_ok,invoke,builtin,st,G]
 simp only [Oper.wp,T,Oper.upon_value];refine O _ _ (h b q _ _ (p.put J _) ?_);refine Ws.dM A i y ⟨k.os,k.tape,k.output,k.size,λj c U=>k.block j c λe=>U ?_⟩ H ?_ λj c=>?_
 · simp [b6,<-e]
 · cases hv:b.ownBlock<;>simp [b6,hv]
 · simp only [b6,E5] at c ⊢
   rcases S with e | e
   · exact .inl (by rw [<-e]; exact c)
   · rw [e] at c; injection c with c; exact .inr ae
theorem WL.No {f it e:TypeId} {x y:Operand} {b c m:Nat} {a:List UInt8} (i:Nat) (s:dN ops l g) (t:Nat.blt d n=true) (v:P.underlying f=some (.pointer e)) (z:P.cellsOf e=1)
   (A:bn l x=some (.pointer (some ⟨b,0,none⟩))) (B:bn l y=some (.int .i64 (m:Int))) (C:a.length=m) (p:L[i]? = some (b6 e 1 (.slice (some ⟨b,0,none⟩) m c) m (a.map dh))) (D:a≠[]) (E:m<=9223372036854775807)
   (h:WL P ops Q n ds ((d,st a)::l) (Ws w0 F (eu i L) Vs) rest) :
   WL P ops Q n ds l (Ws w0 F L Vs) (⟨some d,.call ⟨.builtin .unsafeString,#[x,y],#[f,it]⟩,ty,pos,af,g⟩::rest):=by
 refine WL.step s λG w o q U H=>?_;subst C;obtain ⟨I,r,J,V,W,X⟩:=M7 (q.kn _ (eL p));have K:=Bm r
 have M:=Lib.run_unsafeString_row (P:=P) w f it ty e v z b I.size K a D ae E (λj u N=>by
   rw [m_];refine cell_of_heap r ?_
   have k:(a.map dh)[j]? = some (dh u):=by simp [N]
   rw [<-J,jy] at k
   split at k
   · simpa [gQ,dh] using k
   · cases k)
 have O:(execOp G.eval ⟨some d,.call ⟨.builtin .unsafeString,#[x,y],#[f,it]⟩,ty,pos,af,g⟩).run P w = .ok (.value (st a)) (w.freeze ⟨b,0,none⟩ a.length):=by
   simp only [execOp,resolve,vN,jT,vO,o.eval A,o.eval B,Sem.run_bind,Sem.run_pure,Result.andThen_ok,invoke,builtin,st,M]
 simp only [Oper.wp,O,Oper.upon_value];refine H _ _ (h _ _ (o.put t _) ?_);have R:=q.perm (mx i L p)
 have:=Ws.rz (L:=[b6 e 1 (.slice (some ⟨b,0,none⟩) a.length c) a.length (a.map dh)]) (L':=[]) (L2:=eu i L) R (w':=w.freeze ⟨b,0,none⟩ a.length) ⟨by unfold World.freeze; split<;>rfl,by unfold World.freeze; split<;>rfl,by unfold World.freeze; split<;>rfl,by unfold World.freeze; split<;>simp,λj Y S=>by
   have T:j≠b:=λe=>S (by simp [b6,Value.ownBlock,e]);unfold World.freeze
   split
   · rfl
   · simp [E4,vP T]⟩ aj aj aj
 simpa using this
end
theorem FZ {a w:World} {d:List Nat} {L:List aW} {Vs:List View} (h:Ws a d L Vs w) (i:Nat) {b:Nat} {c:Array Value} {T:TypeId} {e:Nat×Nat} (f:L[i]? = some (ao b (.cells c T e))) {k:Nat} {u:Value} (g:c.toList[k]? = some u):w.cell? ((⟨b,0,none⟩:Addr).add k)=some u:=by
 rw [m_];exact cell_of_heap (h.kn _ (eL f)) (by simpa [gQ] using g)
section
variable {P:Program} {ops:Array Oper} {Q:Exit->Act->World->Prop} {n:Nat} {ds:List Deferred} {l:List (Nat×Value)} {w0:World} {F:List Nat} {L:List aW} {Vs:List View} {rest:List Oper}
theorem WL.F0 {e:TypeId} {size m:Nat} {v:Value} {xs:List Value} (i:Nat) (g:L[i]? = some (b6 e size v m xs))
   (h:∀a k c,v = .slice a k c->WL P ops Q n ds l (Ws w0 F L Vs) rest):WL P ops Q n ds l (Ws w0 F L Vs) rest:=by
 intro a w f d;obtain ⟨p,j⟩:=(d.kn _ (eL g):w.ownsRow 0 e size v m xs)
 rcases j with ⟨o,_⟩ | ⟨b,cap,q,hv,_⟩
 · exact h _ _ _ o a w f d
 · exact h _ _ _ hv a w f d
end
def bv (b:Nat) (a:Obj):View:=λk=>if k=b then some a else none
theorem Np {b k:Nat} {a:Obj} {v:Value} (h:gQ a k=some v):vc (bv b a) b k=some v:=by simp [vc,bv,h]
theorem Ws.lv {g w:World} {j:List Nat} {L:List aW} {Vs:List View} (h:Ws g j L Vs w) (i:Nat) {b:Nat} {f:Obj} (m:L[i]? = some (ao b f)):Ws g j (eu i L) (bv b f::Vs) w:=by
 have n:=h.perm (mx i L m);have d:Ws g j (eu i L) Vs w:=Ws.drop (L:=[ao b f]) n;have q:w.heap[b]? = some f:=h.kn _ (eL m);have nd:=n.nd;rw [gd,jx] at nd;refine ⟨d.fr,d.kn,d.nd,d.own,?_,?_⟩
 · intro l c
   rcases dU.1 c with rfl | c
   · intro k o a
     unfold bv at a
     split at a
     · rename_i e; subst e; injection a with a; subst a; exact q
     · cases a
   · exact d.vs l c
 · intro l c A p k a
   rcases dU.1 c with rfl | c
   · unfold bv
     rw [if_neg];intro e;subst e;exact nd.2.2 k (by simp [ao]) k (lX.2 ⟨A,p,a⟩) O
   · exact d.off l c A p k a
section
variable {P:Program} {ops:Array Oper} {Q:Exit->Act->World->Prop} {n:Nat} {ds:List Deferred} {l:List (Nat×Value)} {w0:World} {F:List Nat} {L:List aW} {Vs:List View} {rest:List Oper}
theorem WL.lv {b:Nat} {a:Obj} (i:Nat) (c:L[i]? = some (ao b a)) (h:WL P ops Q n ds l (Ws w0 F (eu i L) (bv b a::Vs)) rest):WL P ops Q n ds l (Ws w0 F L Vs) rest:=
 LW (λ_ d=>d.lv i c) h
theorem WC.shape {c:Code} {e:TypeId} {size m:Nat} {v:Value} {xs:List Value} (i:Nat) (f:L[i]? = some (b6 e size v m xs)) (q:0<m)
   (h:∀b k,v = .slice (some ⟨b,0,none⟩) m k->m<=k->k<=maxLen->WC P c Q n ds l (Ws w0 F L Vs)):WC P c Q n ds l (Ws w0 F L Vs):=by
 intro a w g d;obtain ⟨r,j⟩:=(d.kn _ (eL f):w.ownsRow 0 e size v m xs)
 rcases j with ⟨s,t⟩ | ⟨b,cap,u,hv,_,_,o,p,_⟩
 · omega
 · exact h b cap hv o p a w g d
end
section
variable {P:Program} {l:List (Nat×Value)} {W:World->Prop} {d:Option Tmp} {ty:TypeId} {pos:String} {af:Array Edge} {g:Option (Nat×Bool)}
theorem yu {t u:TypeId} {x y:Operand} {a b:Int} (v:Int) (c:bn l x=some (.int .i64 a)) (e:bn l y=some (.int .i64 b)) (f:a+b=v) (h : -9223372036854775808<=v/\v<=9223372036854775807):Yl P l W ⟨d,.binOp .add t x y u,ty,pos,af,g⟩ (.int .i64 v):=by
 subst f; exact l0 c e h
theorem po {t u:TypeId} {x y:Operand} {a b:Int} (v:Int) (c:bn l x=some (.int .i64 a)) (e:bn l y=some (.int .i64 b)) (f:a-b=v) (h : -9223372036854775808<=v/\v<=9223372036854775807):Yl P l W ⟨d,.binOp .sub t x y u,ty,pos,af,g⟩ (.int .i64 v):=by
 subst f; exact MO c e h
end
def yv (size:Nat):Nat->List (Nat×Value)->Bool
 | _,[]=>true
 | k,(i,v)::r=>Nat.beq i k&&Nat.beq (e_ v).length size&&yv size (k+1) r
def hP:List (Nat×Value)->List Value
 | []=>[]
 | (_,v)::r=>e_ v++hP r
theorem F1 (size:Nat):∀(vs:List (Nat×Value)) (k:Nat) (done rest:List Value),yv size k vs=true->done.length=k*size->rest.length=vs.length*size->
   pg (λi=>some (i*size,size)) (done++rest) vs=some (done++hP vs)
 | [],k,done,rest,_,_,a=>by
   have:rest=[]:=ou (by simpa using a);simp [pg,hP,this]
 | (i,v)::r,k,done,rest,e,c,a=>by
   simp only [yv,cO] at e;obtain ⟨⟨d,b⟩,f⟩:=e;have d:=kE d;subst d;have b:=kE b
   have l:size<=rest.length:=by rw [a,du,sC]; omega
   have g:(Nat.beq (e_ v).length size&&Nat.ble (i*size+size) (done++rest).length)=true:=by
     rw [b,AW,dw];exact E9 (by simp; omega)
   simp only [pg,g,cond_true]
   have h:(done++rest).take (i*size)=done:=by rw [<-c]; simp
   have j:(done++rest).drop (i*size+size)=rest.drop size:=by
     rw [A0,c,E8 ae];simp
   rw [h,j];have:=F1 size r (i+1) (done++e_ v) (rest.drop size) f (by simp [c,b,sC]) (by simp [a,sC]);rw [this];simp [hP]
theorem Nq (a:Value) (k:Nat):(rC a k).length=k:=by simp [rC]
section
variable {P:Program} {ops:Array Oper} {Q:Exit->Act->World->Prop} {n:Nat} {ds:List Deferred} {l:List (Nat×Value)} {w0:World} {F:List Nat} {L:List aW} {Vs:List View} {rest:List Oper} {d:Nat} {ty:TypeId} {pos:String} {af:Array Edge} {g:Option (Nat×Bool)}
theorem Lb {t e:TypeId} {len size c:Nat} {parts:List (Nat×Operand)} {a:Value} {vs:List (Nat×Value)} (f:dN ops l g) (i:Nat.blt d n=true) (j:gg P t e a size c)
   (hv:qs l parts=some vs) (k:Nat.ble (len*size) 16777216=true) (m:yv size 0 vs=true) (o:vs.length=len)
   (h:∀b,WL P ops Q n ds ((d,.slice (some ⟨b,0,none⟩) len len)::l) (Ws w0 F (ao b (.cells (hP vs).toArray e (0,0))::L) Vs) rest) :
   WL P ops Q n ds l (Ws w0 F L Vs) (⟨some d,.buildSlice t len parts.toArray,ty,pos,af,g⟩::rest):=by
 refine WL.FO f i j hv k (out:=hP vs) ?_ h
 have p:(bif Nat.beq (len*size) 0 then [] else rC a (len*size))=rC a (len*size):=by
   cases q:Nat.beq (len*size) 0 with
   | false=>rfl
   | true=>have:=kE q; rw [this]; rfl
 rw [p];have:=F1 size vs 0 [] (rC a (len*size)) m aj (by rw [Nq,o])
 simpa using this
end
inductive Ord where
 | nil
 | stop
 | q (i:Nat) (r:Ord)
 | e (i:Nat) (r alt:Ord)
def Ord.alts:Ord->List Nat
 | .e i _ a=>i::a.alts
 | _=>[]
def jV (md:Region.Mode) (ops:Array Oper):Bool->Ord->Nat->Array Bool->Bool
 | top,.nil,k,listed=>top&&(Nat.beq k 0&&(Region.ready md ops listed).isEmpty)
 | top,.stop,_,_=>!top
 | top,.q i r,k,listed=>match k with
   | 0=>false
   | k+1=>top&&((Region.ready md ops listed).contains i&&Region.free md ops listed i&&jV md ops true r k (listed.setIfInBounds i true))
 | top,.e i r alt,k,listed=>match k with
   | 0=>false
   | k+1=>(bif top then Region.ready md ops listed==i::alt.alts else true)&&(jV md ops true r k (listed.setIfInBounds i true)&&jV md ops false alt (k+1) listed)
section
variable {P:Program} {md:Region.Mode} {ops:Array Oper} {C:World->Prop} {Q:Exit->Act->World->Prop}
def pq (P:Program) (ops:Array Oper) (C:World->Prop) (Q:Exit->Act->World->Prop):Ord->Act->World->Prop
 | .nil,a,w=>C w/\Q .normal a w
 | .stop,_,_=>True
 | .q i r,a,w=>C w/\∃o v,ops[i]? = some o/\YV P ops C o v a/\pq P ops C Q r (a.put o.dst v) w
 | .e i r alt,a,w=>C w/\(wpOp P ops Q i (pq P ops C Q r) a w/\pq P ops C Q alt a w)
theorem yw (l:Region.noSelect ops=true) (m:∀c a w d v,Q (.panic c) (a.put d v) w->Q (.panic c) a w):∀(o:Ord) (k:Nat) (f:Array Bool) (a:Act) (w:World),
   (jV md ops true o k f=true->pq P ops C Q o a w->ow P md ops C Q k f a w)/\
   (jV md ops false o k f=true->pq P ops C Q o a w->∀j ∈ o.alts,∃n,k=n+1/\wpOp P ops Q j (ow P md ops C Q n (f.setIfInBounds j true)) a w)
 | .nil,k,f,a,w=>by
   refine ⟨λb h=>?_,λb=>by simp [jV] at b⟩;simp only [jV,dw,cO] at b;obtain rfl:=kE b.1;exact ⟨h.1,by simpa using b.2,h.2⟩
 | .stop,k,f,a,w=>⟨λb=>by simp [jV] at b,λ_ _ j g=>by simp [Ord.alts] at g⟩
 | .q i r,k,f,a,w=>by
   cases k with
   | zero=>exact ⟨λb=>by simp [jV] at b,λb=>by simp [jV] at b⟩
   | succ k=>
     refine ⟨λb h=>?_,λb=>by simp [jV] at b⟩;simp only [jV,dw,cO] at b;obtain ⟨u,o,v,s,x,h⟩:=h
     exact Bi s (Region.noSelect_spec l) (λc a w=>m c a w o.dst v) k f a w (Region.free_spec s b.1.2) (by simpa using b.1.1) x u
       ((yw l m r k _ _ _).1 b.2 h)
 | .e i r alt,k,f,a,w=>by
   cases k with
   | zero=>exact ⟨λb=>by simp [jV] at b,λb=>by simp [jV] at b⟩
   | succ k=>
     have t:jV md ops true r k (f.setIfInBounds i true)=true->jV md ops false alt (k+1) f=true->pq P ops C Q (.e i r alt) a w->
         ∀j ∈ i::alt.alts,wpOp P ops Q j (ow P md ops C Q k (f.setIfInBounds j true)) a w:=by
       intro y z h j g
       rcases dU.1 g with rfl | g
       · exact wpOp_mono (λA w' B=>(yw l m r k _ A w').1 y B) h.2.1
       · obtain ⟨n,p,D⟩:=(yw l m alt (k+1) f a w).2 z h.2.2 j g
         injection p with p
         subst p;exact D
     refine ⟨λb h=>?_,λb h j g=>?_⟩
     · simp only [jV,cond_true,cO,beq_iff_eq] at b
       refine ⟨h.1,λE=>(by rw [E] at b; cases b.1),λj g=>?_⟩;rw [b.1] at g;exact t b.2.1 b.2.2 h j g
     · simp only [jV,cond_false,dw,cO] at b
       exact ⟨k,O,t b.1 b.2 h j g⟩
theorem Nr {id:Nat} {a:Act} {w:World} {l:List Oper} (ord:Ord) (e:P.follows .mixedOrders=true) (b:(Region.noSelect l.toArray&&jV .any l.toArray true ord l.toArray.size (Array.replicate l.toArray.size false))=true)
   (f:∀c a w d v,Q (.panic c) (a.put d v) w->Q (.panic c) a w) (h:pq P l.toArray C Q ord a w.drew):(Code.region id l.toArray true).wp P Q a w:=by
 simp only [cO] at b;have:=yo (md:=.any) _ _ _ _ ((yw b.1 f ord _ _ a w.drew).1 b.2 h);exact wp_region_any e this
variable {n:Nat} {ds:List Deferred} {l:List (Nat×Value)} {W:World->Prop}
def WT (P:Program) (ops:Array Oper) (C:World->Prop) (Q:Exit->Act->World->Prop) (n:Nat) (ds:List Deferred) (l:List (Nat×Value)) (W:World->Prop) (ord:Ord):Prop:=
 ∀a w,Ag n ds l a->W w->pq P ops C Q ord a w
theorem WT.q {r:Ord} {i d:Nat} {op:Op} {ty:TypeId} {pos:String} {af:Array Edge} {g:Option (Nat×Bool)} {v:Value} (hi:ops[i]? = some ⟨some d,op,ty,pos,af,g⟩) (e:dN ops l g) (f:Nat.blt d n=true)
   (j:∀w,W w->C w) (k:Yl P l C ⟨some d,op,ty,pos,af,g⟩ v) (h:WT P ops C Q n ds ((d,v)::l) W r):WT P ops C Q n ds l W (.q i r):=by
 intro a w b c;refine ⟨j w c,_,v,hi,.inl ⟨dN.wanted (o:=⟨some d,op,ty,pos,af,g⟩) e b,λw' m=>k a.eval w' (λx u p=>b.eval p) m⟩,h _ _ (b.put f v) c⟩
theorem WT.e {r g:Ord} {i:Nat} {o:Oper} (hi:ops[i]? = some o) (k:∀w,W w->C w) (h:WL P ops (Exit.then (pq P ops C Q r) Q) n ds l W [o]) (c:WT P ops C Q n ds l W g):WT P ops C Q n ds l W (.e i r g):=by
 intro a w j d;refine ⟨k w d,?_,c a w j d⟩;have:=h a w j d;unfold wpList at this;unfold wpOp;simp only [hi]
 split
 · rename_i f
   rw [if_pos f] at this
   rcases this with this | ⟨m,a2,p,c⟩
   · left
     unfold Oper.wp at this ⊢;unfold Oper.upon at this ⊢
     split at this
     all_goals first
       | exact this
       | (refine this.mono λe w' b=>?_
          cases e with
          | returned v=>exact b
          | panicked t=>exact b
          | outgrown=>obtain ⟨a3,q,s⟩:=b; exact ⟨a3,q,s⟩)
       | exact this.mono λv w' b=>b
   · exact .inr ⟨m,a2,p,c⟩
 · rename_i f
   rw [if_neg f] at this;exact this
theorem WT.stop:WT P ops C Q n ds l W .stop:=λ_ _ _ _=>trivial
theorem jB {r:Ord} (h:WT P ops C Q n ds l W r):WE (Exit.then (pq P ops C Q r) Q) .normal n ds l W:=h
theorem WT.nil (c:∀w,W w->C w) (h:WE Q .normal n ds l W):WT P ops C Q n ds l W .nil:=λa w d b=>⟨c w b,h a w d b⟩
theorem WC.L_ {id:Nat} {os:List Oper} {b:World} {e:List Nat} {L:List aW} {Vs:List View} (ord:Ord) (f:P.follows .mixedOrders=true) (g:(Region.noSelect os.toArray&&jV .any os.toArray true ord os.toArray.size (Array.replicate os.toArray.size false))=true)
   (i:∀c a w d v,Q (.panic c) (a.put d v) w->Q (.panic c) a w) (h:WT P os.toArray (Ws b e L Vs) Q n ds l (Ws b e L Vs) ord):WC P (.region id os.toArray true) Q n ds l (Ws b e L Vs):=
 λa w j k=>Nr ord f g i (h a w.drew j k.drew)
end
abbrev mA:=List UInt8×Value×Nat
def l1 (e:mA):MapEntry:={ key:=st e.1,val:=e.2.1,born:=e.2.2 }
def nN (m:List mA) (c:Nat):Obj:=.map (m.map l1).toArray c
def ct (k:List UInt8):List mA->Nat->Option (Nat×Value)
 | [],_=>none
 | e::r,i=>if (k==e.1)=true then some (i,e.2.1) else ct k r (i+1)
def uc (k:List UInt8) (v:Value) (m:List mA) (c:Nat):List mA:=match ct k m 0 with
 | some (i,_)=>m.modify i λe=>(k,v,e.2.2)
 | none=>m++[(k,v,c)]
def ud (k:List UInt8) (m:List mA) (c:Nat):Nat:=match ct k m 0 with | some _=>c | none=>c+1
def wh (k:List UInt8) (m:List mA) (a:Value):Value:=match ct k m 0 with | some (_,v)=>v | none=>a
theorem Bn (a b:List UInt8):(ByteArray.mk a.toArray==ByteArray.mk b.toArray)=(a==b):=by
 show (a.toArray==b.toArray)=_
 simp
theorem Nt (m:List mA) (j:Nat) (k:List UInt8) (v:Value):(m.map l1).modify j (λe=>{ e with key:=st k,val:=v })=(m.modify j λe=>(k,v,e.2.2)).map l1:=by
 apply rp;intro i;simp only [rq,eZ]
 cases m[i]? with
 | none=>simp
 | some e=>by_cases h:j=i<;>simp [h,l1]
theorem Bo (k:List UInt8):∀(m:List mA) (i:Nat),Instr.findNow .string (st k) (m.map l1) i=some (ct k m i)
 | [],_=>rfl
 | e::r,i=>by
   simp only [jT,Instr.findNow,l1,st,Instr.sameNow,Bn,ct];cases h:(k==e.1)
   · simp only [pc,if_false]
     exact Bo k r (i+1)
   · simp
section
variable {P:Program} {ops:Array Oper} {Q:Exit->Act->World->Prop} {n:Nat} {ds:List Deferred} {l:List (Nat×Value)} {w0:World} {F:List Nat} {L:List aW} {Vs:List View} {rest:List Oper} {d:Nat} {ty:TypeId} {pos:String} {af:Array Edge} {g:Option (Nat×Bool)}
theorem WL.Nu {t:TypeId} (a:dN ops l g) (c:Nat.blt d n=true)
   (h:∀b,WL P ops Q n ds ((d,.map (some b))::l) (Ws w0 F (ao b (nN [] 0)::L) Vs) rest) :
   WL P ops Q n ds l (Ws w0 F L Vs) (⟨some d,.makeMap t none,ty,pos,af,g⟩::rest):=
 WL.new (mk:=λb=>.map (some b)) (o:=nN [] 0) a c (λρ w _ _=>by
   simp only [execOp]
   simp [Instr.makeMap,nN]) h
theorem Nv {j:Option Tmp} {t a e:TypeId} {x y:Operand} {b c:Nat} {m:List mA} {k:List UInt8} {d:Value} (i:Nat) (n:P.underlying t=some (.map a e)) (f:P.underlying a=some .string) (o:zeroOf P e=some d) (p:bn l x=some (.map (some b))) (q:bn l y=some (st k)) (s:L[i]? = some (ao b (nN m c))) :
   Yl P l (Ws w0 F L Vs) ⟨j,.lookup t x y false,ty,pos,af,g⟩ (wh k m d):=by
 intro ρ w h u;have z:w.heap[b]? = some (.map (m.map l1).toArray c):=u.kn _ (eL s);have A:=Bo k m 0;have B:(Instr.checkKey (m.map l1).toArray.isEmpty 10000 a (st k)).run P w = .ok () w:=MapKept.run_checkKey (k:=st k) f (by simp [MapKept.IsKey,st]) _ 9999
 have C:(Instr.lookup t (.map (some b)) (st k) false).run P w = .ok (wh k m d) w:=by
   simp only [Instr.lookup,Sem.run_bind,run_underlying n,Result.andThen_ok,MapKept.run_getObj_map z,Sem.run_pure,B];rw [MapKept.run_findKey f (by simpa using A)];unfold wh
   cases D:ct k m 0 with
   | none=>simp [Result.andThen_ok,sJ o]
   | some r=>obtain ⟨i,v⟩:=r; simp [Result.andThen_ok]
 simp [execOp,h x _ p,h y _ q,C]
theorem Bp {a:Option Tmp} {t d e:TypeId} {x:Operand} {b c:Nat} {m:List mA} (i:Nat) (f:P.underlying t=some (.map d e)) (h:bn l x=some (.map (some b))) (j:L[i]? = some (ao b (nN m c))) :
   Yl P l (Ws w0 F L Vs) ⟨a,.call ⟨.builtin .len,#[x],#[t]⟩,ty,pos,af,g⟩ (.int .i64 (m.length:Int)):=by
 intro ρ w k n;have o:w.heap[b]? = some (.map (m.map l1).toArray c):=n.kn _ (eL j);simp [execOp,resolve,invoke,builtin,k x _ h,Builtin.len_,run_underlying f,MapKept.run_getObj_map o,goInt]
theorem WL.Nw {t q e:TypeId} {x y u:Operand} {b c:Nat} {m:List mA} {k:List UInt8} {v:Value} (i:Nat) (E:dN ops l g) (G:P.underlying t=some (.map q e)) (f:P.underlying q=some .string) (H:bn l x=some (.map (some b))) (I:bn l y=some (st k)) (J:bn l u=some v) (A:L[i]? = some (ao b (nN m c)))
   (h:WL P ops Q n ds l (Ws w0 F (L.set i (ao b (nN (uc k v m c) (ud k m c)))) Vs) rest) :
   WL P ops Q n ds l (Ws w0 F L Vs) (⟨none,.mapUpdate t x y u,ty,pos,af,g⟩::rest):=by
 refine WL.step E λa w o B aa K=>?_;have p:w.heap[b]? = some (.map (m.map l1).toArray c):=B.kn _ (eL A);have M:=Bo k m 0;have N:(Instr.checkKey false 10000 q (st k)).run P w = .ok () w:=MapKept.run_checkKey (k:=st k) f (by simp [MapKept.IsKey,st]) _ 9999
 have R:(Instr.mapUpdate t (.map (some b)) (st k) v).run P w = .ok () { w with heap:=w.heap.setIfInBounds b (nN (uc k v m c) (ud k m c)) }:=by
   simp only [Instr.mapUpdate,Sem.run_bind,run_underlying G,Result.andThen_ok,MapKept.run_getObj_map p,Sem.run_pure,N];rw [MapKept.run_findKey f (by simpa using M)];unfold uc ud
   cases S:ct k m 0 with
   | none=>simp [Result.andThen_ok,MapKept.run_setObj_map _ p,nN,l1,st]
   | some r=>
     obtain ⟨j,T⟩:=r
     have s:m[j]?.map (·.1)=some k:=by
       have key:∀(m:List mA) (d:Nat),ct k m d=some (j,T)->d<=j/\(m[j-d]?).map (·.1)=some k:=by
         intro m
         induction m with
         | nil=>intro d h; simp [ct] at h
         | cons e r U=>
           intro d h;simp only [ct] at h
           split at h
           · rename_i f
             injection h with h; injection h with C D
             subst C;simp at f;simp [f]
           · obtain ⟨C,D⟩:=U (d+1) h
             refine ⟨ae,?_⟩
             have:j-d=(j-(d+1))+1:=ae
             rw [this]; simpa using D
       simpa using (key m 0 S).2
     have V:((((m.map l1).toArray)[j]?).map (·.key)).getD (st k)=st k:=by
       cases z:m[j]? with
       | none=>simp [z]
       | some e=>rw [z] at s; simp at s; simp [z,l1,s]
     simp only [V,Result.andThen_ok]
     have W:(Instr.keyThatStays (st k) (st k)).run P w = .ok (st k) w:=by
       simp [Instr.keyThatStays,Instr.sameBits,st,Bn]
     simp only [Sem.run_bind,W,Result.andThen_ok,MapKept.run_setObj_map _ p,nN]
     have X:(m.map l1).toArray.modify j (λe=>{ e with key:=st k,val:=v })=((m.modify j λe=>(k,v,e.2.2)).map l1).toArray:=by
       apply qk;rw [E'];exact Nt m j k v
     rw [X]
 have Y:(execOp a.eval ⟨none,.mapUpdate t x y u,ty,pos,af,g⟩).run P w = .ok .skip { w with heap:=w.heap.setIfInBounds b (nN (uc k v m c) (ud k m c)) }:=by
   simp only [execOp,o.eval H,o.eval I,o.eval J,Sem.run_bind,R,Result.andThen_ok,Sem.run_pure]
 simp only [Oper.wp,Y,Oper.upon_skip];refine K _ _ (h _ _ (o.vW undef) ?_);refine Ws.dM B i A ⟨O,O,O,aj,λj ab Z=>?_⟩ ?_ (by simp [ao]) (by simp [ao])
 · have:b≠j:=λe=>Z (by simp [ao,e])
   simp [rm this]
 · show (w.heap.setIfInBounds b _)[b]? = _
   simp [lt_of_heap p]
theorem WL.Bq {e:TypeId} {size m:Nat} {v:Value} {xs:List Value} (i:Nat) (f:L[i]? = some (b6 e size v m xs))
   (h:∀a k,v = .slice a m k->WL P ops Q n ds l (Ws w0 F L Vs) rest):WL P ops Q n ds l (Ws w0 F L Vs) rest:=by
 intro a w d c;obtain ⟨p,g⟩:=(c.kn _ (eL f):w.ownsRow 0 e size v m xs)
 rcases g with ⟨j,o⟩ | ⟨b,cap,q,hv,_⟩
 · exact h none 0 (by rw [j,o]) a w d c
 · exact h _ _ hv a w d c
end
section
variable {P:Program} {ops:Array Oper} {Q:Exit->Act->World->Prop} {n:Nat} {ds:List Deferred} {l:List (Nat×Value)} {W:World->Prop} {w0:World} {F:List Nat} {L:List aW} {Vs:List View}
 {rest:List Oper} {d:Nat} {ty:TypeId} {pos:String} {af:Array Edge} {g:Option (Nat×Bool)}
theorem dk {ι κ:Type} {f:FuncId} {args:Array Operand} {ts:Array TypeId} {vs:List Value} (k L2:List aW) (t:dN ops l g) (u:Nat.blt d n=true) (x:Enters P f) (y:iu l args.toList=some vs) (z:L=k++L2)
   (v:ι->Value) (o:ι->List aW) (R:ι->Prop) (p:κ->List PanicEntry) (Lp:κ->List aW) (q:κ->Prop) (b3:List View) (A:∀B ∈ b3,B ∈ Vs)
   (C:∀w,Ws w (k.flatMap aW.ids) k b3 w->Calls P f vs.toArray w λe w'=>(∃i,e = .returned (v i)/\R i/\Ws w (k.flatMap aW.ids) (o i) b3 w')\/(∃j,e = .panicked (p j)/\q j/\Ws w (k.flatMap aW.ids) (Lp j) b3 w'))
   (D:∀j,q j->WE Q (.panic (p j)) n ds l (Ws w0 F (Lp j++L2) Vs))
   (E:∀i,R i->WL P ops Q n ds ((d,v i)::l) (Ws w0 F (o i++L2) Vs) rest) :
   WL P ops Q n ds l (Ws w0 F L Vs) (⟨some d,.call ⟨.value (.func f),args,ts⟩,ty,pos,af,g⟩::rest):=by
 subst z;refine WL.v_ t u x y v (λi w'=>R i/\Ws w0 F (o i++L2) Vs w') (λc w'=>∃j,c=p j/\q j/\Ws w0 F (Lp j++L2) Vs w') (λw b=>(C w (b.self.av A)).mono λe w' h=>?_) (λi=>?_) (λc=>?_)
 · rcases h with ⟨i,r,m,h⟩ | ⟨j,r,m,h⟩
   · exact .inl ⟨i,r,m,b.back h⟩
   · exact .inr ⟨_,r,j,O,m,b.back h⟩
 · intro a w s b
   exact E i b.1 a w s b.2
 · rintro a w s ⟨j,rfl,m,b⟩
   exact D j m a w s b
theorem WL.Br {ι κ:Type} {f:FuncId} {t:Operand} {u:Array Value} {args:Array Operand} {ts:Array TypeId} {vs:List Value} (k L2:List aW) (x:dN ops l g) (y:Nat.blt d n=true) (z:Enters P f) (A:bn l t=some (.func (.func f) #[] u)) (B:iu l args.toList=some vs) (C:L=k++L2)
   (v:ι->Value) (o:ι->List aW) (R:ι->Prop) (p:κ->List PanicEntry) (Lp:κ->List aW) (q:κ->Prop) (b3:List View) (D:∀E ∈ b3,E ∈ Vs)
   (G:∀w,Ws w (k.flatMap aW.ids) k b3 w->Calls P f (vs.toArray++u) w λe w'=>(∃i,e = .returned (v i)/\R i/\Ws w (k.flatMap aW.ids) (o i) b3 w')\/(∃j,e = .panicked (p j)/\q j/\Ws w (k.flatMap aW.ids) (Lp j) b3 w'))
   (H:∀j,q j->WE Q (.panic (p j)) n ds l (Ws w0 F (Lp j++L2) Vs))
   (I:∀i,R i->WL P ops Q n ds ((d,v i)::l) (Ws w0 F (o i++L2) Vs) rest) :
   WL P ops Q n ds l (Ws w0 F L Vs) (⟨some d,.call ⟨.value t,args,ts⟩,ty,pos,af,g⟩::rest):=by
 subst C;refine WL.M4 x y z A B v (λi w'=>R i/\Ws w0 F (o i++L2) Vs w') (λc w'=>∃j,c=p j/\q j/\Ws w0 F (Lp j++L2) Vs w') (λw b=>(G w (b.self.av D)).mono λe w' h=>?_) (λi=>?_) (λc=>?_)
 · rcases h with ⟨i,r,m,h⟩ | ⟨j,r,m,h⟩
   · exact .inl ⟨i,r,m,b.back h⟩
   · exact .inr ⟨_,r,j,O,m,b.back h⟩
 · intro a w s b
   exact I i b.1 a w s b.2
 · rintro a w s ⟨j,rfl,m,b⟩
   exact H j m a w s b
theorem nO {W:World->Prop} {a:Option Tmp} {t:TypeId} {x:Operand} {v:Value} (b:P.concrete t=true) (c:bn l x=some v):Yl P l W ⟨a,.makeInterface t x,ty,pos,af,g⟩ (.iface t v):=
 λρ w d _=>by
   have e:(Instr.makeInterface t v).run P w = .ok (.iface t v) w:=run_makeInterface (h:=b) ..;simp [execOp,d x v c,e]
theorem WL.panic {x:Operand} {t:TypeId} {v:Value} {b:Option Tmp} (d:dN ops l g) (f:bn l x=some (.iface t v)) (h:WE Q (.panic [⟨.iface t v,false,false⟩]) n ds l W):WL P ops Q n ds l W (⟨b,.panic x,ty,pos,af,g⟩::rest):=by
 refine WL.step d λa w c i j k=>?_
 have:(execOp a.eval ⟨b,.panic x,ty,pos,af,g⟩).run P w = .halt (.panic (.iface t v)) w:=by
   have e:(Instr.panic (.iface t v)).run P w = .halt (.panic (.iface t v)) w:=rfl;simp [execOp,c.eval f,e]
 simp only [Oper.wp,this,Oper.upon_panic];exact h a w c i
theorem WL.defer {c:Operand} {f:FuncId} {d:List Value} {ts:Array TypeId} (e:dN ops l g) (i:bn l c=some (.func (.func f) #[] d.toArray))
   (h:WL P ops Q n (⟨.fn (.func f) d.toArray,#[]⟩::ds) l W rest):WL P ops Q n ds l W (⟨none,.defer ⟨.value c,#[],ts⟩,ty,pos,af,g⟩::rest):=by
 refine WL.step e λa w b j m k=>?_
 have:(execOp a.eval ⟨none,.defer ⟨.value c,#[],ts⟩,ty,pos,af,g⟩).run P w = .ok (.defer ⟨.fn (.func f) d.toArray,#[]⟩) w:=by
   simp [execOp,resolve,b.eval i,Deferred.ofValue]
 simp only [Oper.wp,this,Oper.upon_defer];refine k _ _ (h _ _ ⟨b.size,?_,b.gv⟩ j)
 show _::a.defers=_
 rw [b.defs]
theorem yx {f:FuncId} {fn:Func} {c:Code} {vs:List Value} {w:World} {R:Ending->World->Prop} (d:P.funcs[f]? = some fn) (e:fn.body=some c)
   (m:Nat) (g:fn.ntmps=m) (i:Nat.ble vs.length m=true) (h:WC P c (bodyPostD P fn R) m [] (sH 0 vs) (λw'=>w'=w)):Calls P f vs.toArray w R:=by
 refine calls_of_wp_defers d e (h _ _ ?_ O);have j:=oq i;subst g;refine ⟨by simp; omega,O,λt v hv=>?_⟩;obtain ⟨_,a⟩:=Bc vs 0 t v hv;simp only [qj] at a
 have b:t<vs.length:=by
   rcases kY t vs.length with h | h
   · exact h
   · simp [gN h] at a
 simp [iL,xX,b];simp [dL b] at a;exact a
def Rs (P:Program) (fn:Func) (l:List (Nat×Value)) (W:World->Prop) (v:Value):Prop:=∀(tmps:Array Value) w,(∀t u,lk l t=some u->tmps.getD t undef=u)->W w->(results fn tmps).run P w = .ok v w
def nP (tmps:Array Value):ResultVar->Sem Value
 | .tmp t=>pure (tmps.getD t undef)
 | .cell a t=>do loadVar t (<-asAddr (tmps.getD a undef))
theorem yy (fn:Func) (tmps:Array Value):results fn tmps=(do let vs <-fn.results.mapM (nP tmps); pure (if h:vs.size=1 then vs[0] else .tuple vs)):=by
 have e:(λr:ResultVar=>match r with | .tmp t=>(pure (tmps.getD t undef):Sem Value) | .cell a t=>do loadVar t (<-asAddr (tmps.getD a undef)))=nP tmps:=by funext r; cases r<;>rfl
 rw [<-e]; rfl
def uf (P:Program) (l:List (Nat×Value)) (W:World->Prop) (r:ResultVar) (v:Value):Prop:=∀(tmps:Array Value) w,(∀t u,lk l t=some u->tmps.getD t undef=u)->W w->(nP tmps r).run P w = .ok v w
theorem gG {t:Nat} {v:Value} (h:lk l t=some v):uf P l W (.tmp t) v:=λtmps w a _=>by simp only [nP,a t v h,Sem.run_pure]
theorem l2 {a b o:Nat} {t:TypeId} {v:Value} {c:Obj} (i:Nat) (d:lk l a=some (.pointer (some ⟨b,o,none⟩))) (e:L[i]? = some (ao b c)) (f:gQ c o=some v) (g:nJ P t=true):uf P l (Ws w0 F L Vs) (.cell a t) v:=λtmps w h j=>by
 simp only [nP,h a _ d,asAddr,Sem.run_bind,Sem.run_pure,Result.andThen_ok,FB g (cell_of_heap (j.kn _ (eL e)) f)]
theorem dX {a b o k:Nat} {t:TypeId} {c:Obj} (i:Nat) (e:lk l a=some (.pointer (some ⟨b,o,none⟩))) (f:L[i]? = some (ao b c)) (g:gP P t=some k) (m:(cellsIn c o k).length=k):uf P l (Ws w0 F L Vs) (.cell a t) (.agg (cellsIn c o k).toArray):=λtmps w h n=>by
 have p:(loadVar t ⟨b,o,none⟩).run P w = .ok (.agg (cellsIn c o k).toArray) w:=yh g m λj v d=>by
   have q:w.heap[b]? = some c:=n.kn _ (eL f);refine cell_of_heap q ?_
   cases c<;>simp [cellsIn,gQ] at *
   rw [jy] at d
   split at d
   · simpa using d
   · cases d
 simp only [nP,h a _ e,asAddr,Sem.run_bind,Sem.run_pure,Result.andThen_ok,p]
theorem hy {fn:Func} {r:ResultVar} {v:Value} (a:fn.results = #[r]) (h:uf P l W r v):Rs P fn l W v:=λtmps w b c=>by
 have d:=h tmps w b c;simp [yy,a,vL,ha,List.mapM_nil,d]
theorem fu {fn:Func} {r s:ResultVar} {v x:Value} (c:fn.results = #[r,s]) (h:uf P l W r v) (d:uf P l W s x):Rs P fn l W (.tuple #[v,x]):=λtmps w a b=>by
 have e:=h tmps w a b;have f:=d tmps w a b;simp [yy,c,vL,ha,List.mapM_nil,e,f]
theorem WE.eB {fn:Func} {R:Ending->World->Prop} {v:Value} (d:Rs P fn l W v) (h:∀w,W w->R (.returned v) w):WE (bodyPost P fn R) .ret n [] l W:=
 λa w b c=>bodyPost_ret (d a.tmps w b.gv c) b.defs (h w c)
theorem WE.yz {fn:Func} {R:Ending->World->Prop} {f:FuncId} {b:List Value} {W':World->Prop} {v:Value} (i:Enters P f)
   (j:∀w,W w->CallsD P f b.toArray .returning w λe c w'=>e = .returned (.tuple #[])/\c = .returning/\W' w')
   (k:Rs P fn l W' v) (h:∀w,W' w->R (.returned v) w):WE (bodyPostD P fn R) .ret n [⟨.fn (.func f) b.toArray,#[]⟩] l W:=by
 intro a w d m
 show Leaves P fn a.tmps R a.defers .returning w
 rw [d.defs];refine ⟨aj,.func f,b.toArray,f,b.toArray,O,?_,(j w m).mono λe c w' o=>?_⟩
 · simp only [invoke]
   simpa using i b.toArray w
 · obtain ⟨rfl,rfl,g⟩:=o
   exact ⟨v,k a.tmps w' d.gv g,h w' g⟩
theorem WE.rG {fn:Func} {R:Ending->World->Prop} {f:FuncId} {b:List Value} {W':World->Prop} {v c:Value} (j:Enters P f)
   (k:∀w,W w->CallsD P f b.toArray (.panicking [⟨c,false,false⟩]) w λe d w'=>e = .returned (.tuple #[])/\d = .panicking [⟨c,true,false⟩]/\W' w')
   (m:Rs P fn l W' v) (h:∀w,W' w->R (.returned v) w):WE (bodyPostD P fn R) (.panic [⟨c,false,false⟩]) n [⟨.fn (.func f) b.toArray,#[]⟩] l W:=by
 intro a w g o
 show Leaves P fn a.tmps R a.defers (.panicking [⟨c,false,false⟩]) w
 rw [g.defs];refine ⟨aj,.func f,b.toArray,f,b.toArray,O,?_,(k w o).mono λe d w' p=>?_⟩
 · simp only [invoke]
   simpa using j b.toArray w
 · obtain ⟨rfl,rfl,i⟩:=p
   exact ⟨v,m a.tmps w' g.gv i,h w' i⟩
theorem WE.Bs {fn:Func} {R:Ending->World->Prop} {v:Value} (d:Rs P fn l W v) (h:∀w,W w->R (.returned v) w):WE (bodyPostD P fn R) .ret n [] l W:=by
 intro a w b c
 show Leaves P fn a.tmps R a.defers .returning w
 rw [b.defs];exact ⟨v,d a.tmps w b.gv c,h w c⟩
def F2 (u:FrameMode) (rv:Value) (a:FrameMode):Prop:=(u = .returning/\rv = .nilIface/\a = .returning)\/∃v,u = .panicking [⟨v,false,false⟩]/\rv=v/\a = .panicking [⟨v,true,false⟩]
theorem Nx {id:Nat} {o:Oper} {os:List Oper} {d:Nat} {y:Code} {c:Frame} {cs:List Frame} {a:Act} {w:World} {rv:Value} {f:FrameMode} {Q:Exit->Act->World->Prop} {l:Exit->Act->List Frame->World->Prop}
   (r:o.dst=some d) (s:o.guard=none) (m:(execOp a.eval o).run P w = .ok .recover w) (t:F2 c.mode rv f)
   (n:∀e a w,Q e a w->l e a ({ c with mode:=f }::cs) w)
   (h:wpList P (o::os).toArray (Exit.then (y.wp P Q) Q) os (a.put (some d) rv) w):(Code.seq (.region id (o::os).toArray false) y).wpS P l a (c::cs) w:=by
 refine wpS_seq ?_;intro b k u H;have p:(o::os).toArray[0]? = some o:=rfl
 have x:Region.wanted o (yielded (o::os).toArray a.tmps)=true:=by simp [Region.wanted,s]
 have z:=stepG_op (P:=P) (b:=b) (k:=k) (cs:=c::cs) (w:=w) (rest:=List.range' 1 os.length) p x;have A:(b.at a (.inRegion (o::os).toArray (0::List.range' 1 os.length)::k)).kind = .deferred:=u;have i:=tryRecover_deferred A (c::cs)
 have B:∀v,(b.at a (.inRegion (o::os).toArray (0::List.range' 1 os.length)::k)).finish v=b.at (a.put (some d) v) (.inRegion (o::os).toArray (List.range' 1 os.length)::k):=by
   intro v; rw [Frame.finish_at,p,<-r]; rfl
 have C:step P (lone (b.at a (.inRegion (o::os).toArray (0::List.range' 1 os.length)::k)) (c::cs) w) = .next (lone (b.at (a.put (some d) rv) (.inRegion (o::os).toArray (List.range' 1 os.length)::k)) ({ c with mode:=f }::cs) w):=by
   refine step_lone_go ?_;rw [z,<-B];simp only [Frame.at] at i ⊢
   rcases t with ⟨g,rfl,rfl⟩ | ⟨v,g,rfl,rfl⟩
   · simp [stepG.apply,m,i,recoverD,g]
     rw [<-g]
   · simp [stepG.apply,m,i,recoverD,g]
 have D:wpOps P (o::os).toArray (Exit.then (y.wp P Q) Q) (List.range' 1 os.length) (a.put (some d) rv) w:=by
   rw [wpOps_eq_wpList os 1 (λj=>by simp [Nat.add_comm 1 j])]; exact h
 obtain ⟨e,E,w',q,F⟩:=wp_ops _ _ _ D b k ({ c with mode:=f }::cs)
 have G:step P (lone (b.at a (.code (.region id (o::os).toArray false)::k)) (c::cs) w) = .next (lone (b.at a (.inRegion (o::os).toArray (0::List.range' 1 os.length)::k)) (c::cs) w):=by
   have:=step_region (P:=P) (b:=b) (a:=a) (k:=k) (cs:=c::cs) (w:=w) (ops:=(o::os).toArray) (id:=id);rw [this];simp [List.range_eq_range',List.range'_succ]
 refine ⟨e,E,_,w',?_,.of_steps (.head G (.one C)) F⟩
 cases e with
 | normal=>exact wpS_of_wp (wp_mono q λe a w h=>n e a w h)
 | _=>exact n _ _ _ q
theorem rH {f:FuncId} {fn:Func} {id:Nat} {o:Oper} {os:List Oper} {d:Nat} {y:Code} {vs:List Value} {w:World} {rv:Value} {u c:FrameMode} {R:Ending->World->Prop} (k:P.funcs[f]? = some fn) (l:fn.body=some (.seq (.region id (o::os).toArray false) y))
   (m:Nat) (n:fn.ntmps=m) (p:Nat.ble vs.length m=true) (q:o.dst=some d) (r:Nat.blt d m=true) (s:o.guard=none) (x:∀(ρ:Operand->Value),(execOp ρ o).run P w = .ok .recover w) (z:F2 u rv c)
   (h:WL P (o::os).toArray (Exit.then (y.wp P (bodyPost P fn R)) (bodyPost P fn R)) m [] ((d,rv)::sH 0 vs) (λw'=>w'=w) os):CallsD P f vs.toArray u w λe A w'=>A=c/\R e w':=by
 refine callsD_of_wpS k l λD cs B=>?_;refine Nx (Q:=bodyPost P fn R) q s (x _) (by rw [B]; exact z) (λe a w b=>?_) (h _ _ ?_ O)
 · cases e with
   | normal=>exact ⟨b.1,c,rfl,b.2.choose,b.2.choose_spec.1,rfl,b.2.choose_spec.2⟩
   | ret=>exact ⟨b.1,c,rfl,b.2.choose,b.2.choose_spec.1,rfl,b.2.choose_spec.2⟩
   | panic E=>exact ⟨b.1,c,rfl,rfl,b.2⟩
   | outgrown=>exact ⟨c,rfl,b⟩
   | exit i=>exact b
   | goto i=>exact b
 · have F:=oq p
   subst n
   have C:Ag fn.ntmps [] (sH 0 vs) { tmps:=vs.toArray++Array.replicate (fn.ntmps-vs.toArray.size) undef,defers:=[] }:=by
     refine ⟨by simp; omega,O,λt v hv=>?_⟩;obtain ⟨_,g⟩:=Bc vs 0 t v hv;simp only [qj] at g
     have j:t<vs.length:=by
       rcases kY t vs.length with h | h
       · exact h
       · simp [gN h] at g
     simp [iL,xX,j];simp [dL j] at g;exact g
   exact C.put r rv
theorem yA {t u:TypeId} {x:Operand} {W:World->Prop} {b:Option Tmp} (c:P.underlying t=some (.interface (P.methodsAt t))) (d:bn l x=some .nilIface):Yl P l W ⟨b,.binOp .neq t x (.const .nilIface) u,ty,pos,af,g⟩ (.bool false):=by
 intro ρ w a _;have e:ρ (.const .nilIface) = .nilIface:=a _ _ rfl;simp only [execOp,a x _ d,e,Sem.run_bind];simp [eqGuard_nil_constR,run_neq_nil_nil (h:=c)]
theorem Bt {t u s:TypeId} {x:Operand} {v:Value} {W:World->Prop} {b:Option Tmp} (c:P.underlying t=some (.interface (P.methodsAt t))) (d:bn l x=some (.iface s v)):Yl P l W ⟨b,.binOp .neq t x (.const .nilIface) u,ty,pos,af,g⟩ (.bool true):=by
 intro ρ w a _;have e:ρ (.const .nilIface) = .nilIface:=a _ _ rfl
 have f:(eqGuard .neq t x (.const .nilIface) (.iface s v) .nilIface)=pure ():=by cases x<;>rfl
 simp only [execOp,a x _ d,e,Sem.run_bind,f];simp [run_neq_held_nil (h:=c)]
end
section
variable {P:Program} {l:List (Nat×Value)} {W:World->Prop} {d:Option Tmp} {ty:TypeId} {pos:String} {af:Array Edge} {g:Option (Nat×Bool)}
theorem F3 (s:List UInt8) (i j:Nat):Value.string ((ByteArray.mk s.toArray).extract i j)=st ((s.take j).drop i):=by
 have e:((ByteArray.mk s.toArray).extract i j)=⟨((s.take j).drop i).toArray⟩:=by
   apply ByteArray.ext;simp [List.drop_take]
 rw [e]; rfl
theorem Bu {t:TypeId} {x y:Operand} {s:List UInt8} {k:IntKind} {h:Int} (a:P.underlying t=some .string) (c:bn l x=some (st s)) (f:bn l y=some (.int k h)) (i:0<=h) (j:h<=s.length):Yl P l W ⟨d,.slice t x none (some y) none,ty,pos,af,g⟩ (st (s.take h.toNat)):=by
 intro ρ w b _;have e:=run_slice_string_h (P:=P) w t ⟨s.toArray⟩ a k h i (by rw [sL]; exact j)
 have m:(Instr.sliceAt t (.string ⟨s.toArray⟩) none (some (.int k h)) none).run P w = .ok (st (s.take h.toNat)) w:=by
   rw [run_sliceAt_string (h:=a),e,F3]; simp
 simp [execOp,b x _ c,b y _ f,st,m]
theorem yB {t:TypeId} {x y:Operand} {s:List UInt8} {k:IntKind} {h:Int} (a:P.underlying t=some .string) (c:bn l x=some (st s)) (f:bn l y=some (.int k h)) (i:0<=h) (j:h<=s.length):Yl P l W ⟨d,.slice t x (some y) none none,ty,pos,af,g⟩ (st (s.drop h.toNat)):=by
 intro ρ w b _;have e:=run_slice_string_l (P:=P) w t ⟨s.toArray⟩ a k h i (by rw [sL]; exact j)
 have m:(Instr.sliceAt t (.string ⟨s.toArray⟩) (some (.int k h)) none none).run P w = .ok (st (s.drop h.toNat)) w:=by
   rw [run_sliceAt_string (h:=a),e,F3,sL,ew]
 simp [execOp,b x _ c,b y _ f,st,m]
theorem Ny {t u:TypeId} {x y:Operand} {a:IntKind} {n:Int} (m:Nat) (f:bn l x=some (.int .i64 n)) (h:bn l y=some (.int a (m:Int))) (i:m<=64):Yl P l W ⟨d,.binOp .shl t x y u,ty,pos,af,g⟩ (.int .i64 (IntKind.i64.wrap (n*2 ^ m))):=by
 intro ρ w b _
 have e:min m IntKind.i64.bits=m:=by simp [IntKind.bits]; omega
 have:¬(m:Int)<0:=ae
 have c:(binOp .shl t (.int .i64 n) (.int a (m:Int))).run P w = .ok (.int .i64 (IntKind.i64.wrap (n*2 ^ (min (m:Int).toNat IntKind.i64.bits)))) w:=by
   simp only [binOp,Op.shift,if_neg this,Sem.run_pure]
 rw [mu,e] at c;simp only [execOp,b x _ f,b y _ h,Sem.run_bind,show eqGuard .shl t x y (.int .i64 n) (.int a (m:Int))=pure () from rfl,Sem.run_pure,Result.andThen_ok,c]
theorem Bv (a b:Int) (h:a % 18446744073709551616=b % 18446744073709551616):IntKind.i64.wrap a=IntKind.i64.wrap b:=by
 rw [IntKind.wrap_i64,IntKind.wrap_i64]; omega
theorem Nz (n:Int) (b:Nat) (d:b<256):IntKind.i64.wrap ((BitVec.ofInt 64 (IntKind.i64.wrap (n*2 ^ 8))||| BitVec.ofInt 64 (b:Int)).toNat:Int)=IntKind.i64.wrap (n*256+b):=by
 have a:(BitVec.ofInt 64 (IntKind.i64.wrap (n*2 ^ 8))).toNat=((n % 72057594037927936).toNat) <<< 8:=by
   rw [E_,Fa]
   have e:IntKind.i64.wrap (n*2 ^ 8) % ((2 ^ 64:Nat):Int)=(n % 72057594037927936)*256:=by
     rw [IntKind.wrap_i64]; omega
   rw [e]; omega
 have c:(BitVec.ofInt 64 (b:Int)).toNat=b:=by
   rw [E_];omega
 rw [BitVec.toNat_or,a,c,<-Nat.shiftLeft_add_eq_or_of_lt ae,Fa];apply Bv;omega
theorem NA {t u:TypeId} {x y:Operand} {n:Int} {b:Nat} (c:bn l x=some (.int .i64 (IntKind.i64.wrap (n*2 ^ 8)))) (f:bn l y=some (.int .i64 (b:Int))) (h:b<256):Yl P l W ⟨d,.binOp .or t x y u,ty,pos,af,g⟩ (.int .i64 (IntKind.i64.wrap (n*256+b))):=by
 intro ρ w a _;have e:(binOp .or t (.int .i64 (IntKind.i64.wrap (n*2 ^ 8))) (.int .i64 (b:Int))).run P w = .ok (.int .i64 (IntKind.i64.wrap ((BitVec.ofInt 64 (IntKind.i64.wrap (n*2 ^ 8))||| BitVec.ofInt 64 (b:Int)).toNat:Int))) w:=rfl;rw [Nz n b h] at e;simp only [execOp,a x _ c,a y _ f,Sem.run_bind,show eqGuard .or t x y (.int .i64 (IntKind.i64.wrap (n*2 ^ 8))) (.int .i64 (b:Int))=pure () from rfl,Sem.run_pure,Result.andThen_ok,e]
end
section
variable {P:Program} {ops:Array Oper} {Q:Exit->Act->World->Prop} {n:Nat} {ds:List Deferred} {l:List (Nat×Value)} {w0:World} {F:List Nat} {L:List aW} {Vs:List View}
 {rest:List Oper} {d:Nat} {ty:TypeId} {pos:String} {af:Array Edge} {g:Option (Nat×Bool)}
theorem WL.NB {s t e:TypeId} {x:Operand} {f:List UInt8} (r:dN ops l g) (u:Nat.blt d n=true) (v:P.underlying s=some .string) (y:P.underlying t=some (.slice e)) (z:P.underlying e=some (.int .u8)) (B:bn l x=some (st f))
   (h:∀b c k,WL P ops Q n ds ((d,.slice (some ⟨b,0,none⟩) f.length c)::l) (Ws w0 F (ao b (.cells (f.map dh++List.replicate k (Value.int .u8 0)).toArray e (f.length+k,f.length+k+1))::L) Vs) rest) :
   WL P ops Q n ds l (Ws w0 F L Vs) (⟨some d,.convert s t x,ty,pos,af,g⟩::rest):=by
 refine WL.step r λa w i C I D=>?_;have m:=Lib.run_convert_string_bytes (P:=P) w s t e ⟨f.toArray⟩ v y z
 have E:(execOp a.eval ⟨some d,.convert s t x,ty,pos,af,g⟩).run P w = .ok (.value (.slice (some ⟨w.heap.size,0,none⟩) f.length (grownCap w f.length 0 e))) (Lib.bytesWorld w e ⟨f.toArray⟩):=by
   rw [sL] at m;simp only [execOp,i.eval B,st,Sem.run_bind,m,Result.andThen_ok,Sem.run_pure]
 simp only [Oper.wp,E,Oper.upon_value];refine D _ _ (h w.heap.size _ (grownCap w f.length 0 e-f.length) _ _ (i.put u _) ?_)
 have o:Lib.bytesCells w e ⟨f.toArray⟩=(f.map dh++List.replicate (grownCap w f.length 0 e-f.length) (Value.int .u8 0)).toArray:=by
   unfold Lib.bytesCells;rw [sL];apply qk;simp [dh]
 have G:(Lib.bytesCells w e ⟨f.toArray⟩).size=f.length+(grownCap w f.length 0 e-f.length):=by rw [o]; simp
 have p:=Lib.bytesWorld_at_new w e ⟨f.toArray⟩;rw [G,o] at p
 have:=Ws.rz (L:=[]) (L':=[ao w.heap.size (.cells (f.map dh++List.replicate (grownCap w f.length 0 e-f.length) (Value.int .u8 0)).toArray e (f.length+(grownCap w f.length 0 e-f.length),f.length+(grownCap w f.length 0 e-f.length)+1))]) (L2:=L) (w':=Lib.bytesWorld w e ⟨f.toArray⟩) (by simpa using C)
   ⟨by unfold Lib.bytesWorld World.freeze; split<;>rfl,by unfold Lib.bytesWorld World.freeze; split<;>rfl,by unfold Lib.bytesWorld World.freeze; split<;>rfl,by rw [Lib.bytesWorld_size]; omega,λj H _=>Lib.bytesWorld_at_old w e _ j H⟩
   (by intro A q; simp at q; subst q; exact p) (by simp [ao]) (by simp [ao])
 simpa using this
end
abbrev bS {α:Type} (e:TypeId) (k:Nat) (f:α->List Value) (a:Option Addr) (c:Nat) (xs:List α):aW:=b6 e k (.slice a xs.length c) xs.length (xs.flatMap f)
section
variable {P:Program} {ops:Array Oper} {Q:Exit->Act->World->Prop} {n:Nat} {ds:List Deferred} {l:List (Nat×Value)} {w0:World} {F:List Nat} {L:List aW} {Vs:List View}
 {rest:List Oper} {d:Nat} {ty:TypeId} {pos:String} {af:Array Edge} {g:Option (Nat×Bool)}
theorem LA {α:Type} {f:α->List Value} {t e:TypeId} {A:Value} {size q B:Nat} {s y:Operand} {a:Option Addr} {c r:Nat} {xs:List α} {T:TypeId} {C:Nat×Nat} (x:α) (i j:Nat) (D:dN ops l g) (E:Nat.blt d n=true) (G:gg P t e A size q)
   (H:bn l s=some (.slice a xs.length c)) (I:bn l y=some (.slice (some ⟨r,0,none⟩) 1 B)) (z:L[i]? = some (bS e size f a c xs)) (J:L[j]? = some (ao r (.cells (f x).toArray T C)))
   (K:(f x).length=size) (M:(f x).all (·.oneCell')=true) (V:xs.length+1<=9223372036854775807) (N:(xs.length+1)*q<=140737488355328)
   (h:∀b o,WL P ops Q n ds ((d,.slice b (xs++[x]).length o)::l) (Ws w0 F (L.set i (bS e size f b o (xs++[x]))) Vs) rest) :
   WL P ops Q n ds l (Ws w0 F L Vs) (⟨some d,.call ⟨.builtin .append,#[s,y],#[t,t]⟩,ty,pos,af,g⟩::rest):=by
 refine WL.append i D E G H I z (news:=f x) (k:=1) (by rw [Nat.one_mul]; exact K) (λw O k u p=>FZ O j J (k:=k) (by simpa using p)) (λu p=>fG.1 M u p) (by unfold maxLen; omega) N λR _=>?_
 have S:(xs.flatMap f)++f x=(xs++[x]).flatMap f:=aj
 have U:xs.length+1=(xs++[x]).length:=aj
 rw [S,U];have hi:i<L.length:=(cf.1 z).1;refine WL.Bq i (m:=(xs++[x]).length) (xs:=(xs++[x]).flatMap f) (e:=e) (size:=size) (v:=R) (by simp [hi]) λb o hv=>?_;subst hv;exact h b o
end
theorem Ws.iP {α:Type} {rd:View->Nat->Nat->α->Prop} {f:α->List Value} {k:Nat} {m w:World} {L:List aW} {Vs:List View} (h:Ws m [] L Vs w) (i:Nat) {a:Option Addr} {c:Nat} {e:TypeId} {xs:List α} (r:L[i]? = some (bS e k f a c xs))
   (n:∀x,(f x).length=k) (s:∀p b o x,bR p b o (f x)->rd p b o x):Sl rd k (nv m w) a c xs:=by
 rcases h.M5 i r with ⟨d,q⟩ | ⟨b,B,d,q,t,u⟩
 · injection d with g y l
   subst g l;have:xs=[]:=ou ae;subst this;exact Sl.nil
 · injection d with g y l
   subst g l;refine ⟨q,by unfold maxLen at t; omega,aj,λi x z=>⟨b,0,O,s _ _ _ _ λj v hv=>?_⟩⟩
   have A:j<k:=by have:=(cf.1 hv).1; rw [n] at this; exact this
   rw [cj];exact u _ _ (by rw [qv n z A]; exact hv)
theorem Ws.wi {α:Type} {rd:View->Nat->Nat->α->Prop} {f:α->List Value} {k:Nat} {p w:World} {q:List Nat} {L:List aW} {Vs:List View} (h:Ws p q L Vs w) (i:Nat) {a:Option Addr} {c:Nat} {e:TypeId} {xs:List α} (r:L[i]? = some (bS e k f a c xs))
   (m:∀x,(f x).length=k) (s:∀n b o x,bR n b o (f x)->rd n b o x):Sl rd k (hv w) a c xs:=by
 obtain ⟨G,t⟩:=(h.kn _ (eL r):w.ownsRow 0 e k _ xs.length (xs.flatMap f))
 rcases t with ⟨u,H⟩ | ⟨b,cap,I,y,_,z,A,g,J,B⟩
 · injection u with l C g
   subst l g;have:xs=[]:=ou ae;subst this;exact Sl.nil
 · injection y with l C D
   subst l D;refine ⟨A,by unfold maxLen at g; omega,aj,λi x E=>⟨b,0,O,s _ _ _ _ λj v hv=>?_⟩⟩
   have F:j<k:=by have:=(cf.1 hv).1; rw [m] at this; exact this
   have d:(xs.flatMap f)[i*k+j]? = some v:=by rw [qv m E F]; exact hv
   rw [<-B,jy] at d
   split at d
   · refine yq z ?_
     simpa [gQ] using d
   · cases d
def nQ (b:List ResultVar) (d:Option Tmp):Bool:=match d with
 | none=>true
 | some d=>b.all λr=>match r with | .tmp t=>!(Nat.beq d t) | .cell a _=>!(Nat.beq d a)
theorem NC {r:ResultVar} {d:Nat} {v:Value} {a:Act} (h:(match r with | .tmp t=>!(Nat.beq d t) | .cell a _=>!(Nat.beq d a))=true):nP (a.put (some d) v).tmps r=nP a.tmps r:=by
 have key:∀t,(!(Nat.beq d t))=true->(a.put (some d) v).tmps.getD t undef=a.tmps.getD t undef:=λt b=>by
   have c:d≠t:=λe=>by subst e; simp at b
   simp only [Act.put,iL];rw [rm c]
 cases r with
 | tmp t=>simp only [nP,key t h]
 | cell x _=>simp only [nP,key x h]
theorem ND {fn:Func} {c:List ResultVar} (b:fn.results=c.toArray) {d:Option Tmp} {v:Value} {a:Act} (h:nQ c d=true):results fn (a.put d v).tmps=results fn a.tmps:=by
 cases d with
 | none=>rfl
 | some d=>
   simp only [nQ,fG] at h
   have e:∀l:List ResultVar,(∀r ∈ l,r ∈ c)->l.mapM (nP (a.put (some d) v).tmps)=l.mapM (nP a.tmps):=by
     intro l
     induction l with
     | nil=>intro _; rfl
     | cons x l g=>
       intro f;rw [ha,ha,NC (h x (f x aj)),g λr b=>f r (by simp [b])]
   rw [yy,yy,b,vL,vL,e _ λr b=>by simpa using b]
theorem Bx {P:Program} {fn:Func} {i:List ResultVar} {R:Ending->World->Prop} (c:fn.results=i.toArray) {d:Option Tmp} {v:Value} {a:Act} (h:nQ i d=true):∀(ds:List Deferred) (u:FrameMode) (w:World),Leaves P fn (a.put d v).tmps R ds u w->Leaves P fn a.tmps R ds u w
 | [],.returning,w,b=>by
   simp only [Leaves] at b ⊢;rw [ND c h] at b;exact b
 | [],.panicking _,_,b=>b
 | [],.run,_,b=>b
 | x::ds,u,w,b=>by
   obtain ⟨j,k,cap,f,args,l,m,n⟩:=b;refine ⟨j,k,cap,f,args,l,m,n.mono λe o w' g=>?_⟩
   cases e with
   | returned v=>exact Bx c h ds _ _ g
   | panicked p=>exact Bx c h ds _ _ g
   | outgrown=>exact g
theorem rI {P:Program} {fn:Func} (f:List ResultVar) {R:Ending->World->Prop} (g:fn.results=f.toArray) {d:Option Tmp} {v:Value} {a:Act} {c:List PanicEntry} {w:World} (h:nQ f d=true) (b:bodyPostD P fn R (.panic c) (a.put d v) w):bodyPostD P fn R (.panic c) a w:=by
 have e:(a.put d v).defers=a.defers:=by cases d<;>rfl
 have b:Leaves P fn (a.put d v).tmps R (a.put d v).defers (.panicking c) w:=b;rw [e] at b;exact Bx g h _ _ _ b
section
variable {P:Program} {md:Region.Mode} {ops:Array Oper} {C:World->Prop} {Q:Exit->Act->World->Prop}
def ug (ok:Option Tmp->Bool) (ops:Array Oper):Bool:=ops.toList.all λo=>ok o.dst
theorem F4 {ok:Option Tmp->Bool} (h:ug ok ops=true) {i:Nat} {o:Oper} (a:ops[i]? = some o):ok o.dst=true:=by
 refine fG.1 h o ?_
 have:ops.toList[i]? = some o:=by simpa using a
 exact ax this
theorem By {ok:Option Tmp->Bool} (f:ug ok ops=true) (g:Region.noSelect ops=true) (k:∀c a w d v,ok d=true->Q (.panic c) (a.put d v) w->Q (.panic c) a w):∀(ord:List (Nat×Bool)) (e:Array Bool) (a:Act) (w:World),
   my md ops ord e=true->mz P ops C Q ord a w->ow P md ops C Q ord.length e a w
 | [],e,a,w,b,h=>⟨h.1,by simpa [my] using b,h.2⟩
 | (i,true)::r,e,a,w,b,h=>by
   simp only [my,cond_true,cO] at b;obtain ⟨n,o,v,l,p,h⟩:=h
   exact Bi l (Region.noSelect_spec g) (λc a w=>k c a w o.dst v (F4 f l)) r.length e a w (Region.free_spec l b.1.2) (by simpa using b.1.1) p n
     (By f g k r _ _ _ b.2 h)
 | (i,false)::r,e,a,w,b,h=>by
   simp only [my,cond_false,cO,beq_iff_eq] at b;refine ⟨h.1,λq=>(by rw [q] at b; cases b.1),λj m=>?_⟩;rw [b.1] at m;simp at m;subst m;exact wpOp_mono (λt w' s=>By f g k r _ _ _ b.2 s) h.2
variable {n:Nat} {ds:List Deferred} {l:List (Nat×Value)} {W:World->Prop}
def outs:List Nat->List aW->List aW
 | [],L=>L
 | i::r,L=>outs r (eu i L)
theorem Wo {a w:World} {b:List Nat} {L:List aW} {Vs:List View} (i:Nat) (h:Ws a b L Vs w):Ws a b (eu i L) Vs w:=Ws.out i h
theorem Wt {a w:World} {b:List Nat} {L:List aW} {Vs:List View} (n:Nat) (h:Ws a b L Vs w):Ws a b (L.take n) Vs w:=Ws.iO (L':=L.drop n) (by rw [ot]; exact h)
theorem Wd {a w:World} {b:List Nat} {L:List aW} {Vs:List View} (n:Nat) (h:Ws a b L Vs w):Ws a b (L.drop n) Vs w:=Ws.drop (L:=L.take n) (by rw [ot]; exact h)
theorem Wv {a w:World} {b:List Nat} {L:List aW} {Vs:List View} (n:Nat) (h:Ws a b L Vs w):Ws a b L (Vs.drop n) w:=Ws.av h λ_ c=>List.mem_of_mem_drop c
theorem Ws.f {a w:World} {b:List Nat} {L:List aW} {Vs:List View} (i:Nat) {A:aW} (h:Ws a b L Vs w) (c:L[i]? = some A):Ws a b (A::eu i L) Vs w:=h.perm (mx i L c)
theorem Wp {a:World} {b:List Nat} {L:List aW} {Vs:List View} (i:Nat):∀w,Ws a b L Vs w->Ws a b (eu i L) Vs w:=λ_ h=>Wo i h
theorem cH {a:World} {b:List Nat} {L:List aW} {Vs:List View} (c:List Nat):∀w,Ws a b L Vs w->Ws a b (outs c L) Vs w:=λ_ h=>by
 induction c generalizing L with
 | nil=>exact h
 | cons i r d=>exact d (Wo i h)
theorem WC.uh {id:Nat} {os:List Oper} {e:World} {f:List Nat} {L:List aW} {Vs:List View} (ok:Option Tmp->Bool) (g:List Nat) (ord:List (Nat×Bool)) (i:P.follows .mixedOrders=true) (j:ug ok os.toArray=true) (b:(Region.noSelect os.toArray&&(ord.length==os.toArray.size&&dW os ord 0))=true)
   (k:∀c a w d v,ok d=true->Q (.panic c) (a.put d v) w->Q (.panic c) a w) (h:WD P os.toArray (Ws e f (outs g L) Vs) Q n ds l (Ws e f L Vs) ord):WC P (.region id os.toArray true) Q n ds l (Ws e f L Vs):=by
 intro a w m o;have b:=Bl b;simp only [cO,beq_iff_eq] at b;have:=yo (md:=.any) _ _ _ _ (By j b.1 k ord _ a w.drew b.2.2 (h a w.drew m o.drew));rw [b.2.1] at this;exact wp_region_any i this
theorem WD.skip {r:List (Nat×Bool)} {i d:Nat} {op:Op} {ty:TypeId} {pos:String} {af:Array Edge} {j:Nat} {b:Bool} {f:Oper} {c:Nat} (hi:ops[i]? = some ⟨some d,op,ty,pos,af,some (j,b)⟩) (m:Nat.blt d n=true)
   (o:ops[j]? = some f) (p:f.dst=some c) (q:Nat.blt c n=true) (s:lk l c=some (.bool (!b)))
   (t:∀w,W w->C w) (h:WD P ops C Q n ds ((d,undef)::l) W r):WD P ops C Q n ds l W ((i,true)::r):=by
 intro a w e g;have hv:a.tmps.getD c undef = .bool (!b):=e.gv c _ s
 have k:c<a.tmps.size:=by rw [e.size]; exact oq q
 have u:a.tmps[c]? = some (.bool (!b)):=by
   rw [iL,sB k] at hv;rw [sB k]
   simpa using hv
 have v:yielded ops a.tmps j=some (!b):=by simp [yielded,o,p,u]
 exact ⟨t w g,_,undef,hi,.inr ⟨by simp [Region.wanted,v],O⟩,h _ _ (e.put m undef) g⟩
theorem WE.front {a:World} {b:List Nat} {L:List aW} {Vs:List View} {e:Exit} {A:aW} (i:Nat) (c:L[i]? = some A) (h:WE Q e n ds l (Ws a b (A::eu i L) Vs)):WE Q e n ds l (Ws a b L Vs):=
 WE.world (λ_ d=>d.perm (mx i L c)) h
theorem nR {c:World} {d:List Nat} {L:List aW} {Vs:List View} {f:FuncId} {args:Array Value} {u g:FrameMode} (a L2 h:List aW) (j:L=a++L2)
   (k:∀w,Ws w (a.flatMap aW.ids) a [] w->CallsD P f args u w λe b w'=>b=g/\(e = .returned (.tuple #[])/\Ws w (a.flatMap aW.ids) h [] w')) :
   ∀w,Ws c d L Vs w->CallsD P f args u w λe b w'=>e = .returned (.tuple #[])/\b=g/\Ws c d (h++L2) Vs w':=by
 intro w i;subst j;exact (k w (i.self.av aj)).mono λe b w' ⟨l,m,n⟩=>⟨m,l,i.back n⟩
end
open Go.ChangeShapes Go.WideShapes Go.ChangeAt Go.RowKit Go.Joins Go.Deep
theorem F5 {α:Type} (p:Nat->α->Prop):∀n,(∀i,i<n->∃x,p i x)->∃l:List α,l.length=n/\∀(i:Nat) (x:α),l[i]? = some x->p i x
 | 0,_=>⟨[],rfl,aj⟩
 | n+1,h=>by
   obtain ⟨l,c,d⟩:=F5 p n λi hi=>h i ae;obtain ⟨x,e⟩:=h n ae;refine ⟨l++[x],by simp [c],λi y a=>?_⟩
   rcases Fb i n with b | b | b
   · rw [ql ae] at a; exact d i y a
   · subst b
     rw [hD ae,c] at a;simp at a; subst a; exact e
   · rw [gN (by simp; omega)] at a; cases a
theorem Bz {w:World} {b o:Nat} {v:Value} (h:w.cell? ⟨b,o,none⟩=some v):vc (hv w) b o=some v:=by
 unfold vc hv;unfold World.cell? at h
 cases a:w.heap[b]? with
 | none=>simp [a] at h
 | some c=>cases c<;>simp [a,gQ] at h ⊢<;>exact h
inductive Sh where
 | int
 | str
 | bool
deriving DecidableEq
def nS (P:Program):Nat->List Field->Bool
 | _,[]=>true
 | i,f::r=>Nat.beq f.offset i&&(Nat.beq (P.cellsOf f.type) 1&&nS P (i+1) r)
end Go.Bw
end
section
namespace Go.Bw
set_option linter.unnecessarySimpa false
open Go Go.RowKit
section
variable {P:Program} {l:List (Nat×Value)} {W:World->Prop} {d:Option Tmp} {ty:TypeId} {pos:String} {af:Array Edge} {g:Option (Nat×Bool)}
theorem F6 {t:TypeId} {x y:Operand} {a:Option Addr} {m c s:Nat} {k:IntKind} {h:Int} (n:Nat) (b:fk P t=some s) (e:bn l x=some (.slice a m c)) (f:∀p,a=some p->p.spot=none) (i:bn l y=some (.int k h)) (j:h=(n:Int)) (o:n<=c) :
   Yl P l W ⟨d,.slice t x none (some y) none,ty,pos,af,g⟩ (.slice a n c):=by
 subst j;exact M0 b e f i ae ae
theorem F7 {t:TypeId} {x y:Operand} {a:Option Addr} {m c s:Nat} {k:IntKind} {h:Int} (n:Nat) (b:fk P t=some s) (o:bn l x=some (.slice a m c)) (p:bn l y=some (.int k h)) (q:h=(n:Int)) (r:n<=m) (v:m<=c) :
   Yl P l W ⟨d,.slice t x (some y) none none,ty,pos,af,g⟩ (.slice (if c-n=0 then a else a.map (·.add (n*s))) (m-n) (c-n)):=by
 intro ρ w i _;subst q;unfold fk at b
 cases f:P.underlying t with
 | none=>simp [f] at b
 | some u=>
   cases u<;>simp [f] at b
   rename_i e;obtain ⟨z,hi,rfl⟩:=b;simp [execOp,i x _ o,i y _ p,Instr.sliceAt,Instr.slice,Instr.sliceBounds,Instr.sliceBound,asIntOf,run_underlying f,sizeOf,typeInfo,hi,r]
   by_cases j:c=n
   · subst j; simp
   · have:¬c-n=0:=ae
     simp [j,this]
end
theorem Sl.drop {α:Type} {rd:View->Nat->Nat->α->Prop} {k:Nat} {f:View} {a:Option Addr} {c:Nat} {l:List α} (h:Sl rd k f a c l) (n:Nat) (r:n<=l.length):Sl rd k f (if c-n=0 then a else a.map (·.add (n*k))) (c-n) (l.drop n):=by
 have t:=h.cap;refine ⟨by simp; omega,by have:=h.max; omega,?_,λi x e=>?_⟩
 · intro p d u
   split at d
   · omega
   · cases a with
     | none=>cases d
     | some q=>
       have j:=h.spot q rfl ae;obtain ⟨b,o,s⟩:=q;obtain rfl:s=none:=j;simp [m_] at d;subst d; rfl
 · rw [Fc] at e
   have hi:=(cf.1 e).1;obtain ⟨b,o,m,g⟩:=h.bT _ _ e;subst m;refine ⟨b,o+n*k,?_,?_⟩
   · rw [if_neg ae]; simp [m_]
   · rw [sC] at g
     rw [tR]; exact g
theorem Sl.take {α:Type} {rd:View->Nat->Nat->α->Prop} {k:Nat} {d:View} {a:Option Addr} {c:Nat} {l:List α} (h:Sl rd k d a c l) (n:Nat):Sl rd k d a c (l.take n):=
 ⟨by have:=h.cap; simp; omega,h.max,h.spot,λi x b=>h.bT i x (by
   rw [jy] at b
   split at b
   · exact b
   · cases b)⟩
end Go.Bw
end
section
namespace Go.Bw
set_option linter.unnecessarySimpa false
open Go Go.RowKit
section
variable {P:Program} {md:Region.Mode} {ops:Array Oper} {S:List Nat} {C D:World->Prop} {Q:Exit->Act->World->Prop}
def l3 (S:List Nat) (a:Array Bool):Prop:=∀s ∈ S,a.getD s true=false
def ox (P:Program) (md:Region.Mode) (ops:Array Oper) (S:List Nat) (C b:World->Prop) (Q:Exit->Act->World->Prop):Nat->Array Bool->Act->World->Prop
 | 0,listed,a,w=>((l3 S listed->C w)/\b w)/\Region.ready md ops listed=[]/\Q .normal a w
 | fuel+1,listed,a,w=>((l3 S listed->C w)/\b w)/\(Region.ready md ops listed=[]->Q .normal a w)/\
   ∀i ∈ Region.ready md ops listed,wpOp P ops Q i (ox P md ops S C b Q fuel (listed.setIfInBounds i true)) a w
theorem F8:∀(fuel:Nat) (b:Array Bool) (a:Act) (w:World),ox P md ops S C D Q fuel b a w->wpAny P md ops Q fuel b a w
 | 0,_,_,_,h=>h.2
 | fuel+1,b,a,w,h=>⟨h.2.1,λi hi=>wpOp_mono (λc w' d=>F8 fuel _ c w' d) (h.2.2 i hi)⟩
theorem ox.c {fuel:Nat} {b:Array Bool} {a:Act} {w:World} (h:ox P md ops S C D Q fuel b a w):(l3 S b->C w)/\D w:=by cases fuel<;>exact h.1
theorem yC {i:Nat} (hi:i ∉ S) {c:Array Bool}:l3 S (c.setIfInBounds i true)↔l3 S c:=by
 constructor
 · intro h s a
   have b:i≠s:=λe=>by subst e; exact hi a
   have:=h s a
   rwa [getD_set_ne true b] at this
 · intro h s a
   have b:i≠s:=λe=>by subst e; exact hi a
   rw [getD_set_ne true b];exact h s a
def ui (md:Region.Mode) (ops:Array Oper) (a:Array Bool):Prop:=∀(j:Nat) (o:Oper),ops[j]? = some o->a.getD j true=true->∀e ∈ o.after,Region.binds md e=true->a.getD e.on true=true
def uj (md:Region.Mode) (ops:Array Oper) (i:Nat):Nat->Nat->Bool
 | 0,_=>false
 | f+1,s=>match ops[s]? with
   | some os=>os.after.any λe=>Region.binds md e&&(Nat.beq e.on i||uj md ops i f e.on)
   | none=>false
theorem F9 {a:Array Bool} (j:ui md ops a) {i:Nat}:∀(f s:Nat),uj md ops i f s=true->(∀o,ops[s]? = some o->∀e ∈ o.after,Region.binds md e=true->a.getD e.on true=true)->a.getD i true=true
 | 0,s,h,_=>by simp [uj] at h
 | f+1,s,h,k=>by
   simp only [uj] at h
   cases b:ops[s]? with
   | none=>simp [b] at h
   | some o=>
     simp only [b] at h;obtain ⟨e,l,c⟩:=Array.any_eq_true'.1 h;simp only [cO,x5] at c;have d:=k o b e l c.1
     rcases c.2 with g | g
     · have:=kE g
       rw [this] at d; exact d
     · exact F9 j f e.on g λm n p q r=>j e.on m n d p q r
theorem F' {b:Array Bool} {j:Nat} (f:j ∈ Region.ready md ops b):∀o,ops[j]? = some o->∀e ∈ o.after,Region.binds md e=true->b.getD e.on true=true:=by
 intro o g e h i;obtain ⟨_,l,a,k⟩:=mem_ready.1 f;rw [g] at a
 injection a with a
 subst a;have d:=k e h i
 rcases kY e.on b.size with c | c
 · simp [iL,c] at d ⊢
   exact d
 · simp [iL,tQ c]
theorem ui.set {a:Array Bool} {j:Nat} (i:ui md ops a) (l:j ∈ Region.ready md ops a):ui md ops (a.setIfInBounds j true):=by
 have up:∀k,a.getD k true=true->(a.setIfInBounds j true).getD k true=true:=by
   intro k c
   by_cases b:j=k
   · subst b
     rcases kY j a.size with d | d
     · simp [iL,d]
     · simp [iL,d]
   · rw [getD_set_ne true b]; exact c
 intro k o f c e g h
 by_cases b:j=k
 · subst b
   exact up _ (F' l o f e g h)
 · rw [getD_set_ne true b] at c
   exact up _ (i k o f c e g h)
def Kept (md:Region.Mode) (ops:Array Oper) (S:List Nat) (C b a:World->Prop) (i:Nat):Prop:=
 (∀w,b w->a w)\/((∀w,C w->a w)/\∀s ∈ S,uj md ops i ops.size s=true)
theorem NF {i:Nat} {p:Oper} {v:Value} {s:World->Prop} (hi:ops[i]? = some p) (G:∀(j:Nat) (o:Oper) cs b,ops[j]? = some o->o.op≠.select cs b)
   (N:∀c a w,Q (.panic c) (a.put p.dst v) w->Q (.panic c) a w) (O:i ∉ S) (g:Kept md ops S C D s i) :
   ∀(fuel:Nat) (d:Array Bool) (a:Act) (w:World),
     (∀j q,ops[j]? = some q->j≠i->d.getD j true=false->(∀e ∈ q.after,Region.binds md e=true->e.on≠i)->p.apart ops q=true)->
     i ∈ Region.ready md ops d->ui md ops d->YV P ops s p v a->((l3 S d->C w)/\D w)->((∀w,D w->s w)\/l3 S d)->
     ox P md ops S C D Q fuel (d.setIfInBounds i true) (a.put p.dst v) w->ox P md ops S C D Q (fuel+1) d a w:=by
 have H:∀(d:Array Bool) (w:World),((l3 S d->C w)/\D w)->((∀w,D w->s w)\/l3 S d)->s w:=by
   intro d w f r
   rcases r with r | r
   · exact r w f.2
   · rcases g with g | g
     · exact g w f.2
     · exact g.1 w (f.1 r)
 intro fuel
 induction fuel with
 | zero=>
   intro d a w _ m _ z u n x;refine ⟨u,λh=>(by rw [h] at m; cases m),λj t=>?_⟩
   by_cases l:j=i
   · subst l; exact z.wpOp hi (H _ _ u n) x
   · have:=ready_mono t l
     rw [x.2.1] at this;cases this
 | succ fuel R=>
   intro d a w I m J z u n x;refine ⟨u,λh=>(by rw [h] at m; cases m),λj t=>?_⟩
   by_cases l:j=i
   · subst l; exact z.wpOp hi (H _ _ u n) x
   · have f:=x.2.2 j (ready_mono t l)
     obtain ⟨K,q,A,T⟩:=mem_ready.1 t
     have U:∀e ∈ q.after,Region.binds md e=true->e.on≠i:=λe V W X=>by
       have f:=T e V W;have y:=(mem_ready.1 m).1;rw [X] at f
       rcases kY i d.size with B | B
       · simp [B] at y f; rw [y] at f; cases f
       · simp [tQ B] at f
     have Y:(∀w,D w->s w)\/l3 S (d.setIfInBounds j true):=by
       rcases g with g | g
       · exact .inl g
       · rcases n with n | n
         · exact .inl n
         · refine .inr ((yC λZ=>?_).2 n)
           have aa:=F9 J _ j (g.2 j Z) (F' t);have y:=(mem_ready.1 m).1;rw [aa] at y;cases y
     have r:=FM A (I j q A l K U) (λcs b=>G i p cs b hi) (λcs b=>G j q cs b A) N z f
     have ab:∀k ok,ops[k]? = some ok->k≠i->(d.setIfInBounds j true).getD k true=false->
         (∀e ∈ ok.after,Region.binds md e=true->e.on≠i)->p.apart ops ok=true:=λk ok ac ad L ae=>by
       refine I k ok ac ad ?_ ae
       by_cases M:j=k
       · subst M; exact K
       · rw [getD_set_ne true M] at L; exact L
     refine wpOp_mono (λaf w' E=>R (d.setIfInBounds j true) af w' ab (ready_mono m (vP l)) (J.set t) E.1 ?_ Y ?_) r
     · have F:=E.2.c
       rw [AX _ _ (vP l)] at F;exact ⟨λag=>F.1 ((yC O).2 ag),F.2⟩
     · rw [AX _ _ l]
       exact E.2
inductive kH where
 | nil
 | stop
 | q (m:Bool) (i:Nat) (r:kH)
 | e (i:Nat) (r alt:kH)
def kH.alts:kH->List Nat
 | .e i _ a=>i::a.alts
 | _=>[]
def behind (md:Region.Mode) (ops:Array Oper) (i:Nat) (S:List Nat):Bool:=S.all λs=>uj md ops i ops.size s
def yD (i:Nat) (S:List Nat):Bool:=S.all λs=>!(Nat.beq s i)
theorem F_ {i:Nat} (h:yD i S=true):i ∉ S:=λhi=>by
 have:=fG.1 h i hi;simp at this
def rJ (md:Region.Mode) (ops:Array Oper):List Nat->Array Bool->Bool
 | [],listed=>(Region.ready md ops listed).isEmpty
 | s::r,listed=>Region.ready md ops listed==[s]&&rJ md ops r (listed.setIfInBounds s true)
def jW (md:Region.Mode) (ops:Array Oper) (S:List Nat):Bool->kH->Nat->Array Bool->Bool
 | top,.nil,k,listed=>top&&(Nat.beq k S.length&&rJ md ops S listed)
 | top,.stop,_,_=>!top
 | top,.q m i r,k,listed=>match k with
   | 0=>false
   | k+1=>top&&((Region.ready md ops listed).contains i&&(Region.free md ops listed i&&(yD i S&&((!m||behind md ops i S)&&jW md ops S true r k (listed.setIfInBounds i true)))))
 | top,.e i r alt,k,listed=>match k with
   | 0=>false
   | k+1=>(bif top then Region.ready md ops listed==i::alt.alts else true)&&(yD i S&&(jW md ops S true r k (listed.setIfInBounds i true)&&jW md ops S false alt (k+1) listed))
def rK (P:Program) (ops:Array Oper) (b:World->Prop) (Q:Exit->Act->World->Prop):List Nat->Act->World->Prop
 | [],a,w=>b w/\Q .normal a w
 | s::r,a,w=>b w/\wpOp P ops Q s (rK P ops b Q r) a w
def pr (P:Program) (ops:Array Oper) (S:List Nat) (C b:World->Prop) (Q:Exit->Act->World->Prop):kH->Act->World->Prop
 | .nil,a,w=>C w/\rK P ops b Q S a w
 | .stop,_,_=>True
 | .q m i r,a,w=>(C w/\b w)/\∃o v,ops[i]? = some o/\YV P ops (bif m then C else b) o v a/\pr P ops S C b Q r (a.put o.dst v) w
 | .e i r alt,a,w=>(C w/\b w)/\(wpOp P ops Q i (pr P ops S C b Q r) a w/\pr P ops S C b Q alt a w)
theorem NG:∀(r:List Nat) (b:Array Bool) (a:Act) (w:World),(r=S/\C w\/¬l3 S b)->(∀s ∈ r,s ∈ S)->(∀s ∈ r,b.getD s true=false)->rJ md ops r b=true->rK P ops D Q r a w->ox P md ops S C D Q r.length b a w
 | [],b,a,w,c,_,_,d,h=>⟨⟨λe=>(by rcases c with c | c; exact c.2; exact absurd e c),h.1⟩,by simpa [rJ] using d,h.2⟩
 | s::r,b,a,w,c,l,n,d,h=>by
   simp only [rJ,cO,beq_iff_eq] at d;refine ⟨⟨λe=>(by rcases c with c | c; exact c.2; exact absurd e c),h.1⟩,λi=>(by rw [i] at d; cases d.1),λj g=>?_⟩;rw [d.1] at g;simp at g;subst g
   have o:j<b.size:=by
     have:=n j aj
     rcases kY j b.size with f | f
     · exact f
     · simp [tQ f] at this
   have p:¬l3 S (b.setIfInBounds j true):=λe=>by
     have:=e j (l j aj);simp [iL,o] at this
   refine wpOp_mono (λm w' f=>Ga r (b.setIfInBounds j true) m w' p (λs k=>l s (by simp [k])) d.2 f) h.2
where
 Ga:∀(r:List Nat) (b:Array Bool) (a:Act) (w:World),¬l3 S b->(∀s ∈ r,s ∈ S)->rJ md ops r b=true->rK P ops D Q r a w->ox P md ops S C D Q r.length b a w
 | [],b,a,w,c,_,d,h=>⟨⟨λe=>absurd e c,h.1⟩,by simpa [rJ] using d,h.2⟩
 | s::r,b,a,w,c,l,d,h=>by
   simp only [rJ,cO,beq_iff_eq] at d;refine ⟨⟨λe=>absurd e c,h.1⟩,λi=>(by rw [i] at d; cases d.1),λj g=>?_⟩;rw [d.1] at g;simp at g;subst g;refine wpOp_mono (λm w' f=>Ga r (b.setIfInBounds j true) m w' (λe=>c λs k=>?_) (λs k=>l s (by simp [k])) d.2 f) h.2;have:=e s k
   rcases Nat.decEq j s with q | i
   · rwa [getD_set_ne true q] at this
   · subst i
     rcases kY j b.size with f | f
     · simp [iL,f] at this
     · simp [iL] at this
theorem yE {ok:Option Tmp->Bool} (p:ug ok ops=true) (l:Region.noSelect ops=true) (t:∀c a w d v,ok d=true->Q (.panic c) (a.put d v) w->Q (.panic c) a w):∀(o:kH) (k:Nat) (f:Array Bool) (a:Act) (w:World),l3 S f->ui md ops f->
   (jW md ops S true o k f=true->pr P ops S C D Q o a w->ox P md ops S C D Q k f a w)/\
   ((∀j ∈ o.alts,j ∈ Region.ready md ops f)->jW md ops S false o k f=true->pr P ops S C D Q o a w->∀j ∈ o.alts,∃x,k=x+1/\wpOp P ops Q j (ox P md ops S C D Q x (f.setIfInBounds j true)) a w)
 | .nil,k,f,a,w,hu,_=>by
   refine ⟨λb h=>?_,λ_ b=>by simp [jW] at b⟩;simp only [jW,dw,cO] at b;obtain rfl:=kE b.1;exact NG S f a w (.inl ⟨O,h.1⟩) an hu b.2 h.2
 | .stop,k,f,a,w,hu,_=>⟨λb=>by simp [jW] at b,λ_ _ _ j g=>by simp [kH.alts] at g⟩
 | .q m i r,k,f,a,w,hu,n=>by
   cases k with
   | zero=>exact ⟨λb=>by simp [jW] at b,λ_ b=>by simp [jW] at b⟩
   | succ k=>
     refine ⟨λb h=>?_,λ_ b=>by simp [jW] at b⟩;simp only [jW,dw,cO] at b;obtain ⟨H,I,J,A,K⟩:=b;obtain ⟨B,o,v,y,L,h⟩:=h;have E:=F_ J
     have M:Kept md ops S C D (bif m then C else D) i:=by
       cases m with
       | false=>exact .inl λ_ h=>h
       | true=>
         refine .inr ⟨λ_ h=>h,λs l=>?_⟩;simp only [Bool.not_true,Bool.false_or] at A;exact fG.1 A s l
     have F:i ∈ Region.ready md ops f:=by simpa using H
     exact NF y (Region.noSelect_spec l) (λc a w=>t c a w o.dst v (F4 p y)) E M k f a w (Region.free_spec y I) F n L ⟨λ_=>B.1,B.2⟩ (.inr hu)
       ((yE p l t r k _ _ _ ((yC E).2 hu) (n.set F)).1 K h)
 | .e i r alt,k,f,a,w,hu,n=>by
   cases k with
   | zero=>exact ⟨λb=>by simp [jW] at b,λ_ b=>by simp [jW] at b⟩
   | succ k=>
     have G:(∀j ∈ i::alt.alts,j ∈ Region.ready md ops f)->yD i S=true->jW md ops S true r k (f.setIfInBounds i true)=true->jW md ops S false alt (k+1) f=true->pr P ops S C D Q (.e i r alt) a w->
         ∀j ∈ i::alt.alts,wpOp P ops Q j (ox P md ops S C D Q k (f.setIfInBounds j true)) a w:=by
       intro u N R T h j g
       rcases dU.1 g with rfl | g
       · exact wpOp_mono (λU w' V=>(yE p l t r k _ U w' ((yC (F_ N)).2 hu) (n.set (u _ aj))).1 R V) h.2.1
       · obtain ⟨x,z,W⟩:=(yE p l t alt (k+1) f a w hu n).2 (λj g=>u j (by simp [g])) T h.2.2 j g
         injection z with z
         subst z;exact W
     refine ⟨λb h=>?_,λu b h j g=>?_⟩
     · simp only [jW,cond_true,cO,beq_iff_eq] at b
       refine ⟨⟨λ_=>h.1.1,h.1.2⟩,λX=>(by rw [X] at b; cases b.1),λj g=>?_⟩;rw [b.1] at g;exact G (λj g=>by rw [b.1]; exact g) b.2.1 b.2.2.1 b.2.2.2 h j g
     · simp only [jW,cond_false,dw,cO] at b
       exact ⟨k,O,G u b.1 b.2.1 b.2.2 h j g⟩
variable {n:Nat} {ds:List Deferred} {l:List (Nat×Value)} {W:World->Prop}
def WU (P:Program) (ops:Array Oper) (S:List Nat) (C b:World->Prop) (Q:Exit->Act->World->Prop) (n:Nat) (ds:List Deferred) (l:List (Nat×Value)) (W:World->Prop) (ord:kH):Prop:=
 ∀a w,Ag n ds l a->W w->pr P ops S C b Q ord a w
def WS (P:Program) (ops:Array Oper) (b:World->Prop) (Q:Exit->Act->World->Prop) (n:Nat) (ds:List Deferred) (l:List (Nat×Value)) (W:World->Prop) (S:List Nat):Prop:=
 ∀a w,Ag n ds l a->W w->rK P ops b Q S a w
abbrev nb:World->Prop:=λ_=>True
def nT (k:Nat) (S:List Nat):Bool:=S.all λs=>Nat.blt s k
theorem NH (h:nT ops.size S=true):l3 S (Array.replicate ops.size false):=λs a=>by
 have:=fG.1 h s a;have b:=Nat.blt_eq.mp this;simp [iL,b]
theorem WC.NI {id:Nat} {os:List Oper} {W' e f:World->Prop} (ok:Option Tmp->Bool) (S:List Nat) (ord:kH) (g:P.follows .mixedOrders=true) (i:∀w,W' w->W' w.drew)
   (b:(ug ok os.toArray&&(Region.noSelect os.toArray&&(nT os.toArray.size S&&jW .any os.toArray S true ord os.toArray.size (Array.replicate os.toArray.size false))))=true)
   (k:∀c a w d v,ok d=true->Q (.panic c) (a.put d v) w->Q (.panic c) a w) (h:WU P os.toArray S e f Q n ds l W' ord):WC P (.region id os.toArray true) Q n ds l W':=by
 intro a w m p;simp only [cO] at b
 have:=F8 (md:=.any) _ _ _ _ ((yE b.1 b.2.1 k ord _ _ a w.drew (NH b.2.2.1) (λj o q r=>by
   have s:j<os.length:=by simpa using (Array.getElem?_eq_some_iff.1 q).1
   simp [iL,Array.getElem?_replicate,s] at r)).1 b.2.2.2 (h a w.drew m (i w p)))
 exact wp_region_any g this
theorem CU {id:Nat} {os:List Oper} {b:World} {e:List Nat} {L:List aW} {Vs:List View} (ok:Option Tmp->Bool) (f:List Nat) (S:List Nat) (ord:kH) (g:P.follows .mixedOrders=true)
   (i:(ug ok os.toArray&&(Region.noSelect os.toArray&&(nT os.toArray.size S&&jW .any os.toArray S true ord os.toArray.size (Array.replicate os.toArray.size false))))=true)
   (j:∀c a w d v,ok d=true->Q (.panic c) (a.put d v) w->Q (.panic c) a w) (h:WU P os.toArray S (Ws b e (outs f L) Vs) nb Q n ds l (Ws b e L Vs) ord):WC P (.region id os.toArray true) Q n ds l (Ws b e L Vs):=
 WC.NI ok S ord g (λ_ h=>h.drew) i j h
theorem WV.q {m:Bool} {r:kH} {i d:Nat} {op:Op} {ty:TypeId} {pos:String} {af:Array Edge} {g:Option (Nat×Bool)} {v:Value} (hi:ops[i]? = some ⟨some d,op,ty,pos,af,g⟩) (e:dN ops l g) (f:Nat.blt d n=true)
   (j:∀w,W w->C w) (k:∀w,W w->D w) (p:Yl P l (bif m then C else D) ⟨some d,op,ty,pos,af,g⟩ v) (h:WU P ops S C D Q n ds ((d,v)::l) W r):WU P ops S C D Q n ds l W (.q m i r):=by
 intro a w b c;refine ⟨⟨j w c,k w c⟩,_,v,hi,.inl ⟨dN.wanted (o:=⟨some d,op,ty,pos,af,g⟩) e b,λw' s=>p a.eval w' (λx u t=>b.eval t) s⟩,h _ _ (b.put f v) c⟩
theorem Uq {m:Bool} {r:kH} {i d:Nat} {op:Op} {ty:TypeId} {pos:String} {af:Array Edge} {g:Option (Nat×Bool)} {v:Value} (hi:ops[i]? = some ⟨some d,op,ty,pos,af,g⟩) (a:dN ops l g) (b:Nat.blt d n=true)
   (c:∀w,W w->C w) (e:Yl P l (bif m then C else λ_=>True) ⟨some d,op,ty,pos,af,g⟩ v) (h:WU P ops S C nb Q n ds ((d,v)::l) W r):WU P ops S C nb Q n ds l W (.q m i r):=WV.q hi a b c (λ_ _=>trivial) e h
theorem U0 {m:Bool} {r:kH} {i d:Nat} {op:Op} {ty:TypeId} {pos:String} {af:Array Edge} {v:Value} (hi:ops[i]? = some ⟨some d,op,ty,pos,af,none⟩) (a:∀w,W w->C w) (b:Yl P l (bif m then C else λ_=>True) ⟨some d,op,ty,pos,af,none⟩ v) (h:WU P ops S C nb Q n ds ((d,v)::l) W r) (c:Nat.blt d n=true:=by rfl):WU P ops S C nb Q n ds l W (.q m i r):=Uq hi (.inl rfl) c a b h
theorem WU.skip {r:kH} {i d:Nat} {op:Op} {ty:TypeId} {pos:String} {af:Array Edge} {j:Nat} {b:Bool} {f:Oper} {c:Nat} (hi:ops[i]? = some ⟨some d,op,ty,pos,af,some (j,b)⟩) (m:Nat.blt d n=true)
   (o:ops[j]? = some f) (p:f.dst=some c) (s:Nat.blt c n=true) (t:lk l c=some (.bool (!b)))
   (u:∀w,W w->C w) (h:WU P ops S C nb Q n ds ((d,undef)::l) W r):WU P ops S C nb Q n ds l W (.q false i r):=by
 intro a w e g;have hv:a.tmps.getD c undef = .bool (!b):=e.gv c _ t
 have k:c<a.tmps.size:=by rw [e.size]; exact oq s
 have v:a.tmps[c]? = some (.bool (!b)):=by
   rw [iL,sB k] at hv;rw [sB k]
   simpa using hv
 have x:yielded ops a.tmps j=some (!b):=by simp [yielded,o,p,v]
 exact ⟨⟨u w g,trivial⟩,_,undef,hi,.inr ⟨by simp [Region.wanted,x],O⟩,h _ _ (e.put m undef) g⟩
theorem Gb {i:Nat} {o:Oper} {d:Act->World->Prop} (hi:ops[i]? = some o) {a:Act} {w:World} (this:wpList P ops (Exit.then d Q) [o] a w):wpOp P ops Q i d a w:=by
 unfold wpList at this;unfold wpOp;simp only [hi]
 split
 · rename_i c
   rw [if_pos c] at this
   rcases this with this | ⟨f,a2,g,h⟩
   · left
     unfold Oper.wp at this ⊢;unfold Oper.upon at this ⊢
     split at this
     all_goals first
       | exact this
       | (refine this.mono λe w' b=>?_
          cases e with
          | returned v=>exact b
          | panicked l=>exact b
          | outgrown=>obtain ⟨a3,j,k⟩:=b; exact ⟨a3,j,k⟩)
       | exact this.mono λv w' b=>b
   · exact .inr ⟨f,a2,g,h⟩
 · rename_i c
   rw [if_neg c] at this;exact this
theorem WV.e {r c:kH} {i:Nat} {o:Oper} (hi:ops[i]? = some o) (f:∀w,W w->C w) (g:∀w,W w->D w) (h:WL P ops (Exit.then (pr P ops S C D Q r) Q) n ds l W [o]) (j:WU P ops S C D Q n ds l W c):WU P ops S C D Q n ds l W (.e i r c):=
 λa w d b=>⟨⟨f w b,g w b⟩,Gb hi (h a w d b),j a w d b⟩
theorem Ue {r a:kH} {i:Nat} {o:Oper} (hi:ops[i]? = some o) (b:∀w,W w->C w) (h:WL P ops (Exit.then (pr P ops S C nb Q r) Q) n ds l W [o]) (c:WU P ops S C nb Q n ds l W a):WU P ops S C nb Q n ds l W (.e i r a):=WV.e hi b (λ_ _=>trivial) h c
theorem WU.stop:WU P ops S C D Q n ds l W .stop:=λ_ _ _ _=>trivial
theorem Eu {r:kH} (h:WU P ops S C D Q n ds l W r):WE (Exit.then (pr P ops S C D Q r) Q) .normal n ds l W:=h
theorem WU.nil (c:∀w,W w->C w) (h:WS P ops D Q n ds l W S):WU P ops S C D Q n ds l W .nil:=λa w d b=>⟨c w b,h a w d b⟩
theorem BC.nil (c:∀w,W w->D w) (h:WE Q .normal n ds l W):WS P ops D Q n ds l W []:=λa w d b=>⟨c w b,h a w d b⟩
theorem WS.nil (h:WE Q .normal n ds l W):WS P ops nb Q n ds l W []:=BC.nil (λ_ _=>trivial) h
theorem BC.e {s:Nat} {r:List Nat} {o:Oper} (hi:ops[s]? = some o) (c:∀w,W w->D w) (h:WL P ops (Exit.then (rK P ops D Q r) Q) n ds l W [o]):WS P ops D Q n ds l W (s::r):=
 λa w d b=>⟨c w b,Gb hi (h a w d b)⟩
theorem WS.e {s:Nat} {r:List Nat} {o:Oper} (hi:ops[s]? = some o) (h:WL P ops (Exit.then (rK P ops nb Q r) Q) n ds l W [o]):WS P ops nb Q n ds l W (s::r):=BC.e hi (λ_ _=>trivial) h
theorem Es {r:List Nat} (h:WS P ops D Q n ds l W r):WE (Exit.then (rK P ops D Q r) Q) .normal n ds l W:=h
end
end Go.Bw
end
section
namespace Go.Bw
set_option linter.unnecessarySimpa false
open Go Go.RowKit
theorem Gc {α:Type} {f:α->List Value} {e:TypeId} {k c b o:Nat} {a:Option Addr} {xs:List α} {w:World} (h:(bS e k f a c xs).holds w) (j:a=some ⟨b,o,none⟩) :
   o=0/\∃i,w.heap[b]? = some (.cells i e (0,0))/\i.toList.take (xs.length*k)=xs.flatMap f/\i.size=c*k/\xs.length<=c:=by
 subst j;obtain ⟨t,l⟩:=(h:w.ownsRow 0 e k _ xs.length (xs.flatMap f))
 rcases l with ⟨d,_⟩ | ⟨g,cap,i,hv,_,m,n,u,p,q⟩
 · cases d
 · injection hv with d _ r
   injection d with d
   injection d with d s
   subst d r s;exact ⟨O,i,m,q,p,n⟩
section
variable {P:Program} {ops:Array Oper} {Q:Exit->Act->World->Prop} {n:Nat} {ds:List Deferred} {l:List (Nat×Value)} {w0:World} {F:List Nat} {L:List aW} {Vs:List View} {rest:List Oper}
 {ty:TypeId} {pos:String} {af:Array Edge} {g:Option (Nat×Bool)}
theorem Gd {α:Type} {f:α->List Value} {e:TypeId} {k c:Nat} {a:Option Addr} {xs:List α} {w:World} (h:Ws w0 F L Vs w) (i:Nat) (j:L[i]? = some (bS e k f a c xs)) (o:0<xs.length):(∃b,a=some ⟨b,0,none⟩)/\xs.length<=c/\c<=maxLen:=by
 obtain ⟨p,l⟩:=(h.kn _ (eL j):w.ownsRow 0 e k _ xs.length (xs.flatMap f))
 rcases l with ⟨d,g⟩ | ⟨b,cap,q,hv,_,_,m,n,_⟩
 · injection d with _ r _; omega
 · injection hv with d _ g
   subst d g;exact ⟨⟨b,O⟩,m,n⟩
theorem WC.sM {α:Type} {f:α->List Value} {d:Code} {e:TypeId} {k c:Nat} {a:Option Addr} {xs:List α} (i:Nat) (j:L[i]? = some (bS e k f a c xs)) (m:0<xs.length)
   (h:∀b,a=some ⟨b,0,none⟩->xs.length<=c->c<=maxLen->WC P d Q n ds l (Ws w0 F L Vs)):WC P d Q n ds l (Ws w0 F L Vs):=by
 intro A w o g;obtain ⟨⟨b,p⟩,q,r⟩:=Gd g i j m;exact h b p q r A w o g
theorem WL.sM {α:Type} {f:α->List Value} {e:TypeId} {k c:Nat} {a:Option Addr} {xs:List α} (i:Nat) (g:L[i]? = some (bS e k f a c xs)) (j:0<xs.length)
   (h:∀b,a=some ⟨b,0,none⟩->xs.length<=c->c<=maxLen->WL P ops Q n ds l (Ws w0 F L Vs) rest):WL P ops Q n ds l (Ws w0 F L Vs) rest:=by
 intro A w m d;obtain ⟨⟨b,o⟩,p,q⟩:=Gd d i g j;exact h b o p q A w m d
theorem dz {α:Type} {f:α->List Value} {t e:TypeId} {x:Operand} {b o p k c:Nat} {a:Option Addr} {xs:List α} {y:α} {v:Value} {d:Option Tmp} (i j q:Nat) (r:bn l x=some (.pointer (some ⟨b,p,none⟩))) (s:L[i]? = some (bS e k f a c xs)) (u:a=some ⟨b,o,none⟩)
   (z:p=o+j*k+q) (m:∀x,(f x).length=k) (A:xs[j]? = some y) (n:(f y)[q]? = some v) (B:nJ P t=true):Yl P l (Ws w0 F L Vs) ⟨d,.load t x,ty,pos,af,g⟩ v:=Bf B r λw C=>by
 obtain ⟨rfl,H,D,E,I,J⟩:=Gc (C.kn _ (eL s)) u;refine cell_of_heap D ?_
 have G:q<k:=by have:=(cf.1 n).1; rw [m] at this; exact this
 have h:(xs.flatMap f)[j*k+q]? = some v:=by rw [qv m A G]; exact n
 rw [<-E,jy] at h
 split at h
 · subst z; simpa [gQ] using h
 · cases h
theorem WL.storeT {α:Type} {f:α->List Value} {t e:TypeId} {x B:Operand} {b o p k m c:Nat} {a:Option Addr} {xs:List α} {y:α} {v:Value} (i j q:Nat) (s:α) (R:dN ops l g) (S:bn l x=some (.pointer (some ⟨b,p,none⟩))) (T:bn l B=some v) (E:L[i]? = some (bS e k f a c xs)) (u:a=some ⟨b,o,none⟩)
   (U:p=o+j*k+q) (G:∀x,(f x).length=k) (H:xs[j]? = some y) (V:dI P t=some m) (z:(e_ v).length=m) (W:(e_ v).all (·.oneCell')=true) (aw:q+m<=k) (X:f s=(f y).take q++e_ v++(f y).drop (q+m))
   (h:WL P ops Q n ds l (Ws w0 F (L.set i (bS e k f a c (xs.set j s))) Vs) rest):WL P ops Q n ds l (Ws w0 F L Vs) (⟨none,.store t x B,ty,pos,af,g⟩::rest):=by
 refine WL.step R λA w C I ax Y=>?_;have J:(bS e k f a c xs).holds w:=I.kn _ (eL E);obtain ⟨rfl,d,K,Z,D,aa⟩:=Gc J u;have ab:j<xs.length:=(cf.1 H).1
 have ay:j*k+k<=xs.length*k:=by rw [<-A2]; exact vM _ ab
 have az:xs.length*k<=c*k:=vM _ aa
 have ac:qu (.cells d e (0,0)) p m=true:=by
   simp only [qu,AW,Bool.and_true,Bool.and_self];exact E9 (by simp [D]; omega)
 have ad:(execOp A.eval ⟨none,.store t x B,ty,pos,af,g⟩).run P w = .ok .skip { w with heap:=w.heap.setIfInBounds b (qt (.cells d e (0,0)) p (e_ v)) }:=by
   simp only [execOp,C.eval S,C.eval T,Instr.storeAt,Instr.sureAddr,Sem.run_bind,Sem.run_pure,Result.andThen_ok,FG V z W K ac]
 simp only [Oper.wp,ad,Oper.upon_skip];refine Y _ _ (h _ _ (C.vW undef) ?_);have ag:=lt_of_heap K
 have M:(xs.set j s).length=xs.length:=aj
 have ah:=M6 G H (j:=q) (vs:=e_ v) (y:=s) ae (by rw [z]; exact X);refine Ws.dM I i E ⟨O,O,O,aj,λai aA ak=>?_⟩ ?_ (by subst u; simp [b6,Value.ownBlock]) (λaB N=>?_)
 · have:b≠ai:=λal=>ak (by subst u; simp [b6,Value.ownBlock,al])
   simp [rm this]
 · show World.ownsRow _ 0 e k (.slice a (xs.set j s).length c) (xs.set j s).length _
   rw [M];obtain ⟨aC,am⟩:=(J:w.ownsRow 0 e k _ xs.length (xs.flatMap f));refine ⟨by rw [dR G,M],.inr ?_⟩
   rcases am with ⟨an,_⟩ | ⟨g,cap,aD,hv,aE,aF,ao,ap,aG,aH⟩
   · subst u; cases an
   · subst u
     injection hv with r _ aq
     injection r with r
     injection r with r
     subst r aq;refine ⟨b,c,(d.toList.take p++e_ v++d.toList.drop (p+(e_ v).length)).toArray,O,cq _,?_,ao,ap,?_,?_⟩
     · show (w.heap.setIfInBounds b _)[b]? = _
       simp [ag,qt]
     · simp [D]; omega
     · rw [<-ah,<-Z]
       subst U;simp only [cj]
       have ar:d.toList.length=c*k:=by simp [D]
       have au:((d.toList.take (xs.length*k)).take (j*k+q))=d.toList.take (j*k+q):=by rw [List.take_take]; congr 1; omega
       have av:(d.toList.take (j*k+q)).length=j*k+q:=by rw [jh,ar]; omega
       have r:(d.toList.take (j*k+q)++e_ v).length=j*k+q+m:=by rw [dG,av,z]
       rw [au,z]
       have aI:xs.length*k=(j*k+q+m)+(xs.length*k-(j*k+q+m)):=ae
       rw [E7,r,kF (by rw [r]; omega),List.drop_take]
 · refine .inl ?_
   simp only [b6] at N ⊢;subst u
   simpa [Value.ownBlock] using N
theorem WL.perm {L':List aW} (a:L.Perm L') (h:WL P ops Q n ds l (Ws w0 F L' Vs) rest):WL P ops Q n ds l (Ws w0 F L Vs) rest:=LW (λ_ h=>h.perm a) h
end
end Go.Bw
end
section
namespace Go.Bw
set_option linter.unnecessarySimpa false
open Go Go.RowKit
section
variable {P:Program} {ops:Array Oper} {Q:Exit->Act->World->Prop} {n:Nat} {ds:List Deferred} {l:List (Nat×Value)} {w0 w:World} {F:List Nat} {L:List aW} {Vs:List View} {rest:List Oper} {A:aW} {As:List aW}
theorem Ws.bu (h:Ws w0 F L Vs w) (i:Nat) (a:L[i]? = some A):Ws w0 F (A::eu i L) Vs w:=h.perm (mx i L a)
theorem WL.NK {t i e:TypeId} {f:Value} {kn k:IntKind} {p d:Nat} {x y:Operand} {ty:TypeId} {pos:String} {af:Array Edge} {g:Option (Nat×Bool)} (m:Nat) (s:dN ops l g) (u:Nat.blt d n=true) (j:gg P t e f 1 p) (v:P.underlying i=some (.int kn))
   (z:bn l x=some (.slice none 0 0)) (A:bn l y=some (.int k (m:Int))) (B:0<m) (q:m<=maxLen) (C:m*p<=281474976710656)
   (h:∀b c r,m<=c->c<=maxLen->r.size=c->WL P ops Q n ds ((d,.slice (some ⟨b,0,none⟩) m c)::l) (Ws w0 F (ao b (.cells r e (0,0))::L) Vs) rest) :
   WL P ops Q n ds l (Ws w0 F L Vs) (⟨some d,.call ⟨.builtin .append,#[x,y],#[t,i]⟩,ty,pos,af,g⟩::rest):=by
 refine WL.step s λa w o D O E=>?_;obtain ⟨G,hi,H,R,I⟩:=j.info;have J:=Lib.run_append_nil_zeros (P:=P) w t i ty e G f k kn j.under v hi H m B ae (by unfold maxLen at q; omega) (by rw [I]; exact C)
 have K:(execOp a.eval ⟨some d,.call ⟨.builtin .append,#[x,y],#[t,i]⟩,ty,pos,af,g⟩).run P w = .ok (.value (.slice (some ⟨w.heap.size,0,none⟩) m (grownCap w m 0 e))) (w.drew.alloc (.cells (Builtin.zeroCells f.cells m++Builtin.zeroCells f.cells (grownCap w m 0 e-m)) e)):=by
   simp only [execOp,resolve,vN,jT,vO,o.eval z,o.eval A,Sem.run_bind,Sem.run_pure,Result.andThen_ok,invoke,builtin,J]
 simp only [Oper.wp,K,Oper.upon_value];have M:=grownCap_ge w m 0 e;refine E _ _ (h w.heap.size _ (Builtin.zeroCells f.cells m++Builtin.zeroCells f.cells (grownCap w m 0 e-m)) M (grownCap_le_maxLen w m 0 e q) ?_ _ _ (o.put u _) ?_)
 · have N:f.cells.size=1:=j.zs
   simp [Builtin.zeroCells,N]; omega
 · exact D.drew.alloc _
end
section
variable {P:Program} {l:List (Nat×Value)} {W:World->Prop} {d:Option Tmp} {ty:TypeId} {pos:String} {af:Array Edge} {g:Option (Nat×Bool)}
theorem Ge {t:TypeId} {x:Operand} {a:Option Addr} {n c s:Nat} (b:fk P t=some s) (f:bn l x=some (.slice a n c)):Yl P l W ⟨d,.call ⟨.builtin .cap,#[x],#[t]⟩,ty,pos,af,g⟩ (.int .i64 (c:Int)):=by
 intro ρ w h _;unfold fk at b
 cases e:P.underlying t with
 | none=>simp [e] at b
 | some i=>
   cases i<;>simp [e] at b
   simp [execOp,resolve,invoke,builtin,h x _ f,Builtin.cap_,run_underlying e,goInt]
end
end Go.Bw
end
section
namespace Go.Bw
set_option linter.unnecessarySimpa false
open Go Go.RowKit
section
variable {P:Program} {ops:Array Oper} {Q:Exit->Act->World->Prop} {n:Nat} {ds:List Deferred} {l:List (Nat×Value)} {w0 w:World} {F:List Nat} {L:List aW} {Vs:List View} {rest:List Oper}
 {ty:TypeId} {pos:String} {af:Array Edge} {g:Option (Nat×Bool)} {d:Nat}
theorem WL.wj {α:Type} {f:α->List Value} {rd:View->Nat->Nat->α->Prop} {t e:TypeId} {U:Value} {size K:Nat} {s y:Operand} {a a2:Option Addr} {c c2:Nat} {xs ys:List α} (i:Nat) (j:World->View) (M:dN ops l g) (N:Nat.blt d n=true) (q:gg P t e U size K)
   (O:bn l s=some (.slice a xs.length c)) (R:bn l y=some (.slice a2 ys.length c2)) (z:L[i]? = some (bS e size f a c xs)) (S:∀w,Ws w0 F L Vs w->Le (j w) w/\Sl rd size (j w) a2 c2 ys) (V:∀j b o x,rd j b o x->bR j b o (f x))
   (T:∀x,(f x).length=size) (W:∀x,(f x).all (·.oneCell')=true) (av:xs.length+ys.length<=9223372036854775807) (X:(xs.length+ys.length)*K<=140737488355328)
   (h:∀D E,WL P ops Q n ds ((d,.slice D (xs++ys).length E)::l) (Ws w0 F (L.set i (bS e size f D E (xs++ys))) Vs) rest) :
   WL P ops Q n ds l (Ws w0 F L Vs) (⟨some d,.call ⟨.builtin .append,#[s,y],#[t,t]⟩,ty,pos,af,g⟩::rest):=by
 cases a2 with
 | none=>
   refine WL.step M λA w I B aw Y=>?_;obtain ⟨Z,hi,ax,ay,az⟩:=q.info;obtain ⟨_,G⟩:=S w B
   have aa:ys=[]:=by
     cases ys with
     | nil=>rfl
     | cons x r=>obtain ⟨b,o,C,_⟩:=G.bT 0 x rfl; cases C
   subst aa;have ab:w.ownsRow 0 e size (.slice a xs.length c) xs.length (xs.flatMap f):=B.kn _ (eL z)
   have ac:xs.length<=c:=by
     rcases ab.2 with ⟨ad,_⟩ | ⟨b,cap,aA,hv,_,_,aB,_⟩
     · injection ad with _ aC ae; omega
     · injection hv with _ _ ae; omega
   have ag:=run_append_nothing (P:=P) w t t ty e Z q.under hi a xs.length c ac (.slice none 0 c2) ⟨.inl ⟨e,q.under⟩,by simp [Builtin.lenOf],run_firstCells_none w _ 0 0 c2,run_firstCells_none w.drew _ 0 0 c2,aj,aj⟩
   have ah:(execOp A.eval ⟨some d,.call ⟨.builtin .append,#[s,y],#[t,t]⟩,ty,pos,af,g⟩).run P w = .ok (.value (.slice a xs.length c)) w:=by
     simp only [execOp,resolve,vN,jT,vO,I.eval O,I.eval R,Sem.run_bind,Sem.run_pure,Result.andThen_ok,invoke,builtin,eT,ag]
   simp only [Oper.wp,ah,Oper.upon_value];have ai:i<L.length:=(cf.1 z).1
   have ak:L.set i (bS e size f a c xs)=L:=by
     rw [<-(cf.1 z).2]; exact vQ ai
   have J:=h a c;simp only [h3] at J;rw [ak] at J;exact Y _ _ (J _ _ (I.put N _) B)
 | some p=>
   have al:(xs.flatMap f)++ys.flatMap f=(xs++ys).flatMap f:=aj
   have am:xs.length+ys.length=(xs++ys).length:=aj
   refine WL.append i M N q O R z (news:=ys.flatMap f) (k:=ys.length) (dR T ys) (λw B k u H=>?_) (λu H=>?_) (by unfold maxLen; omega) X λan _=>?_
   · obtain ⟨ao,G⟩:=S w B
     have ap:=(cf.1 H).1
     have aq:0<ys.length:=by
       cases ys with
       | nil=>simp at ap
       | cons x r=>simp
     obtain ⟨b,o,C,_⟩:=G.bT 0 _ (dL aq)
     injection C with C
     subst C;rw [m_];have ar:=q.pos;exact ao.cell (G.flat T ar (V _) k u H)
   · obtain ⟨x,_,au⟩:=lX.1 H
     exact fG.1 (W x) u au
   · rw [al,am]
     have hi:i<L.length:=(cf.1 z).1;refine WL.Bq i (m:=(xs++ys).length) (xs:=(xs++ys).flatMap f) (e:=e) (size:=size) (v:=an) (by simp [hi]) λD E hv=>?_;subst hv;exact h D E
theorem WL.Gf {ι:Type} {f:FuncId} {args:Array Operand} {ts:Array TypeId} {vs:List Value} (m:dN ops l g) (o:Nat.blt d n=true) (p:Enters P f) (q:iu l args.toList=some vs)
   (v:ι->Value) (c:ι->List aW) (R:ι->Prop)
   (r:∀w,Ws w0 F L Vs w->Calls P f vs.toArray w λe w'=>∃i,e = .returned (v i)/\R i/\Ws w [] (c i) [] w')
   (s:∀i,R i->WL P ops Q n ds ((d,v i)::l) (Ws w0 F (c i++L) Vs) rest) :
   WL P ops Q n ds l (Ws w0 F L Vs) (⟨some d,.call ⟨.value (.func f),args,ts⟩,ty,pos,af,g⟩::rest):=by
 refine WL.call m o p q v (λi w'=>R i/\Ws w0 F (c i++L) Vs w') (λw b=>(r w b).mono λe w' ⟨i,t,u,h⟩=>⟨i,t,u,?_⟩) λi=>?_
 · exact Ws.rz (L:=[]) (L':=c i) (L2:=L) (by simpa using b) (by simpa using h.fr) h.kn h.nd (λA x k y=>by
     rcases h.own A x k y with j | j
     · simp at j
     · exact .inr j)
 · intro a w z b
   exact s i b.1 a w z b.2
end
end Go.Bw
end
section
namespace Go.Bw
set_option linter.unnecessarySimpa false
open Go Go.RowKit
section
variable {P:Program} {ops:Array Oper} {Q:Exit->Act->World->Prop} {n:Nat} {ds:List Deferred} {l:List (Nat×Value)} {w0:World} {F:List Nat} {L:List aW} {Vs:List View} {rest:List Oper} {c:Code}
 {ty:TypeId} {pos:String} {af:Array Edge} {g:Option (Nat×Bool)}
theorem Ws.pt {α:Type} {f:α->List Value} {k b c:Nat} {e:TypeId} {xs:List α} {w:World} (h:Ws w0 F L Vs w) (i:Nat) (j:L[i]? = some (ao b (.cells (xs.flatMap f).toArray e (0,0)))) (d:∀x,(f x).length=k) (a:xs.length=c) (l:c<=maxLen):Ws w0 F (L.set i (bS e k f (some ⟨b,0,none⟩) c xs)) Vs w:=by
 have g:=h.FI i j (m:=c) (cap:=c) (size:=k) (dp _) l (by simp [dR d,a])
 have n:b6 e k (.slice (some ⟨b,0,none⟩) c c) c ((xs.flatMap f).toArray.toList.take (c*k))=bS e k f (some ⟨b,0,none⟩) c xs:=by
   show _=b6 e k (.slice (some ⟨b,0,none⟩) xs.length c) xs.length (xs.flatMap f)
   rw [a,kF (by rw [List.toList_toArray,dR d,a]; exact dp _)]
 rw [n] at g;exact g
theorem WC.yF {ι:Type} {x y:Code} {W:World->Prop} (b:ι->List (Nat×Value)) (c:ι->World->Prop) (R:ι->Prop) (f:WC P x (Exit.then (λa w=>∃i,R i/\Ag n ds (b i) a/\c i w) Q) n ds l W) (g:∀i,R i->WC P y Q n ds (b i) (c i)):WC P (.seq x y) Q n ds l W:=by
 intro a w h j;refine wp_seq (wp_mono (f a w h j) λe k w' d=>?_)
 cases e with
 | normal=>obtain ⟨i,m,o,p⟩:=d; exact g i m k w' o p
 | _=>exact d
theorem Em {ι:Type} {Q:Exit->Act->World->Prop} {W:World->Prop} {b:ι->List (Nat×Value)} {c:ι->World->Prop} {R:ι->Prop} (i:ι) (d:R i) (e:∀p ∈ b i,lk l p.1=some p.2) (f:∀w,W w->c i w) :
   WE (Exit.then (λa w=>∃i,R i/\Ag n ds (b i) a/\c i w) Q) .normal n ds l W:=λa w g h=>⟨i,d,g.sub e,f w h⟩
theorem jC {ι:Type} {Q:Exit->Act->World->Prop} {W:World->Prop} {b:ι->List (Nat×Value)} {c:ι->World->Prop} {R:ι->Prop} (i:ι) (d:R i) (e:∀w,W w->c i w) (f:tW l (b i)=hE (b i):=by rfl):WE (Exit.then (λa w=>∃i,R i/\Ag n ds (b i) a/\c i w) Q) .normal n ds l W:=Em i d (vX f) e
theorem BD {A:aW} (i:Nat) (a:L[i]? = some A):L.set i A=L:=by
 rw [<-(cf.1 a).2]; exact vQ (cf.1 a).1
theorem WL.jJ {A a:aW} (i:Nat) (b:L[i]? = some A) (c:A=a) (h:WL P ops Q n ds l (Ws w0 F (L.set i a) Vs) rest):WL P ops Q n ds l (Ws w0 F L Vs) rest:=by
 subst c; rwa [BD i b] at h
theorem WC.jJ {A a:aW} (i:Nat) (b:L[i]? = some A) (d:A=a) (h:WC P c Q n ds l (Ws w0 F (L.set i a) Vs)):WC P c Q n ds l (Ws w0 F L Vs):=by
 subst d; rwa [BD i b] at h
theorem Ws.jJ {w:World} {A a:aW} (h:Ws w0 F L Vs w) (i:Nat) (b:L[i]? = some A) (c:A=a):Ws w0 F (L.set i a) Vs w:=by
 subst c; rwa [BD i b]
end
section
variable {P:Program} {l:List (Nat×Value)} {W:World->Prop} {d:Option Tmp} {ty:TypeId} {pos:String} {af:Array Edge} {g:Option (Nat×Bool)}
def uk (v:Value) (b:Bool):Prop:=(b=true->v = .nilIface)/\(b=false->∃t x,v = .iface t x)
theorem NM {t u:TypeId} {x:Operand} {v:Value} (b:Bool) (c:P.underlying t=some (.interface (P.methodsAt t))) (e:bn l x=some v) (f:uk v b):Yl P l W ⟨d,.binOp .eql t x (.const .nilIface) u,ty,pos,af,g⟩ (.bool b):=by
 intro ρ w a _;have i:ρ (.const .nilIface) = .nilIface:=a _ _ rfl
 cases b with
 | true=>
   obtain rfl:=f.1 rfl;simp only [execOp,a x _ e,i,Sem.run_bind];simp [eqGuard_nil_constR,run_eql_nil_nil (h:=c)]
 | false=>
   obtain ⟨s,y,rfl⟩:=f.2 rfl
   have j:(eqGuard .eql t x (.const .nilIface) (.iface s y) .nilIface)=pure ():=by cases x<;>rfl
   simp only [execOp,a x _ e,i,Sem.run_bind,j];simp [run_eql_held_nil (h:=c)]
end
theorem WL.wk {P:Program} {ops:Array Oper} {Q:Exit->Act->World->Prop} {n:Nat} {ds:List Deferred} {l:List (Nat×Value)} {W W':World->Prop} {rest:List Oper} (b:∀w,W w->W' w) (h:WL P ops Q n ds l W' rest):WL P ops Q n ds l W rest:=λa w c d=>h a w c (b w d)
structure BF (P:Program) (gp gs gr:Nat) (H:View):Prop where
 pow:∃t f,H gp=some (.cells (Lib.pow10Tab.map λz=>Value.int .u64 z).toArray t f)
 NP:∃ev,vc H gs 0=some ev/\(ev = .nilIface\/∃te pe,ev = .iface te pe)
 NQ:∃ev,vc H gr 0=some ev/\(ev = .nilIface\/∃te pe,ev = .iface te pe)
theorem BF.BI {P:Program} {a c d:Nat} {b:View} (h:BF P a c d b) {w:World} (e:Le b w) {nm:String} (g:P.globalNamed nm=some a):Lib.TabIs P w nm .u64 Lib.pow10Tab:=by
 obtain ⟨t,f,i⟩:=h.pow;unfold Lib.TabIs World.var?;rw [g];simp [e _ _ i]
theorem NR {P:Program} {W:World} {nm:String} {g:Nat} (a:Lib.TabIs P W nm .u64 Lib.pow10Tab) (c:P.globalNamed nm=some g):∃t f,hv W g=some (.cells (Lib.pow10Tab.map λd=>Value.int .u64 d).toArray t f):=by
 unfold Lib.TabIs World.var? at a;rw [c] at a;simp only [bt] at a
 cases b:W.heap[g]? with
 | none=>simp [b] at a
 | some o=>
   cases o with
   | cells cs t f=>
     simp only [b,e0] at a;subst a;exact ⟨t,f,b⟩
   | _=>simp [b] at a
theorem NS (w:World) (k:Nat) (os:Array Obj):Ext w (Go.Sort.grow (w.drewN k) os):=by
 refine ⟨O,O,O,by simp [Go.Sort.grow,World.drewN],λb a _=>?_⟩;simp [Go.Sort.grow,World.drewN,xX,a]
structure oy {κ:Type} [BEq κ] [LawfulBEq κ] (kd:TypeDesc) (kv:κ->Value):Prop where
 same:∀a b,Instr.sameNow kd (kv a) (kv b)=some (a==b)
 isKey:∀a,MapKept.IsKey kd (kv a)
theorem jX:oy (.int .i64) (λn:Int=>Value.int .i64 n):=⟨λa b=>by simp [Instr.sameNow],λa=>by simp [MapKept.IsKey]⟩
theorem h4:oy .string st:=⟨λa b=>by simp only [st,Instr.sameNow,Bn],λa=>by simp [MapKept.IsKey,st]⟩
section
variable {κ:Type} {kv:κ->Value}
abbrev dP (κ:Type):=κ×Value×Nat
def mB (a:κ->Value) (e:dP κ):MapEntry:={ key:=a e.1,val:=e.2.1,born:=e.2.2 }
def ar (a:κ->Value) (m:List (dP κ)) (c:Nat):Obj:=.map (m.map (mB a)).toArray c
theorem NT (m:List (dP κ)) (j:Nat) (k:κ) (v:Value):(m.map (mB kv)).modify j (λe=>{ e with key:=kv k,val:=v })=(m.modify j λe=>(k,v,e.2.2)).map (mB kv):=by
 apply rp;intro i;simp only [rq,eZ]
 cases m[i]? with
 | none=>simp
 | some e=>by_cases h:j=i<;>simp [h,mB]
variable {P:Program} {ops:Array Oper} {Q:Exit->Act->World->Prop} {n:Nat} {ds:List Deferred} {l:List (Nat×Value)} {w0:World} {F:List Nat} {L:List aW} {Vs:List View} {rest:List Oper} {d:Nat} {ty:TypeId} {pos:String} {af:Array Edge} {g:Option (Nat×Bool)}
theorem WL.nc {t:TypeId} (a:κ->Value) (c:dN ops l g) (e:Nat.blt d n=true)
   (h:∀b,WL P ops Q n ds ((d,.map (some b))::l) (Ws w0 F (ao b (ar a [] 0)::L) Vs) rest) :
   WL P ops Q n ds l (Ws w0 F L Vs) (⟨some d,.makeMap t none,ty,pos,af,g⟩::rest):=
 WL.new (mk:=λb=>.map (some b)) (o:=ar a [] 0) c e (λρ w _ _=>by
   simp only [execOp]
   simp [Instr.makeMap,ar]) h
end
section
variable {κ:Type} [BEq κ] [LawfulBEq κ] {kd:TypeDesc} {kv:κ->Value}
def cK (k:κ):List (dP κ)->Nat->Option (Nat×Value)
 | [],_=>none
 | e::r,i=>if (k==e.1)=true then some (i,e.2.1) else cK k r (i+1)
def eJ (k:κ) (v:Value) (m:List (dP κ)) (c:Nat):List (dP κ):=match cK k m 0 with
 | some (i,_)=>m.modify i λe=>(k,v,e.2.2)
 | none=>m++[(k,v,c)]
def hz (k:κ) (m:List (dP κ)) (c:Nat):Nat:=match cK k m 0 with | some _=>c | none=>c+1
def aI (k:κ) (m:List (dP κ)) (a:Value):Value:=match cK k m 0 with | some (_,v)=>v | none=>a
def cy (k:κ) (m:List (dP κ)):Bool:=(cK k m 0).isSome
theorem BJ (a:oy kd kv) (k:κ):∀(m:List (dP κ)) (i:Nat),Instr.findNow kd (kv k) (m.map (mB kv)) i=some (cK k m i)
 | [],_=>rfl
 | e::r,i=>by
   simp only [jT,Instr.findNow,mB,a.same,cK];cases h:(k==e.1)
   · simp only [pc,if_false]
     exact BJ a k r (i+1)
   · simp
theorem Gg (k:κ) (j:Nat) (b:Value):∀(m:List (dP κ)) (a:Nat),cK k m a=some (j,b)->a<=j/\(m[j-a]?).map (·.1)=some k
 | [],a,h=>by simp [cK] at h
 | e::r,a,h=>by
   simp only [cK] at h
   split at h
   · rename_i c
     injection h with h; injection h with d f
     subst d;simp at c;simp [c]
   · obtain ⟨d,f⟩:=Gg k j b r (a+1) h
     refine ⟨ae,?_⟩
     have:j-a=(j-(a+1))+1:=ae
     rw [this]; simpa using f
variable {P:Program} {ops:Array Oper} {Q:Exit->Act->World->Prop} {n:Nat} {ds:List Deferred} {l:List (Nat×Value)} {w0:World} {F:List Nat} {L:List aW} {Vs:List View} {rest:List Oper} {d:Nat} {ty:TypeId} {pos:String} {af:Array Edge} {g:Option (Nat×Bool)}
theorem yG {w:World} {t a e:TypeId} {b c:Nat} {m:List (dP κ)} {k:κ} {d:Value} (g:Bool) (h:oy kd kv) (l:P.underlying t=some (.map a e)) (j:P.underlying a=some kd) (n:zeroOf P e=some d) (f:w.heap[b]? = some (ar kv m c)) :
   (Instr.lookup t (.map (some b)) (kv k) g).run P w = .ok (if g=true then .tuple #[aI k m d,.bool (cy k m)] else aI k m d) w:=by
 have o:=BJ h k m 0;have f:w.heap[b]? = some (.map (m.map (mB kv)).toArray c):=f;have p:(Instr.checkKey (m.map (mB kv)).toArray.isEmpty 10000 a (kv k)).run P w = .ok () w:=MapKept.run_checkKey (k:=kv k) j (h.isKey k) _ 9999;simp only [Instr.lookup,Sem.run_bind,run_underlying l,Result.andThen_ok,MapKept.run_getObj_map f,Sem.run_pure,p];rw [MapKept.run_findKey j (by simpa using o)];unfold aI cy
 cases q:cK k m 0 with
 | none=>simp [Result.andThen_ok,sJ n]
 | some r=>obtain ⟨i,v⟩:=r; simp [Result.andThen_ok]
theorem qx {h:Option Tmp} {t a e:TypeId} {x y:Operand} {b c:Nat} {m:List (dP κ)} {k:κ} {d:Value} (i:Nat) (j:oy kd kv) (n:P.underlying t=some (.map a e)) (o:P.underlying a=some kd) (p:zeroOf P e=some d) (q:bn l x=some (.map (some b))) (r:bn l y=some (kv k)) (s:L[i]? = some (ao b (ar kv m c))) :
   Yl P l (Ws w0 F L Vs) ⟨h,.lookup t x y false,ty,pos,af,g⟩ (aI k m d):=by
 intro ρ w f u;simp [execOp,f x _ q,f y _ r,yG (P:=P) (k:=k) false j n o p (u.kn _ (eL s):w.heap[b]? = some (ar kv m c))]
theorem yH {h:Option Tmp} {t a e:TypeId} {x y:Operand} {b c:Nat} {m:List (dP κ)} {k:κ} {d:Value} (i:Nat) (j:oy kd kv) (n:P.underlying t=some (.map a e)) (o:P.underlying a=some kd) (p:zeroOf P e=some d) (q:bn l x=some (.map (some b))) (r:bn l y=some (kv k)) (s:L[i]? = some (ao b (ar kv m c))) :
   Yl P l (Ws w0 F L Vs) ⟨h,.lookup t x y true,ty,pos,af,g⟩ (.tuple #[aI k m d,.bool (cy k m)]):=by
 intro ρ w f u;simp [execOp,f x _ q,f y _ r,yG (P:=P) (k:=k) true j n o p (u.kn _ (eL s):w.heap[b]? = some (ar kv m c))]
theorem Gh {w:World} {t a e:TypeId} {b c:Nat} {m:List (dP κ)} {k:κ} {v:Value} (d:oy kd kv) (l:P.underlying t=some (.map a e)) (i:P.underlying a=some kd) (n:w.heap[b]? = some (ar kv m c)) :
   (Instr.mapUpdate t (.map (some b)) (kv k) v).run P w = .ok () { w with heap:=w.heap.setIfInBounds b (ar kv (eJ k v m c) (hz k m c)) }:=by
 have f:w.heap[b]? = some (.map (m.map (mB kv)).toArray c):=n;have o:=BJ d k m 0;have p:(Instr.checkKey false 10000 a (kv k)).run P w = .ok () w:=MapKept.run_checkKey (k:=kv k) i (d.isKey k) _ 9999;simp only [Instr.mapUpdate,Sem.run_bind,run_underlying l,Result.andThen_ok,MapKept.run_getObj_map f,Sem.run_pure,p];rw [MapKept.run_findKey i (by simpa using o)];unfold eJ hz
 cases q:cK k m 0 with
 | none=>simp [Result.andThen_ok,MapKept.run_setObj_map _ f,ar,mB]
 | some r=>
   obtain ⟨j,s⟩:=r
   have g:m[j]?.map (·.1)=some k:=by simpa using (Gg k j s m 0 q).2
   have u:((((m.map (mB kv)).toArray)[j]?).map (·.key)).getD (kv k)=kv k:=by
     cases h:m[j]? with
     | none=>simp [h]
     | some e=>rw [h] at g; simp at g; simp [h,mB,g]
   simp only [u,Result.andThen_ok];simp only [Sem.run_bind,MapKept.run_keyThatStays (d.isKey k),Result.andThen_ok,MapKept.run_setObj_map _ f,ar]
   have x:(m.map (mB kv)).toArray.modify j (λe=>{ e with key:=kv k,val:=v })=((m.modify j λe=>(k,v,e.2.2)).map (mB kv)).toArray:=by
     apply qk;rw [E'];exact NT m j k v
   rw [x]
theorem WL.oz {t f e:TypeId} {x y u:Operand} {b c:Nat} {m:List (dP κ)} {k:κ} {v:Value} (i:Nat) (r:oy kd kv) (s:dN ops l g) (z:P.underlying t=some (.map f e)) (A:P.underlying f=some kd) (B:bn l x=some (.map (some b))) (C:bn l y=some (kv k)) (D:bn l u=some v) (o:L[i]? = some (ao b (ar kv m c)))
   (h:WL P ops Q n ds l (Ws w0 F (L.set i (ao b (ar kv (eJ k v m c) (hz k m c)))) Vs) rest) :
   WL P ops Q n ds l (Ws w0 F L Vs) (⟨none,.mapUpdate t x y u,ty,pos,af,g⟩::rest):=by
 refine WL.step s λa w d p I E=>?_;have q:w.heap[b]? = some (ar kv m c):=p.kn _ (eL o)
 have G:(execOp a.eval ⟨none,.mapUpdate t x y u,ty,pos,af,g⟩).run P w = .ok .skip { w with heap:=w.heap.setIfInBounds b (ar kv (eJ k v m c) (hz k m c)) }:=by
   simp only [execOp,d.eval B,d.eval C,d.eval D,Sem.run_bind,Gh r z A q,Result.andThen_ok,Sem.run_pure]
 simp only [Oper.wp,G,Oper.upon_skip];refine E _ _ (h _ _ (d.vW undef) ?_);refine Ws.dM p i o ⟨O,O,O,aj,λj J H=>?_⟩ ?_ (by simp [ao]) (by simp [ao])
 · have:b≠j:=λe=>H (by simp [ao,e])
   simp [rm this]
 · show (w.heap.setIfInBounds b _)[b]? = _
   simp [lt_of_heap q]
theorem WL.l4 {t f e:TypeId} {x y u:Operand} {b c:Nat} {m:List (dP κ)} {k:κ} {v:Value} (i:Nat) (r:oy kd kv) (s:dN ops l g) (z:P.underlying t=some (.map f e)) (A:P.underlying f=some kd) (B:bn l x=some (.map (some b))) (C:bn l y=some (kv k)) (D:bn l u=some v) (o:L[i]? = some (ao b (ar kv m c)))
   (h:WL P ops Q n ds l (Ws w0 F (L.set i (ao b (ar kv (eJ k v m c) (hz k m c)))) Vs) rest) :
   WL P ops Q n ds l (Ws w0 F L Vs) (⟨none,.insert t x y u,ty,pos,af,g⟩::rest):=by
 refine WL.step s λa w d p I E=>?_;have q:w.heap[b]? = some (ar kv m c):=p.kn _ (eL o)
 have G:(execOp a.eval ⟨none,.insert t x y u,ty,pos,af,g⟩).run P w = .ok .skip { w with heap:=w.heap.setIfInBounds b (ar kv (eJ k v m c) (hz k m c)) }:=by
   simp only [execOp,d.eval B,d.eval C,d.eval D,Sem.run_bind,Gh r z A q,Result.andThen_ok,Sem.run_pure]
 simp only [Oper.wp,G,Oper.upon_skip];refine E _ _ (h _ _ (d.vW undef) ?_);refine Ws.dM p i o ⟨O,O,O,aj,λj J H=>?_⟩ ?_ (by simp [ao]) (by simp [ao])
 · have:b≠j:=λe=>H (by simp [ao,e])
   simp [rm this]
 · show (w.heap.setIfInBounds b _)[b]? = _
   simp [lt_of_heap q]
end
def sO (P:Program) (t:TypeId):Option (Nat×Nat):=match P.underlying t with | some (.array n e)=>(P.info? e).map λi=>(n,i.size) | _=>none
def yI (P:Program) (t:TypeId):Option Nat:=match P.underlying t with | some (.array n e)=>if nJ P e=true/\(P.info? e).map (·.size)=some 1 then some n else none | _=>none
section
variable {P:Program} {l:List (Nat×Value)} {W:World->Prop} {d:Option Tmp} {ty:TypeId} {pos:String} {af:Array Edge} {g:Option (Nat×Bool)}
theorem sP {t:TypeId} {x y:Operand} {b o n s:Nat} {k:IntKind} {i:Nat} (a:sO P t=some (n,s)) (h:bn l x=some (.pointer (some ⟨b,o,none⟩))) (j:bn l y=some (.int k (i:Int))) (p:i<n) :
   Yl P l W ⟨d,.indexAddr t x y,ty,pos,af,g⟩ (.pointer (some ⟨b,o+i*s,none⟩)):=by
 intro ρ w f _;unfold sO at a
 cases c:P.underlying t with
 | none=>simp [c] at a
 | some q=>
   cases q<;>simp [c] at a
   rename_i m e;obtain ⟨z,hi,r,u⟩:=a;subst r u
   have v:(i:Int)<(m:Int):=ae
   simp [execOp,f x _ h,f y _ j,Instr.indexAt,run_underlying c,asIntOf,v,p,sizeOf,typeInfo,hi,m_,Instr.sureAddr]
theorem yX {t:TypeId} {x y:Operand} {n:Nat} {cs:Array Value} {k:IntKind} {i:Nat} {v:Value} (a:yI P t=some n) (f:bn l x=some (.agg cs)) (h:bn l y=some (.int k (i:Int))) (j:i<n) (hv:cs[i]? = some v) :
   Yl P l W ⟨d,.index t x y,ty,pos,af,g⟩ v:=by
 intro ρ w c _;unfold yI at a
 cases b:P.underlying t with
 | none=>simp [b] at a
 | some o=>
   cases o<;>simp [b] at a
   rename_i m e;obtain ⟨⟨p,q,hi,r⟩,rfl⟩:=a
   have s:(i:Int)<(m:Int):=ae
   have u:=yg p w
   have z:(part e cs (i*q.size)).run P w = .ok v w:=by
     simp [part,u,r,hv]
   simp [execOp,c x _ f,c y _ h,Instr.index,run_underlying b,asIntOf,s,j,sizeOf,typeInfo,hi,z]
end
end Go.Bw
end
section
namespace Go.Bw
open Go
structure Tok where
 kind:Int
 n:Int
 text:List UInt8
deriving DecidableEq
def Tok.cells (t:Tok):List Value:=[.int .i64 t.kind,.int .i64 t.n,st t.text]
theorem Tok.ck (x:Tok):x.cells.length=3:=rfl
def b7 (a:View) (b o:Nat) (x:Tok):Prop:=bR a b o x.cells
def l5 (u:Int):Bool:=decide (97<=u)&&decide (u<=122)
def wm (u:Int):Bool:=decide (48<=u)&&decide (u<=57)
def jD (u:UInt8):Bool:=l5 u.toNat||wm u.toNat
def ep (s:List UInt8):Bool:=(decide (1<=s.length)&&decide (s.length<=8))&&l5 ((s[0]?.getD 0).toNat)&&s.all jD
def qy:List UInt8:=[123,125,40,41,91,93,44,59,61,46,43,45,42,47,37,60,33,38,124]
def l6 (u:UInt8):Bool:=qy.contains u
def fv:List UInt8->Nat
 | []=>0
 | c::r=>if jD c=true then fv r+1 else 0
def sQ (s:List UInt8):Option Nat:=match Lib.decNat s with
 | some n=>if n<=1099511627775/\Lib.decDigits n=s then some n else none
 | none=>none
def db (s:List UInt8):Option Tok:=if ep s=true then some ⟨1,0,s⟩ else (sQ s).map (λn:Nat=>(⟨2,(n:Int),[]⟩:Tok))
def lx:Nat->List UInt8->Option (List Tok)
 | _,[]=>some []
 | 0,_::_=>none
 | f+1,c::r=>
   if 0<fv (c::r) then
     match db ((c::r).take (fv (c::r))) with
     | some t=>(lx f ((c::r).drop (fv (c::r)))).map (t::·)
     | none=>none
   else if l6 c=true then (lx f r).map (⟨3,0,[c]⟩::·)
   else if c=32\/c=10 then lx f r
   else none
def gi (s:List UInt8):Option (List Tok):=lx s.length s
def e' (s:List UInt8):List Tok×Int:=if 4096<s.length then ([],2) else match gi s with
 | some l=>(l,0)
 | none=>([],1)
def pv (t:Tok):Bool:=decide (1<=t.kind)&&decide (t.kind<=3)
def jE (t:Tok):Bool:=if t.kind=1 then t.n==0&&ep t.text else if t.kind=2 then t.text==[]&&(decide (0<=t.n)&&decide (t.n<=1099511627775)) else t.n==0&&(t.text.length==1&&l6 (t.text[0]?.getD 0))
def yJ (t:Tok):Bool:=!pv t
def yK (t:Tok):Bool:=!jE t
def wo (l:List Tok):Int:=if l.any yJ=true then 4 else if l.any yK=true then 1 else if 4096<l.length then 2 else 0
def mC (t:Tok):List UInt8:=if t.kind=2 then Lib.itoa t.n else t.text
def qz (l:List Tok):List UInt8:=Lib.join (l.map mC) [32]
theorem Gj:∀s:List UInt8,fv s<=s.length
 | []=>dp _
 | c::r=>by
   have:=Gj r;unfold fv
   split<;>simp<;>omega
theorem yY (b:List UInt8) (c:UInt8) (d:jD c=false):∀a:List UInt8,fv (a++c::b)=fv a
 | []=>by simp [fv,d]
 | x::a=>by
   rw [fL];unfold fv;rw [yY b c d a]
theorem BK:∀(s:List UInt8) (n:Nat),n<=s.length->(∀j,j<n->jD (s[j]?.getD 0)=true)->(n=s.length\/jD (s[n]?.getD 0)=false)->fv s=n
 | [],n,h,_,_=>by simp at h; subst h; rfl
 | c::r,0,_,_,h=>by
   have:jD c=false:=by
     rcases h with h | h
     · simp at h
     · simpa using h
   simp [fv,this]
 | c::r,n+1,b,a,h=>by
   have d:jD c=true:=by simpa using a 0 ae
   rw [fv,if_pos d,BK r n (by simpa using b) (λj e=>by simpa using a (j+1) ae) (by rcases h with h | h; left; simpa using h; right; simpa using h)]
theorem Gl {s:List UInt8} (h:s.all jD=true):fv s=s.length:=by
 refine BK s s.length (dp _) (λj a=>?_) Y;rw [dL a];exact fG.1 h _ (x6 a)
theorem BL:∀(f g:Nat) (s:List UInt8),s.length<=f->s.length<=g->lx f s=lx g s
 | _,_,[],_,_=>by simp [lx]
 | 0,_,_::_,h,_=>by simp at h
 | _+1,0,_::_,_,h=>by simp at h
 | f+1,g+1,c::r,a,b=>by
   simp only [du] at a b;unfold lx;rw [BL f g r ae ae]
   by_cases d:0<fv (c::r)
   · rw [BL f g ((c::r).drop (fv (c::r))) (by simp; omega) (by simp; omega)]
   · simp only [if_neg d]
theorem wq:gi []=some []:=rfl
theorem sR {s:List UInt8} (h:0<fv s):gi s=match db (s.take (fv s)) with
   | some t=>(gi (s.drop (fv s))).map (t::·)
   | none=>none:=by
 cases s with
 | nil=>simp [fv] at h
 | cons c r=>
   show lx (r.length+1) (c::r)=_
   rw [lx,if_pos h];unfold gi;rw [BL r.length ((c::r).drop (fv (c::r))).length _ (by simp; omega) (dp _)]
theorem wu {c:UInt8} {r:List UInt8} (h:fv (c::r)=0) (a:l6 c=true):gi (c::r)=(gi r).map (⟨3,0,[c]⟩::·):=by
 show lx (r.length+1) (c::r)=_
 rw [lx,if_neg ae,if_pos a]
 rfl
theorem wv {c:UInt8} {r:List UInt8} (h:fv (c::r)=0) (a:l6 c=false) (b:c=32\/c=10):gi (c::r)=gi r:=by
 show lx (r.length+1) (c::r)=_
 rw [lx,if_neg ae,if_neg (by simp [a]),if_pos b]
 rfl
theorem yL {c:UInt8} {r:List UInt8} (h:fv (c::r)=0) (a:l6 c=false) (b:¬(c=32\/c=10)):gi (c::r)=none:=by
 show lx (r.length+1) (c::r)=_
 rw [lx,if_neg ae,if_neg (by simp [a]),if_neg b]
theorem NU:∀u:UInt8,l6 u=true->jD u=false:=by
 have h:∀u ∈ qy,jD u=false:=aF
 intro u a;exact h u (by simpa [l6] using a)
theorem BM:∀(k:Nat) (a b:List UInt8),a.length<=k->gi (a++32::b)=(gi a).bind λl=>(gi b).map (l++·)
 | _,[],b,_=>by
   have g:jD 32=false:=aF
   rw [dv,wv (by simp [fv,g]) aF (.inl rfl)];simp only [wq,bt,dv]
   cases gi b<;>rfl
 | 0,_::_,_,h=>by simp at h
 | k+1,c::r,b,j=>by
   have g:jD 32=false:=aF
   have m:=yY b 32 g (c::r);have n:=Gj (c::r)
   by_cases p:0<fv (c::r)
   · rw [sR (s:=(c::r)++32::b) ae,sR p,m,AZ n,Fe n]
     cases db ((c::r).take (fv (c::r))) with
     | none=>rfl
     | some t=>
       simp only;rw [BM k ((c::r).drop (fv (c::r))) b (by simp at j ⊢; omega)]
       cases gi ((c::r).drop (fv (c::r)))<;>simp
       cases gi b<;>simp
   · have e:fv (c::r)=0:=ae
     have i:fv (c::(r++32::b))=0:=by rw [<-fL,m]; exact e
     have o:=BM k r b (by simpa using j);rw [fL]
     cases d:l6 c with
     | true=>
       rw [wu i d,wu e d,o]
       cases gi r<;>simp
       cases gi b<;>simp
     | false=>
       by_cases f:c=32\/c=10
       · rw [wv i d f,wv e d f,o]
       · rw [yL i d f,yL e d f]; rfl
theorem BN (d:Nat) (f:d<10):∀(l:List UInt8) (a n:Nat),Lib.decFrom a l=some n->Lib.decFrom a (l++[UInt8.ofNat (48+d)])=some (n*10+d)
 | [],a,n,h=>by
   simp only [Lib.decFrom,e0] at h;subst h
   have e:(UInt8.ofNat (48+d)).toNat=48+d:=by simp [Ff]; omega
   have:Lib.digitVal (UInt8.ofNat (48+d))=some d:=by
     unfold Lib.digitVal;rw [e,if_pos ae];simp
   simp only [dv,Lib.decFrom,this]
 | b::r,a,n,h=>by
   simp only [Lib.decFrom,fL] at h ⊢
   cases c:Lib.digitVal b with
   | none=>simp [c] at h
   | some e=>
     simp only [c] at h ⊢;exact BN d f r _ n h
theorem BO (n:Nat):Lib.decDigits n≠[]:=by
 rw [Lib.decDigits]
 split<;>simp
theorem NV (n:Nat):Lib.decFrom 0 (Lib.decDigits n)=some n:=by
 induction n using Nat.strongRecOn with
 | _ n a=>
   rw [Lib.decDigits]
   split
   · rename_i h
     have:=BN n h [] 0 0 rfl
     simpa using this
   · rename_i h
     rw [BN (n % 10) ae _ _ _ (a (n / 10) ae)]
     congr 1
     omega
theorem Gm (n:Nat):Lib.decNat (Lib.decDigits n)=some n:=by
 unfold Lib.decNat;rw [if_neg (by simpa using BO n),NV]
theorem Gn (n:Nat):∀x ∈ Lib.decDigits n,48<=x.toNat/\x.toNat<=57:=by
 induction n using Nat.strongRecOn with
 | _ n b=>
   rw [Lib.decDigits]
   have e:∀d,d<10->(UInt8.ofNat (48+d)).toNat=48+d:=λd c=>by simp [Ff]; omega
   split
   · rename_i h
     intro x a;simp only [az] at a;subst a;rw [e n h]; omega
   · intro x a
     rw [dA,az] at a
     rcases a with a | a
     · exact b (n / 10) ae x a
     · subst a
       rw [e _ ae]; omega
theorem Gp:∀(k n:Nat),n<10 ^ (k+1)->(Lib.decDigits n).length<=k+1
 | 0,n,h=>by
   rw [Lib.decDigits,dif_pos (by simpa using h)];simp
 | k+1,n,h=>by
   rw [Lib.decDigits]
   split
   · simp
   · rw [Nat.pow_succ] at h
     have:=Gp k (n / 10) ae;simp; omega
theorem NW (n:Nat):Lib.itoa (n:Int)=Lib.decDigits n:=by
 unfold Lib.itoa;rw [if_neg ae];simp
theorem BP {n:Int} (h:0<=n):Lib.itoa n=Lib.decDigits n.toNat:=by
 unfold Lib.itoa;rw [if_neg ae]
theorem NX {n:Nat} (h:n<=1099511627775):(Lib.decDigits n).length<=13:=Gp 12 n ae
theorem Gq {s:List UInt8} {n:Nat} (h:sQ s=some n):n<=1099511627775/\Lib.decDigits n=s:=by
 unfold sQ at h
 split at h
 · split at h
   · injection h with h
     subst h; assumption
   · cases h
 · cases h
theorem Gr {n:Nat} (h:n<=1099511627775):sQ (Lib.decDigits n)=some n:=by
 unfold sQ;rw [Gm];simp [h]
def l7 (s:List UInt8):Tok×Bool:=if ep s=true then (⟨1,0,s⟩,true) else match Lib.atoiAll s with
 | .ok v=>(⟨2,v,[]⟩,((decide (0<=v)&&decide (v<=1099511627775))&&(Lib.itoa v==s)))
 | .range=>(⟨2,Lib.atoiSat s,[]⟩,false)
 | _=>(⟨2,0,[]⟩,false)
theorem zf {n:Nat} (h:n<=1099511627775):Lib.atoiAll (Lib.decDigits n) = .ok (n:Int):=by
 have k:=NX h;rw [Lib.atoiAll_short _ ae];have g:=BO n;have a:=Gn n;have c:=Gm n
 cases d:Lib.decDigits n with
 | nil=>exact absurd d g
 | cons b r=>
   rw [d] at a c;have f:=a b aj
   have i:(b==45)=false:=by
     rw [beq_eq_false_iff_ne];intro e; subst e; revert f; decide
   have j:(b==43)=false:=by
     rw [beq_eq_false_iff_ne];intro e; subst e; revert f; decide
   simp [Lib.atoi,i,j,c,Lib.NumEnd.ofOption]
theorem zg (s:List UInt8):db s=if (l7 s).2=true then some (l7 s).1 else none:=by
 unfold db l7
 by_cases b:ep s=true
 · simp [b]
 · simp only [if_neg b]
   cases h:sQ s with
   | some n=>
     obtain ⟨a,c⟩:=Gq h;subst c;rw [zf a]
     have:((n:Int)<=1099511627775):=ae
     simp [NW,this]
   | none=>
     cases e:Lib.atoiAll s with
     | ok v=>
       simp only
       by_cases hv:((decide (0<=v)&&decide (v<=1099511627775))&&(Lib.itoa v==s))=true
       · simp only [cO,decide_eq_true_eq,beq_iff_eq] at hv
         obtain ⟨⟨a,c⟩,d⟩:=hv
         have:sQ s=some v.toNat:=by
           rw [<-d,BP a];exact Gr ae
         rw [h] at this; cases this
       · rw [if_neg hv]; rfl
     | range=>rfl
     | _=>rfl
theorem NY {s:List UInt8} {t:Tok} (h:db s=some t):pv t=true/\jE t=true:=by
 unfold db at h
 split at h
 · rename_i a
   injection h with h
   subst h;exact ⟨O,by simp [jE,a]⟩
 · obtain ⟨n,a,rfl⟩:=dr.1 h
   have:=(Gq a).1;exact ⟨O,by simp [jE]; omega⟩
theorem yM:∀(k:Nat) (s:List UInt8) (l:List Tok),s.length<=k->gi s=some l->(∀t ∈ l,pv t=true/\jE t=true)/\l.length<=s.length
 | _,[],l,_,h=>by
   rw [wq] at h
   injection h with h
   subst h; simp
 | 0,_::_,_,h,_=>by simp at h
 | k+1,c::r,l,n,h=>by
   simp only [du] at n
   by_cases o:0<fv (c::r)
   · rw [sR o] at h
     cases f:db ((c::r).take (fv (c::r))) with
     | none=>simp [f] at h
     | some t=>
       simp only [f] at h;obtain ⟨g,i,rfl⟩:=dr.1 h;obtain ⟨b,d⟩:=yM k ((c::r).drop (fv (c::r))) g (by simp; omega) i;refine ⟨λx a=>?_,?_⟩
       · rcases dU.1 a with rfl | a
         · exact NY f
         · exact b x a
       · simp at d ⊢; omega
   · have j:fv (c::r)=0:=ae
     cases e:l6 c with
     | true=>
       rw [wu j e] at h;obtain ⟨g,i,rfl⟩:=dr.1 h;obtain ⟨b,d⟩:=yM k r g ae i;refine ⟨λx a=>?_,by simpa using d⟩
       rcases dU.1 a with rfl | a
       · exact ⟨O,by simp [jE,e]⟩
       · exact b x a
     | false=>
       by_cases m:c=32\/c=10
       · rw [wv j e m] at h
         obtain ⟨b,d⟩:=yM k r l ae h;exact ⟨b,by simp; omega⟩
       · rw [yL j e m] at h; cases h
theorem any_none {α:Type} {p:α->Bool} {l:List α} (h:∀t ∈ l,p t=false):l.any p=false:=by
 rw [vR];intro x a;simp [h x a]
theorem NZ {l:List Tok} (h:∀t ∈ l,pv t=true/\jE t=true) (b:l.length<=4096):wo l=0:=by
 unfold wo;rw [any_none (p:=yJ) λt a=>by simp [yJ,(h t a).1],any_none (p:=yK) λt a=>by simp [yK,(h t a).2]];simp; omega
theorem Gu {l:List Tok} (h:wo l=0):(∀t ∈ l,pv t=true/\jE t=true)/\l.length<=4096:=by
 unfold wo at h
 split at h
 · cases h
 · rename_i a
   split at h
   · cases h
   · rename_i b
     split at h
     · cases h
     · rename_i d
       simp only [rr,not_exists,not_and] at a b;refine ⟨λt c=>⟨?_,?_⟩,ae⟩
       · have:=a t c; simpa [yJ] using this
       · have:=b t c; simpa [yK] using this
theorem Gv {s:List UInt8} (h:(e' s).2=0):wo (e' s).1=0:=by
 unfold e' at h ⊢
 split
 · simp_all
 · rename_i b
   cases a:gi s with
   | none=>simp [b,a] at h
   | some l=>
     obtain ⟨c,d⟩:=yM _ s l (dp _) a;exact NZ c (show l.length<=4096 by omega)
theorem N0 {x:UInt8} (h:48<=x.toNat/\x.toNat<=57):jD x=true:=by
 unfold jD wm
 have a:((48:Int)<=(x.toNat:Int)):=ae
 have b:((x.toNat:Int)<=57):=ae
 simp [a,b]
theorem Gw {t:Tok} (j:pv t=true) (d:jE t=true):gi (mC t)=some [t]:=by
 obtain ⟨k,n,s⟩:=t
 have l:k=1\/k=2\/k=3:=by simp [pv] at j; omega
 rcases l with rfl | rfl | rfl
 · simp only [jE,if_pos,cO,beq_iff_eq] at d
   obtain ⟨rfl,f⟩:=d;have g:=f;simp only [ep,cO,decide_eq_true_eq] at g;obtain ⟨⟨⟨m,y⟩,_⟩,o⟩:=g;have e:=Gl o
   show gi s=_
   rw [sR ae,e,ew,sE];simp [db,f,wq]
 · simp only [jE,cO,beq_iff_eq,decide_eq_true_eq] at d
   obtain ⟨rfl,p,m⟩:=(by simpa using d:s=[]/\0<=n/\n<=1099511627775)
   show gi (Lib.itoa n)=_
   rw [BP p];have h:=Gn n.toNat;have e:fv (Lib.decDigits n.toNat)=(Lib.decDigits n.toNat).length:=Gl (fG.2 λx q=>N0 (h x q));have i:=BO n.toNat;have z:0<(Lib.decDigits n.toNat).length:=Fg.2 i;rw [sR ae,e,ew,sE]
   have u:ep (Lib.decDigits n.toNat)=false:=by
     cases a:Lib.decDigits n.toNat with
     | nil=>exact absurd a i
     | cons b r=>
       have A:=h b (by rw [a]; simp)
       have:l5 (b.toNat:Int)=false:=by simp [l5]; omega
       simp [ep,this]
   have v:((n.toNat:Nat):Int)=n:=ae
   simp [db,u,Gr (show n.toNat<=1099511627775 by omega),wq,v]
 · obtain ⟨rfl,w,a⟩:=(by simpa [jE] using d:n=0/\s.length=1/\l6 (s[0]?.getD 0)=true)
   match s,w with
   | [c],_=>
     have a:l6 c=true:=by simpa using a
     show gi [c]=_
     rw [wu (by simp [fv,NU c a]) a]
     rfl
theorem N1 (x y:List UInt8) (r:List (List UInt8)) (s:List UInt8):Lib.join (x::y::r) s=x++s++Lib.join (y::r) s:=by
 simp [Lib.join,List.intercalate,List.intersperse]
theorem Gx:∀l:List Tok,(∀t ∈ l,pv t=true/\jE t=true)->gi (qz l)=some l
 | [],_=>rfl
 | [t],h=>by
   have e:qz [t]=mC t:=by simp [qz,Lib.join,List.intercalate]
   rw [e];exact Gw (h t aj).1 (h t aj).2
 | t::u::r,h=>by
   have e:qz (t::u::r)=mC t++32::qz (u::r):=by
     unfold qz;simp only [jT,N1];simp
   rw [e,BM _ _ _ (dp _),Gw (h t aj).1 (h t aj).2,Gx (u::r) (λx a=>h x (bE _ a))]
   rfl
end Go.Bw
end
section
namespace Go.Bw
open Go
inductive a8 where
 | mk (op n:Int) (mod nm:List UInt8) (args:List a8)
inductive bq where
 | mk (op:Int) (mod nm:List UInt8) (args:List a8) (body other:List bq)
def a8.op:a8->Int | .mk o _ _ _ _=>o
def a8.n:a8->Int | .mk _ n _ _ _=>n
def a8.mod:a8->List UInt8 | .mk _ _ m _ _=>m
def a8.nm:a8->List UInt8 | .mk _ _ _ s _=>s
def a8.args:a8->List a8 | .mk _ _ _ _ a=>a
def bq.op:bq->Int | .mk o _ _ _ _ _=>o
def bq.mod:bq->List UInt8 | .mk _ m _ _ _ _=>m
def bq.nm:bq->List UInt8 | .mk _ _ s _ _ _=>s
def bq.args:bq->List a8 | .mk _ _ _ a _ _=>a
def bq.body:bq->List bq | .mk _ _ _ _ b _=>b
def bq.other:bq->List bq | .mk _ _ _ _ _ o=>o
structure cQ where
 kind:Int
 nm:List UInt8
 bG:Bool
 n:Int
deriving DecidableEq
structure ed where
 nm:List UInt8
 bG:Bool
 params:List (List UInt8)
 aB:List (List UInt8)
 body:List bq
structure aX where
 nm:List UInt8
 aq:List (List UInt8)
 decls:List cQ
 procs:List ed
 main:List bq
structure bs where
 f:Nat
 m:Nat
 k:Nat
deriving DecidableEq
instance:Add bs:=⟨λa b=>⟨a.f+b.f,a.m+b.m,a.k+b.k⟩⟩
def bs.bL (c:bs):Nat:=c.f+c.m+c.k
def c0:bs:=⟨0,0,0⟩
theorem bs.sS (a b:bs):(a+b).f=a.f+b.f:=rfl
theorem bs.sT (a b:bs):(a+b).m=a.m+b.m:=rfl
theorem bs.sU (a b:bs):(a+b).k=a.k+b.k:=rfl
theorem bs.ext' {a b:bs} (c:a.f=b.f) (d:a.m=b.m) (e:a.k=b.k):a=b:=by
 cases a; cases b; simp_all
theorem bs.hA (a b c:bs):a+b+c=a+(b+c):=bs.ext' (tR _ _ _) (tR _ _ _) (tR _ _ _)
theorem bs.ek (a b:bs):(a+b).bL=a.bL+b.bL:=by
 simp only [bs.bL,bs.sS,bs.sT,bs.sU]; omega
def BQ (b:Bool):Nat:=if b=true then 1 else 0
def dK (b:Bool):bs:=⟨BQ b,0,0⟩
def cz (b:Bool):bs:=⟨0,BQ b,0⟩
def dY (b:Bool):bs:=⟨0,0,BQ b⟩
def oB:List (List UInt8):=[[109,111,100,117,108,101],[117,115,101],[112,117,98],[99,111,110,115,116],[118,97,114],[97,114,114,97,121],[112,114,111,99],[108,111,99,97,108],[109,97,105,110],[105,102],[101,108,115,101],[119,104,105,108,101],[114,101,116,117,114,110],[111,117,116],[105,110]]
def eP (s:List UInt8):Bool:=ep s&&!(oB.contains s)
def ez (op:Int):Option (Bool×Int):=if op=1\/op=2 then some (false,0) else if op=3 then some (true,0) else if op=4 then some (true,1) else if op=5 then some (true,-1) else if op=6 then some (false,1) else if 7<=op/\op<=15 then some (false,2) else none
def cI (op:Int):Option (Bool×Int):=if op=1 then some (true,1) else if op=2 then some (true,2) else if op=3 then some (true,-1) else if 4<=op/\op<=7 then some (false,1) else none
def hN (r:Bool) (mod nm:List UInt8):Bool:=(r&&((!(mod==[])&&!eP mod)||!eP nm))||(!r&&!(mod++nm==[]))
def k4 (a:Int) (len:Nat):Bool:=decide (0<=a)&&!((len:Int)==a)
def ee (s:Bool×Int) (mod nm:List UInt8) (len:Nat):bs:=dK (hN s.1 mod nm)+dK (k4 s.2 len)+cz (decide (3<len))
def hB (op n:Int):Bool:=((op==1)&&(decide (n<0)||decide (1099511627775<n)))||(!(op==1)&&!(n==0))
mutual
def gR:a8->Nat->bs
 | .mk op n mod nm args,d=>if 6<d then ⟨0,1,0⟩ else dY (ez op).isNone+ee ((ez op).getD (false,0)) mod nm args.length+dK (hB op n)+ay args (d+1)
def ay:List a8->Nat->bs
 | [],_=>c0
 | x::r,d=>gR x d+ay r d
end
def inner (op:Int):Bool:=(op==4)||(op==5)
def bo (op:Int) (b o:Nat):Bool:=(!inner op&&decide (0<b))||(!(op==4)&&decide (0<o))
def l8 (d len:Nat) (c:bs):bs:=if 6<d then ⟨0,1,0⟩ else cz (decide (10<len))+c
mutual
def aL:bq->Nat->bs
 | .mk op mod nm args body other,d=>dY (cI op).isNone+ee ((cI op).getD (false,0)) mod nm args.length+ay args 1+dK (bo op body.length other.length)
     + (if (inner op||decide (0<body.length))=true then l8 (d+1) body.length (cS body (d+1)) else c0)+(if 0<other.length then l8 (d+1) other.length (cS other (d+1)) else c0)
def cS:List bq->Nat->bs
 | [],_=>c0
 | x::r,d=>aL x d+cS r d
end
def d_ (l:List bq) (d:Nat):bs:=l8 d l.length (cS l d)
def bw:List (List UInt8)->bs
 | []=>c0
 | s::r=>dK (!eP s)+bw r
def bl (d:cQ):bs:=bw [d.nm]+(if d.kind=1 then dK (decide (d.n<0)||decide (1099511627775<d.n)) else if d.kind=2 then dK (!(d.n==0)) else if d.kind=3 then dK (decide (d.n<1)||decide (32<d.n)) else dY true)
def aE:List cQ->bs
 | []=>c0
 | d::r=>bl d+aE r
def nf (p:ed):bs:=bw [p.nm]+bw p.params+bw p.aB+cz (decide (3<p.params.length)||decide (4<p.aB.length))+d_ p.body 1
def eX:List ed->bs
 | []=>c0
 | p::r=>nf p+eX r
def oC (m:aX):bs:=bw [m.nm]+bw m.aq+cz ((decide (3<m.aq.length)||decide (10<m.decls.length))||decide (6<m.procs.length))+aE m.decls+eX m.procs+d_ m.main 1
def qA (c:bs):Int:=if 0<c.k then 4 else if 0<c.m then 2 else if 0<c.f then 1 else 0
def gz (m:aX):Int:=qA (oC m)
def dS (n a b:Int):Bool:=decide (a<=n)&&decide (n<=b)
def iw (op:Int):Int:=if op=1\/op=2\/op=3 then 0 else if op=4\/op=6 then 1 else if op=5 then -1 else 2
def ng (op:Int):Int:=if op=2 then 2 else if op=3 then -1 else 1
theorem Gy (op:Int):(ez op).isNone = !dS op 1 15:=by
 unfold ez dS;rw [jz]
 split
 · simp; omega
 · split
   · simp; omega
   · split
     · simp; omega
     · split
       · simp; omega
       · split
         · simp; omega
         · split
           · simp; omega
           · simp; omega
theorem Gz (op:Int):(cI op).isNone = !dS op 1 7:=by
 unfold cI dS;rw [jz]
 split
 · simp; omega
 · split
   · simp; omega
   · split
     · simp; omega
     · split
       · simp; omega
       · simp; omega
theorem N2 (a b:List UInt8):(a++b==[])=((a==[])&&(b==[])):=by
 cases a<;>cases b<;>rfl
theorem N3 {op:Int} (h:(ez op).isNone=false):((ez op).getD (false,0)).1=dS op 3 5/\((ez op).getD (false,0)).2=iw op:=by
 rw [Gy] at h
 have a:op=1\/op=2\/op=3\/op=4\/op=5\/op=6\/(7<=op/\op<=15):=by
   simp [dS] at h; omega
 rcases a with rfl | rfl | rfl | rfl | rfl | rfl | b
 any_goals exact ⟨rfl,rfl⟩
 unfold ez iw dS;rw [if_neg ae,if_neg ae,if_neg ae,if_neg ae,if_neg ae,if_pos b,if_neg ae,if_neg ae,if_neg ae];refine ⟨?_,O⟩;simp; omega
theorem N4 {op:Int} (h:(cI op).isNone=false):((cI op).getD (false,0)).1=dS op 1 3/\((cI op).getD (false,0)).2=ng op:=by
 rw [Gz] at h
 have a:op=1\/op=2\/op=3\/op=4\/op=5\/op=6\/op=7:=by
   simp [dS] at h; omega
 rcases a with rfl | rfl | rfl | rfl | rfl | rfl | rfl<;>exact ⟨rfl,rfl⟩
end Go.Bw
end
section
namespace Go.Bw
open Go
def c' (s:List UInt8):List Value:=[st s]
def rdStr (a:View) (b o:Nat) (s:List UInt8):Prop:=bR a b o (c' s)
theorem hO (s:List UInt8):(c' s).length=1:=rfl
theorem um {a c:View} (h:bF a c) (b o:Nat) (x:List UInt8) (r:rdStr a b o x):rdStr c b o x:=bR.mono h r
def cQ.cells (d:cQ):List Value:=[.int .i64 d.kind,st d.nm,.bool d.bG,.int .i64 d.n]
theorem cQ.ck (d:cQ):d.cells.length=4:=rfl
def sV (a:View) (b o:Nat) (d:cQ):Prop:=bR a b o d.cells
theorem N5 {a c:View} (h:bF a c) (b o:Nat) (x:cQ) (r:sV a b o x):sV c b o x:=bR.mono h r
def sW (e:a8) (a:Option Addr) (c:Nat):List Value:=[.int .i64 e.op,.int .i64 e.n,st e.mod,st e.nm,.slice a e.args.length c]
def a_:Nat->View->Nat->Nat->a8->Prop
 | 0=>λ_ _ _ _=>False
 | k+1=>λd b o e=>∃a c,bR d b o (sW e a c)/\Sl (a_ k) 5 d a c e.args
def sX (s:bq) (a:Option Addr) (c:Nat) (a2:Option Addr) (c2:Nat) (a3:Option Addr) (c3:Nat):List Value:=[.int .i64 s.op,st s.mod,st s.nm,.slice a s.args.length c,.slice a2 s.body.length c2,.slice a3 s.other.length c3]
def g_ (ke:Nat):Nat->View->Nat->Nat->bq->Prop
 | 0=>λ_ _ _ _=>False
 | k+1=>λd b o s=>∃a c a2 c2 a3 c3,bR d b o (sX s a c a2 c2 a3 c3)/\Sl (a_ ke) 5 d a c s.args/\Sl (g_ ke k) 6 d a2 c2 s.body/\Sl (g_ ke k) 6 d a3 c3 s.other
def BR (p:ed) (a1:Option Addr) (c1:Nat) (a2:Option Addr) (c2:Nat) (a3:Option Addr) (c3:Nat):List Value:=[st p.nm,.bool p.bG,.slice a1 p.params.length c1,.slice a2 p.aB.length c2,.slice a3 p.body.length c3]
def yN (ke ks:Nat) (a:View) (b o:Nat) (p:ed):Prop:=∃a1 c1 a2 c2 a3 c3,bR a b o (BR p a1 c1 a2 c2 a3 c3)/\Sl rdStr 1 a a1 c1 p.params/\Sl rdStr 1 a a2 c2 p.aB/\Sl (g_ ke ks) 6 a a3 c3 p.body
structure iQ where
 a1:Option Addr
 c1:Nat
 a2:Option Addr
 c2:Nat
 a3:Option Addr
 c3:Nat
 a4:Option Addr
 c4:Nat
def a6 (m:aX) (r:iQ):List Value:=[st m.nm,.slice r.a1 m.aq.length r.c1,.slice r.a2 m.decls.length r.c2,.slice r.a3 m.procs.length r.c3,.slice r.a4 m.main.length r.c4]
structure jk (ke ks:Nat) (H:View) (r:iQ) (m:aX):Prop where
 aq:Sl rdStr 1 H r.a1 r.c1 m.aq
 decls:Sl sV 4 H r.a2 r.c2 m.decls
 procs:Sl (yN ke ks) 5 H r.a3 r.c3 m.procs
 main:Sl (g_ ke ks) 6 H r.a4 r.c4 m.main
theorem Sl.imp {α:Type} {rd d:View->Nat->Nat->α->Prop} {k:Nat} {e f:View} {a:Option Addr} {c:Nat} {l:List α} (g:∀b o x,rd e b o x->d f b o x) (h:Sl rd k e a c l):Sl d k f a c l:=
 ⟨h.cap,h.max,h.spot,λi x j=>by obtain ⟨b,o,m,n⟩:=h.bT i x j; exact ⟨b,o,m,g _ _ _ n⟩⟩
theorem uo {f g:View} (i:bF f g):∀{k d:Nat},k<=d->∀(b o:Nat) (e:a8),a_ k f b o e->a_ d g b o e
 | 0,_,_,_,_,_,h=>h.elim
 | k+1,0,j,_,_,_,_=>absurd j ae
 | k+1,d+1,j,b,o,e,h=>by
   obtain ⟨a,c,l,m⟩:=h;exact ⟨a,c,bR.mono i l,m.imp λb o x n=>uo i ae b o x n⟩
theorem sY {j l:View} (f:bF j l) {ke m:Nat} (g:ke<=m):∀{k i:Nat},k<=i->∀(b o:Nat) (e:bq),g_ ke k j b o e->g_ m i l b o e
 | 0,_,_,_,_,_,h=>h.elim
 | k+1,0,n,_,_,_,_=>absurd n ae
 | k+1,i+1,n,b,o,e,h=>by
   obtain ⟨a,c,a2,c2,a3,c3,p,q,r,s⟩:=h;exact ⟨a,c,a2,c2,a3,c3,bR.mono f p,q.imp λb o x d=>uo f g b o x d,r.imp λb o x d=>sY f g ae b o x d,s.imp λb o x d=>sY f g ae b o x d⟩
theorem zh {d e:View} (c:bF d e) {ke f ks g:Nat} (i:ke<=f) (j:ks<=g) (b o:Nat) (p:ed) (h:yN ke ks d b o p):yN f g e b o p:=by
 obtain ⟨a1,c1,a2,c2,a3,c3,k,l,m,n⟩:=h;exact ⟨a1,c1,a2,c2,a3,c3,bR.mono c k,l.imp λb o x a=>um c b o x a,m.imp λb o x a=>um c b o x a,n.imp λb o x a=>sY c i j b o x a⟩
mutual
def wE:a8->Nat
 | .mk _ _ mod nm args=>1+mod.length+nm.length+e1 args
def e1:List a8->Nat
 | []=>0
 | x::r=>wE x+e1 r
end
mutual
def wS:bq->Nat
 | .mk _ mod nm args body other=>1+mod.length+nm.length+e1 args+ef body+ef other
def ef:List bq->Nat
 | []=>0
 | x::r=>wS x+ef r
end
def wN:List (List UInt8)->Nat
 | []=>0
 | s::r=>1+s.length+wN r
def wD:List cQ->Nat
 | []=>0
 | d::r=>1+d.nm.length+wD r
def wP:List ed->Nat
 | []=>0
 | p::r=>1+p.nm.length+wN p.params+wN p.aB+ef p.body+wP r
def wM (m:aX):Nat:=1+m.nm.length+wN m.aq+wD m.decls+wP m.procs+ef m.main
theorem N6:∀x:a8,1<=wE x | .mk _ _ _ _ _=>by unfold wE; omega
theorem N7:∀x:bq,1<=wS x | .mk _ _ _ _ _ _=>by unfold wS; omega
theorem GB (x:a8):wE x=1+x.mod.length+x.nm.length+e1 x.args:=by cases x; rfl
theorem GC (x:bq):wS x=1+x.mod.length+x.nm.length+e1 x.args+ef x.body+ef x.other:=by cases x; rfl
theorem z1 {i:Nat} {x:a8}:∀{l:List a8},l[i]? = some x->wE x<=e1 l
 | [],h=>by simp at h
 | y::r,h=>by
   unfold e1
   cases i with
   | zero=>simp at h; subst h; omega
   | succ i=>have:=z1 (i:=i) (l:=r) (by simpa using h); omega
theorem Af {i:Nat} {x:bq}:∀{l:List bq},l[i]? = some x->wS x<=ef l
 | [],h=>by simp at h
 | y::r,h=>by
   unfold ef
   cases i with
   | zero=>simp at h; subst h; omega
   | succ i=>have:=Af (i:=i) (l:=r) (by simpa using h); omega
theorem GG:∀l:List a8,l.length<=e1 l
 | []=>dp _
 | x::r=>by have:=GG r; have:=N6 x; unfold e1; simp; omega
theorem BB:∀l:List bq,l.length<=ef l
 | []=>dp _
 | x::r=>by have:=BB r; have:=N7 x; unfold ef; simp; omega
theorem wx:∀l:List (List UInt8),l.length<=wN l
 | []=>dp _
 | x::r=>by have:=wx r; unfold wN; simp; omega
theorem ly (b:Bool):(dK b).bL<=1:=by cases b<;>decide
theorem uq (b:Bool):(cz b).bL<=1:=by cases b<;>decide
theorem wy (b:Bool):(dY b).bL<=1:=by cases b<;>decide
theorem yO (s:Bool×Int) (mod nm:List UInt8) (len:Nat):(ee s mod nm len).bL<=3:=by
 unfold ee;rw [bs.ek,bs.ek];have:=ly (hN s.1 mod nm); have:=ly (k4 s.2 len); have:=uq (decide (3<len));omega
theorem BE:c0.bL=0:=rfl
mutual
theorem N8:∀(x:a8) (d:Nat),(gR x d).bL<=8*wE x
 | .mk op n mod nm args,d=>by
   unfold gR wE
   split
   · show 0+1+0<=_
     omega
   · rw [bs.ek,bs.ek,bs.ek]
     have:=ur args (d+1); have:=wy (ez op).isNone; have:=yO ((ez op).getD (false,0)) mod nm args.length; have:=ly (hB op n);omega
theorem ur:∀(l:List a8) (d:Nat),(ay l d).bL<=8*e1 l
 | [],_=>dp _
 | x::r,d=>by
   have:=N8 x d; have:=ur r d;unfold ay e1;rw [bs.ek];omega
end
theorem BS (d len:Nat) (c:bs):(l8 d len c).bL<=1+c.bL:=by
 unfold l8
 split
 · show 0+1+0<=_
   omega
 · rw [bs.ek]
   have:=uq (decide (10<len));omega
theorem GJ (b:Prop) [Decidable b] (c:bs):(if b then c else c0).bL<=c.bL:=by
 split
 · exact dp _
 · exact cq _
mutual
theorem N9:∀(x:bq) (d:Nat),(aL x d).bL<=8*wS x
 | .mk op mod nm args body other,d=>by
   unfold aL wS;rw [bs.ek,bs.ek,bs.ek,bs.ek,bs.ek];have a:=ur args 1; have b:=wy (cI op).isNone; have c:=yO ((cI op).getD (false,0)) mod nm args.length; have e:=ly (bo op body.length other.length);have f:=GJ ((inner op||decide (0<body.length))=true) (l8 (d+1) body.length (cS body (d+1)));have g:=GJ (0<other.length) (l8 (d+1) other.length (cS other (d+1)));have h:=BS (d+1) body.length (cS body (d+1)); have i:=BS (d+1) other.length (cS other (d+1));have j:=wz body (d+1); have k:=wz other (d+1);omega
theorem wz:∀(l:List bq) (d:Nat),(cS l d).bL<=8*ef l
 | [],_=>dp _
 | x::r,d=>by
   have:=N9 x d; have:=wz r d;unfold cS ef;rw [bs.ek];omega
end
theorem uu:∀l:List (List UInt8),(bw l).bL<=wN l
 | []=>dp _
 | s::r=>by
   have:=uu r; have:=ly (!eP s);unfold bw wN;rw [bs.ek];omega
theorem N' (d:cQ):(bl d).bL<=2:=by
 unfold bl bw bw;rw [bs.ek,bs.ek,BE];have:=ly (!eP d.nm)
 split
 · have:=ly (decide (d.n<0)||decide (1099511627775<d.n)); omega
 · split
   · have:=ly (!(d.n==0)); omega
   · split
     · have:=ly (decide (d.n<1)||decide (32<d.n)); omega
     · have:=wy true; omega
theorem BU:∀l:List cQ,(aE l).bL<=8*wD l
 | []=>dp _
 | d::r=>by
   have:=BU r; have:=N' d;unfold aE wD;rw [bs.ek];omega
theorem BV (l:List bq) (d:Nat):(d_ l d).bL<=1+8*ef l:=by
 unfold d_;have:=BS d l.length (cS l d); have:=wz l d;omega
theorem BW (s:List UInt8):(bw [s]).bL<=1:=by
 unfold bw bw;rw [bs.ek,BE];have:=ly (!eP s);omega
theorem N_ (p:ed):(nf p).bL<=3+wN p.params+wN p.aB+8*ef p.body:=by
 unfold nf;rw [bs.ek,bs.ek,bs.ek,bs.ek];have:=BW p.nm; have:=uu p.params; have:=uu p.aB; have:=uq (decide (3<p.params.length)||decide (4<p.aB.length)); have:=BV p.body 1;omega
theorem yP:∀l:List ed,(eX l).bL<=8*wP l
 | []=>dp _
 | p::r=>by
   have:=yP r; have:=N_ p;unfold eX wP;rw [bs.ek];omega
theorem BX {α:Type} {rd:View->Nat->Nat->α->Prop} {f:α->List Value} {k:Nat} {a:View} {b m:Nat} {T:TypeId} {c:Nat×Nat} {xs:List α} (e:a b=some (.cells (xs.flatMap f).toArray T c)) (d:∀x,(f x).length=k) (g:∀a b o x,bR a b o (f x)->rd a b o x) (h:xs.length<=m) (l:m<=9223372036854775807):Sl rd k a (some ⟨b,0,none⟩) m xs:=by
 refine ⟨h,l,aj,λi x n=>⟨b,0,O,g _ _ _ _ λj v hv=>?_⟩⟩
 have p:j<k:=by rw [<-d x]; exact (cf.1 hv).1
 have q:vc a b (0+i*k+j)=gQ (.cells (xs.flatMap f).toArray T c) (0+i*k+j):=by unfold vc; rw [e]; rfl
 rw [q];simp only [gQ,cj];rw [qv d n p];exact hv
section
variable {P:Program} {ops:Array Oper} {Q:Exit->Act->World->Prop} {n:Nat} {ds:List Deferred} {l:List (Nat×Value)} {w0:World} {F:List Nat} {L:List aW} {Vs:List View} {rest:List Oper}
theorem bm {T:TypeId} {m b:Nat} {c:Array Value} {a:Nat×Nat} (i:Nat) (xs:List (List UInt8)) (e:L[i]? = some (ao b (.cells c T a))) (g:c=(xs.flatMap c').toArray) (j:xs.length<=m) (k:m<=9223372036854775807)
   (h:∀d,Sl rdStr 1 d (some ⟨b,0,none⟩) m xs->WL P ops Q n ds l (Ws w0 F (eu i L) (d::Vs)) rest):WL P ops Q n ds l (Ws w0 F L Vs) rest:=by
 subst g
 have o:bv b (.cells (xs.flatMap c').toArray T a) b=some (.cells (xs.flatMap c').toArray T a):=by simp [bv]
 exact WL.lv i e (h _ (BX (f:=c') o hO cp j k))
end
section
variable {P:Program} {l:List (Nat×Value)} {W:World->Prop} {d:Option Tmp} {ty:TypeId} {pos:String} {af:Array Edge} {g:Option (Nat×Bool)}
theorem GK {t:TypeId} {parts:List (Nat×Operand)} {vs:List (Nat×Value)} {a:Value} {n s:Nat} {out:List Value} (j:zeroOf P t=some a) (b:sO P t=some (n,s))
   (hv:qs l parts=some vs) (k:pg (λi=>some (i*s,s)) (e_ a) vs=some out):Yl P l W ⟨d,.build t parts.toArray,ty,pos,af,g⟩ (.agg out.toArray):=by
 intro ρ w o _
 have p:((parts.toArray.map λ (i,x)=>(i,ρ x)):Array (Nat×Value)).toList=vs:=by simpa using yl o parts vs hv
 unfold sO at b
 cases c:P.underlying t with
 | none=>simp [c] at b
 | some q=>
   cases q<;>simp [c] at b
   rename_i m e;obtain ⟨f,hi,r,u⟩:=b;subst r u
   have h:Instr.fill (λi=>some (i*f.size,f.size)) a.cells vs=some out.toArray:=by
     refine v8 _ vs a.cells out ?_;rw [rB]
     simpa using k
   simp only [execOp,Instr.build,Sem.run_bind,sJ j,Result.andThen_ok,run_underlying c,p,h,sizeOf,typeInfo,hi,Sem.run_pure];simp [hi,h]
end
section
variable {P:Program} {ops:Array Oper} {Q:Exit->Act->World->Prop} {n:Nat} {ds:List Deferred} {l:List (Nat×Value)} {w0:World} {F:List Nat} {L:List aW} {Vs:List View}
 {rest:List Oper} {d:Nat} {ty:TypeId} {pos:String} {af:Array Edge} {g:Option (Nat×Bool)}
theorem iR {ι κ:Type} {f:FuncId} {args:Array Operand} {ts:Array TypeId} {vs:List Value} (o L2:List aW) (D:dN ops l g) (E:Nat.blt d n=true) (G:Enters P f) (H:iu l args.toList=some vs) (I:L=o++L2)
   (v:ι->Value) (u:ι->List aW) (R:View->ι->Prop) (x:κ->List PanicEntry) (Lp:κ->List aW) (y:κ->Prop) (b3:List View) (J:∀b ∈ b3,b ∈ Vs)
   (K:∀i,∀k ∈ (u i).flatMap aW.ids,k ∈ o.flatMap aW.ids)
   (M:∀w,Ws w (o.flatMap aW.ids) o b3 w->Calls P f vs.toArray w λe w'=>(∃i,e = .returned (v i)/\R (nv w w') i/\Ws w (o.flatMap aW.ids) (u i) b3 w')\/(∃j,e = .panicked (x j)/\y j/\Ws w (o.flatMap aW.ids) (Lp j) b3 w'))
   (N:∀j,y j->WE Q (.panic (x j)) n ds l (Ws w0 F (Lp j++L2) Vs))
   (S:∀b i,fj w0 b->R b i->WL P ops Q n ds ((d,v i)::l) (Ws w0 F (u i++L2) (b::Vs)) rest) :
   WL P ops Q n ds l (Ws w0 F L Vs) (⟨some d,.call ⟨.value (.func f),args,ts⟩,ty,pos,af,g⟩::rest):=by
 subst I;refine WL.v_ (ι:=View×ι) D E G H (λi=>v i.2) (λi w'=>(fj w0 i.1/\R i.1 i.2)/\Ws w0 F (u i.2++L2) (i.1::Vs) w') (λc w'=>∃j,c=x j/\y j/\Ws w0 F (Lp j++L2) Vs w') (λw p=>(M w (p.self.av J)).mono λe w' T=>?_) (λi=>?_) (λc=>?_)
 · rcases T with ⟨i,rfl,s,h⟩ | ⟨j,rfl,s,h⟩
   · have q:=p.back h
     refine .inl ⟨(nv w w',i),O,⟨(tY w w').mono p.fr.size,s⟩,q.fr,q.kn,q.nd,q.own,λb m=>?_,λb m A r k z=>?_⟩
     · rcases dU.1 m with rfl | m
       · exact nF w w'
       · exact q.vs b m
     · rcases dU.1 m with rfl | m
       · have U:k<w.heap.size:=by
           rcases dA.1 r with r | r
           · have V:=K i k (lX.2 ⟨A,r,z⟩)
             obtain ⟨B,W,X⟩:=lX.1 V;exact B.vZ w (p.kn B (by simp [W])) k X
           · exact A.vZ w (p.kn A (by simp [r])) k z
         exact tY w w' k U
       · exact q.off b m A r k z
   · exact .inr ⟨_,O,j,O,s,p.back h⟩
 · intro a w C t
   exact S i.1 i.2 t.1.1 t.1.2 a w C t.2
 · rintro a w C ⟨j,rfl,s,t⟩
   exact N j s a w C t
end
end Go.Bw
end
