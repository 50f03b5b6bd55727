/- LinkSame: the code of a program does what the program means (proved in the second form, bulk at most 1048576). -/
import Derived.Below
import Derived.Carry
import Derived.ChangeOld
import Derived.Deep.Quiet
import Derived.Deep.Slices
import Derived.Deep.Upon
import Derived.Defers
import Derived.JoinedCond
import Derived.LaidEql
import Derived.Laws.BytesString
import Derived.Laws.DeepStrings4
import Derived.Laws.Externs
import Derived.Laws.Pointers
import Derived.Laws.Slices
import Derived.Lib.AppendStr
import Derived.Lib.AppendZeros
import Derived.Lib.AtoiAllCases
import Derived.Lib.AtoiTie
import Derived.Lib.Builder
import Derived.Lib.Bytealg
import Derived.Lib.ConvBytes
import Derived.Lib.ItoaNum
import Derived.Lib.Join
import Derived.Lib.LaidTab
import Derived.Lib.SmallJoins
import Derived.Lib.UnsafeStr
import Derived.MapKept
import Derived.OpenShut
import Derived.ProofKit
import Derived.Recover
import Derived.Sort.Grow
import Derived.WalkKit
import Derived.WalkSpells
import Derived.WideMake
set_option linter.unusedVariables false
set_option linter.unusedSimpArgs false
set_option linter.defProp false
namespace Go
def aa {p:Prop} (h:p:=by omega):p:=h
def ai {p:Prop} (h:p:=by simp):p:=h
def a8 {p:Prop} (h:p:=by decide):p:=h
def x_ {p:Prop} (h:p:=by assumption):p:=h
def ab {p:Prop} (h:p:=by kernel_rfl):p:=h
def cR {α:Type _} {l:List α} {i:Nat} (h:i<l.length):∃x,l[i]? = some x:=⟨_,List.getElem?_eq_getElem h⟩
def ay {α:Sort _} {p:α->Prop}:∀a,p a->p a:=λ_ h=>h
def lH {α β:Sort _} {p:α->β->Prop}:∀a b,p a b->p a b:=λ_ _ h=>h
def dN {α β e f:Sort _} {p:α->β->e->f->Prop}:∀a b c d,p a b c d->p a b c d:=λ_ _ _ _ h=>h
def qf:=@Nat.le_of_ble_eq_true
def j2:=@Nat.eq_of_beq_eq_true
def jD:=@Array.getD_eq_getD_getElem?
def tb:=@Array.getElem?_setIfInBounds_ne
def km:=@List.mem_cons_self
def dT:=@List.mem_cons_of_mem
def hJ:=@Array.getElem?_eq_getElem
def ep:=@List.mem_cons
def DQ:=@Nat.beq_refl
def nX:=@Nat.sub_zero
def mb:=@Nat.lt_or_ge
def wl:=@List.getElem?_eq_none
def AB:=@Array.getElem?_append
def c6:=@List.getElem?_eq_getElem
def HW:=@Classical.choose_spec
def cQ:=@Nat.le_refl
def ea:=@Nat.le_trans
def AC:=@Nat.lt_of_lt_of_le
def wm:=@Array.getElem?_eq_none
def AD:=@List.flatMap_append
def lI:=@List.nodup_append
def ci:=@List.mem_flatMap
def ge:=@List.mem_append
def az:=@List.mem_of_getElem?
def jq:=@List.getElem?_take
def rZ:=@Nat.add_assoc
def dE:=@Bool.and_eq_true
def tc:=@Nat.add_zero
def HX:=@Array.length_toList
def td:=@Array.ext'
def uG:=@List.mapM_cons
def dR:=@Option.map_some
def cS:=@Option.bind_some
def wn:=@Array.mapM_eq_mapM_toList
def gN:=@List.all_eq_true
def k':=@List.length_take
def wo:=@Nat.min_eq_left
def ya:=@Nat.mul_le_mul_right
def di:=@Nat.zero_le
def fz:=@Nat.add_mul
def DR:=@List.map_toArray
def k_:=@List.map_cons
def uH:=@List.map_nil
def hM:=@List.all_cons
def h5:=@List.cons_append
def qg:=@List.take_append_drop
def cq:=@List.getElem?_eq_some_iff
def HY:=@List.getElem_cons_drop
def tf:=@Nat.mul_one
def r0:=@List.ext_getElem?
def dV:=@Bool.false_eq_true
def AE:=@Ne.symm
def DS:=@Array.setIfInBounds_comm
def AF:=@List.map_congr_left
def DT:=@Nat.mod_lt
def mM:=@List.flatMap_cons
def nb:=@List.take_succ_cons
def bV:=@List.append_assoc
def nc:=@List.getElem?_append_right
def wq:=@Nat.add_sub_cancel_left
def oM:=@List.getElem?_append_left
def DU:=@List.take_append
def lJ:=@List.take_of_length_le
def DV:=@List.drop_append
def HZ:=@List.drop_of_length_le
def DW:=@List.nil_append
def yb:=@List.set_getElem_self
def i9:=@Bool.or_eq_false_iff
def gf:=@List.length_cons
def DX:=@List.map_map
def yc:=@Option.getD_some
def uJ:=@List.mem_range
def uK:=@List.eq_nil_of_length_eq_zero
def ef:=@Bool.true_and
def H0:=@Nat.ble_eq_true_of_le
def eX:=@List.getElem?_modify
def e4:=@List.getElem?_map
def H1:=@Array.toList_modify
def DY:=@List.mapM_nil
def DZ:=@Nat.add_comm
def gE:=@List.take_length
def lK:=@Nat.zero_add
def qh:=@List.mem_append_right
def nV:=@List.take_take
def H2:=@List.getElem?_drop
def yd:=@Bool.or_eq_true
def H3:=@Array.getElem?_eq_some_iff
def D1:=@Nat.succ_mul
def jE:=@List.length_append
def iT:=@List.length_nil
def wr:=@List.append_nil
def aN:=@Option.some.injEq
def H4:=@UInt8.toNat_ofNat'
def gU:=@List.mem_singleton
def dS:=@Option.map_eq_some_iff
def tg:=@List.any_eq_false
def q5:=@List.any_eq_true
def kr:=@Bool.eq_iff_iff
def pt:=@List.drop_eq_getElem_cons
def cU:=@Option.bind_eq_some_iff
def D2:=@Bool.eq_false_iff
def e5:=@List.getElem?_inj
def AG:=@List.pairwise_iff_getElem
def iE:=@List.getElem?_of_mem
def D3:=@List.all_eq_false
def gV:=@List.take_add_one
def ye:=@Nat.le_add_right
def aaG:=@List.nodup_cons
def yf:=@Nat.sub_self
def cm:=@List.getElem?_cons_zero
def eu:=@Option.map_none
def lL:=@List.getElem?_cons_succ
def i':=@Int.toNat_natCast
def q6:=@List.mem_map
def H5:=@List.modify_succ_cons
def qi:=@List.map_append
def yg:=@List.length_singleton
def H6:=@List.range_succ
def wu:=@List.mem_append_left
def yh:=@List.mem_of_mem_take
def eH:=@Bool.and_eq_true_iff
def AH:=@List.sum_cons
def H7:=@List.getElem?_set
def AI:=@List.replicate_succ
def yi:=@List.prefix_rfl
def D4:=@Bool.or_eq_true_iff
def uL:=@List.drop_eq_nil_of_le
def D5:=@List.getElem?_replicate
def H8:=@List.set_append_right
def AJ:=@List.contains_iff_mem
def D6:=@List.getElem_mem
def ne:=@Nat.lt_succ_iff_lt_or_eq
def fu:=@List.length_map
def D7:=@List.pairwise_append
def D8:=@List.pairwise_singleton
def wv:=@List.drop_length
def AK:=@Int.le_refl
def H9:=@List.count_eq_zero
def AL:=@List.pairwise_cons
def D9:=@Classical.byContradiction
def hU:=@Nat.mul_add
def H':=@Nat.mul_le_mul_left
def H_:=@List.getElem?_take_of_lt
def hX:=@List.getElem?_mapIdx
def AM:=@List.count_append
def D':=@List.count_cons
def dO:=@Prod.mk.injEq
def D_:=@Int.zero_add
def Ia:=@List.getElem?_eq_none_iff
def uO:=@List.reverse_cons
def n8:=@List.sum_append
def Ib:=@List.length_flatMap
def ot:=@List.flatMap_nil
def Ec:=@List.drop_reverse
def oK:=@List.take_reverse
def Ic:=@Nat.eq_zero_or_pos
def Ee:=@Bool.not_eq_true'
def th:=@Function.comp_def
def ei:=@Option.bind_none
def AN:=@Nat.not_lt_zero
def Ef:=@List.length_replicate
def yj:=@List.not_mem_nil
def Ie:=@List.count_le_length
def If:=@Bool.eq_false_or_eq_true
def yk:=@List.length_set
def Ig:=@List.sizeOf_lt_of_mem
def Ih:=@List.find?_append
def Ii:=@List.find?_cons
def Ij:=@Option.some.inj
def ZZ:=@if_pos
def ZX:=@if_neg
def Z':=@if_true
def aae:=@cond_true
def Z9:=@if_false
def aaj:=@cond_false
def aac:=@beq_iff_eq
def aam:=@beq_eq_false_iff_ne
def aab:=@decide_eq_true_eq
def aad:=@decide_eq_false_iff_not
def aaf:=@decide_eq_false
def aaa:=@decide_eq_true
def aag:=@of_decide_eq_true
def aak:=@forall_eq_or_imp
def aal:=@of_decide_eq_false
def aai:=@or_false
def O {α : Sort _} {a : α} : a = a := rfl
def Y {α : Sort _} {a : α} {b : Prop} : a = a \/ b := .inl rfl
end Go
section
namespace Go.Bw
open Go Go.RowKit
def lk:List (Nat×Value)->Nat->Option Value
 | [],_=>none
 | (k,v)::r,n=>bif Nat.beq k n then some v else lk r n
structure Ag (n:Nat) (ds:List Deferred) (l:List (Nat×Value)) (a:Act):Prop where
 size:a.tmps.size=n
 defs:a.defers=ds
 h7:∀t v,lk l t=some v->a.tmps.getD t undef=v
def bK (l:List (Nat×Value)):Operand->Option Value
 | .tmp t=>lk l t
 | .const v=>some v
 | .global g=>some (.pointer<|some ⟨g,0,none⟩)
 | .func f=>some (.func (.func f) #[] #[])
section
variable {n:Nat} {ds:List Deferred} {l:List (Nat×Value)} {a:Act}
def Ag.eval (h:Ag n ds l a) {x:Operand} {v:Value} (b:bK l x=some v):a.eval x=v:=by
 cases x with
 | tmp t=>exact h.h7 t v b
 | const u=>simpa [bK,Act.eval] using b
 | global g=>simpa [bK,Act.eval] using b
 | func f=>simpa [bK,Act.eval] using b
def Ag.put (h:Ag n ds l a) {d:Nat} (c:Nat.blt d n=true) (v:Value):Ag n ds ((d,v)::l) (a.put (some d) v):=by
 have f:d<a.tmps.size:=by rw [h.size]; exact qf c
 refine ⟨by simp [Act.put,h.size],h.defs,λt u b=>?_⟩;simp only [lk] at b
 by_cases e:d=t
 · subst e
   simp at b;subst b;simp [Act.put,Array.getD,f]
 · have:Nat.beq d t=false:=by
     cases g:Nat.beq d t with
     | false=>rfl
     | true=>exact absurd (j2 g) e
   rw [this] at b;have:=h.h7 t u b;simp only [Act.put,jD] at *;rw [tb e];exact this
def Ag.yl (h:Ag n ds l a) (v:Value):Ag n ds l (a.put none v):=h
def Ag.sub (h:Ag n ds l a) {b:List (Nat×Value)} (d:∀p ∈ b,lk l p.1=some p.2):Ag n ds b a:=by
 refine ⟨h.size,h.defs,λt v hv=>?_⟩
 suffices hm:(t,v) ∈ b from h.h7 t v (d _ hm)
 induction b with
 | nil=>cases hv
 | cons p r e=>
   obtain ⟨k,u⟩:=p;simp only [lk] at hv
   cases c:Nat.beq k t with
   | true=>
     rw [c] at hv;have:=j2 c;subst this;simp at hv;subst hv;exact km
   | false=>
     rw [c] at hv;exact dT _<|e (λp f=>d p<|dT _ f) hv
def ww (l:List (Nat×Value)):List (Nat×Value)->List (Option Value)
 | []=>[]
 | p::r=>lk l p.1::ww l r
def wx:List (Nat×Value)->List (Option Value)
 | []=>[]
 | p::r=>some p.2::wx r
def ym {l:List (Nat×Value)}:∀{r:List (Nat×Value)},ww l r=wx r->∀p ∈ r,lk l p.1=some p.2
 | [],_,p,h=>by cases h
 | q::r,e,p,h=>by
  injection e with a b
  rcases List.mem_cons.1 h with rfl|h
  · exact a
  · exact ym b p h
end
section
variable {P:Program} {ops:Array Oper} {Q:Exit->Act->World->Prop} {n:Nat} {ds:List Deferred} {l:List (Nat×Value)} {W:World->Prop}
def WL (P:Program) (ops:Array Oper) (Q:Exit->Act->World->Prop) (n:Nat) (ds:List Deferred) (l:List (Nat×Value)) (W:World->Prop) (rest:List Oper):Prop:=
 ∀a w,Ag n ds l a->W w->wpList P ops Q rest a w
def WC (P:Program) (c:Code) (Q:Exit->Act->World->Prop) (n:Nat) (ds:List Deferred) (l:List (Nat×Value)) (W:World->Prop):Prop:=
 ∀a w,Ag n ds l a->W w->c.wp P Q a w
def WE (Q:Exit->Act->World->Prop) (e:Exit) (n:Nat) (ds:List Deferred) (l:List (Nat×Value)) (W:World->Prop):Prop:=
 ∀a w,Ag n ds l a->W w->Q e a w
def Yl (P:Program) (l:List (Nat×Value)) (W:World->Prop) (o:Oper) (v:Value):Prop:=
 ∀(a:Operand->Value) (w:World),(∀x u,bK l x=some u->a x=u)->W w->(execOp a o).run P w = .ok (.value v) w
def Ln (h:WE Q .normal n ds l W):WL P ops Q n ds l W []:=λa w b c=>h a w b c
def aK (ops:Array Oper) (l:List (Nat×Value)) (g:Option (Nat×Bool)):Prop:=
 g=none\/∃j b a,g=some (j,b)/\(ops[j]?).bind (·.dst)=some a/\lk l a=some (.bool b)
def aK.wanted {o:Oper} {a:Act} (h:aK ops l o.guard) (e:Ag n ds l a):Region.wanted o (yielded ops a.tmps)=true:=by
 rcases h with h | ⟨j,b,d,f,g,i⟩
 · simp [Region.wanted,h]
 · have hv:=e.h7 d _ i
   rw [jD] at hv
   cases c:a.tmps[d]? with
   | none=>simp [c,undef] at hv
   | some u=>
     simp [c] at hv;subst hv;simp [Region.wanted,f,yielded,g,c]
variable {bF:List Oper} {d_:Oper}
def WL.step (d:aK ops l d_.guard)
   (h:∀a w,Ag n ds l a->W w->∀b:Act->World->Prop,(∀a w,wpList P ops Q bF a w->b a w)->d_.wp P a w b Q):WL P ops Q n ds l W (d_::bF):=by
 intro a w c e;refine wpList_step λb f=>?_;rw [ZZ (d.wanted c)];exact h a w c e b f
variable {Z:Nat} {j3:Op} {a0:TypeId} {fY:String} {gF:Array Edge} {a5:Value} {g3:Option (Nat×Bool)}
def Lv (d:aK ops l g3) (e:Nat.blt Z n=true)
   (f:Yl P l W ⟨some Z,j3,a0,fY,gF,g3⟩ a5) (h:WL P ops Q n ds ((Z,a5)::l) W bF):WL P ops Q n ds l W (⟨some Z,j3,a0,fY,gF,g3⟩::bF):=by
 refine WL.step d λa w b c j g=>?_;have:=f a.eval w (λx u i=>b.eval i) c;simp only [Oper.wp,this,Oper.upon_value];exact g _ _<|h _ _ (b.put e a5) c
def I (a:Yl P l W ⟨some Z,j3,a0,fY,gF,none⟩ a5) (h:WL P ops Q n ds ((Z,a5)::l) W bF) (b:Nat.blt Z n=true:=by rfl):WL P ops Q n ds l W (⟨some Z,j3,a0,fY,gF,none⟩::bF):=Lv (.inl rfl) b a h
def Vg (a:Yl P l W ⟨some Z,j3,a0,fY,gF,g3⟩ a5) (h:WL P ops Q n ds ((Z,a5)::l) W bF) (b:aK ops l g3:=by exact .inr ⟨_,_,_,rfl,rfl,rfl⟩) (c:Nat.blt Z n=true:=by rfl):WL P ops Q n ds l W (⟨some Z,j3,a0,fY,gF,g3⟩::bF):=Lv b c a h
variable {ax:Bool} {aw:Nat}
def aK.g (a:g3=some (Z,ax)) (b:(ops[Z]?).bind (·.dst)=some aw) (c:lk l aw=some (.bool ax)):aK ops l g3:=.inr ⟨Z,ax,aw,a,b,c⟩
def WL.skip {b:Nat} (e:Nat.blt Z n=true)
   (f:ops[aw]? = some d_) (g:d_.dst=some b) (i:Nat.blt b n=true) (j:lk l b=some (.bool<|!ax))
   (h:WL P ops Q n ds ((Z,undef)::l) W bF):WL P ops Q n ds l W (⟨some Z,j3,a0,fY,gF,some (aw,ax)⟩::bF):=by
 intro a w c k;refine wpList_step λq m=>?_;have hv:a.tmps.getD b undef = .bool (!ax):=c.h7 b _ j
 have d:b<a.tmps.size:=by rw [c.size]; exact qf i
 have o:a.tmps[b]? = some (.bool<|!ax):=by
   rw [jD,hJ d] at hv;rw [hJ d]
   simpa using hv
 have p:yielded ops a.tmps aw=some (!ax):=by simp [yielded,f,g,o]
 rw [ZX (by simp [Region.wanted,p])];exact m _ _<|h _ _ (c.put e undef) k
def WL.sub (b:List (Nat×Value)) (c:∀p ∈ b,lk l p.1=some p.2) (h:WL P ops Q n ds b W bF):WL P ops Q n ds l W bF:=
 λa w d e=>h a w (d.sub c) e
variable {fo:Code}
def WC.sub (b:List (Nat×Value)) (c:∀p ∈ b,lk l p.1=some p.2) (h:WC P fo Q n ds b W):WC P fo Q n ds l W:=
 λa w d e=>h a w (d.sub c) e
variable {AO:Exit}
def WE.sub (b:List (Nat×Value)) (c:∀p ∈ b,lk l p.1=some p.2) (h:WE Q AO n ds b W):WE Q AO n ds l W:=
 λa w d e=>h a w (d.sub c) e
def LW {W':World->Prop} (b:∀w,W w->W' w) (h:WL P ops Q n ds l W' bF):WL P ops Q n ds l W bF:=
 λa w c d=>h a w c<|b w d
def nf {W':World->Prop} (b:∀w,W w->W' w) (h:WC P fo Q n ds l W'):WC P fo Q n ds l W:=
 λa w c d=>h a w c<|b w d
def WE.world {W':World->Prop} (b:∀w,W w->W' w) (h:WE Q AO n ds l W'):WE Q AO n ds l W:=
 λa w c d=>h a w c<|b w d
def sn {l:List (Nat×Value)}:∀p ∈ ([]:List (Nat×Value)),lk l p.1=some p.2:=ai
def sc {l r:List (Nat×Value)}   (h:lk l Z=some a5) (b:∀p ∈ r,lk l p.1=some p.2):∀p ∈ (Z,a5)::r,lk l p.1=some p.2:=by
 intro p a
 rcases ep.1 a with rfl | a
 · exact h
 · exact b p a
variable {h8:Code}
def Cs (h:WC P fo (Exit.then (h8.wp P Q) Q) n ds l W):WC P (.seq fo h8) Q n ds l W:=λa w b c=>wp_seq<|h a w b c
def Ck (h:WE Q .normal n ds l W):WC P .skip Q n ds l W:=λa w b c=>wp_skip<|h a w b c
def am (h:WE Q .ret n ds l W):WC P .ret Q n ds l W:=λa w b c=>wp_ret<|h a w b c
def Ce (h:WE Q (.exit Z) n ds l W):WC P (.exit Z) Q n ds l W:=λa w b c=>wp_exit<|h a w b c
def Cb (h:WC P fo (Exit.inBlock Z Q) n ds l W):WC P (.block Z fo) Q n ds l W:=λa w b c=>wp_block<|h a w b c
def Cr (h:WL P bF.toArray Q n ds l W bF):WC P (.region Z bF.toArray false) Q n ds l W:=λa w b c=>wp_region_lit<|h a w b c
variable {be:Operand}
def Cc (d:bK l be=some (.bool ax)) (e:ax=true->WC P fo Q n ds l W) (f:ax=false->WC P h8 Q n ds l W):WC P (.cond be fo h8) Q n ds l W:=
 λa w b c=>wp_cond_split (b.eval d) (λh=>e h a w b c)<|λh=>f h a w b c
def WC.AP (c:bK l be=some (.bool true)) (h:WC P fo Q n ds l W):WC P (.cond be fo h8) Q n ds l W:=
 λa w b d=>wp_cond_true (b.eval c)<|h a w b d
def WC.uQ (c:bK l be=some (.bool false)) (h:WC P h8 Q n ds l W):WC P (.cond be fo h8) Q n ds l W:=
 λa w b d=>wp_cond_false (b.eval c)<|h a w b d
variable {ti:Exit->Act->World->Prop}
def Et (h:WC P fo Q n ds l W):WE (Exit.then (fo.wp P Q) ti) .normal n ds l W:=λa w b c=>h a w b c
variable {tj:Act->World->Prop}
def Er (h:WE Q .ret n ds l W):WE (Exit.then tj Q) .ret n ds l W:=h
def Ex (h:WE Q (.exit Z) n ds l W):WE (Exit.then tj Q) (.exit Z) n ds l W:=h
def ad (h:WC P fo Q n ds l W):WL P ops (Exit.then (fo.wp P Q) ti) n ds l W []:=Ln<|Et h
def ae (h:WL P bF.toArray (Exit.then (fo.wp P Q) Q) n ds l W bF):WC P (.seq (.region Z bF.toArray false) fo) Q n ds l W:=Cs<|Cr h
def bW (h:WC P fo Q n ds l W):WC P .skip (Exit.then (fo.wp P Q) ti) n ds l W:=Ck<|Et h
def Eb (h:WE Q .normal n ds l W):WE (Exit.inBlock Z Q) .normal n ds l W:=h
def cN (h:WE Q .ret n ds l W):WE (Exit.inBlock Z Q) .ret n ds l W:=h
def dQ (h:WE Q .normal n ds l W):WE (Exit.inBlock Z Q) (.exit Z) n ds l W:=λa w b c=>by
 simp only [Exit.inBlock,Z']; exact h a w b c
def Eg (b:Nat.beq aw Z=false) (h:WE Q (.exit aw) n ds l W):WE (Exit.inBlock Z Q) (.exit aw) n ds l W:=λa w c d=>by
 have:aw≠Z:=λe=>by subst e; rw [DQ] at b; cases b
 simp only [Exit.inBlock,ZX this]; exact h a w c d
def uR:Nat->List Value->List (Nat×Value)
 | _,[]=>[]
 | i,v::r=>(i,v)::uR (i+1) r
def Eh (vs:List Value):∀(i t:Nat) (v:Value),lk (uR i vs) t=some v->i<=t/\vs[t-i]? = some v:=by
 induction vs with
 | nil=>intro i t v h; cases h
 | cons x r b=>
   intro i t v h;simp only [uR,lk] at h
   cases a:Nat.beq i t with
   | true=>
     rw [a] at h;have:=j2 a;subst this;simp at h;simp [h]
   | false=>
     rw [a] at h;obtain ⟨d,c⟩:=b (i+1) t v h;refine ⟨aa,?_⟩
     have:t-i=(t-(i+1))+1:=aa
     rw [this]
     simpa using c
variable {eZ:Func} {gg:Ending->World->Prop}
def enter {f:FuncId}   {vs:List Value} {w:World}  (c:P.funcs[f]? = some eZ) (d:eZ.body=some fo)
   (m:Nat) (e:eZ.ntmps=m) (g:Nat.ble vs.length m=true) (h:WC P fo (bodyPost P eZ gg) m [] (uR 0 vs) (λi=>i=w)):Calls P f vs.toArray w gg:=by
 refine calls_of_wp c d<|h _ _ ?_ O;have j:=qf g;subst e;refine ⟨by simp; omega,O,λt v hv=>?_⟩;obtain ⟨_,a⟩:=Eh vs 0 t v hv;simp only [nX] at a
 have b:t<vs.length:=by
   rcases mb t vs.length with h | h
   · exact h
   · simp [wl h] at a
 simp [jD,AB,b];simp [c6 b] at a;exact a
def WE.Ei (b:eZ.results = #[]) (h:∀w,W w->gg (.returned<|.tuple #[]) w):WE (bodyPost P eZ gg) .ret n [] l W:=
 λa w c d=>bodyPost_ret (results_none b _ _ _) c.defs<|h w d
def E0 (b:eZ.results = #[]) (h:∀w,W w->gg (.returned<|.tuple #[]) w):WE (bodyPost P eZ gg) .normal n [] l W:=
 λa w c d=>bodyPost_end (results_none b _ _ _) c.defs<|h w d
def R1 (c:eZ.results = #[.tmp Z]) (d:lk l Z=some a5) (h:∀w,W w->gg (.returned a5) w):WE (bodyPost P eZ gg) .ret n [] l W:=
 λa w b e=>bodyPost_ret (results_tmp c _ _ _) b.defs (by rw [b.h7 Z a5 d]; exact h w e)
def WE.ng {v x:Value} (c:eZ.results = #[.tmp Z,.tmp aw]) (d:lk l Z=some v) (e:lk l aw=some x) (h:∀w,W w->gg (.returned<|.tuple #[v,x]) w):WE (bodyPost P eZ gg) .ret n [] l W:=
 λa w b f=>bodyPost_ret (results_tmp2 c _ _ _) b.defs (by rw [b.h7 Z v d,b.h7 aw x e]; exact h w f)
variable {wy:List PanicEntry}
def bE (h:∀w,W w->gg (.panicked wy) w):WE (bodyPost P eZ gg) (.panic wy) n [] l W:=
 λa w b c=>⟨b.defs,h w c⟩
def Ep (h:WE Q (.panic wy) n ds l W):WE (Exit.then tj Q) (.panic wy) n ds l W:=h
def WE.bS (h:WE Q (.panic wy) n ds l W):WE (Exit.inBlock Z Q) (.panic wy) n ds l W:=h
def E7 {p:Nat->Prop}:∀m,p m->∃k,p k/\∀j,p j->k<=j:=by
 intro m
 induction m using Nat.strongRecOn with
 | _ m b=>
   intro c
   by_cases h:∃j,j<m/\p j
   · obtain ⟨j,d,a⟩:=h
     exact b j d a
   · exact ⟨m,c,λj a=>Nat.le_of_not_lt λe=>h ⟨j,e,a⟩⟩
variable {bB:Type}
def wp_loop_ghost {a:Act} {w:World} (b:bB->Act->World->Prop) (c:bB->Nat) (g:bB) (n:b g a w)
   (o:∀i a w,b i a w->fo.wp P (Exit.then (λd f=>∃j,c j<c i/\b j d f) Q) a w):(Code.loop fo).wp P Q a w:=by
 classical
 let J:Act->World->Prop:=λa w=>∃i,b i a w
 have ex:∀a w,J a w->∃k,(∃i,b i a w/\c i=k)/\∀j,(∃i,b i a w/\c i=j)->k<=j:=by
   rintro a w ⟨i,hi⟩
   exact E7 (c i) ⟨i,hi,O⟩
 let M:Act->World->Nat:=λa w=>if h:J a w then Classical.choose (ex a w h) else 0
 have p:∀a w,J a w->∃i,b i a w/\c i=M a w:=by
   intro a w h;have:=(HW<|ex a w h).1;simp only [M,dif_pos h];exact this
 have q:∀a w i,b i a w->M a w<=c i:=by
   intro a w i hi;have h:J a w:=⟨i,hi⟩;simp only [M,dif_pos h];exact (HW<|ex a w h).2 _ ⟨i,hi,O⟩
 refine wp_loop J M ⟨g,n⟩ λa w r=>?_;obtain ⟨i,hi,s⟩:=p a w r;refine wp_mono (o i a w hi) λe d f l=>?_
 cases e with
 | normal=>
   obtain ⟨j,t,m⟩:=l;exact ⟨⟨j,m⟩,by have:=q d f j m; omega⟩
 | _=>exact l
def WC.loop (b:bB->List (Nat×Value)) (Wi:bB->World->Prop) (R:bB->Prop) (d:bB->Nat) (c:bB) (f:R c) (g:∀p ∈ b c,lk l p.1=some p.2) (h:∀w,W w->Wi c w)
   (k:∀i,R i->WC P fo (Exit.then (λm o=>∃j,d j<d i/\R j/\Ag n ds (b j) m/\Wi j o) Q) n ds (b i) (Wi i)):WC P (.loop fo) Q n ds l W:=by
 intro a w q r;refine wp_loop_ghost (λi a w=>R i/\Ag n ds (b i) a/\Wi i w) d c ⟨f,q.sub g,h w r⟩ λi a w e=>?_;exact k i e.1 a w e.2.1 e.2.2
def Ea {c:bB->List (Nat×Value)} {Wi:bB->World->Prop} {R:bB->Prop} {b:bB->Nat} {i:bB} (j:bB) (d:b j<b i) (e:R j) (f:∀p ∈ c j,lk l p.1=some p.2) (g:∀w,W w->Wi j w) :
   WE (Exit.then (λh k=>∃j,b j<b i/\R j/\Ag n ds (c j) h/\Wi j k) Q) .normal n ds l W:=λa w m o=>⟨j,d,e,m.sub f,g w o⟩
def c8 {ι:Type} {b:ι->List (Nat×Value)} {Wi:ι->World->Prop} {R:ι->Prop} {a:ι->Nat} {i:ι} (j:ι) (c:a j<a i) (d:R j) (e:∀w,W w->Wi j w) (f:ww l (b j)=wx (b j):=by rfl):WE (Exit.then (λg h=>∃j,a j<a i/\R j/\Ag n ds (b j) g/\Wi j h) Q) .normal n ds l W:=Ea j c d (ym f) e
end
abbrev View:=Nat->Option Obj
def Le (a:View) (w:World):Prop:=∀b o,a b=some o->w.heap[b]? = some o
def bG (a c:View):Prop:=∀b o,a b=some o->c b=some o
def bG.refl (a:View):bG a a:=λ_ _ h=>h
def bG.trans {a B C:View} (h:bG a B) (k:bG B C):bG a C:=λb o x=>k b o<|h b o x
def gw (w:World) (a:View):Prop:=∀b,b<w.heap.size->a b=none
def nv (a w:World):View:=λb=>if a.heap.size<=b then w.heap[b]? else none
def Ej (a w:World):Le (nv a w) w:=λb o h=>by unfold nv at h; split at h; exact h; cases h
def wz (a w:World):gw a (nv a w):=λb h=>by unfold nv; rw [ZX aa]
variable {bY eD:World} {an:View}
def E8 (c:Le an eD) (d:gw bY an):bG an (nv bY eD):=λb o h=>by
 unfold nv;rw [ZZ,c b o h]
 rcases mb b bY.heap.size with a | a
 · rw [d b a] at h; cases h
 · exact a
def gw.mono (h:gw eD an) (a:bY.heap.size<=eD.heap.size):gw bY an:=λb c=>h b aa
structure Fr (F:List Nat) (w0 w:World):Prop where
 os:w.os=w0.os
 tape:w.tape=w0.tape
 output:w.output=w0.output
 size:w0.heap.size<=w.heap.size
 block:∀k,k<w0.heap.size->k ∉ F->w.heap[k]? = w0.heap[k]?
abbrev Ext (w a:World):Prop:=Fr [] w a
def Fr.refl (a:List Nat) (w:World):Fr a w w:=⟨rfl,rfl,rfl,cQ _,λ_ _ _=>rfl⟩
variable {im:World}
def Fr.trans {a b:List Nat}  (h:Fr a bY eD) (k:Fr b eD im) (e:∀x ∈ b,x ∈ a\/bY.heap.size<=x):Fr a bY im:=
 ⟨k.os.trans h.os,k.tape.trans h.tape,k.output.trans h.output,ea h.size k.size,λi hi c=>
   (k.block i (AC hi h.size) λf=>by rcases e i f with d | d; exact c d; omega).trans<|h.block i hi c⟩
def Ext.trans (h:Ext bY eD) (k:Ext eD im):Ext bY im:=Fr.trans h k ai
def Ext.below (h:Ext bY eD):Below bY.heap.size bY eD:=⟨h.os,h.tape,h.output,h.size,λk a=>h.block k a ai⟩
def Ext.Ek (h:Below bY.heap.size bY eD):Ext bY eD:=⟨h.os,h.tape,h.output,h.size,λk a _=>h.block k a⟩
def Ext.drew (w:World):Ext w w.drew:=⟨rfl,rfl,rfl,cQ _,λ_ _ _=>rfl⟩
def Ext.alloc (w:World) (o:Obj):Ext w (w.alloc o):=⟨rfl,rfl,rfl,ai,λk a _=>Below.heap_alloc _ _ _ a⟩
variable {Z:Nat} {eJ:Obj}
def lt_of_heap (h:bY.heap[Z]? = some eJ):Z<bY.heap.size:=by
 rcases mb Z bY.heap.size with a | a
 · exact a
 · rw [wm a] at h; cases h
def Le.ext (h:Le an bY) (e:Ext bY eD):Le an eD:=λb o x=>(e.block b (lt_of_heap<|h b o x) ai).trans<|h b o x
structure aQ where
 ids:List Nat
 holds:World->Prop
 loc:∀w w',(∀k ∈ ids,w'.heap[k]? = w.heap[k]?)->holds w->holds w'
 wA:∀w,holds w->∀k ∈ ids,k<w.heap.size
def aq (b:Nat) (o:Obj):aQ:=⟨[b],λw=>w.heap[b]? = some o,λw d h a=>(h b ai).trans a,λw a k c=>by simp at c; subst c; exact lt_of_heap a⟩
structure Ws (w0:World) (F:List Nat) (L:List aQ) (Vs:List View) (w:World):Prop where
 fr:Fr F w0 w
 kn:∀A ∈ L,A.holds w
 nd:(L.flatMap aQ.ids).Nodup
 own:∀A ∈ L,∀k ∈ A.ids,k ∈ F\/w0.heap.size<=k
 vs:∀H ∈ Vs,Le H w
 off:∀H ∈ Vs,∀A ∈ L,∀k ∈ A.ids,H k=none
section
variable {w0 w w':World} {F:List Nat} {L L' L2:List aQ} {Vs:List View}
def Ws.init (a:∀b ∈ Vs,Le b w):Ws w [] [] Vs w:=⟨Fr.refl _ _,ai,ai,ai,a,ai⟩
def CE {P:Program} {Q:Exit->Act->World->Prop} {n:Nat} {ds:List Deferred} {l:List (Nat×Value)} {c:Code} {a w:World} {b:List Nat} {L:List aQ} {Vs:List View} (d:Ws a b L Vs w) (h:WC P c Q n ds l (Ws a b L Vs)):WC P c Q n ds l (λf=>f=w):=
 nf (λ_ e=>by subst e; exact d) h
def Ws.wB (h:Ws w0 F (L++L2) Vs w) (q:Fr (L.flatMap aQ.ids) w w') (p:∀c ∈ L',c.holds w')
   (u:(L'.flatMap aQ.ids).Nodup) (hi:∀c ∈ L',∀k ∈ c.ids,k ∈ L.flatMap aQ.ids\/w.heap.size<=k):Ws w0 F (L'++L2) Vs w':=by
 have nd:=h.nd;rw [AD,lI] at nd
 have same:∀c ∈ L2,∀k ∈ c.ids,w'.heap[k]? = w.heap[k]?:=λc a k p=>
   q.block k (c.wA w (h.kn c (by simp [a])) k p) λr=>nd.2.2 k r k (ci.2 ⟨c,a,p⟩) rfl
 refine ⟨?_,?_,?_,?_,?_,?_⟩
 · refine h.fr.trans q λx s=>?_
   obtain ⟨c,a,j⟩:=ci.1 s;exact h.own c (by simp [a]) x j
 · intro c a
   rcases ge.1 a with a | a
   · exact p c a
   · exact c.loc w w' (same c a)<|h.kn c (by simp [a])
 · rw [AD,lI]
   refine ⟨u,nd.2.1,λx s y t e=>?_⟩;subst e;obtain ⟨c,a,j⟩:=ci.1 s;obtain ⟨B,l,m⟩:=ci.1 t
   rcases hi c a x j with d | d
   · exact nd.2.2 x d x t O
   · have:=B.wA w (h.kn B (by simp [l])) x m
     omega
 · intro c a k n
   rcases ge.1 a with a | a
   · rcases hi c a k n with d | d
     · obtain ⟨B,l,m⟩:=ci.1 d
       exact h.own B (by simp [l]) k m
     · exact .inr<|ea h.fr.size d
   · exact h.own c (by simp [a]) k n
 · intro f g b o i
   rw [q.block b (lt_of_heap<|h.vs f g b o i)]
   · exact h.vs f g b o i
   · intro r
     obtain ⟨c,a,j⟩:=ci.1 r;have:=h.off f g c (by simp [a]) b j;rw [this] at i; cases i
 · intro f g c a k n
   rcases ge.1 a with a | a
   · rcases hi c a k n with d | d
     · obtain ⟨B,l,m⟩:=ci.1 d
       exact h.off f g B (by simp [l]) k m
     · cases i:f k with
       | none=>rfl
       | some o=>have:=lt_of_heap (h.vs f g k o i); omega
   · exact h.off f g c (by simp [a]) k n
def Ws.ext (h:Ws w0 F L Vs w) (e:Ext w w'):Ws w0 F L Vs w':=by
 have:=Ws.wB (L:=[]) (L':=[]) (L2:=L) (by simpa using h) (by simpa using e) ai ai ai
 simpa using this
def Ws.alloc (h:Ws w0 F L Vs w) (o:Obj):Ws w0 F (aq w.heap.size o::L) Vs (w.alloc o):=by
 have:=Ws.wB (L:=[]) (L':=[aq w.heap.size o]) (L2:=L) (by simpa using h) (by simpa using Ext.alloc w o)
   (by intro b a; simp at a; subst a; show (w.heap.push o)[w.heap.size]? = some o; simp) (by simp [aq]) (by simp [aq])
 simpa using this
def Ws.view (h:Ws w0 F L Vs w) (e:Ext w w') {b:View} (i:Le b w') (j:gw w b):Ws w0 F L (b::Vs) w':=by
 have g:=h.ext e;refine ⟨g.fr,g.kn,g.nd,g.own,?_,?_⟩
 · intro V a
   rcases ep.1 a with rfl | a
   · exact i
   · exact g.vs V a
 · intro V a c d k f
   rcases ep.1 a with rfl | a
   · exact j k<|c.wA w (h.kn c d) k f
   · exact g.off V a c d k f
def Ws.perm (h:Ws w0 F L Vs w) (c:L.Perm L'):Ws w0 F L' Vs w:=
 ⟨h.fr,λa b=>h.kn a<|c.mem_iff.2 b,(List.Perm.flatMap_right _ c).nodup_iff.1 h.nd,λa b=>h.own a<|c.mem_iff.2 b,h.vs,λd e a b=>h.off d e a<|c.mem_iff.2 b⟩
def Ws.drop (h:Ws w0 F (L++L') Vs w):Ws w0 F L' Vs w:=by
 have nd:=h.nd;rw [AD,lI] at nd;exact ⟨h.fr,λa b=>h.kn a (by simp [b]),nd.2.1,λa b=>h.own a (by simp [b]),h.vs,λc d a b=>h.off c d a (by simp [b])⟩
def Ws.aB (h:Ws w0 F L Vs w) {b7:List View} (c:∀a ∈ b7,a ∈ Vs):Ws w0 F L b7 w:=
 ⟨h.fr,h.kn,h.nd,h.own,λa b=>h.vs a<|c a b,λa b=>h.off a<|c a b⟩
end
def fk {α:Type}:Nat->List α->List α
 | _,[]=>[]
 | 0,_::r=>r
 | i+1,x::r=>x::fk i r
variable {bB:Type} {gh:bB}
def nh:∀(i:Nat) (l:List bB),l[i]? = some gh->l.Perm (gh::fk i l)
 | _,[],h=>by cases h
 | 0,y::r,h=>by simp at h; subst h; exact List.Perm.refl _
 | i+1,y::r,h=>by
   have:=nh i r (by simpa using h);exact (List.Perm.cons y this).trans<|List.Perm.swap _ _ _
def set_perm {x y:bB}:∀(i:Nat) (l:List bB),l[i]? = some x->(y::fk i l).Perm (l.set i y)
 | _,[],h=>by cases h
 | 0,z::r,_=>by simp [fk]
 | i+1,z::r,h=>by
   have:=set_perm (y:=y) i r (by simpa using h);exact (List.Perm.swap _ _ _).trans<|List.Perm.cons z this
variable {dF:List Nat} {dd:List aQ} {e0:List View}
def Ws.fC (h:Ws bY dF dd e0 eD) (i:Nat) {a B:aQ} (hi:dd[i]? = some a) (b:Fr a.ids eD im) (c:B.holds im)
   (d:B.ids.Nodup) (e:∀k ∈ B.ids,k ∈ a.ids\/eD.heap.size<=k):Ws bY dF (dd.set i B) e0 im:=by
 have f:=h.perm (nh i dd hi);have g:=Ws.wB (L:=[a]) (L':=[B]) (L2:=fk i dd) (by simpa using f) (by simpa using b) (by simpa using c) (by simpa using d) (by simpa using e);exact Ws.perm (by simpa using g)<|set_perm i dd hi
variable {b_:List bB}
def aY {i:Nat}  (h:b_[i]? = some gh):gh ∈ b_:=az h
def Ws.V {b w:World} {c:List Nat} {L:List aQ} {Vs:List View} {a:View} (h:Ws b c L Vs w) (d:a ∈ Vs:=by simp):Le a w:=h.vs a d
def oN (P:Program) (t:TypeId):Bool:=match P.underlying t with | some (.struct _) | some (.array _ _) | none=>false | _=>true
def hr (P:Program) (t:TypeId):Option Nat:=match P.underlying t with | some (.struct _) | some (.array _ _)=>(P.info? t).map (·.size) | _=>none
def au (P:Program) (t:TypeId) (f:Nat):Option Nat:=match P.underlying t with
 | some (.struct fs)=>match fs[f]? with
   | some x=>match P.info? x.type with
     | some i=>if i.size=0 then none else some x.offset
     | none=>none
   | none=>none
 | _=>none
def aat (P:Program) (t:TypeId):Option Nat:=match P.underlying t with | some (.slice e)=>(P.info? e).map (·.size) | _=>none
section
variable {P:Program} {w:World}
variable {a0:TypeId}
def AQ (h:oN P a0=true) (w:World):(isAgg a0).run P w = .ok false w:=by
 unfold oN at h
 cases a:P.underlying a0 with
 | none=>simp [a] at h
 | some d=>cases d<;>simp_all [isAgg,run_underlying a]
def Pn (h:hr P a0=some Z) (w:World):(isAgg a0).run P w = .ok true w/\(sizeOf a0).run P w = .ok Z w:=by
 unfold hr at h
 cases a:P.underlying a0 with
 | none=>simp [a] at h
 | some d=>
   cases hi:P.info? a0 with
   | none=>cases d<;>simp_all
   | some i=>cases d<;>simp_all [isAgg,run_underlying a,sizeOf,typeInfo]
def i_ (o:Obj) (k:Nat):Option Value:=match o with | .cells c _ _=>c.toList[k]? | _=>none
def vc (a:View) (b k:Nat):Option Value:=(a b).bind (i_ · k)
variable {aw:Nat} {a5:Value}
def cell_of_heap {o:Obj}  (h:w.heap[Z]? = some o) (a:i_ o aw=some a5):w.cell? ⟨Z,aw,none⟩=some a5:=by
 cases o<;>simp_all [i_,World.cell?]
def Le.cell {b:View} (h:Le b w)   (a:vc b Z aw=some a5):w.cell? ⟨Z,aw,none⟩=some a5:=by
 unfold vc at a
 cases c:b Z with
 | none=>simp [c] at a
 | some o=>simp [c] at a; exact cell_of_heap (h Z o c) a
def bG.cell {a d:View} (h:bG a d)   (b:vc a Z aw=some a5):vc d Z aw=some a5:=by
 unfold vc at *
 cases c:a Z with
 | none=>simp [c] at b
 | some o=>simp [c] at b; simp [h Z o c,b]
def qj (b o k:Nat):(⟨b,o,none⟩:Addr).add k=⟨b,o+k,none⟩:=by unfold Addr.add; split<;>simp_all
def Il (a:oN P a0=true)   (b:w.cell? ⟨Z,aw,none⟩=some a5):(loadVar a0 ⟨Z,aw,none⟩).run P w = .ok a5 w:=by
 simp [loadVar,AQ a,b]
def AR (a:hr P a0=some Z) {b k:Nat} {cs:List Value} (c:cs.length=Z) (d:∀j v,cs[j]? = some v->w.cell? ⟨b,k+j,none⟩=some v) :
   (loadVar a0 ⟨b,k,none⟩).run P w = .ok (.agg cs.toArray) w:=by
 obtain ⟨e,f⟩:=Pn a w;have:=run_loadCells_list (P:=P) w ⟨b,k,none⟩ cs (λj v h=>by rw [qj]; exact d j v h);rw [c] at this;simp [loadVar,e,f,this]
end
def st (l:List UInt8):Value:=.string ⟨l.toArray⟩
section
variable {P:Program} {l:List (Nat×Value)} {W:World->Prop} {w0:World} {F:List Nat} {L:List aQ} {Vs:List View}
 {d:Option Tmp} {ty:TypeId} {pos:String} {af:Array Edge} {g:Option (Nat×Bool)}
variable {be:Operand} {a5:Value}
def Ym (a:bK l be=some a5):Yl P l W ⟨d,.move be,ty,pos,af,g⟩ a5:=λc w b _=>by simp [execOp,b be a5 a]
def Ya (a:bK l be=some a5):Yl P l W ⟨d,.assign be,ty,pos,af,g⟩ a5:=λc w b _=>by simp [execOp,b be a5 a]
variable {jr:Program} {AS:Array Oper} {ti:Exit->Act->World->Prop} {AT:List Deferred} {eL:List (Nat×Value)} {ja:World->Prop} {bF:List Oper} {aw:Nat} {a0:TypeId} {fY:String} {gF:Array Edge}
def ac (a:bK eL be=some a5) (h:WL jr AS ti Z AT ((aw,a5)::eL) ja bF) (b:Nat.blt aw Z=true:=by rfl):WL jr AS ti Z AT eL ja (⟨some aw,.move be,a0,fY,gF,none⟩::bF):=I (Ym a) h b
def ag (a:bK eL be=some a5) (h:WL jr AS ti Z AT ((aw,a5)::eL) ja bF) (b:Nat.blt aw Z=true:=by rfl):WL jr AS ti Z AT eL ja (⟨some aw,.assign be,a0,fY,gF,none⟩::bF):=I (Ya a) h b
variable {bX iU:Operand} {ax:Bool}
def Im {u v:Value} (b:bK l be=some (.bool ax)) (c:bK l bX=some u) (e:bK l iU=some v):Yl P l W ⟨d,.pick be bX iU,ty,pos,af,g⟩ (if ax then u else v):=
 λf w a _=>by simp [execOp,a be _ b,a bX _ c,a iU _ e,asBool]
def In (b:bK l be=some (.bool true)) (c:bK l bX=some a5):Yl P l W ⟨d,.pick be bX iU,ty,pos,af,g⟩ a5:=
 λe w a _=>by simp [execOp,a be _ b,a bX _ c,asBool]
def Io (b:bK l be=some (.bool false)) (c:bK l iU=some a5):Yl P l W ⟨d,.pick be bX iU,ty,pos,af,g⟩ a5:=
 λe w a _=>by simp [execOp,a be _ b,a iU _ c,asBool]
variable {ew:IntKind} {aH bQ:Int}
def bz {t u:TypeId}    (b:bK l be=some (.int ew aH)) (c:bK l bX=some (.int ew bQ)):Yl P l W ⟨d,.binOp .eql t be bX u,ty,pos,af,g⟩ (.bool<|aH==bQ):=
 λe w a _=>by simp [execOp,a be _ b,a bX _ c,eqGuard,binOp,Op.intCmp]
def h9 {t u:TypeId}    (b:bK l be=some (.int ew aH)) (c:bK l bX=some (.int ew bQ)):Yl P l W ⟨d,.binOp .neq t be bX u,ty,pos,af,g⟩ (.bool<|aH != bQ):=
 λe w a _=>by simp [execOp,a be _ b,a bX _ c,eqGuard,binOp,Op.intCmp]
def cI {t u:TypeId}    (b:bK l be=some (.int ew aH)) (c:bK l bX=some (.int ew bQ)):Yl P l W ⟨d,.binOp .lss t be bX u,ty,pos,af,g⟩ (.bool<|decide<|aH<bQ):=
 λe w a _=>by simp [execOp,a be _ b,a bX _ c,eqGuard,binOp,Op.intCmp]
variable {dX:TypeId}
def jF (b:bK l be=some (.int ew aH)) (c:bK l bX=some (.int ew bQ)):Yl P l W ⟨d,.binOp .leq a0 be bX dX,ty,pos,af,g⟩ (.bool<|decide<|aH<=bQ):=
 λe w a _=>by simp [execOp,a be _ b,a bX _ c,eqGuard,binOp,Op.intCmp]
def eh (b:bK l be=some (.int ew aH)) (c:bK l bX=some (.int ew bQ)):Yl P l W ⟨d,.binOp .gtr a0 be bX dX,ty,pos,af,g⟩ (.bool<|decide<|bQ<aH):=
 λe w a _=>by simp [execOp,a be _ b,a bX _ c,eqGuard,binOp,Op.intCmp]
def hS (b:bK l be=some (.int ew aH)) (c:bK l bX=some (.int ew bQ)):Yl P l W ⟨d,.binOp .geq a0 be bX dX,ty,pos,af,g⟩ (.bool<|decide<|bQ<=aH):=
 λe w a _=>by simp [execOp,a be _ b,a bX _ c,eqGuard,binOp,Op.intCmp]
def r3 {t u:TypeId}    (b:bK l be=some (.int ew aH)) (c:bK l bX=some (.int ew bQ)):Yl P l W ⟨d,.binOp .add t be bX u,ty,pos,af,g⟩ (.int ew<|ew.wrap<|aH+bQ):=
 λe w a _=>by simp [execOp,a be _ b,a bX _ c,eqGuard,binOp,Op.intArith]
def AU {t u:TypeId}    (b:bK l be=some (.int ew aH)) (c:bK l bX=some (.int ew bQ)):Yl P l W ⟨d,.binOp .sub t be bX u,ty,pos,af,g⟩ (.int ew<|ew.wrap<|aH-bQ):=
 λe w a _=>by simp [execOp,a be _ b,a bX _ c,eqGuard,binOp,Op.intArith]
def Ip (b:bK l be=some (.int ew aH)) (c:bK l bX=some (.int ew bQ)):Yl P l W ⟨d,.binOp .mul a0 be bX dX,ty,pos,af,g⟩ (.int ew<|ew.wrap<|aH*bQ):=
 λe w a _=>by simp [execOp,a be _ b,a bX _ c,eqGuard,binOp,Op.intArith]
def qk (h : -9223372036854775808<=aH/\aH<=9223372036854775807):IntKind.i64.wrap aH=aH:=by rw [IntKind.wrap_i64]; omega
def ni {t u:TypeId}   (a:bK l be=some (.int .i64 aH)) (b:bK l bX=some (.int .i64 bQ)) (c : -9223372036854775808<=aH+bQ/\aH+bQ<=9223372036854775807):Yl P l W ⟨d,.binOp .add t be bX u,ty,pos,af,g⟩ (.int .i64<|aH+bQ):=by
 have:=r3 (P:=P) (W:=W) (d:=d) (t:=t) (u:=u) (ty:=ty) (pos:=pos) (af:=af) (g:=g) a b
 rwa [qk c] at this
def El (a:bK l be=some (.int .i64 aH)) (b:bK l bX=some (.int .i64 bQ)) (c : -9223372036854775808<=aH-bQ/\aH-bQ<=9223372036854775807):Yl P l W ⟨d,.binOp .sub a0 be bX dX,ty,pos,af,g⟩ (.int .i64<|aH-bQ):=by
 have:=AU (P:=P) (W:=W) (d:=d) (t:=a0) (u:=dX) (ty:=ty) (pos:=pos) (af:=af) (g:=g) a b
 rwa [qk c] at this
def Yi {a:Nat}  (b:bK l be=some (.int .i64 (a:Int))) (c:bK l bX=some (.int .i64 aH)) (e:aH=1) (f:(a:Int)<9223372036854775807):Yl P l W ⟨d,.binOp .add a0 be bX dX,ty,pos,af,g⟩ (.int .i64 ((a+1:Nat):Int)):=by
 subst e;have:=ni (P:=P) (W:=W) (d:=d) (t:=a0) (u:=dX) (ty:=ty) (pos:=pos) (af:=af) (g:=g) b c aa
 simpa using this
variable {aU dG:List UInt8}
def yn (b:bK l be=some (st aU)) (c:bK l bX=some (st dG)):Yl P l W ⟨d,.binOp .eql a0 be bX dX,ty,pos,af,g⟩ (.bool<|aU==dG):=
 λe w a _=>by simp [execOp,a be _ b,a bX _ c,st,eqGuard,binOp,Op.stringOp]
def oO (b:bK l be=some (st aU)) (c:bK l bX=some (st dG)):Yl P l W ⟨d,.binOp .neq a0 be bX dX,ty,pos,af,g⟩ (.bool<|!(aU==dG)):=
 λe w a _=>by simp [execOp,a be _ b,a bX _ c,st,eqGuard,binOp,Op.stringOp]
def Po (b:bK l be=some (st aU)) (c:bK l bX=some (st dG)) (h:aU.length+dG.length<=9223372036854775807):Yl P l W ⟨d,.binOp .add a0 be bX dX,ty,pos,af,g⟩ (st<|aU++dG):=by
 intro f w a _
 have e:(Op.stringOp .add ⟨aU.toArray⟩ ⟨dG.toArray⟩).run P w = .ok (st<|aU++dG) w:=by
   rw [run_string_add_sum w _ _ (by show aU.toArray.size+dG.toArray.size<=_; simpa using h)];simp [st]
   rfl
 simp [execOp,a be _ b,a bX _ c,st,eqGuard,binOp,e]
def gW (a:bK l be=some (.bool ax)):Yl P l W ⟨d,.unOp .not a0 be,ty,pos,af,g⟩ (.bool<|!ax):=
 λc w b _=>by simp [execOp,b be _ a,Op.unary]
def bw {p:Addr} (a:bK l be=some (.pointer<|some p)):Yl P l W ⟨d,.nilCheck be,ty,pos,af,g⟩ (.pointer<|some p):=
 λc w b _=>by simp [execOp,b be _ a]
def Yx {vs:Array Value}   (a:bK l be=some (.tuple vs)) (hi:vs[Z]? = some a5):Yl P l W ⟨d,.extract be Z,ty,pos,af,g⟩ a5:=
 λc w b _=>by simp [execOp,b be _ a,Instr.extract,hi]
variable {cy mO:Nat}
def Yf (a:au P a0 Z=some mO) (e:bK l be=some (.pointer<|some ⟨cy,aw,none⟩)):Yl P l W ⟨d,.fieldAddr a0 be Z,ty,pos,af,g⟩ (.pointer<|some ⟨cy,aw+mO,none⟩):=by
 intro m w f _;unfold au at a
 cases b:P.underlying a0 with
 | none=>simp [b] at a
 | some h=>
   cases h<;>simp [b] at a
   rename_i fs
   cases c:fs[Z]? with
   | none=>simp [c] at a
   | some j=>
     simp [c] at a
     cases hi:P.info? j.type with
     | none=>simp [hi] at a
     | some i=>
       simp [hi] at a;obtain ⟨k,rfl⟩:=a;simp [execOp,f be _ e,Instr.fieldAt,run_underlying b,c,Instr.sureAddr,fieldPlace,sizeOf,typeInfo,hi,k,qj]
variable {r4:Nat}
def En (a:aat P a0=some r4) (f:bK l be=some (.slice (some ⟨Z,aw,none⟩) cy mO)) (h:bK l bX=some (.int ew aH)) (i:0<=aH) (j:aH<cy) :
   Yl P l W ⟨d,.indexAddr a0 be bX,ty,pos,af,g⟩ (.pointer<|some ⟨Z,aw+aH.toNat*r4,none⟩):=by
 intro m w c _;unfold aat at a
 cases b:P.underlying a0 with
 | none=>simp [b] at a
 | some k=>
   cases k<;>simp [b] at a
   rename_i e;obtain ⟨n,hi,rfl⟩:=a;simp [execOp,c be _ f,c bX _ h,Instr.indexAt,run_underlying b,asIntOf,i,j,sizeOf,typeInfo,hi,qj]
def Iq {i:Nat} (a:aat P a0=some r4) (b:bK l be=some (.slice (some ⟨Z,aw,none⟩) cy mO)) (c:bK l bX=some (.int ew (i:Int))) (e:i<cy) :
   Yl P l W ⟨d,.indexAddr a0 be bX,ty,pos,af,g⟩ (.pointer<|some ⟨Z,aw+i*r4,none⟩):=by
 have:=En (P:=P) (W:=W) (d:=d) (ty:=ty) (pos:=pos) (af:=af) (g:=g) a b c aa aa
 simpa using this
def Yn {a:Option Addr} {n c s:Nat} (b:aat P a0=some s) (f:bK l be=some (.slice a n c)):Yl P l W ⟨d,.call ⟨.builtin .len,#[be],#[a0]⟩,ty,pos,af,g⟩ (.int .i64 (n:Int)):=by
 intro j w h _;unfold aat at b
 cases e:P.underlying a0 with
 | none=>simp [e] at b
 | some i=>
   cases i<;>simp [e] at b
   simp [execOp,resolve,invoke,builtin,h be _ f,Builtin.len_,run_underlying e,goInt]
def yo (a:P.underlying a0=some .string) (b:bK l be=some (st aU)):Yl P l W ⟨d,.call ⟨.builtin .len,#[be],#[a0]⟩,ty,pos,af,g⟩ (.int .i64 (aU.length:Int)):=by
 intro f w c _
 have e:(ByteArray.mk aU.toArray).size=aU.length:=by show aU.toArray.size=_; simp
 simp [execOp,resolve,invoke,builtin,c be _ b,st,Builtin.len_,run_underlying a,goInt,e]
def Pp (s:List UInt8) (i:Nat):(ByteArray.mk s.toArray)[i]? = s[i]?:=by
 rcases mb i s.length with h | h
 · rw [c6 h,getElem?_pos (ByteArray.mk s.toArray) i (by show i<s.toArray.size; simpa using h)]
   rfl
 · rw [wl h,getElem?_neg (ByteArray.mk s.toArray) i (by show ¬i<s.toArray.size; simpa using h)]
variable {ce:UInt8}
def Pq (b:P.underlying a0=some .string) (c:bK l be=some (st aU)) (e:bK l bX=some (.int ew aH)) (f:0<=aH) (h:aU[aH.toNat]? = some ce) :
   Yl P l W ⟨d,.index a0 be bX,ty,pos,af,g⟩ (.int .u8 (ce.toNat:Int)):=by
 intro i w a _;simp [execOp,a be _ c,a bX _ e,st,Instr.index,asIntOf,run_underlying b,f,Pp,h]
def yp {i:Nat}  (a:P.underlying a0=some .string) (b:bK l be=some (st aU)) (c:bK l bX=some (.int ew (i:Int))) (e:aU[i]? = some ce) :
   Yl P l W ⟨d,.index a0 be bX,ty,pos,af,g⟩ (.int .u8 (ce.toNat:Int)):=Pq a b c aa (by simpa using e)
def AV (a:oN P a0=true) (b:bK l be=some (.pointer<|some ⟨Z,aw,none⟩)) (c:∀w,W w->w.cell? ⟨Z,aw,none⟩=some a5):Yl P l W ⟨d,.load a0 be,ty,pos,af,g⟩ a5:=
 λh w e f=>by simp [execOp,e be _ b,Instr.loadAt,Instr.sureAddr,Il a (c w f)]
def AW {cs:List Value} (a:hr P a0=some cy) (b:bK l be=some (.pointer<|some ⟨Z,aw,none⟩)) (c:cs.length=cy) (e:∀w,W w->∀j v,cs[j]? = some v->w.cell? ⟨Z,aw+j,none⟩=some v) :
   Yl P l W ⟨d,.load a0 be,ty,pos,af,g⟩ (.agg cs.toArray):=
 λi w f h=>by simp [execOp,f be _ b,Instr.loadAt,Instr.sureAddr,AR a c (e w h)]
def eQ (i:Nat) (a:oN P a0=true) (b:bK l be=some (.pointer<|some ⟨Z,aw,none⟩)) (c:Vs[i]? = some an) (e:vc an Z aw=some a5) :
   Yl P l (Ws w0 F L Vs) ⟨d,.load a0 be,ty,pos,af,g⟩ a5:=AV a b λ_ f=>(f.vs an<|aY c).cell e
def dz {cs:List Value}  (i:Nat) (a:hr P a0=some cy) (b:bK l be=some (.pointer<|some ⟨Z,aw,none⟩)) (c:Vs[i]? = some an) (e:cs.length=cy) (f:∀j v,cs[j]? = some v->vc an Z (aw+j)=some v) :
   Yl P l (Ws w0 F L Vs) ⟨d,.load a0 be,ty,pos,af,g⟩ (.agg cs.toArray):=AW a b e λ_ k j v h=>(k.vs an<|aY c).cell<|f j v h
def Yd {v:Value}  (i:Nat) (a:bK l be=some (.pointer<|some ⟨Z,aw,none⟩)) (hL:L[i]? = some (aq Z eJ)) (b:i_ eJ aw=some v) (c:oN P a0=true) :
   Yl P l (Ws w0 F L Vs) ⟨d,.load a0 be,ty,pos,af,g⟩ v:=AV c a λ_ e=>cell_of_heap (e.kn _<|aY hL) b
def cellsIn (o:Obj) (k n:Nat):List Value:=match o with | .cells c _ _=>(c.toList.drop k).take n | _=>[]
def db (i:Nat) (a:bK l be=some (.pointer<|some ⟨Z,aw,none⟩)) (hL:L[i]? = some (aq Z eJ)) (b:hr P a0=some cy) (c:(cellsIn eJ aw cy).length=cy) :
   Yl P l (Ws w0 F L Vs) ⟨d,.load a0 be,ty,pos,af,g⟩ (.agg (cellsIn eJ aw cy).toArray):=AW b a c λw e j v h=>by
 have f:w.heap[Z]? = some eJ:=e.kn _ (aY hL);refine cell_of_heap f ?_
 cases eJ<;>simp [cellsIn,i_] at *
 rw [jq] at h
 split at h
 · simpa using h
 · cases h
end
def zeroOf (P:Program) (t:TypeId):Option Value:=(P.info? t).bind (·.zero)
def aJ (P:Program) (t:TypeId):Option Nat:=(P.info? t).map (·.size)
variable {jr:Program} {a0:TypeId} {a5:Value}
def iq (h:zeroOf jr a0=some a5) (w:World):(zeroValue a0).run jr w = .ok a5 w:=by
 unfold zeroOf at h
 cases hi:jr.info? a0 with
 | none=>simp [hi] at h
 | some i=>simp [hi] at h; simp [zeroValue,typeInfo,hi,h]
def AX (h:aJ jr a0=some Z) (w:World):(sizeOf a0).run jr w = .ok Z w:=by
 unfold aJ at h
 cases hi:jr.info? a0 with
 | none=>simp [hi] at h
 | some i=>simp [hi] at h; simp [sizeOf,typeInfo,hi,h]
def Pr (vs:List Value):∀(k off:Nat) (cells:Array Value),off+k+vs.length<=cells.size->
   ((vs.zipIdx k).foldl (λcs (p:Value×Nat)=>cs.setIfInBounds (off+p.2) p.1) cells).toList=cells.toList.take (off+k)++vs++cells.toList.drop (off+k+vs.length):=by
 induction vs with
 | nil=>intro k off cells _; simp
 | cons v r a=>
   intro k off cells h;simp only [List.zipIdx_cons,List.foldl_cons];rw [a (k+1) off _ (by simp at h ⊢; omega)];simp only [Array.toList_setIfInBounds];have:=list_seg_step cells.toList (off+k) v r (by simp at h ⊢; omega)
   simpa [rZ] using this
def aZ:Value->List Value | .agg cs=>cs.toList | v=>[v]
def fG (v:Value):v.cells.toList=aZ v:=by cases v<;>rfl
def q7 (place:Nat->Option (Nat×Nat)):List Value->List (Nat×Value)->Option (List Value)
 | cells,[]=>some cells
 | cells,(i,v)::r=>match place i with
   | some (off,size)=>bif Nat.beq (aZ v).length size&&Nat.ble (off+size) cells.length then q7 place (cells.take off++aZ v++cells.drop (off+size)) r else none
   | none=>none
def yq (place:Nat->Option (Nat×Nat)):∀(parts:List (Nat×Value)) (cells:Array Value) (out:List Value),q7 place cells.toList parts=some out->Instr.fill place cells parts=some out.toArray
 | [],cells,out,h=>by simp [q7] at h; simp [Instr.fill,<-h]
 | (i,v)::r,cells,out,h=>by
   simp only [q7] at h
   cases d:place i with
   | none=>simp [d] at h
   | some x=>
     obtain ⟨off,size⟩:=x;simp only [d] at h
     cases a:(Nat.beq (aZ v).length size&&Nat.ble (off+size) cells.toList.length) with
     | false=>rw [a] at h; cases h
     | true=>
       rw [a] at h;simp only [dE] at a;have g:=j2 a.1;have k:=qf a.2
       have b:v.cells.size=size:=by rw [<-g,<-fG]; simp
       have f:off+v.cells.size<=cells.size:=by rw [b]; simpa using k
       simp only [Instr.fill,d];rw [ZX (by simp [b]; rw [b] at f; omega)];have e:=Pr v.cells.toList 0 off cells (by simpa using f);simp only [tc,HX] at e
       have l:(v.cells.zipIdx.foldl (λcs (c,j)=>cs.setIfInBounds (off+j) c) cells)=(cells.toList.take off++aZ v++cells.toList.drop (off+size)).toArray:=by
         apply td;rw [<-Array.foldl_toList,Array.toList_zipIdx];rw [b] at e;rw [e,fG]
       rw [l];exact yq place r _ out (by simpa using h)
def gX (P:Program) (t:TypeId):Option (List<|Nat×Nat):=match P.underlying t with
 | some (.struct fs)=>fs.toList.mapM λf=>(aJ P f.type).map (f.offset,·)
 | _=>none
def run_places {P:Program}:∀(fs:List Field) (pl:List (Nat×Nat)),fs.mapM (λf=>(aJ P f.type).map (f.offset,·))=some pl->∀w:World,
   (fs.mapM (m:=Sem) λf=>do pure (f.offset,<-sizeOf f.type)).run P w = .ok pl w
 | [],pl,h,w=>by simp at h; subst h; simp
 | f::fs,pl,h,w=>by
   simp only [uG,Option.bind_eq_bind] at h
   cases a:aJ P f.type with
   | none=>simp [a] at h
   | some k=>
     simp only [a,dR,cS] at h
     cases b:fs.mapM (λf=>(aJ P f.type).map (f.offset,·)) with
     | none=>simp [b] at h
     | some c=>
       simp [b] at h;subst h;have d:=run_places fs c b w;simp only [uG,Sem.run_bind,AX a,Result.andThen_ok,Sem.run_pure,d]
def r5 (l:List (Nat×Value)):List (Nat×Operand)->Option (List<|Nat×Value)
 | []=>some []
 | (i,x)::r=>match bK l x,r5 l r with
   | some v,some vs=>some ((i,v)::vs)
   | _,_=>none
variable {eL:List (Nat×Value)} {j5:Operand->Value}
def AZ (c:∀x u,bK eL x=some u->j5 x=u):∀(ps:List (Nat×Operand)) (vs:List (Nat×Value)),r5 eL ps=some vs->ps.map (λp=>(p.1,j5 p.2))=vs
 | [],vs,h=>by simp [r5] at h; simp [h]
 | (i,x)::r,vs,h=>by
   simp only [r5] at h
   cases a:bK eL x with
   | none=>simp [a] at h
   | some v=>
     cases b:r5 eL r with
     | none=>simp [a,b] at h
     | some us=>
       simp [a,b] at h;subst h;simp [c x v a,AZ c r us b]
def ip (l:List (Nat×Value)):List Operand->Option (List Value)
 | []=>some []
 | x::r=>match bK l x,ip l r with
   | some v,some vs=>some (v::vs)
   | _,_=>none
def A0 (c:∀x u,bK eL x=some u->j5 x=u):∀(ps:List Operand) (vs:List Value),ip eL ps=some vs->ps.map j5=vs
 | [],vs,h=>by simp [ip] at h; simp [h]
 | x::r,vs,h=>by
   simp only [ip] at h
   cases a:bK eL x with
   | none=>simp [a] at h
   | some v=>
     cases b:ip eL r with
     | none=>simp [a,b] at h
     | some us=>
       simp [a,b] at h;subst h;simp [c x v a,A0 c r us b]
section
variable {P:Program} {l:List (Nat×Value)} {W:World->Prop} {w0:World} {F:List Nat} {L:List aQ} {Vs:List View}
 {d:Option Tmp} {ty:TypeId} {pos:String} {af:Array Edge} {g:Option (Nat×Bool)}
def Yb {t:TypeId} {parts:List (Nat×Operand)} {vs:List (Nat×Value)} {z:Value} {pl:List (Nat×Nat)} {out:List Value} (c:zeroOf P t=some z) (a:gX P t=some pl)
   (hv:r5 l parts=some vs) (e:q7 (λi=>pl[i]?) (aZ z) vs=some out):Yl P l W ⟨d,.build t parts.toArray,ty,pos,af,g⟩ (.agg out.toArray):=by
 intro h w j _
 have k:((parts.toArray.map λ (i,x)=>(i,h x)):Array (Nat×Value)).toList=vs:=by simpa using AZ j parts vs hv
 unfold gX at a
 cases b:P.underlying t with
 | none=>simp [b] at a
 | some n=>
   cases n<;>simp [b] at a
   rename_i fs;have o:=run_places (P:=P) fs.toList pl (by simpa using a) w
   have p:(fs.mapM (m:=Sem) λf=>do pure (f.offset,<-sizeOf f.type)).run P w = .ok pl.toArray w:=by
     rw [wn,Sem.run_map,o]; rfl
   have q:Instr.fill (λi=>pl.toArray[i]?) z.cells vs=some out.toArray:=by
     refine yq _ vs z.cells out ?_;rw [fG]
     simpa using e
   simp only [execOp,Instr.build,Sem.run_bind,iq c,Result.andThen_ok,run_underlying b,p,k,q,Sem.run_pure]
end
section
variable {P:Program} {ops:Array Oper} {Q:Exit->Act->World->Prop} {n:Nat} {ds:List Deferred} {l:List (Nat×Value)} {W:World->Prop} {w0:World} {F:List Nat} {L:List aQ} {Vs:List View}
 {rest:List Oper} {d:Nat} {ty:TypeId} {pos:String} {af:Array Edge} {g:Option (Nat×Bool)}
def Ir (t:TypeId) (v:Value) (w:World):(newVar t v).run P w = .ok ⟨w.heap.size,0,none⟩ (w.alloc<|.cells v.cells t):=by
 simp [newVar,newRow]
def WL.new {op:Op} {o:Obj} {mk:Nat->Value} (i:aK ops l g) (j:Nat.blt d n=true)
   (k:∀(c:Operand->Value) (w:World),(∀x u,bK l x=some u->c x=u)->Ws w0 F L Vs w->(execOp c ⟨some d,op,ty,pos,af,g⟩).run P w = .ok (.value<|mk w.heap.size) (w.alloc o))
   (h:∀b,WL P ops Q n ds ((d,mk b)::l) (Ws w0 F (aq b o::L) Vs) rest) :
   WL P ops Q n ds l (Ws w0 F L Vs) (⟨some d,op,ty,pos,af,g⟩::rest):=by
 refine WL.step i λa w e f q m=>?_;have:=k a.eval w (λx u p=>e.eval p) f;simp only [Oper.wp,this,Oper.upon_value];exact m _ _<|h w.heap.size _ _ (e.put j _)<|f.alloc o
def WL.box {x:Operand}  (a:aK ops l g) (c:Nat.blt d n=true) (e:bK l x=some a5)
   (h:∀b,WL P ops Q n ds ((d,.pointer (some ⟨b,0,none⟩))::l) (Ws w0 F (aq b (.cells a5.cells a0 (0,0))::L) Vs) rest) :
   WL P ops Q n ds l (Ws w0 F L Vs) (⟨some d,.box a0 x,ty,pos,af,g⟩::rest):=
 WL.new (mk:=λb=>.pointer<|some ⟨b,0,none⟩) a c (λi w f j=>by simp [execOp,Instr.box,f x a5 e,Ir]) h
def Al (a:aK ops l g) (c:Nat.blt d n=true) (e:zeroOf P a0=some a5)
   (h:∀b,WL P ops Q n ds ((d,.pointer (some ⟨b,0,none⟩))::l) (Ws w0 F (aq b (.cells a5.cells a0 (0,0))::L) Vs) rest) :
   WL P ops Q n ds l (Ws w0 F L Vs) (⟨some d,.alloc a0,ty,pos,af,g⟩::rest):=
 WL.new (mk:=λb=>.pointer<|some ⟨b,0,none⟩) a c (λf w i j=>by simp [execOp,Instr.alloc,iq e,Ir]) h
def mc (a:Obj) (o:Nat) (vs:List Value):Obj:=match a with | .cells c T f=>.cells (c.toList.take o++vs++c.toList.drop (o+vs.length)).toArray T f | x=>x
def r6 (a:Obj) (o k:Nat):Bool:=match a with | .cells c _ f=>Nat.ble (o+k) c.toList.length&&(Nat.beq f.1 0&&Nat.beq f.2 0) | _=>false
variable {aw cy:Nat}
def Is {w:World} (i:aJ P a0=some Z) (k:(aZ a5).length=Z) (l:(aZ a5).all (·.oneCell')=true) (a:w.heap[aw]? = some eJ) (b:r6 eJ cy Z=true) :
   (storeVar a0 ⟨aw,cy,none⟩ a5).run P w = .ok () { w with heap:=w.heap.setIfInBounds aw (mc eJ cy<|aZ a5) }:=by
 cases eJ with
 | cells c T f=>
   obtain ⟨v,x⟩:=f;simp only [r6,dE] at b;obtain ⟨d,m,n⟩:=b;have o:=j2 m;have p:=j2 n;subst o; subst p;have d:=qf d;have e:=run_storeCells_at P aw cy T (aZ a5) 0 c w a (by simp at d ⊢; omega) (λu q=>gN.1 l u q)
   have r:a5.cells.size=Z:=by rw [<-k,<-fG]; simp
   have s:(storeVar a0 ⟨aw,cy,none⟩ a5).run P w=(storeCells ⟨aw,cy,none⟩<|aZ a5).run P w:=by
     simp [storeVar,AX i,r,fG]
   rw [s,e];have h:=setRow_heap w aw c (c.toList.take (cy+0)++aZ a5++c.toList.drop (cy+0+(aZ a5).length)).toArray T (0,0) a;have t:=lt_of_heap a;simp only [mc,tc] at h ⊢
   suffices hh:(w.setRow aw (c.toList.take cy++aZ a5++c.toList.drop (cy+(aZ a5).length)).toArray).heap=w.heap.setIfInBounds aw (.cells (c.toList.take cy++aZ a5++c.toList.drop (cy+(aZ a5).length)).toArray T (0,0)) by
     rw [<-hh]; rfl
   apply Array.ext_getElem?;intro j
   by_cases g:aw=j
   · subst g
     rw [h];simp [t]
   · rw [tb g]
     simp [World.setRow,Array.getElem?_modify,g]
 | _=>simp [r6] at b
def aT {x y:Operand}    (i:Nat) (f:aK ops l g) (k:bK l x=some (.pointer<|some ⟨Z,aw,none⟩)) (m:bK l y=some a5) (hL:L[i]? = some (aq Z eJ))
   (o:aJ P a0=some cy) (p:(aZ a5).length=cy) (q:(aZ a5).all (·.oneCell')=true) (r:r6 eJ aw cy=true)
   (h:WL P ops Q n ds l (Ws w0 F (L.set i<|aq Z<|mc eJ aw<|aZ a5) Vs) rest) :
   WL P ops Q n ds l (Ws w0 F L Vs) (⟨none,.store a0 x y,ty,pos,af,g⟩::rest):=by
 refine WL.step f λa w b c v s=>?_;have d:w.heap[Z]? = some eJ:=c.kn _ (aY hL)
 have t:(execOp a.eval ⟨none,.store a0 x y,ty,pos,af,g⟩).run P w = .ok .skip { w with heap:=w.heap.setIfInBounds Z (mc eJ aw<|aZ a5) }:=by
   simp only [execOp,b.eval k,b.eval m,Instr.storeAt,Instr.sureAddr,Sem.run_bind,Sem.run_pure,Result.andThen_ok,Is o p q d r]
 simp only [Oper.wp,t,Oper.upon_skip];refine s _ _<|h _ _ (b.yl undef) ?_;refine Ws.fC c i hL ⟨O,O,O,ai,λj z u=>?_⟩ ?_ (by simp [aq]) (by simp [aq])
 · have:Z≠j:=λe=>u (by simp [aq,e])
   simp [tb this]
 · show (w.heap.setIfInBounds Z _)[Z]? = _
   simp [lt_of_heap d]
def Enters (P:Program) (f:FuncId):Prop:=∀args w,(callFunc f args).run P w = .ok (.enter f args) w
variable {dH:FuncId}
def enters_of {fn : Func} (b : P.funcs[dH]? = some fn) (c : (fn.name == "runtime.NumGoroutine") = false) (a : fn.body.isNone = false) : Enters P dH := λargs w => by
 have d : fn.name ≠ "runtime.NumGoroutine" := by simpa using c
 have f:fn.body≠none:=by intro e; rw [e] at a; cases a
 simp [callFunc,b,d,f]
def It (P:Program) (f:FuncId):Bool:=match P.funcs[f]? with
 | some fn=>!(fn.name=="runtime.NumGoroutine")&&!fn.body.isNone
 | none=>false
def aF {P:Program} {f:FuncId} (h:It P f=true:=by kernel_rfl):Enters P f:=by
 unfold It at h
 cases e:P.funcs[f]? with
 | none=>rw [e] at h; cases h
 | some fn=>
  rw [e] at h;simp only [Bool.and_eq_true,Bool.not_eq_true'] at h
  exact enters_of e h.1 h.2
variable {hg:Array Operand} {dv:List Value}
def Eo {a:Operand->Value} {dst:Option Tmp}   {ts:Array TypeId}  {w:World} (c:Enters P dH) (b:∀x u,bK l x=some u->a x=u) (d:ip l hg.toList=some dv) :
   (execOp a ⟨dst,.call ⟨.value<|.func dH,hg,ts⟩,ty,pos,af,g⟩).run P w = .ok (.enter dH dv.toArray) w:=by
 have e:hg.map a=dv.toArray:=by
   apply td
   simpa using A0 b _ _ d
 have f:a (.func dH) = .func (.func dH) #[] #[]:=b (.func dH) _ rfl;simp only [execOp,resolve,e,f,Deferred.ofValue,Sem.run_bind,Sem.run_pure,Result.andThen_ok,invoke]
 simpa using c _ w
variable {gx:Array TypeId}
def WL.yr {ι:Type}     (k:aK ops l g) (m:Nat.blt d n=true) (o:Enters P dH) (p:ip l hg.toList=some dv)
   (v:ι->Value) (R:ι->World->Prop) (j:List PanicEntry->World->Prop)
   (hC:∀w,W w->Calls P dH dv.toArray w λe c=>(∃i,e = .returned (v i)/\R i c)\/∃b,e = .panicked b/\j b c)
   (q:∀i,WL P ops Q n ds ((d,v i)::l) (R i) rest) (r:∀b,WE Q (.panic b) n ds l (j b)) :
   WL P ops Q n ds l W (⟨some d,.call ⟨.value<|.func dH,hg,gx⟩,ty,pos,af,g⟩::rest):=by
 refine WL.step k λa w f s B t=>?_;have y:=Eo (P:=P) (dst:=some d) (ts:=gx) (ty:=ty) (pos:=pos) (af:=af) (g:=g) (w:=w) o (λx u z=>f.eval z) p;simp only [Oper.wp,y,Oper.upon_enter];refine (hC w s).mono λe c A=>?_
 rcases A with ⟨i,rfl,h⟩ | ⟨b,rfl,h⟩
 · exact t _ _<|q i _ _ (f.put m _) h
 · exact r b _ _ f h
def WL.call (a:aK ops l g) (b:Nat.blt d n=true) (c:Enters P dH) (f:ip l hg.toList=some dv)
   (v:bB->Value) (R:bB->World->Prop)
   (hC:∀w,W w->Calls P dH dv.toArray w λe j=>∃i,e = .returned (v i)/\R i j)
   (k:∀i,WL P ops Q n ds ((d,v i)::l) (R i) rest) :
   WL P ops Q n ds l W (⟨some d,.call ⟨.value<|.func dH,hg,gx⟩,ty,pos,af,g⟩::rest):=
 WL.yr a b c f v R (λ_ _=>False) (λw m=>(hC w m).mono λ_ _ h=>.inl h) k<|λ_ _ _ _ h=>h.elim
def Lp (i:aK ops l g) (j:Nat.blt d n=true) (k:Enters P dH) (m:ip l hg.toList=some dv)
   (hC:∀w,Ws w0 F L Vs w->Calls P dH dv.toArray w λe b=>e = .returned a5/\Ext w b)
   (o:WL P ops Q n ds ((d,a5)::l) (Ws w0 F L Vs) rest) :
   WL P ops Q n ds l (Ws w0 F L Vs) (⟨some d,.call ⟨.value<|.func dH,hg,gx⟩,ty,pos,af,g⟩::rest):=by
 refine WL.step i λa w c f t p=>?_;have q:=Eo (P:=P) (dst:=some d) (ts:=gx) (ty:=ty) (pos:=pos) (af:=af) (g:=g) (w:=w) k (λx u r=>c.eval r) m;simp only [Oper.wp,q,Oper.upon_enter];refine (hC w f).mono λe b s=>?_;obtain ⟨rfl,h⟩:=s;exact p _ _<|o _ _ (c.put j _)<|f.ext h
def Ld (k:aK ops l g) (m:Nat.blt d n=true) (o:Enters P dH) (p:ip l hg.toList=some dv)
   (v:bB->Value) (R:View->bB->Prop)
   (hC:∀w,Ws w0 F L Vs w->Calls P dH dv.toArray w λe b=>∃i,e = .returned (v i)/\Ext w b/\R (nv w b) i)
   (q:∀c i,gw w0 c->R c i->WL P ops Q n ds ((d,v i)::l) (Ws w0 F L<|c::Vs) rest) :
   WL P ops Q n ds l (Ws w0 F L Vs) (⟨some d,.call ⟨.value<|.func dH,hg,gx⟩,ty,pos,af,g⟩::rest):=by
 refine WL.step k λa w j f A r=>?_;have s:=Eo (P:=P) (dst:=some d) (ts:=gx) (ty:=ty) (pos:=pos) (af:=af) (g:=g) (w:=w) o (λx u t=>j.eval t) p;simp only [Oper.wp,s,Oper.upon_enter];refine (hC w f).mono λe b y=>?_;obtain ⟨i,rfl,h,z⟩:=y;exact r _ _<|q (nv w b) i ((wz w b).mono f.fr.size) z _ _ (j.put m _)<|f.view h (Ej w b)<|wz w b
end
section
variable {P:Program} {ops:Array Oper} {Q:Exit->Act->World->Prop} {n:Nat} {ds:List Deferred} {l:List (Nat×Value)} {W:World->Prop} {w0:World} {F:List Nat} {L:List aQ} {Vs:List View}
 {rest:List Oper} {d:Nat} {ty:TypeId} {pos:String} {af:Array Edge} {g:Option (Nat×Bool)}
def a6 (e:TypeId) (size:Nat) (v:Value) (m:Nat) (xs:List Value):aQ:=
 ⟨v.ownBlock.toList,λw=>w.ownsRow 0 e size v m xs,
  λw l h b=>by
   obtain ⟨f,a⟩:=b;refine ⟨f,?_⟩
   rcases a with a | ⟨g,cap,i,hv,j,c,r⟩
   · exact .inl a
   · exact .inr ⟨g,cap,i,hv,j,by rw [h g (by simp [hv,Value.ownBlock])]; exact c,r⟩,
  λw b k d=>by
   obtain ⟨f,a⟩:=b
   rcases a with ⟨a,_⟩ | ⟨g,cap,i,hv,j,c,r⟩
   · subst a; simp [Value.ownBlock] at d
   · subst hv; simp [Value.ownBlock] at d; subst d; exact lt_of_heap c⟩
def Ws.g4 (h:Ws w0 F L Vs bY) (e:TypeId) (size:Nat):Ws w0 F (a6 e size (.slice none 0 0) 0 []::L) Vs bY:=by
 have:=Ws.wB (L:=[]) (L':=[a6 e size (.slice none 0 0) 0 []]) (L2:=L) (by simpa using h) (Fr.refl _ _)
   (by intro b a; simp at a; subst a; exact World.ownsRow_nil _ _ _ _) (by simp [a6,Value.ownBlock]) (by simp [a6,Value.ownBlock])
 simpa using this
def Ws.Iu (h:Ws w0 F L Vs bY) (i:Nat) {b m cap:Nat} {a:Array Value} {e:TypeId} {size:Nat} (hL:L[i]? = some (aq b<|.cells a e (0,0))) (c:m<=cap) (f:cap<=maxLen) (d:a.size=cap*size) :
   Ws w0 F (L.set i<|a6 e size (.slice (some ⟨b,0,none⟩) m cap) m<|a.toList.take<|m*size) Vs bY:=by
 have g:bY.heap[b]? = some (.cells a e (0,0)):=h.kn _ (aY hL);refine Ws.fC h i hL (Fr.refl _ _) ?_ (by simp [a6,Value.ownBlock]) (by simp [a6,aq,Value.ownBlock]);exact ⟨by rw [k',HX,d]; exact wo<|ya _ c,.inr ⟨b,cap,a,O,di _,g,c,f,d,O⟩⟩
structure hf (P:Program) (t e:TypeId) (z:Value) (size bytes:Nat):Prop where
 under:P.underlying t=some (.slice e)
 info:∃i,P.info? e=some i/\i.zero=some z/\i.size=size/\i.bytes=bytes
 zs:z.cells.size=size
 pos:0<size
def Iv (P:Program) (t:TypeId):Option (TypeId×Value×Nat×Nat):=match P.underlying t with
 | some (.slice e)=>match P.info? e with
   | some i=>match i.zero with
     | some z=>bif Nat.beq z.cells.size i.size&&Nat.blt 0 i.size then some (e,z,i.size,i.bytes) else none
     | none=>none
   | none=>none
 | _=>none
def jb {t e:TypeId} {z:Value} {size d:Nat} (h:Iv P t=some (e,z,size,d)):hf P t e z size d:=by
 unfold Iv at h
 cases b:P.underlying t with
 | none=>simp [b] at h
 | some f=>
   cases f<;>simp [b] at h
   rename_i g
   cases hi:P.info? g with
   | none=>simp [hi] at h
   | some i=>
     simp [hi] at h
     cases c:i.zero with
     | none=>simp [c] at h
     | some j=>
       simp only [c] at h
       cases a:(Nat.beq j.cells.size i.size&&Nat.blt 0 i.size) with
       | false=>rw [a] at h; cases h
       | true=>
         rw [a] at h;simp at h;obtain ⟨rfl,rfl,rfl,rfl⟩:=h;simp only [dE] at a;exact ⟨b,⟨i,hi,c,O,O⟩,j2 a.1,qf a.2⟩
variable {tm:Addr}
def Pt {t e ty:TypeId} {z v b:Value} {size o m c k:Nat}  {xs news:List Value} {w x:World} (d:hf P t e z size o) (y:w.ownsRow 0 e size v m xs)
   (f:news.length=k*size) (i:∀j u,news[j]? = some u->w.cell? (tm.add j)=some u) (A:∀u ∈ news,u.oneCell'=true)
   (B:m+k<=maxLen) (p:(m+k)*o<=140737488355328) (l:(Builtin.append_ #[t,t] ty #[v,.slice (some tm) k c]).run P w = .ok b x) (C:b = .slice none 0 0↔v = .slice none 0 0/\k=0) :
   b.ownBlock=v.ownBlock\/b.ownBlock=some w.heap.size:=by
 obtain ⟨n,hi,q,D,E⟩:=d.info;subst D; subst E
 have F:((m+k:Nat):Int)<=9223372036854775807:=by simp only [maxLen] at B; omega
 obtain ⟨G,H⟩:=y
 rcases H with ⟨rfl,rfl⟩ | ⟨g,cap,I,rfl,_,r,N,Q,J,K⟩
 · by_cases L:k=0
   · exact .inl (by rw [C.2 ⟨O,L⟩])
   · have a:=run_append_nil (P:=P) w t ty e n z d.under hi q tm k c news f i aa aa (by simp at p; omega)
     rw [l] at a
     injection a with a _
     exact .inr (by rw [a]; rfl)
 · by_cases s:m+k<=cap
   · have a:=run_append_room (P:=P) w t ty e n d.under hi g m cap I r tm k c news f i A s (by
       rw [f,J,<-fz]; exact ya _ s)
     rw [l] at a
     injection a with a _
     exact .inl (by rw [a]; rfl)
   · have M:∀j v,xs[j]? = some v->w.cell? ((⟨g,0,none⟩:Addr).add j)=some v:=by
       intro j u h;rw [qj,<-K] at *;refine cell_of_heap r ?_;rw [jq] at h
       split at h
       · simpa [i_] using h
       · cases h
     have a:=run_append_grow (P:=P) w t ty e n z d.under hi q ⟨g,0,none⟩ m cap xs G M tm k c news f i aa F (growslice_fits aa p);rw [l] at a
     injection a with a _
     exact .inr (by rw [a]; rfl)
def WL.append {t e:TypeId} {z v:Value} {size q m c k:Nat} {s x:Operand}  {xs news:List Value} (i:Nat) (I:aK ops l g) (J:Nat.blt d n=true) (f:hf P t e z size q)
   (K:bK l s=some v) (M:bK l x=some (.slice (some tm) k c)) (hL:L[i]? = some (a6 e size v m xs))
   (y:news.length=k*size) (A:∀w,Ws w0 F L Vs w->∀j u,news[j]? = some u->w.cell? (tm.add j)=some u) (B:∀u ∈ news,u.oneCell'=true)
   (C:m+k<=maxLen) (D:(m+k)*q<=140737488355328)
   (h:∀a,(a = .slice none 0 0↔v = .slice none 0 0/\k=0)->WL P ops Q n ds ((d,a)::l) (Ws w0 F (L.set i<|a6 e size a (m+k)<|xs++news) Vs) rest) :
   WL P ops Q n ds l (Ws w0 F L Vs) (⟨some d,.call ⟨.builtin .append,#[s,x],#[t,t]⟩,ty,pos,af,g⟩::rest):=by
 refine WL.step I λN w r p Z O=>?_;obtain ⟨R,hi,S,T,U⟩:=f.info;have E:w.ownsRow 0 e size v m xs:=p.kn _ (aY hL);obtain ⟨a,V,G,W,o,H⟩:=run_append_own (P:=P) w 0 t ty e R z size q f.under hi S T U f.zs f.pos v m xs E tm k c news y (A w p) B C D (di _)
 have X:(execOp N.eval ⟨some d,.call ⟨.builtin .append,#[s,x],#[t,t]⟩,ty,pos,af,g⟩).run P w = .ok (.value a) V:=by
   simp only [execOp,resolve,DR,k_,uH,r.eval K,r.eval M,Sem.run_bind,Sem.run_pure,Result.andThen_ok,invoke,builtin,G]
 simp only [Oper.wp,X,Oper.upon_value];refine O _ _<|h a H _ _ (r.put J _) ?_;refine Ws.fC p i hL ⟨o.os,o.tape,o.output,o.size,λj b Y=>o.block j b λe=>Y ?_⟩ W ?_ λj b=>?_
 · simp [a6,<-e]
 · cases hv:a.ownBlock<;>simp [a6,hv]
 · simp only [a6,Option.mem_toList] at b ⊢
   rcases Pt f E y (A w p) B C D G H with e | e
   · exact .inl (by rw [<-e]; exact b)
   · rw [e] at b; injection b with b; exact .inr aa
end
section
variable {P:Program} {ops:Array Oper} {Q:Exit->Act->World->Prop} {n:Nat} {ds:List Deferred} {l:List (Nat×Value)} {W:World->Prop} {w0:World} {F:List Nat} {L:List aQ} {Vs:List View}
def pv (us l:List (Nat×Value)):Bool:=us.all λp=>(lk l p.1).isNone
def Pu (a:pv eL l=true)   (b:lk l Z=some a5):lk (eL++l) Z=some a5:=by
 induction eL with
 | nil=>exact b
 | cons p r d=>
   obtain ⟨k,v⟩:=p;simp only [pv,hM,dE] at a;simp only [h5,lk]
   cases e:Nat.beq k Z with
   | false=>exact d a.2
   | true=>
     have:=j2 e;subst this;have c:=a.1;rw [b] at c;cases c
variable {bc:Act}
def Ag.forget (h:Ag n ds (eL++l) bc) (a:pv eL l=true):Ag n ds l bc:=
 ⟨h.size,h.defs,λt u b=>h.h7 t u<|Pu a b⟩
def Ag.A1 (m:Nat) (h:Ag n ds eL bc) (a:eL.drop m=l) (b:pv (eL.take m) l=true):Ag n ds l bc:=by
 subst a;rw [<-qg m eL] at h;exact h.forget b
def me (ops:Array Oper):List (Nat×Value)->List Oper->Option (List<|Nat×Value)
 | l,[]=>some l
 | l,o::r=>match o.guard,o.dst with
   | some (j,b),some d=>match (ops[j]?).bind (·.dst) with
     | some a=>match lk l a with
       | some (.bool c)=>bif (c != b) then me ops ((d,undef)::l) r else none
       | some (.tuple _)=>me ops ((d,undef)::l) r
       | _=>none
     | none=>none
   | _,_=>none
def q8 (n:Nat) (os:List Oper):Bool:=os.all λo=>match o.dst with | some d=>Nat.blt d n | none=>true
def Iw (b:Ag n ds eL bc)   (h:lk eL Z=some a5) (hv:a5≠undef\/Z<n):bc.tmps[Z]? = some a5:=by
 have a:=b.h7 Z a5 h;rw [jD] at a
 rcases mb Z bc.tmps.size with d | c
 · rw [hJ d] at a ⊢
   simpa using a
 · rw [wm c] at a
   rcases hv with hv | hv
   · exact absurd (by simpa using a.symm) hv
   · rw [b.size] at c; omega
variable {bF x4:List Oper}
def WL.o0:∀{l:List (Nat×Value)},me ops l bF=some eL->q8 n bF=true->(∀a w,Ag n ds eL a->W w->wpList P ops Q x4 a w)->
   ∀a w,Ag n ds l a->W w->wpList P ops Q (bF++x4) a w:=by
 induction bF with
 | nil=>intro l c _ h a w f m; simp [me] at c; subst c; exact h a w f m
 | cons o r y=>
   intro l c p h a w f m;simp only [me] at c;simp only [q8,hM,dE] at p
   have key:∀d,o.dst=some d->Region.wanted o (yielded ops a.tmps)=false->me ops ((d,undef)::l) r=some eL->wpList P ops Q (o::r++x4) a w:=by
     intro d e z A
     have B:Nat.blt d n=true:=by have:=p.1; rw [e] at this; exact this
     simp only [h5,wpList,z];rw [e];exact y A p.2 h _ _ (f.put B undef) m
   cases g:o.guard with
   | none=>simp [g] at c
   | some C=>
     obtain ⟨j,b⟩:=C
     cases e:o.dst with
     | none=>simp [g,e] at c
     | some d=>
       simp only [g,e] at c
       cases i:(ops[j]?).bind (·.dst) with
       | none=>simp [i] at c
       | some q=>
         simp only [i] at c
         cases k:lk l q with
         | none=>simp [k] at c
         | some v=>
           simp only [k] at c;have hv:=f.h7 q v k
           cases v with
           | bool s=>
             cases t:(s != b) with
             | false=>simp [t] at c
             | true=>
               simp only [t,aae] at c;refine key d e ?_ c;have D:=Iw f k (.inl (by simp [undef]))
               have x:yielded ops a.tmps j=some s:=by simp [yielded,i,D]
               simp only [Region.wanted,g,x]
               cases b<;>cases s<;>first | rfl | (simp at t)
           | tuple vs=>
             refine key d e ?_ c
             have x:yielded ops a.tmps j=none:=by
               simp only [yielded,i,cS];rw [jD] at hv
               cases E:a.tmps[q]? with
               | none=>rfl
               | some u=>simp [E] at hv; simp [hv]
             simp [Region.wanted,g,x]
           | _=>simp at c
def Pv:∀(a:Act) (w:World),wpList P ops (Exit.then (wpList P ops Q x4) Q) bF a w->wpList P ops Q (bF++x4) a w:=by
 induction bF with
 | nil=>intro a w h; exact h
 | cons o r c=>
   intro a w h;simp only [h5,wpList] at h ⊢
   split
   · rename_i d
     rw [ZZ d] at h
     rcases h with h | ⟨f,a2,g,i⟩
     · left
       unfold Oper.wp at h ⊢;unfold Oper.upon at h ⊢
       split at h
       all_goals first
         | exact c _ _ h
         | exact h
         | (refine h.mono λe j b=>?_
            cases e with
            | returned v=>exact c _ _ b
            | panicked m=>exact b
            | outgrown=>obtain ⟨a3,k,l⟩:=b; exact ⟨a3,k,l⟩)
         | exact h.mono λv j b=>c _ _ b
     · exact .inr ⟨f,a2,g,i⟩
   · rename_i d
     rw [ZX d] at h;exact c _ _ h
def Pw {g:Exit->Act->World->Prop} (b:∀e a w,Q e a w->g e a w) :∀(a:Act) (w:World),wpList P ops Q bF a w->wpList P ops g bF a w:=by
 induction bF with
 | nil=>intro a w h; exact b _ _ _ h
 | cons o r d=>
   intro a w h;simp only [wpList] at h ⊢
   split
   · rename_i f
     rw [ZZ f] at h
     rcases h with h | ⟨i,a2,j,k⟩
     · left
       unfold Oper.wp at h ⊢;unfold Oper.upon at h ⊢
       split at h
       all_goals first
         | exact d _ _ h
         | exact b _ _ _ h
         | exact h
         | (refine h.mono λe l c=>?_
            cases e with
            | returned v=>exact d _ _ c
            | panicked p=>exact b _ _ _ c
            | outgrown=>obtain ⟨a3,m,n⟩:=c; exact ⟨a3,m,b _ _ _ n⟩)
         | exact h.mono λv l c=>d _ _ c
     · exact .inr ⟨i,a2,j,b _ _ _ k⟩
   · rename_i f
     rw [ZX f] at h;exact d _ _ h
def q9 (Q:Exit->Act->World->Prop) (n:Nat) (ds:List Deferred) (l:List (Nat×Value)) (W:World->Prop) (dx:Nat) (x:Value):Exit->Act->World->Prop:=
 Exit.then (λa w=>(Ag n ds l a/\a.tmps.getD dx undef=x)/\W w) Q
def Gt (m:Nat) (c:lk eL Z=some a5) (d:eL.drop m=l) (e:pv (eL.take m) l=true):WL P ops (q9 Q n ds l W Z a5) n ds eL W []:=
 λa w b f=>⟨⟨b.A1 m d e,b.h7 _ _ c⟩,f⟩
def Ag.known (h:Ag n ds l bc)   (hv:lk l Z=some a5):Ag n ds ((Z,a5)::l) bc:=
 ⟨h.size,h.defs,λt u a=>by
   simp only [lk] at a
   cases b:Nat.beq Z t with
   | true=>
     rw [b] at a;have:=j2 b;subst this;simp at a; subst a;exact h.h7 _ _ hv
   | false=>rw [b] at a; exact h.h7 t u a⟩
def Ag.A2 (h:Ag n ds ((Z,a5)::l) bc) (hv:lk l Z=some a5):Ag n ds l bc:=
 ⟨h.size,h.defs,λt u a=>by
   refine h.h7 t u ?_;simp only [lk]
   cases b:Nat.beq Z t with
   | true=>
     have:=j2 b;subst this;rw [hv] at a
     simpa using a
   | false=>exact a⟩
variable {aw cy:Nat} {be bX iU:Operand} {fY:String} {gF:Array Edge} {g3:Option (Nat×Bool)}
def WL.yu (m:Nat)   (a:Bool) {c x:Bool}      
   (z:bF[m]? = some ⟨some aw,.pick be bX iU,a0,fY,gF,g3⟩) (A:be = .tmp Z) (j:lk l Z=some (.bool c)) (B:q8 n (bF.take m)=true)
   (C:aK ops l g3) (D:Nat.blt aw n=true)
   (f:(bX,iU)=(bif a then (Operand.tmp cy,Operand.const (.bool false)) else (Operand.const (.bool true),Operand.tmp cy)))
   (E:me ops ((Z,.bool (!a))::l) (bF.take m)=some eL) (F:eL.drop m=(Z,.bool (!a))::l) (G:pv (eL.take m) ((Z,.bool (!a))::l)=true)
   (H:c=a->WL P ops (q9 Q n ds ((Z,.bool a)::l) W cy<|.bool x) n ds ((Z,.bool a)::l) W (bF.take m))
   (h:WL P ops Q n ds ((aw,.bool (bif a then c&&x else c||x))::l) W (bF.drop<|m+1)):WL P ops Q n ds l W bF:=by
 intro q w s t
 have I:bF=bF.take m++⟨some aw,.pick be bX iU,a0,fY,gF,g3⟩::bF.drop (m+1):=by
   obtain ⟨J,K⟩:=cq.1 z;rw [<-K,HY J,qg]
 rw [I];subst A
 have u:∀(b:Act) (d:World) (r:Bool),Ag n ds l b->W d->(if c then b.eval bX else b.eval iU) = .bool r->r=(bif a then c&&x else c||x)->
     wpList P ops Q (⟨some aw,.pick (.tmp Z) bX iU,a0,fY,gF,g3⟩::bF.drop (m+1)) b d:=by
   intro b d r g k hv L;refine wpList_step λS M=>?_;rw [ZZ (aK.wanted (o:=⟨some aw,.pick (.tmp Z) bX iU,a0,fY,gF,g3⟩) C g)]
   have N:(execOp b.eval ⟨some aw,.pick (.tmp Z) bX iU,a0,fY,gF,g3⟩).run P d = .ok (.value<|.bool r) d:=by
     have O:b.eval (.tmp Z) = .bool c:=g.h7 Z _ j;simp only [execOp,O,asBool,Sem.run_bind,Sem.run_pure,Result.andThen_ok,hv]
   simp only [Oper.wp,N,Oper.upon_value];exact M _ _<|h _ _ (by rw [<-L]; exact g.put D _) k
 by_cases i:c=a
 · refine Pv _ _<|Pw (Q:=q9 Q n ds ((Z,.bool a)::l) W cy (.bool x)) (λe b d v=>?_) _ _<|H i q w (s.known (by rw [<-i]; exact j)) t
   cases e with
   | normal=>
     obtain ⟨⟨g,y⟩,k⟩:=v;refine u b d x (g.A2 (by rw [<-i]; exact j)) k ?_ ?_
     · subst i
       cases c
       · simp at f; obtain ⟨rfl,rfl⟩:=f; exact y
       · simp at f; obtain ⟨rfl,rfl⟩:=f; exact y
     · subst i; cases c<;>rfl
   | _=>exact v
 · have p:c = !a:=by cases c<;>cases a<;>first | rfl | exact absurd rfl i
   refine WL.o0 E B (λb d g k=>?_) q w (s.known (by rw [<-p]; exact j)) t;have R:Ag n ds l b:=(g.A1 m F G).A2 (by rw [<-p]; exact j);refine u b d c R k ?_ ?_
   · subst p
     cases a
     · simp at f; obtain ⟨rfl,rfl⟩:=f; rfl
     · simp at f; obtain ⟨rfl,rfl⟩:=f; rfl
   · subst p; cases a<;>rfl
def La (m:Nat)   {c x:Bool}      
   (a:bF[m]? = some ⟨some aw,.pick be bX iU,a0,fY,gF,g3⟩) (b:be = .tmp Z) (d:lk l Z=some (.bool c)) (e:q8 n (bF.take m)=true)
   (f:aK ops l g3) (g:Nat.blt aw n=true) (i:(bX,iU)=(Operand.tmp cy,Operand.const (.bool false)))
   (j:me ops ((Z,.bool false)::l) (bF.take m)=some eL) (k:eL.drop m=(Z,.bool false)::l) (o:pv (eL.take m) ((Z,.bool false)::l)=true)
   (p:c=true->WL P ops (q9 Q n ds ((Z,.bool true)::l) W cy<|.bool x) n ds ((Z,.bool true)::l) W (bF.take m))
   (h:WL P ops Q n ds ((aw,.bool (c&&x))::l) W (bF.drop<|m+1)):WL P ops Q n ds l W bF:=
 WL.yu m true a b d e f g i j k o p h
def Lo (m:Nat)   {c x:Bool}      
   (a:bF[m]? = some ⟨some aw,.pick be bX iU,a0,fY,gF,g3⟩) (b:be = .tmp Z) (d:lk l Z=some (.bool c)) (e:q8 n (bF.take m)=true)
   (f:aK ops l g3) (g:Nat.blt aw n=true) (i:(bX,iU)=(Operand.const (.bool true),Operand.tmp cy))
   (j:me ops ((Z,.bool true)::l) (bF.take m)=some eL) (k:eL.drop m=(Z,.bool true)::l) (o:pv (eL.take m) ((Z,.bool true)::l)=true)
   (p:c=false->WL P ops (q9 Q n ds ((Z,.bool false)::l) W cy<|.bool x) n ds ((Z,.bool false)::l) W (bF.take m))
   (h:WL P ops Q n ds ((aw,.bool (c||x))::l) W (bF.drop<|m+1)):WL P ops Q n ds l W bF:=
 WL.yu m false a b d e f g i j k o p h
end
section
variable {P:Program} {ops:Array Oper} {Q:Exit->Act->World->Prop} {n:Nat} {ds:List Deferred} {l l':List (Nat×Value)} {W:World->Prop} {w0:World} {F:List Nat} {L:List aQ} {Vs:List View}
 {rest:List Oper} {d:Nat} {ty:TypeId} {pos:String} {af:Array Edge} {g:Option (Nat×Bool)}
variable {fo:Code}
def Px (U:bB->List (Nat×Value)) (a:List (Nat×Value)) (Wi:bB->World->Prop) (R:bB->Prop) (c:bB->Nat) (b:bB) (d:R b) (e:∀p ∈ U b++a,lk l p.1=some p.2) (f:∀w,W w->Wi b w)
   (g:∀i,R i->WC P fo (Exit.then (λh k=>∃j,c j<c i/\R j/\Ag n ds (U j++a) h/\Wi j k) Q) n ds (U i++a) (Wi i)):WC P (.loop fo) Q n ds l W:=
 WC.loop (λi=>U i++a) Wi R c b d e f g
def ey {ι:Type} {c:Code} (U:ι->List (Nat×Value)) (a:List (Nat×Value)) (Wi:ι->World->Prop) (R:ι->Prop) (d:ι->Nat) (b:ι) (e:R b) (f:∀w,W w->Wi b w) (g:∀i,R i->WC P c (Exit.then (λh k=>∃j,d j<d i/\R j/\Ag n ds (U j++a) h/\Wi j k) Q) n ds (U i++a) (Wi i)) (m:ww l (U b++a)=wx (U b++a):=by rfl):WC P (.loop c) Q n ds l W:=Px U a Wi R d b e (ym m) f g
def CW (U:bB->List (Nat×Value)) (a:List (Nat×Value)) (R:bB->Prop) (b:bB->Nat) (c:bB) (d:R c) (e:∀p ∈ U c++a,lk l p.1=some p.2)
   (f:∀i,R i->WC P fo (Exit.then (λg h=>∃j,b j<b i/\R j/\Ag n ds (U j++a) g/\W h) Q) n ds (U i++a) W):WC P (.loop fo) Q n ds l W:=
 WC.loop (λi=>U i++a) (λ_=>W) R b c d e ay f
def ql {ι:Type} {c:Code} (U:ι->List (Nat×Value)) (a:List (Nat×Value)) (R:ι->Prop) (d:ι->Nat) (b:ι) (e:R b) (f:∀i,R i->WC P c (Exit.then (λg h=>∃j,d j<d i/\R j/\Ag n ds (U j++a) g/\W h) Q) n ds (U i++a) W) (k:ww l (U b++a)=wx (U b++a):=by rfl):WC P (.loop c) Q n ds l W:=CW U a R d b e (ym k) f
variable {be bX:Operand}
def WL.make {t e:TypeId}  {f i:IntKind} {c a:Int}  {size j:Nat} (o:aK ops l g) (p:Nat.blt d n=true) (k:hf P t e a5 size j)
   (q:bK l be=some (.int f c)) (r:bK l bX=some (.int i a)) (s:0<=c) (u:c<=a) (v:(j:Int)*a<=281474976710656) (x:a<=9223372036854775807)
   (h:∀b,WL P ops Q n ds ((d,.slice (some ⟨b,0,none⟩) c.toNat a.toNat)::l) (Ws w0 F (aq b (.cells (madeCells a5.cells<|a.toNat*size) e (0,0))::L) Vs) rest) :
   WL P ops Q n ds l (Ws w0 F L Vs) (⟨some d,.makeSlice t be bX,ty,pos,af,g⟩::rest):=by
 obtain ⟨y,hi,z,A,B⟩:=k.info;refine WL.new (mk:=λb=>.slice (some ⟨b,0,none⟩) c.toNat a.toNat) o p (λC w m D=>?_) h;have:=run_make (P:=P) w t e y a5 k.under hi z f i c a s u (by rw [B]; exact v) x;rw [A] at this;simp [execOp,m be _ q,m bX _ r,this]
def Pz (v:Value) (hv:v.cells = #[v]) (k:Nat):madeCells v.cells (k*1)=(List.replicate k v).toArray:=by
 rw [hv];apply td;simp only [madeCells,tf];apply r0;intro j
 rcases mb j k with h | h
 · simp [h,Nat.mod_one]
 · simp [h]
def WL.Ix {t:TypeId}  {b o k:Nat} {a:Obj}  (i:Nat) (c:Obj) (d:aK ops l g) (e:bK l be=some (.pointer<|some ⟨b,o,none⟩)) (f:bK l bX=some a5) (hL:L[i]? = some (aq b a))
   (j:aJ P t=some k) (m:(aZ a5).length=k) (p:(aZ a5).all (·.oneCell')=true) (q:r6 a o k=true) (r:mc a o (aZ a5)=c)
   (h:WL P ops Q n ds l (Ws w0 F (L.set i<|aq b c) Vs) rest) :
   WL P ops Q n ds l (Ws w0 F L Vs) (⟨none,.store t be bX,ty,pos,af,g⟩::rest):=aT i d e f hL j m p q (by rw [r]; exact h)
end
section
variable {P:Program} {l:List (Nat×Value)} {W:World->Prop} {w0:World} {F:List Nat} {L:List aQ} {Vs:List View}
 {d:Option Tmp} {ty:TypeId} {pos:String} {af:Array Edge} {g:Option (Nat×Bool)}
def PA {t:TypeId} {x y:Operand} {a:Option Addr} {m c s:Nat} {k:IntKind} {h:Int} (b:aat P t=some s) (j:bK l x=some (.slice a m c)) (A:∀p,a=some p->p.spot=none) (n:bK l y=some (.int k h)) (o:0<=h) (q:h<=c) :
   Yl P l W ⟨d,.slice t x none (some y) none,ty,pos,af,g⟩ (.slice a h.toNat c):=by
 intro B w i _;unfold aat at b
 cases f:P.underlying t with
 | none=>simp [f] at b
 | some r=>
   cases r<;>simp [f] at b
   rename_i e;obtain ⟨u,hi,rfl⟩:=b
   have v:(if c=0 then a else a.map (·.add<|0*u.size))=a:=by
     split
     · rfl
     · cases a with
       | none=>rfl
       | some p=>simp [Addr.add]
   have z:h<=(c:Int):=q;simp [execOp,i x _ j,i y _ n,Instr.sliceAt,Instr.slice,Instr.sliceBounds,Instr.sliceBound,asIntOf,run_underlying f,sizeOf,typeInfo,hi,o,z]
   simpa using v
end
def ar (a:View) (b o:Nat) (cs:List Value):Prop:=∀j v,cs[j]? = some v->vc a b (o+j)=some v
variable {b4:View} {aw:Nat} {dv:List Value}
def ar.mono (h:bG an b4)   (r:ar an Z aw dv):ar b4 Z aw dv:=λj v hv=>h.cell<|r j v hv
structure Sl {α:Type} (rd:View->Nat->Nat->α->Prop) (k:Nat) (H:View) (a:Option Addr) (c:Nat) (l:List α):Prop where
 cap:l.length<=c
 max:c<=9223372036854775807
 spot:∀p,a=some p->0<c->p.spot=none
 b5:∀i x,l[i]? = some x->∃b o,a=some ⟨b,o,none⟩/\rd H b (o+i*k) x
variable {n9:View->Nat->Nat->bB->Prop} {dj:Option Addr}
def Sl.mono (a:∀b o x,n9 an b o x->n9 b4 b o x) (h:Sl n9 Z an dj aw b_):Sl n9 Z b4 dj aw b_:=
 ⟨h.cap,h.max,h.spot,λi x c=>let ⟨b,o,d,e⟩:=h.b5 i x c; ⟨b,o,d,a _ _ _ e⟩⟩
def Sl.nil:Sl n9 Z an none 0 ([]:List bB):=⟨cQ _,a8,ai,ai⟩
section
variable {P:Program} {l:List (Nat×Value)} {W:World->Prop} {d:Option Tmp} {ty:TypeId} {pos:String} {af:Array Edge} {g:Option (Nat×Bool)}
variable {be bX:Operand} {cy mO r4:Nat} {ew:IntKind}
def Yo {i:Nat} (a:aat P a0=some r4) (b:bK l be=some (.slice dj cy mO)) (c:bK l bX=some (.int ew (i:Int))) (e:dj=some ⟨Z,aw,none⟩) (f:i<cy) :
   Yl P l W ⟨d,.indexAddr a0 be bX,ty,pos,af,g⟩ (.pointer<|some ⟨Z,aw+i*r4,none⟩):=by subst e; exact Iq a b c f
def wC {i:Int} (a:aat P a0=some r4) (b:bK l be=some (.slice dj cy mO)) (c:bK l bX=some (.int ew i)) (e:dj=some ⟨Z,aw,none⟩) (f:0<=i) (h:i<cy) :
   Yl P l W ⟨d,.indexAddr a0 be bX,ty,pos,af,g⟩ (.pointer<|some ⟨Z,aw+i.toNat*r4,none⟩):=by subst e; exact En a b c f h
end
section
variable {P:Program} {md:Region.Mode} {ops:Array Oper} {C:World->Prop} {Q:Exit->Act->World->Prop}
def YV (P:Program) (ops:Array Oper) (C:World->Prop) (o:Oper) (v:Value) (a:Act):Prop:=
 (Region.wanted o (yielded ops a.tmps)=true/\∀w,C w->(execOp a.eval o).run P w = .ok (.value v) w)\/
 (Region.wanted o (yielded ops a.tmps)=false/\v=undef)
variable {d_:Oper}
def YV.of_same {a b:Act} (c:YV P ops C d_ a5 a) (d:execOp b.eval d_=execOp a.eval d_)
   (e:Region.wanted d_ (yielded ops b.tmps)=Region.wanted d_ (yielded ops a.tmps)):YV P ops C d_ a5 b:=by
 unfold YV at *;rw [d,e];exact c
variable {bc:Act} {tj:Act->World->Prop}
def YV.wpOp (hi:ops[Z]? = some d_) (b:YV P ops C d_ a5 bc) (hC:C bY)  (h:tj (bc.put d_.dst a5) bY):wpOp P ops Q Z tj bc bY:=by
 unfold Go.wpOp;simp only [hi]
 rcases b with ⟨a,hv⟩ | ⟨a,rfl⟩
 · simp only [a,Z']
   refine .inl ?_;simp only [Oper.wp,hv bY hC,Oper.upon_value];exact h
 · simp only [a,dV,Z9]; exact h
def qm (P:Program) (md:Region.Mode) (ops:Array Oper) (C:World->Prop) (Q:Exit->Act->World->Prop):Nat->Array Bool->Act->World->Prop
 | 0,listed,a,w=>C w/\Region.ready md ops listed=[]/\Q .normal a w
 | fuel+1,listed,a,w=>C w/\(Region.ready md ops listed=[]->Q .normal a w)/\
   ∀i ∈ Region.ready md ops listed,wpOp P ops Q i (qm P md ops C Q fuel<|listed.setIfInBounds i true) a w
def A3:∀(fuel:Nat) (b:Array Bool) (a:Act) (w:World),qm P md ops C Q fuel b a w->wpAny P md ops Q fuel b a w
 | 0,_,_,_,h=>h.2
 | fuel+1,b,a,w,h=>⟨h.2.1,λi hi=>wpOp_mono (λc d e=>A3 fuel _ c d e)<|h.2.2 i hi⟩
def qm.c {a:Array Bool}   (h:qm P md ops C Q Z a bc bY):C bY:=by cases Z<;>exact h.1
def Iy {g i:Oper}  (z:ops[Z]? = some i) (A:g.apart ops i=true)
   (B:∀cs b,g.op≠.select cs b) (q:∀cs b,i.op≠.select cs b)
   (s:∀c a w,Q (.panic c) (a.put g.dst a5) w->Q (.panic c) a w)  {a:Act} {w:World}
   (j:YV P ops C g a5 a) (h:wpOp P ops Q Z tj (a.put g.dst a5) w) :
   wpOp P ops Q Z (λt m=>YV P ops C g a5 t/\tj (t.put g.dst a5) m) a w:=by
 obtain ⟨o,k,v⟩:=Oper.apart_spec A
 have dB:∀(a:Act),YV P ops C g a5 a->∀u,YV P ops C g a5 (a.put i.dst u):=λa j u=>
   j.of_same (execOp_put g B a i.dst u v)<|wanted_put g a i.dst u v
 have D:∀d,YV P ops C g a5 { a with defers:=d::a.defers }:=λd=>j.of_same rfl rfl;unfold wpOp at *;simp only [z] at *;rw [wanted_put i a g.dst a5 o] at h
 split
 · rename_i p
   simp only [p,Z'] at h
   rcases h with h | ⟨y,E⟩
   case inr=>exact .inr ⟨by unfold Oper.asks at *; rw [execOp_put i q a g.dst a5 o] at y; exact y,E⟩
   refine .inl ?_;unfold Oper.wp at *;rw [execOp_put i q a g.dst a5 o] at h
   generalize (execOp a.eval i).run P w=r at *
   cases r with
   | ok n m=>
     cases n<;>simp only [Oper.upon] at h ⊢
     case value u=>exact ⟨dB a j u,by rw [<-Act.put_comm a a5 u k]; exact h⟩
     case skip=>exact ⟨dB a j _,by rw [<-Act.put_comm a a5 undef k]; exact h⟩
     case defer d=>
       refine ⟨dB _ (D d) _,?_⟩;rw [<-Act.put_comm _ a5 undef k,<-Act.put_defers];exact h
     case enter f args=>
       refine Calls.mono h λe F l=>?_
       cases e with
       | returned u=>exact ⟨dB a j u,by rw [<-Act.put_comm a a5 u k]; exact l⟩
       | panicked c=>exact s _ _ _ l
       | outgrown=>exact l
     case row row args=>exact Rows.mono h λu F l=>⟨dB a j u,by rw [<-Act.put_comm a a5 u k]; exact l⟩
   | halt x m=>
     cases x<;>simp only [Oper.upon] at h ⊢
     case panic u=>exact s _ _ _ h
 · rename_i p
   simp only [p] at h;exact ⟨dB a j _,by rw [<-Act.put_comm a a5 undef k]; exact h⟩
def o2 (hi:ops[Z]? = some d_) (t:∀(j:Nat) (o:Oper) cs b,ops[j]? = some o->o.op≠.select cs b)
   (A:∀c a w,Q (.panic c) (a.put d_.dst a5) w->Q (.panic c) a w) :
   ∀(fuel:Nat) (d:Array Bool) (a:Act) (w:World),
     (∀j g,ops[j]? = some g->j≠Z->d.getD j true=false->(∀e ∈ g.after,Region.binds md e=true->e.on≠Z)->d_.apart ops g=true)->
     Z ∈ Region.ready md ops d->YV P ops C d_ a5 a->C w->
     qm P md ops C Q fuel (d.setIfInBounds Z true) (a.put d_.dst a5) w->qm P md ops C Q (fuel+1) d a w:=by
 intro fuel
 induction fuel with
 | zero=>
   intro d a w _ i n hC m;refine ⟨hC,λh=>(by rw [h] at i; cases i),λj p=>?_⟩
   by_cases f:j=Z
   · subst f; exact n.wpOp hi hC m
   · have:=ready_mono p f
     rw [m.2.1] at this;cases this
 | succ fuel B=>
   intro d a w u i n hC m;refine ⟨hC,λh=>(by rw [h] at i; cases i),λj p=>?_⟩
   by_cases f:j=Z
   · subst f; exact n.wpOp hi hC m
   · have l:=m.2.2 j (ready_mono p f)
     obtain ⟨v,g,q,D⟩:=mem_ready.1 p
     have E:∀e ∈ g.after,Region.binds md e=true->e.on≠Z:=λe F G H=>by
       have l:=D e F G;have x:=(mem_ready.1 i).1;rw [H] at l
       rcases mb Z d.size with r | r
       · simp [r] at x l; rw [x] at l; cases l
       · simp [wm r] at l
     have I:=Iy q (u j g q f v E) (λcs b=>t Z d_ cs b hi) (λcs b=>t j g cs b q) A n l
     have J:∀k ok,ops[k]? = some ok->k≠Z->(d.setIfInBounds j true).getD k true=false->
         (∀e ∈ ok.after,Region.binds md e=true->e.on≠Z)->d_.apart ops ok=true:=λk ok K L y M=>by
       refine u k ok K L ?_ M
       by_cases z:j=k
       · subst z; exact v
       · rw [getD_set_ne true z] at y; exact y
     refine wpOp_mono (λN O s=>B (d.setIfInBounds j true) N O J (ready_mono i<|AE f) s.1 s.2.c ?_) I;rw [DS _ _ f];exact s.2
def nY (md:Region.Mode) (ops:Array Oper):List (Nat×Bool)->Array Bool->Bool
 | [],listed=>(Region.ready md ops listed).isEmpty
 | (i,q)::r,listed=>(bif q then (Region.ready md ops listed).contains i&&Region.free md ops listed i else Region.ready md ops listed==[i])&&nY md ops r (listed.setIfInBounds i true)
def nZ (P:Program) (ops:Array Oper) (C:World->Prop) (Q:Exit->Act->World->Prop):List (Nat×Bool)->Act->World->Prop
 | [],a,w=>C w/\Q .normal a w
 | (i,true)::r,a,w=>C w/\∃o v,ops[i]? = some o/\YV P ops C o v a/\nZ P ops C Q r (a.put o.dst v) w
 | (i,false)::r,a,w=>C w/\wpOp P ops Q i (nZ P ops C Q r) a w
def pp (f:Region.noSelect ops=true) (g:∀c a w d v,Q (.panic c) (a.put d v) w->Q (.panic c) a w):∀(ord:List (Nat×Bool)) (e:Array Bool) (a:Act) (w:World),
   nY md ops ord e=true->nZ P ops C Q ord a w->qm P md ops C Q ord.length e a w
 | [],e,a,w,b,h=>⟨h.1,by simpa [nY] using b,h.2⟩
 | (i,true)::r,e,a,w,b,h=>by
   simp only [nY,aae,dE] at b;obtain ⟨hC,o,v,l,m,h⟩:=h
   exact o2 l (Region.noSelect_spec f) (λc a w=>g c a w o.dst v) r.length e a w (Region.free_spec l b.1.2) (by simpa using b.1.1) m hC
     (pp f g r _ _ _ b.2 h)
 | (i,false)::r,e,a,w,b,h=>by
   simp only [nY,aaj,dE,aac] at b;refine ⟨h.1,λn=>(by rw [n] at b; cases b.1),λj k=>?_⟩;rw [b.1] at k;simp at k;subst k;exact wpOp_mono (λq s p=>pp f g r _ _ _ b.2 p) h.2
variable {bF:List Oper}
def PB {a:Act} {w:World}  (ord:List (Nat×Bool)) (e:P.follows .mixedOrders=true) (b:(Region.noSelect bF.toArray&&(ord.length==bF.toArray.size&&nY .any bF.toArray ord (Array.replicate bF.toArray.size false)))=true)
   (f:∀c a w d v,Q (.panic c) (a.put d v) w->Q (.panic c) a w) (h:nZ P bF.toArray C Q ord a w.drew):(Code.region Z bF.toArray true).wp P Q a w:=by
 simp only [dE,aac] at b;have:=A3 (md:=.any) _ _ _ _ (pp b.1 f ord _ a w.drew b.2.2 h);rw [b.2.1] at this;exact wp_region_any e this
variable {n:Nat} {ds:List Deferred} {l:List (Nat×Value)} {W:World->Prop}
def WD (P:Program) (ops:Array Oper) (C:World->Prop) (Q:Exit->Act->World->Prop) (n:Nat) (ds:List Deferred) (l:List (Nat×Value)) (W:World->Prop) (ord:List (Nat×Bool)):Prop:=
 ∀a w,Ag n ds l a->W w->nZ P ops C Q ord a w
def WC.Iz (C:World->Prop) (ord:List (Nat×Bool)) (b:P.follows .mixedOrders=true) (e:(Region.noSelect bF.toArray&&(ord.length==bF.toArray.size&&nY .any bF.toArray ord (Array.replicate bF.toArray.size false)))=true)
   (f:∀c a w d v,Q (.panic c) (a.put d v) w->Q (.panic c) a w) (g:∀w,W w->W w.drew) (h:WD P bF.toArray C Q n ds l W ord):WC P (.region Z bF.toArray true) Q n ds l W:=
 λa w i j=>PB ord b e f<|h a w.drew i<|g w j
variable {ht:List (Nat×Bool)} {j3:Op} {fY:String} {gF:Array Edge}
def Dq {g:Option (Nat×Bool)}  (hi:ops[Z]? = some ⟨some aw,j3,a0,fY,gF,g⟩) (d:aK ops l g) (e:Nat.blt aw n=true)
   (hC:∀w,W w->C w) (f:Yl P l C ⟨some aw,j3,a0,fY,gF,g⟩ a5) (h:WD P ops C Q n ds ((aw,a5)::l) W ht):WD P ops C Q n ds l W ((Z,true)::ht):=by
 intro a w b c;refine ⟨hC w c,_,a5,hi,.inl ⟨aK.wanted (o:=⟨some aw,j3,a0,fY,gF,g⟩) d b,λi j=>f a.eval i (λx u k=>b.eval k) j⟩,h _ _ (b.put e a5) c⟩
def D0 (hi:ops[Z]? = some ⟨some aw,j3,a0,fY,gF,none⟩) (hC:∀w,W w->C w) (a:Yl P l C ⟨some aw,j3,a0,fY,gF,none⟩ a5) (h:WD P ops C Q n ds ((aw,a5)::l) W ht) (b:Nat.blt aw n=true:=by rfl):WD P ops C Q n ds l W ((Z,true)::ht):=Dq hi (.inl rfl) b hC a h
def De (hi:ops[Z]? = some d_) (hC:∀w,W w->C w) (h:WL P ops (Exit.then (nZ P ops C Q ht) Q) n ds l W [d_]):WD P ops C Q n ds l W ((Z,false)::ht):=by
 intro a w f d;refine ⟨hC w d,?_⟩;have:=h a w f d;unfold wpList at this;unfold wpOp;simp only [hi]
 split
 · rename_i c
   rw [ZZ c] at this
   rcases this with this | ⟨g,a2,i,j⟩
   · left
     unfold Oper.wp at this ⊢;unfold Oper.upon at this ⊢
     split at this
     all_goals first
       | exact this
       | (refine this.mono λe k b=>?_
          cases e with
          | returned v=>exact b
          | panicked p=>exact b
          | outgrown=>obtain ⟨a3,m,o⟩:=b; exact ⟨a3,m,o⟩)
       | exact this.mono λv k b=>b
   · exact .inr ⟨g,a2,i,j⟩
 · rename_i c
   rw [ZX c] at this;exact this
def Ed (h:WD P ops C Q n ds l W ht):WE (Exit.then (nZ P ops C Q ht) Q) .normal n ds l W:=h
def WD.nil (hC:∀w,W w->C w) (h:WE Q .normal n ds l W):WD P ops C Q n ds l W []:=λa w c b=>⟨hC w b,h a w c b⟩
def Ws.drew (h:Ws bY dF dd e0 eD):Ws bY dF dd e0 eD.drew:=h.ext<|Ext.drew eD
def Ws.out (i:Nat) (h:Ws bY dF dd e0 eD):Ws bY dF (fk i dd) e0 eD:=by
 cases a:dd[i]? with
 | none=>
   have:fk i dd=dd:=by
     clear h
     induction dd generalizing i with
     | nil=>cases i<;>rfl
     | cons x r b=>
       cases i with
       | zero=>simp at a
       | succ i=>simp only [fk]; rw [b i (by simpa using a)]
   rw [this]; exact h
 | some x=>exact Ws.drop (L:=[x])<|h.perm<|nh i dd a
end
section
variable {P:Program} {ops:Array Oper} {Q:Exit->Act->World->Prop} {n:Nat} {ds:List Deferred} {l l':List (Nat×Value)} {W:World->Prop} {w0:World} {F:List Nat} {L:List aQ} {Vs:List View}
 {rest:List Oper} {d:Nat} {ty:TypeId} {pos:String} {af:Array Edge} {g:Option (Nat×Bool)}
def tn (z:Value) (k:Nat):List Value:=(List.range k).map λi=>((aZ z)[i % (aZ z).length]?).getD undef
def PC (z:Value) (k:Nat) (a:0<z.cells.size):((Array.range k).map (z.cells[· % z.cells.size]!):Array Value).toList=tn z k:=by
 simp only [Array.toList_map,Array.toList_range,tn];apply AF;intro i _;have b:i % z.cells.size<z.cells.size:=DT _ a
 have e:(aZ z).length=z.cells.size:=by rw [<-fG]; simp
 rw [e,<-fG];simp [b]
def WL.A4 {t e:TypeId} {len size p:Nat} {parts:List (Nat×Operand)}  {vs:List (Nat×Value)} {out:List Value} (q:aK ops l g) (r:Nat.blt d n=true) (a:hf P t e a5 size p)
   (hv:r5 l parts=some vs) (s:Nat.ble (len*size) 16777216=true) (j:q7 (λi=>some (i*size,size)) (bif Nat.beq (len*size) 0 then [] else tn a5 (len*size)) vs=some out)
   (h:∀b,WL P ops Q n ds ((d,.slice (some ⟨b,0,none⟩) len len)::l) (Ws w0 F (aq b (.cells out.toArray e (0,0))::L) Vs) rest) :
   WL P ops Q n ds l (Ws w0 F L Vs) (⟨some d,.buildSlice t len parts.toArray,ty,pos,af,g⟩::rest):=by
 obtain ⟨C,hi,u,v,D⟩:=a.info;have E:=qf s;refine WL.new (mk:=λb=>.slice (some ⟨b,0,none⟩) len len) q r (λy w z G=>?_) h
 have k:((parts.toArray.map λ (i,x)=>(i,y x)):Array (Nat×Value)).toList=vs:=by simpa using AZ z parts vs hv
 have A:zeroOf P e=some a5:=by simp [zeroOf,hi,u]
 have m:aJ P e=some size:=by simp [aJ,hi,v]
 have o:¬len*size > 2 ^ 24:=aa
 by_cases c:len*size=0
 · have f:Instr.fill (λi=>some (i*size,size)) #[] vs=some out.toArray:=by
     refine yq _ vs #[] out ?_
     simpa [c] using j
   simp only [execOp,Instr.buildSlice,Sem.run_bind,run_underlying a.under,Result.andThen_ok,AX m,ZX o,Sem.run_pure,ZZ c,k];simp [c,f,newRow,Array.range_zero']
 · have f:Instr.fill (λi=>some (i*size,size)) ((Array.range<|len*size).map (a5.cells[· % a5.cells.size]!)) vs=some out.toArray:=by
     refine yq _ vs _ out ?_;rw [PC a5 _ (by rw [a.zs]; exact a.pos)]
     have:Nat.beq (len*size) 0=false:=by
       cases B:Nat.beq (len*size) 0 with
       | false=>rfl
       | true=>exact absurd (j2 B) c
     simpa [this] using j
   simp only [execOp,Instr.buildSlice,Sem.run_bind,run_underlying a.under,Result.andThen_ok,AX m,ZX o,Sem.run_pure,ZX c,k,iq A,f];simp [newRow]
variable {dH:FuncId} {be:Operand} {jh:Array Value} {hg:Array Operand}
def IA {a:Operand->Value} {dst:Option Tmp}     {ts:Array TypeId}  {w:World} (c:Enters P dH) (b:∀x u,bK l x=some u->a x=u)
   (d:bK l be=some (.func (.func dH) #[] jh)) (f:ip l hg.toList=some dv) :
   (execOp a ⟨dst,.call ⟨.value be,hg,ts⟩,ty,pos,af,g⟩).run P w = .ok (.enter dH<|dv.toArray++jh) w:=by
 have e:hg.map a=dv.toArray:=by
   apply td
   simpa using A0 b _ _ f
 simp only [execOp,resolve,e,b be _ d,Deferred.ofValue,Sem.run_bind,Sem.run_pure,Result.andThen_ok,invoke]
 simpa using c _ w
variable {gx:Array TypeId}
def WL.PD {ι:Type}       (k:aK ops l g) (m:Nat.blt d n=true) (o:Enters P dH) (p:bK l be=some (.func (.func dH) #[] jh)) (q:ip l hg.toList=some dv)
   (v:ι->Value) (R:ι->World->Prop) (j:List PanicEntry->World->Prop)
   (hC:∀w,W w->Calls P dH (dv.toArray++jh) w λe c=>(∃i,e = .returned (v i)/\R i c)\/∃b,e = .panicked b/\j b c)
   (r:∀i,WL P ops Q n ds ((d,v i)::l) (R i) rest) (s:∀b,WE Q (.panic b) n ds l (j b)) :
   WL P ops Q n ds l W (⟨some d,.call ⟨.value be,hg,gx⟩,ty,pos,af,g⟩::rest):=by
 refine WL.step k λa w f t C y=>?_;have z:=IA (P:=P) (dst:=some d) (ts:=gx) (ty:=ty) (pos:=pos) (af:=af) (g:=g) (w:=w) o (λx u A=>f.eval A) p q;simp only [Oper.wp,z,Oper.upon_enter];refine (hC w t).mono λe c B=>?_
 rcases B with ⟨i,rfl,h⟩ | ⟨b,rfl,h⟩
 · exact y _ _<|r i _ _ (f.put m _) h
 · exact s b _ _ f h
def WL.A5 (i:aK ops l g) (j:Nat.blt d n=true) (k:Enters P dH) (m:bK l be=some (.func (.func dH) #[] jh)) (o:ip l hg.toList=some dv)
   (hC:∀w,Ws w0 F L Vs w->Calls P dH (dv.toArray++jh) w λe b=>e = .returned a5/\Ext w b)
   (p:WL P ops Q n ds ((d,a5)::l) (Ws w0 F L Vs) rest) :
   WL P ops Q n ds l (Ws w0 F L Vs) (⟨some d,.call ⟨.value be,hg,gx⟩,ty,pos,af,g⟩::rest):=by
 refine WL.step i λa w c f v q=>?_;have r:=IA (P:=P) (dst:=some d) (ts:=gx) (ty:=ty) (pos:=pos) (af:=af) (g:=g) (w:=w) k (λx u s=>c.eval s) m o;simp only [Oper.wp,r,Oper.upon_enter];refine (hC w f).mono λe b t=>?_;obtain ⟨rfl,h⟩:=t;exact q _ _<|p _ _ (c.put j _)<|f.ext h
variable {eZ:Func} {gg:Ending->World->Prop}
def WE.IB {a b o k:Nat}   (i:Nat) (g:eZ.results = #[.cell a a0]) (m:lk l a=some (.pointer<|some ⟨b,o,none⟩)) (hL:L[i]? = some (aq b eJ)) (p:hr P a0=some k) (q:(cellsIn eJ o k).length=k)
   (h:∀w,Ws w0 F L Vs w->gg (.returned<|.agg (cellsIn eJ o k).toArray) w):WE (bodyPost P eZ gg) .ret n [] l (Ws w0 F L Vs):=by
 intro t w d e
 have r:(loadVar a0 ⟨b,o,none⟩).run P w = .ok (.agg (cellsIn eJ o k).toArray) w:=AR p q λj v c=>by
   have s:w.heap[b]? = some eJ:=e.kn _ (aY hL);refine cell_of_heap s ?_
   cases eJ<;>simp [cellsIn,i_] at *
   rw [jq] at c
   split at c
   · simpa using c
   · cases c
 refine bodyPost_ret (v:=.agg (cellsIn eJ o k).toArray) ?_ d.defs<|h w e;have f:=d.h7 a _ m;rw [jD] at f;simp [results,g,f,asAddr,r]
def WE.tp {a b o k u:Nat}    (i:Nat) (m:eZ.results = #[.cell a a0,.tmp u]) (p:lk l a=some (.pointer<|some ⟨b,o,none⟩)) (q:lk l u=some a5) (hL:L[i]? = some (aq b eJ)) (r:hr P a0=some k) (s:(cellsIn eJ o k).length=k)
   (h:∀w,Ws w0 F L Vs w->gg (.returned<|.tuple #[.agg (cellsIn eJ o k).toArray,a5]) w):WE (bodyPost P eZ gg) .ret n [] l (Ws w0 F L Vs):=by
 intro y w d e
 have t:(loadVar a0 ⟨b,o,none⟩).run P w = .ok (.agg (cellsIn eJ o k).toArray) w:=AR r s λj v c=>by
   have x:w.heap[b]? = some eJ:=e.kn _ (aY hL);refine cell_of_heap x ?_
   cases eJ<;>simp [cellsIn,i_] at *
   rw [jq] at c
   split at c
   · simpa using c
   · cases c
 refine bodyPost_ret (v:=.tuple #[.agg (cellsIn eJ o k).toArray,a5]) ?_ d.defs<|h w e;have f:=d.h7 a _ p;have g:=d.h7 u _ q;rw [jD] at f g;simp [results,m,f,g,asAddr,t]
end
def Ws.IC (h:Ws bY [] dd e0 eD) (i:Nat)   (hL:dd[i]? = some (aq Z eJ))   (b:i_ eJ aw=some a5):vc (nv bY eD) Z aw=some a5:=by
 have c:eD.heap[Z]? = some eJ:=h.kn _ (aY hL);have a:=h.own _ (aY hL) Z (by simp [aq]);simp at a;unfold vc nv;rw [ZZ a,c];exact b
def Ws.PE (h:Ws bY [] dd e0 eD) (i:Nat)     (hL:dd[i]? = some (a6 a0 Z a5 aw dv)) :
   (a5 = .slice none 0 0/\dv=[])\/∃b c,a5 = .slice (some ⟨b,0,none⟩) aw c/\aw<=c/\c<=maxLen/\∀j u,dv[j]? = some u->vc (nv bY eD) b j=some u:=by
 obtain ⟨e,f⟩:=(h.kn _ (aY hL):eD.ownsRow 0 a0 Z a5 aw dv)
 rcases f with ⟨rfl,rfl⟩ | ⟨b,cap,n,rfl,_,g,k,l,o,m⟩
 · exact .inl ⟨O,by cases dv; rfl; simp at e⟩
 · refine .inr ⟨b,cap,O,k,l,λj u a=>?_⟩
   have d:=h.own _ (aY hL) b (by simp [a6,Value.ownBlock]);simp at d;unfold vc nv;rw [ZZ d,g];rw [<-m,jq] at a
   split at a
   · simpa [i_] using a
   · cases a
variable {lW:bB->List Value}
def tq (a:∀x,(lW x).length=Z):∀l:List bB,(l.flatMap lW).length=l.length*Z
 | []=>by simp
 | x::r=>by simp [a,tq a r,fz]; omega
def A6 (a:∀x,(lW x).length=Z):∀(l:List bB) (i:Nat) (x:bB),l[i]? = some x->
   l.flatMap lW=(l.take i).flatMap lW++lW x++(l.drop<|i+1).flatMap lW
 | [],i,x,h=>by simp at h
 | y::r,0,x,h=>by simp at h; simp [h]
 | y::r,i+1,x,h=>by
   have:=A6 a r i x (by simpa using h);simp only [mM,nb,List.drop_succ_cons];rw [this];simp
def px (a:∀x,(lW x).length=Z)   {x:bB} (h:b_[aw]? = some x) {j:Nat} (b:j<Z):(b_.flatMap lW)[aw*Z+j]? = (lW x)[j]?:=by
 have hi:=(cq.1 h).1
 have c:((b_.take aw).flatMap lW).length=aw*Z:=by rw [tq a,k',wo aa]
 rw [A6 a b_ aw x h,bV,nc aa,c,wq,oM (by rw [a]; exact b)]
def PF (a:∀x,(lW x).length=Z)   {x y:bB} (h:b_[aw]? = some x) {j:Nat} {vs:List Value} (n:j+vs.length<=Z) (d:lW y=(lW x).take j++vs++(lW x).drop (j+vs.length)) :
   (b_.flatMap lW).take (aw*Z+j)++vs++(b_.flatMap lW).drop (aw*Z+j+vs.length)=(b_.set aw y).flatMap lW:=by
 have hi:=(cq.1 h).1
 have c:((b_.take aw).flatMap lW).length=aw*Z:=by rw [tq a,k',wo aa]
 have e:(b_.set aw y)[aw]? = some y:=by simp [hi]
 rw [A6 a (b_.set aw y) aw y e,A6 a b_ aw x h,d];have f:(b_.set aw y).take aw=b_.take aw:=List.take_set_of_le (cQ aw);have g:(b_.set aw y).drop (aw+1)=b_.drop (aw+1):=List.drop_set_of_lt aa;rw [f,g]
 generalize o:(b_.take aw).flatMap lW=b at *
 generalize p:(b_.drop<|aw+1).flatMap lW=B at *
 have i:(b++lW x++B).take (aw*Z+j)=b++(lW x).take j:=by
   rw [bV,DU,c,lJ aa,wq,List.take_append_of_le_length (by rw [a]; omega)]
 have k:(b++lW x++B).drop (aw*Z+j+vs.length)=(lW x).drop (j+vs.length)++B:=by
   rw [bV,DV,c,HZ aa,DW,DV,a]
   have l:aw*Z+j+vs.length-aw*Z=j+vs.length:=aa
   rw [l]
   have m:j+vs.length-Z=0:=aa
   simp [m]
 rw [i,k];simp
section
variable {P:Program} {ops:Array Oper} {Q:Exit->Act->World->Prop} {n:Nat} {ds:List Deferred} {l l':List (Nat×Value)} {W:World->Prop} {w0:World} {F:List Nat} {L:List aQ} {Vs:List View}
 {rest:List Oper} {d:Nat} {ty:TypeId} {pos:String} {af:Array Edge} {g:Option (Nat×Bool)}
def WL.yv {b m cap:Nat} {a:Array Value} {e:TypeId} {size:Nat} (i:Nat) (hL:L[i]? = some (aq b<|.cells a e (0,0))) (c:m<=cap) (d:cap<=maxLen) (f:a.size=cap*size)
   (h:WL P ops Q n ds l (Ws w0 F (L.set i<|a6 e size (.slice (some ⟨b,0,none⟩) m cap) m<|a.toList.take<|m*size) Vs) rest):WL P ops Q n ds l (Ws w0 F L Vs) rest:=
 LW (λ_ g=>g.Iu i hL c d f) h
end
section
variable {P:Program} {l:List (Nat×Value)} {W:World->Prop} {d:Option Tmp} {ty:TypeId} {pos:String} {af:Array Edge} {g:Option (Nat×Bool)}
def pq {t u:TypeId} {x:Operand} {a:Option Addr} {m c s:Nat} (b:aat P t=some s) (i:bK l x=some (.slice a m c)):Yl P l W ⟨d,.binOp .eql t x (.const<|.slice none 0 0) u,ty,pos,af,g⟩ (.bool a.isNone):=by
 intro j w h _;unfold aat at b
 cases f:P.underlying t with
 | none=>simp [f] at b
 | some k=>
   cases k<;>simp [f] at b
   have n:j (.const<|.slice none 0 0) = .slice none 0 0:=h _ _ rfl;rename_i o
   have e:(binOp .eql t (.slice a m c)<|.slice none 0 0).run P w = .ok (.bool a.isNone) w:=by
     simp only [binOp];simp [Op.equal,Op.maxDepth,Lib.run_equalIn_slice_nil w 9999 t o a m c 0 0 f]
   simp only [execOp,h x _ i,n,eqGuard,Sem.run_bind];simp [e]
end
section
variable {P:Program} {ops:Array Oper} {Q:Exit->Act->World->Prop} {n:Nat} {ds:List Deferred} {l l':List (Nat×Value)} {W:World->Prop} {w0:World} {F:List Nat} {L:List aQ} {Vs:List View}
 {rest:List Oper} {d:Nat} {ty:TypeId} {pos:String} {af:Array Edge} {g:Option (Nat×Bool)}
variable {lN:aQ}
def Lf (i:Nat) (hL:L[i]? = some lN) (h:WL P ops Q n ds l (Ws w0 F (lN::fk i L) Vs) rest):WL P ops Q n ds l (Ws w0 F L Vs) rest:=
 LW (λ_ a=>a.perm<|nh i L hL) h
def WC.front {c:Code}  (i:Nat) (hL:L[i]? = some lN) (h:WC P c Q n ds l (Ws w0 F (lN::fk i L) Vs)):WC P c Q n ds l (Ws w0 F L Vs):=
 nf (λ_ a=>a.perm<|nh i L hL) h
def Ws.self {w:World} {c L2:List aQ} (h:Ws w0 F (c++L2) Vs w):Ws w (c.flatMap aQ.ids) c Vs w:=by
 have nd:=h.nd;rw [AD,lI] at nd;exact ⟨Fr.refl _ _,λa b=>h.kn a (by simp [b]),nd.1,λa b k d=>.inl<|ci.2 ⟨a,b,d⟩,h.vs,λe f a b=>h.off e f a (by simp [b])⟩
def Ws.back {w a:World} {b c L2:List aQ} {b7:List View} (h:Ws w0 F (b++L2) Vs w) (g:Ws w (b.flatMap aQ.ids) c b7 a):Ws w0 F (c++L2) Vs a:=
 Ws.wB h g.fr g.kn g.nd g.own
variable {dH:FuncId} {hg:Array Operand} {gx:Array TypeId}
def Lw {ι:Type}     (c L2:List aQ) (k:aK ops l g) (m:Nat.blt d n=true) (o:Enters P dH) (p:ip l hg.toList=some dv) (hL:L=c++L2)
   (v:ι->Value) (j:ι->List aQ) (R:ι->Prop) (b7:List View) (q:∀r ∈ b7,r ∈ Vs)
   (hC:∀w,Ws w (c.flatMap aQ.ids) c b7 w->Calls P dH dv.toArray w λe f=>∃i,e = .returned (v i)/\R i/\Ws w (c.flatMap aQ.ids) (j i) b7 f)
   (s:∀i,R i->WL P ops Q n ds ((d,v i)::l) (Ws w0 F (j i++L2) Vs) rest) :
   WL P ops Q n ds l (Ws w0 F L Vs) (⟨some d,.call ⟨.value<|.func dH,hg,gx⟩,ty,pos,af,g⟩::rest):=by
 subst hL;refine WL.call k m o p v (λi f=>R i/\Ws w0 F (j i++L2) Vs f) (λw b=>(hC w<|b.self.aB q).mono λe f ⟨i,t,u,h⟩=>⟨i,t,u,b.back h⟩) λi=>?_;intro a w x b;exact s i b.1 a w x b.2
def hs (a L2 b:List aQ) (f:aK ops l g) (h:Nat.blt d n=true) (i:Enters P dH) (j:ip l hg.toList=some dv) (hL:L=a++L2)
   (b7:List View) (k:∀m ∈ b7,m ∈ Vs)
   (hC:∀w,Ws w (a.flatMap aQ.ids) a b7 w->Calls P dH dv.toArray w λe c=>e = .returned (.tuple #[])/\Ws w (a.flatMap aQ.ids) b b7 c)
   (o:WL P ops Q n ds ((d,.tuple #[])::l) (Ws w0 F (b++L2) Vs) rest) :
   WL P ops Q n ds l (Ws w0 F L Vs) (⟨some d,.call ⟨.value<|.func dH,hg,gx⟩,ty,pos,af,g⟩::rest):=
 Lw (ι:=Unit) a L2 f h i j hL (λ_=>.tuple #[]) (λ_=>b) (λ_=>True) b7 k (λw p=>(hC w p).mono λe c ⟨q,r⟩=>⟨(),q,trivial,r⟩)<|λ_ _=>o
end
def hv (w:World):View:=λb=>w.heap[b]?
def jc (w:World):Le (hv w) w:=λ_ _ h=>h
def A7 (h:bY.heap[Z]? = some eJ) (a:i_ eJ aw=some a5):vc (hv bY) Z aw=some a5:=by simp [vc,hv,h,a]
def mf (h:Le an bY):bG an (hv bY):=λb o a=>h b o a
def Ws.jd (h:Ws bY dF dd e0 eD) (i:Nat)   (hL:dd[i]? = some (aq Z eJ))   (a:i_ eJ aw=some a5):vc (hv eD) Z aw=some a5:=
 A7 (h.kn _<|aY hL) a
section
variable {P:Program} {ops:Array Oper} {Q:Exit->Act->World->Prop} {n:Nat} {ds:List Deferred} {l l':List (Nat×Value)} {W:World->Prop} {w0:World} {F:List Nat} {L:List aQ} {Vs:List View} {rest:List Oper}
def dk {b:Nat} {a:Obj} (i:Nat) (d:Obj) (hL:L[i]? = some (aq b a)) (c:a=d) (h:WL P ops Q n ds l (Ws w0 F (L.set i<|aq b d) Vs) rest):WL P ops Q n ds l (Ws w0 F L Vs) rest:=by
 subst c
 have:L.set i (aq b a)=L:=by
   obtain ⟨hi,c⟩:=cq.1 hL;rw [<-c];exact yb hi
 rwa [this] at h
end
def yw (P:Program) (t:TypeId):Option Nat:=match P.underlying t with | some (.int _)=>some 0 | some .string=>some 1 | some .bool=>some 2 | _=>none
def jm (P:Program):Nat->List Field->Option (List Nat)
 | _,[]=>some []
 | i, f :: r => bif Nat.beq f.offset i && !(f.name == "_") then (match yw P f.type, jm P (i + 1) r with | some k, some ks => some (k :: ks) | _, _ => none) else none
def A8 (P:Program) (t:TypeId):Option (List Nat):=match P.underlying t with
 | some (.struct fs)=>bif P.stoodInHeld t||P.eqGuardType P.depth t then none else jm P 0 fs.toList
 | _=>none
def oP:List Nat->List Value->List Value->Option Bool
 | [],[],[]=>some true
 | 0::ks,.int k a::xs,.int c b::ys=>match oP ks xs ys with | some r=>if k=c then some ((a==b)&&r) else none | none=>none
 | 1::ks,.string a::xs,.string b::ys=>match oP ks xs ys with | some r=>some ((a.data.toList==b.data.toList)&&r) | none=>none
 | 2::ks,.bool a::xs,.bool b::ys=>match oP ks xs ys with | some r=>some ((a==b)&&r) | none=>none
 | _,_,_=>none
section
variable {P:Program}
def ID {k:Nat} (h:yw P a0=some k) (cs:Array Value) (off:Nat) (v:Value) (hv:cs[off]? = some v) (w:World):(part a0 cs off).run P w = .ok v w:=by
 have a:oN P a0=true:=by
   unfold yw at h;unfold oN
   cases b:P.underlying a0 with
   | none=>simp [b] at h
   | some d=>cases d<;>simp_all
 simp [part,AQ a,hv]
def IE (d:Nat):∀(fs:List Field) (i:Nat) (ks:List Nat) (xs ys:List Value) (pre h:List Value) (r:Bool) (w:World),jm P i fs=some ks->oP ks xs ys=some r->pre.length=i->h.length=i->
   (Op.eqFields (d+1) (pre++xs).toArray (h++ys).toArray fs).run P w = .ok r w
 | [],i,ks,xs,ys,pre,h,r,w,a,c,_,_=>by
   simp [jm] at a;subst a
   cases xs<;>cases ys<;>simp [oP] at c
   subst c;simp [Op.eqFields]
 | f::fs,i,ks,xs,ys,pre,h,r,w,a,c,hp,o=>by
   simp only [jm] at a
   cases hb : (Nat.beq f.offset i && !(f.name == "_")) with
   | false=>rw [hb] at a; cases a
   | true=>
     rw [hb] at a;simp only [aae] at a;simp only [dE] at hb;have p:=j2 hb.1
     have u : f.name ≠ "_" := by simpa using hb.2
     cases e:yw P f.type with
     | none=>simp [e] at a
     | some k=>
       cases m:jm P (i+1) fs with
       | none=>simp [e,m] at a
       | some n=>
         simp [e,m] at a;subst a
         cases xs with
         | nil=>cases ys<;>simp [oP] at c
         | cons x xs=>
           cases ys with
           | nil=>rcases k with _ | _ | _ | k<;>cases x<;>simp [oP] at c
           | cons y ys=>
             have v:((pre++x::xs).toArray)[f.offset]? = some x:=by simp [p,<-hp]
             have z:((h++y::ys).toArray)[f.offset]? = some y:=by simp [p,<-o]
             have key:∀b g,(Op.equalIn (d+1) f.type x y).run P w = .ok b w->oP n xs ys=some g->r=(b&&g)->(Op.eqFields (d+1) (pre++x::xs).toArray (h++y::ys).toArray<|f::fs).run P w = .ok r w:=by
               intro b g A B q;have s:=IE d fs (i+1) n xs ys (pre++[x]) (h++[y]) g w m B (by simp [hp]) (by simp [o]);simp only [bV,List.singleton_append] at s;simp only [Op.eqFields,u,ne_eq,not_false_eq_true,Z',Sem.run_bind,ID e _ _ _ v,ID e _ _ _ z,Result.andThen_ok,A];cases b
               · simp [q]
               · simp [q,s]
             unfold yw at e
             cases j:P.underlying f.type with
             | none=>simp [j] at e
             | some t=>
               cases l:oP n xs ys with
               | none=>cases t<;>simp [j] at e<;>subst e<;>cases x<;>cases y<;>simp [oP,l] at c
               | some g=>
                 cases t<;>simp [j] at e<;>subst e<;>cases x<;>cases y<;>simp [oP,l] at c
                 · exact key _ g (run_equalIn_bool' w d _ _ _ j) l c.symm
                 · obtain ⟨rfl,c⟩:=c
                   exact key _ g (run_equalIn_int w d _ _ _ _ _ j) l c.symm
                 · refine key _ g (run_equalIn_string w d _ _ _ j) l ?_
                   rw [ByteArray.toList_eq,ByteArray.toList_eq];rw [<-c]; simp
variable {l:List (Nat×Value)} {W:World->Prop} {d:Option Tmp} {ty:TypeId} {pos:String} {af:Array Edge} {g:Option (Nat×Bool)}
variable {b0:List Value}
def PG {r:Bool} (a:A8 P a0=some dF) (e:oP dF dv b0=some r) (w:World) :
   (Op.equalIn 10000 a0 (.agg dv.toArray)<|.agg b0.toArray).run P w = .ok r w/\P.eqGuardType P.depth a0=false:=by
 unfold A8 at a
 cases c:P.underlying a0 with
 | none=>simp [c] at a
 | some f=>
   cases f<;>simp [c] at a
   rename_i fs
   cases b:(P.stoodInHeld a0||P.eqGuardType P.depth a0) with
   | true=>rw [b] at a; cases a
   | false=>
     rw [b] at a;simp only [i9] at b
     have d:P.fieldsOf a0=fs:=by simp [Program.fieldsOf,c]
     refine ⟨?_,b.2⟩;rw [run_equalIn_struct w 9999 a0 _ _ (by rw [d]; exact c) b.1,d]
     simpa using IE 9998 fs.toList 0 dF dv b0 [] [] r w (by simpa using a) e rfl rfl
def PH {t u:TypeId} {x y:Operand}   {r:Bool} (b:A8 P t=some dF) (c:bK l x=some (.agg dv.toArray)) (e:bK l y=some (.agg b0.toArray)) (f:oP dF dv b0=some r) :
   Yl P l W ⟨d,.binOp .eql t x y u,ty,pos,af,g⟩ (.bool r):=by
 intro j w a _;obtain ⟨h,i⟩:=PG b f w;simp only [execOp,a x _ c,a y _ e,Sem.run_bind,run_eqGuard_agg w _ _ _ _ _ _ i,Result.andThen_ok,run_eql_struct w,h,Sem.run_pure]
end
section
variable {P:Program} {l:List (Nat×Value)} {W:World->Prop} {d:Option Tmp} {ty:TypeId} {pos:String} {af:Array Edge} {g:Option (Nat×Bool)}
variable {dX:TypeId} {be bX:Operand} {ew:IntKind} {aH bQ:Int}
def IF (b:bK l be=some (.int ew aH)) (c:bK l bX=some (.int ew bQ)) (e:bQ≠0):Yl P l W ⟨d,.binOp .quo a0 be bX dX,ty,pos,af,g⟩ (.int ew<|ew.wrap<|aH.tdiv bQ):=
 λf w a _=>by simp [execOp,a be _ b,a bX _ c,eqGuard,binOp,Op.intDiv,e]
def IG (b:bK l be=some (.int ew aH)) (c:bK l bX=some (.int ew bQ)) (e:bQ≠0):Yl P l W ⟨d,.binOp .rem a0 be bX dX,ty,pos,af,g⟩ (.int ew<|aH.tmod bQ):=
 λf w a _=>by simp [execOp,a be _ b,a bX _ c,eqGuard,binOp,Op.intDiv,e]
end
def Sl.flat {b o c:Nat}   (h:Sl n9 Z an (some ⟨b,o,none⟩) c b_) (a:∀x,(lW x).length=Z) (m:0<Z) (n:∀b o x,n9 an b o x->ar an b o (lW x)) :
   ∀j u,(b_.flatMap lW)[j]? = some u->vc an b (o+j)=some u:=by
 intro j u d;have f:=(cq.1 d).1;rw [tq a] at f;have hi:j / Z<b_.length:=Nat.div_lt_of_lt_mul (by rw [Nat.mul_comm]; exact f);have g:b_[j / Z]? = some b_[j / Z]:=c6 hi;have p:j % Z<Z:=DT _ m
 have e:j / Z*Z+j % Z=j:=by rw [Nat.mul_comm]; exact Nat.div_add_mod j Z
 have i:=px a g p;rw [e,d] at i;obtain ⟨r,s,k,q⟩:=h.b5 _ _ g;simp at k;obtain ⟨rfl,rfl⟩:=k;have l:=n _ _ _ q (j % Z) u i.symm;rw [rZ,e] at l;exact l
def r7:List Oper->Nat->Nat->List Nat
 | [],_,_=>[]
 | o::r,i,m=>bif !m.testBit i&&o.after.toList.all (λe=>!Region.binds .any e||m.testBit e.on) then i::r7 r (i+1) m else r7 r (i+1) m
def A9 (a:Oper) (ops:Array Oper) (i:Nat):List Oper->Nat->Nat->Bool
 | [],_,_=>true
 | o::r,j,m=>(j==i||m.testBit j||(o.after.toList.any (λe=>Region.binds .any e&&e.on==i)||a.apart ops o))&&A9 a ops i r (j+1) m
def IH (os:List Oper) (i m:Nat):Bool:=match os[i]? with | none=>false | some a=>A9 a os.toArray i os 0 m
def fL (os:List Oper):List (Nat×Bool)->Nat->Bool
 | [],m=>(r7 os 0 m).isEmpty
 | (i,q)::r,m=>(bif q then (r7 os 0 m).contains i&&IH os i m else r7 os 0 m==[i])&&fL os r (m||| 2 ^ i)
structure LM (n:Nat) (listed:Array Bool) (m:Nat):Prop where
 size:listed.size=n
 bit:∀j,listed.getD j false=m.testBit j
variable {pw:Array Bool} {cy:Nat}
def LM.t (h:LM Z pw aw)  (a:cy<Z):pw.getD cy true=aw.testBit cy:=by
 rw [<-h.bit cy]
 have:cy<pw.size:=by rw [h.size]; exact a
 simp [Array.getD,this]
def LM.set (h:LM Z pw aw) (hi:cy<Z):LM Z (pw.setIfInBounds cy true) (aw||| 2 ^ cy):=by
 refine ⟨by simp [h.size],λj=>?_⟩;rw [Nat.testBit_or,Nat.testBit_two_pow,<-h.bit j]
 have b:cy<pw.size:=by rw [h.size]; exact hi
 by_cases e:cy=j
 · subst e
   simp [Array.getD,b]
 · by_cases a:j<pw.size
   · simp [Array.getD,a,e]
   · simp [Array.getD,a,e]
def II (ops:Array Oper) {a:Array Bool} {m:Nat} (h:LM ops.size a m):∀(os:List Oper) (i:Nat),i+os.length=ops.size->(∀j o,os[j]? = some o->ops[i+j]? = some o)->
   r7 os i m=((List.range os.length).map (i + ·)).filter λk=>!a.getD k true&&((ops[k]?).map (·.after.all λe=>!Region.binds .any e||a.getD e.on false)).getD false
 | [],_,_,_=>by simp [r7]
 | o::r,i,b,c=>by
   have d:=c 0 o rfl;rw [tc] at d
   have f:=II ops h r (i+1) (by simp at b; omega) λj g l=>by rw [show i+1+j=i+(j+1) by omega]; exact c (j+1) g (by simpa using l)
   have e:(List.range (o::r).length).map (i + ·)=i::(List.range r.length).map (i+1 + ·):=by
     rw [gf,List.range_succ_eq_map,k_,DX]
     congr 1
     refine AF λk _=>?_
     show i+(k+1)=i+1+k
     omega
   have n:(!a.getD i true&&((ops[i]?).map (·.after.all λe=>!Region.binds .any e||a.getD e.on false)).getD false)=(!m.testBit i&&o.after.toList.all (λe=>!Region.binds .any e||m.testBit e.on)):=by
     rw [h.t (by simp at b; omega),d,dR,yc,<-Array.all_toList]
     congr 2
     funext e
     rw [h.bit]
   rw [e,List.filter_cons,n,r7,f]
   cases (!m.testBit i&&o.after.toList.all (λe=>!Region.binds .any e||m.testBit e.on))<;>simp
variable {bF:List Oper}
def IJ (h:LM bF.toArray.size pw Z):r7 bF 0 Z=Region.ready .any bF.toArray pw:=by
 rw [II bF.toArray h bF 0 ai λj o a=>by simpa using a];unfold Region.ready
 have:(List.range bF.length).map (0 + ·)=List.range bF.toArray.size:=ai
 rw [this]
def IK (ops:Array Oper)   {d:Oper} (h:LM ops.size pw Z):∀(os:List Oper) (k:Nat),k+os.length=ops.size->(∀j o,os[j]? = some o->ops[k+j]? = some o)->A9 d ops aw os k Z=true->
   ∀j,k<=j->j<ops.size->(j==aw||pw.getD j true||match ops[j]? with
     | some f=>f.after.any (λe=>Region.binds .any e&&e.on==aw)||d.apart ops f
     | none=>true)=true
 | [],k,a,_,_,j,l,b=>by simp at a; omega
 | o::r,k,a,g,c,j,l,b=>by
   rw [A9,dE] at c
   by_cases e:k=j
   · subst e
     have i:=g 0 o rfl;rw [tc] at i;rw [h.t b,i];have:=c.1
     simpa using this
   · exact IK ops h r (k+1) (by simp at a; omega) (λj m n=>by rw [show k+1+j=k+(j+1) by omega]; exact g (j+1) m (by simpa using n)) c.2 j aa b
def IL:∀(ord:List (Nat×Bool)) (b:Array Bool) (m:Nat),LM bF.toArray.size b m->fL bF ord m=true->nY .any bF.toArray ord b=true
 | [],b,m,h,c=>by
   rw [fL,IJ h] at c;exact c
 | (i,q)::r,b,m,h,c=>by
   rw [fL,dE,IJ h] at c;obtain ⟨a,g⟩:=c
   have hi:i<bF.toArray.size:=by
     have f:i ∈ Region.ready .any bF.toArray b:=by
       cases q with
       | true=>simp only [aae,dE] at a; simpa using a.1
       | false=>simp only [aaj,aac] at a; rw [a]; simp
     unfold Region.ready at f;exact uJ.1 (List.mem_filter.1 f).1
   rw [nY,dE];refine ⟨?_,IL r _ _ (h.set hi) g⟩
   cases q with
   | false=>exact a
   | true=>
     simp only [aae,dE] at a ⊢;refine ⟨a.1,?_⟩;have d:=a.2;unfold IH at d;have k:bF[i]? = some bF[i]:=c6 (by simpa using hi);rw [k] at d;unfold Region.free;rw [show bF.toArray[i]? = some bF[i] by simp];simp only [gN,uJ];exact λj e=>IK bF.toArray h bF 0 ai (λj o e=>by simpa using e) d j (di _) e
def PI (n:Nat):LM n (Array.replicate n false) 0:=⟨ai,λj=>by simp [Array.getD]⟩
def pM {ord:List (Nat×Bool)} (h:(Region.noSelect bF.toArray&&(ord.length==bF.toArray.size&&fL bF ord 0))=true):(Region.noSelect bF.toArray&&(ord.length==bF.toArray.size&&nY .any bF.toArray ord (Array.replicate bF.toArray.size false)))=true:=by
 simp only [dE] at h ⊢;exact ⟨h.1,h.2.1,IL ord _ 0 (PI _) h.2.2⟩
section
variable {P:Program} {Q:Exit->Act->World->Prop} {n:Nat} {ds:List Deferred} {l:List (Nat×Value)}
def WC.qn (ord:List (Nat×Bool)) (b:P.follows .mixedOrders=true) (e:(Region.noSelect bF.toArray&&(ord.length==bF.toArray.size&&fL bF ord 0))=true)
   (f:∀c a w d v,Q (.panic c) (a.put d v) w->Q (.panic c) a w) (h:WD P bF.toArray (Ws bY dF dd e0) Q n ds l (Ws bY dF dd e0) ord):WC P (.region Z bF.toArray true) Q n ds l (Ws bY dF dd e0):=
 WC.Iz _ ord b (pM e) f (λ_ h=>h.drew) h
def WC.n0 (i:Nat) (ord:List (Nat×Bool)) (b:P.follows .mixedOrders=true) (e:(Region.noSelect bF.toArray&&(ord.length==bF.toArray.size&&fL bF ord 0))=true)
   (f:∀c a w d v,Q (.panic c) (a.put d v) w->Q (.panic c) a w) (h:WD P bF.toArray (Ws bY dF (fk i dd) e0) Q n ds l (Ws bY dF dd e0) ord):WC P (.region Z bF.toArray true) Q n ds l (Ws bY dF dd e0):=
 WC.Iz _ ord b (pM e) f (λ_ h=>h.drew) h
end
section
variable {P:Program} {l:List (Nat×Value)} {W:World->Prop} {d:Option Tmp} {ty:TypeId} {pos:String} {af:Array Edge} {g:Option (Nat×Bool)}
def q_ {t u:TypeId} {x y:Operand} {a b:Nat} {c e:Int} (f:bK l x=some (.int .i64 c)) (h:bK l y=some (.int .i64 e)) (i:c=(a:Int)) (j:e=(b:Int)) (k:(a:Int)+b<=9223372036854775807):Yl P l W ⟨d,.binOp .add t x y u,ty,pos,af,g⟩ (.int .i64 ((a+b:Nat):Int)):=by
 subst i j;have:=ni (P:=P) (W:=W) (d:=d) (ty:=ty) (pos:=pos) (af:=af) (g:=g) (t:=t) (u:=u) f h ⟨aa,k⟩
 rwa [show ((a+b:Nat):Int)=(a:Int)+b by omega]
def wF {f:FuncId} {a:Array Operand} {vs:List Value} (b:ip l a.toList=some vs):Yl P l W ⟨d,.makeFunc (.func f) #[] a,ty,pos,af,g⟩ (.func (.func f) #[] vs.toArray):=by
 intro c w h _
 have e:a.map c=vs.toArray:=by
   apply td
   simpa using A0 h _ _ b
 simp [execOp,Instr.makeFunc,e]
end
section
variable {P:Program} {ops:Array Oper} {Q:Exit->Act->World->Prop} {n:Nat} {ds:List Deferred} {l:List (Nat×Value)} {w0:World} {F:List Nat} {L:List aQ} {Vs:List View} {rest:List Oper}
def WL.yz {e:TypeId} {size m:Nat} {v:Value} {xs:List Value} (i m':Nat) (a:List Value) (hL:L[i]? = some (a6 e size v m xs)) (b:m=m') (c:xs=a)
   (h:WL P ops Q n ds l (Ws w0 F (L.set i<|a6 e size v m' a) Vs) rest):WL P ops Q n ds l (Ws w0 F L Vs) rest:=by
 subst b c
 have:L.set i (a6 e size v m xs)=L:=by
   obtain ⟨hi,d⟩:=cq.1 hL;rw [<-d];exact yb hi
 rwa [this] at h
end
def Ws.dB {L L':List aQ}  (h:Ws bY dF (L++L') e0 eD):Ws bY dF L e0 eD:=Ws.drop<|h.perm List.perm_append_comm
def kA (l:List UInt8):(ByteArray.mk l.toArray).size=l.length:=by show l.toArray.size=_; simp
def PJ (h:Ws bY dF dd e0 eD) (i:Nat)  {c:Array Value}  {a:Nat×Nat} (hL:dd[i]? = some (aq Z<|.cells c a0 a)) {k:Nat}  (b:c.toList[k]? = some a5):eD.cell? ((⟨Z,0,none⟩:Addr).add k)=some a5:=by
 rw [qj];exact cell_of_heap (h.kn _<|aY hL) (by simpa [i_] using b)
def bv (b:Nat) (a:Obj):View:=λk=>if k=b then some a else none
def Ws.A_ (h:Ws bY dF dd e0 eD) (i:Nat)   (hL:dd[i]? = some (aq Z eJ)):Ws bY dF (fk i dd) (bv Z eJ::e0) eD:=by
 have f:=h.perm (nh i dd hL);have c:Ws bY dF (fk i dd) e0 eD:=Ws.drop (L:=[aq Z eJ]) f;have l:eD.heap[Z]? = some eJ:=h.kn _ (aY hL);have nd:=f.nd;rw [mM,lI] at nd;refine ⟨c.fr,c.kn,c.nd,c.own,?_,?_⟩
 · intro d b
   rcases ep.1 b with rfl | b
   · intro k o a
     unfold bv at a
     split at a
     · rename_i e; subst e; injection a with a; subst a; exact l
     · cases a
   · exact c.vs d b
 · intro d b g j k a
   rcases ep.1 b with rfl | b
   · unfold bv
     rw [ZX];intro e;subst e;exact nd.2.2 k (by simp [aq]) k (ci.2 ⟨g,j,a⟩) O
   · exact c.off d b g j k a
section
variable {P:Program} {ops:Array Oper} {Q:Exit->Act->World->Prop} {n:Nat} {ds:List Deferred} {l:List (Nat×Value)} {w0:World} {F:List Nat} {L:List aQ} {Vs:List View} {rest:List Oper}
def WL.A_ {b:Nat} {a:Obj} (i:Nat) (hL:L[i]? = some (aq b a)) (h:WL P ops Q n ds l (Ws w0 F (fk i L)<|bv b a::Vs) rest):WL P ops Q n ds l (Ws w0 F L Vs) rest:=
 LW (λ_ c=>c.A_ i hL) h
end
section
variable {P:Program} {l:List (Nat×Value)} {W:World->Prop} {d:Option Tmp} {ty:TypeId} {pos:String} {af:Array Edge} {g:Option (Nat×Bool)}
variable {dX:TypeId} {be bX:Operand} {aH bQ:Int}
def Ba (v:Int) (a:bK l be=some (.int .i64 aH)) (b:bK l bX=some (.int .i64 bQ)) (c:aH+bQ=v) (e : -9223372036854775808<=v/\v<=9223372036854775807):Yl P l W ⟨d,.binOp .add a0 be bX dX,ty,pos,af,g⟩ (.int .i64 v):=by
 subst c; exact ni a b e
def py (v:Int) (a:bK l be=some (.int .i64 aH)) (b:bK l bX=some (.int .i64 bQ)) (c:aH-bQ=v) (e : -9223372036854775808<=v/\v<=9223372036854775807):Yl P l W ⟨d,.binOp .sub a0 be bX dX,ty,pos,af,g⟩ (.int .i64 v):=by
 subst c; exact El a b e
end
def Bb (size:Nat):Nat->List (Nat×Value)->Bool
 | _,[]=>true
 | k,(i,v)::r=>Nat.beq i k&&Nat.beq (aZ v).length size&&Bb size (k+1) r
def wG:List (Nat×Value)->List Value
 | []=>[]
 | (_,v)::r=>aZ v++wG r
def IM (size:Nat):∀(vs:List (Nat×Value)) (k:Nat) (done rest:List Value),Bb size k vs=true->done.length=k*size->rest.length=vs.length*size->
   q7 (λi=>some (i*size,size)) (done++rest) vs=some (done++wG vs)
 | [],k,done,rest,_,_,a=>by
   have:rest=[]:=uK (by simpa using a);simp [q7,wG,this]
 | (i,v)::r,k,done,rest,e,c,a=>by
   simp only [Bb,dE] at e;obtain ⟨⟨d,b⟩,f⟩:=e;have d:=j2 d;subst d;have b:=j2 b
   have l:size<=rest.length:=by rw [a,gf,fz]; omega
   have g:(Nat.beq (aZ v).length size&&Nat.ble (i*size+size) (done++rest).length)=true:=by
     rw [b,DQ,ef];exact H0 (by simp; omega)
   simp only [q7,g,aae]
   have h:(done++rest).take (i*size)=done:=by rw [<-c]; simp
   have j:(done++rest).drop (i*size+size)=rest.drop size:=by
     rw [DV,c,HZ aa];simp
   rw [h,j];have:=IM size r (i+1) (done++aZ v) (rest.drop size) f (by simp [c,b,fz]) (by simp [a,fz]);rw [this];simp [wG]
def PK (z:Value) (k:Nat):(tn z k).length=k:=by simp [tn]
section
variable {P:Program} {ops:Array Oper} {Q:Exit->Act->World->Prop} {n:Nat} {ds:List Deferred} {l:List (Nat×Value)} {w0:World} {F:List Nat} {L:List aQ} {Vs:List View} {rest:List Oper} {d:Nat} {ty:TypeId} {pos:String} {af:Array Edge} {g:Option (Nat×Bool)}
def Lb {t e:TypeId} {len size a:Nat} {parts:List (Nat×Operand)} {z:Value} {vs:List (Nat×Value)} (c:aK ops l g) (f:Nat.blt d n=true) (i:hf P t e z size a)
   (hv:r5 l parts=some vs) (j:Nat.ble (len*size) 16777216=true) (k:Bb size 0 vs=true) (m:vs.length=len)
   (h:∀b,WL P ops Q n ds ((d,.slice (some ⟨b,0,none⟩) len len)::l) (Ws w0 F (aq b (.cells (wG vs).toArray e (0,0))::L) Vs) rest) :
   WL P ops Q n ds l (Ws w0 F L Vs) (⟨some d,.buildSlice t len parts.toArray,ty,pos,af,g⟩::rest):=by
 refine WL.A4 c f i hv j (out:=wG vs) ?_ h
 have o:(bif Nat.beq (len*size) 0 then [] else tn z (len*size))=tn z (len*size):=by
   cases p:Nat.beq (len*size) 0 with
   | false=>rfl
   | true=>have:=j2 p; rw [this]; rfl
 rw [o];have:=IM size vs 0 [] (tn z<|len*size) k ai (by rw [PK,m])
 simpa using this
end
inductive Ord where
 | nil
 | stop
 | q (i:Nat) (r:Ord)
 | e (i:Nat) (r alt:Ord)
def Ord.alts:Ord->List Nat
 | .e i _ a=>i::a.alts
 | _=>[]
def kN (md:Region.Mode) (ops:Array Oper):Bool->Ord->Nat->Array Bool->Bool
 | top,.nil,k,listed=>top&&(Nat.beq k 0&&(Region.ready md ops listed).isEmpty)
 | top,.stop,_,_=>!top
 | top,.q i r,k,listed=>match k with
   | 0=>false
   | k+1=>top&&((Region.ready md ops listed).contains i&&Region.free md ops listed i&&kN md ops true r k (listed.setIfInBounds i true))
 | top,.e i r alt,k,listed=>match k with
   | 0=>false
   | k+1=>(bif top then Region.ready md ops listed==i::alt.alts else true)&&(kN md ops true r k (listed.setIfInBounds i true)&&kN md ops false alt (k+1) listed)
section
variable {P:Program} {md:Region.Mode} {ops:Array Oper} {C:World->Prop} {Q:Exit->Act->World->Prop}
def ra (P:Program) (ops:Array Oper) (C:World->Prop) (Q:Exit->Act->World->Prop):Ord->Act->World->Prop
 | .nil,a,w=>C w/\Q .normal a w
 | .stop,_,_=>True
 | .q i r,a,w=>C w/\∃o v,ops[i]? = some o/\YV P ops C o v a/\ra P ops C Q r (a.put o.dst v) w
 | .e i r alt,a,w=>C w/\(wpOp P ops Q i (ra P ops C Q r) a w/\ra P ops C Q alt a w)
def Bc (l:Region.noSelect ops=true) (m:∀c a w d v,Q (.panic c) (a.put d v) w->Q (.panic c) a w):∀(o:Ord) (k:Nat) (f:Array Bool) (a:Act) (w:World),
   (kN md ops true o k f=true->ra P ops C Q o a w->qm P md ops C Q k f a w)/\
   (kN md ops false o k f=true->ra P ops C Q o a w->∀j ∈ o.alts,∃n,k=n+1/\wpOp P ops Q j (qm P md ops C Q n<|f.setIfInBounds j true) a w)
 | .nil,k,f,a,w=>by
   refine ⟨λb h=>?_,λb=>by simp [kN] at b⟩;simp only [kN,ef,dE] at b;obtain rfl:=j2 b.1;exact ⟨h.1,by simpa using b.2,h.2⟩
 | .stop,k,f,a,w=>⟨λb=>by simp [kN] at b,λ_ _ j g=>by simp [Ord.alts] at g⟩
 | .q i r,k,f,a,w=>by
   cases k with
   | zero=>exact ⟨λb=>by simp [kN] at b,λb=>by simp [kN] at b⟩
   | succ k=>
     refine ⟨λb h=>?_,λb=>by simp [kN] at b⟩;simp only [kN,ef,dE] at b;obtain ⟨hC,o,v,s,u,h⟩:=h
     exact o2 s (Region.noSelect_spec l) (λc a w=>m c a w o.dst v) k f a w (Region.free_spec s b.1.2) (by simpa using b.1.1) u hC
       ((Bc l m r k _ _ _).1 b.2 h)
 | .e i r alt,k,f,a,w=>by
   cases k with
   | zero=>exact ⟨λb=>by simp [kN] at b,λb=>by simp [kN] at b⟩
   | succ k=>
     have t:kN md ops true r k (f.setIfInBounds i true)=true->kN md ops false alt (k+1) f=true->ra P ops C Q (.e i r alt) a w->
         ∀j ∈ i::alt.alts,wpOp P ops Q j (qm P md ops C Q k<|f.setIfInBounds j true) a w:=by
       intro x y h j g
       rcases ep.1 g with rfl | g
       · exact wpOp_mono (λz A B=>(Bc l m r k _ z A).1 x B) h.2.1
       · obtain ⟨n,p,D⟩:=(Bc l m alt (k+1) f a w).2 y h.2.2 j g
         injection p with p
         subst p;exact D
     refine ⟨λb h=>?_,λb h j g=>?_⟩
     · simp only [kN,aae,dE,aac] at b
       refine ⟨h.1,λE=>(by rw [E] at b; cases b.1),λj g=>?_⟩;rw [b.1] at g;exact t b.2.1 b.2.2 h j g
     · simp only [kN,aaj,ef,dE] at b
       exact ⟨k,O,t b.1 b.2 h j g⟩
def PL {a:Act} {w:World}  (ord:Ord) (e:P.follows .mixedOrders=true) (b:(Region.noSelect bF.toArray&&kN .any bF.toArray true ord bF.toArray.size (Array.replicate bF.toArray.size false))=true)
   (f:∀c a w d v,Q (.panic c) (a.put d v) w->Q (.panic c) a w) (h:ra P bF.toArray C Q ord a w.drew):(Code.region Z bF.toArray true).wp P Q a w:=by
 simp only [dE] at b;have:=A3 (md:=.any) _ _ _ _ ((Bc b.1 f ord _ _ a w.drew).1 b.2 h);exact wp_region_any e this
variable {n:Nat} {ds:List Deferred} {l:List (Nat×Value)} {W:World->Prop}
def WT (P:Program) (ops:Array Oper) (C:World->Prop) (Q:Exit->Act->World->Prop) (n:Nat) (ds:List Deferred) (l:List (Nat×Value)) (W:World->Prop) (ord:Ord):Prop:=
 ∀a w,Ag n ds l a->W w->ra P ops C Q ord a w
variable {Bg:Ord}
def WT.q {i d:Nat} {op:Op} {ty:TypeId} {pos:String} {af:Array Edge} {g:Option (Nat×Bool)} {v:Value} (hi:ops[i]? = some ⟨some d,op,ty,pos,af,g⟩) (e:aK ops l g) (f:Nat.blt d n=true)
   (hC:∀w,W w->C w) (j:Yl P l C ⟨some d,op,ty,pos,af,g⟩ v) (h:WT P ops C Q n ds ((d,v)::l) W Bg):WT P ops C Q n ds l W (.q i Bg):=by
 intro a w b c;refine ⟨hC w c,_,v,hi,.inl ⟨aK.wanted (o:=⟨some d,op,ty,pos,af,g⟩) e b,λk m=>j a.eval k (λx u p=>b.eval p) m⟩,h _ _ (b.put f v) c⟩
def WT.e {r g:Ord}  {o:Oper} (hi:ops[Z]? = some o) (hC:∀w,W w->C w) (h:WL P ops (Exit.then (ra P ops C Q r) Q) n ds l W [o]) (c:WT P ops C Q n ds l W g):WT P ops C Q n ds l W (.e Z r g):=by
 intro a w i d;refine ⟨hC w d,?_,c a w i d⟩;have:=h a w i d;unfold wpList at this;unfold wpOp;simp only [hi]
 split
 · rename_i f
   rw [ZZ f] at this
   rcases this with this | ⟨j,a2,k,c⟩
   · left
     unfold Oper.wp at this ⊢;unfold Oper.upon at this ⊢
     split at this
     all_goals first
       | exact this
       | (refine this.mono λe m b=>?_
          cases e with
          | returned v=>exact b
          | panicked s=>exact b
          | outgrown=>obtain ⟨a3,p,q⟩:=b; exact ⟨a3,p,q⟩)
       | exact this.mono λv m b=>b
   · exact .inr ⟨j,a2,k,c⟩
 · rename_i f
   rw [ZX f] at this;exact this
def WT.stop:WT P ops C Q n ds l W .stop:=λ_ _ _ _=>trivial
def bD (h:WT P ops C Q n ds l W Bg):WE (Exit.then (ra P ops C Q Bg) Q) .normal n ds l W:=h
def WT.nil (hC:∀w,W w->C w) (h:WE Q .normal n ds l W):WT P ops C Q n ds l W .nil:=λa w c b=>⟨hC w b,h a w c b⟩
def WC.PM {b:World} {e:List Nat} {L:List aQ} {Vs:List View} (ord:Ord) (f:P.follows .mixedOrders=true) (g:(Region.noSelect bF.toArray&&kN .any bF.toArray true ord bF.toArray.size (Array.replicate bF.toArray.size false))=true)
   (i:∀c a w d v,Q (.panic c) (a.put d v) w->Q (.panic c) a w) (h:WT P bF.toArray (Ws b e L Vs) Q n ds l (Ws b e L Vs) ord):WC P (.region Z bF.toArray true) Q n ds l (Ws b e L Vs):=
 λa w j k=>PL ord f g i<|h a w.drew j k.drew
end
abbrev pz:=List UInt8×Value×Nat
def nj (e:pz):MapEntry:={ key:=st e.1,val:=e.2.1,born:=e.2.2 }
def pA (m:List pz) (c:Nat):Obj:=.map (m.map nj).toArray c
def oQ (k:List UInt8):List pz->Nat->Option (Nat×Value)
 | [],_=>none
 | e::r,i=>if (k==e.1)=true then some (i,e.2.1) else oQ k r (i+1)
def wH (k:List UInt8) (v:Value) (m:List pz) (c:Nat):List pz:=match oQ k m 0 with
 | some (i,_)=>m.modify i λe=>(k,v,e.2.2)
 | none=>m++[(k,v,c)]
def wI (k:List UInt8) (m:List pz) (c:Nat):Nat:=match oQ k m 0 with | some _=>c | none=>c+1
def yA (k:List UInt8) (m:List pz) (z:Value):Value:=match oQ k m 0 with | some (_,v)=>v | none=>z
def pN (a b:List UInt8):(ByteArray.mk a.toArray==ByteArray.mk b.toArray)=(a==b):=by
 show (a.toArray==b.toArray)=_
 simp
def PN (m:List pz) (j:Nat) (k:List UInt8) (v:Value):(m.map nj).modify j (λe=>{ e with key:=st k,val:=v })=(m.modify j λe=>(k,v,e.2.2)).map nj:=by
 apply r0;intro i;simp only [eX,e4]
 cases m[i]? with
 | none=>simp
 | some e=>by_cases h:j=i<;>simp [h,nj]
def Ew (k:List UInt8):∀(m:List pz) (i:Nat),Instr.findNow .string (st k) (m.map nj) i=some (oQ k m i)
 | [],_=>rfl
 | e::r,i=>by
   simp only [k_,Instr.findNow,nj,st,Instr.sameNow,pN,oQ];cases h:(k==e.1)
   · simp only [dV,Z9]
     exact Ew k r<|i+1
   · simp
section
variable {P:Program} {ops:Array Oper} {Q:Exit->Act->World->Prop} {n:Nat} {ds:List Deferred} {l:List (Nat×Value)} {w0:World} {F:List Nat} {L:List aQ} {Vs:List View} {rest:List Oper} {d:Nat} {ty:TypeId} {pos:String} {af:Array Edge} {g:Option (Nat×Bool)}
def WL.PO (a:aK ops l g) (c:Nat.blt d n=true)
   (h:∀b,WL P ops Q n ds ((d,.map (some b))::l) (Ws w0 F (aq b (pA [] 0)::L) Vs) rest) :
   WL P ops Q n ds l (Ws w0 F L Vs) (⟨some d,.makeMap a0 none,ty,pos,af,g⟩::rest):=
 WL.new (mk:=λb=>.map<|some b) (o:=pA [] 0) a c (λe w _ _=>by
   simp only [execOp]
   simp [Instr.makeMap,pA]) h
variable {Bd:Option Tmp} {dX hT:TypeId} {rb:List pz} {aU:List UInt8}
def PP {x y:Operand}     (i:Nat) (c:P.underlying a0=some (.map dX hT)) (a:P.underlying dX=some .string) (d:zeroOf P hT=some a5) (e:bK l x=some (.map<|some Z)) (f:bK l y=some (st aU)) (hL:L[i]? = some (aq Z<|pA rb aw)) :
   Yl P l (Ws w0 F L Vs) ⟨Bd,.lookup a0 x y false,ty,pos,af,g⟩ (yA aU rb a5):=by
 intro p w b h;have j:w.heap[Z]? = some (.map (rb.map nj).toArray aw):=h.kn _ (aY hL);have m:=Ew aU rb 0;have n:(Instr.checkKey (rb.map nj).toArray.isEmpty 10000 dX<|st aU).run P w = .ok () w:=MapKept.run_checkKey (k:=st aU) a (by simp [MapKept.IsKey,st]) _ 9999
 have o:(Instr.lookup a0 (.map<|some Z) (st aU) false).run P w = .ok (yA aU rb a5) w:=by
   simp only [Instr.lookup,Sem.run_bind,run_underlying c,Result.andThen_ok,MapKept.run_getObj_map j,Sem.run_pure,n];rw [MapKept.run_findKey a (by simpa using m)];unfold yA
   cases q:oQ aU rb 0 with
   | none=>simp [Result.andThen_ok,iq d]
   | some r=>obtain ⟨i,v⟩:=r; simp [Result.andThen_ok]
 simp [execOp,b x _ e,b y _ f,o]
def pR {x:Operand}   (i:Nat) (a:P.underlying a0=some (.map dX hT)) (b:bK l x=some (.map<|some Z)) (hL:L[i]? = some (aq Z<|pA rb aw)) :
   Yl P l (Ws w0 F L Vs) ⟨Bd,.call ⟨.builtin .len,#[x],#[a0]⟩,ty,pos,af,g⟩ (.int .i64 (rb.length:Int)):=by
 intro f w c d;have e:w.heap[Z]? = some (.map (rb.map nj).toArray aw):=d.kn _ (aY hL);simp [execOp,resolve,invoke,builtin,c x _ b,Builtin.len_,run_underlying a,MapKept.run_getObj_map e,goInt]
def WL.PQ {t o e:TypeId} {x y u:Operand}  {m:List pz}   (i:Nat) (A:aK ops l g) (B:P.underlying t=some (.map o e)) (c:P.underlying o=some .string) (C:bK l x=some (.map<|some Z)) (D:bK l y=some (st aU)) (E:bK l u=some a5) (hL:L[i]? = some (aq Z<|pA m aw))
   (h:WL P ops Q n ds l (Ws w0 F (L.set i<|aq Z<|pA (wH aU a5 m aw)<|wI aU m aw) Vs) rest) :
   WL P ops Q n ds l (Ws w0 F L Vs) (⟨none,.mapUpdate t x y u,ty,pos,af,g⟩::rest):=by
 refine WL.step A λa w d s W G=>?_;have f:w.heap[Z]? = some (.map (m.map nj).toArray aw):=s.kn _ (aY hL);have H:=Ew aU m 0;have I:(Instr.checkKey false 10000 o<|st aU).run P w = .ok () w:=MapKept.run_checkKey (k:=st aU) c (by simp [MapKept.IsKey,st]) _ 9999
 have J:(Instr.mapUpdate t (.map<|some Z) (st aU) a5).run P w = .ok () { w with heap:=w.heap.setIfInBounds Z (pA (wH aU a5 m aw)<|wI aU m aw) }:=by
   simp only [Instr.mapUpdate,Sem.run_bind,run_underlying B,Result.andThen_ok,MapKept.run_getObj_map f,Sem.run_pure,I];rw [MapKept.run_findKey c (by simpa using H)];unfold wH wI
   cases K:oQ aU m 0 with
   | none=>simp [Result.andThen_ok,MapKept.run_setObj_map _ f,pA,nj,st]
   | some r=>
     obtain ⟨j,M⟩:=r
     have p:m[j]?.map (·.1)=some aU:=by
       have key:∀(m:List pz) (b:Nat),oQ aU m b=some (j,M)->b<=j/\(m[j-b]?).map (·.1)=some aU:=by
         intro m
         induction m with
         | nil=>intro b h; simp [oQ] at h
         | cons e r N=>
           intro b h;simp only [oQ] at h
           split at h
           · rename_i c
             injection h with h; injection h with v z
             subst v;simp at c;simp [c]
           · obtain ⟨v,z⟩:=N (b+1) h
             refine ⟨aa,?_⟩
             have:j-b=(j-(b+1))+1:=aa
             rw [this]; simpa using z
       simpa using (key m 0 K).2
     have R:((((m.map nj).toArray)[j]?).map (·.key)).getD (st aU)=st aU:=by
       cases q:m[j]? with
       | none=>simp [q]
       | some e=>rw [q] at p; simp at p; simp [q,nj,p]
     simp only [R,Result.andThen_ok]
     have S:(Instr.keyThatStays (st aU)<|st aU).run P w = .ok (st aU) w:=by
       simp [Instr.keyThatStays,Instr.sameBits,st,pN]
     simp only [Sem.run_bind,S,Result.andThen_ok,MapKept.run_setObj_map _ f,pA]
     have T:(m.map nj).toArray.modify j (λe=>{ e with key:=st aU,val:=a5 })=((m.modify j λe=>(aU,a5,e.2.2)).map nj).toArray:=by
       apply td;rw [H1];exact PN m j aU a5
     rw [T]
 have U:(execOp a.eval ⟨none,.mapUpdate t x y u,ty,pos,af,g⟩).run P w = .ok .skip { w with heap:=w.heap.setIfInBounds Z (pA (wH aU a5 m aw)<|wI aU m aw) }:=by
   simp only [execOp,d.eval C,d.eval D,d.eval E,Sem.run_bind,J,Result.andThen_ok,Sem.run_pure]
 simp only [Oper.wp,U,Oper.upon_skip];refine G _ _<|h _ _ (d.yl undef) ?_;refine Ws.fC s i hL ⟨O,O,O,ai,λj X V=>?_⟩ ?_ (by simp [aq]) (by simp [aq])
 · have:Z≠j:=λe=>V (by simp [aq,e])
   simp [tb this]
 · show (w.heap.setIfInBounds Z _)[Z]? = _
   simp [lt_of_heap f]
def WL.IN {e:TypeId} {size m:Nat} {v:Value} {xs:List Value} (i:Nat) (hL:L[i]? = some (a6 e size v m xs))
   (h:∀a k,v = .slice a m k->WL P ops Q n ds l (Ws w0 F L Vs) rest):WL P ops Q n ds l (Ws w0 F L Vs) rest:=by
 intro a w d c;obtain ⟨o,f⟩:=(c.kn _ (aY hL):w.ownsRow 0 e size v m xs)
 rcases f with ⟨g,j⟩ | ⟨b,cap,p,hv,_⟩
 · exact h none 0 (by rw [g,j]) a w d c
 · exact h _ _ hv a w d c
end
section
variable {P:Program} {ops:Array Oper} {Q:Exit->Act->World->Prop} {n:Nat} {ds:List Deferred} {l:List (Nat×Value)} {W:World->Prop} {w0:World} {F:List Nat} {L:List aQ} {Vs:List View}
 {rest:List Oper} {d:Nat} {ty:TypeId} {pos:String} {af:Array Edge} {g:Option (Nat×Bool)}
variable {dH:FuncId} {hg:Array Operand} {gx:Array TypeId}
def c' {ι κ:Type}     (k L2:List aQ) (t:aK ops l g) (u:Nat.blt d n=true) (x:Enters P dH) (y:ip l hg.toList=some dv) (hL:L=k++L2)
   (v:ι->Value) (o:ι->List aQ) (R:ι->Prop) (p:κ->List PanicEntry) (Lp:κ->List aQ) (q:κ->Prop) (b7:List View) (z:∀A ∈ b7,A ∈ Vs)
   (hC:∀w,Ws w (k.flatMap aQ.ids) k b7 w->Calls P dH dv.toArray w λe f=>(∃i,e = .returned (v i)/\R i/\Ws w (k.flatMap aQ.ids) (o i) b7 f)\/(∃j,e = .panicked (p j)/\q j/\Ws w (k.flatMap aQ.ids) (Lp j) b7 f))
   (B:∀j,q j->WE Q (.panic<|p j) n ds l (Ws w0 F (Lp j++L2) Vs))
   (C:∀i,R i->WL P ops Q n ds ((d,v i)::l) (Ws w0 F (o i++L2) Vs) rest) :
   WL P ops Q n ds l (Ws w0 F L Vs) (⟨some d,.call ⟨.value<|.func dH,hg,gx⟩,ty,pos,af,g⟩::rest):=by
 subst hL;refine WL.yr t u x y v (λi f=>R i/\Ws w0 F (o i++L2) Vs f) (λc f=>∃j,c=p j/\q j/\Ws w0 F (Lp j++L2) Vs f) (λw b=>(hC w<|b.self.aB z).mono λe f h=>?_) (λi=>?_)<|λc=>?_
 · rcases h with ⟨i,r,m,h⟩ | ⟨j,r,m,h⟩
   · exact .inl ⟨i,r,m,b.back h⟩
   · exact .inr ⟨_,r,j,O,m,b.back h⟩
 · intro a w s b
   exact C i b.1 a w s b.2
 · rintro a w s ⟨j,rfl,m,b⟩
   exact B j m a w s b
variable {be:Operand}
def WL.PR {ι κ:Type}   {t:Array Value}    (k L2:List aQ) (u:aK ops l g) (x:Nat.blt d n=true) (y:Enters P dH) (z:bK l be=some (.func (.func dH) #[] t)) (A:ip l hg.toList=some dv) (hL:L=k++L2)
   (v:ι->Value) (o:ι->List aQ) (R:ι->Prop) (p:κ->List PanicEntry) (Lp:κ->List aQ) (q:κ->Prop) (b7:List View) (B:∀C ∈ b7,C ∈ Vs)
   (hC:∀w,Ws w (k.flatMap aQ.ids) k b7 w->Calls P dH (dv.toArray++t) w λe f=>(∃i,e = .returned (v i)/\R i/\Ws w (k.flatMap aQ.ids) (o i) b7 f)\/(∃j,e = .panicked (p j)/\q j/\Ws w (k.flatMap aQ.ids) (Lp j) b7 f))
   (D:∀j,q j->WE Q (.panic<|p j) n ds l (Ws w0 F (Lp j++L2) Vs))
   (E:∀i,R i->WL P ops Q n ds ((d,v i)::l) (Ws w0 F (o i++L2) Vs) rest) :
   WL P ops Q n ds l (Ws w0 F L Vs) (⟨some d,.call ⟨.value be,hg,gx⟩,ty,pos,af,g⟩::rest):=by
 subst hL;refine WL.PD u x y z A v (λi f=>R i/\Ws w0 F (o i++L2) Vs f) (λc f=>∃j,c=p j/\q j/\Ws w0 F (Lp j++L2) Vs f) (λw b=>(hC w<|b.self.aB B).mono λe f h=>?_) (λi=>?_)<|λc=>?_
 · rcases h with ⟨i,r,m,h⟩ | ⟨j,r,m,h⟩
   · exact .inl ⟨i,r,m,b.back h⟩
   · exact .inr ⟨_,r,j,O,m,b.back h⟩
 · intro a w s b
   exact E i b.1 a w s b.2
 · rintro a w s ⟨j,rfl,m,b⟩
   exact D j m a w s b
variable {ja:World->Prop} {Bd:Option Tmp}
def pB (a:P.concrete a0=true) (b:bK l be=some a5):Yl P l ja ⟨Bd,.makeInterface a0 be,ty,pos,af,g⟩ (.iface a0 a5):=
 λd w c _=>by
   have e:(Instr.makeInterface a0 a5).run P w = .ok (.iface a0 a5) w:=run_makeInterface (h:=a) ..;simp [execOp,c be a5 b,e]
def WL.panic (c:aK ops l g) (d:bK l be=some (.iface a0 a5)) (h:WE Q (.panic [⟨.iface a0 a5,false,false⟩]) n ds l W):WL P ops Q n ds l W (⟨Bd,.panic be,ty,pos,af,g⟩::rest):=by
 refine WL.step c λa w b f i j=>?_
 have:(execOp a.eval ⟨Bd,.panic be,ty,pos,af,g⟩).run P w = .halt (.panic<|.iface a0 a5) w:=by
   have e:(Instr.panic<|.iface a0 a5).run P w = .halt (.panic<|.iface a0 a5) w:=rfl;simp [execOp,b.eval d,e]
 simp only [Oper.wp,this,Oper.upon_panic];exact h a w b f
def WL.defer (c:aK ops l g) (d:bK l be=some (.func (.func dH) #[] dv.toArray))
   (h:WL P ops Q n (⟨.fn (.func dH) dv.toArray,#[]⟩::ds) l W rest):WL P ops Q n ds l W (⟨none,.defer ⟨.value be,#[],gx⟩,ty,pos,af,g⟩::rest):=by
 refine WL.step c λa w b e i f=>?_
 have:(execOp a.eval ⟨none,.defer ⟨.value be,#[],gx⟩,ty,pos,af,g⟩).run P w = .ok (.defer ⟨.fn (.func dH) dv.toArray,#[]⟩) w:=by
   simp [execOp,resolve,b.eval d,Deferred.ofValue]
 simp only [Oper.wp,this,Oper.upon_defer];refine f _ _<|h _ _ ⟨b.size,?_,b.h7⟩ e
 show _::a.defers=_
 rw [b.defs]
variable {eZ:Func} {fo:Code} {gg:Ending->World->Prop}
def Be {w:World}  (c:P.funcs[dH]? = some eZ) (d:eZ.body=some fo)
   (m:Nat) (e:eZ.ntmps=m) (f:Nat.ble dv.length m=true) (h:WC P fo (bodyPostD P eZ gg) m [] (uR 0 dv) (λg=>g=w)):Calls P dH dv.toArray w gg:=by
 refine calls_of_wp_defers c d<|h _ _ ?_ O;have i:=qf f;subst e;refine ⟨by simp; omega,O,λt v hv=>?_⟩;obtain ⟨_,a⟩:=Eh dv 0 t v hv;simp only [nX] at a
 have b:t<dv.length:=by
   rcases mb t dv.length with h | h
   · exact h
   · simp [wl h] at a
 simp [jD,AB,b];simp [c6 b] at a;exact a
def Rs (P:Program) (fn:Func) (l:List (Nat×Value)) (W:World->Prop) (v:Value):Prop:=∀(tmps:Array Value) w,(∀t u,lk l t=some u->tmps.getD t undef=u)->W w->(results fn tmps).run P w = .ok v w
def pC (tmps:Array Value):ResultVar->Sem Value
 | .tmp t=>pure (tmps.getD t undef)
 | .cell a t=>do loadVar t (<-asAddr (tmps.getD a undef))
def yB (fn:Func) (tmps:Array Value):results fn tmps=(do let vs <-fn.results.mapM (pC tmps); pure (if h:vs.size=1 then vs[0] else .tuple vs)):=by
 have e:(λr:ResultVar=>match r with | .tmp t=>(pure (tmps.getD t undef):Sem Value) | .cell a t=>do loadVar t (<-asAddr (tmps.getD a undef)))=pC tmps:=by funext r; cases r<;>rfl
 rw [<-e]; rfl
def r8 (P:Program) (l:List (Nat×Value)) (W:World->Prop) (r:ResultVar) (v:Value):Prop:=∀(tmps:Array Value) w,(∀t u,lk l t=some u->tmps.getD t undef=u)->W w->(pC tmps r).run P w = .ok v w
def j6 (h:lk l Z=some a5):r8 P l W (.tmp Z) a5:=λtmps w a _=>by simp only [pC,a Z a5 h,Sem.run_pure]
def h6 {a b o:Nat}    (i:Nat) (c:lk l a=some (.pointer<|some ⟨b,o,none⟩)) (hL:L[i]? = some (aq b eJ)) (d:i_ eJ o=some a5) (e:oN P a0=true):r8 P l (Ws w0 F L Vs) (.cell a a0) a5:=λtmps w h f=>by
 simp only [pC,h a _ c,asAddr,Sem.run_bind,Sem.run_pure,Result.andThen_ok,Il e (cell_of_heap (f.kn _<|aY hL) d)]
def eM {a b o k:Nat}   (i:Nat) (d:lk l a=some (.pointer<|some ⟨b,o,none⟩)) (hL:L[i]? = some (aq b eJ)) (e:hr P a0=some k) (f:(cellsIn eJ o k).length=k):r8 P l (Ws w0 F L Vs) (.cell a a0) (.agg (cellsIn eJ o k).toArray):=λtmps w h g=>by
 have m:(loadVar a0 ⟨b,o,none⟩).run P w = .ok (.agg (cellsIn eJ o k).toArray) w:=AR e f λj v c=>by
   have n:w.heap[b]? = some eJ:=g.kn _ (aY hL);refine cell_of_heap n ?_
   cases eJ<;>simp [cellsIn,i_] at *
   rw [jq] at c
   split at c
   · simpa using c
   · cases c
 simp only [pC,h a _ d,asAddr,Sem.run_bind,Sem.run_pure,Result.andThen_ok,m]
def iF {r:ResultVar}  (a:eZ.results = #[r]) (h:r8 P l W r a5):Rs P eZ l W a5:=λtmps w b c=>by
 have d:=h tmps w b c;simp [yB,a,wn,uG,DY,d]
variable {wJ:Value}
def hV {r s:ResultVar}  (c:eZ.results = #[r,s]) (h:r8 P l W r a5) (d:r8 P l W s wJ):Rs P eZ l W (.tuple #[a5,wJ]):=λtmps w a b=>by
 have e:=h tmps w a b;have f:=d tmps w a b;simp [yB,c,wn,uG,DY,e,f]
def uW {r s u:ResultVar} {v x y:Value} (c:eZ.results = #[r,s,u]) (h:r8 P l W r v) (d:r8 P l W s x) (e:r8 P l W u y):Rs P eZ l W (.tuple #[v,x,y]):=λtmps w a b=>by
 have f:=h tmps w a b;have g:=d tmps w a b;have i:=e tmps w a b;simp [yB,c,wn,uG,DY,f,g,i]
def WE.aau (d:Rs P eZ l W a5) (h:∀w,W w->gg (.returned a5) w):WE (bodyPost P eZ gg) .ret n [] l W:=
 λa w b c=>bodyPost_ret (d a.tmps w b.h7 c) b.defs<|h w c
def WE.Ey (g:Enters P dH)
   (hC:∀w,W w->CallsD P dH dv.toArray .returning w λe c b=>e = .returned (.tuple #[])/\c = .returning/\ja b)
   (i:Rs P eZ l ja a5) (h:∀w,ja w->gg (.returned a5) w):WE (bodyPostD P eZ gg) .ret n [⟨.fn (.func dH) dv.toArray,#[]⟩] l W:=by
 intro a w d j
 show Leaves P eZ a.tmps gg a.defers .returning w
 rw [d.defs];refine ⟨ai,.func dH,dv.toArray,dH,dv.toArray,O,?_,(hC w j).mono λe c b k=>?_⟩
 · simp only [invoke]
   simpa using g dv.toArray w
 · obtain ⟨rfl,rfl,f⟩:=k
   exact ⟨a5,i a.tmps b d.h7 f,h b f⟩
def WE.qo (g:Enters P dH)
   (hC:∀w,W w->CallsD P dH dv.toArray (.panicking [⟨wJ,false,false⟩]) w λe c b=>e = .returned (.tuple #[])/\c = .panicking [⟨wJ,true,false⟩]/\ja b)
   (i:Rs P eZ l ja a5) (h:∀w,ja w->gg (.returned a5) w):WE (bodyPostD P eZ gg) (.panic [⟨wJ,false,false⟩]) n [⟨.fn (.func dH) dv.toArray,#[]⟩] l W:=by
 intro a w d j
 show Leaves P eZ a.tmps gg a.defers (.panicking [⟨wJ,false,false⟩]) w
 rw [d.defs];refine ⟨ai,.func dH,dv.toArray,dH,dv.toArray,O,?_,(hC w j).mono λe c b k=>?_⟩
 · simp only [invoke]
   simpa using g dv.toArray w
 · obtain ⟨rfl,rfl,f⟩:=k
   exact ⟨a5,i a.tmps b d.h7 f,h b f⟩
def WE.r9 (d:Rs P eZ l W a5) (h:∀w,W w->gg (.returned a5) w):WE (bodyPostD P eZ gg) .ret n [] l W:=by
 intro a w b c
 show Leaves P eZ a.tmps gg a.defers .returning w
 rw [b.defs];exact ⟨a5,d a.tmps w b.h7 c,h w c⟩
def IP (u:FrameMode) (rv:Value) (a:FrameMode):Prop:=(u = .returning/\rv = .nilIface/\a = .returning)\/∃v,u = .panicking [⟨v,false,false⟩]/\rv=v/\a = .panicking [⟨v,true,false⟩]
variable {d_:Oper}
def PS {c:Frame} {cs:List Frame} {a:Act} {w:World}  {d:FrameMode} {Q:Exit->Act->World->Prop} {i:Exit->Act->List Frame->World->Prop}
   (p:d_.dst=some aw) (q:d_.guard=none) (l:(execOp a.eval d_).run P w = .ok .recover w) (r:IP c.mode a5 d)
   (m:∀e a w,Q e a w->i e a ({ c with mode:=d }::cs) w)
   (h:wpList P (d_::bF).toArray (Exit.then (fo.wp P Q) Q) bF (a.put (some aw) a5) w):(Code.seq (.region Z (d_::bF).toArray false) fo).wpS P i a (c::cs) w:=by
 refine wpS_seq ?_;intro b k s F;have n:(d_::bF).toArray[0]? = some d_:=rfl
 have t:Region.wanted d_ (yielded (d_::bF).toArray a.tmps)=true:=by simp [Region.wanted,q]
 have u:=stepG_op (P:=P) (b:=b) (k:=k) (cs:=c::cs) (w:=w) (rest:=List.range' 1 bF.length) n t;have x:(b.at a<|.inRegion (d_::bF).toArray (0::List.range' 1 bF.length)::k).kind = .deferred:=s;have g:=tryRecover_deferred x (c::cs)
 have y:∀v,(b.at a<|.inRegion (d_::bF).toArray (0::List.range' 1 bF.length)::k).finish v=b.at (a.put (some aw) v) (.inRegion (d_::bF).toArray (List.range' 1 bF.length)::k):=by
   intro v; rw [Frame.finish_at,n,<-p]; rfl
 have z:step P (lone (b.at a<|.inRegion (d_::bF).toArray (0::List.range' 1 bF.length)::k) (c::cs) w) = .next (lone (b.at (a.put (some aw) a5)<|.inRegion (d_::bF).toArray (List.range' 1 bF.length)::k) ({ c with mode:=d }::cs) w):=by
   refine step_lone_go ?_;rw [u,<-y];simp only [Frame.at] at g ⊢
   rcases r with ⟨f,rfl,rfl⟩ | ⟨v,f,rfl,rfl⟩
   · simp [stepG.apply,l,g,recoverD,f]
     rw [<-f]
   · simp [stepG.apply,l,g,recoverD,f]
 have A:wpOps P (d_::bF).toArray (Exit.then (fo.wp P Q) Q) (List.range' 1 bF.length) (a.put (some aw) a5) w:=by
   rw [wpOps_eq_wpList bF 1 (λj=>by simp [DZ 1 j])]; exact h
 obtain ⟨e,B,C,o,D⟩:=wp_ops _ _ _ A b k ({ c with mode:=d }::cs)
 have E:step P (lone (b.at a<|.code (.region Z (d_::bF).toArray false)::k) (c::cs) w) = .next (lone (b.at a<|.inRegion (d_::bF).toArray (0::List.range' 1 bF.length)::k) (c::cs) w):=by
   have:=step_region (P:=P) (b:=b) (a:=a) (k:=k) (cs:=c::cs) (w:=w) (ops:=(d_::bF).toArray) (id:=Z);rw [this];simp [List.range_eq_range',List.range'_succ]
 refine ⟨e,B,_,C,?_,.of_steps (.head E<|.one z) D⟩
 cases e with
 | normal=>exact wpS_of_wp<|wp_mono o λe a w h=>m e a w h
 | _=>exact m _ _ _ o
def ix {w:World}  {u c:FrameMode}  (j:P.funcs[dH]? = some eZ) (k:eZ.body=some (.seq (.region Z (d_::bF).toArray false) fo))
   (m:Nat) (l:eZ.ntmps=m) (n:Nat.ble dv.length m=true) (o:d_.dst=some aw) (p:Nat.blt aw m=true) (q:d_.guard=none) (r:∀(s:Operand->Value),(execOp s d_).run P w = .ok .recover w) (x:IP u a5 c)
   (h:WL P (d_::bF).toArray (Exit.then (fo.wp P<|bodyPost P eZ gg)<|bodyPost P eZ gg) m [] ((aw,a5)::uR 0 dv) (λf=>f=w) bF):CallsD P dH dv.toArray u w λe y f=>y=c/\gg e f:=by
 refine callsD_of_wpS j k λB cs z=>?_;refine PS (Q:=bodyPost P eZ gg) o q (r _) (by rw [z]; exact x) (λe a w b=>?_)<|h _ _ ?_ O
 · cases e with
   | normal=>exact ⟨b.1,c,rfl,b.2.choose,b.2.choose_spec.1,rfl,b.2.choose_spec.2⟩
   | ret=>exact ⟨b.1,c,rfl,b.2.choose,b.2.choose_spec.1,rfl,b.2.choose_spec.2⟩
   | panic C=>exact ⟨b.1,c,rfl,rfl,b.2⟩
   | outgrown=>exact ⟨c,rfl,b⟩
   | exit i=>exact b
   | goto i=>exact b
 · have D:=qf n
   subst l
   have A:Ag eZ.ntmps [] (uR 0 dv) { tmps:=dv.toArray++Array.replicate (eZ.ntmps-dv.toArray.size) undef,defers:=[] }:=by
     refine ⟨by simp; omega,O,λt v hv=>?_⟩;obtain ⟨_,d⟩:=Eh dv 0 t v hv;simp only [nX] at d
     have g:t<dv.length:=by
       rcases mb t dv.length with h | h
       · exact h
       · simp [wl h] at d
     simp [jD,AB,g];simp [c6 g] at d;exact d
   exact A.put p a5
def Ez {t u:TypeId}    (b:P.underlying t=some (.interface<|P.methodsAt t)) (c:bK l be=some .nilIface):Yl P l ja ⟨Bd,.binOp .neq t be (.const .nilIface) u,ty,pos,af,g⟩ (.bool false):=by
 intro d w a _;have e:d (.const .nilIface) = .nilIface:=a _ _ rfl;simp only [execOp,a be _ c,e,Sem.run_bind];simp [eqGuard_nil_constR,run_neq_nil_nil (h:=b)]
def PT {t u s:TypeId}     (b:P.underlying t=some (.interface<|P.methodsAt t)) (c:bK l be=some (.iface s a5)):Yl P l ja ⟨Bd,.binOp .neq t be (.const .nilIface) u,ty,pos,af,g⟩ (.bool true):=by
 intro d w a _;have e:d (.const .nilIface) = .nilIface:=a _ _ rfl
 have f:(eqGuard .neq t be (.const .nilIface) (.iface s a5) .nilIface)=pure ():=by cases be<;>rfl
 simp only [execOp,a be _ c,e,Sem.run_bind,f];simp [run_neq_held_nil (h:=b)]
end
section
variable {P:Program} {l:List (Nat×Value)} {W:World->Prop} {d:Option Tmp} {ty:TypeId} {pos:String} {af:Array Edge} {g:Option (Nat×Bool)}
def IQ (s:List UInt8) (i j:Nat):Value.string ((ByteArray.mk s.toArray).extract i j)=st ((s.take j).drop i):=by
 have e:((ByteArray.mk s.toArray).extract i j)=⟨((s.take j).drop i).toArray⟩:=by
   apply ByteArray.ext;simp [List.drop_take]
 rw [e]; rfl
variable {be bX:Operand} {aU:List UInt8} {ew:IntKind} {aH:Int}
def IR (a:P.underlying a0=some .string) (c:bK l be=some (st aU)) (f:bK l bX=some (.int ew aH)) (i:0<=aH) (j:aH<=aU.length):Yl P l W ⟨d,.slice a0 be none (some bX) none,ty,pos,af,g⟩ (st<|aU.take aH.toNat):=by
 intro m w b _;have e:=run_slice_string_h (P:=P) w a0 ⟨aU.toArray⟩ a ew aH i (by rw [kA]; exact j)
 have k:(Instr.sliceAt a0 (.string ⟨aU.toArray⟩) none (some<|.int ew aH) none).run P w = .ok (st<|aU.take aH.toNat) w:=by
   rw [run_sliceAt_string (h:=a),e,IQ]; simp
 simp [execOp,b be _ c,b bX _ f,st,k]
def EA (a:P.underlying a0=some .string) (c:bK l be=some (st aU)) (f:bK l bX=some (.int ew aH)) (i:0<=aH) (j:aH<=aU.length):Yl P l W ⟨d,.slice a0 be (some bX) none none,ty,pos,af,g⟩ (st<|aU.drop aH.toNat):=by
 intro m w b _;have e:=run_slice_string_l (P:=P) w a0 ⟨aU.toArray⟩ a ew aH i (by rw [kA]; exact j)
 have k:(Instr.sliceAt a0 (.string ⟨aU.toArray⟩) (some<|.int ew aH) none none).run P w = .ok (st<|aU.drop aH.toNat) w:=by
   rw [run_sliceAt_string (h:=a),e,IQ,kA,gE]
 simp [execOp,b be _ c,b bX _ f,st,k]
end
abbrev cC {α:Type} (e:TypeId) (k:Nat) (f:α->List Value) (a:Option Addr) (c:Nat) (xs:List α):aQ:=a6 e k (.slice a xs.length c) xs.length<|xs.flatMap f
section
variable {P:Program} {ops:Array Oper} {Q:Exit->Act->World->Prop} {n:Nat} {ds:List Deferred} {l:List (Nat×Value)} {w0:World} {F:List Nat} {L:List aQ} {Vs:List View}
 {rest:List Oper} {d:Nat} {ty:TypeId} {pos:String} {af:Array Edge} {g:Option (Nat×Bool)}
def LA {α:Type} {f:α->List Value} {t e:TypeId} {z:Value} {size q cc:Nat} {s y:Operand} {a:Option Addr} {c r:Nat} {xs:List α} {T:TypeId} {A:Nat×Nat} (x:α) (i j:Nat) (B:aK ops l g) (C:Nat.blt d n=true) (D:hf P t e z size q)
   (E:bK l s=some (.slice a xs.length c)) (G:bK l y=some (.slice (some ⟨r,0,none⟩) 1 cc)) (hL:L[i]? = some (cC e size f a c xs)) (H:L[j]? = some (aq r<|.cells (f x).toArray T A))
   (I:(f x).length=size) (J:(f x).all (·.oneCell')=true) (S:xs.length+1<=9223372036854775807) (K:(xs.length+1)*q<=140737488355328)
   (h:∀b o,WL P ops Q n ds ((d,.slice b (xs++[x]).length o)::l) (Ws w0 F (L.set i<|cC e size f b o<|xs++[x]) Vs) rest) :
   WL P ops Q n ds l (Ws w0 F L Vs) (⟨some d,.call ⟨.builtin .append,#[s,y],#[t,t]⟩,ty,pos,af,g⟩::rest):=by
 refine WL.append i B C D E G hL (news:=f x) (k:=1) (by rw [Nat.one_mul]; exact I) (λw M k u p=>PJ M j H (k:=k) (by simpa using p)) (λu p=>gN.1 J u p) (by unfold maxLen; omega) K λN _=>?_
 have O:(xs.flatMap f)++f x=(xs++[x]).flatMap f:=ai
 have R:xs.length+1=(xs++[x]).length:=ai
 rw [O,R];have hi:i<L.length:=(cq.1 hL).1;refine WL.IN i (m:=(xs++[x]).length) (xs:=(xs++[x]).flatMap f) (e:=e) (size:=size) (v:=N) (by simp [hi]) λb o hv=>?_;subst hv;exact h b o
end
def Ws.hW {rd:View->Nat->Nat->bB->Prop}      (h:Ws bY [] dd e0 eD) (i:Nat)     (hL:dd[i]? = some (cC a0 Z lW dj aw b_))
   (e:∀x,(lW x).length=Z) (k:∀f b o x,ar f b o (lW x)->rd f b o x):Sl rd Z (nv bY eD) dj aw b_:=by
 rcases h.PE i hL with ⟨a,g⟩ | ⟨b,r,a,g,l,m⟩
 · injection a with c n d
   subst c d;have:b_=[]:=uK aa;subst this;exact Sl.nil
 · injection a with c n d
   subst c d;refine ⟨g,by unfold maxLen at l; omega,ai,λi x p=>⟨b,0,O,k _ _ _ _ λj v hv=>?_⟩⟩
   have q:j<Z:=by have:=(cq.1 hv).1; rw [e] at this; exact this
   rw [lK];exact m _ _ (by rw [px e p q]; exact hv)
def Ws.Bf {rd:View->Nat->Nat->bB->Prop}       (h:Ws bY dF dd e0 eD) (i:Nat)     (hL:dd[i]? = some (cC a0 Z lW dj aw b_))
   (e:∀x,(lW x).length=Z) (g:∀f b o x,ar f b o (lW x)->rd f b o x):Sl rd Z (hv eD) dj aw b_:=by
 obtain ⟨w,k⟩:=(h.kn _ (aY hL):eD.ownsRow 0 a0 Z _ b_.length (b_.flatMap lW))
 rcases k with ⟨l,y⟩ | ⟨b,cap,z,m,_,n,p,c,A,q⟩
 · injection l with d r c
   subst d c;have:b_=[]:=uK aa;subst this;exact Sl.nil
 · injection m with d r s
   subst d s;refine ⟨p,by unfold maxLen at c; omega,ai,λi x t=>⟨b,0,O,g _ _ _ _ λj v hv=>?_⟩⟩
   have u:j<Z:=by have:=(cq.1 hv).1; rw [e] at this; exact this
   have a:(b_.flatMap lW)[i*Z+j]? = some v:=by rw [px e t u]; exact hv
   rw [<-q,jq] at a
   split at a
   · refine A7 n ?_
     simpa [i_] using a
   · cases a
def mg (rs:List ResultVar) (d:Option Tmp):Bool:=match d with
 | none=>true
 | some d=>rs.all λr=>match r with | .tmp t=>!(Nat.beq d t) | .cell a _=>!(Nat.beq d a)
def PU {r:ResultVar}   {a:Act} (h:(match r with | .tmp t=>!(Nat.beq Z t) | .cell a _=>!(Nat.beq Z a))=true):pC (a.put (some Z) a5).tmps r=pC a.tmps r:=by
 have key:∀t,(!(Nat.beq Z t))=true->(a.put (some Z) a5).tmps.getD t undef=a.tmps.getD t undef:=λt b=>by
   have c:Z≠t:=λe=>by subst e; simp at b
   simp only [Act.put,jD];rw [tb c]
 cases r with
 | tmp t=>simp only [pC,key t h]
 | cell x _=>simp only [pC,key x h]
variable {eZ:Func} {zJ:List ResultVar} {bc:Act}
def PV (a:eZ.results=zJ.toArray) {d:Option Tmp}   (h:mg zJ d=true):results eZ (bc.put d a5).tmps=results eZ bc.tmps:=by
 cases d with
 | none=>rfl
 | some d=>
   simp only [mg,gN] at h
   have e:∀l:List ResultVar,(∀r ∈ l,r ∈ zJ)->l.mapM (pC (bc.put (some d) a5).tmps)=l.mapM (pC bc.tmps):=by
     intro l
     induction l with
     | nil=>intro _; rfl
     | cons x l c=>
       intro b;rw [uG,uG,PU (h x<|b x ai),c λr a=>b r (by simp [a])]
   rw [yB,yB,a,wn,wn,e _ λr a=>by simpa using a]
variable {gg:Ending->World->Prop} {Bd:Option Tmp}
def EB (b:eZ.results=zJ.toArray)  {v:Value}  (h:mg zJ Bd=true):∀(ds:List Deferred) (u:FrameMode) (w:World),Leaves jr eZ (bc.put Bd v).tmps gg ds u w->Leaves jr eZ bc.tmps gg ds u w
 | [],.returning,w,a=>by
   simp only [Leaves] at a ⊢;rw [PV b h] at a;exact a
 | [],.panicking _,_,a=>a
 | [],.run,_,a=>a
 | x::ds,u,w,a=>by
   obtain ⟨d,g,cap,f,args,i,j,k⟩:=a;refine ⟨d,g,cap,f,args,i,j,k.mono λe l m c=>?_⟩
   cases e with
   | returned v=>exact EB b h ds _ _ c
   | panicked n=>exact EB b h ds _ _ c
   | outgrown=>exact c
def oR {fn:Func} (rs:List ResultVar)  (b:fn.results=rs.toArray)    {c:List PanicEntry}  (h:mg rs Bd=true) (a:bodyPostD jr fn gg (.panic c) (bc.put Bd a5) bY):bodyPostD jr fn gg (.panic c) bc bY:=by
 have e:(bc.put Bd a5).defers=bc.defers:=by cases Bd<;>rfl
 have a:Leaves jr fn (bc.put Bd a5).tmps gg (bc.put Bd a5).defers (.panicking c) bY:=a;rw [e] at a;exact EB b h _ _ _ a
section
variable {P:Program} {md:Region.Mode} {ops:Array Oper} {C:World->Prop} {Q:Exit->Act->World->Prop}
def uY (ok:Option Tmp->Bool) (ops:Array Oper):Bool:=ops.toList.all λo=>ok o.dst
variable {yC:Option Tmp->Bool} {d_:Oper}
def IS (h:uY yC ops=true)   (a:ops[Z]? = some d_):yC d_.dst=true:=by
 refine gN.1 h d_ ?_
 have:ops.toList[Z]? = some d_:=by simpa using a
 exact az this
def EC (f:uY yC ops=true) (g:Region.noSelect ops=true) (k:∀c a w d v,yC d=true->Q (.panic c) (a.put d v) w->Q (.panic c) a w):∀(ord:List (Nat×Bool)) (e:Array Bool) (a:Act) (w:World),
   nY md ops ord e=true->nZ P ops C Q ord a w->qm P md ops C Q ord.length e a w
 | [],e,a,w,b,h=>⟨h.1,by simpa [nY] using b,h.2⟩
 | (i,true)::r,e,a,w,b,h=>by
   simp only [nY,aae,dE] at b;obtain ⟨hC,o,v,l,n,h⟩:=h
   exact o2 l (Region.noSelect_spec g) (λc a w=>k c a w o.dst v<|IS f l) r.length e a w (Region.free_spec l b.1.2) (by simpa using b.1.1) n hC
     (EC f g k r _ _ _ b.2 h)
 | (i,false)::r,e,a,w,b,h=>by
   simp only [nY,aaj,dE,aac] at b;refine ⟨h.1,λp=>(by rw [p] at b; cases b.1),λj m=>?_⟩;rw [b.1] at m;simp at m;subst m;exact wpOp_mono (λs t q=>EC f g k r _ _ _ b.2 q) h.2
variable {n:Nat} {ds:List Deferred} {l:List (Nat×Value)} {W:World->Prop}
def outs:List Nat->List aQ->List aQ
 | [],L=>L
 | i::r,L=>outs r (fk i L)
def Wo (i:Nat) (h:Ws bY dF dd e0 eD):Ws bY dF (fk i dd) e0 eD:=Ws.out i h
def Wt (n:Nat) (h:Ws bY dF dd e0 eD):Ws bY dF (dd.take n) e0 eD:=Ws.dB (L':=dd.drop n) (by rw [qg]; exact h)
def Wd (n:Nat) (h:Ws bY dF dd e0 eD):Ws bY dF (dd.drop n) e0 eD:=Ws.drop (L:=dd.take n) (by rw [qg]; exact h)
def Wv (n:Nat) (h:Ws bY dF dd e0 eD):Ws bY dF dd (e0.drop n) eD:=Ws.aB h λ_ a=>List.mem_of_mem_drop a
variable {lN:aQ}
def Ws.f (i:Nat)  (h:Ws bY dF dd e0 eD) (a:dd[i]? = some lN):Ws bY dF (lN::fk i dd) e0 eD:=h.perm<|nh i dd a
def Wp (i:Nat):∀w,Ws bY dF dd e0 w->Ws bY dF (fk i dd) e0 w:=λ_ h=>Wo i h
def ct (a:List Nat):∀w,Ws bY dF dd e0 w->Ws bY dF (outs a dd) e0 w:=λ_ h=>by
 induction a generalizing dd with
 | nil=>exact h
 | cons i r b=>exact b<|Wo i h
def WC.Bh {os:List Oper}     (ok:Option Tmp->Bool) (e:List Nat) (ord:List (Nat×Bool)) (f:P.follows .mixedOrders=true) (g:uY ok os.toArray=true) (b:(Region.noSelect os.toArray&&(ord.length==os.toArray.size&&fL os ord 0))=true)
   (i:∀c a w d v,ok d=true->Q (.panic c) (a.put d v) w->Q (.panic c) a w) (h:WD P os.toArray (Ws bY dF (outs e dd) e0) Q n ds l (Ws bY dF dd e0) ord):WC P (.region Z os.toArray true) Q n ds l (Ws bY dF dd e0):=by
 intro a w j k;have b:=pM b;simp only [dE,aac] at b;have:=A3 (md:=.any) _ _ _ _ (EC g b.1 i ord _ a w.drew b.2.2<|h a w.drew j k.drew);rw [b.2.1] at this;exact wp_region_any f this
def WD.skip {r:List (Nat×Bool)} {i d:Nat} {op:Op} {ty:TypeId} {pos:String} {af:Array Edge}  {b:Bool}  {c:Nat} (hi:ops[i]? = some ⟨some d,op,ty,pos,af,some (Z,b)⟩) (j:Nat.blt d n=true)
   (k:ops[Z]? = some d_) (m:d_.dst=some c) (o:Nat.blt c n=true) (p:lk l c=some (.bool<|!b))
   (hC:∀w,W w->C w) (h:WD P ops C Q n ds ((d,undef)::l) W r):WD P ops C Q n ds l W ((i,true)::r):=by
 intro a w e f;have hv:a.tmps.getD c undef = .bool (!b):=e.h7 c _ p
 have g:c<a.tmps.size:=by rw [e.size]; exact qf o
 have q:a.tmps[c]? = some (.bool<|!b):=by
   rw [jD,hJ g] at hv;rw [hJ g]
   simpa using hv
 have s:yielded ops a.tmps Z=some (!b):=by simp [yielded,k,m,q]
 exact ⟨hC w f,_,undef,hi,.inr ⟨by simp [Region.wanted,s],O⟩,h _ _ (e.put j undef) f⟩
def WE.front {e:Exit}  (i:Nat) (hL:dd[i]? = some lN) (h:WE Q e n ds l (Ws bY dF (lN::fk i dd) e0)):WE Q e n ds l (Ws bY dF dd e0):=
 WE.world (λ_ a=>a.perm<|nh i dd hL) h
def cO {f:FuncId} {args:Array Value} {u d:FrameMode} (a L2 g:List aQ) (hL:dd=a++L2)
   (hC:∀w,Ws w (a.flatMap aQ.ids) a [] w->CallsD P f args u w λe b c=>b=d/\(e = .returned (.tuple #[])/\Ws w (a.flatMap aQ.ids) g [] c)) :
   ∀w,Ws bY dF dd e0 w->CallsD P f args u w λe b c=>e = .returned (.tuple #[])/\b=d/\Ws bY dF (g++L2) e0 c:=by
 intro w h;subst hL;exact (hC w<|h.self.aB ai).mono λe b c ⟨i,j,k⟩=>⟨j,i,h.back k⟩
end
open Go.ChangeShapes Go.WideShapes Go.ChangeAt Go.RowKit Go.Joins Go.Deep
def IT (p:Nat->bB->Prop):∀n,(∀i,i<n->∃x,p i x)->∃l:List bB,l.length=n/\∀(i:Nat) (x:bB),l[i]? = some x->p i x
 | 0,_=>⟨[],rfl,ai⟩
 | n+1,h=>by
   obtain ⟨l,c,d⟩:=IT p n λi hi=>h i aa;obtain ⟨x,e⟩:=h n aa;refine ⟨l++[x],by simp [c],λi y a=>?_⟩
   rcases Nat.lt_trichotomy i n with b | b | b
   · rw [oM aa] at a; exact d i y a
   · subst b
     rw [nc aa,c] at a;simp at a; subst a; exact e
   · rw [wl (by simp; omega)] at a; cases a
def ED (h:bY.cell? ⟨Z,aw,none⟩=some a5):vc (hv bY) Z aw=some a5:=by
 unfold vc hv;unfold World.cell? at h
 cases a:bY.heap[Z]? with
 | none=>simp [a] at h
 | some b=>cases b<;>simp [a,i_] at h ⊢<;>exact h
inductive Sh where
 | int
 | str
 | bool
deriving DecidableEq
def Sh.fit:Sh->Value->Prop
 | .int,v=>∃k:Int,v = .int .i64 k/\-9223372036854775808<=k/\k<=9223372036854775807
 | .str,v=>∃l:List UInt8,v=st l/\l.length<=9223372036854775807
 | .bool,v=>∃b,v = .bool b
def pT (P:Program) (t:TypeId):Option Sh:=match P.underlying t with
 | some (.int .i64)=>some .int
 | some .string=>some .str
 | some .bool=>some .bool
 | _=>none
def mh (P:Program):Nat->List Field->Bool
 | _,[]=>true
 | i,f::r=>Nat.beq f.offset i&&(Nat.beq (P.cellsOf f.type) 1&&mh P (i+1) r)
section
variable {P:Program} {H:Type} {enc:TypeId×Value->H} {w:World} {base:Nat} {spare:Nat->Bool} {held:Bool}
def IU:∀(i:Nat) (l:List Field) (j:Nat) (f:Field),mh P i l=true->l[j]? = some f->f.offset=i+j/\P.cellsOf f.type=1
 | _,[],j,f,_,h=>by cases h
 | i,g::r,0,f,a,h=>by
   simp only [mh,dE] at a;simp at h; subst h;exact ⟨j2 a.1,j2 a.2.1⟩
 | i,g::r,j+1,f,a,h=>by
   simp only [mh,dE] at a;have:=IU (i+1) r j f a.2.2 (by simpa using h);exact ⟨aa,this.2⟩
def PW {s:Sh}   {x:DataW H×List MemPlace} (a:pT P a0=some s) (h:DataW.trod enc P w base spare held Z a0 [a5]=some x):s.fit a5:=by
 unfold pT at a
 cases c:P.underlying a0 with
 | none=>simp [c] at a
 | some d=>
   cases d<;>simp [c] at a
   case int k=>
     cases k<;>simp at a
     subst a;obtain ⟨n,e,_,f⟩:=DataW.trod_int c h
     injection e with e _
     subst e;refine ⟨n,O,?_⟩;simp [Lit.wf,IntKind.min,IntKind.max,IntKind.signed,IntKind.bits] at f;omega
   case string=>
     subst a;obtain ⟨s,e,_,f⟩:=DataW.trod_string c h
     injection e with e _
     subst e;exact ⟨s.data.toList,by simp [st],by unfold maxLen at f; simpa using f⟩
   case bool=>
     subst a;obtain ⟨b,e,_⟩:=DataW.trod_bool c h
     injection e with e _
     exact ⟨b,e⟩
def open_int {r:Reach}    {d:DataW H} {p:List MemPlace} (a:P.underlying a0=some (.int .i64)) (b:Value.okWide P w r Z a0 a5) (h:DataW.Trod enc P w base spare held a0 a5 d p) :
   ∃k:Int,a5 = .int .i64 k/\-9223372036854775808<=k/\k<=9223372036854775807:=by
 obtain ⟨n,rfl⟩:=okWide_int a b;obtain ⟨fuel,h⟩:=h;exact PW (s:=.int) (by simp [pT,a]) h
end
end Go.Bw
end
section
namespace Go.Bw
set_option linter.unnecessarySimpa false
open Go Go.RowKit
def fZ (As:List aQ):aQ:=⟨As.flatMap aQ.ids,λw=>∀a ∈ As,a.holds w,
 λw e h d a c=>a.loc w e (λk b=>h k<|ci.2 ⟨a,c,b⟩)<|d a c,
 λw d k b=>let ⟨a,c,b⟩:=ci.1 b; a.wA w (d a c) k b⟩
section
variable {P:Program} {ops:Array Oper} {Q:Exit->Act->World->Prop} {n:Nat} {ds:List Deferred} {l:List (Nat×Value)} {w0 w:World} {F:List Nat} {L:List aQ} {Vs:List View} {rest:List Oper} {A:aQ} {As:List aQ}
def Ws.wK (h:Ws w0 F (fZ (A::As)::L) Vs w):Ws w0 F (A::fZ As::L) Vs w:=by
 refine ⟨h.fr,?_,?_,?_,h.vs,?_⟩
 · intro B a
   have e:=h.kn (fZ<|A::As) ai
   rcases ep.1 a with rfl | a
   · exact e _ ai
   · rcases ep.1 a with rfl | a
     · exact λC hC=>e C (by simp [hC])
     · exact h.kn B (by simp [a])
 · have:=h.nd
   simpa [fZ] using this
 · intro B a k b
   rcases ep.1 a with rfl | a
   · exact h.own (fZ<|B::As) ai k (by simp [fZ,b])
   · rcases ep.1 a with rfl | a
     · exact h.own (fZ<|A::As) ai k (by simp only [fZ,mM] at b ⊢; exact qh _ b)
     · exact h.own B (by simp [a]) k b
 · intro c d B a k b
   rcases ep.1 a with rfl | a
   · exact h.off c d (fZ<|B::As) ai k (by simp [fZ,b])
   · rcases ep.1 a with rfl | a
     · exact h.off c d (fZ<|A::As) ai k (by simp only [fZ,mM] at b ⊢; exact qh _ b)
     · exact h.off c d B (by simp [a]) k b
def Ws.wL (h:Ws w0 F (A::fZ As::L) Vs w):Ws w0 F (fZ (A::As)::L) Vs w:=by
 have e:=h.kn A ai;have f:=h.kn (fZ As) ai;refine ⟨h.fr,?_,?_,?_,h.vs,?_⟩
 · intro B b
   rcases ep.1 b with rfl | b
   · intro C hC
     rcases ep.1 hC with rfl | hC
     · exact e
     · exact f C hC
   · exact h.kn B (by simp [b])
 · have:=h.nd
   simpa [fZ] using this
 · intro B b k a
   rcases ep.1 b with rfl | b
   · simp only [fZ,mM,ge] at a
     rcases a with a | a
     · exact h.own A ai k a
     · exact h.own (fZ As) ai k a
   · exact h.own B (by simp [b]) k a
 · intro c d B b k a
   rcases ep.1 b with rfl | b
   · simp only [fZ,mM,ge] at a
     rcases a with a | a
     · exact h.off c d A ai k a
     · exact h.off c d (fZ As) ai k a
   · exact h.off c d B (by simp [b]) k a
def Ws.Fv (h:Ws w0 F L Vs w):Ws w0 F (fZ []::L) Vs w:=by
 refine ⟨h.fr,?_,by simpa [fZ] using h.nd,?_,h.vs,?_⟩
 · intro B a
   rcases ep.1 a with rfl | a
   · intro C hC; cases hC
   · exact h.kn B a
 · intro B a k b
   rcases ep.1 a with rfl | a
   · simp [fZ] at b
   · exact h.own B a k b
 · intro c d B a k b
   rcases ep.1 a with rfl | a
   · simp [fZ] at b
   · exact h.off c d B a k b
variable {a0:TypeId} {dj:Option Addr}
def PY {w:World}  {size m m' c:Nat}  {xs:List Value} (h:w.ownsRow 0 a0 size (.slice dj m c) m xs) (e:m'<=m):w.ownsRow 0 a0 size (.slice dj m' c) m' (xs.take<|m'*size):=by
 obtain ⟨f,a⟩:=h;have q:m'*size<=m*size:=ya _ e
 rcases a with ⟨a,r⟩ | ⟨g,cap,i,hv,j,k,s,b,l,n⟩
 · injection a with d o b
   subst d b
   obtain rfl:m'=0:=aa
   exact ⟨ai,.inl ⟨O,ai⟩⟩
 · injection hv with d o p
   subst d p;refine ⟨by rw [k',f]; omega,.inr ⟨g,c,i,O,j,k,aa,b,l,?_⟩⟩;rw [<-n,nV]
   congr 1
   omega
variable {bB:Type} {lW:bB->List Value}
def IV {k:Nat} (a:∀x,(lW x).length=k):∀(xs:List bB) (m:Nat),(xs.flatMap lW).take (m*k)=(xs.take m).flatMap lW
 | [],m=>by simp
 | x::r,0=>by simp
 | x::r,m+1=>by
   simp only [mM,nb];rw [DU,a,lJ (by rw [a,fz]; omega),<-IV a r m]
   congr 2
   rw [fz]; omega
def WL.PZ {k c:Nat}  {xs:List bB} (i m:Nat) (hL:L[i]? = some (cC a0 k lW dj c xs)) (e:∀x,(lW x).length=k) (f:m<=xs.length)
   (h:WL P ops Q n ds l (Ws w0 F (L.set i<|cC a0 k lW dj c<|xs.take m) Vs) rest):WL P ops Q n ds l (Ws w0 F L Vs) rest:=by
 refine LW (λw a=>?_) h;have g:w.ownsRow 0 a0 k (.slice dj xs.length c) xs.length (xs.flatMap lW):=a.kn _ (aY hL);have b:=PY g f;rw [IV e] at b;refine Ws.fC a i hL (Fr.refl _ _) ?_ (by simp [a6]; cases dj<;>simp [Value.ownBlock])<|λk d=>?_
 · show w.ownsRow 0 a0 k (.slice dj (xs.take m).length c) (xs.take m).length _
   rw [show (xs.take m).length=m by simp; omega];exact b
 · refine .inl ?_
   simp only [a6] at d ⊢
   cases dj<;>simpa [Value.ownBlock] using d
end
section
variable {P:Program} {l:List (Nat×Value)} {W:World->Prop} {d:Option Tmp} {ty:TypeId} {pos:String} {af:Array Edge} {g:Option (Nat×Bool)}
variable {a0:TypeId} {be bX:Operand} {dj:Option Addr} {Z aw cy:Nat} {ew:IntKind} {aH:Int}
def ZW (n:Nat) (a:aat P a0=some cy) (b:bK l be=some (.slice dj Z aw)) (c:∀p,dj=some p->p.spot=none) (e:bK l bX=some (.int ew aH)) (f:aH=(n:Int)) (h:n<=aw) :
   Yl P l W ⟨d,.slice a0 be none (some bX) none,ty,pos,af,g⟩ (.slice dj n aw):=by
 subst f;exact PA a b c e aa aa
def yD (n:Nat) (a:aat P a0=some cy) (h:bK l be=some (.slice dj Z aw)) (i:bK l bX=some (.int ew aH)) (j:aH=(n:Int)) (k:n<=Z) (o:Z<=aw) :
   Yl P l W ⟨d,.slice a0 be (some bX) none none,ty,pos,af,g⟩ (.slice (if aw-n=0 then dj else dj.map (·.add<|n*cy)) (Z-n)<|aw-n):=by
 intro p w c _;subst j;unfold aat at a
 cases b:P.underlying a0 with
 | none=>simp [b] at a
 | some m=>
   cases m<;>simp [b] at a
   rename_i e;obtain ⟨q,hi,rfl⟩:=a;simp [execOp,c be _ h,c bX _ i,Instr.sliceAt,Instr.slice,Instr.sliceBounds,Instr.sliceBound,asIntOf,run_underlying b,sizeOf,typeInfo,hi,k]
   by_cases f:aw=n
   · subst f; simp
   · have:¬aw-n=0:=aa
     simp [f,this]
end
variable {bB:Type} {n9:View->Nat->Nat->bB->Prop} {Z aw:Nat} {an:View} {dj:Option Addr} {b_:List bB}
def Sl.drop (h:Sl n9 Z an dj aw b_) (n:Nat) (g:n<=b_.length):Sl n9 Z an (if aw-n=0 then dj else dj.map (·.add<|n*Z)) (aw-n) (b_.drop n):=by
 have j:=h.cap;refine ⟨by simp; omega,by have:=h.max; omega,?_,λi x c=>?_⟩
 · intro p a k
   split at a
   · omega
   · cases dj with
     | none=>cases a
     | some q=>
       have e:=h.spot q rfl aa;obtain ⟨b,o,s⟩:=q;obtain rfl:s=none:=e;simp [qj] at a;subst a; rfl
 · rw [H2] at c
   have hi:=(cq.1 c).1;obtain ⟨b,o,f,d⟩:=h.b5 _ _ c;subst f;refine ⟨b,o+n*Z,?_,?_⟩
   · rw [ZX aa]; simp [qj]
   · rw [fz] at d
     rw [rZ]; exact d
def Sl.take (h:Sl n9 Z an dj aw b_) (n:Nat):Sl n9 Z an dj aw (b_.take n):=
 ⟨by have:=h.cap; simp; omega,h.max,h.spot,λi x a=>h.b5 i x (by
   rw [jq] at a
   split at a
   · exact a
   · cases a)⟩
end Go.Bw
end
section
namespace Go.Bw
set_option linter.unnecessarySimpa false
open Go Go.RowKit
section
variable {P:Program} {md:Region.Mode} {ops:Array Oper} {S:List Nat} {C D:World->Prop} {Q:Exit->Act->World->Prop}
def cu (S:List Nat) (a:Array Bool):Prop:=∀s ∈ S,a.getD s true=false
def qp (P:Program) (md:Region.Mode) (ops:Array Oper) (S:List Nat) (C D:World->Prop) (Q:Exit->Act->World->Prop):Nat->Array Bool->Act->World->Prop
 | 0,listed,a,w=>((cu S listed->C w)/\D w)/\Region.ready md ops listed=[]/\Q .normal a w
 | fuel+1,listed,a,w=>((cu S listed->C w)/\D w)/\(Region.ready md ops listed=[]->Q .normal a w)/\
   ∀i ∈ Region.ready md ops listed,wpOp P ops Q i (qp P md ops S C D Q fuel<|listed.setIfInBounds i true) a w
def IW:∀(fuel:Nat) (b:Array Bool) (a:Act) (w:World),qp P md ops S C D Q fuel b a w->wpAny P md ops Q fuel b a w
 | 0,_,_,_,h=>h.2
 | fuel+1,b,a,w,h=>⟨h.2.1,λi hi=>wpOp_mono (λc d e=>IW fuel _ c d e)<|h.2.2 i hi⟩
variable {Z:Nat} {pw:Array Bool} {bc:Act} {bY:World}
def qp.c (h:qp P md ops S C D Q Z pw bc bY):(cu S pw->C bY)/\D bY:=by cases Z<;>exact h.1
def Bj (hi:Z ∉ S) :cu S (pw.setIfInBounds Z true)↔cu S pw:=by
 constructor
 · intro h s a
   have b:Z≠s:=λe=>by subst e; exact hi a
   have:=h s a
   rwa [getD_set_ne true b] at this
 · intro h s a
   have b:Z≠s:=λe=>by subst e; exact hi a
   rw [getD_set_ne true b];exact h s a
def jp (md:Region.Mode) (ops:Array Oper) (a:Array Bool):Prop:=∀(j:Nat) (o:Oper),ops[j]? = some o->a.getD j true=true->∀e ∈ o.after,Region.binds md e=true->a.getD e.on true=true
def jw (md:Region.Mode) (ops:Array Oper) (i:Nat):Nat->Nat->Bool
 | 0,_=>false
 | f+1,s=>match ops[s]? with
   | some os=>os.after.any λe=>Region.binds md e&&(Nat.beq e.on i||jw md ops i f e.on)
   | none=>false
def IX (g:jp md ops pw) :∀(f s:Nat),jw md ops Z f s=true->(∀o,ops[s]? = some o->∀e ∈ o.after,Region.binds md e=true->pw.getD e.on true=true)->pw.getD Z true=true
 | 0,s,h,_=>by simp [jw] at h
 | f+1,s,h,i=>by
   simp only [jw] at h
   cases a:ops[s]? with
   | none=>simp [a] at h
   | some o=>
     simp only [a] at h;obtain ⟨e,j,b⟩:=Array.any_eq_true'.1 h;simp only [dE,yd] at b;have c:=i o a e j b.1
     rcases b.2 with d | d
     · have:=j2 d
       rw [this] at c; exact c
     · exact IX g f e.on d λk l m n p=>g e.on k l c m n p
def IY (d:Z ∈ Region.ready md ops pw):∀o,ops[Z]? = some o->∀e ∈ o.after,Region.binds md e=true->pw.getD e.on true=true:=by
 intro o f e g h;obtain ⟨_,j,a,i⟩:=mem_ready.1 d;rw [f] at a
 injection a with a
 subst a;have c:=i e g h
 rcases mb e.on pw.size with b | b
 · simp [jD,b] at c ⊢
   exact c
 · simp [jD,wm b]
def jp.set (h:jp md ops pw) (i:Z ∈ Region.ready md ops pw):jp md ops (pw.setIfInBounds Z true):=by
 have up:∀k,pw.getD k true=true->(pw.setIfInBounds Z true).getD k true=true:=by
   intro k b
   by_cases a:Z=k
   · subst a
     rcases mb Z pw.size with c | c
     · simp [jD,c]
     · simp [jD,c]
   · rw [getD_set_ne true a]; exact b
 intro k o d b e f g
 by_cases a:Z=k
 · subst a
   exact up _<|IY i o d e f g
 · rw [getD_set_ne true a] at b
   exact up _<|h k o d b e f g
def Kept (md:Region.Mode) (ops:Array Oper) (S:List Nat) (C D a:World->Prop) (i:Nat):Prop:=
 (∀w,D w->a w)\/((∀w,C w->a w)/\∀s ∈ S,jw md ops i ops.size s=true)
variable {d_:Oper} {a5:Value}
def P0 {q:World->Prop} (hi:ops[Z]? = some d_) (A:∀(j:Nat) (o:Oper) cs b,ops[j]? = some o->o.op≠.select cs b)
   (J:∀c a w,Q (.panic c) (a.put d_.dst a5) w->Q (.panic c) a w) (K:Z ∉ S) (g:Kept md ops S C D q Z) :
   ∀(fuel:Nat) (d:Array Bool) (a:Act) (w:World),
     (∀j n,ops[j]? = some n->j≠Z->d.getD j true=false->(∀e ∈ n.after,Region.binds md e=true->e.on≠Z)->d_.apart ops n=true)->
     Z ∈ Region.ready md ops d->jp md ops d->YV P ops q d_ a5 a->((cu S d->C w)/\D w)->((∀w,D w->q w)\/cu S d)->
     qp P md ops S C D Q fuel (d.setIfInBounds Z true) (a.put d_.dst a5) w->qp P md ops S C D Q (fuel+1) d a w:=by
 have B:∀(d:Array Bool) (w:World),((cu S d->C w)/\D w)->((∀w,D w->q w)\/cu S d)->q w:=by
   intro d w f p
   rcases p with p | p
   · exact p w f.2
   · rcases g with g | g
     · exact g w f.2
     · exact g.1 w<|f.1 p
 intro fuel
 induction fuel with
 | zero=>
   intro d a w _ l _ u hC m s;refine ⟨hC,λh=>(by rw [h] at l; cases l),λj r=>?_⟩
   by_cases i:j=Z
   · subst i; exact u.wpOp hi (B _ _ hC m) s
   · have:=ready_mono r i
     rw [s.2.1] at this;cases this
 | succ fuel L=>
   intro d a w E l F u hC m s;refine ⟨hC,λh=>(by rw [h] at l; cases l),λj r=>?_⟩
   by_cases i:j=Z
   · subst i; exact u.wpOp hi (B _ _ hC m) s
   · have f:=s.2.2 j (ready_mono r i)
     obtain ⟨G,n,v,M⟩:=mem_ready.1 r
     have N:∀e ∈ n.after,Region.binds md e=true->e.on≠Z:=λe O R T=>by
       have f:=M e O R;have t:=(mem_ready.1 l).1;rw [T] at f
       rcases mb Z d.size with x | x
       · simp [x] at t f; rw [t] at f; cases f
       · simp [wm x] at f
     have U:(∀w,D w->q w)\/cu S (d.setIfInBounds j true):=by
       rcases g with g | g
       · exact .inl g
       · rcases m with m | m
         · exact .inl m
         · refine .inr<|(Bj λV=>?_).2 m
           have W:=IX F _ j (g.2 j V) (IY r);have t:=(mem_ready.1 l).1;rw [W] at t;cases t
     have p:=Iy v (E j n v i G N) (λcs b=>A Z d_ cs b hi) (λcs b=>A j n cs b v) J u f
     have X:∀k ok,ops[k]? = some ok->k≠Z->(d.setIfInBounds j true).getD k true=false->
         (∀e ∈ ok.after,Region.binds md e=true->e.on≠Z)->d_.apart ops ok=true:=λk ok Y aa H ab=>by
       refine E k ok Y aa ?_ ab
       by_cases I:j=k
       · subst I; exact G
       · rw [getD_set_ne true I] at H; exact H
     refine wpOp_mono (λac ad y=>L (d.setIfInBounds j true) ac ad X (ready_mono l<|AE i) (F.set r) y.1 ?_ U ?_) p
     · have z:=y.2.c
       rw [DS _ _ (AE i)] at z;exact ⟨λae=>z.1<|(Bj K).2 ae,z.2⟩
     · rw [DS _ _ i]
       exact y.2
inductive cV where
 | nil
 | stop
 | q (m:Bool) (i:Nat) (r:cV)
 | e (i:Nat) (r alt:cV)
def cV.alts:cV->List Nat
 | .e i _ a=>i::a.alts
 | _=>[]
def behind (md:Region.Mode) (ops:Array Oper) (i:Nat) (S:List Nat):Bool:=S.all λs=>jw md ops i ops.size s
def Bk (i:Nat) (S:List Nat):Bool:=S.all λs=>!(Nat.beq s i)
def IZ (h:Bk Z S=true):Z ∉ S:=λhi=>by
 have:=gN.1 h Z hi;simp at this
def fR (md:Region.Mode) (ops:Array Oper):List Nat->Array Bool->Bool
 | [],listed=>(Region.ready md ops listed).isEmpty
 | s::r,listed=>Region.ready md ops listed==[s]&&fR md ops r (listed.setIfInBounds s true)
def kt (md:Region.Mode) (ops:Array Oper) (S:List Nat):Bool->cV->Nat->Array Bool->Bool
 | top,.nil,k,listed=>top&&(Nat.beq k S.length&&fR md ops S listed)
 | top,.stop,_,_=>!top
 | top,.q m i r,k,listed=>match k with
   | 0=>false
   | k+1=>top&&((Region.ready md ops listed).contains i&&(Region.free md ops listed i&&(Bk i S&&((!m||behind md ops i S)&&kt md ops S true r k (listed.setIfInBounds i true)))))
 | top,.e i r alt,k,listed=>match k with
   | 0=>false
   | k+1=>(bif top then Region.ready md ops listed==i::alt.alts else true)&&(Bk i S&&(kt md ops S true r k (listed.setIfInBounds i true)&&kt md ops S false alt (k+1) listed))
def tt (P:Program) (ops:Array Oper) (D:World->Prop) (Q:Exit->Act->World->Prop):List Nat->Act->World->Prop
 | [],a,w=>D w/\Q .normal a w
 | s::r,a,w=>D w/\wpOp P ops Q s (tt P ops D Q r) a w
def rc (P:Program) (ops:Array Oper) (S:List Nat) (C D:World->Prop) (Q:Exit->Act->World->Prop):cV->Act->World->Prop
 | .nil,a,w=>C w/\tt P ops D Q S a w
 | .stop,_,_=>True
 | .q m i r,a,w=>(C w/\D w)/\∃o v,ops[i]? = some o/\YV P ops (bif m then C else D) o v a/\rc P ops S C D Q r (a.put o.dst v) w
 | .e i r alt,a,w=>(C w/\D w)/\(wpOp P ops Q i (rc P ops S C D Q r) a w/\rc P ops S C D Q alt a w)
def G6:∀(r:List Nat) (b:Array Bool) (a:Act) (w:World),(r=S/\C w\/¬cu S b)->(∀s ∈ r,s ∈ S)->(∀s ∈ r,b.getD s true=false)->fR md ops r b=true->tt P ops D Q r a w->qp P md ops S C D Q r.length b a w
 | [],b,a,w,c,_,_,d,h=>⟨⟨λe=>(by rcases c with c | c; exact c.2; exact absurd e c),h.1⟩,by simpa [fR] using d,h.2⟩
 | s::r,b,a,w,c,l,o,d,h=>by
   simp only [fR,dE,aac] at d;refine ⟨⟨λe=>(by rcases c with c | c; exact c.2; exact absurd e c),h.1⟩,λi=>(by rw [i] at d; cases d.1),λj g=>?_⟩;rw [d.1] at g;simp at g;subst g
   have p:j<b.size:=by
     have:=o j ai
     rcases mb j b.size with f | f
     · exact f
     · simp [wm f] at this
   have q:¬cu S (b.setIfInBounds j true):=λe=>by
     have:=e j (l j ai);simp [jD,p] at this
   refine wpOp_mono (λm n f=>I0 r (b.setIfInBounds j true) m n q (λs k=>l s (by simp [k])) d.2 f) h.2
where
 I0:∀(r:List Nat) (b:Array Bool) (a:Act) (w:World),¬cu S b->(∀s ∈ r,s ∈ S)->fR md ops r b=true->tt P ops D Q r a w->qp P md ops S C D Q r.length b a w
 | [],b,a,w,c,_,d,h=>⟨⟨λe=>absurd e c,h.1⟩,by simpa [fR] using d,h.2⟩
 | s::r,b,a,w,c,l,d,h=>by
   simp only [fR,dE,aac] at d;refine ⟨⟨λe=>absurd e c,h.1⟩,λi=>(by rw [i] at d; cases d.1),λj g=>?_⟩;rw [d.1] at g;simp at g;subst g;refine wpOp_mono (λm n f=>I0 r (b.setIfInBounds j true) m n (λe=>c λs k=>?_) (λs k=>l s (by simp [k])) d.2 f) h.2;have:=e s k
   rcases Nat.decEq j s with t | i
   · rwa [getD_set_ne true t] at this
   · subst i
     rcases mb j b.size with f | f
     · simp [jD,f] at this
     · simp [jD] at this
def Bl {ok:Option Tmp->Bool} (p:uY ok ops=true) (l:Region.noSelect ops=true) (t:∀c a w d v,ok d=true->Q (.panic c) (a.put d v) w->Q (.panic c) a w):∀(o:cV) (k:Nat) (f:Array Bool) (a:Act) (w:World),cu S f->jp md ops f->
   (kt md ops S true o k f=true->rc P ops S C D Q o a w->qp P md ops S C D Q k f a w)/\
   ((∀j ∈ o.alts,j ∈ Region.ready md ops f)->kt md ops S false o k f=true->rc P ops S C D Q o a w->∀j ∈ o.alts,∃x,k=x+1/\wpOp P ops Q j (qp P md ops S C D Q x<|f.setIfInBounds j true) a w)
 | .nil,k,f,a,w,hu,_=>by
   refine ⟨λb h=>?_,λ_ b=>by simp [kt] at b⟩;simp only [kt,ef,dE] at b;obtain rfl:=j2 b.1;exact G6 S f a w (.inl ⟨O,h.1⟩) ay hu b.2 h.2
 | .stop,k,f,a,w,hu,_=>⟨λb=>by simp [kt] at b,λ_ _ _ j g=>by simp [cV.alts] at g⟩
 | .q m i r,k,f,a,w,hu,n=>by
   cases k with
   | zero=>exact ⟨λb=>by simp [kt] at b,λ_ b=>by simp [kt] at b⟩
   | succ k=>
     refine ⟨λb h=>?_,λ_ b=>by simp [kt] at b⟩;simp only [kt,ef,dE] at b;obtain ⟨G,H,I,A,J⟩:=b;obtain ⟨hC,o,v,y,K,h⟩:=h;have B:=IZ I
     have L:Kept md ops S C D (bif m then C else D) i:=by
       cases m with
       | false=>exact .inl λ_ h=>h
       | true=>
         refine .inr ⟨λ_ h=>h,λs l=>?_⟩;simp only [Bool.not_true,Bool.false_or] at A;exact gN.1 A s l
     have E:i ∈ Region.ready md ops f:=by simpa using G
     exact P0 y (Region.noSelect_spec l) (λc a w=>t c a w o.dst v<|IS p y) B L k f a w (Region.free_spec y H) E n K ⟨λ_=>hC.1,hC.2⟩ (.inr hu)
       ((Bl p l t r k _ _ _ ((Bj B).2 hu)<|n.set E).1 J h)
 | .e i r alt,k,f,a,w,hu,n=>by
   cases k with
   | zero=>exact ⟨λb=>by simp [kt] at b,λ_ b=>by simp [kt] at b⟩
   | succ k=>
     have F:(∀j ∈ i::alt.alts,j ∈ Region.ready md ops f)->Bk i S=true->kt md ops S true r k (f.setIfInBounds i true)=true->kt md ops S false alt (k+1) f=true->rc P ops S C D Q (.e i r alt) a w->
         ∀j ∈ i::alt.alts,wpOp P ops Q j (qp P md ops S C D Q k<|f.setIfInBounds j true) a w:=by
       intro u M N R h j g
       rcases ep.1 g with rfl | g
       · exact wpOp_mono (λT U V=>(Bl p l t r k _ T U ((Bj<|IZ M).2 hu)<|n.set<|u _ ai).1 N V) h.2.1
       · obtain ⟨x,z,W⟩:=(Bl p l t alt (k+1) f a w hu n).2 (λj g=>u j (by simp [g])) R h.2.2 j g
         injection z with z
         subst z;exact W
     refine ⟨λb h=>?_,λu b h j g=>?_⟩
     · simp only [kt,aae,dE,aac] at b
       refine ⟨⟨λ_=>h.1.1,h.1.2⟩,λX=>(by rw [X] at b; cases b.1),λj g=>?_⟩;rw [b.1] at g;exact F (λj g=>by rw [b.1]; exact g) b.2.1 b.2.2.1 b.2.2.2 h j g
     · simp only [kt,aaj,ef,dE] at b
       exact ⟨k,O,F u b.1 b.2.1 b.2.2 h j g⟩
variable {n:Nat} {ds:List Deferred} {l:List (Nat×Value)} {W:World->Prop}
def WU (P:Program) (ops:Array Oper) (S:List Nat) (C D:World->Prop) (Q:Exit->Act->World->Prop) (n:Nat) (ds:List Deferred) (l:List (Nat×Value)) (W:World->Prop) (ord:cV):Prop:=
 ∀a w,Ag n ds l a->W w->rc P ops S C D Q ord a w
def WS (P:Program) (ops:Array Oper) (D:World->Prop) (Q:Exit->Act->World->Prop) (n:Nat) (ds:List Deferred) (l:List (Nat×Value)) (W:World->Prop) (S:List Nat):Prop:=
 ∀a w,Ag n ds l a->W w->tt P ops D Q S a w
abbrev oS:World->Prop:=λ_=>True
def Bm (k:Nat) (S:List Nat):Bool:=S.all λs=>Nat.blt s k
def Hs (h:Bm ops.size S=true):cu S (Array.replicate ops.size false):=λs a=>by
 have:=gN.1 h s a;have b:=Nat.blt_eq.mp this;simp [jD,b]
variable {bF:List Oper}
def WC.I1 {W' e f:World->Prop} (ok:Option Tmp->Bool) (S:List Nat) (ord:cV) (g:P.follows .mixedOrders=true) (i:∀w,W' w->W' w.drew)
   (b:(uY ok bF.toArray&&(Region.noSelect bF.toArray&&(Bm bF.toArray.size S&&kt .any bF.toArray S true ord bF.toArray.size (Array.replicate bF.toArray.size false))))=true)
   (k:∀c a w d v,ok d=true->Q (.panic c) (a.put d v) w->Q (.panic c) a w) (h:WU P bF.toArray S e f Q n ds l W' ord):WC P (.region Z bF.toArray true) Q n ds l W':=by
 intro a w m p;simp only [dE] at b
 have:=IW (md:=.any) _ _ _ _ ((Bl b.1 b.2.1 k ord _ _ a w.drew (Hs b.2.2.1) (λj o q r=>by
   have s:j<bF.length:=by simpa using (H3.1 q).1
   simp [jD,Array.getElem?_replicate,s] at r)).1 b.2.2.2<|h a w.drew m<|i w p)
 exact wp_region_any g this
variable {dF:List Nat} {dd:List aQ} {e0:List View}
def CU (ok:Option Tmp->Bool) (b:List Nat) (S:List Nat) (ord:cV) (e:P.follows .mixedOrders=true)
   (f:(uY ok bF.toArray&&(Region.noSelect bF.toArray&&(Bm bF.toArray.size S&&kt .any bF.toArray S true ord bF.toArray.size (Array.replicate bF.toArray.size false))))=true)
   (g:∀c a w d v,ok d=true->Q (.panic c) (a.put d v) w->Q (.panic c) a w) (h:WU P bF.toArray S (Ws bY dF (outs b dd) e0) oS Q n ds l (Ws bY dF dd e0) ord):WC P (.region Z bF.toArray true) Q n ds l (Ws bY dF dd e0):=
 WC.I1 ok S ord e (λ_ h=>h.drew) f g h
def WC.P3 (ok:Option Tmp->Bool) (b e:List Nat) (S:List Nat) (ord:cV) (f:P.follows .mixedOrders=true)
   (g:(uY ok bF.toArray&&(Region.noSelect bF.toArray&&(Bm bF.toArray.size S&&kt .any bF.toArray S true ord bF.toArray.size (Array.replicate bF.toArray.size false))))=true)
   (i:∀c a w d v,ok d=true->Q (.panic c) (a.put d v) w->Q (.panic c) a w) (h:WU P bF.toArray S (Ws bY dF (outs b dd) e0) (Ws bY dF (outs e dd) e0) Q n ds l (Ws bY dF dd e0) ord):WC P (.region Z bF.toArray true) Q n ds l (Ws bY dF dd e0):=
 WC.I1 ok S ord f (λ_ h=>h.drew) g i h
variable {ax:Bool} {AY:cV} {aw:Nat} {j3:Op} {a0:TypeId} {fY:String} {gF:Array Edge} {g3:Option (Nat×Bool)}
def WV.q (hi:ops[Z]? = some ⟨some aw,j3,a0,fY,gF,g3⟩) (d:aK ops l g3) (e:Nat.blt aw n=true)
   (hC:∀w,W w->C w) (f:∀w,W w->D w) (g:Yl P l (bif ax then C else D) ⟨some aw,j3,a0,fY,gF,g3⟩ a5) (h:WU P ops S C D Q n ds ((aw,a5)::l) W AY):WU P ops S C D Q n ds l W (.q ax Z AY):=by
 intro a w b c;refine ⟨⟨hC w c,f w c⟩,_,a5,hi,.inl ⟨aK.wanted (o:=⟨some aw,j3,a0,fY,gF,g3⟩) d b,λi j=>g a.eval i (λx u k=>b.eval k) j⟩,h _ _ (b.put e a5) c⟩
def Uq (hi:ops[Z]? = some ⟨some aw,j3,a0,fY,gF,g3⟩) (a:aK ops l g3) (b:Nat.blt aw n=true)
   (hC:∀w,W w->C w) (c:Yl P l (bif ax then C else λ_=>True) ⟨some aw,j3,a0,fY,gF,g3⟩ a5) (h:WU P ops S C oS Q n ds ((aw,a5)::l) W AY):WU P ops S C oS Q n ds l W (.q ax Z AY):=WV.q hi a b hC (λ_ _=>trivial) c h
def U0 (hi:ops[Z]? = some ⟨some aw,j3,a0,fY,gF,none⟩) (hC:∀w,W w->C w) (a:Yl P l (bif ax then C else λ_=>True) ⟨some aw,j3,a0,fY,gF,none⟩ a5) (h:WU P ops S C oS Q n ds ((aw,a5)::l) W AY) (b:Nat.blt aw n=true:=by rfl):WU P ops S C oS Q n ds l W (.q ax Z AY):=Uq hi (.inl rfl) b hC a h
def WU.skip {j:Nat}   {b:Nat} (hi:ops[Z]? = some ⟨some aw,j3,a0,fY,gF,some (j,ax)⟩) (f:Nat.blt aw n=true)
   (g:ops[j]? = some d_) (i:d_.dst=some b) (k:Nat.blt b n=true) (m:lk l b=some (.bool<|!ax))
   (hC:∀w,W w->C w) (h:WU P ops S C oS Q n ds ((aw,undef)::l) W AY):WU P ops S C oS Q n ds l W (.q false Z AY):=by
 intro a w c d;have hv:a.tmps.getD b undef = .bool (!ax):=c.h7 b _ m
 have e:b<a.tmps.size:=by rw [c.size]; exact qf k
 have o:a.tmps[b]? = some (.bool<|!ax):=by
   rw [jD,hJ e] at hv;rw [hJ e]
   simpa using hv
 have p:yielded ops a.tmps j=some (!ax):=by simp [yielded,g,i,o]
 exact ⟨⟨hC w d,trivial⟩,_,undef,hi,.inr ⟨by simp [Region.wanted,p],O⟩,h _ _ (c.put f undef) d⟩
def I2 {c:Act->World->Prop} (hi:ops[Z]? = some d_)   (this:wpList P ops (Exit.then c Q) [d_] bc bY):wpOp P ops Q Z c bc bY:=by
 unfold wpList at this;unfold wpOp;simp only [hi]
 split
 · rename_i b
   rw [ZZ b] at this
   rcases this with this | ⟨d,a2,f,g⟩
   · left
     unfold Oper.wp at this ⊢;unfold Oper.upon at this ⊢
     split at this
     all_goals first
       | exact this
       | (refine this.mono λe h a=>?_
          cases e with
          | returned v=>exact a
          | panicked k=>exact a
          | outgrown=>obtain ⟨a3,i,j⟩:=a; exact ⟨a3,i,j⟩)
       | exact this.mono λv h a=>a
   · exact .inr ⟨d,a2,f,g⟩
 · rename_i b
   rw [ZX b] at this;exact this
variable {cW:cV}
def WV.e {o:Oper} (hi:ops[Z]? = some o) (hC:∀w,W w->C w) (d:∀w,W w->D w) (h:WL P ops (Exit.then (rc P ops S C D Q AY) Q) n ds l W [o]) (f:WU P ops S C D Q n ds l W cW):WU P ops S C D Q n ds l W (.e Z AY cW):=
 λa w c b=>⟨⟨hC w b,d w b⟩,I2 hi<|h a w c b,f a w c b⟩
def Ue (hi:ops[Z]? = some d_) (hC:∀w,W w->C w) (h:WL P ops (Exit.then (rc P ops S C oS Q AY) Q) n ds l W [d_]) (a:WU P ops S C oS Q n ds l W cW):WU P ops S C oS Q n ds l W (.e Z AY cW):=WV.e hi hC (λ_ _=>trivial) h a
def WU.stop:WU P ops S C D Q n ds l W .stop:=λ_ _ _ _=>trivial
def Eu (h:WU P ops S C D Q n ds l W AY):WE (Exit.then (rc P ops S C D Q AY) Q) .normal n ds l W:=h
def WU.nil (hC:∀w,W w->C w) (h:WS P ops D Q n ds l W S):WU P ops S C D Q n ds l W .nil:=λa w c b=>⟨hC w b,h a w c b⟩
def lO.nil (c:∀w,W w->D w) (h:WE Q .normal n ds l W):WS P ops D Q n ds l W []:=λa w d b=>⟨c w b,h a w d b⟩
def WS.nil (h:WE Q .normal n ds l W):WS P ops oS Q n ds l W []:=lO.nil (λ_ _=>trivial) h
def lO.e {o:Oper} (hi:ops[Z]? = some o) (c:∀w,W w->D w) (h:WL P ops (Exit.then (tt P ops D Q dF) Q) n ds l W [o]):WS P ops D Q n ds l W (Z::dF):=
 λa w d b=>⟨c w b,I2 hi<|h a w d b⟩
def WS.e {o:Oper} (hi:ops[Z]? = some o) (h:WL P ops (Exit.then (tt P ops oS Q dF) Q) n ds l W [o]):WS P ops oS Q n ds l W (Z::dF):=lO.e hi (λ_ _=>trivial) h
def Es (h:WS P ops D Q n ds l W dF):WE (Exit.then (tt P ops D Q dF) Q) .normal n ds l W:=h
end
end Go.Bw
end
section
namespace Go.Bw
set_option linter.unnecessarySimpa false
open Go Go.RowKit
def pZ {α:Type} {f:α->List Value} {e:TypeId} {k c b o:Nat} {a:Option Addr} {xs:List α} {w:World} (h:(cC e k f a c xs).holds w) (j:a=some ⟨b,o,none⟩) :
   o=0/\∃i,w.heap[b]? = some (.cells i e (0,0))/\i.toList.take (xs.length*k)=xs.flatMap f/\i.size=c*k/\xs.length<=c:=by
 subst j;obtain ⟨t,l⟩:=(h:w.ownsRow 0 e k _ xs.length (xs.flatMap f))
 rcases l with ⟨d,_⟩ | ⟨g,cap,i,hv,_,m,n,u,p,q⟩
 · cases d
 · injection hv with d _ r
   injection d with d
   injection d with d s
   subst d r s;exact ⟨O,i,m,q,p,n⟩
section
variable {P:Program} {ops:Array Oper} {Q:Exit->Act->World->Prop} {n:Nat} {ds:List Deferred} {l:List (Nat×Value)} {w0:World} {F:List Nat} {L:List aQ} {Vs:List View} {rest:List Oper}
 {ty:TypeId} {pos:String} {af:Array Edge} {g:Option (Nat×Bool)}
variable {bB:Type} {lW:bB->List Value} {a0:TypeId} {Z aw:Nat} {dj:Option Addr} {b_:List bB}
def EG {w:World} (d:Ws w0 F L Vs w) (i:Nat) (hL:L[i]? = some (cC a0 Z lW dj aw b_)) (h:0<b_.length):(∃b,dj=some ⟨b,0,none⟩)/\b_.length<=aw/\aw<=maxLen:=by
 obtain ⟨j,e⟩:=(d.kn _ (aY hL):w.ownsRow 0 a0 Z _ b_.length (b_.flatMap lW))
 rcases e with ⟨a,c⟩ | ⟨b,cap,k,hv,_,_,f,g,_⟩
 · injection a with _ l _; omega
 · injection hv with a _ c
   subst a c;exact ⟨⟨b,O⟩,f,g⟩
variable {fo:Code}
def WC.re (i:Nat) (hL:L[i]? = some (cC a0 Z lW dj aw b_)) (c:0<b_.length)
   (h:∀b,dj=some ⟨b,0,none⟩->b_.length<=aw->aw<=maxLen->WC P fo Q n ds l (Ws w0 F L Vs)):WC P fo Q n ds l (Ws w0 F L Vs):=by
 intro d w e a;obtain ⟨⟨b,f⟩,g,j⟩:=EG a i hL c;exact h b f g j d w e a
def WL.re (i:Nat) (hL:L[i]? = some (cC a0 Z lW dj aw b_)) (c:0<b_.length)
   (h:∀b,dj=some ⟨b,0,none⟩->b_.length<=aw->aw<=maxLen->WL P ops Q n ds l (Ws w0 F L Vs) rest):WL P ops Q n ds l (Ws w0 F L Vs) rest:=by
 intro d w e a;obtain ⟨⟨b,f⟩,g,j⟩:=EG a i hL c;exact h b f g j d w e a
def WC.P4 (i:Nat) (hL:L[i]? = some (cC a0 Z lW dj aw b_))
   (h:(∀p,dj=some p->p.spot=none)->b_.length<=aw->aw<=maxLen->WC P fo Q n ds l (Ws w0 F L Vs)):WC P fo Q n ds l (Ws w0 F L Vs):=by
 intro d w e a;obtain ⟨q,g⟩:=(a.kn _ (aY hL):w.ownsRow 0 a0 Z _ b_.length (b_.flatMap lW))
 rcases g with ⟨c,f⟩ | ⟨b,cap,r,hv,_,_,j,k,_⟩
 · injection c with m s o
   subst m o;exact h ai aa (by unfold maxLen; omega) d w e a
 · injection hv with c _ f
   subst c f;exact h ai j k d w e a
variable {dX:TypeId} {a5:Value}
def n4 {x:Operand} {b o p k c:Nat}   {y:bB}  {d:Option Tmp} (i j q:Nat) (h:bK l x=some (.pointer<|some ⟨b,p,none⟩)) (hL:L[i]? = some (cC dX k lW dj c b_)) (m:dj=some ⟨b,o,none⟩)
   (n:p=o+j*k+q) (e:∀x,(lW x).length=k) (r:b_[j]? = some y) (f:(lW y)[q]? = some a5) (s:oN P a0=true):Yl P l (Ws w0 F L Vs) ⟨d,.load a0 x,ty,pos,af,g⟩ a5:=AV s h λw t=>by
 obtain ⟨rfl,A,u,v,B,C⟩:=pZ (t.kn _<|aY hL) m;refine cell_of_heap u ?_
 have z:q<k:=by have:=(cq.1 f).1; rw [e] at this; exact this
 have a:(b_.flatMap lW)[j*k+q]? = some a5:=by rw [px e r z]; exact f
 rw [<-v,jq] at a
 split at a
 · subst n; simpa [i_] using a
 · cases a
def WL.storeT {x z:Operand} {b o p k d c:Nat}   {y:bB}  (i j q:Nat) (f:bB) (G:aK ops l g) (H:bK l x=some (.pointer<|some ⟨b,p,none⟩)) (I:bK l z=some a5) (hL:L[i]? = some (cC dX k lW dj c b_)) (m:dj=some ⟨b,o,none⟩)
   (J:p=o+j*k+q) (u:∀x,(lW x).length=k) (v:b_[j]? = some y) (K:aJ P a0=some d) (r:(aZ a5).length=d) (M:(aZ a5).all (·.oneCell')=true) (ao:q+d<=k) (N:lW f=(lW y).take q++aZ a5++(lW y).drop (q+d))
   (h:WL P ops Q n ds l (Ws w0 F (L.set i<|cC dX k lW dj c<|b_.set j f) Vs) rest):WL P ops Q n ds l (Ws w0 F L Vs) (⟨none,.store a0 x z,ty,pos,af,g⟩::rest):=by
 refine WL.step G λR w s A ap S=>?_;have B:(cC dX k lW dj c b_).holds w:=A.kn _ (aY hL);obtain ⟨rfl,a,C,T,t,U⟩:=pZ B m;have V:j<b_.length:=(cq.1 v).1
 have aq:j*k+k<=b_.length*k:=by rw [<-D1]; exact ya _ V
 have ar:b_.length*k<=c*k:=ya _ U
 have W:r6 (.cells a dX (0,0)) p d=true:=by
   simp only [r6,DQ,Bool.and_true,Bool.and_self];exact H0 (by simp [t]; omega)
 have X:(execOp R.eval ⟨none,.store a0 x z,ty,pos,af,g⟩).run P w = .ok .skip { w with heap:=w.heap.setIfInBounds b (mc (.cells a dX (0,0)) p<|aZ a5) }:=by
   simp only [execOp,s.eval H,s.eval I,Instr.storeAt,Instr.sureAddr,Sem.run_bind,Sem.run_pure,Result.andThen_ok,Is K r M C W]
 simp only [Oper.wp,X,Oper.upon_skip];refine S _ _<|h _ _ (s.yl undef) ?_;have Y:=lt_of_heap C
 have D:(b_.set j f).length=b_.length:=ai
 have Z:=PF u v (j:=q) (vs:=aZ a5) (y:=f) aa (by rw [r]; exact N);refine Ws.fC A i hL ⟨O,O,O,ai,λab au ac=>?_⟩ ?_ (by subst m; simp [a6,Value.ownBlock])<|λav E=>?_
 · have:b≠ab:=λad=>ac (by subst m; simp [a6,Value.ownBlock,ad])
   simp [tb this]
 · show World.ownsRow _ 0 dX k (.slice dj (b_.set j f).length c) (b_.set j f).length _
   rw [D];obtain ⟨aw,ae⟩:=(B:w.ownsRow 0 dX k _ b_.length (b_.flatMap lW));refine ⟨by rw [tq u,D],.inr ?_⟩
   rcases ae with ⟨ag,_⟩ | ⟨g,cap,ax,hv,ay,az,ah,aj,aA,aB⟩
   · subst m; cases ag
   · subst m
     injection hv with e _ ak
     injection e with e
     injection e with e
     subst e ak;refine ⟨b,c,(a.toList.take p++aZ a5++a.toList.drop (p+(aZ a5).length)).toArray,O,di _,?_,ah,aj,?_,?_⟩
     · show (w.heap.setIfInBounds b _)[b]? = _
       simp [Y,mc]
     · simp [t]; omega
     · rw [<-Z,<-T]
       subst J;simp only [lK]
       have al:a.toList.length=c*k:=by simp [t]
       have am:((a.toList.take<|b_.length*k).take<|j*k+q)=a.toList.take (j*k+q):=by rw [nV]; congr 1; omega
       have an:(a.toList.take<|j*k+q).length=j*k+q:=by rw [k',al]; omega
       have e:(a.toList.take (j*k+q)++aZ a5).length=j*k+q+d:=by rw [jE,an,r]
       rw [am,r]
       have aC:b_.length*k=(j*k+q+d)+(b_.length*k-(j*k+q+d)):=aa
       rw [DU,e,lJ (by rw [e]; omega),List.drop_take]
 · refine .inl ?_
   simp only [a6] at E ⊢;subst m
   simpa [Value.ownBlock] using E
def WL.yE (i:Nat) (ys:List bB) (hL:L[i]? = some (cC a0 Z lW dj aw b_)) (a:∀x,(lW x).length=Z) (b:ys.length<=b_.length) (c:b_.take ys.length=ys)
   (h:WL P ops Q n ds l (Ws w0 F (L.set i<|cC a0 Z lW dj aw ys) Vs) rest):WL P ops Q n ds l (Ws w0 F L Vs) rest:=
 WL.PZ i ys.length hL a b (by rw [c]; exact h)
variable {lN:aQ} {dd:List aQ}
def WL.I3 (h:WL P ops Q n ds l (Ws w0 F (lN::fZ dd::L) Vs) rest):WL P ops Q n ds l (Ws w0 F (fZ (lN::dd)::L) Vs) rest:=LW (λ_ h=>h.wK) h
def WL.I4 (h:WL P ops Q n ds l (Ws w0 F (fZ (lN::dd)::L) Vs) rest):WL P ops Q n ds l (Ws w0 F (lN::fZ dd::L) Vs) rest:=LW (λ_ h=>h.wL) h
def WC.I3 (h:WC P fo Q n ds l (Ws w0 F (lN::fZ dd::L) Vs)):WC P fo Q n ds l (Ws w0 F (fZ (lN::dd)::L) Vs):=nf (λ_ h=>h.wK) h
def WC.I4 (h:WC P fo Q n ds l (Ws w0 F (fZ (lN::dd)::L) Vs)):WC P fo Q n ds l (Ws w0 F (lN::fZ dd::L) Vs):=nf (λ_ h=>h.wL) h
def WL.perm (a:L.Perm dd) (h:WL P ops Q n ds l (Ws w0 F dd Vs) rest):WL P ops Q n ds l (Ws w0 F L Vs) rest:=LW (λ_ h=>h.perm a) h
end
end Go.Bw
end
section
namespace Go.Bw
set_option linter.unnecessarySimpa false
open Go Go.RowKit
section
variable {P:Program} {ops:Array Oper} {Q:Exit->Act->World->Prop} {n:Nat} {ds:List Deferred} {l:List (Nat×Value)} {w0 w:World} {F:List Nat} {L:List aQ} {Vs:List View} {rest:List Oper} {A:aQ} {As:List aQ}
def Ws.P5 (h:Ws w0 F L Vs w) (i:Nat) (hL:L[i]? = some (fZ<|A::As)):Ws w0 F (L.set i<|fZ As) Vs w:=by
 have a:=(h.perm<|nh i L hL).wK;have b:Ws w0 F (fZ As::fk i L) Vs w:=Ws.drop (L:=[A]) a;exact b.perm<|set_perm i L hL
def Ws.I5 (h:Ws w0 F L Vs w) (i:Nat) (hL:L[i]? = some (fZ As)) (e:TypeId) (size:Nat):Ws w0 F (L.set i<|fZ<|a6 e size (.slice none 0 0) 0 []::As) Vs w:=by
 have a:=(h.perm<|nh i L hL).g4 e size;have b:=a.wL;exact b.perm<|set_perm i L hL
def Ws.aj (h:Ws w0 F L Vs w) (i:Nat) (hL:L[i]? = some A):Ws w0 F (A::fk i L) Vs w:=h.perm<|nh i L hL
def WL.I6 {t f e:TypeId} {z:Value} {kn k:IntKind} {o d:Nat} {x y:Operand} {ty:TypeId} {pos:String} {af:Array Edge} {g:Option (Nat×Bool)} (m:Nat) (r:aK ops l g) (s:Nat.blt d n=true) (i:hf P t e z 1 o) (u:P.underlying f=some (.int kn))
   (v:bK l x=some (.slice none 0 0)) (A:bK l y=some (.int k (m:Int))) (B:0<m) (p:m<=maxLen) (C:m*o<=281474976710656)
   (h:∀b c q,m<=c->c<=maxLen->q.size=c->WL P ops Q n ds ((d,.slice (some ⟨b,0,none⟩) m c)::l) (Ws w0 F (aq b (.cells q e (0,0))::L) Vs) rest) :
   WL P ops Q n ds l (Ws w0 F L Vs) (⟨some d,.call ⟨.builtin .append,#[x,y],#[t,f]⟩,ty,pos,af,g⟩::rest):=by
 refine WL.step r λa w j D O E=>?_;obtain ⟨G,hi,H,R,I⟩:=i.info;have J:=Lib.run_append_nil_zeros (P:=P) w t f ty e G z k kn i.under u hi H m B aa (by unfold maxLen at p; omega) (by rw [I]; exact C)
 have K:(execOp a.eval ⟨some d,.call ⟨.builtin .append,#[x,y],#[t,f]⟩,ty,pos,af,g⟩).run P w = .ok (.value<|.slice (some ⟨w.heap.size,0,none⟩) m<|grownCap w m 0 e) (w.drew.alloc<|.cells (Builtin.zeroCells z.cells m++Builtin.zeroCells z.cells (grownCap w m 0 e-m)) e):=by
   simp only [execOp,resolve,DR,k_,uH,j.eval v,j.eval A,Sem.run_bind,Sem.run_pure,Result.andThen_ok,invoke,builtin,J]
 simp only [Oper.wp,K,Oper.upon_value];have M:=grownCap_ge w m 0 e;refine E _ _<|h w.heap.size _ (Builtin.zeroCells z.cells m++Builtin.zeroCells z.cells (grownCap w m 0 e-m)) M (grownCap_le_maxLen w m 0 e p) ?_ _ _ (j.put s _) ?_
 · have N:z.cells.size=1:=i.zs
   simp [Builtin.zeroCells,N]; omega
 · exact D.drew.alloc _
end
section
variable {P:Program} {l:List (Nat×Value)} {W:World->Prop} {d:Option Tmp} {ty:TypeId} {pos:String} {af:Array Edge} {g:Option (Nat×Bool)}
def Bo {t:TypeId} {x:Operand} {a:Option Addr} {n c s:Nat} (b:aat P t=some s) (f:bK l x=some (.slice a n c)):Yl P l W ⟨d,.call ⟨.builtin .cap,#[x],#[t]⟩,ty,pos,af,g⟩ (.int .i64 (c:Int)):=by
 intro j w h _;unfold aat at b
 cases e:P.underlying t with
 | none=>simp [e] at b
 | some i=>
   cases i<;>simp [e] at b
   simp [execOp,resolve,invoke,builtin,h x _ f,Builtin.cap_,run_underlying e,goInt]
end
end Go.Bw
end
section
namespace Go.Bw
set_option linter.unnecessarySimpa false
open Go Go.RowKit
section
variable {P:Program} {ops:Array Oper} {Q:Exit->Act->World->Prop} {n:Nat} {ds:List Deferred} {l:List (Nat×Value)} {w0 w:World} {F:List Nat} {L:List aQ} {Vs:List View} {rest:List Oper}
 {ty:TypeId} {pos:String} {af:Array Edge} {g:Option (Nat×Bool)} {d:Nat}
def WL.tu {α:Type} {f:α->List Value} {rd:View->Nat->Nat->α->Prop} {t e:TypeId} {z:Value} {size J:Nat} {s y:Operand} {a a2:Option Addr} {c c2:Nat} {xs ys:List α} (i:Nat) (j:World->View) (K:aK ops l g) (M:Nat.blt d n=true) (q:hf P t e z size J)
   (N:bK l s=some (.slice a xs.length c)) (O:bK l y=some (.slice a2 ys.length c2)) (hL:L[i]? = some (cC e size f a c xs)) (R:∀w,Ws w0 F L Vs w->Le (j w) w/\Sl rd size (j w) a2 c2 ys) (T:∀j b o x,rd j b o x->ar j b o (f x))
   (S:∀x,(f x).length=size) (U:∀x,(f x).all (·.oneCell')=true) (av:xs.length+ys.length<=9223372036854775807) (V:(xs.length+ys.length)*J<=140737488355328)
   (h:∀C D,WL P ops Q n ds ((d,.slice C (xs++ys).length D)::l) (Ws w0 F (L.set i<|cC e size f C D<|xs++ys) Vs) rest) :
   WL P ops Q n ds l (Ws w0 F L Vs) (⟨some d,.call ⟨.builtin .append,#[s,y],#[t,t]⟩,ty,pos,af,g⟩::rest):=by
 cases a2 with
 | none=>
   refine WL.step K λW w H A aw X=>?_;obtain ⟨Y,hi,ax,ay,az⟩:=q.info;obtain ⟨_,E⟩:=R w A
   have Z:ys=[]:=by
     cases ys with
     | nil=>rfl
     | cons x r=>obtain ⟨b,o,B,_⟩:=E.b5 0 x rfl; cases B
   subst Z;have aa:w.ownsRow 0 e size (.slice a xs.length c) xs.length (xs.flatMap f):=A.kn _ (aY hL)
   have ab:xs.length<=c:=by
     rcases aa.2 with ⟨ac,_⟩ | ⟨b,cap,aA,hv,_,_,aB,_⟩
     · injection ac with _ aC ad; omega
     · injection hv with _ _ ad; omega
   have ae:=run_append_nothing (P:=P) w t t ty e Y q.under hi a xs.length c ab (.slice none 0 c2) ⟨.inl ⟨e,q.under⟩,by simp [Builtin.lenOf],run_firstCells_none w _ 0 0 c2,run_firstCells_none w.drew _ 0 0 c2,ai,ai⟩
   have ag:(execOp W.eval ⟨some d,.call ⟨.builtin .append,#[s,y],#[t,t]⟩,ty,pos,af,g⟩).run P w = .ok (.value<|.slice a xs.length c) w:=by
     simp only [execOp,resolve,DR,k_,uH,H.eval N,H.eval O,Sem.run_bind,Sem.run_pure,Result.andThen_ok,invoke,builtin,iT,ae]
   simp only [Oper.wp,ag,Oper.upon_value];have ah:i<L.length:=(cq.1 hL).1
   have aj:L.set i (cC e size f a c xs)=L:=by
     rw [<-(cq.1 hL).2]; exact yb ah
   have I:=h a c;simp only [wr] at I;rw [aj] at I;exact X _ _<|I _ _ (H.put M _) A
 | some p=>
   have ak:(xs.flatMap f)++ys.flatMap f=(xs++ys).flatMap f:=ai
   have al:xs.length+ys.length=(xs++ys).length:=ai
   refine WL.append i K M q N O hL (news:=ys.flatMap f) (k:=ys.length) (tq S ys) (λw A k u G=>?_) (λu G=>?_) (by unfold maxLen; omega) V λam _=>?_
   · obtain ⟨an,E⟩:=R w A
     have ao:=(cq.1 G).1
     have ap:0<ys.length:=by
       cases ys with
       | nil=>simp at ao
       | cons x r=>simp
     obtain ⟨b,o,B,_⟩:=E.b5 0 _ (c6 ap)
     injection B with B
     subst B;rw [qj];have aq:=q.pos;exact an.cell<|E.flat S aq (T _) k u G
   · obtain ⟨x,_,au⟩:=ci.1 G
     exact gN.1 (U x) u au
   · rw [ak,al]
     have hi:i<L.length:=(cq.1 hL).1;refine WL.IN i (m:=(xs++ys).length) (xs:=(xs++ys).flatMap f) (e:=e) (size:=size) (v:=am) (by simp [hi]) λC D hv=>?_;subst hv;exact h C D
def WL.yF {ι:Type} {f:FuncId} {args:Array Operand} {ts:Array TypeId} {vs:List Value} (o:aK ops l g) (p:Nat.blt d n=true) (q:Enters P f) (r:ip l args.toList=some vs)
   (v:ι->Value) (c:ι->List aQ) (R:ι->Prop)
   (hC:∀w,Ws w0 F L Vs w->Calls P f vs.toArray w λe j=>∃i,e = .returned (v i)/\R i/\Ws w [] (c i) [] j)
   (s:∀i,R i->WL P ops Q n ds ((d,v i)::l) (Ws w0 F (c i++L) Vs) rest) :
   WL P ops Q n ds l (Ws w0 F L Vs) (⟨some d,.call ⟨.value<|.func f,args,ts⟩,ty,pos,af,g⟩::rest):=by
 refine WL.call o p q r v (λi j=>R i/\Ws w0 F (c i++L) Vs j) (λw b=>(hC w b).mono λe j ⟨i,t,u,h⟩=>⟨i,t,u,?_⟩) λi=>?_
 · exact Ws.wB (L:=[]) (L':=c i) (L2:=L) (by simpa using b) (by simpa using h.fr) h.kn h.nd (λx y k z=>by
     rcases h.own x y k z with m | m
     · simp at m
     · exact .inr m)
 · intro a w A b
   exact s i b.1 a w A b.2
end
end Go.Bw
end
section
namespace Go.Bw
set_option linter.unnecessarySimpa false
open Go Go.RowKit
section
variable {P:Program} {ops:Array Oper} {Q:Exit->Act->World->Prop} {n:Nat} {ds:List Deferred} {l:List (Nat×Value)} {w0:World} {F:List Nat} {L:List aQ} {Vs:List View} {rest:List Oper} {c:Code}
 {ty:TypeId} {pos:String} {af:Array Edge} {g:Option (Nat×Bool)}
variable {ja:World->Prop}
def WC.fact {p:Prop}  (d:∀w,ja w->p) (h:p->WC P c Q n ds l ja):WC P c Q n ds l ja:=λa w e b=>h (d w b) a w e b
def WL.fact {p:Prop}  (c:∀w,ja w->p) (h:p->WL P ops Q n ds l ja rest):WL P ops Q n ds l ja rest:=λa w d b=>h (c w b) a w d b
variable {bB:Type} {a0:TypeId} {bY:World}
def Ws.mQ {f:bB->List Value} {k b c:Nat}  {xs:List bB}  (h:Ws w0 F L Vs bY) (i:Nat) (hL:L[i]? = some (aq b<|.cells (xs.flatMap f).toArray a0 (0,0))) (d:∀x,(f x).length=k) (a:xs.length=c) (g:c<=maxLen):Ws w0 F (L.set i<|cC a0 k f (some ⟨b,0,none⟩) c xs) Vs bY:=by
 have e:=h.Iu i hL (m:=c) (cap:=c) (size:=k) (cQ _) g (by simp [tq d,a])
 have j:a6 a0 k (.slice (some ⟨b,0,none⟩) c c) c ((xs.flatMap f).toArray.toList.take<|c*k)=cC a0 k f (some ⟨b,0,none⟩) c xs:=by
   show _=a6 a0 k (.slice (some ⟨b,0,none⟩) xs.length c) xs.length (xs.flatMap f)
   rw [a,lJ (by rw [List.toList_toArray,tq d,a]; exact cQ _)]
 rw [j] at e;exact e
def WC.yG {ι:Type} {x y:Code}  (b:ι->List (Nat×Value)) (Wi:ι->World->Prop) (R:ι->Prop) (d:WC P x (Exit.then (λa w=>∃i,R i/\Ag n ds (b i) a/\Wi i w) Q) n ds l ja) (f:∀i,R i->WC P y Q n ds (b i) (Wi i)):WC P (.seq x y) Q n ds l ja:=by
 intro a w g h;refine wp_seq<|wp_mono (d a w g h) λe j k c=>?_
 cases e with
 | normal=>obtain ⟨i,m,o,p⟩:=c; exact f i m j k o p
 | _=>exact c
def Em {Q:Exit->Act->World->Prop}  {b:bB->List (Nat×Value)} {Wi:bB->World->Prop} {R:bB->Prop} (i:bB) (c:R i) (d:∀p ∈ b i,lk l p.1=some p.2) (e:∀w,ja w->Wi i w) :
   WE (Exit.then (λa w=>∃i,R i/\Ag n ds (b i) a/\Wi i w) Q) .normal n ds l ja:=λa w f g=>⟨i,c,f.sub d,e w g⟩
def h' {ι:Type} {Q:Exit->Act->World->Prop} {W:World->Prop} {b:ι->List (Nat×Value)} {Wi:ι->World->Prop} {R:ι->Prop} (i:ι) (c:R i) (d:∀w,W w->Wi i w) (e:ww l (b i)=wx (b i):=by rfl):WE (Exit.then (λa w=>∃i,R i/\Ag n ds (b i) a/\Wi i w) Q) .normal n ds l W:=Em i c (ym e) d
def EH {a:aQ} (i:Nat) (hL:L[i]? = some a):L.set i a=L:=by
 rw [<-(cq.1 hL).2]; exact yb (cq.1 hL).1
def WL.nn {a A':aQ} (i:Nat) (hL:L[i]? = some a) (b:a=A') (h:WL P ops Q n ds l (Ws w0 F (L.set i A') Vs) rest):WL P ops Q n ds l (Ws w0 F L Vs) rest:=by
 subst b; rwa [EH i hL] at h
def WC.nn {a A':aQ} (i:Nat) (hL:L[i]? = some a) (b:a=A') (h:WC P c Q n ds l (Ws w0 F (L.set i A') Vs)):WC P c Q n ds l (Ws w0 F L Vs):=by
 subst b; rwa [EH i hL] at h
def Ws.nn {a A':aQ} (h:Ws w0 F L Vs bY) (i:Nat) (hL:L[i]? = some a) (b:a=A'):Ws w0 F (L.set i A') Vs bY:=by
 subst b; rwa [EH i hL]
variable {lW:bB->List Value} {dj:Option Addr}
def P7 {t e:TypeId} {x:Operand} {b o p k c:Nat}  {xs:List bB} {y:bB} {v:Value} {d:Option Tmp} {As:List aQ} (i j q:Nat) (m:bK l x=some (.pointer<|some ⟨b,p,none⟩)) (hL:L[i]? = some (fZ As)) (n:cC e k lW dj c xs ∈ As) (r:dj=some ⟨b,o,none⟩)
   (s:p=o+j*k+q) (f:∀x,(lW x).length=k) (u:xs[j]? = some y) (h:(lW y)[q]? = some v) (z:oN P t=true):Yl P l (Ws w0 F L Vs) ⟨d,.load t x,ty,pos,af,g⟩ v:=AV z m λw A=>by
 have B:(cC e k lW dj c xs).holds w:=(A.kn _ (aY hL):(fZ As).holds w) _ n;obtain ⟨rfl,G,C,D,H,I⟩:=pZ B r;refine cell_of_heap C ?_
 have E:q<k:=by have:=(cq.1 h).1; rw [f] at this; exact this
 have a:(xs.flatMap lW)[j*k+q]? = some v:=by rw [px f u E]; exact h
 rw [<-D,jq] at a
 split at a
 · subst s; simpa [i_] using a
 · cases a
variable {Z aw:Nat} {b_:List bB}
def I7 {As:List aQ} (d:Ws w0 F L Vs bY) (i:Nat) (hL:L[i]? = some (fZ As)) (e:cC a0 Z lW dj aw b_ ∈ As) (g:0<b_.length):∃b o,dj=some ⟨b,o,none⟩:=by
 obtain ⟨h,f⟩:=((d.kn _ (aY hL):(fZ As).holds bY) _ e:bY.ownsRow 0 a0 Z _ b_.length (b_.flatMap lW))
 rcases f with ⟨a,c⟩ | ⟨b,cap,j,hv,_,_,k,l,_⟩
 · injection a with _ m _; omega
 · injection hv with a _ c
   subst a c;exact ⟨b,0,O⟩
def Bp (a:Ws w0 F L Vs bY) (i:Nat) (hL:L[i]? = some (cC a0 Z lW dj aw b_)) (c:0<b_.length):∃b o,dj=some ⟨b,o,none⟩:=by
 obtain ⟨⟨b,h⟩,_⟩:=EG a i hL c;exact ⟨b,0,h⟩
end
section
variable {P:Program} {l:List (Nat×Value)} {W:World->Prop} {d:Option Tmp} {ty:TypeId} {pos:String} {af:Array Edge} {g:Option (Nat×Bool)}
variable {a0 dX:TypeId} {be bX:Operand} {ew:IntKind} {aH bQ:Int}
def P8 (a:bK l be=some (.int ew aH)) (b:bK l bX=some (.int ew bQ)) (h:aH<bQ):Yl P l W ⟨d,.binOp .lss a0 be bX dX,ty,pos,af,g⟩ (.bool true):=by
 have:=cI (P:=P) (W:=W) (d:=d) (ty:=ty) (pos:=pos) (af:=af) (g:=g) (t:=a0) (u:=dX) a b
 rwa [show decide (aH<bQ)=true by simpa using h] at this
def P9 (a:bK l be=some (.int ew aH)) (b:bK l bX=some (.int ew bQ)) (h:bQ<=aH):Yl P l W ⟨d,.binOp .lss a0 be bX dX,ty,pos,af,g⟩ (.bool false):=by
 have:=cI (P:=P) (W:=W) (d:=d) (ty:=ty) (pos:=pos) (af:=af) (g:=g) (t:=a0) (u:=dX) a b
 rwa [show decide (aH<bQ)=false by simp; omega] at this
end
section
variable {P:Program} {l:List (Nat×Value)} {W:World->Prop} {d:Option Tmp} {ty:TypeId} {pos:String} {af:Array Edge} {g:Option (Nat×Bool)}
def wO (v:Value) (b:Bool):Prop:=(b=true->v = .nilIface)/\(b=false->∃t x,v = .iface t x)
def P' {t u:TypeId} {x:Operand} {v:Value} (b:Bool) (c:P.underlying t=some (.interface<|P.methodsAt t)) (e:bK l x=some v) (f:wO v b):Yl P l W ⟨d,.binOp .eql t x (.const .nilIface) u,ty,pos,af,g⟩ (.bool b):=by
 intro j w a _;have i:j (.const .nilIface) = .nilIface:=a _ _ rfl
 cases b with
 | true=>
   obtain rfl:=f.1 rfl;simp only [execOp,a x _ e,i,Sem.run_bind];simp [eqGuard_nil_constR,run_eql_nil_nil (h:=c)]
 | false=>
   obtain ⟨s,y,rfl⟩:=f.2 rfl
   have k:(eqGuard .eql t x (.const .nilIface) (.iface s y) .nilIface)=pure ():=by cases x<;>rfl
   simp only [execOp,a x _ e,i,Sem.run_bind,k];simp [run_eql_held_nil (h:=c)]
end
variable {jr:Program} {Z:Nat}
def WL.wk {ops:Array Oper} {Q:Exit->Act->World->Prop}  {ds:List Deferred} {l:List (Nat×Value)} {W W':World->Prop} {rest:List Oper} (b:∀w,W w->W' w) (h:WL jr ops Q Z ds l W' rest):WL jr ops Q Z ds l W rest:=λa w c d=>h a w c<|b w d
structure EI (P:Program) (gp gs gr:Nat) (H:View):Prop where
 pow:∃t f,H gp=some (.cells (Lib.pow10Tab.map λz=>Value.int .u64 z).toArray t f)
 Qb:∃ev,vc H gs 0=some ev/\(ev = .nilIface\/∃te pe,ev = .iface te pe)
 Qc:∃ev,vc H gr 0=some ev/\(ev = .nilIface\/∃te pe,ev = .iface te pe)
variable {bY:World} {fY:String}
def EI.yH {a c d:Nat} {b:View} (h:EI jr a c d b)  (e:Le b bY)  (g:jr.globalNamed fY=some a):Lib.TabIs jr bY fY .u64 Lib.pow10Tab:=by
 obtain ⟨t,f,i⟩:=h.pow;unfold Lib.TabIs World.var?;rw [g];simp [e _ _ i]
def Qd (a:Lib.TabIs jr bY fY .u64 Lib.pow10Tab) (c:jr.globalNamed fY=some Z):∃t f,hv bY Z=some (.cells (Lib.pow10Tab.map λz=>Value.int .u64 z).toArray t f):=by
 unfold Lib.TabIs World.var? at a;rw [c] at a;simp only [cS] at a
 cases b:bY.heap[Z]? with
 | none=>simp [b] at a
 | some o=>
   cases o with
   | cells cs t f=>
     simp only [b,aN] at a;subst a;exact ⟨t,f,b⟩
   | _=>simp [b] at a
def Qe (w:World) (k:Nat) (os:Array Obj):Ext w (Go.Sort.grow (w.drewN k) os):=by
 refine ⟨O,O,O,by simp [Go.Sort.grow,World.drewN],λb a _=>?_⟩;simp [Go.Sort.grow,World.drewN,AB,a]
structure qq {κ:Type} [BEq κ] [LawfulBEq κ] (kd:TypeDesc) (kv:κ->Value):Prop where
 same:∀a b,Instr.sameNow kd (kv a) (kv b)=some (a==b)
 isKey:∀a,MapKept.IsKey kd (kv a)
def mR:qq (.int .i64) (λn:Int=>Value.int .i64 n):=⟨λa b=>by simp [Instr.sameNow],λa=>by simp [MapKept.IsKey]⟩
def iW:qq .string st:=⟨λa b=>by simp only [st,Instr.sameNow,pN],λa=>by simp [MapKept.IsKey,st]⟩
section
variable {κ:Type} {kv:κ->Value}
abbrev aL (κ:Type):=κ×Value×Nat
def n5 (a:κ->Value) (e:aL κ):MapEntry:={ key:=a e.1,val:=e.2.1,born:=e.2.2 }
def cY (a:κ->Value) (m:List (aL κ)) (c:Nat):Obj:=.map (m.map<|n5 a).toArray c
def Qf (m:List (aL κ)) (j:Nat) (k:κ) (v:Value):(m.map<|n5 kv).modify j (λe=>{ e with key:=kv k,val:=v })=(m.modify j λe=>(k,v,e.2.2)).map (n5 kv):=by
 apply r0;intro i;simp only [eX,e4]
 cases m[i]? with
 | none=>simp
 | some e=>by_cases h:j=i<;>simp [h,n5]
variable {P:Program} {ops:Array Oper} {Q:Exit->Act->World->Prop} {n:Nat} {ds:List Deferred} {l:List (Nat×Value)} {w0:World} {F:List Nat} {L:List aQ} {Vs:List View} {rest:List Oper} {d:Nat} {ty:TypeId} {pos:String} {af:Array Edge} {g:Option (Nat×Bool)}
def WL.pD {t:TypeId} (a:κ->Value) (c:aK ops l g) (e:Nat.blt d n=true)
   (h:∀b,WL P ops Q n ds ((d,.map (some b))::l) (Ws w0 F (aq b (cY a [] 0)::L) Vs) rest) :
   WL P ops Q n ds l (Ws w0 F L Vs) (⟨some d,.makeMap t none,ty,pos,af,g⟩::rest):=
 WL.new (mk:=λb=>.map<|some b) (o:=cY a [] 0) c e (λf w _ _=>by
   simp only [execOp]
   simp [Instr.makeMap,cY]) h
end
section
variable {κ:Type} [BEq κ] [LawfulBEq κ] {kd:TypeDesc} {kv:κ->Value}
def dC (k:κ):List (aL κ)->Nat->Option (Nat×Value)
 | [],_=>none
 | e::r,i=>if (k==e.1)=true then some (i,e.2.1) else dC k r (i+1)
def aan (k:κ) (v:Value) (m:List (aL κ)) (c:Nat):List (aL κ):=match dC k m 0 with
 | some (i,_)=>m.modify i λe=>(k,v,e.2.2)
 | none=>m++[(k,v,c)]
def j7 (k:κ) (m:List (aL κ)) (c:Nat):Nat:=match dC k m 0 with | some _=>c | none=>c+1
def gn (k:κ) (m:List (aL κ)) (z:Value):Value:=match dC k m 0 with | some (_,v)=>v | none=>z
def oT (k:κ) (m:List (aL κ)):Bool:=(dC k m 0).isSome
def EL (a:qq kd kv) (k:κ):∀(m:List (aL κ)) (i:Nat),Instr.findNow kd (kv k) (m.map<|n5 kv) i=some (dC k m i)
 | [],_=>rfl
 | e::r,i=>by
   simp only [k_,Instr.findNow,n5,a.same,dC];cases h:(k==e.1)
   · simp only [dV,Z9]
     exact EL a k r<|i+1
   · simp
def I8 (k:κ) (j:Nat) (b:Value):∀(m:List (aL κ)) (a:Nat),dC k m a=some (j,b)->a<=j/\(m[j-a]?).map (·.1)=some k
 | [],a,h=>by simp [dC] at h
 | e::r,a,h=>by
   simp only [dC] at h
   split at h
   · rename_i c
     injection h with h; injection h with d f
     subst d;simp at c;simp [c]
   · obtain ⟨d,f⟩:=I8 k j b r (a+1) h
     refine ⟨aa,?_⟩
     have:j-a=(j-(a+1))+1:=aa
     rw [this]; simpa using f
variable {P:Program} {ops:Array Oper} {Q:Exit->Act->World->Prop} {n:Nat} {ds:List Deferred} {l:List (Nat×Value)} {w0:World} {F:List Nat} {L:List aQ} {Vs:List View} {rest:List Oper} {d:Nat} {ty:TypeId} {pos:String} {af:Array Edge} {g:Option (Nat×Bool)}
variable {a0 dX hT:TypeId} {aw:Nat} {a5:Value}
def Bq {m:List (aL κ)} {k:κ}  (b:Bool) (c:qq kd kv) (e:P.underlying a0=some (.map dX hT)) (d:P.underlying dX=some kd) (f:zeroOf P hT=some a5) (a:bY.heap[Z]? = some (cY kv m aw)) :
   (Instr.lookup a0 (.map<|some Z) (kv k) b).run P bY = .ok (if b=true then .tuple #[gn k m a5,.bool (oT k m)] else gn k m a5) bY:=by
 have g:=EL c k m 0;have a:bY.heap[Z]? = some (.map (m.map<|n5 kv).toArray aw):=a;have h:(Instr.checkKey (m.map<|n5 kv).toArray.isEmpty 10000 dX<|kv k).run P bY = .ok () bY:=MapKept.run_checkKey (k:=kv k) d (c.isKey k) _ 9999;simp only [Instr.lookup,Sem.run_bind,run_underlying e,Result.andThen_ok,MapKept.run_getObj_map a,Sem.run_pure,h];rw [MapKept.run_findKey d (by simpa using g)];unfold gn oT
 cases j:dC k m 0 with
 | none=>simp [Result.andThen_ok,iq f]
 | some r=>obtain ⟨i,v⟩:=r; simp [Result.andThen_ok]
variable {Bd:Option Tmp} {be bX:Operand}
def rf {m:List (aL κ)} {k:κ}  (i:Nat) (b:qq kd kv) (c:P.underlying a0=some (.map dX hT)) (d:P.underlying dX=some kd) (e:zeroOf P hT=some a5) (f:bK l be=some (.map<|some Z)) (h:bK l bX=some (kv k)) (hL:L[i]? = some (aq Z<|cY kv m aw)) :
   Yl P l (Ws w0 F L Vs) ⟨Bd,.lookup a0 be bX false,ty,pos,af,g⟩ (gn k m a5):=by
 intro n w a j;simp [execOp,a be _ f,a bX _ h,Bq (P:=P) (k:=k) false b c d e (j.kn _ (aY hL):w.heap[Z]? = some (cY kv m aw))]
def EM {m:List (aL κ)} {k:κ}  (i:Nat) (b:qq kd kv) (c:P.underlying a0=some (.map dX hT)) (d:P.underlying dX=some kd) (e:zeroOf P hT=some a5) (f:bK l be=some (.map<|some Z)) (h:bK l bX=some (kv k)) (hL:L[i]? = some (aq Z<|cY kv m aw)) :
   Yl P l (Ws w0 F L Vs) ⟨Bd,.lookup a0 be bX true,ty,pos,af,g⟩ (.tuple #[gn k m a5,.bool (oT k m)]):=by
 intro n w a j;simp [execOp,a be _ f,a bX _ h,Bq (P:=P) (k:=k) true b c d e (j.kn _ (aY hL):w.heap[Z]? = some (cY kv m aw))]
def I9 {t a e:TypeId}  {m:List (aL κ)} {k:κ}  (b:qq kd kv) (h:P.underlying t=some (.map a e)) (g:P.underlying a=some kd) (i:bY.heap[Z]? = some (cY kv m aw)) :
   (Instr.mapUpdate t (.map<|some Z) (kv k) a5).run P bY = .ok () { bY with heap:=bY.heap.setIfInBounds Z (cY kv (aan k a5 m aw)<|j7 k m aw) }:=by
 have c:bY.heap[Z]? = some (.map (m.map<|n5 kv).toArray aw):=i;have l:=EL b k m 0;have n:(Instr.checkKey false 10000 a<|kv k).run P bY = .ok () bY:=MapKept.run_checkKey (k:=kv k) g (b.isKey k) _ 9999;simp only [Instr.mapUpdate,Sem.run_bind,run_underlying h,Result.andThen_ok,MapKept.run_getObj_map c,Sem.run_pure,n];rw [MapKept.run_findKey g (by simpa using l)];unfold aan j7
 cases o:dC k m 0 with
 | none=>simp [Result.andThen_ok,MapKept.run_setObj_map _ c,cY,n5]
 | some r=>
   obtain ⟨j,p⟩:=r
   have d:m[j]?.map (·.1)=some k:=by simpa using (I8 k j p m 0 o).2
   have q:((((m.map<|n5 kv).toArray)[j]?).map (·.key)).getD (kv k)=kv k:=by
     cases f:m[j]? with
     | none=>simp [f]
     | some e=>rw [f] at d; simp at d; simp [f,n5,d]
   simp only [q,Result.andThen_ok];simp only [Sem.run_bind,MapKept.run_keyThatStays (b.isKey k),Result.andThen_ok,MapKept.run_setObj_map _ c,cY]
   have s:(m.map<|n5 kv).toArray.modify j (λe=>{ e with key:=kv k,val:=a5 })=((m.modify j λe=>(k,a5,e.2.2)).map<|n5 kv).toArray:=by
     apply td;rw [H1];exact Qf m j k a5
   rw [s]
variable {iU:Operand}
def WL.rh {t c e:TypeId}   {m:List (aL κ)} {k:κ}  (i:Nat) (o:qq kd kv) (p:aK ops l g) (q:P.underlying t=some (.map c e)) (r:P.underlying c=some kd) (s:bK l be=some (.map<|some Z)) (u:bK l bX=some (kv k)) (v:bK l iU=some a5) (hL:L[i]? = some (aq Z<|cY kv m aw))
   (h:WL P ops Q n ds l (Ws w0 F (L.set i<|aq Z<|cY kv (aan k a5 m aw)<|j7 k m aw) Vs) rest) :
   WL P ops Q n ds l (Ws w0 F L Vs) (⟨none,.mapUpdate t be bX iU,ty,pos,af,g⟩::rest):=by
 refine WL.step p λa w b d A x=>?_;have f:w.heap[Z]? = some (cY kv m aw):=d.kn _ (aY hL)
 have y:(execOp a.eval ⟨none,.mapUpdate t be bX iU,ty,pos,af,g⟩).run P w = .ok .skip { w with heap:=w.heap.setIfInBounds Z (cY kv (aan k a5 m aw)<|j7 k m aw) }:=by
   simp only [execOp,b.eval s,b.eval u,b.eval v,Sem.run_bind,I9 o q r f,Result.andThen_ok,Sem.run_pure]
 simp only [Oper.wp,y,Oper.upon_skip];refine x _ _<|h _ _ (b.yl undef) ?_;refine Ws.fC d i hL ⟨O,O,O,ai,λj B z=>?_⟩ ?_ (by simp [aq]) (by simp [aq])
 · have:Z≠j:=λe=>z (by simp [aq,e])
   simp [tb this]
 · show (w.heap.setIfInBounds Z _)[Z]? = _
   simp [lt_of_heap f]
def WL.cz {t c e:TypeId}   {m:List (aL κ)} {k:κ}  (i:Nat) (o:qq kd kv) (p:aK ops l g) (q:P.underlying t=some (.map c e)) (r:P.underlying c=some kd) (s:bK l be=some (.map<|some Z)) (u:bK l bX=some (kv k)) (v:bK l iU=some a5) (hL:L[i]? = some (aq Z<|cY kv m aw))
   (h:WL P ops Q n ds l (Ws w0 F (L.set i<|aq Z<|cY kv (aan k a5 m aw)<|j7 k m aw) Vs) rest) :
   WL P ops Q n ds l (Ws w0 F L Vs) (⟨none,.insert t be bX iU,ty,pos,af,g⟩::rest):=by
 refine WL.step p λa w b d A x=>?_;have f:w.heap[Z]? = some (cY kv m aw):=d.kn _ (aY hL)
 have y:(execOp a.eval ⟨none,.insert t be bX iU,ty,pos,af,g⟩).run P w = .ok .skip { w with heap:=w.heap.setIfInBounds Z (cY kv (aan k a5 m aw)<|j7 k m aw) }:=by
   simp only [execOp,b.eval s,b.eval u,b.eval v,Sem.run_bind,I9 o q r f,Result.andThen_ok,Sem.run_pure]
 simp only [Oper.wp,y,Oper.upon_skip];refine x _ _<|h _ _ (b.yl undef) ?_;refine Ws.fC d i hL ⟨O,O,O,ai,λj B z=>?_⟩ ?_ (by simp [aq]) (by simp [aq])
 · have:Z≠j:=λe=>z (by simp [aq,e])
   simp [tb this]
 · show (w.heap.setIfInBounds Z _)[Z]? = _
   simp [lt_of_heap f]
end
def u0 (P:Program) (t:TypeId):Option (Nat×Nat):=match P.underlying t with | some (.array n e)=>(P.info? e).map λi=>(n,i.size) | _=>none
def Br (P:Program) (t:TypeId):Option Nat:=match P.underlying t with | some (.array n e)=>if oN P e=true/\(P.info? e).map (·.size)=some 1 then some n else none | _=>none
section
variable {P:Program} {l:List (Nat×Value)} {W:World->Prop} {d:Option Tmp} {ty:TypeId} {pos:String} {af:Array Edge} {g:Option (Nat×Bool)}
variable {a0:TypeId} {be bX:Operand} {ew:IntKind}
def u1 {b o n s:Nat}  {i:Nat} (a:u0 P a0=some (n,s)) (h:bK l be=some (.pointer<|some ⟨b,o,none⟩)) (j:bK l bX=some (.int ew (i:Int))) (k:i<n) :
   Yl P l W ⟨d,.indexAddr a0 be bX,ty,pos,af,g⟩ (.pointer<|some ⟨b,o+i*s,none⟩):=by
 intro u w f _;unfold u0 at a
 cases c:P.underlying a0 with
 | none=>simp [c] at a
 | some p=>
   cases p<;>simp [c] at a
   rename_i m e;obtain ⟨v,hi,q,r⟩:=a;subst q r
   have t:(i:Int)<(m:Int):=aa
   simp [execOp,f be _ h,f bX _ j,Instr.indexAt,run_underlying c,asIntOf,t,k,sizeOf,typeInfo,hi,qj,Instr.sureAddr]
def xn {n:Nat} {cs:Array Value}  {i:Nat} {v:Value} (a:Br P a0=some n) (f:bK l be=some (.agg cs)) (h:bK l bX=some (.int ew (i:Int))) (j:i<n) (hv:cs[i]? = some v) :
   Yl P l W ⟨d,.index a0 be bX,ty,pos,af,g⟩ v:=by
 intro u w c _;unfold Br at a
 cases b:P.underlying a0 with
 | none=>simp [b] at a
 | some k=>
   cases k<;>simp [b] at a
   rename_i m e;obtain ⟨⟨o,p,hi,q⟩,rfl⟩:=a
   have r:(i:Int)<(m:Int):=aa
   have s:=AQ o w
   have t:(part e cs<|i*p.size).run P w = .ok v w:=by
     simp [part,s,q,hv]
   simp [execOp,c be _ f,c bX _ h,Instr.index,run_underlying b,asIntOf,r,j,sizeOf,typeInfo,hi,t]
end
end Go.Bw
end
section
namespace Go.Bw
open Go
structure Tok where
 kind:Int
 n:Int
 text:List UInt8
deriving DecidableEq
def Tok.cells (t:Tok):List Value:=[.int .i64 t.kind,.int .i64 t.n,st t.text]
def Tok.cD (x:Tok):x.cells.length=3:=rfl
def dY (a:View) (b o:Nat) (x:Tok):Prop:=ar a b o x.cells
def ri (u:Int):Bool:=decide (97<=u)&&decide (u<=122)
def Bs (u:Int):Bool:=decide (48<=u)&&decide (u<=57)
def oU (u:UInt8):Bool:=ri u.toNat||Bs u.toNat
def gi (s:List UInt8):Bool:=(decide (1<=s.length)&&decide (s.length<=8))&&ri ((s[0]?.getD 0).toNat)&&s.all oU
def EN:List UInt8:=[123,125,40,41,91,93,44,59,61,46,43,45,42,47,37,60,33,38,124]
def e9 (u:UInt8):Bool:=EN.contains u
def jH:List UInt8->Nat
 | []=>0
 | c::r=>if oU c=true then jH r+1 else 0
def u2 (s:List UInt8):Option Nat:=match Lib.decNat s with
 | some n=>if n<=1099511627775/\Lib.decDigits n=s then some n else none
 | none=>none
def tw (s:List UInt8):Option Tok:=if gi s=true then some ⟨1,0,s⟩ else (u2 s).map (λn:Nat=>(⟨2,(n:Int),[]⟩:Tok))
def mS:Nat->List UInt8->Option (List Tok)
 | _,[]=>some []
 | 0,_::_=>none
 | f+1,c::r=>
   if 0<jH (c::r) then
     match tw ((c::r).take<|jH<|c::r) with
     | some t=>(mS f<|(c::r).drop<|jH<|c::r).map (t::·)
     | none=>none
   else if e9 c=true then (mS f r).map (⟨3,0,[c]⟩::·)
   else if c=32\/c=10 then mS f r
   else none
def ld (s:List UInt8):Option (List Tok):=mS s.length s
def gj (s:List UInt8):List Tok×Int:=if 4096<s.length then ([],2) else match ld s with
 | some l=>(l,0)
 | none=>([],1)
def u3 (t:Tok):Bool:=decide (1<=t.kind)&&decide (t.kind<=3)
def oV (t:Tok):Bool:=if t.kind=1 then t.n==0&&gi t.text else if t.kind=2 then t.text==[]&&(decide (0<=t.n)&&decide (t.n<=1099511627775)) else t.n==0&&(t.text.length==1&&e9 (t.text[0]?.getD 0))
def Bt (t:Tok):Bool:=!u3 t
def Bu (t:Tok):Bool:=!oV t
def yI (l:List Tok):Int:=if l.any Bt=true then 4 else if l.any Bu=true then 1 else if 4096<l.length then 2 else 0
def fb (t:Tok):List UInt8:=if t.kind=2 then Lib.itoa t.n else t.text
def I_:∀(s:List UInt8) (n:Nat),n<=s.length->(∀j,j<n->oU (s[j]?.getD 0)=true)->(n=s.length\/oU (s[n]?.getD 0)=false)->jH s=n
 | [],n,h,_,_=>by simp at h; subst h; rfl
 | c::r,0,_,_,h=>by
   have:oU c=false:=by
     rcases h with h | h
     · simp at h
     · simpa using h
   simp [jH,this]
 | c::r,n+1,b,a,h=>by
   have d:oU c=true:=by simpa using a 0 aa
   rw [jH,ZZ d,I_ r n (by simpa using b) (λj e=>by simpa using a (j+1) aa) (by rcases h with h | h; left; simpa using h; right; simpa using h)]
def EO:∀(f g:Nat) (s:List UInt8),s.length<=f->s.length<=g->mS f s=mS g s
 | _,_,[],_,_=>by simp [mS]
 | 0,_,_::_,h,_=>by simp at h
 | _+1,0,_::_,_,h=>by simp at h
 | f+1,g+1,c::r,a,b=>by
   simp only [gf] at a b;unfold mS;rw [EO f g r aa aa]
   by_cases d:0<jH (c::r)
   · rw [EO f g ((c::r).drop<|jH<|c::r) (by simp; omega) (by simp; omega)]
   · simp only [ZX d]
def Ja:ld []=some []:=rfl
variable {aU:List UInt8}
def EP (h:0<jH aU):ld aU=match tw (aU.take<|jH aU) with
   | some t=>(ld<|aU.drop<|jH aU).map (t::·)
   | none=>none:=by
 cases aU with
 | nil=>simp [jH] at h
 | cons c r=>
   show mS (r.length+1) (c::r)=_
   rw [mS,ZZ h];unfold ld;rw [EO r.length ((c::r).drop<|jH<|c::r).length _ (by simp; omega) (cQ _)]
variable {ce:UInt8}
def Jb (h:jH (ce::aU)=0) (a:e9 ce=true):ld (ce::aU)=(ld aU).map (⟨3,0,[ce]⟩::·):=by
 show mS (aU.length+1) (ce::aU)=_
 rw [mS,ZX aa,ZZ a]
 rfl
def Jc (h:jH (ce::aU)=0) (a:e9 ce=false) (b:ce=32\/ce=10):ld (ce::aU)=ld aU:=by
 show mS (aU.length+1) (ce::aU)=_
 rw [mS,ZX aa,ZX (by simp [a]),ZZ b]
 rfl
def Jd (h:jH (ce::aU)=0) (a:e9 ce=false) (b:¬(ce=32\/ce=10)):ld (ce::aU)=none:=by
 show mS (aU.length+1) (ce::aU)=_
 rw [mS,ZX aa,ZX (by simp [a]),ZX b]
def EQ (d:Nat) (f:d<10):∀(l:List UInt8) (a n:Nat),Lib.decFrom a l=some n->Lib.decFrom a (l++[UInt8.ofNat (48+d)])=some (n*10+d)
 | [],a,n,h=>by
   simp only [Lib.decFrom,aN] at h;subst h
   have e:(UInt8.ofNat<|48+d).toNat=48+d:=by simp [H4]; omega
   have:Lib.digitVal (UInt8.ofNat<|48+d)=some d:=by
     unfold Lib.digitVal;rw [e,ZZ aa];simp
   simp only [DW,Lib.decFrom,this]
 | b::r,a,n,h=>by
   simp only [Lib.decFrom,h5] at h ⊢
   cases c:Lib.digitVal b with
   | none=>simp [c] at h
   | some e=>
     simp only [c] at h ⊢;exact EQ d f r _ n h
def Je (n:Nat):Lib.decDigits n≠[]:=by
 rw [Lib.decDigits]
 split<;>simp
def Qg (n:Nat):Lib.decFrom 0 (Lib.decDigits n)=some n:=by
 induction n using Nat.strongRecOn with
 | _ n a=>
   rw [Lib.decDigits]
   split
   · rename_i h
     have:=EQ n h [] 0 0 rfl
     simpa using this
   · rename_i h
     rw [EQ (n % 10) aa _ _ _ (a (n / 10) aa)]
     congr 1
     omega
def Jf (n:Nat):Lib.decNat (Lib.decDigits n)=some n:=by
 unfold Lib.decNat;rw [ZX (by simpa using Je n),Qg]
def Qh (n:Nat):∀x ∈ Lib.decDigits n,48<=x.toNat/\x.toNat<=57:=by
 induction n using Nat.strongRecOn with
 | _ n b=>
   rw [Lib.decDigits]
   have e:∀d,d<10->(UInt8.ofNat<|48+d).toNat=48+d:=λd c=>by simp [H4]; omega
   split
   · rename_i h
     intro x a;simp only [gU] at a;subst a;rw [e n h]; omega
   · intro x a
     rw [ge,gU] at a
     rcases a with a | a
     · exact b (n / 10) aa x a
     · subst a
       rw [e _ aa]; omega
def Jg:∀(k n:Nat),n<10 ^ (k+1)->(Lib.decDigits n).length<=k+1
 | 0,n,h=>by
   rw [Lib.decDigits,dif_pos (by simpa using h)];simp
 | k+1,n,h=>by
   rw [Lib.decDigits]
   split
   · simp
   · rw [Nat.pow_succ] at h
     have:=Jg k (n / 10) aa;simp; omega
def Qi (n:Nat):Lib.itoa (n:Int)=Lib.decDigits n:=by
 unfold Lib.itoa;rw [ZX aa];simp
def Jh {n:Int} (h:0<=n):Lib.itoa n=Lib.decDigits n.toNat:=by
 unfold Lib.itoa;rw [ZX aa]
variable {Z:Nat}
def Qj (h:Z<=1099511627775):(Lib.decDigits Z).length<=13:=Jg 12 Z aa
def Ji (h:u2 aU=some Z):Z<=1099511627775/\Lib.decDigits Z=aU:=by
 unfold u2 at h
 split at h
 · split at h
   · injection h with h
     subst h; assumption
   · cases h
 · cases h
def Qk (h:Z<=1099511627775):u2 (Lib.decDigits Z)=some Z:=by
 unfold u2;rw [Jf];simp [h]
def nq (s:List UInt8):Tok×Bool:=if gi s=true then (⟨1,0,s⟩,true) else match Lib.atoiAll s with
 | .ok v=>(⟨2,v,[]⟩,((decide (0<=v)&&decide (v<=1099511627775))&&(Lib.itoa v==s)))
 | .range=>(⟨2,Lib.atoiSat s,[]⟩,false)
 | _=>(⟨2,0,[]⟩,false)
def Jj {n:Nat} (h:n<=1099511627775):Lib.atoiAll (Lib.decDigits n) = .ok (n:Int):=by
 have k:=Qj h;rw [Lib.atoiAll_short _ aa];have g:=Je n;have a:=Qh n;have c:=Jf n
 cases d:Lib.decDigits n with
 | nil=>exact absurd d g
 | cons b r=>
   rw [d] at a c;have f:=a b ai
   have i:(b==45)=false:=by
     rw [aam];intro e; subst e; revert f; decide
   have j:(b==43)=false:=by
     rw [aam];intro e; subst e; revert f; decide
   simp [Lib.atoi,i,j,c,Lib.NumEnd.ofOption]
def Jk (s:List UInt8):tw s=if (nq s).2=true then some (nq s).1 else none:=by
 unfold tw nq
 by_cases b:gi s=true
 · simp [b]
 · simp only [ZX b]
   cases h:u2 s with
   | some n=>
     obtain ⟨a,c⟩:=Ji h;subst c;rw [Jj a]
     have:((n:Int)<=1099511627775):=aa
     simp [Qi,this]
   | none=>
     cases e:Lib.atoiAll s with
     | ok v=>
       simp only
       by_cases hv:((decide (0<=v)&&decide (v<=1099511627775))&&(Lib.itoa v==s))=true
       · simp only [dE,aab,aac] at hv
         obtain ⟨⟨a,c⟩,d⟩:=hv
         have:u2 s=some v.toNat:=by
           rw [<-d,Jh a];exact Qk aa
         rw [h] at this; cases this
       · rw [ZX hv]; rfl
     | range=>rfl
     | _=>rfl
def Ql {t:Tok} (h:tw aU=some t):u3 t=true/\oV t=true:=by
 unfold tw at h
 split at h
 · rename_i a
   injection h with h
   subst h;exact ⟨O,by simp [oV,a]⟩
 · obtain ⟨n,a,rfl⟩:=dS.1 h
   have:=(Ji a).1;exact ⟨O,by simp [oV]; omega⟩
def Bv:∀(k:Nat) (s:List UInt8) (l:List Tok),s.length<=k->ld s=some l->(∀t ∈ l,u3 t=true/\oV t=true)/\l.length<=s.length
 | _,[],l,_,h=>by
   rw [Ja] at h
   injection h with h
   subst h; simp
 | 0,_::_,_,h,_=>by simp at h
 | k+1,c::r,l,n,h=>by
   simp only [gf] at n
   by_cases o:0<jH (c::r)
   · rw [EP o] at h
     cases f:tw ((c::r).take<|jH<|c::r) with
     | none=>simp [f] at h
     | some t=>
       simp only [f] at h;obtain ⟨g,i,rfl⟩:=dS.1 h;obtain ⟨b,d⟩:=Bv k ((c::r).drop<|jH<|c::r) g (by simp; omega) i;refine ⟨λx a=>?_,?_⟩
       · rcases ep.1 a with rfl | a
         · exact Ql f
         · exact b x a
       · simp at d ⊢; omega
   · have j:jH (c::r)=0:=aa
     cases e:e9 c with
     | true=>
       rw [Jb j e] at h;obtain ⟨g,i,rfl⟩:=dS.1 h;obtain ⟨b,d⟩:=Bv k r g aa i;refine ⟨λx a=>?_,by simpa using d⟩
       rcases ep.1 a with rfl | a
       · exact ⟨O,by simp [oV,e]⟩
       · exact b x a
     | false=>
       by_cases m:c=32\/c=10
       · rw [Jc j e m] at h
         obtain ⟨b,d⟩:=Bv k r l aa h;exact ⟨b,by simp; omega⟩
       · rw [Jd j e m] at h; cases h
def any_none {α:Type} {p:α->Bool} {l:List α} (h:∀t ∈ l,p t=false):l.any p=false:=by
 rw [tg];intro x a;simp [h x a]
variable {pE:List Tok}
def Qm (h:∀t ∈ pE,u3 t=true/\oV t=true) (b:pE.length<=4096):yI pE=0:=by
 unfold yI;rw [any_none (p:=Bt) λt a=>by simp [Bt,(h t a).1],any_none (p:=Bu) λt a=>by simp [Bu,(h t a).2]];simp; omega
def Jl (h:yI pE=0):(∀t ∈ pE,u3 t=true/\oV t=true)/\pE.length<=4096:=by
 unfold yI at h
 split at h
 · cases h
 · rename_i a
   split at h
   · cases h
   · rename_i b
     split at h
     · cases h
     · rename_i d
       simp only [q5,not_exists,not_and] at a b;refine ⟨λt c=>⟨?_,?_⟩,aa⟩
       · have:=a t c; simpa [Bt] using this
       · have:=b t c; simpa [Bu] using this
def Jm (h:(gj aU).2=0):yI (gj aU).1=0:=by
 unfold gj at h ⊢
 split
 · simp_all
 · rename_i b
   cases a:ld aU with
   | none=>simp [b,a] at h
   | some l=>
     obtain ⟨c,d⟩:=Bv _ aU l (cQ _) a;exact Qm c (show l.length<=4096 by omega)
end Go.Bw
end
section
namespace Go.Bw
open Go
inductive bT where
 | mk (op n:Int) (mod nm:List UInt8) (args:List bT)
inductive b9 where
 | mk (op:Int) (mod nm:List UInt8) (args:List bT) (body other:List b9)
def bT.op:bT->Int | .mk o _ _ _ _=>o
def bT.n:bT->Int | .mk _ n _ _ _=>n
def bT.mod:bT->List UInt8 | .mk _ _ m _ _=>m
def bT.nm:bT->List UInt8 | .mk _ _ _ s _=>s
def bT.args:bT->List bT | .mk _ _ _ _ a=>a
def b9.op:b9->Int | .mk o _ _ _ _ _=>o
def b9.mod:b9->List UInt8 | .mk _ m _ _ _ _=>m
def b9.nm:b9->List UInt8 | .mk _ _ s _ _ _=>s
def b9.args:b9->List bT | .mk _ _ _ a _ _=>a
def b9.body:b9->List b9 | .mk _ _ _ _ b _=>b
def b9.other:b9->List b9 | .mk _ _ _ _ _ o=>o
structure eb where
 kind:Int
 nm:List UInt8
 cZ:Bool
 n:Int
deriving DecidableEq
structure f' where
 nm:List UInt8
 cZ:Bool
 params:List (List UInt8)
 aC:List (List UInt8)
 body:List b9
structure df where
 nm:List UInt8
 aA:List (List UInt8)
 decls:List eb
 procs:List f'
 main:List b9
structure bM where
 f:Nat
 m:Nat
 k:Nat
deriving DecidableEq
instance:Add bM:=⟨λa b=>⟨a.f+b.f,a.m+b.m,a.k+b.k⟩⟩
def bM.cA (c:bM):Nat:=c.f+c.m+c.k
def c0:bM:=⟨0,0,0⟩
def bM.u4 (a b:bM):(a+b).f=a.f+b.f:=rfl
def bM.u5 (a b:bM):(a+b).m=a.m+b.m:=rfl
def bM.u6 (a b:bM):(a+b).k=a.k+b.k:=rfl
def bM.ext' {a b:bM} (c:a.f=b.f) (d:a.m=b.m) (e:a.k=b.k):a=b:=by
 cases a; cases b; simp_all
def bM.iG (a b c:bM):a+b+c=a+(b+c):=bM.ext' (rZ _ _ _) (rZ _ _ _)<|rZ _ _ _
def bM.e1 (a b:bM):(a+b).cA=a.cA+b.cA:=by
 simp only [bM.cA,bM.u4,bM.u5,bM.u6]; omega
def ER (b:Bool):Nat:=if b=true then 1 else 0
def ez (b:Bool):bM:=⟨ER b,0,0⟩
def c7 (b:Bool):bM:=⟨0,ER b,0⟩
def eE (b:Bool):bM:=⟨0,0,ER b⟩
def tx:List (List UInt8):=[[109,111,100,117,108,101],[117,115,101],[112,117,98],[99,111,110,115,116],[118,97,114],[97,114,114,97,121],[112,114,111,99],[108,111,99,97,108],[109,97,105,110],[105,102],[101,108,115,101],[119,104,105,108,101],[114,101,116,117,114,110],[111,117,116],[105,110]]
def hF (s:List UInt8):Bool:=gi s&&!(tx.contains s)
def aR (op:Int):Option (Bool×Int):=if op=1\/op=2 then some (false,0) else if op=3 then some (true,0) else if op=4 then some (true,1) else if op=5 then some (true,-1) else if op=6 then some (false,1) else if 7<=op/\op<=15 then some (false,2) else none
def dp (op:Int):Option (Bool×Int):=if op=1 then some (true,1) else if op=2 then some (true,2) else if op=3 then some (true,-1) else if 4<=op/\op<=7 then some (false,1) else none
def pF (r:Bool) (mod nm:List UInt8):Bool:=(r&&((!(mod==[])&&!hF mod)||!hF nm))||(!r&&!(mod++nm==[]))
def pG (a:Int) (len:Nat):Bool:=decide (0<=a)&&!((len:Int)==a)
def eR (s:Bool×Int) (mod nm:List UInt8) (len:Nat):bM:=ez (pF s.1 mod nm)+ez (pG s.2 len)+c7 (decide<|3<len)
def jI (op n:Int):Bool:=((op==1)&&(decide (n<0)||decide (1099511627775<n)))||(!(op==1)&&!(n==0))
mutual
def iX:bT->Nat->bM
 | .mk op n mod nm args,d=>if 6<d then ⟨0,1,0⟩ else eE (aR op).isNone+eR ((aR op).getD (false,0)) mod nm args.length+ez (jI op n)+dZ args (d+1)
def dZ:List bT->Nat->bM
 | [],_=>c0
 | x::r,d=>iX x d+dZ r d
end
def inner (op:Int):Bool:=(op==4)||(op==5)
def iH (op:Int) (b o:Nat):Bool:=(!inner op&&decide (0<b))||(!(op==4)&&decide (0<o))
def oW (d len:Nat) (c:bM):bM:=if 6<d then ⟨0,1,0⟩ else c7 (decide<|10<len)+c
mutual
def n6:b9->Nat->bM
 | .mk op mod nm args body other,d=>eE (dp op).isNone+eR ((dp op).getD (false,0)) mod nm args.length+dZ args 1+ez (iH op body.length other.length)
     + (if (inner op||decide (0<body.length))=true then oW (d+1) body.length (dI body<|d+1) else c0)+(if 0<other.length then oW (d+1) other.length (dI other<|d+1) else c0)
def dI:List b9->Nat->bM
 | [],_=>c0
 | x::r,d=>n6 x d+dI r d
end
def e' (l:List b9) (d:Nat):bM:=oW d l.length<|dI l d
def bO:List (List UInt8)->bM
 | []=>c0
 | s::r=>ez (!hF s)+bO r
def iI (d:eb):bM:=bO [d.nm]+(if d.kind=1 then ez (decide (d.n<0)||decide (1099511627775<d.n)) else if d.kind=2 then ez (!(d.n==0)) else if d.kind=3 then ez (decide (d.n<1)||decide (32<d.n)) else eE true)
def e6:List eb->bM
 | []=>c0
 | d::r=>iI d+e6 r
def qr (p:f'):bM:=bO [p.nm]+bO p.params+bO p.aC+c7 (decide (3<p.params.length)||decide (4<p.aC.length))+e' p.body 1
def fH:List f'->bM
 | []=>c0
 | p::r=>qr p+fH r
def tz (m:df):bM:=bO [m.nm]+bO m.aA+c7 ((decide (3<m.aA.length)||decide (10<m.decls.length))||decide (6<m.procs.length))+e6 m.decls+fH m.procs+e' m.main 1
def sd (c:bM):Int:=if 0<c.k then 4 else if 0<c.m then 2 else if 0<c.f then 1 else 0
def ku (m:df):Int:=sd<|tz m
def aX (n a b:Int):Bool:=decide (a<=n)&&decide (n<=b)
def lf (op:Int):Int:=if op=1\/op=2\/op=3 then 0 else if op=4\/op=6 then 1 else if op=5 then -1 else 2
def oX (op:Int):Int:=if op=2 then 2 else if op=3 then -1 else 1
def Jn (op:Int):(aR op).isNone = !aX op 1 15:=by
 unfold aR aX;rw [kr]
 split
 · simp; omega
 · split
   · simp; omega
   · split
     · simp; omega
     · split
       · simp; omega
       · split
         · simp; omega
         · split
           · simp; omega
           · simp; omega
def Jo (op:Int):(dp op).isNone = !aX op 1 7:=by
 unfold dp aX;rw [kr]
 split
 · simp; omega
 · split
   · simp; omega
   · split
     · simp; omega
     · split
       · simp; omega
       · simp; omega
variable {aH:Int}
def Qn (h:(aR aH).isNone=false):((aR aH).getD (false,0)).1=aX aH 3 5/\((aR aH).getD (false,0)).2=lf aH:=by
 rw [Jn] at h
 have a:aH=1\/aH=2\/aH=3\/aH=4\/aH=5\/aH=6\/(7<=aH/\aH<=15):=by
   simp [aX] at h; omega
 rcases a with rfl | rfl | rfl | rfl | rfl | rfl | b
 any_goals exact ⟨rfl,rfl⟩
 unfold aR lf aX;rw [ZX aa,ZX aa,ZX aa,ZX aa,ZX aa,ZZ b,ZX aa,ZX aa,ZX aa];refine ⟨?_,O⟩;simp; omega
def Qo (h:(dp aH).isNone=false):((dp aH).getD (false,0)).1=aX aH 1 3/\((dp aH).getD (false,0)).2=oX aH:=by
 rw [Jo] at h
 have a:aH=1\/aH=2\/aH=3\/aH=4\/aH=5\/aH=6\/aH=7:=by
   simp [aX] at h; omega
 rcases a with rfl | rfl | rfl | rfl | rfl | rfl | rfl<;>exact ⟨rfl,rfl⟩
end Go.Bw
end
section
namespace Go.Bw
open Go
def gk (s:List UInt8):List Value:=[st s]
def rdStr (a:View) (b o:Nat) (s:List UInt8):Prop:=ar a b o<|gk s
def oY (s:List UInt8):(gk s).length=1:=rfl
variable {an b4:View}
def jA (h:bG an b4) (b o:Nat) (x:List UInt8) (r:rdStr an b o x):rdStr b4 b o x:=ar.mono h r
def eb.cells (d:eb):List Value:=[.int .i64 d.kind,st d.nm,.bool d.cZ,.int .i64 d.n]
def eb.cD (d:eb):d.cells.length=4:=rfl
def u7 (a:View) (b o:Nat) (d:eb):Prop:=ar a b o d.cells
def Qp (h:bG an b4) (b o:Nat) (x:eb) (r:u7 an b o x):u7 b4 b o x:=ar.mono h r
def u9 (e:bT) (a:Option Addr) (c:Nat):List Value:=[.int .i64 e.op,.int .i64 e.n,st e.mod,st e.nm,.slice a e.args.length c]
def js:Nat->View->Nat->Nat->bT->Prop
 | 0=>λ_ _ _ _=>False
 | k+1=>λd b o e=>∃a c,ar d b o (u9 e a c)/\Sl (js k) 5 d a c e.args
def u' (s:b9) (a:Option Addr) (c:Nat) (a2:Option Addr) (c2:Nat) (a3:Option Addr) (c3:Nat):List Value:=[.int .i64 s.op,st s.mod,st s.nm,.slice a s.args.length c,.slice a2 s.body.length c2,.slice a3 s.other.length c3]
def h_ (ke:Nat):Nat->View->Nat->Nat->b9->Prop
 | 0=>λ_ _ _ _=>False
 | k+1=>λd b o s=>∃a c a2 c2 a3 c3,ar d b o (u' s a c a2 c2 a3 c3)/\Sl (js ke) 5 d a c s.args/\Sl (h_ ke k) 6 d a2 c2 s.body/\Sl (h_ ke k) 6 d a3 c3 s.other
def ES (p:f') (a1:Option Addr) (c1:Nat) (a2:Option Addr) (c2:Nat) (a3:Option Addr) (c3:Nat):List Value:=[st p.nm,.bool p.cZ,.slice a1 p.params.length c1,.slice a2 p.aC.length c2,.slice a3 p.body.length c3]
def Bx (ke ks:Nat) (a:View) (b o:Nat) (p:f'):Prop:=∃a1 c1 a2 c2 a3 c3,ar a b o (ES p a1 c1 a2 c2 a3 c3)/\Sl rdStr 1 a a1 c1 p.params/\Sl rdStr 1 a a2 c2 p.aC/\Sl (h_ ke ks) 6 a a3 c3 p.body
structure cb where
 a1:Option Addr
 c1:Nat
 a2:Option Addr
 c2:Nat
 a3:Option Addr
 c3:Nat
 a4:Option Addr
 c4:Nat
def iJ (m:df) (r:cb):List Value:=[st m.nm,.slice r.a1 m.aA.length r.c1,.slice r.a2 m.decls.length r.c2,.slice r.a3 m.procs.length r.c3,.slice r.a4 m.main.length r.c4]
structure n7 (ke ks:Nat) (H:View) (r:cb) (m:df):Prop where
 aA:Sl rdStr 1 H r.a1 r.c1 m.aA
 decls:Sl u7 4 H r.a2 r.c2 m.decls
 procs:Sl (Bx ke ks) 5 H r.a3 r.c3 m.procs
 main:Sl (h_ ke ks) 6 H r.a4 r.c4 m.main
variable {bB:Type} {Z aw:Nat} {b_:List bB}
def Sl.imp {rd c:View->Nat->Nat->bB->Prop}   {a:Option Addr}   (d:∀b o x,rd an b o x->c b4 b o x) (h:Sl rd Z an a aw b_):Sl c Z b4 a aw b_:=
 ⟨h.cap,h.max,h.spot,λi x e=>by obtain ⟨b,o,f,g⟩:=h.b5 i x e; exact ⟨b,o,f,d _ _ _ g⟩⟩
def wQ (f:bG an b4):∀{k d:Nat},k<=d->∀(b o:Nat) (e:bT),js k an b o e->js d b4 b o e
 | 0,_,_,_,_,_,h=>h.elim
 | k+1,0,g,_,_,_,_=>absurd g aa
 | k+1,d+1,g,b,o,e,h=>by
   obtain ⟨a,c,i,j⟩:=h;exact ⟨a,c,ar.mono f i,j.imp λb o x l=>wQ f aa b o x l⟩
def wR (f:bG an b4)  (g:Z<=aw):∀{k i:Nat},k<=i->∀(b o:Nat) (e:b9),h_ Z k an b o e->h_ aw i b4 b o e
 | 0,_,_,_,_,_,h=>h.elim
 | k+1,0,j,_,_,_,_=>absurd j aa
 | k+1,i+1,j,b,o,e,h=>by
   obtain ⟨a,c,a2,c2,a3,c3,l,m,n,p⟩:=h;exact ⟨a,c,a2,c2,a3,c3,ar.mono f l,m.imp λb o x d=>wQ f g b o x d,n.imp λb o x d=>wR f g aa b o x d,p.imp λb o x d=>wR f g aa b o x d⟩
def Qq (c:bG an b4) {ke d ks e:Nat} (f:ke<=d) (g:ks<=e) (b o:Nat) (p:f') (h:Bx ke ks an b o p):Bx d e b4 b o p:=by
 obtain ⟨a1,c1,a2,c2,a3,c3,i,j,k,l⟩:=h;exact ⟨a1,c1,a2,c2,a3,c3,ar.mono c i,j.imp λb o x a=>jA c b o x a,k.imp λb o x a=>jA c b o x a,l.imp λb o x a=>wR c f g b o x a⟩
mutual
def wE:bT->Nat
 | .mk _ _ mod nm args=>1+mod.length+nm.length+Z_ args
def Z_:List bT->Nat
 | []=>0
 | x::r=>wE x+Z_ r
end
mutual
def wS:b9->Nat
 | .mk _ mod nm args body other=>1+mod.length+nm.length+Z_ args+e2 body+e2 other
def e2:List b9->Nat
 | []=>0
 | x::r=>wS x+e2 r
end
def wN:List (List UInt8)->Nat
 | []=>0
 | s::r=>1+s.length+wN r
def wD:List eb->Nat
 | []=>0
 | d::r=>1+d.nm.length+wD r
def wP:List f'->Nat
 | []=>0
 | p::r=>1+p.nm.length+wN p.params+wN p.aC+e2 p.body+wP r
def wM (m:df):Nat:=1+m.nm.length+wN m.aA+wD m.decls+wP m.procs+e2 m.main
def Qr:∀x:bT,1<=wE x | .mk _ _ _ _ _=>by unfold wE; omega
def Qs:∀x:b9,1<=wS x | .mk _ _ _ _ _ _=>by unfold wS; omega
def Jp (x:bT):wE x=1+x.mod.length+x.nm.length+Z_ x.args:=by cases x; rfl
def Jq (x:b9):wS x=1+x.mod.length+x.nm.length+Z_ x.args+e2 x.body+e2 x.other:=by cases x; rfl
def Jr {i:Nat} {x:bT}:∀{l:List bT},l[i]? = some x->wE x<=Z_ l
 | [],h=>by simp at h
 | y::r,h=>by
   unfold Z_
   cases i with
   | zero=>simp at h; subst h; omega
   | succ i=>have:=Jr (i:=i) (l:=r) (by simpa using h); omega
def Js {i:Nat} {x:b9}:∀{l:List b9},l[i]? = some x->wS x<=e2 l
 | [],h=>by simp at h
 | y::r,h=>by
   unfold e2
   cases i with
   | zero=>simp at h; subst h; omega
   | succ i=>have:=Js (i:=i) (l:=r) (by simpa using h); omega
def Jt:∀l:List bT,l.length<=Z_ l
 | []=>cQ _
 | x::r=>by have:=Jt r; have:=Qr x; unfold Z_; simp; omega
def Ju:∀l:List b9,l.length<=e2 l
 | []=>cQ _
 | x::r=>by have:=Ju r; have:=Qs x; unfold e2; simp; omega
def jB:∀l:List (List UInt8),l.length<=wN l
 | []=>cQ _
 | x::r=>by have:=jB r; unfold wN; simp; omega
def mT (b:Bool):(ez b).cA<=1:=by cases b<;>decide
def wT (b:Bool):(c7 b).cA<=1:=by cases b<;>decide
def yJ (b:Bool):(eE b).cA<=1:=by cases b<;>decide
def By (s:Bool×Int) (mod nm:List UInt8) (len:Nat):(eR s mod nm len).cA<=3:=by
 unfold eR;rw [bM.e1,bM.e1];have:=mT (pF s.1 mod nm); have:=mT (pG s.2 len); have:=wT (decide<|3<len);omega
def Jv:c0.cA=0:=rfl
mutual
def Qt:∀(x:bT) (d:Nat),(iX x d).cA<=8*wE x
 | .mk op n mod nm args,d=>by
   unfold iX wE
   split
   · show 0+1+0<=_
     omega
   · rw [bM.e1,bM.e1,bM.e1]
     have:=wU args (d+1); have:=yJ (aR op).isNone; have:=By ((aR op).getD (false,0)) mod nm args.length; have:=mT (jI op n);omega
def wU:∀(l:List bT) (d:Nat),(dZ l d).cA<=8*Z_ l
 | [],_=>cQ _
 | x::r,d=>by
   have:=Qt x d; have:=wU r d;unfold dZ Z_;rw [bM.e1];omega
end
def ET (d len:Nat) (c:bM):(oW d len c).cA<=1+c.cA:=by
 unfold oW
 split
 · show 0+1+0<=_
   omega
 · rw [bM.e1]
   have:=wT (decide<|10<len);omega
def Jw (b:Prop) [Decidable b] (c:bM):(if b then c else c0).cA<=c.cA:=by
 split
 · exact cQ _
 · exact di _
mutual
def Qu:∀(x:b9) (d:Nat),(n6 x d).cA<=8*wS x
 | .mk op mod nm args body other,d=>by
   unfold n6 wS;rw [bM.e1,bM.e1,bM.e1,bM.e1,bM.e1];have a:=wU args 1; have b:=yJ (dp op).isNone; have c:=By ((dp op).getD (false,0)) mod nm args.length; have e:=mT (iH op body.length other.length);have f:=Jw ((inner op||decide (0<body.length))=true) (oW (d+1) body.length<|dI body<|d+1);have g:=Jw (0<other.length) (oW (d+1) other.length<|dI other<|d+1);have h:=ET (d+1) body.length (dI body<|d+1); have i:=ET (d+1) other.length (dI other<|d+1);have j:=yK body (d+1); have k:=yK other (d+1);omega
def yK:∀(l:List b9) (d:Nat),(dI l d).cA<=8*e2 l
 | [],_=>cQ _
 | x::r,d=>by
   have:=Qu x d; have:=yK r d;unfold dI e2;rw [bM.e1];omega
end
def wV:∀l:List (List UInt8),(bO l).cA<=wN l
 | []=>cQ _
 | s::r=>by
   have:=wV r; have:=mT (!hF s);unfold bO wN;rw [bM.e1];omega
def Qv (d:eb):(iI d).cA<=2:=by
 unfold iI bO bO;rw [bM.e1,bM.e1,Jv];have:=mT (!hF d.nm)
 split
 · have:=mT (decide (d.n<0)||decide (1099511627775<d.n)); omega
 · split
   · have:=mT (!(d.n==0)); omega
   · split
     · have:=mT (decide (d.n<1)||decide (32<d.n)); omega
     · have:=yJ true; omega
def EU:∀l:List eb,(e6 l).cA<=8*wD l
 | []=>cQ _
 | d::r=>by
   have:=EU r; have:=Qv d;unfold e6 wD;rw [bM.e1];omega
def EV (l:List b9) (d:Nat):(e' l d).cA<=1+8*e2 l:=by
 unfold e';have:=ET d l.length (dI l d); have:=yK l d;omega
def EW (s:List UInt8):(bO [s]).cA<=1:=by
 unfold bO bO;rw [bM.e1,Jv];have:=mT (!hF s);omega
def Qw (p:f'):(qr p).cA<=3+wN p.params+wN p.aC+8*e2 p.body:=by
 unfold qr;rw [bM.e1,bM.e1,bM.e1,bM.e1];have:=EW p.nm; have:=wV p.params; have:=wV p.aC; have:=wT (decide (3<p.params.length)||decide (4<p.aC.length)); have:=EV p.body 1;omega
def Bz:∀l:List f',(fH l).cA<=8*wP l
 | []=>cQ _
 | p::r=>by
   have:=Bz r; have:=Qw p;unfold fH wP;rw [bM.e1];omega
def EX {rd:View->Nat->Nat->bB->Prop} {f:bB->List Value}  {a:View} {b m:Nat} {T:TypeId} {c:Nat×Nat}  (e:a b=some (.cells (b_.flatMap f).toArray T c)) (d:∀x,(f x).length=Z) (g:∀a b o x,ar a b o (f x)->rd a b o x) (h:b_.length<=m) (k:m<=9223372036854775807):Sl rd Z a (some ⟨b,0,none⟩) m b_:=by
 refine ⟨h,k,ai,λi x l=>⟨b,0,O,g _ _ _ _ λj v hv=>?_⟩⟩
 have n:j<Z:=by rw [<-d x]; exact (cq.1 hv).1
 have p:vc a b (0+i*Z+j)=i_ (.cells (b_.flatMap f).toArray T c) (0+i*Z+j):=by unfold vc; rw [e]; rfl
 rw [p];simp only [i_,lK];rw [px d l n];exact hv
section
variable {P:Program} {ops:Array Oper} {Q:Exit->Act->World->Prop} {n:Nat} {ds:List Deferred} {l:List (Nat×Value)} {w0:World} {F:List Nat} {L:List aQ} {Vs:List View} {rest:List Oper}
def ib {T:TypeId} {m b:Nat} {c:Array Value} {a:Nat×Nat} (i:Nat) (xs:List (List UInt8)) (hL:L[i]? = some (aq b<|.cells c T a)) (e:c=(xs.flatMap gk).toArray) (g:xs.length<=m) (j:m<=9223372036854775807)
   (h:∀d,Sl rdStr 1 d (some ⟨b,0,none⟩) m xs->WL P ops Q n ds l (Ws w0 F (fk i L)<|d::Vs) rest):WL P ops Q n ds l (Ws w0 F L Vs) rest:=by
 subst e
 have k:bv b (.cells (xs.flatMap gk).toArray T a) b=some (.cells (xs.flatMap gk).toArray T a):=by simp [bv]
 exact WL.A_ i hL<|h _<|EX (f:=gk) k oY dN g j
end
section
variable {P:Program} {l:List (Nat×Value)} {W:World->Prop} {d:Option Tmp} {ty:TypeId} {pos:String} {af:Array Edge} {g:Option (Nat×Bool)}
def Jx {t:TypeId} {parts:List (Nat×Operand)} {vs:List (Nat×Value)} {z:Value} {n s:Nat} {out:List Value} (h:zeroOf P t=some z) (a:u0 P t=some (n,s))
   (hv:r5 l parts=some vs) (j:q7 (λi=>some (i*s,s)) (aZ z) vs=some out):Yl P l W ⟨d,.build t parts.toArray,ty,pos,af,g⟩ (.agg out.toArray):=by
 intro k w o _
 have p:((parts.toArray.map λ (i,x)=>(i,k x)):Array (Nat×Value)).toList=vs:=by simpa using AZ o parts vs hv
 unfold u0 at a
 cases b:P.underlying t with
 | none=>simp [b] at a
 | some q=>
   cases q<;>simp [b] at a
   rename_i m e;obtain ⟨c,hi,r,u⟩:=a;subst r u
   have f:Instr.fill (λi=>some (i*c.size,c.size)) z.cells vs=some out.toArray:=by
     refine yq _ vs z.cells out ?_;rw [fG]
     simpa using j
   simp only [execOp,Instr.build,Sem.run_bind,iq h,Result.andThen_ok,run_underlying b,p,f,sizeOf,typeInfo,hi,Sem.run_pure];simp [hi,f]
end
section
variable {P:Program} {ops:Array Oper} {Q:Exit->Act->World->Prop} {n:Nat} {ds:List Deferred} {l:List (Nat×Value)} {w0:World} {F:List Nat} {L:List aQ} {Vs:List View}
 {rest:List Oper} {d:Nat} {ty:TypeId} {pos:String} {af:Array Edge} {g:Option (Nat×Bool)}
variable {dH:FuncId} {hg:Array Operand} {gx:Array TypeId} {dv:List Value}
def oZ {ι κ:Type}     (o L2:List aQ) (D:aK ops l g) (E:Nat.blt d n=true) (G:Enters P dH) (H:ip l hg.toList=some dv) (hL:L=o++L2)
   (v:ι->Value) (u:ι->List aQ) (R:View->ι->Prop) (y:κ->List PanicEntry) (Lp:κ->List aQ) (z:κ->Prop) (b7:List View) (I:∀f ∈ b7,f ∈ Vs)
   (J:∀i,∀k ∈ (u i).flatMap aQ.ids,k ∈ o.flatMap aQ.ids)
   (hC:∀w,Ws w (o.flatMap aQ.ids) o b7 w->Calls P dH dv.toArray w λe b=>(∃i,e = .returned (v i)/\R (nv w b) i/\Ws w (o.flatMap aQ.ids) (u i) b7 b)\/(∃j,e = .panicked (y j)/\z j/\Ws w (o.flatMap aQ.ids) (Lp j) b7 b))
   (K:∀j,z j->WE Q (.panic<|y j) n ds l (Ws w0 F (Lp j++L2) Vs))
   (M:∀f i,gw w0 f->R f i->WL P ops Q n ds ((d,v i)::l) (Ws w0 F (u i++L2)<|f::Vs) rest) :
   WL P ops Q n ds l (Ws w0 F L Vs) (⟨some d,.call ⟨.value<|.func dH,hg,gx⟩,ty,pos,af,g⟩::rest):=by
 subst hL;refine WL.yr (ι:=View×ι) D E G H (λi=>v i.2) (λi b=>(gw w0 i.1/\R i.1 i.2)/\Ws w0 F (u i.2++L2) (i.1::Vs) b) (λc b=>∃j,c=y j/\z j/\Ws w0 F (Lp j++L2) Vs b) (λw p=>(hC w<|p.self.aB I).mono λe b N=>?_) (λi=>?_)<|λc=>?_
 · rcases N with ⟨i,rfl,s,h⟩ | ⟨j,rfl,s,h⟩
   · have q:=p.back h
     refine .inl ⟨(nv w b,i),O,⟨(wz w b).mono p.fr.size,s⟩,q.fr,q.kn,q.nd,q.own,λf m=>?_,λf m x r k A=>?_⟩
     · rcases ep.1 m with rfl | m
       · exact Ej w b
       · exact q.vs f m
     · rcases ep.1 m with rfl | m
       · have S:k<w.heap.size:=by
           rcases ge.1 r with r | r
           · have T:=J i k (ci.2 ⟨x,r,A⟩)
             obtain ⟨B,U,V⟩:=ci.1 T;exact B.wA w (p.kn B (by simp [U])) k V
           · exact x.wA w (p.kn x (by simp [r])) k A
         exact wz w b k S
       · exact q.off f m x r k A
   · exact .inr ⟨_,O,j,O,s,p.back h⟩
 · intro a w C t
   exact M i.1 i.2 t.1.1 t.1.2 a w C t.2
 · rintro a w C ⟨j,rfl,s,t⟩
   exact K j s a w C t
def Qx {ι:Type}     (a L2:List aQ) (j:aK ops l g) (m:Nat.blt d n=true) (o:Enters P dH) (p:ip l hg.toList=some dv) (hL:L=a++L2)
   (v:ι->Value) (c:ι->List aQ) (R:View->ι->Prop) (b7:List View) (q:∀b ∈ b7,b ∈ Vs)
   (r:∀i,∀k ∈ (c i).flatMap aQ.ids,k ∈ a.flatMap aQ.ids)
   (hC:∀w,Ws w (a.flatMap aQ.ids) a b7 w->Calls P dH dv.toArray w λe f=>∃i,e = .returned (v i)/\R (nv w f) i/\Ws w (a.flatMap aQ.ids) (c i) b7 f)
   (s:∀b i,gw w0 b->R b i->WL P ops Q n ds ((d,v i)::l) (Ws w0 F (c i++L2)<|b::Vs) rest) :
   WL P ops Q n ds l (Ws w0 F L Vs) (⟨some d,.call ⟨.value<|.func dH,hg,gx⟩,ty,pos,af,g⟩::rest):=
 oZ (κ:=Unit) a L2 j m o p hL v c R (λ_=>[]) (λ_=>[]) (λ_=>False) b7 q r (λw t=>(hC w t).mono λ_ _ h=>.inl h) (λ_ h=>h.elim) s
end
def rv (a:aQ) (w:World):View:=λb=>if b ∈ a.ids then w.heap[b]? else none
section
variable {w0 w:World} {F:List Nat} {L:List aQ} {Vs:List View} {A:aQ}
def Qy (a:aQ) (w:World):Le (rv a w) w:=λb o h=>by
 unfold rv at h
 split at h
 · exact h
 · cases h
def Ws.yL (h:Ws w0 F L Vs w) (i:Nat) (hL:L[i]? = some A):Ws w0 F (fk i L) (rv A w::Vs) w:=by
 have d:=h.perm (nh i L hL);have b:Ws w0 F (fk i L) Vs w:=Ws.drop (L:=[A]) d;refine ⟨b.fr,b.kn,b.nd,b.own,λc a=>?_,λc a B e k f=>?_⟩
 · rcases ep.1 a with rfl | a
   · exact Qy A w
   · exact b.vs c a
 · rcases ep.1 a with rfl | a
   · have nd:=d.nd
     rw [mM,lI] at nd;unfold rv;rw [ZX];intro g;exact nd.2.2 k g k (ci.2 ⟨B,e,f⟩) O
   · exact b.off c a B e k f
def kB {α:Type} {rd:View->Nat->Nat->α->Prop} {f:α->List Value} {k e c:Nat} {a:Option Addr} {xs:List α} (h:(cC e k f a c xs).holds w)
   (m:∀x,(f x).length=k) (q:∀n b o x,ar n b o (f x)->rd n b o x):Sl rd k (rv (cC e k f a c xs) w) a c xs:=by
 obtain ⟨G,r⟩:=(h:w.ownsRow 0 e k _ xs.length (xs.flatMap f))
 rcases r with ⟨s,H⟩ | ⟨b,cap,p,t,_,u,y,g,I,z⟩
 · injection s with l A g
   subst l g;have:xs=[]:=uK aa;subst this;exact Sl.nil
 · injection t with l A B
   subst l B;refine ⟨y,by unfold maxLen at g; omega,ai,λi x C=>⟨b,0,O,q _ _ _ _ λj v hv=>?_⟩⟩
   have D:j<k:=by have:=(cq.1 hv).1; rw [m] at this; exact this
   have d:(xs.flatMap f)[i*k+j]? = some v:=by rw [px m C D]; exact hv
   rw [<-z,jq] at d
   split at d
   · have E:rv (cC e k f (some ⟨b,0,none⟩) c xs) w b=some (.cells p e (0,0)):=by
       unfold rv;rw [ZZ (by simp [a6,Value.ownBlock])];exact u
     have F:vc (rv (cC e k f (some ⟨b,0,none⟩) c xs) w) b (0+i*k+j)=i_ (.cells p e (0,0)) (0+i*k+j):=by unfold vc; rw [E]; rfl
     rw [F]
     simpa [i_] using d
   · cases d
end
section
variable {P:Program} {ops:Array Oper} {cd:Code} {Q:Exit->Act->World->Prop} {n:Nat} {ds:List Deferred} {l:List (Nat×Value)} {w0:World} {F:List Nat} {L:List aQ} {Vs:List View} {rest:List Oper}
variable {lW:bB->List Value} {cy:Nat} {dj:Option Addr}
def WC.pH {rd:View->Nat->Nat->bB->Prop}     (i:Nat) (hL:L[i]? = some (cC aw Z lW dj cy b_))
   (d:∀x,(lW x).length=Z) (e:∀a b o x,ar a b o (lW x)->rd a b o x) (h:∀a,Sl rd Z a dj cy b_->WC P cd Q n ds l (Ws w0 F (fk i L)<|a::Vs)):WC P cd Q n ds l (Ws w0 F L Vs):=
 λf w g c=>h _ (kB (c.kn _<|aY hL) d e) f w g<|c.yL i hL
def aao {a:Obj} (i:Nat) (b:Obj) (hL:L[i]? = some (aq Z a)) (c:a=b) (h:WC P cd Q n ds l (Ws w0 F (L.set i<|aq Z b) Vs)):WC P cd Q n ds l (Ws w0 F L Vs):=
 WC.nn i hL (by rw [c]) h
def WL.pH {rd:View->Nat->Nat->bB->Prop}     (i:Nat) (hL:L[i]? = some (cC aw Z lW dj cy b_))
   (d:∀x,(lW x).length=Z) (e:∀a b o x,ar a b o (lW x)->rd a b o x) (h:∀a,Sl rd Z a dj cy b_->WL P ops Q n ds l (Ws w0 F (fk i L)<|a::Vs) rest):WL P ops Q n ds l (Ws w0 F L Vs) rest:=
 λf w g c=>h _ (kB (c.kn _<|aY hL) d e) f w g<|c.yL i hL
def WL.kO {rd:View->Nat->Nat->bB->Prop} {f:bB->List Value} {k T b m:Nat} {c:Nat×Nat} {d:Array Value} (i:Nat) (xs:List bB) (hL:L[i]? = some (aq b<|.cells d T c)) (e:d=(xs.flatMap f).toArray)
   (g:∀x,(f x).length=k) (j:∀a b o x,ar a b o (f x)->rd a b o x) (p:xs.length<=m) (q:m<=9223372036854775807)
   (h:∀a,Sl rd k a (some ⟨b,0,none⟩) m xs->WL P ops Q n ds l (Ws w0 F (fk i L)<|a::Vs) rest):WL P ops Q n ds l (Ws w0 F L Vs) rest:=by
 subst e
 have r:bv b (.cells (xs.flatMap f).toArray T c) b=some (.cells (xs.flatMap f).toArray T c):=by simp [bv]
 exact WL.A_ i hL<|h _<|EX (f:=f) r g j p q
end
def BB (P:Program) (t:TypeId) (f:Nat):Option Nat:=match P.underlying t with
 | some (.struct fs)=>match fs[f]? with
   | some x=>if oN P x.type=true then some x.offset else none
   | none=>none
 | _=>none
section
variable {P:Program} {l:List (Nat×Value)} {W:World->Prop} {d:Option Tmp} {ty:TypeId} {pos:String} {af:Array Edge} {g:Option (Nat×Bool)}
def Jy {t:TypeId} {x:Operand} {f k:Nat} {cs:Array Value} {v:Value} (a:BB P t f=some k) (h:bK l x=some (.agg cs)) (hv:cs[k]? = some v):Yl P l W ⟨d,.field t x f,ty,pos,af,g⟩ v:=by
 intro p w i _;unfold BB at a
 cases b:P.underlying t with
 | none=>simp [b] at a
 | some j=>
   cases j<;>simp [b] at a
   rename_i fs
   cases c:fs[f]? with
   | none=>simp [c] at a
   | some e=>
     simp [c] at a;obtain ⟨m,rfl⟩:=a;have n:=AQ m w
     have o:(part e.type cs e.offset).run P w = .ok v w:=by simp [part,n,hv]
     simp [execOp,i x _ h,Instr.field,run_underlying b,c,asAgg,o]
end
end Go.Bw
end
