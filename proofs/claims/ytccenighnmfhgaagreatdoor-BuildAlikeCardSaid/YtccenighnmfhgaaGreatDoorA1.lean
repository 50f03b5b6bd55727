/- BuildAlike: Build tells the same image, in whatever order the texts are. -/
import Derived.Below
import Derived.Carry
import Derived.ChangeOld
import Derived.Deep.Quiet
import Derived.Deep.Slices
import Derived.Deep.Upon
import Derived.Defers
import Derived.JoinedCond
import Derived.LaidEql
import Derived.Laws.BytesString
import Derived.Laws.DeepStrings4
import Derived.Laws.Externs
import Derived.Laws.Pointers
import Derived.Laws.Slices
import Derived.Lib.AppendStr
import Derived.Lib.AppendZeros
import Derived.Lib.AtoiAllCases
import Derived.Lib.AtoiTie
import Derived.Lib.Builder
import Derived.Lib.Bytealg
import Derived.Lib.ConvBytes
import Derived.Lib.ItoaNum
import Derived.Lib.Join
import Derived.Lib.LaidTab
import Derived.Lib.SmallJoins
import Derived.Lib.UnsafeStr
import Derived.MapKept
import Derived.OpenShut
import Derived.ProofKit
import Derived.Recover
import Derived.Sort.Grow
import Derived.WalkKit
import Derived.WalkSpells
import Derived.WideMake
set_option linter.unusedVariables false
set_option linter.unusedSimpArgs false
namespace Go
theorem O {α : Sort _} {a : α} : a = a := rfl
theorem Y {α : Sort _} {a : α} {b : Prop} : a = a \/ b := .inl rfl
end Go
section
namespace Go.Bw
open Go Go.RowKit
def lk:List (Nat×Value)->Nat->Option Value
 | [],_=>none
 | (k,v)::r,n=>bif Nat.beq k n then some v else lk r n
structure Ag (n:Nat) (ds:List Deferred) (l:List (Nat×Value)) (a:Act):Prop where
 size:a.tmps.size=n
 defs:a.defers=ds
 fk:∀t v,lk l t=some v->a.tmps.getD t undef=v
def aB (l:List (Nat×Value)):Operand->Option Value
 | .tmp t=>lk l t
 | .const v=>some v
 | .global g=>some (.pointer (some ⟨g,0,none⟩))
 | .func f=>some (.func (.func f) #[] #[])
section
variable {n:Nat} {ds:List Deferred} {l:List (Nat×Value)} {a:Act}
theorem Ag.eval (h:Ag n ds l a) {x:Operand} {v:Value} (hx:aB l x=some v):a.eval x=v:=by
 cases x with
 | tmp t=>exact h.fk t v hx
 | const u=>simpa [aB,Act.eval] using hx
 | global g=>simpa [aB,Act.eval] using hx
 | func f=>simpa [aB,Act.eval] using hx
theorem Ag.put (h:Ag n ds l a) {d:Nat} (hd:Nat.blt d n=true) (v:Value):Ag n ds ((d,v)::l) (a.put (some d) v):=by
 have Nr:d<a.tmps.size:=by rw [h.size]; exact Nat.le_of_ble_eq_true hd
 refine ⟨by simp [Act.put,h.size],h.defs,λt u hu=>?_⟩;simp only [lk] at hu
 by_cases e:d=t
 · subst e
   simp at hu;subst hu;simp [Act.put,Array.getD,Nr]
 · have:Nat.beq d t=false:=by
     cases hb:Nat.beq d t with
     | false=>rfl
     | true=>exact absurd (Nat.eq_of_beq_eq_true hb) e
   rw [this] at hu;have:=h.fk t u hu;simp only [Act.put,Array.getD_eq_getD_getElem?] at *;rw [Array.getElem?_setIfInBounds_ne e];exact this
theorem Ag.D8 (h:Ag n ds l a) (v:Value):Ag n ds l (a.put none v):=h
theorem Ag.sub (h:Ag n ds l a) {l':List (Nat×Value)} (hs:∀p ∈ l',lk l p.1=some p.2):Ag n ds l' a:=by
 refine ⟨h.size,h.defs,λt v hv=>?_⟩
 suffices hm:(t,v) ∈ l' from h.fk t v (hs _ hm)
 induction l' with
 | nil=>cases hv
 | cons p r ih=>
   obtain ⟨k,u⟩:=p;simp only [lk] at hv
   cases hb:Nat.beq k t with
   | true=>
     rw [hb] at hv;have:=Nat.eq_of_beq_eq_true hb;subst this;simp at hv;subst hv;exact List.mem_cons_self
   | false=>
     rw [hb] at hv;exact List.mem_cons_of_mem _ (ih (λp hp=>hs p (List.mem_cons_of_mem _ hp)) hv)
end
section
variable {P:Program} {ops:Array Oper} {Q:Exit->Act->World->Prop} {n:Nat} {ds:List Deferred} {l:List (Nat×Value)} {W:World->Prop}
def WL (P:Program) (ops:Array Oper) (Q:Exit->Act->World->Prop) (n:Nat) (ds:List Deferred) (l:List (Nat×Value)) (W:World->Prop) (rest:List Oper):Prop:=
 ∀a w,Ag n ds l a->W w->wpList P ops Q rest a w
def WC (P:Program) (c:Code) (Q:Exit->Act->World->Prop) (n:Nat) (ds:List Deferred) (l:List (Nat×Value)) (W:World->Prop):Prop:=
 ∀a w,Ag n ds l a->W w->c.wp P Q a w
def WE (Q:Exit->Act->World->Prop) (e:Exit) (n:Nat) (ds:List Deferred) (l:List (Nat×Value)) (W:World->Prop):Prop:=
 ∀a w,Ag n ds l a->W w->Q e a w
def Yl (P:Program) (l:List (Nat×Value)) (W:World->Prop) (o:Oper) (v:Value):Prop:=
 ∀(ρ:Operand->Value) (w:World),(∀x u,aB l x=some u->ρ x=u)->W w->(execOp ρ o).run P w = .ok (.value v) w
theorem Ln (h:WE Q .normal n ds l W):WL P ops Q n ds l W []:=λa w ha hw=>h a w ha hw
def cF (ops:Array Oper) (l:List (Nat×Value)) (g:Option (Nat×Bool)):Prop:=
 g=none\/∃j b dj,g=some (j,b)/\(ops[j]?).bind (·.dst)=some dj/\lk l dj=some (.bool b)
theorem cF.wanted {o:Oper} {a:Act} (h:cF ops l o.guard) (ha:Ag n ds l a):Region.wanted o (yielded ops a.tmps)=true:=by
 rcases h with h | ⟨j,b,dj,hg,hj,hl⟩
 · simp [Region.wanted,h]
 · have hv:=ha.fk dj _ hl
   rw [Array.getD_eq_getD_getElem?] at hv
   cases ht:a.tmps[dj]? with
   | none=>simp [ht,undef] at hv
   | some u=>
     simp [ht] at hv;subst hv;simp [Region.wanted,hg,yielded,hj,ht]
theorem WL.step {rest:List Oper} {o:Oper} (hg:cF ops l o.guard)
   (h:∀a w,Ag n ds l a->W w->∀K:Act->World->Prop,(∀a w,wpList P ops Q rest a w->K a w)->o.wp P a w K Q):WL P ops Q n ds l W (o::rest):=by
 intro a w ha hw;refine wpList_step λK hK=>?_;rw [if_pos (hg.wanted ha)];exact h a w ha hw K hK
theorem Lv {rest:List Oper} {d:Nat} {op:Op} {ty:TypeId} {pos:String} {af:Array Edge} {v:Value} {g:Option (Nat×Bool)} (hg:cF ops l g) (hn:Nat.blt d n=true)
   (hy:Yl P l W ⟨some d,op,ty,pos,af,g⟩ v) (h:WL P ops Q n ds ((d,v)::l) W rest):WL P ops Q n ds l W (⟨some d,op,ty,pos,af,g⟩::rest):=by
 refine WL.step hg λa w ha hw K hK=>?_;have:=hy a.eval w (λx u hx=>ha.eval hx) hw;simp only [Oper.wp,this,Oper.upon_value];exact hK _ _ (h _ _ (ha.put hn v) hw)
theorem V0 {rest:List Oper} {d:Nat} {op:Op} {ty:TypeId} {pos:String} {af:Array Edge} {v:Value} (hy:Yl P l W ⟨some d,op,ty,pos,af,none⟩ v) (h:WL P ops Q n ds ((d,v)::l) W rest) (hn:Nat.blt d n=true:=by rfl):WL P ops Q n ds l W (⟨some d,op,ty,pos,af,none⟩::rest):=Lv (.inl rfl) hn hy h
theorem Vg {rest:List Oper} {d:Nat} {op:Op} {ty:TypeId} {pos:String} {af:Array Edge} {v:Value} {g:Option (Nat×Bool)} (hy:Yl P l W ⟨some d,op,ty,pos,af,g⟩ v) (h:WL P ops Q n ds ((d,v)::l) W rest) (hg:cF ops l g:=by exact .inr ⟨_,_,_,rfl,rfl,rfl⟩) (hn:Nat.blt d n=true:=by rfl):WL P ops Q n ds l W (⟨some d,op,ty,pos,af,g⟩::rest):=Lv hg hn hy h
theorem cF.g {j:Nat} {b:Bool} {dj:Nat} {g:Option (Nat×Bool)} (h1:g=some (j,b)) (h2:(ops[j]?).bind (·.dst)=some dj) (h3:lk l dj=some (.bool b)):cF ops l g:=.inr ⟨j,b,dj,h1,h2,h3⟩
theorem WL.skip {rest:List Oper} {d:Nat} {op:Op} {ty:TypeId} {pos:String} {af:Array Edge} {j:Nat} {b:Bool} {oj:Oper} {dj:Nat} (hn:Nat.blt d n=true)
   (hj:ops[j]? = some oj) (D9:oj.dst=some dj) (u6:Nat.blt dj n=true) (hb:lk l dj=some (.bool (!b)))
   (h:WL P ops Q n ds ((d,undef)::l) W rest):WL P ops Q n ds l W (⟨some d,op,ty,pos,af,some (j,b)⟩::rest):=by
 intro a w ha hw;refine wpList_step λK hK=>?_;have hv:a.tmps.getD dj undef = .bool (!b):=ha.fk dj _ hb
 have av:dj<a.tmps.size:=by rw [ha.size]; exact Nat.le_of_ble_eq_true u6
 have u7:a.tmps[dj]? = some (.bool (!b)):=by
   rw [Array.getD_eq_getD_getElem?,Array.getElem?_eq_getElem av] at hv;rw [Array.getElem?_eq_getElem av]
   simpa using hv
 have D_:yielded ops a.tmps j=some (!b):=by simp [yielded,hj,D9,u7]
 rw [if_neg (by simp [Region.wanted,D_])];exact hK _ _ (h _ _ (ha.put hn undef) hw)
theorem WL.sub {rest:List Oper} (l':List (Nat×Value)) (hs:∀p ∈ l',lk l p.1=some p.2) (h:WL P ops Q n ds l' W rest):WL P ops Q n ds l W rest:=
 λa w ha hw=>h a w (ha.sub hs) hw
theorem WC.sub {c:Code} (l':List (Nat×Value)) (hs:∀p ∈ l',lk l p.1=some p.2) (h:WC P c Q n ds l' W):WC P c Q n ds l W:=
 λa w ha hw=>h a w (ha.sub hs) hw
theorem WE.sub {e:Exit} (l':List (Nat×Value)) (hs:∀p ∈ l',lk l p.1=some p.2) (h:WE Q e n ds l' W):WE Q e n ds l W:=
 λa w ha hw=>h a w (ha.sub hs) hw
theorem LW {rest:List Oper} {W':World->Prop} (hW:∀w,W w->W' w) (h:WL P ops Q n ds l W' rest):WL P ops Q n ds l W rest:=
 λa w ha hw=>h a w ha (hW w hw)
theorem xg {c:Code} {W':World->Prop} (hW:∀w,W w->W' w) (h:WC P c Q n ds l W'):WC P c Q n ds l W:=
 λa w ha hw=>h a w ha (hW w hw)
theorem WE.world {e:Exit} {W':World->Prop} (hW:∀w,W w->W' w) (h:WE Q e n ds l W'):WE Q e n ds l W:=
 λa w ha hw=>h a w ha (hW w hw)
theorem sn {l:List (Nat×Value)}:∀p ∈ ([]:List (Nat×Value)),lk l p.1=some p.2:=by simp
theorem sc {l r:List (Nat×Value)} {k:Nat} {v:Value} (h:lk l k=some v) (hr:∀p ∈ r,lk l p.1=some p.2):∀p ∈ (k,v)::r,lk l p.1=some p.2:=by
 intro p hp
 rcases List.mem_cons.1 hp with rfl | hp
 · exact h
 · exact hr p hp
theorem Cs {x y:Code} (h:WC P x (Exit.then (y.wp P Q) Q) n ds l W):WC P (.seq x y) Q n ds l W:=λa w ha hw=>wp_seq (h a w ha hw)
theorem Ck (h:WE Q .normal n ds l W):WC P .skip Q n ds l W:=λa w ha hw=>wp_skip (h a w ha hw)
theorem aA (h:WE Q .ret n ds l W):WC P .ret Q n ds l W:=λa w ha hw=>wp_ret (h a w ha hw)
theorem Ce {id:Nat} (h:WE Q (.exit id) n ds l W):WC P (.exit id) Q n ds l W:=λa w ha hw=>wp_exit (h a w ha hw)
theorem Cb {id:Nat} {c:Code} (h:WC P c (Exit.inBlock id Q) n ds l W):WC P (.block id c) Q n ds l W:=λa w ha hw=>wp_block (h a w ha hw)
theorem Cr {id:Nat} {o:List Oper} (h:WL P o.toArray Q n ds l W o):WC P (.region id o.toArray false) Q n ds l W:=λa w ha hw=>wp_region_lit (h a w ha hw)
theorem Cc {c:Operand} {x y:Code} {t:Bool} (hc:aB l c=some (.bool t)) (ht:t=true->WC P x Q n ds l W) (hf:t=false->WC P y Q n ds l W):WC P (.cond c x y) Q n ds l W:=
 λa w ha hw=>wp_cond_split (ha.eval hc) (λh=>ht h a w ha hw) (λh=>hf h a w ha hw)
theorem WC.Nt {c:Operand} {x y:Code} (hc:aB l c=some (.bool true)) (h:WC P x Q n ds l W):WC P (.cond c x y) Q n ds l W:=
 λa w ha hw=>wp_cond_true (ha.eval hc) (h a w ha hw)
theorem WC.lj {c:Operand} {x y:Code} (hc:aB l c=some (.bool false)) (h:WC P y Q n ds l W):WC P (.cond c x y) Q n ds l W:=
 λa w ha hw=>wp_cond_false (ha.eval hc) (h a w ha hw)
theorem Et {y:Code} {Q':Exit->Act->World->Prop} (h:WC P y Q n ds l W):WE (Exit.then (y.wp P Q) Q') .normal n ds l W:=λa w ha hw=>h a w ha hw
theorem Er {K:Act->World->Prop} (h:WE Q .ret n ds l W):WE (Exit.then K Q) .ret n ds l W:=h
theorem Ex {K:Act->World->Prop} {id:Nat} (h:WE Q (.exit id) n ds l W):WE (Exit.then K Q) (.exit id) n ds l W:=h
theorem ab {y:Code} {Q':Exit->Act->World->Prop} (h:WC P y Q n ds l W):WL P ops (Exit.then (y.wp P Q) Q') n ds l W []:=Ln (Et h)
theorem ad {id:Nat} {o:List Oper} {y:Code} (h:WL P o.toArray (Exit.then (y.wp P Q) Q) n ds l W o):WC P (.seq (.region id o.toArray false) y) Q n ds l W:=Cs (Cr h)
theorem aE {y:Code} {Q':Exit->Act->World->Prop} (h:WC P y Q n ds l W):WC P .skip (Exit.then (y.wp P Q) Q') n ds l W:=Ck (Et h)
theorem Eb {id:Nat} (h:WE Q .normal n ds l W):WE (Exit.inBlock id Q) .normal n ds l W:=h
theorem bE {id:Nat} (h:WE Q .ret n ds l W):WE (Exit.inBlock id Q) .ret n ds l W:=h
theorem bA {id:Nat} (h:WE Q .normal n ds l W):WE (Exit.inBlock id Q) (.exit id) n ds l W:=λa w ha hw=>by
 simp only [Exit.inBlock,if_true]; exact h a w ha hw
theorem Ec {id Ix:Nat} (de:Nat.beq Ix id=false) (h:WE Q (.exit Ix) n ds l W):WE (Exit.inBlock id Q) (.exit Ix) n ds l W:=λa w ha hw=>by
 have:Ix≠id:=λe=>by subst e; rw [Nat.beq_refl] at de; cases de
 simp only [Exit.inBlock,if_neg this]; exact h a w ha hw
def y4:Nat->List Value->List (Nat×Value)
 | _,[]=>[]
 | i,v::r=>(i,v)::y4 (i+1) r
theorem Nu (vs:List Value):∀(i t:Nat) (v:Value),lk (y4 i vs) t=some v->i<=t/\vs[t-i]? = some v:=by
 induction vs with
 | nil=>intro i t v h; cases h
 | cons x r ih=>
   intro i t v h;simp only [y4,lk] at h
   cases hb:Nat.beq i t with
   | true=>
     rw [hb] at h;have:=Nat.eq_of_beq_eq_true hb;subst this;simp at h;simp [h]
   | false=>
     rw [hb] at h;obtain ⟨h1,h2⟩:=ih (i+1) t v h;refine ⟨by omega,?_⟩
     have:t-i=(t-(i+1))+1:=by omega
     rw [this]
     simpa using h2
theorem enter {f:FuncId} {fn:Func} {c:Code} {vs:List Value} {w:World} {R:Ending->World->Prop} (hf:P.funcs[f]? = some fn) (hb:fn.body=some c)
   (m:Nat) (hm:fn.ntmps=m) (hle:Nat.ble vs.length m=true) (h:WC P c (bodyPost P fn R) m [] (y4 0 vs) (λw'=>w'=w)):Calls P f vs.toArray w R:=by
 refine calls_of_wp hf hb (h _ _ ?_ O);have Ut:=Nat.le_of_ble_eq_true hle;subst hm;refine ⟨by simp; omega,O,λt v hv=>?_⟩;obtain ⟨_,h2⟩:=Nu vs 0 t v hv;simp only [Nat.sub_zero] at h2
 have av:t<vs.length:=by
   rcases Nat.lt_or_ge t vs.length with h | h
   · exact h
   · simp [List.getElem?_eq_none h] at h2
 simp [Array.getD_eq_getD_getElem?,Array.getElem?_append,av];simp [List.getElem?_eq_getElem av] at h2;exact h2
theorem WE.Iy {fn:Func} {R:Ending->World->Prop} (hr:fn.results = #[]) (h:∀w,W w->R (.returned (.tuple #[])) w):WE (bodyPost P fn R) .ret n [] l W:=
 λa w ha hw=>bodyPost_ret (results_none hr _ _ _) ha.defs (h w hw)
theorem E0 {fn:Func} {R:Ending->World->Prop} (hr:fn.results = #[]) (h:∀w,W w->R (.returned (.tuple #[])) w):WE (bodyPost P fn R) .normal n [] l W:=
 λa w ha hw=>bodyPost_end (results_none hr _ _ _) ha.defs (h w hw)
theorem R1 {fn:Func} {R:Ending->World->Prop} {t:Nat} {v:Value} (hr:fn.results = #[.tmp t]) (ht:lk l t=some v) (h:∀w,W w->R (.returned v) w):WE (bodyPost P fn R) .ret n [] l W:=
 λa w ha hw=>bodyPost_ret (results_tmp hr _ _ _) ha.defs (by rw [ha.fk t v ht]; exact h w hw)
theorem WE.gi {fn:Func} {R:Ending->World->Prop} {t u:Nat} {v x:Value} (hr:fn.results = #[.tmp t,.tmp u]) (ht:lk l t=some v) (hu:lk l u=some x) (h:∀w,W w->R (.returned (.tuple #[v,x])) w):WE (bodyPost P fn R) .ret n [] l W:=
 λa w ha hw=>bodyPost_ret (results_tmp2 hr _ _ _) ha.defs (by rw [ha.fk t v ht,ha.fk u x hu]; exact h w hw)
theorem ae' {fn:Func} {t u s:Tmp} (h:fn.results = #[.tmp t,.tmp u,.tmp s]) (tmps:Array Value) (P:Program) (w:World) :
   (results fn tmps).run P w = .ok (.tuple #[tmps.getD t undef,tmps.getD u undef,tmps.getD s undef]) w:=by
 simp [results,h]
theorem WE.xh {fn:Func} {R:Ending->World->Prop} {t u s:Nat} {v x y:Value} (hr:fn.results = #[.tmp t,.tmp u,.tmp s]) (ht:lk l t=some v) (hu:lk l u=some x) (hs:lk l s=some y) (h:∀w,W w->R (.returned (.tuple #[v,x,y])) w):WE (bodyPost P fn R) .ret n [] l W:=
 λa w ha hw=>bodyPost_ret (ae' hr _ _ _) ha.defs (by rw [ha.fk t v ht,ha.fk u x hu,ha.fk s y hs]; exact h w hw)
theorem bc {fn:Func} {R:Ending->World->Prop} {ch:List PanicEntry} (h:∀w,W w->R (.panicked ch) w):WE (bodyPost P fn R) (.panic ch) n [] l W:=
 λa w ha hw=>⟨ha.defs,h w hw⟩
theorem Ep {K:Act->World->Prop} {ch:List PanicEntry} (h:WE Q (.panic ch) n ds l W):WE (Exit.then K Q) (.panic ch) n ds l W:=h
theorem WE.bx {id:Nat} {ch:List PanicEntry} (h:WE Q (.panic ch) n ds l W):WE (Exit.inBlock id Q) (.panic ch) n ds l W:=h
theorem ae_ {p:Nat->Prop}:∀m,p m->∃k,p k/\∀j,p j->k<=j:=by
 intro m
 induction m using Nat.strongRecOn with
 | _ m ih=>
   intro hm
   by_cases h:∃j,j<m/\p j
   · obtain ⟨j,hj,hp⟩:=h
     exact ih j hj hp
   · exact ⟨m,hm,λj hp=>Nat.le_of_not_lt λav=>h ⟨j,av,hp⟩⟩
theorem wp_loop_ghost {ι:Type} {c:Code} {a:Act} {w:World} (I:ι->Act->World->Prop) (μ:ι->Nat) (i0:ι) (h0:I i0 a w)
   (round:∀i a w,I i a w->c.wp P (Exit.then (λa' w'=>∃j,μ j<μ i/\I j a' w') Q) a w):(Code.loop c).wp P Q a w:=by
 classical
 let J:Act->World->Prop:=λa w=>∃i,I i a w
 have ex:∀a w,J a w->∃k,(∃i,I i a w/\μ i=k)/\∀j,(∃i,I i a w/\μ i=j)->k<=j:=by
   rintro a w ⟨i,hi⟩
   exact ae_ (μ i) ⟨i,hi,O⟩
 let M:Act->World->Nat:=λa w=>if h:J a w then Classical.choose (ex a w h) else 0
 have hM:∀a w,J a w->∃i,I i a w/\μ i=M a w:=by
   intro a w h;have:=(Classical.choose_spec (ex a w h)).1;simp only [M,dif_pos h];exact this
 have hle:∀a w i,I i a w->M a w<=μ i:=by
   intro a w i hi;have h:J a w:=⟨i,hi⟩;simp only [M,dif_pos h];exact (Classical.choose_spec (ex a w h)).2 _ ⟨i,hi,O⟩
 refine wp_loop J M ⟨i0,h0⟩ λa w hJ=>?_;obtain ⟨i,hi,lQ⟩:=hM a w hJ;refine wp_mono (round i a w hi) λe a' w' hq=>?_
 cases e with
 | normal=>
   obtain ⟨j,hj,hI⟩:=hq;exact ⟨⟨j,hI⟩,by have:=hle a' w' j hI; omega⟩
 | _=>exact hq
theorem WC.loop {ι:Type} {c:Code} (E:ι->List (Nat×Value)) (Wi:ι->World->Prop) (R:ι->Prop) (μ:ι->Nat) (i0:ι) (hR:R i0) (hE:∀p ∈ E i0,lk l p.1=some p.2) (hW:∀w,W w->Wi i0 w)
   (round:∀i,R i->WC P c (Exit.then (λa' w'=>∃j,μ j<μ i/\R j/\Ag n ds (E j) a'/\Wi j w') Q) n ds (E i) (Wi i)):WC P (.loop c) Q n ds l W:=by
 intro a w ha hw;refine wp_loop_ghost (λi a w=>R i/\Ag n ds (E i) a/\Wi i w) μ i0 ⟨hR,ha.sub hE,hW w hw⟩ λi a w hI=>?_;exact round i hI.1 a w hI.2.1 hI.2.2
theorem Ea {ι:Type} {E:ι->List (Nat×Value)} {Wi:ι->World->Prop} {R:ι->Prop} {μ:ι->Nat} {i:ι} (j:ι) (hμ:μ j<μ i) (hR:R j) (hE:∀p ∈ E j,lk l p.1=some p.2) (hW:∀w,W w->Wi j w) :
   WE (Exit.then (λa' w'=>∃j,μ j<μ i/\R j/\Ag n ds (E j) a'/\Wi j w') Q) .normal n ds l W:=λa w ha hw=>⟨j,hμ,hR,ha.sub hE,hW w hw⟩
end
abbrev View:=Nat->Option Obj
def Le (H:View) (w:World):Prop:=∀b o,H b=some o->w.heap[b]? = some o
def aK (H H':View):Prop:=∀b o,H b=some o->H' b=some o
theorem aK.refl (H:View):aK H H:=λ_ _ h=>h
theorem aK.trans {A B C:View} (h:aK A B) (k:aK B C):aK A C:=λb o x=>k b o (h b o x)
def ew (w:World) (H:View):Prop:=∀b,b<w.heap.size->H b=none
def nv (w0 w:World):View:=λb=>if w0.heap.size<=b then w.heap[b]? else none
theorem Nv (w0 w:World):Le (nv w0 w) w:=λb o h=>by unfold nv at h; split at h; exact h; cases h
theorem Br (w0 w:World):ew w0 (nv w0 w):=λb h=>by unfold nv; rw [if_neg (by omega)]
theorem afb {w0 w:World} {H:View} (hl:Le H w) (hf:ew w0 H):aK H (nv w0 w):=λb o h=>by
 unfold nv;rw [if_pos,hl b o h]
 rcases Nat.lt_or_ge b w0.heap.size with hb | hb
 · rw [hf b hb] at h; cases h
 · exact hb
theorem ew.mono {w w':World} {H:View} (h:ew w' H) (hs:w.heap.size<=w'.heap.size):ew w H:=λb hb=>h b (by omega)
structure Fr (F:List Nat) (w0 w:World):Prop where
 os:w.os=w0.os
 tape:w.tape=w0.tape
 output:w.output=w0.output
 size:w0.heap.size<=w.heap.size
 block:∀k,k<w0.heap.size->k ∉ F->w.heap[k]? = w0.heap[k]?
abbrev Ext (w w':World):Prop:=Fr [] w w'
theorem Fr.refl (F:List Nat) (w:World):Fr F w w:=⟨rfl,rfl,rfl,Nat.le_refl _,λ_ _ _=>rfl⟩
theorem Fr.trans {F G:List Nat} {a b c:World} (h:Fr F a b) (k:Fr G b c) (hG:∀x ∈ G,x ∈ F\/a.heap.size<=x):Fr F a c:=
 ⟨k.os.trans h.os,k.tape.trans h.tape,k.output.trans h.output,Nat.le_trans h.size k.size,λi hi hF=>
   (k.block i (Nat.lt_of_lt_of_le hi h.size) λhg=>by rcases hG i hg with h' | h'; exact hF h'; omega).trans (h.block i hi hF)⟩
theorem Ext.trans {a b c:World} (h:Ext a b) (k:Ext b c):Ext a c:=Fr.trans h k (by simp)
theorem Ext.below {w w':World} (h:Ext w w'):Below w.heap.size w w':=⟨h.os,h.tape,h.output,h.size,λk hk=>h.block k hk (by simp)⟩
theorem Ext.Nw {w w':World} (h:Below w.heap.size w w'):Ext w w':=⟨h.os,h.tape,h.output,h.size,λk hk _=>h.block k hk⟩
theorem Ext.drew (w:World):Ext w w.drew:=⟨rfl,rfl,rfl,Nat.le_refl _,λ_ _ _=>rfl⟩
theorem Ext.alloc (w:World) (o:Obj):Ext w (w.alloc o):=⟨rfl,rfl,rfl,by simp,λk hk _=>Below.heap_alloc _ _ _ hk⟩
theorem lt_of_heap {w:World} {b:Nat} {o:Obj} (h:w.heap[b]? = some o):b<w.heap.size:=by
 rcases Nat.lt_or_ge b w.heap.size with hb | hb
 · exact hb
 · rw [Array.getElem?_eq_none hb] at h; cases h
theorem Le.ext {H:View} {w w':World} (h:Le H w) (e:Ext w w'):Le H w':=λb o x=>(e.block b (lt_of_heap (h b o x)) (by simp)).trans (h b o x)
structure ao where
 ids:List Nat
 holds:World->Prop
 loc:∀w w',(∀k ∈ ids,w'.heap[k]? = w.heap[k]?)->holds w->holds w'
 Ee:∀w,holds w->∀k ∈ ids,k<w.heap.size
def ah (b:Nat) (o:Obj):ao:=⟨[b],λw=>w.heap[b]? = some o,λw w' h hw=>(h b (by simp)).trans hw,λw hw k hk=>by simp at hk; subst hk; exact lt_of_heap hw⟩
structure Ws (w0:World) (F:List Nat) (L:List ao) (Vs:List View) (w:World):Prop where
 fr:Fr F w0 w
 kn:∀A ∈ L,A.holds w
 nd:(L.flatMap ao.ids).Nodup
 own:∀A ∈ L,∀k ∈ A.ids,k ∈ F\/w0.heap.size<=k
 vs:∀H ∈ Vs,Le H w
 off:∀H ∈ Vs,∀A ∈ L,∀k ∈ A.ids,H k=none
section
variable {w0 w w':World} {F:List Nat} {L L' L2:List ao} {Vs:List View}
theorem Ws.init (hV:∀H ∈ Vs,Le H w):Ws w [] [] Vs w:=⟨Fr.refl _ _,by simp,by simp,by simp,hV,by simp⟩
theorem CE {P:Program} {Q:Exit->Act->World->Prop} {n:Nat} {ds:List Deferred} {l:List (Nat×Value)} {c:Code} {w0 w:World} {F:List Nat} {L:List ao} {Vs:List View} (hw:Ws w0 F L Vs w) (h:WC P c Q n ds l (Ws w0 F L Vs)):WC P c Q n ds l (λw'=>w'=w):=
 xg (λ_ e=>by subst e; exact hw) h
theorem Ws.xi (h:Ws w0 F (L++L2) Vs w) (hf:Fr (L.flatMap ao.ids) w w') (hk:∀A ∈ L',A.holds w')
   (hn:(L'.flatMap ao.ids).Nodup) (hi:∀A ∈ L',∀k ∈ A.ids,k ∈ L.flatMap ao.ids\/w.heap.size<=k):Ws w0 F (L'++L2) Vs w':=by
 have nd:=h.nd;rw [List.flatMap_append,List.nodup_append] at nd
 have same:∀A ∈ L2,∀k ∈ A.ids,w'.heap[k]? = w.heap[k]?:=λA hA k hk=>
   hf.block k (A.Ee w (h.kn A (by simp [hA])) k hk) λhm=>nd.2.2 k hm k (List.mem_flatMap.2 ⟨A,hA,hk⟩) rfl
 refine ⟨?_,?_,?_,?_,?_,?_⟩
 · refine h.fr.trans hf λx hx=>?_
   obtain ⟨A,hA,Ef⟩:=List.mem_flatMap.1 hx;exact h.own A (by simp [hA]) x Ef
 · intro A hA
   rcases List.mem_append.1 hA with hA | hA
   · exact hk A hA
   · exact A.loc w w' (same A hA) (h.kn A (by simp [hA]))
 · rw [List.flatMap_append,List.nodup_append]
   refine ⟨hn,nd.2.1,λx hx y hy e=>?_⟩;subst e;obtain ⟨A,hA,Ef⟩:=List.mem_flatMap.1 hx;obtain ⟨B,hB,Eg⟩:=List.mem_flatMap.1 hy
   rcases hi A hA x Ef with h1 | h1
   · exact nd.2.2 x h1 x hy O
   · have:=B.Ee w (h.kn B (by simp [hB])) x Eg
     omega
 · intro A hA k Eh
   rcases List.mem_append.1 hA with hA | hA
   · rcases hi A hA k Eh with h1 | h1
     · obtain ⟨B,hB,Eg⟩:=List.mem_flatMap.1 h1
       exact h.own B (by simp [hB]) k Eg
     · exact .inr (Nat.le_trans h.fr.size h1)
   · exact h.own A (by simp [hA]) k Eh
 · intro H hH b o hb
   rw [hf.block b (lt_of_heap (h.vs H hH b o hb))]
   · exact h.vs H hH b o hb
   · intro hm
     obtain ⟨A,hA,Ef⟩:=List.mem_flatMap.1 hm;have:=h.off H hH A (by simp [hA]) b Ef;rw [this] at hb; cases hb
 · intro H hH A hA k Eh
   rcases List.mem_append.1 hA with hA | hA
   · rcases hi A hA k Eh with h1 | h1
     · obtain ⟨B,hB,Eg⟩:=List.mem_flatMap.1 h1
       exact h.off H hH B (by simp [hB]) k Eg
     · cases hb:H k with
       | none=>rfl
       | some o=>have:=lt_of_heap (h.vs H hH k o hb); omega
   · exact h.off H hH A (by simp [hA]) k Eh
theorem Ws.ext (h:Ws w0 F L Vs w) (e:Ext w w'):Ws w0 F L Vs w':=by
 have:=Ws.xi (L:=[]) (L':=[]) (L2:=L) (by simpa using h) (by simpa using e) (by simp) (by simp) (by simp)
 simpa using this
theorem Ws.alloc (h:Ws w0 F L Vs w) (o:Obj):Ws w0 F (ah w.heap.size o::L) Vs (w.alloc o):=by
 have:=Ws.xi (L:=[]) (L':=[ah w.heap.size o]) (L2:=L) (by simpa using h) (by simpa using Ext.alloc w o)
   (by intro A hA; simp at hA; subst hA; show (w.heap.push o)[w.heap.size]? = some o; simp) (by simp [ah]) (by simp [ah])
 simpa using this
theorem Ws.view (h:Ws w0 F L Vs w) (e:Ext w w') {H:View} (hl:Le H w') (hf:ew w H):Ws w0 F L (H::Vs) w':=by
 have g:=h.ext e;refine ⟨g.fr,g.kn,g.nd,g.own,?_,?_⟩
 · intro V hV
   rcases List.mem_cons.1 hV with rfl | hV
   · exact hl
   · exact g.vs V hV
 · intro V hV A hA k hk
   rcases List.mem_cons.1 hV with rfl | hV
   · exact hf k (A.Ee w (h.kn A hA) k hk)
   · exact g.off V hV A hA k hk
theorem Ws.perm (h:Ws w0 F L Vs w) (hp:L.Perm L'):Ws w0 F L' Vs w:=
 ⟨h.fr,λA hA=>h.kn A (hp.mem_iff.2 hA),(List.Perm.flatMap_right _ hp).nodup_iff.1 h.nd,λA hA=>h.own A (hp.mem_iff.2 hA),h.vs,λH hH A hA=>h.off H hH A (hp.mem_iff.2 hA)⟩
theorem Ws.drop (h:Ws w0 F (L++L') Vs w):Ws w0 F L' Vs w:=by
 have nd:=h.nd;rw [List.flatMap_append,List.nodup_append] at nd;exact ⟨h.fr,λA hA=>h.kn A (by simp [hA]),nd.2.1,λA hA=>h.own A (by simp [hA]),h.vs,λH hH A hA=>h.off H hH A (by simp [hA])⟩
theorem Ws.bF (h:Ws w0 F L Vs w) {a_:List View} (hs:∀H ∈ a_,H ∈ Vs):Ws w0 F L a_ w:=
 ⟨h.fr,h.kn,h.nd,h.own,λH hH=>h.vs H (hs H hH),λH hH=>h.off H (hs H hH)⟩
end
def df {α:Type}:Nat->List α->List α
 | _,[]=>[]
 | 0,_::r=>r
 | i+1,x::r=>x::df i r
theorem nU {α:Type} {x:α}:∀(i:Nat) (l:List α),l[i]? = some x->l.Perm (x::df i l)
 | _,[],h=>by cases h
 | 0,y::r,h=>by simp at h; subst h; exact List.Perm.refl _
 | i+1,y::r,h=>by
   have:=nU i r (by simpa using h);exact (List.Perm.cons y this).trans (List.Perm.swap _ _ _)
theorem set_perm {α:Type} {x y:α}:∀(i:Nat) (l:List α),l[i]? = some x->(y::df i l).Perm (l.set i y)
 | _,[],h=>by cases h
 | 0,z::r,_=>by simp [df]
 | i+1,z::r,h=>by
   have:=set_perm (y:=y) i r (by simpa using h);exact (List.Perm.swap _ _ _).trans (List.Perm.cons z this)
theorem Ws.xj {w0 w w':World} {F:List Nat} {L:List ao} {Vs:List View} (h:Ws w0 F L Vs w) (i:Nat) {A B:ao} (hi:L[i]? = some A) (hf:Fr A.ids w w') (hk:B.holds w')
   (hn:B.ids.Nodup) (Nx:∀k ∈ B.ids,k ∈ A.ids\/w.heap.size<=k):Ws w0 F (L.set i B) Vs w':=by
 have h1:=h.perm (nU i L hi);have h2:=Ws.xi (L:=[A]) (L':=[B]) (L2:=df i L) (by simpa using h1) (by simpa using hf) (by simpa using hk) (by simpa using hn) (by simpa using Nx);exact Ws.perm (by simpa using h2) (set_perm i L hi)
theorem dz {α:Type} {l:List α} {i:Nat} {x:α} (h:l[i]? = some x):x ∈ l:=List.mem_of_getElem? h
def dQ (P:Program) (t:TypeId):Bool:=match P.underlying t with | some (.struct _) | some (.array _ _) | none=>false | _=>true
def gj (P:Program) (t:TypeId):Option Nat:=match P.underlying t with | some (.struct _) | some (.array _ _)=>(P.info? t).map (·.size) | _=>none
def bw (P:Program) (t:TypeId) (f:Nat):Option Nat:=match P.underlying t with
 | some (.struct fs)=>match fs[f]? with
   | some x=>match P.info? x.type with
     | some i=>if i.size=0 then none else some x.offset
     | none=>none
   | none=>none
 | _=>none
def eo (P:Program) (t:TypeId):Option Nat:=match P.underlying t with | some (.slice e)=>(P.info? e).map (·.size) | _=>none
section
variable {P:Program} {w:World}
theorem Iz {t:TypeId} (h:dQ P t=true) (w:World):(isAgg t).run P w = .ok false w:=by
 unfold dQ at h
 cases hu:P.underlying t with
 | none=>simp [hu] at h
 | some d=>cases d<;>simp_all [isAgg,run_underlying hu]
theorem afc {t:TypeId} {k:Nat} (h:gj P t=some k) (w:World):(isAgg t).run P w = .ok true w/\(sizeOf t).run P w = .ok k w:=by
 unfold gj at h
 cases hu:P.underlying t with
 | none=>simp [hu] at h
 | some d=>
   cases hi:P.info? t with
   | none=>cases d<;>simp_all
   | some i=>cases d<;>simp_all [isAgg,run_underlying hu,sizeOf,typeInfo]
def fT (o:Obj) (k:Nat):Option Value:=match o with | .cells c _ _=>c.toList[k]? | _=>none
def vc (H:View) (b k:Nat):Option Value:=(H b).bind (fT · k)
theorem cell_of_heap {b k:Nat} {o:Obj} {v:Value} (h:w.heap[b]? = some o) (hc:fT o k=some v):w.cell? ⟨b,k,none⟩=some v:=by
 cases o<;>simp_all [fT,World.cell?]
theorem Le.cell {H:View} (h:Le H w) {b k:Nat} {v:Value} (hc:vc H b k=some v):w.cell? ⟨b,k,none⟩=some v:=by
 unfold vc at hc
 cases hb:H b with
 | none=>simp [hb] at hc
 | some o=>simp [hb] at hc; exact cell_of_heap (h b o hb) hc
theorem aK.cell {H H':View} (h:aK H H') {b k:Nat} {v:Value} (hc:vc H b k=some v):vc H' b k=some v:=by
 unfold vc at *
 cases hb:H b with
 | none=>simp [hb] at hc
 | some o=>simp [hb] at hc; simp [h b o hb,hc]
theorem oQ (b o k:Nat):(⟨b,o,none⟩:Addr).add k=⟨b,o+k,none⟩:=by unfold Addr.add; split<;>simp_all
theorem Uu {t:TypeId} (ht:dQ P t=true) {b k:Nat} {v:Value} (hc:w.cell? ⟨b,k,none⟩=some v):(loadVar t ⟨b,k,none⟩).run P w = .ok v w:=by
 simp [loadVar,Iz ht,hc]
theorem IA {t:TypeId} {n:Nat} (ht:gj P t=some n) {b k:Nat} {cs:List Value} (hl:cs.length=n) (hc:∀j v,cs[j]? = some v->w.cell? ⟨b,k+j,none⟩=some v) :
   (loadVar t ⟨b,k,none⟩).run P w = .ok (.agg cs.toArray) w:=by
 obtain ⟨h1,h2⟩:=afc ht w;have:=run_loadCells_list (P:=P) w ⟨b,k,none⟩ cs (λj v h=>by rw [oQ]; exact hc j v h);rw [hl] at this;simp [loadVar,h1,h2,this]
end
def st (l:List UInt8):Value:=.string ⟨l.toArray⟩
section
variable {P:Program} {l:List (Nat×Value)} {W:World->Prop} {w0:World} {F:List Nat} {L:List ao} {Vs:List View}
 {d:Option Tmp} {ty:TypeId} {pos:String} {af:Array Edge} {g:Option (Nat×Bool)}
theorem Ym {x:Operand} {v:Value} (hx:aB l x=some v):Yl P l W ⟨d,.move x,ty,pos,af,g⟩ v:=λρ w aC _=>by simp [execOp,aC x v hx]
theorem Ya {x:Operand} {v:Value} (hx:aB l x=some v):Yl P l W ⟨d,.assign x,ty,pos,af,g⟩ v:=λρ w aC _=>by simp [execOp,aC x v hx]
theorem aa {P:Program} {ops:Array Oper} {Q:Exit->Act->World->Prop} {n:Nat} {ds:List Deferred} {l:List (Nat×Value)} {W:World->Prop} {rest:List Oper} {d:Nat} {x:Operand} {ty:TypeId} {pos:String} {af:Array Edge} {v:Value} (hx:aB l x=some v) (h:WL P ops Q n ds ((d,v)::l) W rest) (hn:Nat.blt d n=true:=by rfl):WL P ops Q n ds l W (⟨some d,.move x,ty,pos,af,none⟩::rest):=V0 (Ym hx) h hn
theorem ae {P:Program} {ops:Array Oper} {Q:Exit->Act->World->Prop} {n:Nat} {ds:List Deferred} {l:List (Nat×Value)} {W:World->Prop} {rest:List Oper} {d:Nat} {x:Operand} {ty:TypeId} {pos:String} {af:Array Edge} {v:Value} (hx:aB l x=some v) (h:WL P ops Q n ds ((d,v)::l) W rest) (hn:Nat.blt d n=true:=by rfl):WL P ops Q n ds l W (⟨some d,.assign x,ty,pos,af,none⟩::rest):=V0 (Ya hx) h hn
theorem aW {t u:TypeId} {x y:Operand} {k:IntKind} {a b:Int} (hx:aB l x=some (.int k a)) (hy:aB l y=some (.int k b)):Yl P l W ⟨d,.binOp .eql t x y u,ty,pos,af,g⟩ (.bool (a==b)):=
 λρ w aC _=>by simp [execOp,aC x _ hx,aC y _ hy,eqGuard,binOp,Op.intCmp]
theorem eL {t u:TypeId} {x y:Operand} {k:IntKind} {a b:Int} (hx:aB l x=some (.int k a)) (hy:aB l y=some (.int k b)):Yl P l W ⟨d,.binOp .neq t x y u,ty,pos,af,g⟩ (.bool (a != b)):=
 λρ w aC _=>by simp [execOp,aC x _ hx,aC y _ hy,eqGuard,binOp,Op.intCmp]
theorem bj {t u:TypeId} {x y:Operand} {k:IntKind} {a b:Int} (hx:aB l x=some (.int k a)) (hy:aB l y=some (.int k b)):Yl P l W ⟨d,.binOp .lss t x y u,ty,pos,af,g⟩ (.bool (decide (a<b))):=
 λρ w aC _=>by simp [execOp,aC x _ hx,aC y _ hy,eqGuard,binOp,Op.intCmp]
theorem iN {t u:TypeId} {x y:Operand} {k:IntKind} {a b:Int} (hx:aB l x=some (.int k a)) (hy:aB l y=some (.int k b)):Yl P l W ⟨d,.binOp .leq t x y u,ty,pos,af,g⟩ (.bool (decide (a<=b))):=
 λρ w aC _=>by simp [execOp,aC x _ hx,aC y _ hy,eqGuard,binOp,Op.intCmp]
theorem cI {t u:TypeId} {x y:Operand} {k:IntKind} {a b:Int} (hx:aB l x=some (.int k a)) (hy:aB l y=some (.int k b)):Yl P l W ⟨d,.binOp .gtr t x y u,ty,pos,af,g⟩ (.bool (decide (b<a))):=
 λρ w aC _=>by simp [execOp,aC x _ hx,aC y _ hy,eqGuard,binOp,Op.intCmp]
theorem fm {t u:TypeId} {x y:Operand} {k:IntKind} {a b:Int} (hx:aB l x=some (.int k a)) (hy:aB l y=some (.int k b)):Yl P l W ⟨d,.binOp .geq t x y u,ty,pos,af,g⟩ (.bool (decide (b<=a))):=
 λρ w aC _=>by simp [execOp,aC x _ hx,aC y _ hy,eqGuard,binOp,Op.intCmp]
theorem Ei {t u:TypeId} {x y:Operand} {k:IntKind} {a b:Int} (hx:aB l x=some (.int k a)) (hy:aB l y=some (.int k b)):Yl P l W ⟨d,.binOp .add t x y u,ty,pos,af,g⟩ (.int k (k.wrap (a+b))):=
 λρ w aC _=>by simp [execOp,aC x _ hx,aC y _ hy,eqGuard,binOp,Op.intArith]
theorem afd {t u:TypeId} {x y:Operand} {k:IntKind} {a b:Int} (hx:aB l x=some (.int k a)) (hy:aB l y=some (.int k b)):Yl P l W ⟨d,.binOp .sub t x y u,ty,pos,af,g⟩ (.int k (k.wrap (a-b))):=
 λρ w aC _=>by simp [execOp,aC x _ hx,aC y _ hy,eqGuard,binOp,Op.intArith]
theorem Bs {n:Int} (h : -9223372036854775808<=n/\n<=9223372036854775807):IntKind.i64.wrap n=n:=by rw [IntKind.wrap_i64]; omega
theorem mY {t u:TypeId} {x y:Operand} {a b:Int} (hx:aB l x=some (.int .i64 a)) (hy:aB l y=some (.int .i64 b)) (hb : -9223372036854775808<=a+b/\a+b<=9223372036854775807):Yl P l W ⟨d,.binOp .add t x y u,ty,pos,af,g⟩ (.int .i64 (a+b)):=by
 have:=Ei (P:=P) (W:=W) (d:=d) (t:=t) (u:=u) (ty:=ty) (pos:=pos) (af:=af) (g:=g) hx hy
 rwa [Bs hb] at this
theorem afe {t u:TypeId} {x y:Operand} {a b:Int} (hx:aB l x=some (.int .i64 a)) (hy:aB l y=some (.int .i64 b)) (hb : -9223372036854775808<=a-b/\a-b<=9223372036854775807):Yl P l W ⟨d,.binOp .sub t x y u,ty,pos,af,g⟩ (.int .i64 (a-b)):=by
 have:=afd (P:=P) (W:=W) (d:=d) (t:=t) (u:=u) (ty:=ty) (pos:=pos) (af:=af) (g:=g) hx hy
 rwa [Bs hb] at this
theorem Yi {t u:TypeId} {x y:Operand} {a:Nat} {b:Int} (hx:aB l x=some (.int .i64 (a:Int))) (hy:aB l y=some (.int .i64 b)) (h1:b=1) (hb:(a:Int)<9223372036854775807):Yl P l W ⟨d,.binOp .add t x y u,ty,pos,af,g⟩ (.int .i64 ((a+1:Nat):Int)):=by
 subst h1;have:=mY (P:=P) (W:=W) (d:=d) (t:=t) (u:=u) (ty:=ty) (pos:=pos) (af:=af) (g:=g) hx hy (by omega)
 simpa using this
theorem y5 {t u:TypeId} {x y:Operand} {a b:List UInt8} (hx:aB l x=some (st a)) (hy:aB l y=some (st b)):Yl P l W ⟨d,.binOp .eql t x y u,ty,pos,af,g⟩ (.bool (a==b)):=
 λρ w aC _=>by simp [execOp,aC x _ hx,aC y _ hy,st,eqGuard,binOp,Op.stringOp]
theorem IB {t u:TypeId} {x y:Operand} {a b:List UInt8} (hx:aB l x=some (st a)) (hy:aB l y=some (st b)):Yl P l W ⟨d,.binOp .neq t x y u,ty,pos,af,g⟩ (.bool (!(a==b))):=
 λρ w aC _=>by simp [execOp,aC x _ hx,aC y _ hy,st,eqGuard,binOp,Op.stringOp]
theorem aff {t u:TypeId} {x y:Operand} {a b:List UInt8} (hx:aB l x=some (st a)) (hy:aB l y=some (st b)) (h:a.length+b.length<=9223372036854775807):Yl P l W ⟨d,.binOp .add t x y u,ty,pos,af,g⟩ (st (a++b)):=by
 intro ρ w aC _
 have e:(Op.stringOp .add ⟨a.toArray⟩ ⟨b.toArray⟩).run P w = .ok (st (a++b)) w:=by
   rw [run_string_add_sum w _ _ (by show a.toArray.size+b.toArray.size<=_; simpa using h)];simp [st]
   rfl
 simp [execOp,aC x _ hx,aC y _ hy,st,eqGuard,binOp,e]
theorem dK {t:TypeId} {x:Operand} {b:Bool} (hx:aB l x=some (.bool b)):Yl P l W ⟨d,.unOp .not t x,ty,pos,af,g⟩ (.bool (!b)):=
 λρ w aC _=>by simp [execOp,aC x _ hx,Op.unary]
theorem bD {x:Operand} {p:Addr} (hx:aB l x=some (.pointer (some p))):Yl P l W ⟨d,.nilCheck x,ty,pos,af,g⟩ (.pointer (some p)):=
 λρ w aC _=>by simp [execOp,aC x _ hx]
theorem Yx {x:Operand} {vs:Array Value} {i:Nat} {v:Value} (hx:aB l x=some (.tuple vs)) (hi:vs[i]? = some v):Yl P l W ⟨d,.extract x i,ty,pos,af,g⟩ v:=
 λρ w aC _=>by simp [execOp,aC x _ hx,Instr.extract,hi]
theorem Yf {t:TypeId} {x:Operand} {f o b k:Nat} (ho:bw P t f=some k) (hx:aB l x=some (.pointer (some ⟨b,o,none⟩))):Yl P l W ⟨d,.fieldAddr t x f,ty,pos,af,g⟩ (.pointer (some ⟨b,o+k,none⟩)):=by
 intro ρ w aC _;unfold bw at ho
 cases hu:P.underlying t with
 | none=>simp [hu] at ho
 | some dd=>
   cases dd<;>simp [hu] at ho
   rename_i fs
   cases hf:fs[f]? with
   | none=>simp [hf] at ho
   | some fd=>
     simp [hf] at ho
     cases hi:P.info? fd.type with
     | none=>simp [hi] at ho
     | some i=>
       simp [hi] at ho;obtain ⟨h0,rfl⟩:=ho;simp [execOp,aC x _ hx,Instr.fieldAt,run_underlying hu,hf,Instr.sureAddr,fieldPlace,sizeOf,typeInfo,hi,h0,oQ]
theorem Uv {t:TypeId} {x y:Operand} {b o n c s:Nat} {k:IntKind} {i:Int} (hs:eo P t=some s) (hx:aB l x=some (.slice (some ⟨b,o,none⟩) n c)) (hy:aB l y=some (.int k i)) (h0:0<=i) (h1:i<n) :
   Yl P l W ⟨d,.indexAddr t x y,ty,pos,af,g⟩ (.pointer (some ⟨b,o+i.toNat*s,none⟩)):=by
 intro ρ w aC _;unfold eo at hs
 cases hu:P.underlying t with
 | none=>simp [hu] at hs
 | some dd=>
   cases dd<;>simp [hu] at hs
   rename_i e;obtain ⟨inf,hi,rfl⟩:=hs;simp [execOp,aC x _ hx,aC y _ hy,Instr.indexAt,run_underlying hu,asIntOf,h0,h1,sizeOf,typeInfo,hi,oQ]
theorem IC {t:TypeId} {x y:Operand} {b o n c s:Nat} {k:IntKind} {i:Nat} (hs:eo P t=some s) (hx:aB l x=some (.slice (some ⟨b,o,none⟩) n c)) (hy:aB l y=some (.int k (i:Int))) (h1:i<n) :
   Yl P l W ⟨d,.indexAddr t x y,ty,pos,af,g⟩ (.pointer (some ⟨b,o+i*s,none⟩)):=by
 have:=Uv (P:=P) (W:=W) (d:=d) (ty:=ty) (pos:=pos) (af:=af) (g:=g) hs hx hy (by omega) (by omega)
 simpa using this
theorem Yn {t:TypeId} {x:Operand} {a:Option Addr} {n c s:Nat} (hs:eo P t=some s) (hx:aB l x=some (.slice a n c)):Yl P l W ⟨d,.call ⟨.builtin .len,#[x],#[t]⟩,ty,pos,af,g⟩ (.int .i64 (n:Int)):=by
 intro ρ w aC _;unfold eo at hs
 cases hu:P.underlying t with
 | none=>simp [hu] at hs
 | some dd=>
   cases dd<;>simp [hu] at hs
   simp [execOp,resolve,invoke,builtin,aC x _ hx,Builtin.len_,run_underlying hu,goInt]
theorem qU {t:TypeId} {x:Operand} {s:List UInt8} (hs:P.underlying t=some .string) (hx:aB l x=some (st s)):Yl P l W ⟨d,.call ⟨.builtin .len,#[x],#[t]⟩,ty,pos,af,g⟩ (.int .i64 (s.length:Int)):=by
 intro ρ w aC _
 have e:(ByteArray.mk s.toArray).size=s.length:=by show s.toArray.size=_; simp
 simp [execOp,resolve,invoke,builtin,aC x _ hx,st,Builtin.len_,run_underlying hs,goInt,e]
theorem afg (s:List UInt8) (i:Nat):(ByteArray.mk s.toArray)[i]? = s[i]?:=by
 rcases Nat.lt_or_ge i s.length with h | h
 · rw [List.getElem?_eq_getElem h,getElem?_pos (ByteArray.mk s.toArray) i (by show i<s.toArray.size; simpa using h)]
   rfl
 · rw [List.getElem?_eq_none h,getElem?_neg (ByteArray.mk s.toArray) i (by show ¬i<s.toArray.size; simpa using h)]
theorem afh {t:TypeId} {x y:Operand} {s:List UInt8} {k:IntKind} {i:Int} {u:UInt8} (hs:P.underlying t=some .string) (hx:aB l x=some (st s)) (hy:aB l y=some (.int k i)) (h0:0<=i) (hu:s[i.toNat]? = some u) :
   Yl P l W ⟨d,.index t x y,ty,pos,af,g⟩ (.int .u8 (u.toNat:Int)):=by
 intro ρ w aC _;simp [execOp,aC x _ hx,aC y _ hy,st,Instr.index,asIntOf,run_underlying hs,h0,afg,hu]
theorem y6 {t:TypeId} {x y:Operand} {s:List UInt8} {k:IntKind} {i:Nat} {u:UInt8} (hs:P.underlying t=some .string) (hx:aB l x=some (st s)) (hy:aB l y=some (.int k (i:Int))) (hu:s[i]? = some u) :
   Yl P l W ⟨d,.index t x y,ty,pos,af,g⟩ (.int .u8 (u.toNat:Int)):=afh hs hx hy (by omega) (by simpa using hu)
theorem Ny {t:TypeId} {x:Operand} {b o:Nat} {v:Value} (ht:dQ P t=true) (hx:aB l x=some (.pointer (some ⟨b,o,none⟩))) (hc:∀w,W w->w.cell? ⟨b,o,none⟩=some v):Yl P l W ⟨d,.load t x,ty,pos,af,g⟩ v:=
 λρ w aC hw=>by simp [execOp,aC x _ hx,Instr.loadAt,Instr.sureAddr,Uu ht (hc w hw)]
theorem Uw {t:TypeId} {x:Operand} {b o n:Nat} {cs:List Value} (ht:gj P t=some n) (hx:aB l x=some (.pointer (some ⟨b,o,none⟩))) (hl:cs.length=n) (hc:∀w,W w->∀j v,cs[j]? = some v->w.cell? ⟨b,o+j,none⟩=some v) :
   Yl P l W ⟨d,.load t x,ty,pos,af,g⟩ (.agg cs.toArray):=
 λρ w aC hw=>by simp [execOp,aC x _ hx,Instr.loadAt,Instr.sureAddr,IA ht hl (hc w hw)]
theorem bo {t:TypeId} {x:Operand} {b o:Nat} {v:Value} {H:View} (i:Nat) (ht:dQ P t=true) (hx:aB l x=some (.pointer (some ⟨b,o,none⟩))) (hV:Vs[i]? = some H) (hc:vc H b o=some v) :
   Yl P l (Ws w0 F L Vs) ⟨d,.load t x,ty,pos,af,g⟩ v:=Ny ht hx λ_ hw=>(hw.vs H (dz hV)).cell hc
theorem cJ {t:TypeId} {x:Operand} {b o n:Nat} {cs:List Value} {H:View} (i:Nat) (ht:gj P t=some n) (hx:aB l x=some (.pointer (some ⟨b,o,none⟩))) (hV:Vs[i]? = some H) (hl:cs.length=n) (hc:∀j v,cs[j]? = some v->vc H b (o+j)=some v) :
   Yl P l (Ws w0 F L Vs) ⟨d,.load t x,ty,pos,af,g⟩ (.agg cs.toArray):=Uw ht hx hl λ_ hw j v h=>(hw.vs H (dz hV)).cell (hc j v h)
theorem Yd {t:TypeId} {x:Operand} {b o:Nat} {v:Value} {ob:Obj} (i:Nat) (hx:aB l x=some (.pointer (some ⟨b,o,none⟩))) (hL:L[i]? = some (ah b ob)) (hc:fT ob o=some v) (ht:dQ P t=true) :
   Yl P l (Ws w0 F L Vs) ⟨d,.load t x,ty,pos,af,g⟩ v:=Ny ht hx λ_ hw=>cell_of_heap (hw.kn _ (dz hL)) hc
def cellsIn (o:Obj) (k n:Nat):List Value:=match o with | .cells c _ _=>(c.toList.drop k).take n | _=>[]
theorem bk {t:TypeId} {x:Operand} {b o n:Nat} {ob:Obj} (i:Nat) (hx:aB l x=some (.pointer (some ⟨b,o,none⟩))) (hL:L[i]? = some (ah b ob)) (ht:gj P t=some n) (hl:(cellsIn ob o n).length=n) :
   Yl P l (Ws w0 F L Vs) ⟨d,.load t x,ty,pos,af,g⟩ (.agg (cellsIn ob o n).toArray):=Uw ht hx hl λw hw j v h=>by
 have hk:w.heap[b]? = some ob:=hw.kn _ (dz hL);refine cell_of_heap hk ?_
 cases ob<;>simp [cellsIn,fT] at *
 rw [List.getElem?_take] at h
 split at h
 · simpa using h
 · cases h
end
def zeroOf (P:Program) (t:TypeId):Option Value:=(P.info? t).bind (·.zero)
def cC (P:Program) (t:TypeId):Option Nat:=(P.info? t).map (·.size)
theorem y7 {P:Program} {t:TypeId} {z:Value} (h:zeroOf P t=some z) (w:World):(zeroValue t).run P w = .ok z w:=by
 unfold zeroOf at h
 cases hi:P.info? t with
 | none=>simp [hi] at h
 | some i=>simp [hi] at h; simp [zeroValue,typeInfo,hi,h]
theorem ID {P:Program} {t:TypeId} {k:Nat} (h:cC P t=some k) (w:World):(sizeOf t).run P w = .ok k w:=by
 unfold cC at h
 cases hi:P.info? t with
 | none=>simp [hi] at h
 | some i=>simp [hi] at h; simp [sizeOf,typeInfo,hi,h]
theorem afi (vs:List Value):∀(k off:Nat) (cells:Array Value),off+k+vs.length<=cells.size->
   ((vs.zipIdx k).foldl (λcs (p:Value×Nat)=>cs.setIfInBounds (off+p.2) p.1) cells).toList=cells.toList.take (off+k)++vs++cells.toList.drop (off+k+vs.length):=by
 induction vs with
 | nil=>intro k off cells _; simp
 | cons v r ih=>
   intro k off cells h;simp only [List.zipIdx_cons,List.foldl_cons];rw [ih (k+1) off _ (by simp at h ⊢; omega)];simp only [Array.toList_setIfInBounds];have:=list_seg_step cells.toList (off+k) v r (by simp at h ⊢; omega)
   simpa [Nat.add_assoc] using this
def dN:Value->List Value | .agg cs=>cs.toList | v=>[v]
theorem xk (v:Value):v.cells.toList=dN v:=by cases v<;>rfl
def sQ (place:Nat->Option (Nat×Nat)):List Value->List (Nat×Value)->Option (List Value)
 | cells,[]=>some cells
 | cells,(i,v)::r=>match place i with
   | some (off,size)=>bif Nat.beq (dN v).length size&&Nat.ble (off+size) cells.length then sQ place (cells.take off++dN v++cells.drop (off+size)) r else none
   | none=>none
theorem Ej (place:Nat->Option (Nat×Nat)):∀(parts:List (Nat×Value)) (cells:Array Value) (out:List Value),sQ place cells.toList parts=some out->Instr.fill place cells parts=some out.toArray
 | [],cells,out,h=>by simp [sQ] at h; simp [Instr.fill,<-h]
 | (i,v)::r,cells,out,h=>by
   simp only [sQ] at h
   cases hp:place i with
   | none=>simp [hp] at h
   | some x=>
     obtain ⟨off,size⟩:=x;simp only [hp] at h
     cases hb:(Nat.beq (dN v).length size&&Nat.ble (off+size) cells.toList.length) with
     | false=>rw [hb] at h; cases h
     | true=>
       rw [hb] at h;simp only [Bool.and_eq_true] at hb;have h1:=Nat.eq_of_beq_eq_true hb.1;have h2:=Nat.le_of_ble_eq_true hb.2
       have h3:v.cells.size=size:=by rw [<-h1,<-xk]; simp
       have h4:off+v.cells.size<=cells.size:=by rw [h3]; simpa using h2
       simp only [Instr.fill,hp];rw [if_neg (by simp [h3]; rw [h3] at h4; omega)];have e:=afi v.cells.toList 0 off cells (by simpa using h4);simp only [Nat.add_zero,Array.length_toList] at e
       have e2:(v.cells.zipIdx.foldl (λcs (c,j)=>cs.setIfInBounds (off+j) c) cells)=(cells.toList.take off++dN v++cells.toList.drop (off+size)).toArray:=by
         apply Array.ext';rw [<-Array.foldl_toList,Array.toList_zipIdx];rw [h3] at e;rw [e,xk]
       rw [e2];exact Ej place r _ out (by simpa using h)
def fo (P:Program) (t:TypeId):Option (List (Nat×Nat)):=match P.underlying t with
 | some (.struct fs)=>fs.toList.mapM λf=>(cC P f.type).map (f.offset,·)
 | _=>none
theorem run_places {P:Program}:∀(fs:List Field) (pl:List (Nat×Nat)),fs.mapM (λf=>(cC P f.type).map (f.offset,·))=some pl->∀w:World,
   (fs.mapM (m:=Sem) λf=>do pure (f.offset,<-sizeOf f.type)).run P w = .ok pl w
 | [],pl,h,w=>by simp at h; subst h; simp
 | f::fs,pl,h,w=>by
   simp only [List.mapM_cons,Option.bind_eq_bind] at h
   cases hs:cC P f.type with
   | none=>simp [hs] at h
   | some k=>
     simp only [hs,Option.map_some,Option.bind_some] at h
     cases hr:fs.mapM (λf=>(cC P f.type).map (f.offset,·)) with
     | none=>simp [hr] at h
     | some rl=>
       simp [hr] at h;subst h;have ih:=run_places fs rl hr w;simp only [List.mapM_cons,Sem.run_bind,ID hs,Result.andThen_ok,Sem.run_pure,ih]
def u9 (l:List (Nat×Value)):List (Nat×Operand)->Option (List (Nat×Value))
 | []=>some []
 | (i,x)::r=>match aB l x,u9 l r with
   | some v,some vs=>some ((i,v)::vs)
   | _,_=>none
theorem IE {l:List (Nat×Value)} {ρ:Operand->Value} (aC:∀x u,aB l x=some u->ρ x=u):∀(ps:List (Nat×Operand)) (vs:List (Nat×Value)),u9 l ps=some vs->ps.map (λp=>(p.1,ρ p.2))=vs
 | [],vs,h=>by simp [u9] at h; simp [h]
 | (i,x)::r,vs,h=>by
   simp only [u9] at h
   cases hx:aB l x with
   | none=>simp [hx] at h
   | some v=>
     cases hr:u9 l r with
     | none=>simp [hx,hr] at h
     | some us=>
       simp [hx,hr] at h;subst h;simp [aC x v hx,IE aC r us hr]
def i_ (l:List (Nat×Value)):List Operand->Option (List Value)
 | []=>some []
 | x::r=>match aB l x,i_ l r with
   | some v,some vs=>some (v::vs)
   | _,_=>none
theorem IF {l:List (Nat×Value)} {ρ:Operand->Value} (aC:∀x u,aB l x=some u->ρ x=u):∀(ps:List Operand) (vs:List Value),i_ l ps=some vs->ps.map ρ=vs
 | [],vs,h=>by simp [i_] at h; simp [h]
 | x::r,vs,h=>by
   simp only [i_] at h
   cases hx:aB l x with
   | none=>simp [hx] at h
   | some v=>
     cases hr:i_ l r with
     | none=>simp [hx,hr] at h
     | some us=>
       simp [hx,hr] at h;subst h;simp [aC x v hx,IF aC r us hr]
section
variable {P:Program} {l:List (Nat×Value)} {W:World->Prop} {w0:World} {F:List Nat} {L:List ao} {Vs:List View}
 {d:Option Tmp} {ty:TypeId} {pos:String} {af:Array Edge} {g:Option (Nat×Bool)}
theorem Yb {t:TypeId} {parts:List (Nat×Operand)} {vs:List (Nat×Value)} {z:Value} {pl:List (Nat×Nat)} {out:List Value} (hz:zeroOf P t=some z) (hp:fo P t=some pl)
   (hv:u9 l parts=some vs) (hf:sQ (λi=>pl[i]?) (dN z) vs=some out):Yl P l W ⟨d,.build t parts.toArray,ty,pos,af,g⟩ (.agg out.toArray):=by
 intro ρ w aC _
 have e1:((parts.toArray.map λ (i,x)=>(i,ρ x)):Array (Nat×Value)).toList=vs:=by simpa using IE aC parts vs hv
 unfold fo at hp
 cases hu:P.underlying t with
 | none=>simp [hu] at hp
 | some dd=>
   cases dd<;>simp [hu] at hp
   rename_i fs;have e2:=run_places (P:=P) fs.toList pl (by simpa using hp) w
   have e3:(fs.mapM (m:=Sem) λf=>do pure (f.offset,<-sizeOf f.type)).run P w = .ok pl.toArray w:=by
     rw [Array.mapM_eq_mapM_toList,Sem.run_map,e2]; rfl
   have e4:Instr.fill (λi=>pl.toArray[i]?) z.cells vs=some out.toArray:=by
     refine Ej _ vs z.cells out ?_;rw [xk]
     simpa using hf
   simp only [execOp,Instr.build,Sem.run_bind,y7 hz,Result.andThen_ok,run_underlying hu,e3,e1,e4,Sem.run_pure]
end
section
variable {P:Program} {ops:Array Oper} {Q:Exit->Act->World->Prop} {n:Nat} {ds:List Deferred} {l:List (Nat×Value)} {W:World->Prop} {w0:World} {F:List Nat} {L:List ao} {Vs:List View}
 {rest:List Oper} {d:Nat} {ty:TypeId} {pos:String} {af:Array Edge} {g:Option (Nat×Bool)}
theorem Ux (t:TypeId) (v:Value) (w:World):(newVar t v).run P w = .ok ⟨w.heap.size,0,none⟩ (w.alloc (.cells v.cells t)):=by
 simp [newVar,newRow]
theorem WL.new {op:Op} {o:Obj} {mk:Nat->Value} (hg:cF ops l g) (hn:Nat.blt d n=true)
   (hr:∀(ρ:Operand->Value) (w:World),(∀x u,aB l x=some u->ρ x=u)->Ws w0 F L Vs w->(execOp ρ ⟨some d,op,ty,pos,af,g⟩).run P w = .ok (.value (mk w.heap.size)) (w.alloc o))
   (h:∀b,WL P ops Q n ds ((d,mk b)::l) (Ws w0 F (ah b o::L) Vs) rest) :
   WL P ops Q n ds l (Ws w0 F L Vs) (⟨some d,op,ty,pos,af,g⟩::rest):=by
 refine WL.step hg λa w ha hw K hK=>?_;have:=hr a.eval w (λx u hx=>ha.eval hx) hw;simp only [Oper.wp,this,Oper.upon_value];exact hK _ _ (h w.heap.size _ _ (ha.put hn _) (hw.alloc o))
theorem WL.box {T:TypeId} {x:Operand} {v:Value} (hg:cF ops l g) (hn:Nat.blt d n=true) (hx:aB l x=some v)
   (h:∀b,WL P ops Q n ds ((d,.pointer (some ⟨b,0,none⟩))::l) (Ws w0 F (ah b (.cells v.cells T (0,0))::L) Vs) rest) :
   WL P ops Q n ds l (Ws w0 F L Vs) (⟨some d,.box T x,ty,pos,af,g⟩::rest):=
 WL.new (mk:=λb=>.pointer (some ⟨b,0,none⟩)) hg hn (λρ w aC hw=>by simp [execOp,Instr.box,aC x v hx,Ux]) h
theorem Al {T:TypeId} {z:Value} (hg:cF ops l g) (hn:Nat.blt d n=true) (hz:zeroOf P T=some z)
   (h:∀b,WL P ops Q n ds ((d,.pointer (some ⟨b,0,none⟩))::l) (Ws w0 F (ah b (.cells z.cells T (0,0))::L) Vs) rest) :
   WL P ops Q n ds l (Ws w0 F L Vs) (⟨some d,.alloc T,ty,pos,af,g⟩::rest):=
 WL.new (mk:=λb=>.pointer (some ⟨b,0,none⟩)) hg hn (λρ w aC hw=>by simp [execOp,Instr.alloc,y7 hz,Ux]) h
def u_ (ob:Obj) (o:Nat) (vs:List Value):Obj:=match ob with | .cells c T f=>.cells (c.toList.take o++vs++c.toList.drop (o+vs.length)).toArray T f | x=>x
def va (ob:Obj) (o k:Nat):Bool:=match ob with | .cells c _ f=>Nat.ble (o+k) c.toList.length&&(Nat.beq f.1 0&&Nat.beq f.2 0) | _=>false
theorem Uy {t:TypeId} {k b o:Nat} {ob:Obj} {v:Value} {w:World} (hs:cC P t=some k) (hl:(dN v).length=k) (h1:(dN v).all (·.oneCell')=true) (hb:w.heap[b]? = some ob) (aJ:va ob o k=true) :
   (storeVar t ⟨b,o,none⟩ v).run P w = .ok () { w with heap:=w.heap.setIfInBounds b (u_ ob o (dN v)) }:=by
 cases ob with
 | cells c T f=>
   obtain ⟨f1,f2⟩:=f;simp only [va,Bool.and_eq_true] at aJ;obtain ⟨h2,h3,h4⟩:=aJ;have e1:=Nat.eq_of_beq_eq_true h3;have e2:=Nat.eq_of_beq_eq_true h4;subst e1; subst e2;have h2:=Nat.le_of_ble_eq_true h2;have e:=run_storeCells_at P b o T (dN v) 0 c w hb (by simp at h2 ⊢; omega) (λu hu=>List.all_eq_true.1 h1 u hu)
   have hc:v.cells.size=k:=by rw [<-hl,<-xk]; simp
   have e0:(storeVar t ⟨b,o,none⟩ v).run P w=(storeCells ⟨b,o,none⟩ (dN v)).run P w:=by
     simp [storeVar,ID hs,hc,xk]
   rw [e0,e];have IG:=setRow_heap w b c (c.toList.take (o+0)++dN v++c.toList.drop (o+0+(dN v).length)).toArray T (0,0) hb;have av:=lt_of_heap hb;simp only [u_,Nat.add_zero] at IG ⊢
   suffices hh:(w.setRow b (c.toList.take o++dN v++c.toList.drop (o+(dN v).length)).toArray).heap=w.heap.setIfInBounds b (.cells (c.toList.take o++dN v++c.toList.drop (o+(dN v).length)).toArray T (0,0)) by
     rw [<-hh]; rfl
   apply Array.ext_getElem?;intro j
   by_cases hj:b=j
   · subst hj
     rw [IG];simp [av]
   · rw [Array.getElem?_setIfInBounds_ne hj]
     simp [World.setRow,Array.getElem?_modify,hj]
 | _=>simp [va] at aJ
theorem an {t:TypeId} {x y:Operand} {b o k:Nat} {ob:Obj} {v:Value} (i:Nat) (hg:cF ops l g) (hx:aB l x=some (.pointer (some ⟨b,o,none⟩))) (hy:aB l y=some v) (hL:L[i]? = some (ah b ob))
   (hs:cC P t=some k) (hl:(dN v).length=k) (h1:(dN v).all (·.oneCell')=true) (aJ:va ob o k=true)
   (h:WL P ops Q n ds l (Ws w0 F (L.set i (ah b (u_ ob o (dN v)))) Vs) rest) :
   WL P ops Q n ds l (Ws w0 F L Vs) (⟨none,.store t x y,ty,pos,af,g⟩::rest):=by
 refine WL.step hg λa w ha hw K hK=>?_;have hb:w.heap[b]? = some ob:=hw.kn _ (dz hL)
 have dr:(execOp a.eval ⟨none,.store t x y,ty,pos,af,g⟩).run P w = .ok .skip { w with heap:=w.heap.setIfInBounds b (u_ ob o (dN v)) }:=by
   simp only [execOp,ha.eval hx,ha.eval hy,Instr.storeAt,Instr.sureAddr,Sem.run_bind,Sem.run_pure,Result.andThen_ok,Uy hs hl h1 hb aJ]
 simp only [Oper.wp,dr,Oper.upon_skip];refine hK _ _ (h _ _ (ha.D8 undef) ?_);refine Ws.xj hw i hL ⟨O,O,O,by simp,λj hj de=>?_⟩ ?_ (by simp [ah]) (by simp [ah])
 · have:b≠j:=λe=>de (by simp [ah,e])
   simp [Array.getElem?_setIfInBounds_ne this]
 · show (w.heap.setIfInBounds b _)[b]? = _
   simp [lt_of_heap hb]
def Enters (P:Program) (f:FuncId):Prop:=∀args w,(callFunc f args).run P w = .ok (.enter f args) w
theorem enters_of {f : FuncId} {fn : Func} (hf : P.funcs[f]? = some fn) (hn : (fn.name == "runtime.NumGoroutine") = false) (hb : fn.body.isNone = false) : Enters P f := λargs w => by
 have sR : fn.name ≠ "runtime.NumGoroutine" := by simpa using hn
 have sS:fn.body≠none:=by intro e; rw [e] at hb; cases hb
 simp [callFunc,hf,sR,sS]
theorem Nz {ρ:Operand->Value} {dst:Option Tmp} {f:FuncId} {args:Array Operand} {ts:Array TypeId} {vs:List Value} {w:World} (hf:Enters P f) (aC:∀x u,aB l x=some u->ρ x=u) (ha:i_ l args.toList=some vs) :
   (execOp ρ ⟨dst,.call ⟨.value (.func f),args,ts⟩,ty,pos,af,g⟩).run P w = .ok (.enter f vs.toArray) w:=by
 have e:args.map ρ=vs.toArray:=by
   apply Array.ext'
   simpa using IF aC _ _ ha
 have e2:ρ (.func f) = .func (.func f) #[] #[]:=aC (.func f) _ rfl;simp only [execOp,resolve,e,e2,Deferred.ofValue,Sem.run_bind,Sem.run_pure,Result.andThen_ok,invoke]
 simpa using hf _ w
theorem WL.Ek {ι:Type} {f:FuncId} {args:Array Operand} {ts:Array TypeId} {vs:List Value} (hg:cF ops l g) (hn:Nat.blt d n=true) (hf:Enters P f) (ha:i_ l args.toList=some vs)
   (v:ι->Value) (R:ι->World->Prop) (Pn:List PanicEntry->World->Prop)
   (hC:∀w,W w->Calls P f vs.toArray w λe w'=>(∃i,e = .returned (v i)/\R i w')\/∃ch,e = .panicked ch/\Pn ch w')
   (hr:∀i,WL P ops Q n ds ((d,v i)::l) (R i) rest) (hp:∀ch,WE Q (.panic ch) n ds l (Pn ch)) :
   WL P ops Q n ds l W (⟨some d,.call ⟨.value (.func f),args,ts⟩,ty,pos,af,g⟩::rest):=by
 refine WL.step hg λa w cY hw K hK=>?_;have dr:=Nz (P:=P) (dst:=some d) (ts:=ts) (ty:=ty) (pos:=pos) (af:=af) (g:=g) (w:=w) hf (λx u hx=>cY.eval hx) ha;simp only [Oper.wp,dr,Oper.upon_enter];refine (hC w hw).mono λe w' he=>?_
 rcases he with ⟨i,rfl,h⟩ | ⟨ch,rfl,h⟩
 · exact hK _ _ (hr i _ _ (cY.put hn _) h)
 · exact hp ch _ _ cY h
theorem WL.call {ι:Type} {f:FuncId} {args:Array Operand} {ts:Array TypeId} {vs:List Value} (hg:cF ops l g) (hn:Nat.blt d n=true) (hf:Enters P f) (ha:i_ l args.toList=some vs)
   (v:ι->Value) (R:ι->World->Prop)
   (hC:∀w,W w->Calls P f vs.toArray w λe w'=>∃i,e = .returned (v i)/\R i w')
   (hr:∀i,WL P ops Q n ds ((d,v i)::l) (R i) rest) :
   WL P ops Q n ds l W (⟨some d,.call ⟨.value (.func f),args,ts⟩,ty,pos,af,g⟩::rest):=
 WL.Ek hg hn hf ha v R (λ_ _=>False) (λw hw=>(hC w hw).mono λ_ _ h=>.inl h) hr (λ_ _ _ _ h=>h.elim)
theorem Lp {f:FuncId} {args:Array Operand} {ts:Array TypeId} {vs:List Value} {v:Value} (hg:cF ops l g) (hn:Nat.blt d n=true) (hf:Enters P f) (ha:i_ l args.toList=some vs)
   (hC:∀w,Ws w0 F L Vs w->Calls P f vs.toArray w λe w'=>e = .returned v/\Ext w w')
   (hr:WL P ops Q n ds ((d,v)::l) (Ws w0 F L Vs) rest) :
   WL P ops Q n ds l (Ws w0 F L Vs) (⟨some d,.call ⟨.value (.func f),args,ts⟩,ty,pos,af,g⟩::rest):=by
 refine WL.step hg λa w cY hw K hK=>?_;have dr:=Nz (P:=P) (dst:=some d) (ts:=ts) (ty:=ty) (pos:=pos) (af:=af) (g:=g) (w:=w) hf (λx u hx=>cY.eval hx) ha;simp only [Oper.wp,dr,Oper.upon_enter];refine (hC w hw).mono λe w' he=>?_;obtain ⟨rfl,h⟩:=he;exact hK _ _ (hr _ _ (cY.put hn _) (hw.ext h))
theorem Ld {ι:Type} {f:FuncId} {args:Array Operand} {ts:Array TypeId} {vs:List Value} (hg:cF ops l g) (hn:Nat.blt d n=true) (hf:Enters P f) (ha:i_ l args.toList=some vs)
   (v:ι->Value) (R:View->ι->Prop)
   (hC:∀w,Ws w0 F L Vs w->Calls P f vs.toArray w λe w'=>∃i,e = .returned (v i)/\Ext w w'/\R (nv w w') i)
   (hr:∀H i,ew w0 H->R H i->WL P ops Q n ds ((d,v i)::l) (Ws w0 F L (H::Vs)) rest) :
   WL P ops Q n ds l (Ws w0 F L Vs) (⟨some d,.call ⟨.value (.func f),args,ts⟩,ty,pos,af,g⟩::rest):=by
 refine WL.step hg λa w cY hw K hK=>?_;have dr:=Nz (P:=P) (dst:=some d) (ts:=ts) (ty:=ty) (pos:=pos) (af:=af) (g:=g) (w:=w) hf (λx u hx=>cY.eval hx) ha;simp only [Oper.wp,dr,Oper.upon_enter];refine (hC w hw).mono λe w' he=>?_;obtain ⟨i,rfl,h,hR⟩:=he;exact hK _ _ (hr (nv w w') i ((Br w w').mono hw.fr.size) hR _ _ (cY.put hn _) (hw.view h (Nv w w') (Br w w')))
end
section
variable {P:Program} {ops:Array Oper} {Q:Exit->Act->World->Prop} {n:Nat} {ds:List Deferred} {l:List (Nat×Value)} {W:World->Prop} {w0:World} {F:List Nat} {L:List ao} {Vs:List View}
 {rest:List Oper} {d:Nat} {ty:TypeId} {pos:String} {af:Array Edge} {g:Option (Nat×Bool)}
def aY (e:TypeId) (size:Nat) (v:Value) (m:Nat) (xs:List Value):ao:=
 ⟨v.ownBlock.toList,λw=>w.ownsRow 0 e size v m xs,
  λw w' h hw=>by
   obtain ⟨h1,h2⟩:=hw;refine ⟨h1,?_⟩
   rcases h2 with h2 | ⟨g,cap,cur,hv,h0,hg,r⟩
   · exact .inl h2
   · exact .inr ⟨g,cap,cur,hv,h0,by rw [h g (by simp [hv,Value.ownBlock])]; exact hg,r⟩,
  λw hw k hk=>by
   obtain ⟨h1,h2⟩:=hw
   rcases h2 with ⟨h2,_⟩ | ⟨g,cap,cur,hv,h0,hg,r⟩
   · subst h2; simp [Value.ownBlock] at hk
   · subst hv; simp [Value.ownBlock] at hk; subst hk; exact lt_of_heap hg⟩
theorem Ws.eM {w:World} (h:Ws w0 F L Vs w) (e:TypeId) (size:Nat):Ws w0 F (aY e size (.slice none 0 0) 0 []::L) Vs w:=by
 have:=Ws.xi (L:=[]) (L':=[aY e size (.slice none 0 0) 0 []]) (L2:=L) (by simpa using h) (Fr.refl _ _)
   (by intro A hA; simp at hA; subst hA; exact World.ownsRow_nil _ _ _ _) (by simp [aY,Value.ownBlock]) (by simp [aY,Value.ownBlock])
 simpa using this
theorem Ws.Uz {w:World} (h:Ws w0 F L Vs w) (i:Nat) {b m cap:Nat} {cur:Array Value} {e:TypeId} {size:Nat} (hL:L[i]? = some (ah b (.cells cur e (0,0)))) (hm:m<=cap) (hc:cap<=maxLen) (hs:cur.size=cap*size) :
   Ws w0 F (L.set i (aY e size (.slice (some ⟨b,0,none⟩) m cap) m (cur.toList.take (m*size)))) Vs w:=by
 have hb:w.heap[b]? = some (.cells cur e (0,0)):=h.kn _ (dz hL);refine Ws.xj h i hL (Fr.refl _ _) ?_ (by simp [aY,Value.ownBlock]) (by simp [aY,ah,Value.ownBlock]);exact ⟨by rw [List.length_take,Array.length_toList,hs]; exact Nat.min_eq_left (Nat.mul_le_mul_right _ hm),.inr ⟨b,cap,cur,O,Nat.zero_le _,hb,hm,hc,hs,O⟩⟩
structure e9 (P:Program) (t e:TypeId) (z:Value) (size bytes:Nat):Prop where
 under:P.underlying t=some (.slice e)
 info:∃i,P.info? e=some i/\i.zero=some z/\i.size=size/\i.bytes=bytes
 zs:z.cells.size=size
 pos:0<size
def UA (P:Program) (t:TypeId):Option (TypeId×Value×Nat×Nat):=match P.underlying t with
 | some (.slice e)=>match P.info? e with
   | some i=>match i.zero with
     | some z=>bif Nat.beq z.cells.size i.size&&Nat.blt 0 i.size then some (e,z,i.size,i.bytes) else none
     | none=>none
   | none=>none
 | _=>none
theorem ja {t e:TypeId} {z:Value} {size bytes:Nat} (h:UA P t=some (e,z,size,bytes)):e9 P t e z size bytes:=by
 unfold UA at h
 cases hu:P.underlying t with
 | none=>simp [hu] at h
 | some dd=>
   cases dd<;>simp [hu] at h
   rename_i e'
   cases hi:P.info? e' with
   | none=>simp [hi] at h
   | some i=>
     simp [hi] at h
     cases hz:i.zero with
     | none=>simp [hz] at h
     | some z'=>
       simp only [hz] at h
       cases hb:(Nat.beq z'.cells.size i.size&&Nat.blt 0 i.size) with
       | false=>rw [hb] at h; cases h
       | true=>
         rw [hb] at h;simp at h;obtain ⟨rfl,rfl,rfl,rfl⟩:=h;simp only [Bool.and_eq_true] at hb;exact ⟨hu,⟨i,hi,hz,O,O⟩,Nat.eq_of_beq_eq_true hb.1,Nat.le_of_ble_eq_true hb.2⟩
theorem afj {t e ty:TypeId} {z v v':Value} {size bytes m c k:Nat} {a:Addr} {xs news:List Value} {w w':World} (hE:e9 P t e z size bytes) (qV:w.ownsRow 0 e size v m xs)
   (hl:news.length=k*size) (Bt:∀j u,news[j]? = some u->w.cell? (a.add j)=some u) (h1:∀u ∈ news,u.oneCell'=true)
   (oR:m+k<=maxLen) (oS:(m+k)*bytes<=140737488355328) (dr:(Builtin.append_ #[t,t] ty #[v,.slice (some a) k c]).run P w = .ok v' w') (pN:v' = .slice none 0 0↔v = .slice none 0 0/\k=0) :
   v'.ownBlock=v.ownBlock\/v'.ownBlock=some w.heap.size:=by
 obtain ⟨inf,hi,hz,kh,kO⟩:=hE.info;subst kh; subst kO
 have afk:((m+k:Nat):Int)<=9223372036854775807:=by simp only [maxLen] at oR; omega
 obtain ⟨hx,h2⟩:=qV
 rcases h2 with ⟨rfl,rfl⟩ | ⟨g,cap,cur,rfl,_,hg,lR,xl,iO,Bu⟩
 · by_cases hk:k=0
   · exact .inl (by rw [pN.2 ⟨O,hk⟩])
   · have e2:=run_append_nil (P:=P) w t ty e inf z hE.under hi hz a k c news hl Bt (by omega) (by omega) (by simp at oS; omega)
     rw [dr] at e2
     injection e2 with e2 _
     exact .inr (by rw [e2]; rfl)
 · by_cases IH:m+k<=cap
   · have e2:=run_append_room (P:=P) w t ty e inf hE.under hi g m cap cur hg a k c news hl Bt h1 IH (by
       rw [hl,iO,<-Nat.add_mul]; exact Nat.mul_le_mul_right _ IH)
     rw [dr] at e2
     injection e2 with e2 _
     exact .inl (by rw [e2]; rfl)
   · have NA:∀j v,xs[j]? = some v->w.cell? ((⟨g,0,none⟩:Addr).add j)=some v:=by
       intro j u hu;rw [oQ,<-Bu] at *;refine cell_of_heap hg ?_;rw [List.getElem?_take] at hu
       split at hu
       · simpa [fT] using hu
       · cases hu
     have e2:=run_append_grow (P:=P) w t ty e inf z hE.under hi hz ⟨g,0,none⟩ m cap xs hx NA a k c news hl Bt (by omega) afk (growslice_fits (by omega) oS);rw [dr] at e2
     injection e2 with e2 _
     exact .inr (by rw [e2]; rfl)
theorem WL.append {t e:TypeId} {z v:Value} {size bytes m c k:Nat} {s x:Operand} {a:Addr} {xs news:List Value} (i:Nat) (hg:cF ops l g) (hn:Nat.blt d n=true) (hE:e9 P t e z size bytes)
   (hs:aB l s=some v) (hx:aB l x=some (.slice (some a) k c)) (hL:L[i]? = some (aY e size v m xs))
   (hl:news.length=k*size) (Bt:∀w,Ws w0 F L Vs w->∀j u,news[j]? = some u->w.cell? (a.add j)=some u) (h1:∀u ∈ news,u.oneCell'=true)
   (oR:m+k<=maxLen) (oS:(m+k)*bytes<=140737488355328)
   (h:∀v',(v' = .slice none 0 0↔v = .slice none 0 0/\k=0)->WL P ops Q n ds ((d,v')::l) (Ws w0 F (L.set i (aY e size v' (m+k) (xs++news))) Vs) rest) :
   WL P ops Q n ds l (Ws w0 F L Vs) (⟨some d,.call ⟨.builtin .append,#[s,x],#[t,t]⟩,ty,pos,af,g⟩::rest):=by
 refine WL.step hg λa' w ha hw K hK=>?_;obtain ⟨inf,hi,hz,kh,kO⟩:=hE.info;have qV:w.ownsRow 0 e size v m xs:=hw.kn _ (dz hL);obtain ⟨v',w',dr,II,kP,pN⟩:=run_append_own (P:=P) w 0 t ty e inf z size bytes hE.under hi hz kh kO hE.zs hE.pos v m xs qV a k c news hl (Bt w hw) h1 oR oS (Nat.zero_le _)
 have lS:(execOp a'.eval ⟨some d,.call ⟨.builtin .append,#[s,x],#[t,t]⟩,ty,pos,af,g⟩).run P w = .ok (.value v') w':=by
   simp only [execOp,resolve,List.map_toArray,List.map_cons,List.map_nil,ha.eval hs,ha.eval hx,Sem.run_bind,Sem.run_pure,Result.andThen_ok,invoke,builtin,dr]
 simp only [Oper.wp,lS,Oper.upon_value];refine hK _ _ (h v' pN _ _ (ha.put hn _) ?_);refine Ws.xj hw i hL ⟨kP.os,kP.tape,kP.output,kP.size,λj hj de=>kP.block j hj λe=>de ?_⟩ II ?_ λj hj=>?_
 · simp [aY,<-e]
 · cases hv:v'.ownBlock<;>simp [aY,hv]
 · simp only [aY,Option.mem_toList] at hj ⊢
   rcases afj hE qV hl (Bt w hw) h1 oR oS dr pN with e | e
   · exact .inl (by rw [<-e]; exact hj)
   · rw [e] at hj; injection hj with hj; exact .inr (by omega)
end
section
variable {P:Program} {ops:Array Oper} {Q:Exit->Act->World->Prop} {n:Nat} {ds:List Deferred} {l:List (Nat×Value)} {W:World->Prop} {w0:World} {F:List Nat} {L:List ao} {Vs:List View}
def pO (us l:List (Nat×Value)):Bool:=us.all λp=>(lk l p.1).isNone
theorem afl {us:List (Nat×Value)} (hf:pO us l=true) {t:Nat} {u:Value} (hu:lk l t=some u):lk (us++l) t=some u:=by
 induction us with
 | nil=>exact hu
 | cons p r ih=>
   obtain ⟨k,v⟩:=p;simp only [pO,List.all_cons,Bool.and_eq_true] at hf;simp only [List.cons_append,lk]
   cases hb:Nat.beq k t with
   | false=>exact ih hf.2
   | true=>
     have:=Nat.eq_of_beq_eq_true hb;subst this;have hn:=hf.1;rw [hu] at hn;cases hn
theorem Ag.forget {a:Act} {us:List (Nat×Value)} (h:Ag n ds (us++l) a) (hf:pO us l=true):Ag n ds l a:=
 ⟨h.size,h.defs,λt u hu=>h.fk t u (afl hf hu)⟩
theorem Ag.IJ {a:Act} {l':List (Nat×Value)} (m:Nat) (h:Ag n ds l' a) (hd:l'.drop m=l) (hf:pO (l'.take m) l=true):Ag n ds l a:=by
 subst hd;rw [<-List.take_append_drop m l'] at h;exact h.forget hf
def lT (ops:Array Oper):List (Nat×Value)->List Oper->Option (List (Nat×Value))
 | l,[]=>some l
 | l,o::r=>match o.guard,o.dst with
   | some (j,b),some d=>match (ops[j]?).bind (·.dst) with
     | some dj=>match lk l dj with
       | some (.bool b')=>bif (b' != b) then lT ops ((d,undef)::l) r else none
       | some (.tuple _)=>lT ops ((d,undef)::l) r
       | _=>none
     | none=>none
   | _,_=>none
def sT (n:Nat) (os:List Oper):Bool:=os.all λo=>match o.dst with | some d=>Nat.blt d n | none=>true
theorem UB {a:Act} {l:List (Nat×Value)} (ha:Ag n ds l a) {t:Nat} {v:Value} (h:lk l t=some v) (hv:v≠undef\/t<n):a.tmps[t]? = some v:=by
 have h1:=ha.fk t v h;rw [Array.getD_eq_getD_getElem?] at h1
 rcases Nat.lt_or_ge t a.tmps.size with av | bP
 · rw [Array.getElem?_eq_getElem av] at h1 ⊢
   simpa using h1
 · rw [Array.getElem?_eq_none bP] at h1
   rcases hv with hv | hv
   · exact absurd (by simpa using h1.symm) hv
   · rw [ha.size] at bP; omega
theorem WL.NB {gs rest:List Oper} {l2:List (Nat×Value)}:∀{l:List (Nat×Value)},lT ops l gs=some l2->sT n gs=true->(∀a w,Ag n ds l2 a->W w->wpList P ops Q rest a w)->
   ∀a w,Ag n ds l a->W w->wpList P ops Q (gs++rest) a w:=by
 induction gs with
 | nil=>intro l hs _ h a w ha hw; simp [lT] at hs; subst hs; exact h a w ha hw
 | cons o r ih=>
   intro l hs iw h a w ha hw;simp only [lT] at hs;simp only [sT,List.all_cons,Bool.and_eq_true] at iw
   have key:∀d,o.dst=some d->Region.wanted o (yielded ops a.tmps)=false->lT ops ((d,undef)::l) r=some l2->wpList P ops Q (o::r++rest) a w:=by
     intro d hd dE IK
     have NC:Nat.blt d n=true:=by have:=iw.1; rw [hd] at this; exact this
     simp only [List.cons_append,wpList,dE];rw [hd];exact ih IK iw.2 h _ _ (ha.put NC undef) hw
   cases hg:o.guard with
   | none=>simp [hg] at hs
   | some jb=>
     obtain ⟨j,b⟩:=jb
     cases hd:o.dst with
     | none=>simp [hg,hd] at hs
     | some d=>
       simp only [hg,hd] at hs
       cases hj:(ops[j]?).bind (·.dst) with
       | none=>simp [hj] at hs
       | some dj=>
         simp only [hj] at hs
         cases hl:lk l dj with
         | none=>simp [hl] at hs
         | some v=>
           simp only [hl] at hs;have hv:=ha.fk dj v hl
           cases v with
           | bool b'=>
             cases hb:(b' != b) with
             | false=>simp [hb] at hs
             | true=>
               simp only [hb,cond_true] at hs;refine key d hd ?_ hs;have u7:=UB ha hl (.inl (by simp [undef]))
               have hy:yielded ops a.tmps j=some b':=by simp [yielded,hj,u7]
               simp only [Region.wanted,hg,hy]
               cases b<;>cases b'<;>first | rfl | (simp at hb)
           | tuple vs=>
             refine key d hd ?_ hs
             have hy:yielded ops a.tmps j=none:=by
               simp only [yielded,hj,Option.bind_some];rw [Array.getD_eq_getD_getElem?] at hv
               cases ht:a.tmps[dj]? with
               | none=>rfl
               | some u=>simp [ht] at hv; simp [hv]
             simp [Region.wanted,hg,hy]
           | _=>simp at hs
theorem afm {gs rest:List Oper}:∀(a:Act) (w:World),wpList P ops (Exit.then (wpList P ops Q rest) Q) gs a w->wpList P ops Q (gs++rest) a w:=by
 induction gs with
 | nil=>intro a w h; exact h
 | cons o r ih=>
   intro a w h;simp only [List.cons_append,wpList] at h ⊢
   split
   · rename_i hw
     rw [if_pos hw] at h
     rcases h with h | ⟨h1,a2,w2,h2⟩
     · left
       unfold Oper.wp at h ⊢;unfold Oper.upon at h ⊢
       split at h
       all_goals first
         | exact ih _ _ h
         | exact h
         | (refine h.mono λe w' he=>?_
            cases e with
            | returned v=>exact ih _ _ he
            | panicked ch=>exact he
            | outgrown=>obtain ⟨a3,w3,h3⟩:=he; exact ⟨a3,w3,h3⟩)
         | exact h.mono λv w' he=>ih _ _ he
     · exact .inr ⟨h1,a2,w2,h2⟩
   · rename_i hw
     rw [if_neg hw] at h;exact ih _ _ h
theorem afn {Q':Exit->Act->World->Prop} (hq:∀e a w,Q e a w->Q' e a w) {gs:List Oper}:∀(a:Act) (w:World),wpList P ops Q gs a w->wpList P ops Q' gs a w:=by
 induction gs with
 | nil=>intro a w h; exact hq _ _ _ h
 | cons o r ih=>
   intro a w h;simp only [wpList] at h ⊢
   split
   · rename_i hw
     rw [if_pos hw] at h
     rcases h with h | ⟨h1,a2,w2,h2⟩
     · left
       unfold Oper.wp at h ⊢;unfold Oper.upon at h ⊢
       split at h
       all_goals first
         | exact ih _ _ h
         | exact hq _ _ _ h
         | exact h
         | (refine h.mono λe w' he=>?_
            cases e with
            | returned v=>exact ih _ _ he
            | panicked ch=>exact hq _ _ _ he
            | outgrown=>obtain ⟨a3,w3,h3⟩:=he; exact ⟨a3,w3,hq _ _ _ h3⟩)
         | exact h.mono λv w' he=>ih _ _ he
     · exact .inr ⟨h1,a2,w2,hq _ _ _ h2⟩
   · rename_i hw
     rw [if_neg hw] at h;exact ih _ _ h
def sU (Q:Exit->Act->World->Prop) (n:Nat) (ds:List Deferred) (l:List (Nat×Value)) (W:World->Prop) (dx:Nat) (x:Value):Exit->Act->World->Prop:=
 Exit.then (λa w=>(Ag n ds l a/\a.tmps.getD dx undef=x)/\W w) Q
theorem Gt {l':List (Nat×Value)} {dx:Nat} {x:Value} (m:Nat) (hx:lk l' dx=some x) (hd:l'.drop m=l) (hf:pO (l'.take m) l=true):WL P ops (sU Q n ds l W dx x) n ds l' W []:=
 λa w ha hw=>⟨⟨ha.IJ m hd hf,ha.fk _ _ hx⟩,hw⟩
theorem Ag.known {a:Act} (h:Ag n ds l a) {d:Nat} {v:Value} (hv:lk l d=some v):Ag n ds ((d,v)::l) a:=
 ⟨h.size,h.defs,λt u hu=>by
   simp only [lk] at hu
   cases hb:Nat.beq d t with
   | true=>
     rw [hb] at hu;have:=Nat.eq_of_beq_eq_true hb;subst this;simp at hu; subst hu;exact h.fk _ _ hv
   | false=>rw [hb] at hu; exact h.fk t u hu⟩
theorem Ag.IL {a:Act} {d:Nat} {v:Value} (h:Ag n ds ((d,v)::l) a) (hv:lk l d=some v):Ag n ds l a:=
 ⟨h.size,h.defs,λt u hu=>by
   refine h.fk t u ?_;simp only [lk]
   cases hb:Nat.beq d t with
   | true=>
     have:=Nat.eq_of_beq_eq_true hb;subst this;rw [hv] at hu
     simpa using hu
   | false=>exact hu⟩
theorem WL.El (m:Nat) {os:List Oper} {dj dp dx:Nat} (want:Bool) {c x:Bool} {t a b:Operand} {ty:TypeId} {pos:String} {af:Array Edge} {g:Option (Nat×Bool)} {l2:List (Nat×Value)}
   (hp:os[m]? = some ⟨some dp,.pick t a b,ty,pos,af,g⟩) (En:t = .tmp dj) (hb:lk l dj=some (.bool c)) (iw:sT n (os.take m)=true)
   (hg:cF ops l g) (qW:Nat.blt dp n=true)
   (gB:(a,b)=(bif want then (Operand.tmp dx,Operand.const (.bool false)) else (Operand.const (.bool true),Operand.tmp dx)))
   (hF:lT ops ((dj,.bool (!want))::l) (os.take m)=some l2) (qX:l2.drop m=(dj,.bool (!want))::l) (qY:pO (l2.take m) ((dj,.bool (!want))::l)=true)
   (hT:c=want->WL P ops (sU Q n ds ((dj,.bool want)::l) W dx (.bool x)) n ds ((dj,.bool want)::l) W (os.take m))
   (h:WL P ops Q n ds ((dp,.bool (bif want then c&&x else c||x))::l) W (os.drop (m+1))):WL P ops Q n ds l W os:=by
 intro a0 w ha hw
 have y8:os=os.take m++⟨some dp,.pick t a b,ty,pos,af,g⟩::os.drop (m+1):=by
   obtain ⟨av,he⟩:=List.getElem?_eq_some_iff.1 hp;rw [<-he,List.getElem_cons_drop av,List.take_append_drop]
 rw [y8];subst En
 have pick:∀(a':Act) (w':World) (r:Bool),Ag n ds l a'->W w'->(if c then a'.eval a else a'.eval b) = .bool r->r=(bif want then c&&x else c||x)->
     wpList P ops Q (⟨some dp,.pick (.tmp dj) a b,ty,pos,af,g⟩::os.drop (m+1)) a' w':=by
   intro a' w' r cY dE hv hr;refine wpList_step λK hK=>?_;rw [if_pos (cF.wanted (o:=⟨some dp,.pick (.tmp dj) a b,ty,pos,af,g⟩) hg cY)]
   have dr:(execOp a'.eval ⟨some dp,.pick (.tmp dj) a b,ty,pos,af,g⟩).run P w' = .ok (.value (.bool r)) w':=by
     have h1:a'.eval (.tmp dj) = .bool c:=cY.fk dj _ hb;simp only [execOp,h1,asBool,Sem.run_bind,Sem.run_pure,Result.andThen_ok,hv]
   simp only [Oper.wp,dr,Oper.upon_value];exact hK _ _ (h _ _ (by rw [<-hr]; exact cY.put qW _) dE)
 by_cases hc:c=want
 · refine afm _ _ (afn (Q:=sU Q n ds ((dj,.bool want)::l) W dx (.bool x)) (λe a' w' hq=>?_) _ _ (hT hc a0 w (ha.known (by rw [<-hc]; exact hb)) hw))
   cases e with
   | normal=>
     obtain ⟨⟨cY,hx⟩,dE⟩:=hq;refine pick a' w' x (cY.IL (by rw [<-hc]; exact hb)) dE ?_ ?_
     · subst hc
       cases c
       · simp at gB; obtain ⟨rfl,rfl⟩:=gB; exact hx
       · simp at gB; obtain ⟨rfl,rfl⟩:=gB; exact hx
     · subst hc; cases c<;>rfl
   | _=>exact hq
 · have mZ:c = !want:=by cases c<;>cases want<;>first | rfl | exact absurd rfl hc
   refine WL.NB hF iw (λa' w' cY dE=>?_) a0 w (ha.known (by rw [<-mZ]; exact hb)) hw;have gk:Ag n ds l a':=(cY.IJ m qX qY).IL (by rw [<-mZ]; exact hb);refine pick a' w' c gk dE ?_ ?_
   · subst mZ
     cases want
     · simp at gB; obtain ⟨rfl,rfl⟩:=gB; rfl
     · simp at gB; obtain ⟨rfl,rfl⟩:=gB; rfl
   · subst mZ; cases want<;>rfl
theorem La (m:Nat) {os:List Oper} {dj dp dx:Nat} {c x:Bool} {t a b:Operand} {ty:TypeId} {pos:String} {af:Array Edge} {g:Option (Nat×Bool)} {l2:List (Nat×Value)}
   (hp:os[m]? = some ⟨some dp,.pick t a b,ty,pos,af,g⟩) (En:t = .tmp dj) (hb:lk l dj=some (.bool c)) (iw:sT n (os.take m)=true)
   (hg:cF ops l g) (qW:Nat.blt dp n=true) (gB:(a,b)=(Operand.tmp dx,Operand.const (.bool false)))
   (hF:lT ops ((dj,.bool false)::l) (os.take m)=some l2) (qX:l2.drop m=(dj,.bool false)::l) (qY:pO (l2.take m) ((dj,.bool false)::l)=true)
   (hT:c=true->WL P ops (sU Q n ds ((dj,.bool true)::l) W dx (.bool x)) n ds ((dj,.bool true)::l) W (os.take m))
   (h:WL P ops Q n ds ((dp,.bool (c&&x))::l) W (os.drop (m+1))):WL P ops Q n ds l W os:=
 WL.El m true hp En hb iw hg qW gB hF qX qY hT h
theorem Lo (m:Nat) {os:List Oper} {dj dp dx:Nat} {c x:Bool} {t a b:Operand} {ty:TypeId} {pos:String} {af:Array Edge} {g:Option (Nat×Bool)} {l2:List (Nat×Value)}
   (hp:os[m]? = some ⟨some dp,.pick t a b,ty,pos,af,g⟩) (En:t = .tmp dj) (hb:lk l dj=some (.bool c)) (iw:sT n (os.take m)=true)
   (hg:cF ops l g) (qW:Nat.blt dp n=true) (gB:(a,b)=(Operand.const (.bool true),Operand.tmp dx))
   (hF:lT ops ((dj,.bool true)::l) (os.take m)=some l2) (qX:l2.drop m=(dj,.bool true)::l) (qY:pO (l2.take m) ((dj,.bool true)::l)=true)
   (hT:c=false->WL P ops (sU Q n ds ((dj,.bool false)::l) W dx (.bool x)) n ds ((dj,.bool false)::l) W (os.take m))
   (h:WL P ops Q n ds ((dp,.bool (c||x))::l) W (os.drop (m+1))):WL P ops Q n ds l W os:=
 WL.El m false hp En hb iw hg qW gB hF qX qY hT h
end
section
variable {P:Program} {ops:Array Oper} {Q:Exit->Act->World->Prop} {n:Nat} {ds:List Deferred} {l l':List (Nat×Value)} {W:World->Prop} {w0:World} {F:List Nat} {L:List ao} {Vs:List View}
 {rest:List Oper} {d:Nat} {ty:TypeId} {pos:String} {af:Array Edge} {g:Option (Nat×Bool)}
theorem cq {ι:Type} {c:Code} (U:ι->List (Nat×Value)) (l':List (Nat×Value)) (Wi:ι->World->Prop) (R:ι->Prop) (μ:ι->Nat) (i0:ι) (hR:R i0) (hE:∀p ∈ U i0++l',lk l p.1=some p.2) (hW:∀w,W w->Wi i0 w)
   (round:∀i,R i->WC P c (Exit.then (λa' w'=>∃j,μ j<μ i/\R j/\Ag n ds (U j++l') a'/\Wi j w') Q) n ds (U i++l') (Wi i)):WC P (.loop c) Q n ds l W:=
 WC.loop (λi=>U i++l') Wi R μ i0 hR hE hW round
theorem CW {ι:Type} {c:Code} (U:ι->List (Nat×Value)) (l':List (Nat×Value)) (R:ι->Prop) (μ:ι->Nat) (i0:ι) (hR:R i0) (hE:∀p ∈ U i0++l',lk l p.1=some p.2)
   (round:∀i,R i->WC P c (Exit.then (λa' w'=>∃j,μ j<μ i/\R j/\Ag n ds (U j++l') a'/\W w') Q) n ds (U i++l') W):WC P (.loop c) Q n ds l W:=
 WC.loop (λi=>U i++l') (λ_=>W) R μ i0 hR hE (λ_ h=>h) round
theorem WL.make {t e:TypeId} {x y:Operand} {kl kc:IntKind} {ln cn:Int} {z:Value} {size bytes:Nat} (hg:cF ops l g) (hn:Nat.blt d n=true) (hE:e9 P t e z size bytes)
   (hx:aB l x=some (.int kl ln)) (hy:aB l y=some (.int kc cn)) (h0:0<=ln) (h1:ln<=cn) (hb:(bytes:Int)*cn<=281474976710656) (oR:cn<=9223372036854775807)
   (h:∀b,WL P ops Q n ds ((d,.slice (some ⟨b,0,none⟩) ln.toNat cn.toNat)::l) (Ws w0 F (ah b (.cells (madeCells z.cells (cn.toNat*size)) e (0,0))::L) Vs) rest) :
   WL P ops Q n ds l (Ws w0 F L Vs) (⟨some d,.makeSlice t x y,ty,pos,af,g⟩::rest):=by
 obtain ⟨inf,hi,hz,kh,kO⟩:=hE.info;refine WL.new (mk:=λb=>.slice (some ⟨b,0,none⟩) ln.toNat cn.toNat) hg hn (λρ w aC hw=>?_) h;have:=run_make (P:=P) w t e inf z hE.under hi hz kl kc ln cn h0 h1 (by rw [kO]; exact hb) oR;rw [kh] at this;simp [execOp,aC x _ hx,aC y _ hy,this]
theorem WL.UC {t:TypeId} {x y:Operand} {b o k:Nat} {ob:Obj} {v:Value} (i:Nat) (qZ:Obj) (hg:cF ops l g) (hx:aB l x=some (.pointer (some ⟨b,o,none⟩))) (hy:aB l y=some v) (hL:L[i]? = some (ah b ob))
   (hs:cC P t=some k) (hl:(dN v).length=k) (h1:(dN v).all (·.oneCell')=true) (aJ:va ob o k=true) (he:u_ ob o (dN v)=qZ)
   (h:WL P ops Q n ds l (Ws w0 F (L.set i (ah b qZ)) Vs) rest) :
   WL P ops Q n ds l (Ws w0 F L Vs) (⟨none,.store t x y,ty,pos,af,g⟩::rest):=an i hg hx hy hL hs hl h1 aJ (by rw [he]; exact h)
end
section
variable {P:Program} {l:List (Nat×Value)} {W:World->Prop} {w0:World} {F:List Nat} {L:List ao} {Vs:List View}
 {d:Option Tmp} {ty:TypeId} {pos:String} {af:Array Edge} {g:Option (Nat×Bool)}
theorem afo {t:TypeId} {x y:Operand} {a:Option Addr} {m c s:Nat} {k:IntKind} {h:Int} (hs:eo P t=some s) (hx:aB l x=some (.slice a m c)) (mo:∀p,a=some p->p.spot=none) (hy:aB l y=some (.int k h)) (h0:0<=h) (h1:h<=c) :
   Yl P l W ⟨d,.slice t x none (some y) none,ty,pos,af,g⟩ (.slice a h.toNat c):=by
 intro ρ w aC _;unfold eo at hs
 cases hu:P.underlying t with
 | none=>simp [hu] at hs
 | some dd=>
   cases dd<;>simp [hu] at hs
   rename_i e;obtain ⟨inf,hi,rfl⟩:=hs
   have ea:(if c=0 then a else a.map (·.add (0*inf.size)))=a:=by
     split
     · rfl
     · cases a with
       | none=>rfl
       | some p=>simp [Addr.add]
   have hc:h<=(c:Int):=h1;simp [execOp,aC x _ hx,aC y _ hy,Instr.sliceAt,Instr.slice,Instr.sliceBounds,Instr.sliceBound,asIntOf,run_underlying hu,sizeOf,typeInfo,hi,h0,hc]
   simpa using ea
end
def aR (H:View) (b o:Nat) (cs:List Value):Prop:=∀j v,cs[j]? = some v->vc H b (o+j)=some v
theorem aR.mono {H H':View} (h:aK H H') {b o:Nat} {cs:List Value} (r:aR H b o cs):aR H' b o cs:=λj v hv=>h.cell (r j v hv)
structure Sl {α:Type} (rd:View->Nat->Nat->α->Prop) (k:Nat) (H:View) (a:Option Addr) (c:Nat) (l:List α):Prop where
 cap:l.length<=c
 max:c<=9223372036854775807
 spot:∀p,a=some p->0<c->p.spot=none
 aS:∀i x,l[i]? = some x->∃b o,a=some ⟨b,o,none⟩/\rd H b (o+i*k) x
theorem Sl.mono {α:Type} {rd:View->Nat->Nat->α->Prop} {k:Nat} {H H':View} {a:Option Addr} {c:Nat} {l:List α} (hm:∀b o x,rd H b o x->rd H' b o x) (h:Sl rd k H a c l):Sl rd k H' a c l:=
 ⟨h.cap,h.max,h.spot,λi x hx=>let ⟨b,o,ha,hb⟩:=h.aS i x hx; ⟨b,o,ha,hm _ _ _ hb⟩⟩
theorem Sl.nil {α:Type} {rd:View->Nat->Nat->α->Prop} {k:Nat} {H:View}:Sl rd k H none 0 ([]:List α):=⟨Nat.le_refl _,by decide,by simp,by simp⟩
section
variable {P:Program} {l:List (Nat×Value)} {W:World->Prop} {d:Option Tmp} {ty:TypeId} {pos:String} {af:Array Edge} {g:Option (Nat×Bool)}
theorem Yo {t:TypeId} {x y:Operand} {a:Option Addr} {b o n c s:Nat} {k:IntKind} {i:Nat} (hs:eo P t=some s) (hx:aB l x=some (.slice a n c)) (hy:aB l y=some (.int k (i:Int))) (ha:a=some ⟨b,o,none⟩) (h1:i<n) :
   Yl P l W ⟨d,.indexAddr t x y,ty,pos,af,g⟩ (.pointer (some ⟨b,o+i*s,none⟩)):=by subst ha; exact IC hs hx hy h1
theorem Eo {t:TypeId} {x y:Operand} {a:Option Addr} {b o n c s:Nat} {k:IntKind} {i:Int} (hs:eo P t=some s) (hx:aB l x=some (.slice a n c)) (hy:aB l y=some (.int k i)) (ha:a=some ⟨b,o,none⟩) (h0:0<=i) (h1:i<n) :
   Yl P l W ⟨d,.indexAddr t x y,ty,pos,af,g⟩ (.pointer (some ⟨b,o+i.toNat*s,none⟩)):=by subst ha; exact Uv hs hx hy h0 h1
end
section
variable {P:Program} {md:Region.Mode} {ops:Array Oper} {C:World->Prop} {Q:Exit->Act->World->Prop}
def YV (P:Program) (ops:Array Oper) (C:World->Prop) (o:Oper) (v:Value) (a:Act):Prop:=
 (Region.wanted o (yielded ops a.tmps)=true/\∀w,C w->(execOp a.eval o).run P w = .ok (.value v) w)\/
 (Region.wanted o (yielded ops a.tmps)=false/\v=undef)
theorem YV.of_same {o:Oper} {v:Value} {a a':Act} (hy:YV P ops C o v a) (he:execOp a'.eval o=execOp a.eval o)
   (hw:Region.wanted o (yielded ops a'.tmps)=Region.wanted o (yielded ops a.tmps)):YV P ops C o v a':=by
 unfold YV at *;rw [he,hw];exact hy
theorem YV.wpOp {i:Nat} {o:Oper} {v:Value} {a:Act} {w:World} (hi:ops[i]? = some o) (hy:YV P ops C o v a) (hC:C w) {K:Act->World->Prop} (h:K (a.put o.dst v) w):wpOp P ops Q i K a w:=by
 unfold Go.wpOp;simp only [hi]
 rcases hy with ⟨hw,hv⟩ | ⟨hw,rfl⟩
 · simp only [hw,if_true]
   refine .inl ?_;simp only [Oper.wp,hv w hC,Oper.upon_value];exact h
 · simp only [hw,Bool.false_eq_true,if_false]; exact h
def ra (P:Program) (md:Region.Mode) (ops:Array Oper) (C:World->Prop) (Q:Exit->Act->World->Prop):Nat->Array Bool->Act->World->Prop
 | 0,listed,a,w=>C w/\Region.ready md ops listed=[]/\Q .normal a w
 | fuel+1,listed,a,w=>C w/\(Region.ready md ops listed=[]->Q .normal a w)/\
   ∀i ∈ Region.ready md ops listed,wpOp P ops Q i (ra P md ops C Q fuel (listed.setIfInBounds i true)) a w
theorem IM:∀(fuel:Nat) (listed:Array Bool) (a:Act) (w:World),ra P md ops C Q fuel listed a w->wpAny P md ops Q fuel listed a w
 | 0,_,_,_,h=>h.2
 | fuel+1,listed,a,w,h=>⟨h.2.1,λi hi=>wpOp_mono (λa' w' h'=>IM fuel _ a' w' h') (h.2.2 i hi)⟩
theorem ra.c {fuel:Nat} {listed:Array Bool} {a:Act} {w:World} (h:ra P md ops C Q fuel listed a w):C w:=by cases fuel<;>exact h.1
theorem UD {j:Nat} {oi oj:Oper} {v:Value} (hj:ops[j]? = some oj) (m_:oi.apart ops oj=true)
   (fp:∀cs b,oi.op≠.select cs b) (UE:∀cs b,oj.op≠.select cs b)
   (hQ:∀c a w,Q (.panic c) (a.put oi.dst v) w->Q (.panic c) a w) {K:Act->World->Prop} {a:Act} {w:World}
   (hy:YV P ops C oi v a) (h:wpOp P ops Q j K (a.put oi.dst v) w) :
   wpOp P ops Q j (λa' w'=>YV P ops C oi v a'/\K (a'.put oi.dst v) w') a w:=by
 obtain ⟨h1,h2,h3⟩:=Oper.apart_spec m_
 have vd:∀(a:Act),YV P ops C oi v a->∀u,YV P ops C oi v (a.put oj.dst u):=λa hy u=>
   hy.of_same (execOp_put oi fp a oj.dst u h3) (wanted_put oi a oj.dst u h3)
 have afp:∀d,YV P ops C oi v { a with defers:=d::a.defers }:=λd=>hy.of_same rfl rfl;unfold wpOp at *;simp only [hj] at *;rw [wanted_put oj a oi.dst v h1] at h
 split
 · rename_i hw
   simp only [hw,if_true] at h
   rcases h with h | ⟨UF,afq⟩
   case inr=>exact .inr ⟨by unfold Oper.asks at *; rw [execOp_put oj UE a oi.dst v h1] at UF; exact UF,afq⟩
   refine .inl ?_;unfold Oper.wp at *;rw [execOp_put oj UE a oi.dst v h1] at h
   generalize (execOp a.eval oj).run P w=r at *
   cases r with
   | ok n w'=>
     cases n<;>simp only [Oper.upon] at h ⊢
     case value u=>exact ⟨vd a hy u,by rw [<-Act.put_comm a v u h2]; exact h⟩
     case skip=>exact ⟨vd a hy _,by rw [<-Act.put_comm a v undef h2]; exact h⟩
     case defer d=>
       refine ⟨vd _ (afp d) _,?_⟩;rw [<-Act.put_comm _ v undef h2,<-Act.put_defers];exact h
     case enter f args=>
       refine Calls.mono h λe w'' he=>?_
       cases e with
       | returned u=>exact ⟨vd a hy u,by rw [<-Act.put_comm a v u h2]; exact he⟩
       | panicked c=>exact hQ _ _ _ he
       | outgrown=>exact he
     case row row args=>exact Rows.mono h λu w'' he=>⟨vd a hy u,by rw [<-Act.put_comm a v u h2]; exact he⟩
   | halt x w'=>
     cases x<;>simp only [Oper.upon] at h ⊢
     case panic u=>exact hQ _ _ _ h
 · rename_i hw
   simp only [hw] at h;exact ⟨vd a hy _,by rw [<-Act.put_comm a v undef h2]; exact h⟩
theorem ND {i:Nat} {oi:Oper} {v:Value} (hi:ops[i]? = some oi) (Ew:∀(j:Nat) (o:Oper) cs b,ops[j]? = some o->o.op≠.select cs b)
   (hQ:∀c a w,Q (.panic c) (a.put oi.dst v) w->Q (.panic c) a w) :
   ∀(fuel:Nat) (listed:Array Bool) (a:Act) (w:World),
     (∀j oj,ops[j]? = some oj->j≠i->listed.getD j true=false->(∀e ∈ oj.after,Region.binds md e=true->e.on≠i)->oi.apart ops oj=true)->
     i ∈ Region.ready md ops listed->YV P ops C oi v a->C w->
     ra P md ops C Q fuel (listed.setIfInBounds i true) (a.put oi.dst v) w->ra P md ops C Q (fuel+1) listed a w:=by
 intro fuel
 induction fuel with
 | zero=>
   intro listed a w _ hr hy hC H;refine ⟨hC,λh=>(by rw [h] at hr; cases hr),λj hj=>?_⟩
   by_cases jz:j=i
   · subst jz; exact hy.wpOp hi hC H
   · have:=ready_mono hj jz
     rw [H.2.1] at this;cases this
 | succ fuel ih=>
   intro listed a w Ey hr hy hC H;refine ⟨hC,λh=>(by rw [h] at hr; cases hr),λj hj=>?_⟩
   by_cases jz:j=i
   · subst jz; exact hy.wpOp hi hC H
   · have h1:=H.2.2 j (ready_mono hj jz)
     obtain ⟨Ez,oj,pP,bT⟩:=mem_ready.1 hj
     have oT:∀e ∈ oj.after,Region.binds md e=true->e.on≠i:=λe he hb heq=>by
       have h1:=bT e he hb;have h0:=(mem_ready.1 hr).1;rw [heq] at h1
       rcases Nat.lt_or_ge i listed.size with h' | h'
       · simp [h'] at h0 h1; rw [h0] at h1; cases h1
       · simp [Array.getElem?_eq_none h'] at h1
     have h2:=UD pP (Ey j oj pP jz Ez oT) (λcs b=>Ew i oi cs b hi) (λcs b=>Ew j oj cs b pP) hQ hy h1
     have NF:∀k ok,ops[k]? = some ok->k≠i->(listed.setIfInBounds j true).getD k true=false->
         (∀e ∈ ok.after,Region.binds md e=true->e.on≠i)->oi.apart ops ok=true:=λk ok hk pQ y9 e_=>by
       refine Ey k ok hk pQ ?_ e_
       by_cases kQ:j=k
       · subst kQ; exact Ez
       · rw [getD_set_ne true kQ] at y9; exact y9
     refine wpOp_mono (λa' w' h3=>ih (listed.setIfInBounds j true) a' w' NF (ready_mono hr (Ne.symm jz)) h3.1 h3.2.c ?_) h2;rw [Array.setIfInBounds_comm _ _ jz];exact h3.2
def nV (md:Region.Mode) (ops:Array Oper):List (Nat×Bool)->Array Bool->Bool
 | [],listed=>(Region.ready md ops listed).isEmpty
 | (i,q)::r,listed=>(bif q then (Region.ready md ops listed).contains i&&Region.free md ops listed i else Region.ready md ops listed==[i])&&nV md ops r (listed.setIfInBounds i true)
def nW (P:Program) (ops:Array Oper) (C:World->Prop) (Q:Exit->Act->World->Prop):List (Nat×Bool)->Act->World->Prop
 | [],a,w=>C w/\Q .normal a w
 | (i,true)::r,a,w=>C w/\∃o v,ops[i]? = some o/\YV P ops C o v a/\nW P ops C Q r (a.put o.dst v) w
 | (i,false)::r,a,w=>C w/\wpOp P ops Q i (nW P ops C Q r) a w
theorem NG (hs:Region.noSelect ops=true) (hQ:∀c a w d v,Q (.panic c) (a.put d v) w->Q (.panic c) a w):∀(ord:List (Nat×Bool)) (listed:Array Bool) (a:Act) (w:World),
   nV md ops ord listed=true->nW P ops C Q ord a w->ra P md ops C Q ord.length listed a w
 | [],listed,a,w,hB,h=>⟨h.1,by simpa [nV] using hB,h.2⟩
 | (i,true)::r,listed,a,w,hB,h=>by
   simp only [nV,cond_true,Bool.and_eq_true] at hB;obtain ⟨hC,o,v,ho,hy,h⟩:=h
   exact ND ho (Region.noSelect_spec hs) (λc a w=>hQ c a w o.dst v) r.length listed a w (Region.free_spec ho hB.1.2) (by simpa using hB.1.1) hy hC
     (NG hs hQ r _ _ _ hB.2 h)
 | (i,false)::r,listed,a,w,hB,h=>by
   simp only [nV,cond_false,Bool.and_eq_true,beq_iff_eq] at hB;refine ⟨h.1,λhe=>(by rw [he] at hB; cases hB.1),λj hj=>?_⟩;rw [hB.1] at hj;simp at hj;subst hj;exact wpOp_mono (λa' w' h'=>NG hs hQ r _ _ _ hB.2 h') h.2
theorem afs {id:Nat} {a:Act} {w:World} {l:List Oper} (ord:List (Nat×Bool)) (hm:P.follows .mixedOrders=true) (hB:(Region.noSelect l.toArray&&(ord.length==l.toArray.size&&nV .any l.toArray ord (Array.replicate l.toArray.size false)))=true)
   (hQ:∀c a w d v,Q (.panic c) (a.put d v) w->Q (.panic c) a w) (h:nW P l.toArray C Q ord a w.drew):(Code.region id l.toArray true).wp P Q a w:=by
 simp only [Bool.and_eq_true,beq_iff_eq] at hB;have:=IM (md:=.any) _ _ _ _ (NG hB.1 hQ ord _ a w.drew hB.2.2 h);rw [hB.2.1] at this;exact wp_region_any hm this
variable {n:Nat} {ds:List Deferred} {l:List (Nat×Value)} {W:World->Prop}
def WD (P:Program) (ops:Array Oper) (C:World->Prop) (Q:Exit->Act->World->Prop) (n:Nat) (ds:List Deferred) (l:List (Nat×Value)) (W:World->Prop) (ord:List (Nat×Bool)):Prop:=
 ∀a w,Ag n ds l a->W w->nW P ops C Q ord a w
theorem WC.UG {id:Nat} {os:List Oper} (C:World->Prop) (ord:List (Nat×Bool)) (hm:P.follows .mixedOrders=true) (hB:(Region.noSelect os.toArray&&(ord.length==os.toArray.size&&nV .any os.toArray ord (Array.replicate os.toArray.size false)))=true)
   (hQ:∀c a w d v,Q (.panic c) (a.put d v) w->Q (.panic c) a w) (hW:∀w,W w->W w.drew) (h:WD P os.toArray C Q n ds l W ord):WC P (.region id os.toArray true) Q n ds l W:=
 λa w ha hw=>afs ord hm hB hQ (h a w.drew ha (hW w hw))
theorem Dq {r:List (Nat×Bool)} {i d:Nat} {op:Op} {ty:TypeId} {pos:String} {af:Array Edge} {g:Option (Nat×Bool)} {v:Value} (hi:ops[i]? = some ⟨some d,op,ty,pos,af,g⟩) (hg:cF ops l g) (hn:Nat.blt d n=true)
   (hC:∀w,W w->C w) (hy:Yl P l C ⟨some d,op,ty,pos,af,g⟩ v) (h:WD P ops C Q n ds ((d,v)::l) W r):WD P ops C Q n ds l W ((i,true)::r):=by
 intro a w ha hw;refine ⟨hC w hw,_,v,hi,.inl ⟨cF.wanted (o:=⟨some d,op,ty,pos,af,g⟩) hg ha,λw' dE=>hy a.eval w' (λx u hx=>ha.eval hx) dE⟩,h _ _ (ha.put hn v) hw⟩
theorem D0 {i d:Nat} {op:Op} {ty:TypeId} {pos:String} {af:Array Edge} {v:Value} {r:List (Nat×Bool)} (hi:ops[i]? = some ⟨some d,op,ty,pos,af,none⟩) (hC:∀w,W w->C w) (hy:Yl P l C ⟨some d,op,ty,pos,af,none⟩ v) (h:WD P ops C Q n ds ((d,v)::l) W r) (hn:Nat.blt d n=true:=by rfl):WD P ops C Q n ds l W ((i,true)::r):=Dq hi (.inl rfl) hn hC hy h
theorem De {r:List (Nat×Bool)} {i:Nat} {o:Oper} (hi:ops[i]? = some o) (hC:∀w,W w->C w) (h:WL P ops (Exit.then (nW P ops C Q r) Q) n ds l W [o]):WD P ops C Q n ds l W ((i,false)::r):=by
 intro a w ha hw;refine ⟨hC w hw,?_⟩;have:=h a w ha hw;unfold wpList at this;unfold wpOp;simp only [hi]
 split
 · rename_i dE
   rw [if_pos dE] at this
   rcases this with this | ⟨h1,a2,w2,h2⟩
   · left
     unfold Oper.wp at this ⊢;unfold Oper.upon at this ⊢
     split at this
     all_goals first
       | exact this
       | (refine this.mono λe w' he=>?_
          cases e with
          | returned v=>exact he
          | panicked ch=>exact he
          | outgrown=>obtain ⟨a3,w3,h3⟩:=he; exact ⟨a3,w3,h3⟩)
       | exact this.mono λv w' he=>he
   · exact .inr ⟨h1,a2,w2,h2⟩
 · rename_i dE
   rw [if_neg dE] at this;exact this
theorem Ed {r:List (Nat×Bool)} (h:WD P ops C Q n ds l W r):WE (Exit.then (nW P ops C Q r) Q) .normal n ds l W:=h
theorem WD.nil (hC:∀w,W w->C w) (h:WE Q .normal n ds l W):WD P ops C Q n ds l W []:=λa w ha hw=>⟨hC w hw,h a w ha hw⟩
theorem Ws.drew {w0 w:World} {F:List Nat} {L:List ao} {Vs:List View} (h:Ws w0 F L Vs w):Ws w0 F L Vs w.drew:=h.ext (Ext.drew w)
theorem Ws.out {w0 w:World} {F:List Nat} {L:List ao} {Vs:List View} (i:Nat) (h:Ws w0 F L Vs w):Ws w0 F (df i L) Vs w:=by
 cases hx:L[i]? with
 | none=>
   have:df i L=L:=by
     clear h
     induction L generalizing i with
     | nil=>cases i<;>rfl
     | cons x r ih=>
       cases i with
       | zero=>simp at hx
       | succ i=>simp only [df]; rw [ih i (by simpa using hx)]
   rw [this]; exact h
 | some x=>exact Ws.drop (L:=[x]) (h.perm (nU i L hx))
end
section
variable {P:Program} {ops:Array Oper} {Q:Exit->Act->World->Prop} {n:Nat} {ds:List Deferred} {l l':List (Nat×Value)} {W:World->Prop} {w0:World} {F:List Nat} {L:List ao} {Vs:List View}
 {rest:List Oper} {d:Nat} {ty:TypeId} {pos:String} {af:Array Edge} {g:Option (Nat×Bool)}
def xm (z:Value) (k:Nat):List Value:=(List.range k).map λi=>((dN z)[i % (dN z).length]?).getD undef
theorem aft (z:Value) (k:Nat) (hz:0<z.cells.size):((Array.range k).map (z.cells[· % z.cells.size]!):Array Value).toList=xm z k:=by
 simp only [Array.toList_map,Array.toList_range,xm];apply List.map_congr_left;intro i _;have av:i % z.cells.size<z.cells.size:=Nat.mod_lt _ hz
 have e:(dN z).length=z.cells.size:=by rw [<-xk]; simp
 rw [e,<-xk];simp [av]
theorem WL.NH {t e:TypeId} {len size bytes:Nat} {parts:List (Nat×Operand)} {z:Value} {vs:List (Nat×Value)} {out:List Value} (hg:cF ops l g) (hn:Nat.blt d n=true) (hE:e9 P t e z size bytes)
   (hv:u9 l parts=some vs) (hb:Nat.ble (len*size) 16777216=true) (hf:sQ (λi=>some (i*size,size)) (bif Nat.beq (len*size) 0 then [] else xm z (len*size)) vs=some out)
   (h:∀b,WL P ops Q n ds ((d,.slice (some ⟨b,0,none⟩) len len)::l) (Ws w0 F (ah b (.cells out.toArray e (0,0))::L) Vs) rest) :
   WL P ops Q n ds l (Ws w0 F L Vs) (⟨some d,.buildSlice t len parts.toArray,ty,pos,af,g⟩::rest):=by
 obtain ⟨inf,hi,hz,kh,kO⟩:=hE.info;have sS:=Nat.le_of_ble_eq_true hb;refine WL.new (mk:=λb=>.slice (some ⟨b,0,none⟩) len len) hg hn (λρ w aC hw=>?_) h
 have e1:((parts.toArray.map λ (i,x)=>(i,ρ x)):Array (Nat×Value)).toList=vs:=by simpa using IE aC parts vs hv
 have hzs:zeroOf P e=some z:=by simp [zeroOf,hi,hz]
 have xn:cC P e=some size:=by simp [cC,hi,kh]
 have oT:¬len*size > 2 ^ 24:=by omega
 by_cases h0:len*size=0
 · have NI:Instr.fill (λi=>some (i*size,size)) #[] vs=some out.toArray:=by
     refine Ej _ vs #[] out ?_
     simpa [h0] using hf
   simp only [execOp,Instr.buildSlice,Sem.run_bind,run_underlying hE.under,Result.andThen_ok,ID xn,if_neg oT,Sem.run_pure,if_pos h0,e1];simp [h0,NI,newRow,Array.range_zero']
 · have NI:Instr.fill (λi=>some (i*size,size)) ((Array.range (len*size)).map (z.cells[· % z.cells.size]!)) vs=some out.toArray:=by
     refine Ej _ vs _ out ?_;rw [aft z _ (by rw [hE.zs]; exact hE.pos)]
     have:Nat.beq (len*size) 0=false:=by
       cases hbq:Nat.beq (len*size) 0 with
       | false=>rfl
       | true=>exact absurd (Nat.eq_of_beq_eq_true hbq) h0
     simpa [this] using hf
   simp only [execOp,Instr.buildSlice,Sem.run_bind,run_underlying hE.under,Result.andThen_ok,ID xn,if_neg oT,Sem.run_pure,if_neg h0,e1,y7 hzs,NI];simp [newRow]
theorem UH {ρ:Operand->Value} {dst:Option Tmp} {f:FuncId} {cx:Operand} {eY:Array Value} {args:Array Operand} {ts:Array TypeId} {vs:List Value} {w:World} (hf:Enters P f) (aC:∀x u,aB l x=some u->ρ x=u)
   (rb:aB l cx=some (.func (.func f) #[] eY)) (ha:i_ l args.toList=some vs) :
   (execOp ρ ⟨dst,.call ⟨.value cx,args,ts⟩,ty,pos,af,g⟩).run P w = .ok (.enter f (vs.toArray++eY)) w:=by
 have e:args.map ρ=vs.toArray:=by
   apply Array.ext'
   simpa using IF aC _ _ ha
 simp only [execOp,resolve,e,aC cx _ rb,Deferred.ofValue,Sem.run_bind,Sem.run_pure,Result.andThen_ok,invoke]
 simpa using hf _ w
theorem WL.afw {ι:Type} {f:FuncId} {cx:Operand} {eY:Array Value} {args:Array Operand} {ts:Array TypeId} {vs:List Value} (hg:cF ops l g) (hn:Nat.blt d n=true) (hf:Enters P f) (rb:aB l cx=some (.func (.func f) #[] eY)) (ha:i_ l args.toList=some vs)
   (v:ι->Value) (R:ι->World->Prop) (Pn:List PanicEntry->World->Prop)
   (hC:∀w,W w->Calls P f (vs.toArray++eY) w λe w'=>(∃i,e = .returned (v i)/\R i w')\/∃ch,e = .panicked ch/\Pn ch w')
   (hr:∀i,WL P ops Q n ds ((d,v i)::l) (R i) rest) (hp:∀ch,WE Q (.panic ch) n ds l (Pn ch)) :
   WL P ops Q n ds l W (⟨some d,.call ⟨.value cx,args,ts⟩,ty,pos,af,g⟩::rest):=by
 refine WL.step hg λa w cY hw K hK=>?_;have dr:=UH (P:=P) (dst:=some d) (ts:=ts) (ty:=ty) (pos:=pos) (af:=af) (g:=g) (w:=w) hf (λx u hx=>cY.eval hx) rb ha;simp only [Oper.wp,dr,Oper.upon_enter];refine (hC w hw).mono λe w' he=>?_
 rcases he with ⟨i,rfl,h⟩ | ⟨ch,rfl,h⟩
 · exact hK _ _ (hr i _ _ (cY.put hn _) h)
 · exact hp ch _ _ cY h
theorem WL.Bv {f:FuncId} {cx:Operand} {eY:Array Value} {args:Array Operand} {ts:Array TypeId} {vs:List Value} {v:Value} (hg:cF ops l g) (hn:Nat.blt d n=true) (hf:Enters P f) (rb:aB l cx=some (.func (.func f) #[] eY)) (ha:i_ l args.toList=some vs)
   (hC:∀w,Ws w0 F L Vs w->Calls P f (vs.toArray++eY) w λe w'=>e = .returned v/\Ext w w')
   (hr:WL P ops Q n ds ((d,v)::l) (Ws w0 F L Vs) rest) :
   WL P ops Q n ds l (Ws w0 F L Vs) (⟨some d,.call ⟨.value cx,args,ts⟩,ty,pos,af,g⟩::rest):=by
 refine WL.step hg λa w cY hw K hK=>?_;have dr:=UH (P:=P) (dst:=some d) (ts:=ts) (ty:=ty) (pos:=pos) (af:=af) (g:=g) (w:=w) hf (λx u hx=>cY.eval hx) rb ha;simp only [Oper.wp,dr,Oper.upon_enter];refine (hC w hw).mono λe w' he=>?_;obtain ⟨rfl,h⟩:=he;exact hK _ _ (hr _ _ (cY.put hn _) (hw.ext h))
theorem WE.NJ {fn:Func} {R:Ending->World->Prop} {a b o k:Nat} {t:TypeId} {ob:Obj} (i:Nat) (hr:fn.results = #[.cell a t]) (ha:lk l a=some (.pointer (some ⟨b,o,none⟩))) (hL:L[i]? = some (ah b ob)) (ht:gj P t=some k) (hl:(cellsIn ob o k).length=k)
   (h:∀w,Ws w0 F L Vs w->R (.returned (.agg (cellsIn ob o k).toArray)) w):WE (bodyPost P fn R) .ret n [] l (Ws w0 F L Vs):=by
 intro A w hA hw
 have dr:(loadVar t ⟨b,o,none⟩).run P w = .ok (.agg (cellsIn ob o k).toArray) w:=IA ht hl λj v hj=>by
   have hk:w.heap[b]? = some ob:=hw.kn _ (dz hL);refine cell_of_heap hk ?_
   cases ob<;>simp [cellsIn,fT] at *
   rw [List.getElem?_take] at hj
   split at hj
   · simpa using hj
   · cases hj
 refine bodyPost_ret (v:=.agg (cellsIn ob o k).toArray) ?_ hA.defs (h w hw);have cY:=hA.fk a _ ha;rw [Array.getD_eq_getD_getElem?] at cY;simp [results,hr,cY,asAddr,dr]
theorem WE.xo {fn:Func} {R:Ending->World->Prop} {a b o k u:Nat} {x:Value} {t:TypeId} {ob:Obj} (i:Nat) (hr:fn.results = #[.cell a t,.tmp u]) (ha:lk l a=some (.pointer (some ⟨b,o,none⟩))) (hu:lk l u=some x) (hL:L[i]? = some (ah b ob)) (ht:gj P t=some k) (hl:(cellsIn ob o k).length=k)
   (h:∀w,Ws w0 F L Vs w->R (.returned (.tuple #[.agg (cellsIn ob o k).toArray,x])) w):WE (bodyPost P fn R) .ret n [] l (Ws w0 F L Vs):=by
 intro A w hA hw
 have dr:(loadVar t ⟨b,o,none⟩).run P w = .ok (.agg (cellsIn ob o k).toArray) w:=IA ht hl λj v hj=>by
   have hk:w.heap[b]? = some ob:=hw.kn _ (dz hL);refine cell_of_heap hk ?_
   cases ob<;>simp [cellsIn,fT] at *
   rw [List.getElem?_take] at hj
   split at hj
   · simpa using hj
   · cases hj
 refine bodyPost_ret (v:=.tuple #[.agg (cellsIn ob o k).toArray,x]) ?_ hA.defs (h w hw);have cY:=hA.fk a _ ha;have Bx:=hA.fk u _ hu;rw [Array.getD_eq_getD_getElem?] at cY Bx;simp [results,hr,cY,Bx,asAddr,dr]
end
theorem Ws.NK {w0 w:World} {L:List ao} {Vs:List View} (h:Ws w0 [] L Vs w) (i:Nat) {b:Nat} {ob:Obj} (hL:L[i]? = some (ah b ob)) {k:Nat} {v:Value} (hc:fT ob k=some v):vc (nv w0 w) b k=some v:=by
 have hb:w.heap[b]? = some ob:=h.kn _ (dz hL);have ho:=h.own _ (dz hL) b (by simp [ah]);simp at ho;unfold vc nv;rw [if_pos ho,hb];exact hc
theorem Ws.nvs {w0 w:World} {L:List ao} {Vs:List View} (h:Ws w0 [] L Vs w) (i:Nat) {e:TypeId} {size m:Nat} {v:Value} {xs:List Value} (hL:L[i]? = some (aY e size v m xs)) :
   (v = .slice none 0 0/\xs=[])\/∃b c,v = .slice (some ⟨b,0,none⟩) m c/\m<=c/\c<=maxLen/\∀j u,xs[j]? = some u->vc (nv w0 w) b j=some u:=by
 obtain ⟨h1,h2⟩:=(h.kn _ (dz hL):w.ownsRow 0 e size v m xs)
 rcases h2 with ⟨rfl,rfl⟩ | ⟨b,cap,cur,rfl,_,hb,hm,hc,hs,ht⟩
 · exact .inl ⟨O,by cases xs; rfl; simp at h1⟩
 · refine .inr ⟨b,cap,O,hm,hc,λj u hu=>?_⟩
   have ho:=h.own _ (dz hL) b (by simp [aY,Value.ownBlock]);simp at ho;unfold vc nv;rw [if_pos ho,hb];rw [<-ht,List.getElem?_take] at hu
   split at hu
   · simpa [fT] using hu
   · cases hu
theorem xq {α:Type} {f:α->List Value} {k:Nat} (hf:∀x,(f x).length=k):∀l:List α,(l.flatMap f).length=l.length*k
 | []=>by simp
 | x::r=>by simp [hf,xq hf r,Nat.add_mul]; omega
theorem IN {α:Type} {f:α->List Value} {k:Nat} (hf:∀x,(f x).length=k):∀(l:List α) (i:Nat) (x:α),l[i]? = some x->
   l.flatMap f=(l.take i).flatMap f++f x++(l.drop (i+1)).flatMap f
 | [],i,x,h=>by simp at h
 | y::r,0,x,h=>by simp at h; simp [h]
 | y::r,i+1,x,h=>by
   have:=IN hf r i x (by simpa using h);simp only [List.flatMap_cons,List.take_succ_cons,List.drop_succ_cons];rw [this];simp
theorem ve {α:Type} {f:α->List Value} {k:Nat} (hf:∀x,(f x).length=k) {l:List α} {i:Nat} {x:α} (h:l[i]? = some x) {j:Nat} (hj:j<k):(l.flatMap f)[i*k+j]? = (f x)[j]?:=by
 have hi:=(List.getElem?_eq_some_iff.1 h).1
 have e1:((l.take i).flatMap f).length=i*k:=by rw [xq hf,List.length_take,Nat.min_eq_left (by omega)]
 rw [IN hf l i x h,List.append_assoc,List.getElem?_append_right (by omega),e1,Nat.add_sub_cancel_left,List.getElem?_append_left (by rw [hf]; exact hj)]
theorem afy {α:Type} {f:α->List Value} {k:Nat} (hf:∀x,(f x).length=k) {l:List α} {i:Nat} {x y:α} (h:l[i]? = some x) {j:Nat} {vs:List Value} (hj:j+vs.length<=k) (hy:f y=(f x).take j++vs++(f x).drop (j+vs.length)) :
   (l.flatMap f).take (i*k+j)++vs++(l.flatMap f).drop (i*k+j+vs.length)=(l.set i y).flatMap f:=by
 have hi:=(List.getElem?_eq_some_iff.1 h).1
 have e1:((l.take i).flatMap f).length=i*k:=by rw [xq hf,List.length_take,Nat.min_eq_left (by omega)]
 have h2:(l.set i y)[i]? = some y:=by simp [hi]
 rw [IN hf (l.set i y) i y h2,IN hf l i x h,hy];have ht:(l.set i y).take i=l.take i:=List.take_set_of_le (Nat.le_refl i);have hd:(l.set i y).drop (i+1)=l.drop (i+1):=List.drop_set_of_lt (by omega);rw [ht,hd]
 generalize hA:(l.take i).flatMap f=A at *
 generalize hB:(l.drop (i+1)).flatMap f=B at *
 have t1:(A++f x++B).take (i*k+j)=A++(f x).take j:=by
   rw [List.append_assoc,List.take_append,e1,List.take_of_length_le (by omega),Nat.add_sub_cancel_left,List.take_append_of_le_length (by rw [hf]; omega)]
 have t2:(A++f x++B).drop (i*k+j+vs.length)=(f x).drop (j+vs.length)++B:=by
   rw [List.append_assoc,List.drop_append,e1,List.drop_of_length_le (by omega),List.nil_append,List.drop_append,hf]
   have e3:i*k+j+vs.length-i*k=j+vs.length:=by omega
   rw [e3]
   have e4:j+vs.length-k=0:=by omega
   simp [e4]
 rw [t1,t2];simp
section
variable {P:Program} {ops:Array Oper} {Q:Exit->Act->World->Prop} {n:Nat} {ds:List Deferred} {l l':List (Nat×Value)} {W:World->Prop} {w0:World} {F:List Nat} {L:List ao} {Vs:List View}
 {rest:List Oper} {d:Nat} {ty:TypeId} {pos:String} {af:Array Edge} {g:Option (Nat×Bool)}
theorem afz {e:TypeId} {size m c b:Nat} {xs:List Value} {w:World} (h:(aY e size (.slice (some ⟨b,0,none⟩) m c) m xs).holds w):∃cur,w.heap[b]? = some (.cells cur e (0,0))/\cur.toList.take (m*size)=xs/\cur.size=c*size/\m<=c/\xs.length=m*size:=by
 obtain ⟨h1,h2⟩:=(h:w.ownsRow 0 e size _ m xs)
 rcases h2 with ⟨h2,_⟩ | ⟨g',cap,cur,hv,_,hb,hm,hc,hs,ht⟩
 · cases h2
 · injection hv with h3 _ h4
   injection h3 with h3
   injection h3 with h3
   subst h3; subst h4;exact ⟨cur,hb,ht,hs,hm,h1⟩
theorem WL.NL {b m cap:Nat} {cur:Array Value} {e:TypeId} {size:Nat} (i:Nat) (hL:L[i]? = some (ah b (.cells cur e (0,0)))) (hm:m<=cap) (hc:cap<=maxLen) (hs:cur.size=cap*size)
   (h:WL P ops Q n ds l (Ws w0 F (L.set i (aY e size (.slice (some ⟨b,0,none⟩) m cap) m (cur.toList.take (m*size)))) Vs) rest):WL P ops Q n ds l (Ws w0 F L Vs) rest:=
 LW (λ_ hw=>hw.Uz i hL hm hc hs) h
end
section
variable {P:Program} {l:List (Nat×Value)} {W:World->Prop} {d:Option Tmp} {ty:TypeId} {pos:String} {af:Array Edge} {g:Option (Nat×Bool)}
theorem afA {t u:TypeId} {x:Operand} {a:Option Addr} {m c s:Nat} (hs:eo P t=some s) (hx:aB l x=some (.slice a m c)):Yl P l W ⟨d,.binOp .eql t x (.const (.slice none 0 0)) u,ty,pos,af,g⟩ (.bool a.isNone):=by
 intro ρ w aC _;unfold eo at hs
 cases hu:P.underlying t with
 | none=>simp [hu] at hs
 | some dd=>
   cases dd<;>simp [hu] at hs
   have hy:ρ (.const (.slice none 0 0)) = .slice none 0 0:=aC _ _ rfl;rename_i el
   have e:(binOp .eql t (.slice a m c) (.slice none 0 0)).run P w = .ok (.bool a.isNone) w:=by
     simp only [binOp];simp [Op.equal,Op.maxDepth,Lib.run_equalIn_slice_nil w 9999 t el a m c 0 0 hu]
   simp only [execOp,aC x _ hx,hy,eqGuard,Sem.run_bind];simp [e]
end
section
variable {P:Program} {ops:Array Oper} {Q:Exit->Act->World->Prop} {n:Nat} {ds:List Deferred} {l l':List (Nat×Value)} {W:World->Prop} {w0:World} {F:List Nat} {L:List ao} {Vs:List View}
 {rest:List Oper} {d:Nat} {ty:TypeId} {pos:String} {af:Array Edge} {g:Option (Nat×Bool)}
theorem Lf {A:ao} (i:Nat) (hL:L[i]? = some A) (h:WL P ops Q n ds l (Ws w0 F (A::df i L) Vs) rest):WL P ops Q n ds l (Ws w0 F L Vs) rest:=
 LW (λ_ hw=>hw.perm (nU i L hL)) h
theorem WC.front {c:Code} {A:ao} (i:Nat) (hL:L[i]? = some A) (h:WC P c Q n ds l (Ws w0 F (A::df i L) Vs)):WC P c Q n ds l (Ws w0 F L Vs):=
 xg (λ_ hw=>hw.perm (nU i L hL)) h
theorem Ws.self {w:World} {L1 L2:List ao} (h:Ws w0 F (L1++L2) Vs w):Ws w (L1.flatMap ao.ids) L1 Vs w:=by
 have nd:=h.nd;rw [List.flatMap_append,List.nodup_append] at nd;exact ⟨Fr.refl _ _,λA hA=>h.kn A (by simp [hA]),nd.1,λA hA k hk=>.inl (List.mem_flatMap.2 ⟨A,hA,hk⟩),h.vs,λH hH A hA=>h.off H hH A (by simp [hA])⟩
theorem Ws.back {w w':World} {L1 eS L2:List ao} {a_:List View} (h:Ws w0 F (L1++L2) Vs w) (g:Ws w (L1.flatMap ao.ids) eS a_ w'):Ws w0 F (eS++L2) Vs w':=
 Ws.xi h g.fr g.kn g.nd g.own
theorem Lw {ι:Type} {f:FuncId} {args:Array Operand} {ts:Array TypeId} {vs:List Value} (L1 L2:List ao) (hg:cF ops l g) (hn:Nat.blt d n=true) (hf:Enters P f) (ha:i_ l args.toList=some vs) (hL:L=L1++L2)
   (v:ι->Value) (eS:ι->List ao) (R:ι->Prop) (a_:List View) (hV:∀H ∈ a_,H ∈ Vs)
   (hC:∀w,Ws w (L1.flatMap ao.ids) L1 a_ w->Calls P f vs.toArray w λe w'=>∃i,e = .returned (v i)/\R i/\Ws w (L1.flatMap ao.ids) (eS i) a_ w')
   (hr:∀i,R i->WL P ops Q n ds ((d,v i)::l) (Ws w0 F (eS i++L2) Vs) rest) :
   WL P ops Q n ds l (Ws w0 F L Vs) (⟨some d,.call ⟨.value (.func f),args,ts⟩,ty,pos,af,g⟩::rest):=by
 subst hL;refine WL.call hg hn hf ha v (λi w'=>R i/\Ws w0 F (eS i++L2) Vs w') (λw hw=>(hC w (hw.self.bF hV)).mono λe w' ⟨i,he,hR,h⟩=>⟨i,he,hR,hw.back h⟩) λi=>?_;intro a w cY hw;exact hr i hw.1 a w cY hw.2
theorem eT {f:FuncId} {args:Array Operand} {ts:Array TypeId} {vs:List Value} (L1 L2 eS:List ao) (hg:cF ops l g) (hn:Nat.blt d n=true) (hf:Enters P f) (ha:i_ l args.toList=some vs) (hL:L=L1++L2)
   (a_:List View) (hV:∀H ∈ a_,H ∈ Vs)
   (hC:∀w,Ws w (L1.flatMap ao.ids) L1 a_ w->Calls P f vs.toArray w λe w'=>e = .returned (.tuple #[])/\Ws w (L1.flatMap ao.ids) eS a_ w')
   (hr:WL P ops Q n ds ((d,.tuple #[])::l) (Ws w0 F (eS++L2) Vs) rest) :
   WL P ops Q n ds l (Ws w0 F L Vs) (⟨some d,.call ⟨.value (.func f),args,ts⟩,ty,pos,af,g⟩::rest):=
 Lw (ι:=Unit) L1 L2 hg hn hf ha hL (λ_=>.tuple #[]) (λ_=>eS) (λ_=>True) a_ hV (λw hw=>(hC w hw).mono λe w' ⟨h1,h2⟩=>⟨(),h1,trivial,h2⟩) (λ_ _=>hr)
end
def hv (w:World):View:=λb=>w.heap[b]?
theorem kR (w:World):Le (hv w) w:=λ_ _ h=>h
theorem IP {w:World} {b k:Nat} {ob:Obj} {v:Value} (h:w.heap[b]? = some ob) (hc:fT ob k=some v):vc (hv w) b k=some v:=by simp [vc,hv,h,hc]
theorem pR {w:World} {H:View} (h:Le H w):aK H (hv w):=λb o hb=>h b o hb
theorem Ws.mq {w0 w:World} {F:List Nat} {L:List ao} {Vs:List View} (h:Ws w0 F L Vs w) (i:Nat) {b:Nat} {ob:Obj} (hL:L[i]? = some (ah b ob)) {k:Nat} {v:Value} (hc:fT ob k=some v):vc (hv w) b k=some v:=
 IP (h.kn _ (dz hL)) hc
section
variable {P:Program} {ops:Array Oper} {Q:Exit->Act->World->Prop} {n:Nat} {ds:List Deferred} {l l':List (Nat×Value)} {W:World->Prop} {w0:World} {F:List Nat} {L:List ao} {Vs:List View} {rest:List Oper}
theorem bL {b:Nat} {ob:Obj} (i:Nat) (qZ:Obj) (hL:L[i]? = some (ah b ob)) (he:ob=qZ) (h:WL P ops Q n ds l (Ws w0 F (L.set i (ah b qZ)) Vs) rest):WL P ops Q n ds l (Ws w0 F L Vs) rest:=by
 subst he
 have:L.set i (ah b ob)=L:=by
   obtain ⟨hi,he⟩:=List.getElem?_eq_some_iff.1 hL;rw [<-he];exact List.set_getElem_self hi
 rwa [this] at h
end
def EA (P:Program) (t:TypeId):Option Nat:=match P.underlying t with | some (.int _)=>some 0 | some .string=>some 1 | some .bool=>some 2 | _=>none
def By (P:Program):Nat->List Field->Option (List Nat)
 | _,[]=>some []
 | i, f :: r => bif Nat.beq f.offset i && !(f.name == "_") then (match EA P f.type, By P (i + 1) r with | some k, some ks => some (k :: ks) | _, _ => none) else none
def EB (P:Program) (t:TypeId):Option (List Nat):=match P.underlying t with
 | some (.struct fs)=>bif P.stoodInHeld t||P.eqGuardType P.depth t then none else By P 0 fs.toList
 | _=>none
def jA:List Nat->List Value->List Value->Option Bool
 | [],[],[]=>some true
 | 0::ks,.int k a::xs,.int k' b::ys=>match jA ks xs ys with | some r=>if k=k' then some ((a==b)&&r) else none | none=>none
 | 1::ks,.string a::xs,.string b::ys=>match jA ks xs ys with | some r=>some ((a.data.toList==b.data.toList)&&r) | none=>none
 | 2::ks,.bool a::xs,.bool b::ys=>match jA ks xs ys with | some r=>some ((a==b)&&r) | none=>none
 | _,_,_=>none
section
variable {P:Program}
theorem UI {t:TypeId} {k:Nat} (h:EA P t=some k) (cs:Array Value) (off:Nat) (v:Value) (hv:cs[off]? = some v) (w:World):(part t cs off).run P w = .ok v w:=by
 have hn:dQ P t=true:=by
   unfold EA at h;unfold dQ
   cases hu:P.underlying t with
   | none=>simp [hu] at h
   | some d=>cases d<;>simp_all
 simp [part,Iz hn,hv]
theorem UJ (d:Nat):∀(fs:List Field) (i:Nat) (ks:List Nat) (xs ys:List Value) (pre y_:List Value) (r:Bool) (w:World),By P i fs=some ks->jA ks xs ys=some r->pre.length=i->y_.length=i->
   (Op.eqFields (d+1) (pre++xs).toArray (y_++ys).toArray fs).run P w = .ok r w
 | [],i,ks,xs,ys,pre,y_,r,w,hk,he,_,_=>by
   simp [By] at hk;subst hk
   cases xs<;>cases ys<;>simp [jA] at he
   subst he;simp [Op.eqFields]
 | f::fs,i,ks,xs,ys,pre,y_,r,w,hk,he,hp,UK=>by
   simp only [By] at hk
   cases hb : (Nat.beq f.offset i && !(f.name == "_")) with
   | false=>rw [hb] at hk; cases hk
   | true=>
     rw [hb] at hk;simp only [cond_true] at hk;simp only [Bool.and_eq_true] at hb;have ho:=Nat.eq_of_beq_eq_true hb.1
     have NM : f.name ≠ "_" := by simpa using hb.2
     cases fe:EA P f.type with
     | none=>simp [fe] at hk
     | some k=>
       cases NN:By P (i+1) fs with
       | none=>simp [fe,NN] at hk
       | some kr=>
         simp [fe,NN] at hk;subst hk
         cases xs with
         | nil=>cases ys<;>simp [jA] at he
         | cons x xs=>
           cases ys with
           | nil=>rcases k with _ | _ | _ | k<;>cases x<;>simp [jA] at he
           | cons y ys=>
             have hx:((pre++x::xs).toArray)[f.offset]? = some x:=by simp [ho,<-hp]
             have hy:((y_++y::ys).toArray)[f.offset]? = some y:=by simp [ho,<-UK]
             have key:∀b r',(Op.equalIn (d+1) f.type x y).run P w = .ok b w->jA kr xs ys=some r'->r=(b&&r')->(Op.eqFields (d+1) (pre++x::xs).toArray (y_++y::ys).toArray (f::fs)).run P w = .ok r w:=by
               intro b r' h1 h2 h3;have ih:=UJ d fs (i+1) kr xs ys (pre++[x]) (y_++[y]) r' w NN h2 (by simp [hp]) (by simp [UK]);simp only [List.append_assoc,List.singleton_append] at ih;simp only [Op.eqFields,NM,ne_eq,not_false_eq_true,if_true,Sem.run_bind,UI fe _ _ _ hx,UI fe _ _ _ hy,Result.andThen_ok,h1];cases b
               · simp [h3]
               · simp [h3,ih]
             unfold EA at fe
             cases hu:P.underlying f.type with
             | none=>simp [hu] at fe
             | some td=>
               cases vf:jA kr xs ys with
               | none=>cases td<;>simp [hu] at fe<;>subst fe<;>cases x<;>cases y<;>simp [jA,vf] at he
               | some r'=>
                 cases td<;>simp [hu] at fe<;>subst fe<;>cases x<;>cases y<;>simp [jA,vf] at he
                 · exact key _ r' (run_equalIn_bool' w d _ _ _ hu) vf he.symm
                 · obtain ⟨rfl,he⟩:=he
                   exact key _ r' (run_equalIn_int w d _ _ _ _ _ hu) vf he.symm
                 · refine key _ r' (run_equalIn_string w d _ _ _ hu) vf ?_
                   rw [ByteArray.toList_eq,ByteArray.toList_eq];rw [<-he]; simp
variable {l:List (Nat×Value)} {W:World->Prop} {d:Option Tmp} {ty:TypeId} {pos:String} {af:Array Edge} {g:Option (Nat×Bool)}
theorem afB {t:TypeId} {ks:List Nat} {xs ys:List Value} {r:Bool} (hf:EB P t=some ks) (he:jA ks xs ys=some r) (w:World) :
   (Op.equalIn 10000 t (.agg xs.toArray) (.agg ys.toArray)).run P w = .ok r w/\P.eqGuardType P.depth t=false:=by
 unfold EB at hf
 cases hu:P.underlying t with
 | none=>simp [hu] at hf
 | some td=>
   cases td<;>simp [hu] at hf
   rename_i fs
   cases hb:(P.stoodInHeld t||P.eqGuardType P.depth t) with
   | true=>rw [hb] at hf; cases hf
   | false=>
     rw [hb] at hf;simp only [Bool.or_eq_false_iff] at hb
     have sV:P.fieldsOf t=fs:=by simp [Program.fieldsOf,hu]
     refine ⟨?_,hb.2⟩;rw [run_equalIn_struct w 9999 t _ _ (by rw [sV]; exact hu) hb.1,sV]
     simpa using UJ 9998 fs.toList 0 ks xs ys [] [] r w (by simpa using hf) he rfl rfl
theorem afC {t u:TypeId} {x y:Operand} {ks:List Nat} {xs ys:List Value} {r:Bool} (hf:EB P t=some ks) (hx:aB l x=some (.agg xs.toArray)) (hy:aB l y=some (.agg ys.toArray)) (he:jA ks xs ys=some r) :
   Yl P l W ⟨d,.binOp .neq t x y u,ty,pos,af,g⟩ (.bool (!r)):=by
 intro ρ w aC _;obtain ⟨h1,h2⟩:=afB hf he w;simp only [execOp,aC x _ hx,aC y _ hy,Sem.run_bind,run_eqGuard_agg w _ _ _ _ _ _ h2,Result.andThen_ok,run_neq_struct w,h1,Sem.run_pure]
end
section
variable {P:Program} {l:List (Nat×Value)} {W:World->Prop} {d:Option Tmp} {ty:TypeId} {pos:String} {af:Array Edge} {g:Option (Nat×Bool)}
theorem UL {t u:TypeId} {x y:Operand} {k:IntKind} {a b:Int} (hx:aB l x=some (.int k a)) (hy:aB l y=some (.int k b)) (hb:b≠0):Yl P l W ⟨d,.binOp .rem t x y u,ty,pos,af,g⟩ (.int k (a.tmod b)):=
 λρ w aC _=>by simp [execOp,aC x _ hx,aC y _ hy,eqGuard,binOp,Op.intDiv,hb]
end
theorem Sl.flat {α:Type} {rd:View->Nat->Nat->α->Prop} {k:Nat} {H:View} {b o c:Nat} {l:List α} {f:α->List Value} (h:Sl rd k H (some ⟨b,o,none⟩) c l) (hf:∀x,(f x).length=k) (hk:0<k) (d_:∀b o x,rd H b o x->aR H b o (f x)) :
   ∀j u,(l.flatMap f)[j]? = some u->vc H b (o+j)=some u:=by
 intro j u hu;have hj:=(List.getElem?_eq_some_iff.1 hu).1;rw [xq hf] at hj;have hi:j / k<l.length:=Nat.div_lt_of_lt_mul (by rw [Nat.mul_comm]; exact hj);have hx:l[j / k]? = some l[j / k]:=List.getElem?_eq_getElem hi;have hm:j % k<k:=Nat.mod_lt _ hk
 have e:j / k*k+j % k=j:=by rw [Nat.mul_comm]; exact Nat.div_add_mod j k
 have h2:=ve hf hx hm;rw [e,hu] at h2;obtain ⟨b',o',IQ,hr⟩:=h.aS _ _ hx;simp at IQ;obtain ⟨rfl,rfl⟩:=IQ;have h3:=d_ _ _ _ hr (j % k) u h2.symm;rw [Nat.add_assoc,e] at h3;exact h3
def vg:List Oper->Nat->Nat->List Nat
 | [],_,_=>[]
 | o::r,i,m=>bif !m.testBit i&&o.after.toList.all (λe=>!Region.binds .any e||m.testBit e.on) then i::vg r (i+1) m else vg r (i+1) m
def IS (oi:Oper) (ops:Array Oper) (i:Nat):List Oper->Nat->Nat->Bool
 | [],_,_=>true
 | o::r,j,m=>(j==i||m.testBit j||(o.after.toList.any (λe=>Region.binds .any e&&e.on==i)||oi.apart ops o))&&IS oi ops i r (j+1) m
def UM (os:List Oper) (i m:Nat):Bool:=match os[i]? with | none=>false | some oi=>IS oi os.toArray i os 0 m
def xv (os:List Oper):List (Nat×Bool)->Nat->Bool
 | [],m=>(vg os 0 m).isEmpty
 | (i,q)::r,m=>(bif q then (vg os 0 m).contains i&&UM os i m else vg os 0 m==[i])&&xv os r (m||| 2 ^ i)
structure LM (n:Nat) (listed:Array Bool) (m:Nat):Prop where
 size:listed.size=n
 bit:∀j,listed.getD j false=m.testBit j
theorem LM.t {n m:Nat} {listed:Array Bool} (h:LM n listed m) {j:Nat} (hj:j<n):listed.getD j true=m.testBit j:=by
 rw [<-h.bit j]
 have:j<listed.size:=by rw [h.size]; exact hj
 simp [Array.getD,this]
theorem LM.set {n m i:Nat} {listed:Array Bool} (h:LM n listed m) (hi:i<n):LM n (listed.setIfInBounds i true) (m||| 2 ^ i):=by
 refine ⟨by simp [h.size],λj=>?_⟩;rw [Nat.testBit_or,Nat.testBit_two_pow,<-h.bit j]
 have hs:i<listed.size:=by rw [h.size]; exact hi
 by_cases e:i=j
 · subst e
   simp [Array.getD,hs]
 · by_cases hj:j<listed.size
   · simp [Array.getD,hj,e]
   · simp [Array.getD,hj,e]
theorem UN (ops:Array Oper) {listed:Array Bool} {m:Nat} (h:LM ops.size listed m):∀(os:List Oper) (i:Nat),i+os.length=ops.size->(∀j o,os[j]? = some o->ops[i+j]? = some o)->
   vg os i m=((List.range os.length).map (i + ·)).filter λk=>!listed.getD k true&&((ops[k]?).map (·.after.all λe=>!Region.binds .any e||listed.getD e.on false)).getD false
 | [],_,_,_=>by simp [vg]
 | o::r,i,hn,ho=>by
   have h0:=ho 0 o rfl;rw [Nat.add_zero] at h0
   have ih:=UN ops h r (i+1) (by simp at hn; omega) λj o' hj=>by rw [show i+1+j=i+(j+1) by omega]; exact ho (j+1) o' (by simpa using hj)
   have e:(List.range (o::r).length).map (i + ·)=i::(List.range r.length).map (i+1 + ·):=by
     rw [List.length_cons,List.range_succ_eq_map,List.map_cons,List.map_map]
     congr 1
     refine List.map_congr_left λk _=>?_
     show i+(k+1)=i+1+k
     omega
   have hb:(!listed.getD i true&&((ops[i]?).map (·.after.all λe=>!Region.binds .any e||listed.getD e.on false)).getD false)=(!m.testBit i&&o.after.toList.all (λe=>!Region.binds .any e||m.testBit e.on)):=by
     rw [h.t (by simp at hn; omega),h0,Option.map_some,Option.getD_some,<-Array.all_toList]
     congr 2
     funext e
     rw [h.bit]
   rw [e,List.filter_cons,hb,vg,ih]
   cases (!m.testBit i&&o.after.toList.all (λe=>!Region.binds .any e||m.testBit e.on))<;>simp
theorem UO {os:List Oper} {listed:Array Bool} {m:Nat} (h:LM os.toArray.size listed m):vg os 0 m=Region.ready .any os.toArray listed:=by
 rw [UN os.toArray h os 0 (by simp) λj o hj=>by simpa using hj];unfold Region.ready
 have:(List.range os.length).map (0 + ·)=List.range os.toArray.size:=by simp
 rw [this]
theorem UP (ops:Array Oper) {listed:Array Bool} {m i:Nat} {oi:Oper} (h:LM ops.size listed m):∀(os:List Oper) (k:Nat),k+os.length=ops.size->(∀j o,os[j]? = some o->ops[k+j]? = some o)->IS oi ops i os k m=true->
   ∀j,k<=j->j<ops.size->(j==i||listed.getD j true||match ops[j]? with
     | some oj=>oj.after.any (λe=>Region.binds .any e&&e.on==i)||oi.apart ops oj
     | none=>true)=true
 | [],k,hn,_,_,j,h1,h2=>by simp at hn; omega
 | o::r,k,hn,ho,hf,j,h1,h2=>by
   rw [IS,Bool.and_eq_true] at hf
   by_cases e:k=j
   · subst e
     have h0:=ho 0 o rfl;rw [Nat.add_zero] at h0;rw [h.t h2,h0];have:=hf.1
     simpa using this
   · exact UP ops h r (k+1) (by simp at hn; omega) (λj o' hj=>by rw [show k+1+j=k+(j+1) by omega]; exact ho (j+1) o' (by simpa using hj)) hf.2 j (by omega) h2
theorem UQ {os:List Oper}:∀(ord:List (Nat×Bool)) (listed:Array Bool) (m:Nat),LM os.toArray.size listed m->xv os ord m=true->nV .any os.toArray ord listed=true
 | [],listed,m,h,hf=>by
   rw [xv,UO h] at hf;exact hf
 | (i,q)::r,listed,m,h,hf=>by
   rw [xv,Bool.and_eq_true,UO h] at hf;obtain ⟨h1,h2⟩:=hf
   have hi:i<os.toArray.size:=by
     have hm:i ∈ Region.ready .any os.toArray listed:=by
       cases q with
       | true=>simp only [cond_true,Bool.and_eq_true] at h1; simpa using h1.1
       | false=>simp only [cond_false,beq_iff_eq] at h1; rw [h1]; simp
     unfold Region.ready at hm;exact List.mem_range.1 (List.mem_filter.1 hm).1
   rw [nV,Bool.and_eq_true];refine ⟨?_,UQ r _ _ (h.set hi) h2⟩
   cases q with
   | false=>exact h1
   | true=>
     simp only [cond_true,Bool.and_eq_true] at h1 ⊢;refine ⟨h1.1,?_⟩;have h3:=h1.2;unfold UM at h3;have hio:os[i]? = some os[i]:=List.getElem?_eq_getElem (by simpa using hi);rw [hio] at h3;unfold Region.free;rw [show os.toArray[i]? = some os[i] by simp];simp only [List.all_eq_true,List.mem_range];exact λj hj=>UP os.toArray h os 0 (by simp) (λj o hj=>by simpa using hj) h3 j (Nat.zero_le _) hj
theorem afE (n:Nat):LM n (Array.replicate n false) 0:=⟨by simp,λj=>by simp [Array.getD]⟩
theorem NO {os:List Oper} {ord:List (Nat×Bool)} (h:(Region.noSelect os.toArray&&(ord.length==os.toArray.size&&xv os ord 0))=true):(Region.noSelect os.toArray&&(ord.length==os.toArray.size&&nV .any os.toArray ord (Array.replicate os.toArray.size false)))=true:=by
 simp only [Bool.and_eq_true] at h ⊢;exact ⟨h.1,h.2.1,UQ ord _ 0 (afE _) h.2.2⟩
section
variable {P:Program} {Q:Exit->Act->World->Prop} {n:Nat} {ds:List Deferred} {l:List (Nat×Value)}
theorem WC.nc {id:Nat} {os:List Oper} {w0:World} {F:List Nat} {L:List ao} {Vs:List View} (ord:List (Nat×Bool)) (hm:P.follows .mixedOrders=true) (hB:(Region.noSelect os.toArray&&(ord.length==os.toArray.size&&xv os ord 0))=true)
   (hQ:∀c a w d v,Q (.panic c) (a.put d v) w->Q (.panic c) a w) (h:WD P os.toArray (Ws w0 F L Vs) Q n ds l (Ws w0 F L Vs) ord):WC P (.region id os.toArray true) Q n ds l (Ws w0 F L Vs):=
 WC.UG _ ord hm (NO hB) hQ (λ_ h=>h.drew) h
theorem WC.mr {id:Nat} {os:List Oper} {w0:World} {F:List Nat} {L:List ao} {Vs:List View} (i:Nat) (ord:List (Nat×Bool)) (hm:P.follows .mixedOrders=true) (hB:(Region.noSelect os.toArray&&(ord.length==os.toArray.size&&xv os ord 0))=true)
   (hQ:∀c a w d v,Q (.panic c) (a.put d v) w->Q (.panic c) a w) (h:WD P os.toArray (Ws w0 F (df i L) Vs) Q n ds l (Ws w0 F L Vs) ord):WC P (.region id os.toArray true) Q n ds l (Ws w0 F L Vs):=
 WC.UG _ ord hm (NO hB) hQ (λ_ h=>h.drew) h
end
section
variable {P:Program} {l:List (Nat×Value)} {W:World->Prop} {d:Option Tmp} {ty:TypeId} {pos:String} {af:Array Edge} {g:Option (Nat×Bool)}
theorem IT {t u:TypeId} {x y:Operand} {a b:Nat} {a' b':Int} (hx:aB l x=some (.int .i64 a')) (hy:aB l y=some (.int .i64 b')) (ea:a'=(a:Int)) (eb:b'=(b:Int)) (hb:(a:Int)+b<=9223372036854775807):Yl P l W ⟨d,.binOp .add t x y u,ty,pos,af,g⟩ (.int .i64 ((a+b:Nat):Int)):=by
 subst ea eb;have:=mY (P:=P) (W:=W) (d:=d) (ty:=ty) (pos:=pos) (af:=af) (g:=g) (t:=t) (u:=u) hx hy ⟨by omega,hb⟩
 rwa [show ((a+b:Nat):Int)=(a:Int)+b by omega]
theorem zb {f:FuncId} {eY:Array Operand} {vs:List Value} (ha:i_ l eY.toList=some vs):Yl P l W ⟨d,.makeFunc (.func f) #[] eY,ty,pos,af,g⟩ (.func (.func f) #[] vs.toArray):=by
 intro ρ w aC _
 have e:eY.map ρ=vs.toArray:=by
   apply Array.ext'
   simpa using IF aC _ _ ha
 simp [execOp,Instr.makeFunc,e]
end
section
variable {P:Program} {ops:Array Oper} {Q:Exit->Act->World->Prop} {n:Nat} {ds:List Deferred} {l:List (Nat×Value)} {w0:World} {F:List Nat} {L:List ao} {Vs:List View} {rest:List Oper}
theorem WL.shape {e:TypeId} {size m:Nat} {v:Value} {xs:List Value} (i:Nat) (hL:L[i]? = some (aY e size v m xs)) (hm:0<m)
   (h:∀b c,v = .slice (some ⟨b,0,none⟩) m c->m<=c->c<=maxLen->WL P ops Q n ds l (Ws w0 F L Vs) rest):WL P ops Q n ds l (Ws w0 F L Vs) rest:=by
 intro a w ha hw;obtain ⟨h1,h2⟩:=(hw.kn _ (dz hL):w.ownsRow 0 e size v m xs)
 rcases h2 with ⟨h3,h4⟩ | ⟨b,cap,cur,hv,_,_,lR,hc,_⟩
 · omega
 · exact h b cap hv lR hc a w ha hw
theorem WL.EC {e:TypeId} {size m:Nat} {v:Value} {xs:List Value} (i m':Nat) (UR:List Value) (hL:L[i]? = some (aY e size v m xs)) (hm:m=m') (hx:xs=UR)
   (h:WL P ops Q n ds l (Ws w0 F (L.set i (aY e size v m' UR)) Vs) rest):WL P ops Q n ds l (Ws w0 F L Vs) rest:=by
 subst hm hx
 have:L.set i (aY e size v m xs)=L:=by
   obtain ⟨hi,he⟩:=List.getElem?_eq_some_iff.1 hL;rw [<-he];exact List.set_getElem_self hi
 rwa [this] at h
end
theorem Ws.vd {w0 w:World} {F:List Nat} {L L':List ao} {Vs:List View} (h:Ws w0 F (L++L') Vs w):Ws w0 F L Vs w:=Ws.drop (h.perm List.perm_append_comm)
def bV (b:UInt8):Value:=.int .u8 (b.toNat:Int)
theorem afF (l:List UInt8):Lib.strCells ⟨l.toArray⟩=l.map bV:=by simp [Lib.strCells,bV,Function.comp_def]
theorem zd (l:List UInt8):(ByteArray.mk l.toArray).size=l.length:=by show l.toArray.size=_; simp
theorem NP {w:World} {b:Nat} {c:Array Value} {T:TypeId} {fz:Nat×Nat} (h:w.heap[b]? = some (.cells c T fz)):w.shape? b=some (T,c.size):=by simp [World.shape?,h]
section
variable {P:Program} {l:List (Nat×Value)} {W:World->Prop} {w0:World} {F:List Nat} {L:List ao} {Vs:List View} {d:Option Tmp} {ty:TypeId} {pos:String} {af:Array Edge} {g:Option (Nat×Bool)}
theorem Bz {s t:TypeId} {k1 k k2:IntKind} {x:Operand} {n:Int} (hs:P.underlying s=some (.int k1)) (ht:P.underlying t=some (.int k2)) (hx:aB l x=some (.int k n)):Yl P l W ⟨d,.convert s t x,ty,pos,af,g⟩ (.int k2 (k2.wrap n)):=by
 intro ρ w aC _;simp [execOp,aC x _ hx,convert,run_underlying hs,run_underlying ht,Conv.intToInt]
theorem afG {s t u:TypeId} {x:Operand} {b o:Nat} {c:Array Value} {T:TypeId} {fz:Nat×Nat} {j:Nat} (i:Nat) (hs:P.underlying s=some (.pointer u)) (ht:P.underlying t=some .unsafePointer) (hu:cC P u=some (j+1)) (hL:L[i]? = some (ah b (.cells c T fz))) (ho:Nat.blt o c.toList.length=true)
   (hx:aB l x=some (.pointer (some ⟨b,o,none⟩))):Yl P l (Ws w0 F L Vs) ⟨d,.convert s t x,ty,pos,af,g⟩ (.pointer (some ⟨b,o,none⟩)):=by
 intro ρ w aC hw;obtain ⟨inf,hi,hz⟩:=Option.map_eq_some_iff.1 hu;have ED:=NP (hw.kn _ (dz hL):w.heap[b]? = some (.cells c T fz));have e:=Lib.run_to_unsafe (P:=P) w ⟨b,o,none⟩ hs ht hi (by omega) ED (by have:=Nat.blt_eq.mp ho; simpa using this);simp [execOp,aC x _ hx,e]
theorem afH {s t u:TypeId} {x:Operand} {b o:Nat} {c:Array Value} {T:TypeId} {fz:Nat×Nat} {j n:Nat} (i:Nat) (hs:P.underlying s=some .unsafePointer) (ht:P.underlying t=some (.pointer u)) (hu:cC P u=some j) (hL:L[i]? = some (ah b (.cells c T fz)))
   (hn:c.toList.length=n) (hl:liesAt P P.depth T (n / P.cellsOf T) o u 1=true)
   (hx:aB l x=some (.pointer (some ⟨b,o,none⟩))):Yl P l (Ws w0 F L Vs) ⟨d,.convert s t x,ty,pos,af,g⟩ (.pointer (some ⟨b,o,none⟩)):=by
 intro ρ w aC hw;obtain ⟨inf,hi,hz⟩:=Option.map_eq_some_iff.1 hu;have ED:=NP (hw.kn _ (dz hL):w.heap[b]? = some (.cells c T fz))
 have sR:c.size=n:=by simpa using hn
 have e:=Lib.run_from_unsafe (P:=P) w ⟨b,o,none⟩ hs ht hi ED (by rw [sR]; exact hl);simp [execOp,aC x _ hx,e]
theorem afI {f:FuncId} {x:Operand} {v:Value} {ts:Array TypeId} (hf:∀(u:Value) (w:World),(callFunc f #[u]).run P w = .ok (.value u) w) (hx:aB l x=some v):Yl P l W ⟨d,.call ⟨.value (.func f),#[x],ts⟩,ty,pos,af,g⟩ v:=by
 intro ρ w aC _;have hc:ρ (.func f) = .func (.func f) #[] #[]:=aC _ _ rfl;simp [execOp,resolve,Deferred.ofValue,invoke,aC x _ hx,hc,hf]
theorem afJ {f : FuncId} {fn : Func} (hf : P.funcs[f]? = some fn) (NM : (fn.name == "runtime.NumGoroutine") = false) (hb : fn.body.isNone = true) (hn : Extern.findNext fn = none) (he : Extern.find fn = some Extern.AbiNoEscape.same) :
   ∀(u:Value) (w:World),(callFunc f #[u]).run P w = .ok (.value u) w:=by
 intro u w;rw [run_callFunc_extern hf NM hb hn he,Lib.run_noEscape]; rfl
theorem afK {t u e:TypeId} {x:Operand} {q:Option Addr} (ht:P.underlying t=some (.pointer e)) (hx:aB l x=some (.pointer q)):Yl P l W ⟨d,.binOp .eql t x (.const (.pointer none)) u,ty,pos,af,g⟩ (.bool q.isNone):=by
 intro ρ w aC _;have hy:ρ (.const (.pointer none)) = .pointer none:=aC _ _ rfl
 have hp:P.underlying t=some (.pointer (P.pointee t)):=by rw [ht]; simp [Program.pointee,ht]
 have e1:=run_eql_pointer_nil (P:=P) w t q hp;simp only [execOp,aC x _ hx,hy,eqGuard,Sem.run_bind];simp [e1]
theorem afL {t e:TypeId} {a:Addr} {k:Nat} (ht:P.underlying t=some (.pointer e)) (hs:cC P e=some (k+1)) (w:World) (m:Nat):(Op.equalIn (m+1) t (.pointer (some a)) (.pointer (some a))).run P w = .ok true w:=by
 obtain ⟨inf,hi,hz⟩:=Option.map_eq_some_iff.1 hs
 have de:inf.size≠0:=by omega
 simp only [Op.equalIn,Sem.run_bind,run_underlying ht,Result.andThen_ok,sizeOf,typeInfo];simp [hi,de,run_sameAddr_same]
theorem afM {t u e:TypeId} {x y:Operand} {a:Addr} {j:Nat} (ht:P.underlying t=some (.pointer e)) (hs:cC P e=some (j+1)) (hx:aB l x=some (.pointer (some a))) (hy:aB l y=some (.pointer (some a))):Yl P l W ⟨d,.binOp .neq t x y u,ty,pos,af,g⟩ (.bool false):=by
 intro ρ w aC _;have e2:=afL (P:=P) (a:=a) ht hs w 9999
 have e1:(binOp .neq t (.pointer (some a)) (.pointer (some a))).run P w = .ok (.bool false) w:=by
   simp only [binOp];have e3:(Op.equal t (.pointer (some a)) (.pointer (some a))).run P w = .ok true w:=e2;simp [e3]
 simp only [execOp,aC x _ hx,aC y _ hy,eqGuard,Sem.run_bind];simp [e1]
theorem afN {t u:TypeId} {x y:Operand} {k k2:IntKind} {n m:Int} (hx:aB l x=some (.int k n)) (hy:aB l y=some (.int k2 m)) (hm:0<=m):Yl P l W ⟨d,.binOp .shr t x y u,ty,pos,af,g⟩ (.int k (n.fdiv (2 ^ (min m.toNat k.bits)))):=by
 intro ρ w aC _
 have:¬m<0:=by omega
 simp [execOp,aC x _ hx,aC y _ hy,eqGuard,binOp,Op.shift,this]
theorem afO {x:Operand} {ts:Array TypeId} {a:Addr} {n c:Nat} (hc:c≠0) (hx:aB l x=some (.slice (some a) n c)):Yl P l W ⟨d,.call ⟨.builtin .unsafeSliceData,#[x],ts⟩,ty,pos,af,g⟩ (.pointer (some a)):=by
 intro ρ w aC _;simp [execOp,resolve,invoke,builtin,aC x _ hx,Lib.run_unsafeSliceData_row w _ _ a n c hc]
end
section
variable {P:Program} {ops:Array Oper} {Q:Exit->Act->World->Prop} {n:Nat} {ds:List Deferred} {l:List (Nat×Value)} {w0:World} {F:List Nat} {L:List ao} {Vs:List View} {rest:List Oper} {d:Nat} {ty:TypeId} {pos:String} {af:Array Edge} {g:Option (Nat×Bool)}
theorem afP {t u e ty:TypeId} {v v':Value} {m:Nat} {s:ByteArray} {xs:List Value} {w w':World} {i:TypeInfo} (ht:P.underlying t=some (.slice e)) (hu:P.underlying u=some .string) (hi:P.info? e=some i) (hz:i.zero=some (.int .u8 0)) (US:i.size=1) (UT:i.bytes=1)
   (qV:w.ownsRow 0 e 1 v m xs) (oS:m+s.size<=140737488355328) (dr:(Builtin.append_ #[t,u] ty #[v,.string s]).run P w = .ok v' w') (pN:v' = .slice none 0 0↔v = .slice none 0 0/\s.size=0) :
   v'.ownBlock=v.ownBlock\/v'.ownBlock=some w.heap.size:=by
 obtain ⟨hx,h2⟩:=qV
 have ze:xs.length=m:=by simpa using hx
 rcases h2 with ⟨rfl,rfl⟩ | ⟨g,cap,cur,rfl,_,hg,lR,xl,iO,Bu⟩
 · by_cases hk:s.size=0
   · exact .inl (by rw [pN.2 ⟨O,hk⟩])
   · have e2:=run_append_nil_string (P:=P) w t u ty e i (.int .u8 0) ht hu hi hz s (by omega) (by omega) (by rw [UT]; omega)
     rw [dr] at e2
     injection e2 with e2 _
     exact .inr (by rw [e2]; rfl)
 · by_cases IH:m+s.size<=cap
   · have e2:=Lib.run_append_room_string (P:=P) w t u ty e i ht hu hi US g m cap cur hg s IH (by omega)
     rw [dr] at e2
     injection e2 with e2 _
     exact .inl (by rw [e2]; rfl)
   · have NA:∀j v,xs[j]? = some v->w.cell? ((⟨g,0,none⟩:Addr).add j)=some v:=by
       intro j u hu;rw [oQ,<-Bu] at *;refine cell_of_heap hg ?_;rw [List.getElem?_take] at hu
       split at hu
       · simpa [fT] using hu
       · cases hu
     have e2:=Lib.run_append_grow_string (P:=P) w t u ty e i (.int .u8 0) ht hu hi hz ⟨g,0,none⟩ m cap xs (by rw [US]; omega) NA s (by omega) (by omega) (by rw [UT]; exact growslice_fits (by omega) (by omega));rw [dr] at e2
     injection e2 with e2 _
     exact .inr (by rw [e2]; rfl)
theorem WL.afQ {t u e:TypeId} {v:Value} {m:Nat} {s x:Operand} {bs:List UInt8} {xs:List Value} (i:Nat) (hg:cF ops l g) (hn:Nat.blt d n=true) (hE:e9 P t e (.int .u8 0) 1 1) (hu:P.underlying u=some .string)
   (hs:aB l s=some v) (hx:aB l x=some (st bs)) (hL:L[i]? = some (aY e 1 v m xs)) (oS:m+bs.length<=140737488355328)
   (h:∀v',(v' = .slice none 0 0↔v = .slice none 0 0/\bs.length=0)->WL P ops Q n ds ((d,v')::l) (Ws w0 F (L.set i (aY e 1 v' (m+bs.length) (xs++bs.map bV))) Vs) rest) :
   WL P ops Q n ds l (Ws w0 F L Vs) (⟨some d,.call ⟨.builtin .append,#[s,x],#[t,u]⟩,ty,pos,af,g⟩::rest):=by
 refine WL.step hg λa' w ha hw K hK=>?_;obtain ⟨inf,hi,hz,kh,kO⟩:=hE.info;have qV:w.ownsRow 0 e 1 v m xs:=hw.kn _ (dz hL);have sW:=zd bs;obtain ⟨v',w',dr,II,kP,pN⟩:=Lib.run_append_own_string (P:=P) w 0 t u ty e inf hE.under hu hi hz kh kO v m xs qV ⟨bs.toArray⟩ (by rw [sW]; unfold maxLen; omega) (by rw [sW]; exact oS) (Nat.zero_le _);have afR:=afP hE.under hu hi hz kh kO qV (by rw [sW]; exact oS) dr pN;rw [sW,afF] at II;rw [sW] at pN
 have lS:(execOp a'.eval ⟨some d,.call ⟨.builtin .append,#[s,x],#[t,u]⟩,ty,pos,af,g⟩).run P w = .ok (.value v') w':=by
   simp only [execOp,resolve,List.map_toArray,List.map_cons,List.map_nil,ha.eval hs,ha.eval hx,Sem.run_bind,Sem.run_pure,Result.andThen_ok,invoke,builtin,st,dr]
 simp only [Oper.wp,lS,Oper.upon_value];refine hK _ _ (h v' pN _ _ (ha.put hn _) ?_);refine Ws.xj hw i hL ⟨kP.os,kP.tape,kP.output,kP.size,λj hj de=>kP.block j hj λe=>de ?_⟩ II ?_ λj hj=>?_
 · simp [aY,<-e]
 · cases hv:v'.ownBlock<;>simp [aY,hv]
 · simp only [aY,Option.mem_toList] at hj ⊢
   rcases afR with e | e
   · exact .inl (by rw [<-e]; exact hj)
   · rw [e] at hj; injection hj with hj; exact .inr (by omega)
theorem WL.afS {pt it e:TypeId} {x y:Operand} {b c m:Nat} {bs:List UInt8} (i:Nat) (hg:cF ops l g) (hn:Nat.blt d n=true) (hp:P.underlying pt=some (.pointer e)) (hc:P.cellsOf e=1)
   (hx:aB l x=some (.pointer (some ⟨b,0,none⟩))) (hy:aB l y=some (.int .i64 (m:Int))) (hm:bs.length=m) (hL:L[i]? = some (aY e 1 (.slice (some ⟨b,0,none⟩) m c) m (bs.map bV))) (h0:bs≠[]) (hb:m<=9223372036854775807)
   (h:WL P ops Q n ds ((d,st bs)::l) (Ws w0 F (df i L) Vs) rest) :
   WL P ops Q n ds l (Ws w0 F L Vs) (⟨some d,.call ⟨.builtin .unsafeString,#[x,y],#[pt,it]⟩,ty,pos,af,g⟩::rest):=by
 refine WL.step hg λa' w ha hw K hK=>?_;subst hm;obtain ⟨cur,UU,re,iO,lR,hlen⟩:=afz (hw.kn _ (dz hL));have ED:=NP UU
 have dr:=Lib.run_unsafeString_row (P:=P) w pt it ty e hp hc b cur.size ED bs h0 (by omega) hb (λj u hu=>by
   rw [oQ];refine cell_of_heap UU ?_
   have h1:(bs.map bV)[j]? = some (bV u):=by simp [hu]
   rw [<-re,List.getElem?_take] at h1
   split at h1
   · simpa [fT,bV] using h1
   · cases h1)
 have lS:(execOp a'.eval ⟨some d,.call ⟨.builtin .unsafeString,#[x,y],#[pt,it]⟩,ty,pos,af,g⟩).run P w = .ok (.value (st bs)) (w.freeze ⟨b,0,none⟩ bs.length):=by
   simp only [execOp,resolve,List.map_toArray,List.map_cons,List.map_nil,ha.eval hx,ha.eval hy,Sem.run_bind,Sem.run_pure,Result.andThen_ok,invoke,builtin,st,dr]
 simp only [Oper.wp,lS,Oper.upon_value];refine hK _ _ (h _ _ (ha.put hn _) ?_);have dE:=hw.perm (nU i L hL)
 have:=Ws.xi (L:=[aY e 1 (.slice (some ⟨b,0,none⟩) bs.length c) bs.length (bs.map bV)]) (L':=[]) (L2:=df i L) dE (w':=w.freeze ⟨b,0,none⟩ bs.length) ⟨by unfold World.freeze; split<;>rfl,by unfold World.freeze; split<;>rfl,by unfold World.freeze; split<;>rfl,by unfold World.freeze; split<;>simp,λj hj de=>by
   have IU:j≠b:=λe=>de (by simp [aY,Value.ownBlock,e]);unfold World.freeze
   split
   · rfl
   · simp [Array.getElem?_modify,Ne.symm IU]⟩ (by simp) (by simp) (by simp)
 simpa using this
end
theorem UW {w0 w:World} {F:List Nat} {L:List ao} {Vs:List View} (h:Ws w0 F L Vs w) (i:Nat) {b:Nat} {c:Array Value} {T:TypeId} {fz:Nat×Nat} (hL:L[i]? = some (ah b (.cells c T fz))) {k:Nat} {u:Value} (hu:c.toList[k]? = some u):w.cell? ((⟨b,0,none⟩:Addr).add k)=some u:=by
 rw [oQ];exact cell_of_heap (h.kn _ (dz hL)) (by simpa [fT] using hu)
section
variable {P:Program} {ops:Array Oper} {Q:Exit->Act->World->Prop} {n:Nat} {ds:List Deferred} {l:List (Nat×Value)} {w0:World} {F:List Nat} {L:List ao} {Vs:List View} {rest:List Oper}
theorem WL.UX {e:TypeId} {size m:Nat} {v:Value} {xs:List Value} (i:Nat) (hL:L[i]? = some (aY e size v m xs))
   (h:∀a k c,v = .slice a k c->WL P ops Q n ds l (Ws w0 F L Vs) rest):WL P ops Q n ds l (Ws w0 F L Vs) rest:=by
 intro a w ha hw;obtain ⟨h1,h2⟩:=(hw.kn _ (dz hL):w.ownsRow 0 e size v m xs)
 rcases h2 with ⟨h3,_⟩ | ⟨b,cap,cur,hv,_⟩
 · exact h _ _ _ h3 a w ha hw
 · exact h _ _ _ hv a w ha hw
end
def bv (b:Nat) (ob:Obj):View:=λk=>if k=b then some ob else none
theorem afT {b k:Nat} {ob:Obj} {v:Value} (h:fT ob k=some v):vc (bv b ob) b k=some v:=by simp [vc,bv,h]
theorem Ws.mu {w0 w:World} {F:List Nat} {L:List ao} {Vs:List View} (h:Ws w0 F L Vs w) (i:Nat) {b:Nat} {ob:Obj} (hL:L[i]? = some (ah b ob)):Ws w0 F (df i L) (bv b ob::Vs) w:=by
 have hp:=h.perm (nU i L hL);have hd:Ws w0 F (df i L) Vs w:=Ws.drop (L:=[ah b ob]) hp;have hb:w.heap[b]? = some ob:=h.kn _ (dz hL);have nd:=hp.nd;rw [List.flatMap_cons,List.nodup_append] at nd;refine ⟨hd.fr,hd.kn,hd.nd,hd.own,?_,?_⟩
 · intro H hH
   rcases List.mem_cons.1 hH with rfl | hH
   · intro k o hk
     unfold bv at hk
     split at hk
     · rename_i e; subst e; injection hk with hk; subst hk; exact hb
     · cases hk
   · exact hd.vs H hH
 · intro H hH A hA k hk
   rcases List.mem_cons.1 hH with rfl | hH
   · unfold bv
     rw [if_neg];intro e;subst e;exact nd.2.2 k (by simp [ah]) k (List.mem_flatMap.2 ⟨A,hA,hk⟩) O
   · exact hd.off H hH A hA k hk
section
variable {P:Program} {ops:Array Oper} {Q:Exit->Act->World->Prop} {n:Nat} {ds:List Deferred} {l:List (Nat×Value)} {w0:World} {F:List Nat} {L:List ao} {Vs:List View} {rest:List Oper}
theorem WL.mu {b:Nat} {ob:Obj} (i:Nat) (hL:L[i]? = some (ah b ob)) (h:WL P ops Q n ds l (Ws w0 F (df i L) (bv b ob::Vs)) rest):WL P ops Q n ds l (Ws w0 F L Vs) rest:=
 LW (λ_ hw=>hw.mu i hL) h
theorem WC.shape {c:Code} {e:TypeId} {size m:Nat} {v:Value} {xs:List Value} (i:Nat) (hL:L[i]? = some (aY e size v m xs)) (hm:0<m)
   (h:∀b k,v = .slice (some ⟨b,0,none⟩) m k->m<=k->k<=maxLen->WC P c Q n ds l (Ws w0 F L Vs)):WC P c Q n ds l (Ws w0 F L Vs):=by
 intro a w ha hw;obtain ⟨h1,h2⟩:=(hw.kn _ (dz hL):w.ownsRow 0 e size v m xs)
 rcases h2 with ⟨h3,h4⟩ | ⟨b,cap,cur,hv,_,_,lR,hc,_⟩
 · omega
 · exact h b cap hv lR hc a w ha hw
end
section
variable {P:Program} {l:List (Nat×Value)} {W:World->Prop} {d:Option Tmp} {ty:TypeId} {pos:String} {af:Array Edge} {g:Option (Nat×Bool)}
theorem IV {t u:TypeId} {x y:Operand} {a b:Int} (v:Int) (hx:aB l x=some (.int .i64 a)) (hy:aB l y=some (.int .i64 b)) (he:a+b=v) (hb : -9223372036854775808<=v/\v<=9223372036854775807):Yl P l W ⟨d,.binOp .add t x y u,ty,pos,af,g⟩ (.int .i64 v):=by
 subst he; exact mY hx hy hb
theorem sX {t u:TypeId} {x y:Operand} {a b:Int} (v:Int) (hx:aB l x=some (.int .i64 a)) (hy:aB l y=some (.int .i64 b)) (he:a-b=v) (hb : -9223372036854775808<=v/\v<=9223372036854775807):Yl P l W ⟨d,.binOp .sub t x y u,ty,pos,af,g⟩ (.int .i64 v):=by
 subst he; exact afe hx hy hb
end
def IW (size:Nat):Nat->List (Nat×Value)->Bool
 | _,[]=>true
 | k,(i,v)::r=>Nat.beq i k&&Nat.beq (dN v).length size&&IW size (k+1) r
def BB:List (Nat×Value)->List Value
 | []=>[]
 | (_,v)::r=>dN v++BB r
theorem UY (size:Nat):∀(vs:List (Nat×Value)) (k:Nat) (done rest:List Value),IW size k vs=true->done.length=k*size->rest.length=vs.length*size->
   sQ (λi=>some (i*size,size)) (done++rest) vs=some (done++BB vs)
 | [],k,done,rest,_,_,hr=>by
   have:rest=[]:=List.eq_nil_of_length_eq_zero (by simpa using hr);simp [sQ,BB,this]
 | (i,v)::r,k,done,rest,hf,hd,hr=>by
   simp only [IW,Bool.and_eq_true] at hf;obtain ⟨⟨h1,h2⟩,h3⟩:=hf;have h1:=Nat.eq_of_beq_eq_true h1;subst h1;have h2:=Nat.eq_of_beq_eq_true h2
   have hrl:size<=rest.length:=by rw [hr,List.length_cons,Nat.add_mul]; omega
   have hb:(Nat.beq (dN v).length size&&Nat.ble (i*size+size) (done++rest).length)=true:=by
     rw [h2,Nat.beq_refl,Bool.true_and];exact Nat.ble_eq_true_of_le (by simp; omega)
   simp only [sQ,hb,cond_true]
   have e1:(done++rest).take (i*size)=done:=by rw [<-hd]; simp
   have e2:(done++rest).drop (i*size+size)=rest.drop size:=by
     rw [List.drop_append,hd,List.drop_of_length_le (by omega)];simp
   rw [e1,e2];have:=UY size r (i+1) (done++dN v) (rest.drop size) h3 (by simp [hd,h2,Nat.add_mul]) (by simp [hr,Nat.add_mul]);rw [this];simp [BB]
theorem afV (z:Value) (k:Nat):(xm z k).length=k:=by simp [xm]
section
variable {P:Program} {ops:Array Oper} {Q:Exit->Act->World->Prop} {n:Nat} {ds:List Deferred} {l:List (Nat×Value)} {w0:World} {F:List Nat} {L:List ao} {Vs:List View} {rest:List Oper} {d:Nat} {ty:TypeId} {pos:String} {af:Array Edge} {g:Option (Nat×Bool)}
theorem Lb {t e:TypeId} {len size bytes:Nat} {parts:List (Nat×Operand)} {z:Value} {vs:List (Nat×Value)} (hg:cF ops l g) (hn:Nat.blt d n=true) (hE:e9 P t e z size bytes)
   (hv:u9 l parts=some vs) (hb:Nat.ble (len*size) 16777216=true) (hf:IW size 0 vs=true) (hl:vs.length=len)
   (h:∀b,WL P ops Q n ds ((d,.slice (some ⟨b,0,none⟩) len len)::l) (Ws w0 F (ah b (.cells (BB vs).toArray e (0,0))::L) Vs) rest) :
   WL P ops Q n ds l (Ws w0 F L Vs) (⟨some d,.buildSlice t len parts.toArray,ty,pos,af,g⟩::rest):=by
 refine WL.NH hg hn hE hv hb (out:=BB vs) ?_ h
 have hz:(bif Nat.beq (len*size) 0 then [] else xm z (len*size))=xm z (len*size):=by
   cases hq:Nat.beq (len*size) 0 with
   | false=>rfl
   | true=>have:=Nat.eq_of_beq_eq_true hq; rw [this]; rfl
 rw [hz];have:=UY size vs 0 [] (xm z (len*size)) hf (by simp) (by rw [afV,hl])
 simpa using this
end
inductive Ord where
 | nil
 | stop
 | q (i:Nat) (r:Ord)
 | e (i:Nat) (r alt:Ord)
def Ord.alts:Ord->List Nat
 | .e i _ alt=>i::alt.alts
 | _=>[]
def ki (md:Region.Mode) (ops:Array Oper):Bool->Ord->Nat->Array Bool->Bool
 | top,.nil,k,listed=>top&&(Nat.beq k 0&&(Region.ready md ops listed).isEmpty)
 | top,.stop,_,_=>!top
 | top,.q i r,k,listed=>match k with
   | 0=>false
   | k+1=>top&&((Region.ready md ops listed).contains i&&Region.free md ops listed i&&ki md ops true r k (listed.setIfInBounds i true))
 | top,.e i r alt,k,listed=>match k with
   | 0=>false
   | k+1=>(bif top then Region.ready md ops listed==i::alt.alts else true)&&(ki md ops true r k (listed.setIfInBounds i true)&&ki md ops false alt (k+1) listed)
section
variable {P:Program} {md:Region.Mode} {ops:Array Oper} {C:World->Prop} {Q:Exit->Act->World->Prop}
def sY (P:Program) (ops:Array Oper) (C:World->Prop) (Q:Exit->Act->World->Prop):Ord->Act->World->Prop
 | .nil,a,w=>C w/\Q .normal a w
 | .stop,_,_=>True
 | .q i r,a,w=>C w/\∃o v,ops[i]? = some o/\YV P ops C o v a/\sY P ops C Q r (a.put o.dst v) w
 | .e i r alt,a,w=>C w/\(wpOp P ops Q i (sY P ops C Q r) a w/\sY P ops C Q alt a w)
theorem IX (hs:Region.noSelect ops=true) (hQ:∀c a w d v,Q (.panic c) (a.put d v) w->Q (.panic c) a w):∀(o:Ord) (k:Nat) (listed:Array Bool) (a:Act) (w:World),
   (ki md ops true o k listed=true->sY P ops C Q o a w->ra P md ops C Q k listed a w)/\
   (ki md ops false o k listed=true->sY P ops C Q o a w->∀j ∈ o.alts,∃k',k=k'+1/\wpOp P ops Q j (ra P md ops C Q k' (listed.setIfInBounds j true)) a w)
 | .nil,k,listed,a,w=>by
   refine ⟨λhB h=>?_,λhB=>by simp [ki] at hB⟩;simp only [ki,Bool.true_and,Bool.and_eq_true] at hB;obtain rfl:=Nat.eq_of_beq_eq_true hB.1;exact ⟨h.1,by simpa using hB.2,h.2⟩
 | .stop,k,listed,a,w=>⟨λhB=>by simp [ki] at hB,λ_ _ j hj=>by simp [Ord.alts] at hj⟩
 | .q i r,k,listed,a,w=>by
   cases k with
   | zero=>exact ⟨λhB=>by simp [ki] at hB,λhB=>by simp [ki] at hB⟩
   | succ k=>
     refine ⟨λhB h=>?_,λhB=>by simp [ki] at hB⟩;simp only [ki,Bool.true_and,Bool.and_eq_true] at hB;obtain ⟨hC,o,v,ho,hy,h⟩:=h
     exact ND ho (Region.noSelect_spec hs) (λc a w=>hQ c a w o.dst v) k listed a w (Region.free_spec ho hB.1.2) (by simpa using hB.1.1) hy hC
       ((IX hs hQ r k _ _ _).1 hB.2 h)
 | .e i r alt,k,listed,a,w=>by
   cases k with
   | zero=>exact ⟨λhB=>by simp [ki] at hB,λhB=>by simp [ki] at hB⟩
   | succ k=>
     have hP:ki md ops true r k (listed.setIfInBounds i true)=true->ki md ops false alt (k+1) listed=true->sY P ops C Q (.e i r alt) a w->
         ∀j ∈ i::alt.alts,wpOp P ops Q j (ra P md ops C Q k (listed.setIfInBounds j true)) a w:=by
       intro h1 h2 h j hj
       rcases List.mem_cons.1 hj with rfl | hj
       · exact wpOp_mono (λa' w' h'=>(IX hs hQ r k _ a' w').1 h1 h') h.2.1
       · obtain ⟨k',hk,hx⟩:=(IX hs hQ alt (k+1) listed a w).2 h2 h.2.2 j hj
         injection hk with hk
         subst hk;exact hx
     refine ⟨λhB h=>?_,λhB h j hj=>?_⟩
     · simp only [ki,cond_true,Bool.and_eq_true,beq_iff_eq] at hB
       refine ⟨h.1,λhe=>(by rw [he] at hB; cases hB.1),λj hj=>?_⟩;rw [hB.1] at hj;exact hP hB.2.1 hB.2.2 h j hj
     · simp only [ki,cond_false,Bool.true_and,Bool.and_eq_true] at hB
       exact ⟨k,O,hP hB.1 hB.2 h j hj⟩
theorem afW {id:Nat} {a:Act} {w:World} {l:List Oper} (ord:Ord) (hm:P.follows .mixedOrders=true) (hB:(Region.noSelect l.toArray&&ki .any l.toArray true ord l.toArray.size (Array.replicate l.toArray.size false))=true)
   (hQ:∀c a w d v,Q (.panic c) (a.put d v) w->Q (.panic c) a w) (h:sY P l.toArray C Q ord a w.drew):(Code.region id l.toArray true).wp P Q a w:=by
 simp only [Bool.and_eq_true] at hB;have:=IM (md:=.any) _ _ _ _ ((IX hB.1 hQ ord _ _ a w.drew).1 hB.2 h);exact wp_region_any hm this
variable {n:Nat} {ds:List Deferred} {l:List (Nat×Value)} {W:World->Prop}
def WT (P:Program) (ops:Array Oper) (C:World->Prop) (Q:Exit->Act->World->Prop) (n:Nat) (ds:List Deferred) (l:List (Nat×Value)) (W:World->Prop) (ord:Ord):Prop:=
 ∀a w,Ag n ds l a->W w->sY P ops C Q ord a w
theorem WT.q {r:Ord} {i d:Nat} {op:Op} {ty:TypeId} {pos:String} {af:Array Edge} {g:Option (Nat×Bool)} {v:Value} (hi:ops[i]? = some ⟨some d,op,ty,pos,af,g⟩) (hg:cF ops l g) (hn:Nat.blt d n=true)
   (hC:∀w,W w->C w) (hy:Yl P l C ⟨some d,op,ty,pos,af,g⟩ v) (h:WT P ops C Q n ds ((d,v)::l) W r):WT P ops C Q n ds l W (.q i r):=by
 intro a w ha hw;refine ⟨hC w hw,_,v,hi,.inl ⟨cF.wanted (o:=⟨some d,op,ty,pos,af,g⟩) hg ha,λw' dE=>hy a.eval w' (λx u hx=>ha.eval hx) dE⟩,h _ _ (ha.put hn v) hw⟩
theorem WT.e {r alt:Ord} {i:Nat} {o:Oper} (hi:ops[i]? = some o) (hC:∀w,W w->C w) (h:WL P ops (Exit.then (sY P ops C Q r) Q) n ds l W [o]) (h2:WT P ops C Q n ds l W alt):WT P ops C Q n ds l W (.e i r alt):=by
 intro a w ha hw;refine ⟨hC w hw,?_,h2 a w ha hw⟩;have:=h a w ha hw;unfold wpList at this;unfold wpOp;simp only [hi]
 split
 · rename_i dE
   rw [if_pos dE] at this
   rcases this with this | ⟨h1,a2,w2,h2⟩
   · left
     unfold Oper.wp at this ⊢;unfold Oper.upon at this ⊢
     split at this
     all_goals first
       | exact this
       | (refine this.mono λe w' he=>?_
          cases e with
          | returned v=>exact he
          | panicked ch=>exact he
          | outgrown=>obtain ⟨a3,w3,h3⟩:=he; exact ⟨a3,w3,h3⟩)
       | exact this.mono λv w' he=>he
   · exact .inr ⟨h1,a2,w2,h2⟩
 · rename_i dE
   rw [if_neg dE] at this;exact this
theorem WT.stop:WT P ops C Q n ds l W .stop:=λ_ _ _ _=>trivial
theorem jR {r:Ord} (h:WT P ops C Q n ds l W r):WE (Exit.then (sY P ops C Q r) Q) .normal n ds l W:=h
theorem WT.nil (hC:∀w,W w->C w) (h:WE Q .normal n ds l W):WT P ops C Q n ds l W .nil:=λa w ha hw=>⟨hC w hw,h a w ha hw⟩
theorem WC.afX {id:Nat} {os:List Oper} {w0:World} {F:List Nat} {L:List ao} {Vs:List View} (ord:Ord) (hm:P.follows .mixedOrders=true) (hB:(Region.noSelect os.toArray&&ki .any os.toArray true ord os.toArray.size (Array.replicate os.toArray.size false))=true)
   (hQ:∀c a w d v,Q (.panic c) (a.put d v) w->Q (.panic c) a w) (h:WT P os.toArray (Ws w0 F L Vs) Q n ds l (Ws w0 F L Vs) ord):WC P (.region id os.toArray true) Q n ds l (Ws w0 F L Vs):=
 λa w ha hw=>afW ord hm hB hQ (h a w.drew ha hw.drew)
end
abbrev nX:=List UInt8×Value×Nat
def nf (e:nX):MapEntry:={ key:=st e.1,val:=e.2.1,born:=e.2.2 }
def pS (m:List nX) (c:Nat):Obj:=.map (m.map nf).toArray c
def oU (k:List UInt8):List nX->Nat->Option (Nat×Value)
 | [],_=>none
 | e::r,i=>if (k==e.1)=true then some (i,e.2.1) else oU k r (i+1)
def BC (k:List UInt8) (v:Value) (m:List nX) (c:Nat):List nX:=match oU k m 0 with
 | some (i,_)=>m.modify i λe=>(k,v,e.2.2)
 | none=>m++[(k,v,c)]
def BD (k:List UInt8) (m:List nX) (c:Nat):Nat:=match oU k m 0 with | some _=>c | none=>c+1
def EG (k:List UInt8) (m:List nX) (z:Value):Value:=match oU k m 0 with | some (_,v)=>v | none=>z
theorem NQ (a b:List UInt8):(ByteArray.mk a.toArray==ByteArray.mk b.toArray)=(a==b):=by
 show (a.toArray==b.toArray)=_
 simp
theorem afY (m:List nX) (j:Nat) (k:List UInt8) (v:Value):(m.map nf).modify j (λe=>{ e with key:=st k,val:=v })=(m.modify j λe=>(k,v,e.2.2)).map nf:=by
 apply List.ext_getElem?;intro i;simp only [List.getElem?_modify,List.getElem?_map]
 cases m[i]? with
 | none=>simp
 | some e=>by_cases h:j=i<;>simp [h,nf]
theorem NR (k:List UInt8):∀(m:List nX) (i:Nat),Instr.findNow .string (st k) (m.map nf) i=some (oU k m i)
 | [],_=>rfl
 | e::r,i=>by
   simp only [List.map_cons,Instr.findNow,nf,st,Instr.sameNow,NQ,oU];cases h:(k==e.1)
   · simp only [Bool.false_eq_true,if_false]
     exact NR k r (i+1)
   · simp
section
variable {P:Program} {ops:Array Oper} {Q:Exit->Act->World->Prop} {n:Nat} {ds:List Deferred} {l:List (Nat×Value)} {w0:World} {F:List Nat} {L:List ao} {Vs:List View} {rest:List Oper} {d:Nat} {ty:TypeId} {pos:String} {af:Array Edge} {g:Option (Nat×Bool)}
theorem WL.afZ {t:TypeId} (hg:cF ops l g) (hn:Nat.blt d n=true)
   (h:∀b,WL P ops Q n ds ((d,.map (some b))::l) (Ws w0 F (ah b (pS [] 0)::L) Vs) rest) :
   WL P ops Q n ds l (Ws w0 F L Vs) (⟨some d,.makeMap t none,ty,pos,af,g⟩::rest):=
 WL.new (mk:=λb=>.map (some b)) (o:=pS [] 0) hg hn (λρ w _ _=>by
   simp only [execOp]
   simp [Instr.makeMap,pS]) h
theorem af0 {dd:Option Tmp} {t kt e:TypeId} {x y:Operand} {b c:Nat} {m:List nX} {k:List UInt8} {z:Value} (i:Nat) (ht:P.underlying t=some (.map kt e)) (hk:P.underlying kt=some .string) (hz:zeroOf P e=some z) (hx:aB l x=some (.map (some b))) (hy:aB l y=some (st k)) (hL:L[i]? = some (ah b (pS m c))) :
   Yl P l (Ws w0 F L Vs) ⟨dd,.lookup t x y false,ty,pos,af,g⟩ (EG k m z):=by
 intro ρ w aC hw;have hb:w.heap[b]? = some (.map (m.map nf).toArray c):=hw.kn _ (dz hL);have hf:=NR k m 0;have hc:(Instr.checkKey (m.map nf).toArray.isEmpty 10000 kt (st k)).run P w = .ok () w:=MapKept.run_checkKey (k:=st k) hk (by simp [MapKept.IsKey,st]) _ 9999
 have e1:(Instr.lookup t (.map (some b)) (st k) false).run P w = .ok (EG k m z) w:=by
   simp only [Instr.lookup,Sem.run_bind,run_underlying ht,Result.andThen_ok,MapKept.run_getObj_map hb,Sem.run_pure,hc];rw [MapKept.run_findKey hk (by simpa using hf)];unfold EG
   cases hm:oU k m 0 with
   | none=>simp [Result.andThen_ok,y7 hz]
   | some r=>obtain ⟨i,v⟩:=r; simp [Result.andThen_ok]
 simp [execOp,aC x _ hx,aC y _ hy,e1]
theorem NS {dd:Option Tmp} {t kt e:TypeId} {x:Operand} {b c:Nat} {m:List nX} (i:Nat) (ht:P.underlying t=some (.map kt e)) (hx:aB l x=some (.map (some b))) (hL:L[i]? = some (ah b (pS m c))) :
   Yl P l (Ws w0 F L Vs) ⟨dd,.call ⟨.builtin .len,#[x],#[t]⟩,ty,pos,af,g⟩ (.int .i64 (m.length:Int)):=by
 intro ρ w aC hw;have hb:w.heap[b]? = some (.map (m.map nf).toArray c):=hw.kn _ (dz hL);simp [execOp,resolve,invoke,builtin,aC x _ hx,Builtin.len_,run_underlying ht,MapKept.run_getObj_map hb,goInt]
theorem WL.af1 {t kt e:TypeId} {x y u:Operand} {b c:Nat} {m:List nX} {k:List UInt8} {v:Value} (i:Nat) (hg:cF ops l g) (ht:P.underlying t=some (.map kt e)) (hk:P.underlying kt=some .string) (hx:aB l x=some (.map (some b))) (hy:aB l y=some (st k)) (hu:aB l u=some v) (hL:L[i]? = some (ah b (pS m c)))
   (h:WL P ops Q n ds l (Ws w0 F (L.set i (ah b (pS (BC k v m c) (BD k m c)))) Vs) rest) :
   WL P ops Q n ds l (Ws w0 F L Vs) (⟨none,.mapUpdate t x y u,ty,pos,af,g⟩::rest):=by
 refine WL.step hg λa w ha hw K hK=>?_;have hb:w.heap[b]? = some (.map (m.map nf).toArray c):=hw.kn _ (dz hL);have hf:=NR k m 0;have hc:(Instr.checkKey false 10000 kt (st k)).run P w = .ok () w:=MapKept.run_checkKey (k:=st k) hk (by simp [MapKept.IsKey,st]) _ 9999
 have e1:(Instr.mapUpdate t (.map (some b)) (st k) v).run P w = .ok () { w with heap:=w.heap.setIfInBounds b (pS (BC k v m c) (BD k m c)) }:=by
   simp only [Instr.mapUpdate,Sem.run_bind,run_underlying ht,Result.andThen_ok,MapKept.run_getObj_map hb,Sem.run_pure,hc];rw [MapKept.run_findKey hk (by simpa using hf)];unfold BC BD
   cases hm:oU k m 0 with
   | none=>simp [Result.andThen_ok,MapKept.run_setObj_map _ hb,pS,nf,st]
   | some r=>
     obtain ⟨j,v'⟩:=r
     have zf:m[j]?.map (·.1)=some k:=by
       have key:∀(m:List nX) (i0:Nat),oU k m i0=some (j,v')->i0<=j/\(m[j-i0]?).map (·.1)=some k:=by
         intro m
         induction m with
         | nil=>intro i0 h; simp [oU] at h
         | cons e r ih=>
           intro i0 h;simp only [oU] at h
           split at h
           · rename_i hk
             injection h with h; injection h with h1 h2
             subst h1;simp at hk;simp [hk]
           · obtain ⟨h1,h2⟩:=ih (i0+1) h
             refine ⟨by omega,?_⟩
             have:j-i0=(j-(i0+1))+1:=by omega
             rw [this]; simpa using h2
       simpa using (key m 0 hm).2
     have nY:((((m.map nf).toArray)[j]?).map (·.key)).getD (st k)=st k:=by
       cases he:m[j]? with
       | none=>simp [he]
       | some e=>rw [he] at zf; simp at zf; simp [he,nf,zf]
     simp only [nY,Result.andThen_ok]
     have af2:(Instr.keyThatStays (st k) (st k)).run P w = .ok (st k) w:=by
       simp [Instr.keyThatStays,Instr.sameBits,st,NQ]
     simp only [Sem.run_bind,af2,Result.andThen_ok,MapKept.run_setObj_map _ hb,pS]
     have EH:(m.map nf).toArray.modify j (λe=>{ e with key:=st k,val:=v })=((m.modify j λe=>(k,v,e.2.2)).map nf).toArray:=by
       apply Array.ext';rw [Array.toList_modify];exact afY m j k v
     rw [EH]
 have lS:(execOp a.eval ⟨none,.mapUpdate t x y u,ty,pos,af,g⟩).run P w = .ok .skip { w with heap:=w.heap.setIfInBounds b (pS (BC k v m c) (BD k m c)) }:=by
   simp only [execOp,ha.eval hx,ha.eval hy,ha.eval hu,Sem.run_bind,e1,Result.andThen_ok,Sem.run_pure]
 simp only [Oper.wp,lS,Oper.upon_skip];refine hK _ _ (h _ _ (ha.D8 undef) ?_);refine Ws.xj hw i hL ⟨O,O,O,by simp,λj hj de=>?_⟩ ?_ (by simp [ah]) (by simp [ah])
 · have:b≠j:=λe=>de (by simp [ah,e])
   simp [Array.getElem?_setIfInBounds_ne this]
 · show (w.heap.setIfInBounds b _)[b]? = _
   simp [lt_of_heap hb]
theorem WL.NT {e:TypeId} {size m:Nat} {v:Value} {xs:List Value} (i:Nat) (hL:L[i]? = some (aY e size v m xs))
   (h:∀a k,v = .slice a m k->WL P ops Q n ds l (Ws w0 F L Vs) rest):WL P ops Q n ds l (Ws w0 F L Vs) rest:=by
 intro a w ha hw;obtain ⟨h1,h2⟩:=(hw.kn _ (dz hL):w.ownsRow 0 e size v m xs)
 rcases h2 with ⟨h3,h4⟩ | ⟨b,cap,cur,hv,_⟩
 · exact h none 0 (by rw [h3,h4]) a w ha hw
 · exact h _ _ hv a w ha hw
end
section
variable {P:Program} {ops:Array Oper} {Q:Exit->Act->World->Prop} {n:Nat} {ds:List Deferred} {l:List (Nat×Value)} {W:World->Prop} {w0:World} {F:List Nat} {L:List ao} {Vs:List View}
 {rest:List Oper} {d:Nat} {ty:TypeId} {pos:String} {af:Array Edge} {g:Option (Nat×Bool)}
theorem cW {ι κ:Type} {f:FuncId} {args:Array Operand} {ts:Array TypeId} {vs:List Value} (L1 L2:List ao) (hg:cF ops l g) (hn:Nat.blt d n=true) (hf:Enters P f) (ha:i_ l args.toList=some vs) (hL:L=L1++L2)
   (v:ι->Value) (eS:ι->List ao) (R:ι->Prop) (ch:κ->List PanicEntry) (Lp:κ->List ao) (Rp:κ->Prop) (a_:List View) (hV:∀H ∈ a_,H ∈ Vs)
   (hC:∀w,Ws w (L1.flatMap ao.ids) L1 a_ w->Calls P f vs.toArray w λe w'=>(∃i,e = .returned (v i)/\R i/\Ws w (L1.flatMap ao.ids) (eS i) a_ w')\/(∃j,e = .panicked (ch j)/\Rp j/\Ws w (L1.flatMap ao.ids) (Lp j) a_ w'))
   (hp:∀j,Rp j->WE Q (.panic (ch j)) n ds l (Ws w0 F (Lp j++L2) Vs))
   (hr:∀i,R i->WL P ops Q n ds ((d,v i)::l) (Ws w0 F (eS i++L2) Vs) rest) :
   WL P ops Q n ds l (Ws w0 F L Vs) (⟨some d,.call ⟨.value (.func f),args,ts⟩,ty,pos,af,g⟩::rest):=by
 subst hL;refine WL.Ek hg hn hf ha v (λi w'=>R i/\Ws w0 F (eS i++L2) Vs w') (λc w'=>∃j,c=ch j/\Rp j/\Ws w0 F (Lp j++L2) Vs w') (λw hw=>(hC w (hw.self.bF hV)).mono λe w' h=>?_) (λi=>?_) (λc=>?_)
 · rcases h with ⟨i,he,hR,h⟩ | ⟨j,he,hR,h⟩
   · exact .inl ⟨i,he,hR,hw.back h⟩
   · exact .inr ⟨_,he,j,O,hR,hw.back h⟩
 · intro a w cY hw
   exact hr i hw.1 a w cY hw.2
 · rintro a w cY ⟨j,rfl,hR,hw⟩
   exact hp j hR a w cY hw
theorem WL.UZ {ι κ:Type} {f:FuncId} {cx:Operand} {eY:Array Value} {args:Array Operand} {ts:Array TypeId} {vs:List Value} (L1 L2:List ao) (hg:cF ops l g) (hn:Nat.blt d n=true) (hf:Enters P f) (rb:aB l cx=some (.func (.func f) #[] eY)) (ha:i_ l args.toList=some vs) (hL:L=L1++L2)
   (v:ι->Value) (eS:ι->List ao) (R:ι->Prop) (ch:κ->List PanicEntry) (Lp:κ->List ao) (Rp:κ->Prop) (a_:List View) (hV:∀H ∈ a_,H ∈ Vs)
   (hC:∀w,Ws w (L1.flatMap ao.ids) L1 a_ w->Calls P f (vs.toArray++eY) w λe w'=>(∃i,e = .returned (v i)/\R i/\Ws w (L1.flatMap ao.ids) (eS i) a_ w')\/(∃j,e = .panicked (ch j)/\Rp j/\Ws w (L1.flatMap ao.ids) (Lp j) a_ w'))
   (hp:∀j,Rp j->WE Q (.panic (ch j)) n ds l (Ws w0 F (Lp j++L2) Vs))
   (hr:∀i,R i->WL P ops Q n ds ((d,v i)::l) (Ws w0 F (eS i++L2) Vs) rest) :
   WL P ops Q n ds l (Ws w0 F L Vs) (⟨some d,.call ⟨.value cx,args,ts⟩,ty,pos,af,g⟩::rest):=by
 subst hL;refine WL.afw hg hn hf rb ha v (λi w'=>R i/\Ws w0 F (eS i++L2) Vs w') (λc w'=>∃j,c=ch j/\Rp j/\Ws w0 F (Lp j++L2) Vs w') (λw hw=>(hC w (hw.self.bF hV)).mono λe w' h=>?_) (λi=>?_) (λc=>?_)
 · rcases h with ⟨i,he,hR,h⟩ | ⟨j,he,hR,h⟩
   · exact .inl ⟨i,he,hR,hw.back h⟩
   · exact .inr ⟨_,he,j,O,hR,hw.back h⟩
 · intro a w cY hw
   exact hr i hw.1 a w cY hw.2
 · rintro a w cY ⟨j,rfl,hR,hw⟩
   exact hp j hR a w cY hw
theorem rh {W:World->Prop} {dd:Option Tmp} {t:TypeId} {x:Operand} {v:Value} (ht:P.concrete t=true) (hx:aB l x=some v):Yl P l W ⟨dd,.makeInterface t x,ty,pos,af,g⟩ (.iface t v):=
 λρ w aC _=>by
   have e:(Instr.makeInterface t v).run P w = .ok (.iface t v) w:=run_makeInterface (h:=ht) ..;simp [execOp,aC x v hx,e]
theorem WL.panic {x:Operand} {t:TypeId} {v:Value} {dd:Option Tmp} (hg:cF ops l g) (hx:aB l x=some (.iface t v)) (h:WE Q (.panic [⟨.iface t v,false,false⟩]) n ds l W):WL P ops Q n ds l W (⟨dd,.panic x,ty,pos,af,g⟩::rest):=by
 refine WL.step hg λa w ha hw K hK=>?_
 have:(execOp a.eval ⟨dd,.panic x,ty,pos,af,g⟩).run P w = .halt (.panic (.iface t v)) w:=by
   have e:(Instr.panic (.iface t v)).run P w = .halt (.panic (.iface t v)) w:=rfl;simp [execOp,ha.eval hx,e]
 simp only [Oper.wp,this,Oper.upon_panic];exact h a w ha hw
theorem WL.defer {cx:Operand} {f:FuncId} {eY:List Value} {ts:Array TypeId} (hg:cF ops l g) (rb:aB l cx=some (.func (.func f) #[] eY.toArray))
   (h:WL P ops Q n (⟨.fn (.func f) eY.toArray,#[]⟩::ds) l W rest):WL P ops Q n ds l W (⟨none,.defer ⟨.value cx,#[],ts⟩,ty,pos,af,g⟩::rest):=by
 refine WL.step hg λa w ha hw K hK=>?_
 have:(execOp a.eval ⟨none,.defer ⟨.value cx,#[],ts⟩,ty,pos,af,g⟩).run P w = .ok (.defer ⟨.fn (.func f) eY.toArray,#[]⟩) w:=by
   simp [execOp,resolve,ha.eval rb,Deferred.ofValue]
 simp only [Oper.wp,this,Oper.upon_defer];refine hK _ _ (h _ _ ⟨ha.size,?_,ha.fk⟩ hw)
 show _::a.defers=_
 rw [ha.defs]
theorem NU {f:FuncId} {fn:Func} {c:Code} {vs:List Value} {w:World} {R:Ending->World->Prop} (hf:P.funcs[f]? = some fn) (hb:fn.body=some c)
   (m:Nat) (hm:fn.ntmps=m) (hle:Nat.ble vs.length m=true) (h:WC P c (bodyPostD P fn R) m [] (y4 0 vs) (λw'=>w'=w)):Calls P f vs.toArray w R:=by
 refine calls_of_wp_defers hf hb (h _ _ ?_ O);have Ut:=Nat.le_of_ble_eq_true hle;subst hm;refine ⟨by simp; omega,O,λt v hv=>?_⟩;obtain ⟨_,h2⟩:=Nu vs 0 t v hv;simp only [Nat.sub_zero] at h2
 have av:t<vs.length:=by
   rcases Nat.lt_or_ge t vs.length with h | h
   · exact h
   · simp [List.getElem?_eq_none h] at h2
 simp [Array.getD_eq_getD_getElem?,Array.getElem?_append,av];simp [List.getElem?_eq_getElem av] at h2;exact h2
def Rs (P:Program) (fn:Func) (l:List (Nat×Value)) (W:World->Prop) (v:Value):Prop:=∀(tmps:Array Value) w,(∀t u,lk l t=some u->tmps.getD t undef=u)->W w->(results fn tmps).run P w = .ok v w
def pT (tmps:Array Value):ResultVar->Sem Value
 | .tmp t=>pure (tmps.getD t undef)
 | .cell a t=>do loadVar t (<-asAddr (tmps.getD a undef))
theorem IY (fn:Func) (tmps:Array Value):results fn tmps=(do let vs <-fn.results.mapM (pT tmps); pure (if h:vs.size=1 then vs[0] else .tuple vs)):=by
 have e:(λr:ResultVar=>match r with | .tmp t=>(pure (tmps.getD t undef):Sem Value) | .cell a t=>do loadVar t (<-asAddr (tmps.getD a undef)))=pT tmps:=by funext r; cases r<;>rfl
 rw [<-e]; rfl
def BE (P:Program) (l:List (Nat×Value)) (W:World->Prop) (r:ResultVar) (v:Value):Prop:=∀(tmps:Array Value) w,(∀t u,lk l t=some u->tmps.getD t undef=u)->W w->(pT tmps r).run P w = .ok v w
theorem gC {t:Nat} {v:Value} (h:lk l t=some v):BE P l W (.tmp t) v:=λtmps w ht _=>by simp only [pT,ht t v h,Sem.run_pure]
theorem oV {a b o:Nat} {t:TypeId} {v:Value} {ob:Obj} (i:Nat) (ha:lk l a=some (.pointer (some ⟨b,o,none⟩))) (hL:L[i]? = some (ah b ob)) (hc:fT ob o=some v) (ht:dQ P t=true):BE P l (Ws w0 F L Vs) (.cell a t) v:=λtmps w h hw=>by
 simp only [pT,h a _ ha,asAddr,Sem.run_bind,Sem.run_pure,Result.andThen_ok,Uu ht (cell_of_heap (hw.kn _ (dz hL)) hc)]
theorem cZ {a b o k:Nat} {t:TypeId} {ob:Obj} (i:Nat) (ha:lk l a=some (.pointer (some ⟨b,o,none⟩))) (hL:L[i]? = some (ah b ob)) (ht:gj P t=some k) (hl:(cellsIn ob o k).length=k):BE P l (Ws w0 F L Vs) (.cell a t) (.agg (cellsIn ob o k).toArray):=λtmps w h hw=>by
 have dr:(loadVar t ⟨b,o,none⟩).run P w = .ok (.agg (cellsIn ob o k).toArray) w:=IA ht hl λj v hj=>by
   have hk:w.heap[b]? = some ob:=hw.kn _ (dz hL);refine cell_of_heap hk ?_
   cases ob<;>simp [cellsIn,fT] at *
   rw [List.getElem?_take] at hj
   split at hj
   · simpa using hj
   · cases hj
 simp only [pT,h a _ ha,asAddr,Sem.run_bind,Sem.run_pure,Result.andThen_ok,dr]
theorem gR {fn:Func} {r:ResultVar} {v:Value} (hr:fn.results = #[r]) (h:BE P l W r v):Rs P fn l W v:=λtmps w ht hw=>by
 have h1:=h tmps w ht hw;simp [IY,hr,Array.mapM_eq_mapM_toList,List.mapM_cons,List.mapM_nil,h1]
theorem eZ {fn:Func} {r s:ResultVar} {v x:Value} (hr:fn.results = #[r,s]) (h:BE P l W r v) (h':BE P l W s x):Rs P fn l W (.tuple #[v,x]):=λtmps w ht hw=>by
 have h1:=h tmps w ht hw;have h2:=h' tmps w ht hw;simp [IY,hr,Array.mapM_eq_mapM_toList,List.mapM_cons,List.mapM_nil,h1,h2]
theorem WE.dA {fn:Func} {R:Ending->World->Prop} {v:Value} (hr:Rs P fn l W v) (h:∀w,W w->R (.returned v) w):WE (bodyPost P fn R) .ret n [] l W:=
 λa w ha hw=>bodyPost_ret (hr a.tmps w ha.fk hw) ha.defs (h w hw)
theorem WE.NV {fn:Func} {R:Ending->World->Prop} {f:FuncId} {eY:List Value} {W':World->Prop} {v:Value} (hf:Enters P f)
   (hC:∀w,W w->CallsD P f eY.toArray .returning w λe u' w'=>e = .returned (.tuple #[])/\u' = .returning/\W' w')
   (hr:Rs P fn l W' v) (h:∀w,W' w->R (.returned v) w):WE (bodyPostD P fn R) .ret n [⟨.fn (.func f) eY.toArray,#[]⟩] l W:=by
 intro a w ha hw
 show Leaves P fn a.tmps R a.defers .returning w
 rw [ha.defs];refine ⟨by simp,.func f,eY.toArray,f,eY.toArray,O,?_,(hC w hw).mono λe u' w' he=>?_⟩
 · simp only [invoke]
   simpa using hf eY.toArray w
 · obtain ⟨rfl,rfl,dE⟩:=he
   exact ⟨v,hr a.tmps w' ha.fk dE,h w' dE⟩
theorem WE.zg {fn:Func} {R:Ending->World->Prop} {f:FuncId} {eY:List Value} {W':World->Prop} {v pv:Value} (hf:Enters P f)
   (hC:∀w,W w->CallsD P f eY.toArray (.panicking [⟨pv,false,false⟩]) w λe u' w'=>e = .returned (.tuple #[])/\u' = .panicking [⟨pv,true,false⟩]/\W' w')
   (hr:Rs P fn l W' v) (h:∀w,W' w->R (.returned v) w):WE (bodyPostD P fn R) (.panic [⟨pv,false,false⟩]) n [⟨.fn (.func f) eY.toArray,#[]⟩] l W:=by
 intro a w ha hw
 show Leaves P fn a.tmps R a.defers (.panicking [⟨pv,false,false⟩]) w
 rw [ha.defs];refine ⟨by simp,.func f,eY.toArray,f,eY.toArray,O,?_,(hC w hw).mono λe u' w' he=>?_⟩
 · simp only [invoke]
   simpa using hf eY.toArray w
 · obtain ⟨rfl,rfl,dE⟩:=he
   exact ⟨v,hr a.tmps w' ha.fk dE,h w' dE⟩
theorem WE.NW {fn:Func} {R:Ending->World->Prop} {v:Value} (hr:Rs P fn l W v) (h:∀w,W w->R (.returned v) w):WE (bodyPostD P fn R) .ret n [] l W:=by
 intro a w ha hw
 show Leaves P fn a.tmps R a.defers .returning w
 rw [ha.defs];exact ⟨v,hr a.tmps w ha.fk hw,h w hw⟩
def U1 (u:FrameMode) (rv:Value) (u':FrameMode):Prop:=(u = .returning/\rv = .nilIface/\u' = .returning)\/∃v,u = .panicking [⟨v,false,false⟩]/\rv=v/\u' = .panicking [⟨v,true,false⟩]
theorem af3 {id:Nat} {o:Oper} {os:List Oper} {d:Nat} {y:Code} {pU:Frame} {cs:List Frame} {a:Act} {w:World} {rv:Value} {u':FrameMode} {Q:Exit->Act->World->Prop} {Qs:Exit->Act->List Frame->World->Prop}
   (NX:o.dst=some d) (NY:o.guard=none) (dr:(execOp a.eval o).run P w = .ok .recover w) (hu:U1 pU.mode rv u')
   (hQ:∀e a w,Q e a w->Qs e a ({ pU with mode:=u' }::cs) w)
   (h:wpList P (o::os).toArray (Exit.then (y.wp P Q) Q) os (a.put (some d) rv) w):(Code.seq (.region id (o::os).toArray false) y).wpS P Qs a (pU::cs) w:=by
 refine wpS_seq ?_;intro b k hb sZ;have U2:(o::os).toArray[0]? = some o:=rfl
 have af4:Region.wanted o (yielded (o::os).toArray a.tmps)=true:=by simp [Region.wanted,NY]
 have hg:=stepG_op (P:=P) (b:=b) (k:=k) (cs:=pU::cs) (w:=w) (rest:=List.range' 1 os.length) U2 af4;have hk:(b.at a (.inRegion (o::os).toArray (0::List.range' 1 os.length)::k)).kind = .deferred:=hb;have NZ:=tryRecover_deferred hk (pU::cs)
 have af5:∀v,(b.at a (.inRegion (o::os).toArray (0::List.range' 1 os.length)::k)).finish v=b.at (a.put (some d) v) (.inRegion (o::os).toArray (List.range' 1 os.length)::k):=by
   intro v; rw [Frame.finish_at,U2,<-NX]; rfl
 have af6:step P (lone (b.at a (.inRegion (o::os).toArray (0::List.range' 1 os.length)::k)) (pU::cs) w) = .next (lone (b.at (a.put (some d) rv) (.inRegion (o::os).toArray (List.range' 1 os.length)::k)) ({ pU with mode:=u' }::cs) w):=by
   refine step_lone_go ?_;rw [hg,<-af5];simp only [Frame.at] at NZ ⊢
   rcases hu with ⟨hm,rfl,rfl⟩ | ⟨v,hm,rfl,rfl⟩
   · simp [stepG.apply,dr,NZ,recoverD,hm]
     rw [<-hm]
   · simp [stepG.apply,dr,NZ,recoverD,hm]
 have hl:wpOps P (o::os).toArray (Exit.then (y.wp P Q) Q) (List.range' 1 os.length) (a.put (some d) rv) w:=by
   rw [wpOps_eq_wpList os 1 (λj=>by simp [Nat.add_comm 1 j])]; exact h
 obtain ⟨e,a',w',hq,af7⟩:=wp_ops _ _ _ hl b k ({ pU with mode:=u' }::cs)
 have hs0:step P (lone (b.at a (.code (.region id (o::os).toArray false)::k)) (pU::cs) w) = .next (lone (b.at a (.inRegion (o::os).toArray (0::List.range' 1 os.length)::k)) (pU::cs) w):=by
   have:=step_region (P:=P) (b:=b) (a:=a) (k:=k) (cs:=pU::cs) (w:=w) (ops:=(o::os).toArray) (id:=id);rw [this];simp [List.range_eq_range',List.range'_succ]
 refine ⟨e,a',_,w',?_,.of_steps (.head hs0 (.one af6)) af7⟩
 cases e with
 | normal=>exact wpS_of_wp (wp_mono hq λe a w h=>hQ e a w h)
 | _=>exact hQ _ _ _ hq
theorem BF {f:FuncId} {fn:Func} {id:Nat} {o:Oper} {os:List Oper} {d:Nat} {y:Code} {vs:List Value} {w:World} {rv:Value} {u u':FrameMode} {R:Ending->World->Prop} (hf:P.funcs[f]? = some fn) (hb:fn.body=some (.seq (.region id (o::os).toArray false) y))
   (m:Nat) (hm:fn.ntmps=m) (hle:Nat.ble vs.length m=true) (NX:o.dst=some d) (hdm:Nat.blt d m=true) (NY:o.guard=none) (gD:∀(ρ:Operand->Value),(execOp ρ o).run P w = .ok .recover w) (hu:U1 u rv u')
   (h:WL P (o::os).toArray (Exit.then (y.wp P (bodyPost P fn R)) (bodyPost P fn R)) m [] ((d,rv)::y4 0 vs) (λw'=>w'=w) os):CallsD P f vs.toArray u w λe u2 w'=>u2=u'/\R e w':=by
 refine callsD_of_wpS hf hb λpU cs hc=>?_;refine af3 (Q:=bodyPost P fn R) NX NY (gD _) (by rw [hc]; exact hu) (λe a w hq=>?_) (h _ _ ?_ O)
 · cases e with
   | normal=>exact ⟨hq.1,u',rfl,hq.2.choose,hq.2.choose_spec.1,rfl,hq.2.choose_spec.2⟩
   | ret=>exact ⟨hq.1,u',rfl,hq.2.choose,hq.2.choose_spec.1,rfl,hq.2.choose_spec.2⟩
   | panic ch=>exact ⟨hq.1,u',rfl,rfl,hq.2⟩
   | outgrown=>exact ⟨u',rfl,hq⟩
   | exit i=>exact hq
   | goto i=>exact hq
 · have Ut:=Nat.le_of_ble_eq_true hle
   subst hm
   have hA:Ag fn.ntmps [] (y4 0 vs) { tmps:=vs.toArray++Array.replicate (fn.ntmps-vs.toArray.size) undef,defers:=[] }:=by
     refine ⟨by simp; omega,O,λt v hv=>?_⟩;obtain ⟨_,h2⟩:=Nu vs 0 t v hv;simp only [Nat.sub_zero] at h2
     have av:t<vs.length:=by
       rcases Nat.lt_or_ge t vs.length with h | h
       · exact h
       · simp [List.getElem?_eq_none h] at h2
     simp [Array.getD_eq_getD_getElem?,Array.getElem?_append,av];simp [List.getElem?_eq_getElem av] at h2;exact h2
   exact hA.put hdm rv
theorem N0 {t u:TypeId} {x:Operand} {W:World->Prop} {dd:Option Tmp} (ht:P.underlying t=some (.interface (P.methodsAt t))) (hx:aB l x=some .nilIface):Yl P l W ⟨dd,.binOp .neq t x (.const .nilIface) u,ty,pos,af,g⟩ (.bool false):=by
 intro ρ w aC _;have hy:ρ (.const .nilIface) = .nilIface:=aC _ _ rfl;simp only [execOp,aC x _ hx,hy,Sem.run_bind];simp [eqGuard_nil_constR,run_neq_nil_nil (h:=ht)]
theorem U3 {t u s:TypeId} {x:Operand} {v:Value} {W:World->Prop} {dd:Option Tmp} (ht:P.underlying t=some (.interface (P.methodsAt t))) (hx:aB l x=some (.iface s v)):Yl P l W ⟨dd,.binOp .neq t x (.const .nilIface) u,ty,pos,af,g⟩ (.bool true):=by
 intro ρ w aC _;have hy:ρ (.const .nilIface) = .nilIface:=aC _ _ rfl
 have hg:(eqGuard .neq t x (.const .nilIface) (.iface s v) .nilIface)=pure ():=by cases x<;>rfl
 simp only [execOp,aC x _ hx,hy,Sem.run_bind,hg];simp [run_neq_held_nil (h:=ht)]
end
section
variable {P:Program} {l:List (Nat×Value)} {W:World->Prop} {d:Option Tmp} {ty:TypeId} {pos:String} {af:Array Edge} {g:Option (Nat×Bool)}
theorem U4 (s:List UInt8) (i j:Nat):Value.string ((ByteArray.mk s.toArray).extract i j)=st ((s.take j).drop i):=by
 have e:((ByteArray.mk s.toArray).extract i j)=⟨((s.take j).drop i).toArray⟩:=by
   apply ByteArray.ext;simp [List.drop_take]
 rw [e]; rfl
theorem N1 {t:TypeId} {x y:Operand} {s:List UInt8} {k:IntKind} {h:Int} (ht:P.underlying t=some .string) (hx:aB l x=some (st s)) (hy:aB l y=some (.int k h)) (h0:0<=h) (h1:h<=s.length):Yl P l W ⟨d,.slice t x none (some y) none,ty,pos,af,g⟩ (st (s.take h.toNat)):=by
 intro ρ w aC _;have e:=run_slice_string_h (P:=P) w t ⟨s.toArray⟩ ht k h h0 (by rw [zd]; exact h1)
 have e2:(Instr.sliceAt t (.string ⟨s.toArray⟩) none (some (.int k h)) none).run P w = .ok (st (s.take h.toNat)) w:=by
   rw [run_sliceAt_string (h:=ht),e,U4]; simp
 simp [execOp,aC x _ hx,aC y _ hy,st,e2]
theorem IZ {t:TypeId} {x y:Operand} {s:List UInt8} {k:IntKind} {h:Int} (ht:P.underlying t=some .string) (hx:aB l x=some (st s)) (hy:aB l y=some (.int k h)) (h0:0<=h) (h1:h<=s.length):Yl P l W ⟨d,.slice t x (some y) none none,ty,pos,af,g⟩ (st (s.drop h.toNat)):=by
 intro ρ w aC _;have e:=run_slice_string_l (P:=P) w t ⟨s.toArray⟩ ht k h h0 (by rw [zd]; exact h1)
 have e2:(Instr.sliceAt t (.string ⟨s.toArray⟩) (some (.int k h)) none none).run P w = .ok (st (s.drop h.toNat)) w:=by
   rw [run_sliceAt_string (h:=ht),e,U4,zd,List.take_length]
 simp [execOp,aC x _ hx,aC y _ hy,st,e2]
theorem af' {t u:TypeId} {x y:Operand} {k2:IntKind} {n:Int} (m:Nat) (hx:aB l x=some (.int .i64 n)) (hy:aB l y=some (.int k2 (m:Int))) (hm:m<=64):Yl P l W ⟨d,.binOp .shl t x y u,ty,pos,af,g⟩ (.int .i64 (IntKind.i64.wrap (n*2 ^ m))):=by
 intro ρ w aC _
 have e:min m IntKind.i64.bits=m:=by simp [IntKind.bits]; omega
 have:¬(m:Int)<0:=by omega
 have e1:(binOp .shl t (.int .i64 n) (.int k2 (m:Int))).run P w = .ok (.int .i64 (IntKind.i64.wrap (n*2 ^ (min (m:Int).toNat IntKind.i64.bits)))) w:=by
   simp only [binOp,Op.shift,if_neg this,Sem.run_pure]
 rw [Int.toNat_natCast,e] at e1;simp only [execOp,aC x _ hx,aC y _ hy,Sem.run_bind,show eqGuard .shl t x y (.int .i64 n) (.int k2 (m:Int))=pure () from rfl,Sem.run_pure,Result.andThen_ok,e1]
theorem af_ (a b:Int) (h:a % 18446744073709551616=b % 18446744073709551616):IntKind.i64.wrap a=IntKind.i64.wrap b:=by
 rw [IntKind.wrap_i64,IntKind.wrap_i64]; omega
theorem aga (n:Int) (b:Nat) (hb:b<256):IntKind.i64.wrap ((BitVec.ofInt 64 (IntKind.i64.wrap (n*2 ^ 8))||| BitVec.ofInt 64 (b:Int)).toNat:Int)=IntKind.i64.wrap (n*256+b):=by
 have h1:(BitVec.ofInt 64 (IntKind.i64.wrap (n*2 ^ 8))).toNat=((n % 72057594037927936).toNat) <<< 8:=by
   rw [BitVec.toNat_ofInt,Nat.shiftLeft_eq]
   have e:IntKind.i64.wrap (n*2 ^ 8) % ((2 ^ 64:Nat):Int)=(n % 72057594037927936)*256:=by
     rw [IntKind.wrap_i64]; omega
   rw [e]; omega
 have h2:(BitVec.ofInt 64 (b:Int)).toNat=b:=by
   rw [BitVec.toNat_ofInt];omega
 rw [BitVec.toNat_or,h1,h2,<-Nat.shiftLeft_add_eq_or_of_lt (by omega),Nat.shiftLeft_eq];apply af_;omega
theorem agb {t u:TypeId} {x y:Operand} {n:Int} {b:Nat} (hx:aB l x=some (.int .i64 (IntKind.i64.wrap (n*2 ^ 8)))) (hy:aB l y=some (.int .i64 (b:Int))) (hb:b<256):Yl P l W ⟨d,.binOp .or t x y u,ty,pos,af,g⟩ (.int .i64 (IntKind.i64.wrap (n*256+b))):=by
 intro ρ w aC _;have e:(binOp .or t (.int .i64 (IntKind.i64.wrap (n*2 ^ 8))) (.int .i64 (b:Int))).run P w = .ok (.int .i64 (IntKind.i64.wrap ((BitVec.ofInt 64 (IntKind.i64.wrap (n*2 ^ 8))||| BitVec.ofInt 64 (b:Int)).toNat:Int))) w:=rfl;rw [aga n b hb] at e;simp only [execOp,aC x _ hx,aC y _ hy,Sem.run_bind,show eqGuard .or t x y (.int .i64 (IntKind.i64.wrap (n*2 ^ 8))) (.int .i64 (b:Int))=pure () from rfl,Sem.run_pure,Result.andThen_ok,e]
end
section
variable {P:Program} {ops:Array Oper} {Q:Exit->Act->World->Prop} {n:Nat} {ds:List Deferred} {l:List (Nat×Value)} {w0:World} {F:List Nat} {L:List ao} {Vs:List View}
 {rest:List Oper} {d:Nat} {ty:TypeId} {pos:String} {af:Array Edge} {g:Option (Nat×Bool)}
theorem WL.s2b {s t e:TypeId} {x:Operand} {bs:List UInt8} (hg:cF ops l g) (hn:Nat.blt d n=true) (hs:P.underlying s=some .string) (ht:P.underlying t=some (.slice e)) (he:P.underlying e=some (.int .u8)) (hx:aB l x=some (st bs))
   (h:∀b c k,WL P ops Q n ds ((d,.slice (some ⟨b,0,none⟩) bs.length c)::l) (Ws w0 F (ah b (.cells (bs.map bV++List.replicate k (Value.int .u8 0)).toArray e (bs.length+k,bs.length+k+1))::L) Vs) rest) :
   WL P ops Q n ds l (Ws w0 F L Vs) (⟨some d,.convert s t x,ty,pos,af,g⟩::rest):=by
 refine WL.step hg λa w ha hw K hK=>?_;have dr:=Lib.run_convert_string_bytes (P:=P) w s t e ⟨bs.toArray⟩ hs ht he
 have lS:(execOp a.eval ⟨some d,.convert s t x,ty,pos,af,g⟩).run P w = .ok (.value (.slice (some ⟨w.heap.size,0,none⟩) bs.length (grownCap w bs.length 0 e))) (Lib.bytesWorld w e ⟨bs.toArray⟩):=by
   rw [zd] at dr;simp only [execOp,ha.eval hx,st,Sem.run_bind,dr,Result.andThen_ok,Sem.run_pure]
 simp only [Oper.wp,lS,Oper.upon_value];refine hK _ _ (h w.heap.size _ (grownCap w bs.length 0 e-bs.length) _ _ (ha.put hn _) ?_)
 have hc:Lib.bytesCells w e ⟨bs.toArray⟩=(bs.map bV++List.replicate (grownCap w bs.length 0 e-bs.length) (Value.int .u8 0)).toArray:=by
   unfold Lib.bytesCells;rw [zd];apply Array.ext';simp [bV]
 have kh:(Lib.bytesCells w e ⟨bs.toArray⟩).size=bs.length+(grownCap w bs.length 0 e-bs.length):=by rw [hc]; simp
 have U5:=Lib.bytesWorld_at_new w e ⟨bs.toArray⟩;rw [kh,hc] at U5
 have:=Ws.xi (L:=[]) (L':=[ah w.heap.size (.cells (bs.map bV++List.replicate (grownCap w bs.length 0 e-bs.length) (Value.int .u8 0)).toArray e (bs.length+(grownCap w bs.length 0 e-bs.length),bs.length+(grownCap w bs.length 0 e-bs.length)+1))]) (L2:=L) (w':=Lib.bytesWorld w e ⟨bs.toArray⟩) (by simpa using hw)
   ⟨by unfold Lib.bytesWorld World.freeze; split<;>rfl,by unfold Lib.bytesWorld World.freeze; split<;>rfl,by unfold Lib.bytesWorld World.freeze; split<;>rfl,by rw [Lib.bytesWorld_size]; omega,λj hj _=>Lib.bytesWorld_at_old w e _ j hj⟩
   (by intro A hA; simp at hA; subst hA; exact U5) (by simp [ah]) (by simp [ah])
 simpa using this
end
abbrev bt {α:Type} (e:TypeId) (k:Nat) (f:α->List Value) (a:Option Addr) (c:Nat) (xs:List α):ao:=aY e k (.slice a xs.length c) xs.length (xs.flatMap f)
section
variable {P:Program} {ops:Array Oper} {Q:Exit->Act->World->Prop} {n:Nat} {ds:List Deferred} {l:List (Nat×Value)} {w0:World} {F:List Nat} {L:List ao} {Vs:List View}
 {rest:List Oper} {d:Nat} {ty:TypeId} {pos:String} {af:Array Edge} {g:Option (Nat×Bool)}
theorem LA {α:Type} {f:α->List Value} {t e:TypeId} {z:Value} {size bytes cc:Nat} {s y:Operand} {a:Option Addr} {c bb:Nat} {xs:List α} {T:TypeId} {fz:Nat×Nat} (x:α) (i j:Nat) (hg:cF ops l g) (hn:Nat.blt d n=true) (hE:e9 P t e z size bytes)
   (hs:aB l s=some (.slice a xs.length c)) (hy:aB l y=some (.slice (some ⟨bb,0,none⟩) 1 cc)) (hL:L[i]? = some (bt e size f a c xs)) (hB:L[j]? = some (ah bb (.cells (f x).toArray T fz)))
   (hl:(f x).length=size) (h1:(f x).all (·.oneCell')=true) (oR:xs.length+1<=9223372036854775807) (oS:(xs.length+1)*bytes<=140737488355328)
   (h:∀a' c',WL P ops Q n ds ((d,.slice a' (xs++[x]).length c')::l) (Ws w0 F (L.set i (bt e size f a' c' (xs++[x]))) Vs) rest) :
   WL P ops Q n ds l (Ws w0 F L Vs) (⟨some d,.call ⟨.builtin .append,#[s,y],#[t,t]⟩,ty,pos,af,g⟩::rest):=by
 refine WL.append i hg hn hE hs hy hL (news:=f x) (k:=1) (by rw [Nat.one_mul]; exact hl) (λw hw k u hu=>UW hw j hB (k:=k) (by simpa using hu)) (λu hu=>List.all_eq_true.1 h1 u hu) (by unfold maxLen; omega) oS λv' _=>?_
 have e1:(xs.flatMap f)++f x=(xs++[x]).flatMap f:=by simp
 have e2:xs.length+1=(xs++[x]).length:=by simp
 rw [e1,e2];have hi:i<L.length:=(List.getElem?_eq_some_iff.1 hL).1;refine WL.NT i (m:=(xs++[x]).length) (xs:=(xs++[x]).flatMap f) (e:=e) (size:=size) (v:=v') (by simp [hi]) λa' c' hv=>?_;subst hv;exact h a' c'
end
theorem Ws.kS {α:Type} {rd:View->Nat->Nat->α->Prop} {f:α->List Value} {k:Nat} {w0 w:World} {L:List ao} {Vs:List View} (h:Ws w0 [] L Vs w) (i:Nat) {a:Option Addr} {c:Nat} {e:TypeId} {xs:List α} (hL:L[i]? = some (bt e k f a c xs))
   (hf:∀x,(f x).length=k) (d_:∀H b o x,aR H b o (f x)->rd H b o x):Sl rd k (nv w0 w) a c xs:=by
 rcases h.nvs i hL with ⟨h1,h2⟩ | ⟨b,c',h1,h2,h3,h4⟩
 · injection h1 with ha hl hc
   subst ha hc;have:xs=[]:=List.eq_nil_of_length_eq_zero (by omega);subst this;exact Sl.nil
 · injection h1 with ha hl hc
   subst ha hc;refine ⟨h2,by unfold maxLen at h3; omega,by simp,λi x hx=>⟨b,0,O,d_ _ _ _ _ λj v hv=>?_⟩⟩
   have hj:j<k:=by have:=(List.getElem?_eq_some_iff.1 hv).1; rw [hf] at this; exact this
   rw [Nat.zero_add];exact h4 _ _ (by rw [ve hf hx hj]; exact hv)
theorem Ws.agd {α:Type} {rd:View->Nat->Nat->α->Prop} {f:α->List Value} {k:Nat} {w0 w:World} {F:List Nat} {L:List ao} {Vs:List View} (h:Ws w0 F L Vs w) (i:Nat) {a:Option Addr} {c:Nat} {e:TypeId} {xs:List α} (hL:L[i]? = some (bt e k f a c xs))
   (hf:∀x,(f x).length=k) (d_:∀H b o x,aR H b o (f x)->rd H b o x):Sl rd k (hv w) a c xs:=by
 obtain ⟨h1,h2⟩:=(h.kn _ (dz hL):w.ownsRow 0 e k _ xs.length (xs.flatMap f))
 rcases h2 with ⟨h3,h4⟩ | ⟨b,cap,cur,h5,_,hb,lR,hc,hs,ht⟩
 · injection h3 with ha hl hc
   subst ha hc;have:xs=[]:=List.eq_nil_of_length_eq_zero (by omega);subst this;exact Sl.nil
 · injection h5 with ha hl mZ
   subst ha mZ;refine ⟨lR,by unfold maxLen at hc; omega,by simp,λi x hx=>⟨b,0,O,d_ _ _ _ _ λj v hv=>?_⟩⟩
   have hj:j<k:=by have:=(List.getElem?_eq_some_iff.1 hv).1; rw [hf] at this; exact this
   have h6:(xs.flatMap f)[i*k+j]? = some v:=by rw [ve hf hx hj]; exact hv
   rw [<-ht,List.getElem?_take] at h6
   split at h6
   · refine IP hb ?_
     simpa [fT] using h6
   · cases h6
def ri (rs:List ResultVar) (d:Option Tmp):Bool:=match d with
 | none=>true
 | some d=>rs.all λr=>match r with | .tmp t=>!(Nat.beq d t) | .cell a _=>!(Nat.beq d a)
theorem age {r:ResultVar} {d:Nat} {v:Value} {a:Act} (h:(match r with | .tmp t=>!(Nat.beq d t) | .cell a _=>!(Nat.beq d a))=true):pT (a.put (some d) v).tmps r=pT a.tmps r:=by
 have key:∀t,(!(Nat.beq d t))=true->(a.put (some d) v).tmps.getD t undef=a.tmps.getD t undef:=λt ht=>by
   have de:d≠t:=λe=>by subst e; simp at ht
   simp only [Act.put,Array.getD_eq_getD_getElem?];rw [Array.getElem?_setIfInBounds_ne de]
 cases r with
 | tmp t=>simp only [pT,key t h]
 | cell x _=>simp only [pT,key x h]
theorem agf {fn:Func} {rs:List ResultVar} (hr:fn.results=rs.toArray) {d:Option Tmp} {v:Value} {a:Act} (h:ri rs d=true):results fn (a.put d v).tmps=results fn a.tmps:=by
 cases d with
 | none=>rfl
 | some d=>
   simp only [ri,List.all_eq_true] at h
   have e:∀l:List ResultVar,(∀r ∈ l,r ∈ rs)->l.mapM (pT (a.put (some d) v).tmps)=l.mapM (pT a.tmps):=by
     intro l
     induction l with
     | nil=>intro _; rfl
     | cons x l ih=>
       intro hl;rw [List.mapM_cons,List.mapM_cons,age (h x (hl x (by simp))),ih λr hr=>hl r (by simp [hr])]
   rw [IY,IY,hr,Array.mapM_eq_mapM_toList,Array.mapM_eq_mapM_toList,e _ λr hr=>by simpa using hr]
theorem N2 {P:Program} {fn:Func} {rs:List ResultVar} {R:Ending->World->Prop} (hr:fn.results=rs.toArray) {d:Option Tmp} {v:Value} {a:Act} (h:ri rs d=true):∀(ds:List Deferred) (u:FrameMode) (w:World),Leaves P fn (a.put d v).tmps R ds u w->Leaves P fn a.tmps R ds u w
 | [],.returning,w,hl=>by
   simp only [Leaves] at hl ⊢;rw [agf hr h] at hl;exact hl
 | [],.panicking _,_,hl=>hl
 | [],.run,_,hl=>hl
 | x::ds,u,w,hl=>by
   obtain ⟨h1,fv,cap,f,args,h2,h3,h4⟩:=hl;refine ⟨h1,fv,cap,f,args,h2,h3,h4.mono λe u' w' he=>?_⟩
   cases e with
   | returned v=>exact N2 hr h ds _ _ he
   | panicked ch=>exact N2 hr h ds _ _ he
   | outgrown=>exact he
theorem zh {P:Program} {fn:Func} (rs:List ResultVar) {R:Ending->World->Prop} (hr:fn.results=rs.toArray) {d:Option Tmp} {v:Value} {a:Act} {c:List PanicEntry} {w:World} (h:ri rs d=true) (hl:bodyPostD P fn R (.panic c) (a.put d v) w):bodyPostD P fn R (.panic c) a w:=by
 have e:(a.put d v).defers=a.defers:=by cases d<;>rfl
 have hl:Leaves P fn (a.put d v).tmps R (a.put d v).defers (.panicking c) w:=hl;rw [e] at hl;exact N2 hr h _ _ _ hl
section
variable {P:Program} {md:Region.Mode} {ops:Array Oper} {C:World->Prop} {Q:Exit->Act->World->Prop}
def BG (ok:Option Tmp->Bool) (ops:Array Oper):Bool:=ops.toList.all λo=>ok o.dst
theorem U6 {ok:Option Tmp->Bool} (h:BG ok ops=true) {i:Nat} {o:Oper} (ho:ops[i]? = some o):ok o.dst=true:=by
 refine List.all_eq_true.1 h o ?_
 have:ops.toList[i]? = some o:=by simpa using ho
 exact List.mem_of_getElem? this
theorem N3 {ok:Option Tmp->Bool} (aJ:BG ok ops=true) (hs:Region.noSelect ops=true) (hQ:∀c a w d v,ok d=true->Q (.panic c) (a.put d v) w->Q (.panic c) a w):∀(ord:List (Nat×Bool)) (listed:Array Bool) (a:Act) (w:World),
   nV md ops ord listed=true->nW P ops C Q ord a w->ra P md ops C Q ord.length listed a w
 | [],listed,a,w,hB,h=>⟨h.1,by simpa [nV] using hB,h.2⟩
 | (i,true)::r,listed,a,w,hB,h=>by
   simp only [nV,cond_true,Bool.and_eq_true] at hB;obtain ⟨hC,o,v,ho,hy,h⟩:=h
   exact ND ho (Region.noSelect_spec hs) (λc a w=>hQ c a w o.dst v (U6 aJ ho)) r.length listed a w (Region.free_spec ho hB.1.2) (by simpa using hB.1.1) hy hC
     (N3 aJ hs hQ r _ _ _ hB.2 h)
 | (i,false)::r,listed,a,w,hB,h=>by
   simp only [nV,cond_false,Bool.and_eq_true,beq_iff_eq] at hB;refine ⟨h.1,λhe=>(by rw [he] at hB; cases hB.1),λj hj=>?_⟩;rw [hB.1] at hj;simp at hj;subst hj;exact wpOp_mono (λa' w' h'=>N3 aJ hs hQ r _ _ _ hB.2 h') h.2
variable {n:Nat} {ds:List Deferred} {l:List (Nat×Value)} {W:World->Prop}
def outs:List Nat->List ao->List ao
 | [],L=>L
 | i::r,L=>outs r (df i L)
theorem Wo {w0 w:World} {F:List Nat} {L:List ao} {Vs:List View} (i:Nat) (h:Ws w0 F L Vs w):Ws w0 F (df i L) Vs w:=Ws.out i h
theorem Wt {w0 w:World} {F:List Nat} {L:List ao} {Vs:List View} (n:Nat) (h:Ws w0 F L Vs w):Ws w0 F (L.take n) Vs w:=Ws.vd (L':=L.drop n) (by rw [List.take_append_drop]; exact h)
theorem Wd {w0 w:World} {F:List Nat} {L:List ao} {Vs:List View} (n:Nat) (h:Ws w0 F L Vs w):Ws w0 F (L.drop n) Vs w:=Ws.drop (L:=L.take n) (by rw [List.take_append_drop]; exact h)
theorem Wv {w0 w:World} {F:List Nat} {L:List ao} {Vs:List View} (n:Nat) (h:Ws w0 F L Vs w):Ws w0 F L (Vs.drop n) w:=Ws.bF h λ_ hm=>List.mem_of_mem_drop hm
theorem Ws.f {w0 w:World} {F:List Nat} {L:List ao} {Vs:List View} (i:Nat) {A:ao} (h:Ws w0 F L Vs w) (hA:L[i]? = some A):Ws w0 F (A::df i L) Vs w:=h.perm (nU i L hA)
theorem Wp {w0:World} {F:List Nat} {L:List ao} {Vs:List View} (i:Nat):∀w,Ws w0 F L Vs w->Ws w0 F (df i L) Vs w:=λ_ h=>Wo i h
theorem bR {w0:World} {F:List Nat} {L:List ao} {Vs:List View} (is:List Nat):∀w,Ws w0 F L Vs w->Ws w0 F (outs is L) Vs w:=λ_ h=>by
 induction is generalizing L with
 | nil=>exact h
 | cons i r ih=>exact ih (Wo i h)
theorem WC.EI {id:Nat} {os:List Oper} {w0:World} {F:List Nat} {L:List ao} {Vs:List View} (ok:Option Tmp->Bool) (is:List Nat) (ord:List (Nat×Bool)) (hm:P.follows .mixedOrders=true) (aJ:BG ok os.toArray=true) (hB:(Region.noSelect os.toArray&&(ord.length==os.toArray.size&&xv os ord 0))=true)
   (hQ:∀c a w d v,ok d=true->Q (.panic c) (a.put d v) w->Q (.panic c) a w) (h:WD P os.toArray (Ws w0 F (outs is L) Vs) Q n ds l (Ws w0 F L Vs) ord):WC P (.region id os.toArray true) Q n ds l (Ws w0 F L Vs):=by
 intro a w ha hw;have hB:=NO hB;simp only [Bool.and_eq_true,beq_iff_eq] at hB;have:=IM (md:=.any) _ _ _ _ (N3 aJ hB.1 hQ ord _ a w.drew hB.2.2 (h a w.drew ha hw.drew));rw [hB.2.1] at this;exact wp_region_any hm this
theorem WD.skip {r:List (Nat×Bool)} {i d:Nat} {op:Op} {ty:TypeId} {pos:String} {af:Array Edge} {j:Nat} {b:Bool} {oj:Oper} {dj:Nat} (hi:ops[i]? = some ⟨some d,op,ty,pos,af,some (j,b)⟩) (hn:Nat.blt d n=true)
   (hj:ops[j]? = some oj) (D9:oj.dst=some dj) (u6:Nat.blt dj n=true) (hb:lk l dj=some (.bool (!b)))
   (hC:∀w,W w->C w) (h:WD P ops C Q n ds ((d,undef)::l) W r):WD P ops C Q n ds l W ((i,true)::r):=by
 intro a w ha hw;have hv:a.tmps.getD dj undef = .bool (!b):=ha.fk dj _ hb
 have av:dj<a.tmps.size:=by rw [ha.size]; exact Nat.le_of_ble_eq_true u6
 have u7:a.tmps[dj]? = some (.bool (!b)):=by
   rw [Array.getD_eq_getD_getElem?,Array.getElem?_eq_getElem av] at hv;rw [Array.getElem?_eq_getElem av]
   simpa using hv
 have D_:yielded ops a.tmps j=some (!b):=by simp [yielded,hj,D9,u7]
 exact ⟨hC w hw,_,undef,hi,.inr ⟨by simp [Region.wanted,D_],O⟩,h _ _ (ha.put hn undef) hw⟩
theorem WE.front {w0:World} {F:List Nat} {L:List ao} {Vs:List View} {e:Exit} {A:ao} (i:Nat) (hL:L[i]? = some A) (h:WE Q e n ds l (Ws w0 F (A::df i L) Vs)):WE Q e n ds l (Ws w0 F L Vs):=
 WE.world (λ_ hw=>hw.perm (nU i L hL)) h
theorem s0 {w0:World} {F:List Nat} {L:List ao} {Vs:List View} {f:FuncId} {args:Array Value} {u u':FrameMode} (L1 L2 eS:List ao) (hL:L=L1++L2)
   (hC:∀w,Ws w (L1.flatMap ao.ids) L1 [] w->CallsD P f args u w λe u2 w'=>u2=u'/\(e = .returned (.tuple #[])/\Ws w (L1.flatMap ao.ids) eS [] w')) :
   ∀w,Ws w0 F L Vs w->CallsD P f args u w λe u2 w'=>e = .returned (.tuple #[])/\u2=u'/\Ws w0 F (eS++L2) Vs w':=by
 intro w hw;subst hL;exact (hC w (hw.self.bF (by simp))).mono λe u2 w' ⟨h1,h2,h3⟩=>⟨h2,h1,hw.back h3⟩
end
open Go.ChangeShapes Go.WideShapes Go.ChangeAt Go.RowKit Go.Joins Go.Deep
theorem U7 {α:Type} (p:Nat->α->Prop):∀n,(∀i,i<n->∃x,p i x)->∃l:List α,l.length=n/\∀(i:Nat) (x:α),l[i]? = some x->p i x
 | 0,_=>⟨[],rfl,by simp⟩
 | n+1,h=>by
   obtain ⟨l,hl,hp⟩:=U7 p n λi hi=>h i (by omega);obtain ⟨x,hx⟩:=h n (by omega);refine ⟨l++[x],by simp [hl],λi y hy=>?_⟩
   rcases Nat.lt_trichotomy i n with h1 | h1 | h1
   · rw [List.getElem?_append_left (by omega)] at hy; exact hp i y hy
   · subst h1
     rw [List.getElem?_append_right (by omega),hl] at hy;simp at hy; subst hy; exact hx
   · rw [List.getElem?_eq_none (by simp; omega)] at hy; cases hy
theorem N4 {w:World} {b o:Nat} {v:Value} (h:w.cell? ⟨b,o,none⟩=some v):vc (hv w) b o=some v:=by
 unfold vc hv;unfold World.cell? at h
 cases hb:w.heap[b]? with
 | none=>simp [hb] at h
 | some ob=>cases ob<;>simp [hb,fT] at h ⊢<;>exact h
inductive Sh where
 | int
 | str
 | bool
deriving DecidableEq
def Sh.fit:Sh->Value->Prop
 | .int,v=>∃k:Int,v = .int .i64 k/\-9223372036854775808<=k/\k<=9223372036854775807
 | .str,v=>∃l:List UInt8,v=st l/\l.length<=9223372036854775807
 | .bool,v=>∃b,v = .bool b
def N5 (P:Program) (t:TypeId):Option Sh:=match P.underlying t with
 | some (.int .i64)=>some .int
 | some .string=>some .str
 | some .bool=>some .bool
 | _=>none
def pV (P:Program):Nat->List Field->Bool
 | _,[]=>true
 | i,f::r=>Nat.beq f.offset i&&(Nat.beq (P.cellsOf f.type) 1&&pV P (i+1) r)
section
variable {P:Program} {H:Type} {enc:TypeId×Value->H} {w:World} {base:Nat} {spare:Nat->Bool} {held:Bool}
theorem agh {t:TypeId} {s:Sh} {fuel:Nat} {v:Value} {x:DataW H×List MemPlace} (hs:N5 P t=some s) (h:DataW.trod enc P w base spare held fuel t [v]=some x):s.fit v:=by
 unfold N5 at hs
 cases hu:P.underlying t with
 | none=>simp [hu] at hs
 | some d=>
   cases d<;>simp [hu] at hs
   case int k=>
     cases k<;>simp at hs
     subst hs;obtain ⟨n,e,_,hw⟩:=DataW.trod_int hu h
     injection e with e _
     subst e;refine ⟨n,O,?_⟩;simp [Lit.wf,IntKind.min,IntKind.max,IntKind.signed,IntKind.bits] at hw;omega
   case string=>
     subst hs;obtain ⟨s,e,_,hw⟩:=DataW.trod_string hu h
     injection e with e _
     subst e;exact ⟨s.data.toList,by simp [st],by unfold maxLen at hw; simpa using hw⟩
   case bool=>
     subst hs;obtain ⟨b,e,_⟩:=DataW.trod_bool hu h
     injection e with e _
     exact ⟨b,e⟩
theorem open_int {r:Reach} {b0:Nat} {t:TypeId} {v:Value} {d:DataW H} {p:List MemPlace} (hu:P.underlying t=some (.int .i64)) (xw:Value.okWide P w r b0 t v) (h:DataW.Trod enc P w base spare held t v d p) :
   ∃k:Int,v = .int .i64 k/\-9223372036854775808<=k/\k<=9223372036854775807:=by
 obtain ⟨n,rfl⟩:=okWide_int hu xw;obtain ⟨fuel,h⟩:=h;exact agh (s:=.int) (by simp [N5,hu]) h
end
end Go.Bw
end
section
namespace Go.Bw
set_option linter.unnecessarySimpa false
open Go Go.RowKit
section
variable {P:Program} {l:List (Nat×Value)} {W:World->Prop} {d:Option Tmp} {ty:TypeId} {pos:String} {af:Array Edge} {g:Option (Nat×Bool)}
theorem U8 {t:TypeId} {x y:Operand} {a:Option Addr} {m c s:Nat} {k:IntKind} {h:Int} (n:Nat) (hs:eo P t=some s) (hx:aB l x=some (.slice a m c)) (mo:∀p,a=some p->p.spot=none) (hy:aB l y=some (.int k h)) (hh:h=(n:Int)) (h1:n<=c) :
   Yl P l W ⟨d,.slice t x none (some y) none,ty,pos,af,g⟩ (.slice a n c):=by
 subst hh;exact afo hs hx mo hy (by omega) (by omega)
theorem U9 {t:TypeId} {x y:Operand} {a:Option Addr} {m c s:Nat} {k:IntKind} {h:Int} (n:Nat) (hs:eo P t=some s) (hx:aB l x=some (.slice a m c)) (hy:aB l y=some (.int k h)) (hh:h=(n:Int)) (h1:n<=m) (h2:m<=c) :
   Yl P l W ⟨d,.slice t x (some y) none none,ty,pos,af,g⟩ (.slice (if c-n=0 then a else a.map (·.add (n*s))) (m-n) (c-n)):=by
 intro ρ w aC _;subst hh;unfold eo at hs
 cases hu:P.underlying t with
 | none=>simp [hu] at hs
 | some dd=>
   cases dd<;>simp [hu] at hs
   rename_i e;obtain ⟨inf,hi,rfl⟩:=hs;simp [execOp,aC x _ hx,aC y _ hy,Instr.sliceAt,Instr.slice,Instr.sliceBounds,Instr.sliceBound,asIntOf,run_underlying hu,sizeOf,typeInfo,hi,h1]
   by_cases N6:c=n
   · subst N6; simp
   · have:¬c-n=0:=by omega
     simp [N6,this]
end
theorem Sl.drop {α:Type} {rd:View->Nat->Nat->α->Prop} {k:Nat} {H:View} {a:Option Addr} {c:Nat} {l:List α} (h:Sl rd k H a c l) (n:Nat) (hn:n<=l.length):Sl rd k H (if c-n=0 then a else a.map (·.add (n*k))) (c-n) (l.drop n):=by
 have hc:=h.cap;refine ⟨by simp; omega,by have:=h.max; omega,?_,λi x hx=>?_⟩
 · intro p hp ai
   split at hp
   · omega
   · cases a with
     | none=>cases hp
     | some q=>
       have hq:=h.spot q rfl (by omega);obtain ⟨b,o,s⟩:=q;obtain rfl:s=none:=hq;simp [oQ] at hp;subst hp; rfl
 · rw [List.getElem?_drop] at hx
   have hi:=(List.getElem?_eq_some_iff.1 hx).1;obtain ⟨b,o,ha,hr⟩:=h.aS _ _ hx;subst ha;refine ⟨b,o+n*k,?_,?_⟩
   · rw [if_neg (by omega)]; simp [oQ]
   · rw [Nat.add_mul] at hr
     rw [Nat.add_assoc]; exact hr
theorem Sl.take {α:Type} {rd:View->Nat->Nat->α->Prop} {k:Nat} {H:View} {a:Option Addr} {c:Nat} {l:List α} (h:Sl rd k H a c l) (n:Nat):Sl rd k H a c (l.take n):=
 ⟨by have:=h.cap; simp; omega,h.max,h.spot,λi x hx=>h.aS i x (by
   rw [List.getElem?_take] at hx
   split at hx
   · exact hx
   · cases hx)⟩
end Go.Bw
end
section
namespace Go.Bw
set_option linter.unnecessarySimpa false
open Go Go.RowKit
section
variable {P:Program} {md:Region.Mode} {ops:Array Oper} {S:List Nat} {C D:World->Prop} {Q:Exit->Act->World->Prop}
def ng (S:List Nat) (listed:Array Bool):Prop:=∀s ∈ S,listed.getD s true=false
def rj (P:Program) (md:Region.Mode) (ops:Array Oper) (S:List Nat) (C D:World->Prop) (Q:Exit->Act->World->Prop):Nat->Array Bool->Act->World->Prop
 | 0,listed,a,w=>((ng S listed->C w)/\D w)/\Region.ready md ops listed=[]/\Q .normal a w
 | fuel+1,listed,a,w=>((ng S listed->C w)/\D w)/\(Region.ready md ops listed=[]->Q .normal a w)/\
   ∀i ∈ Region.ready md ops listed,wpOp P ops Q i (rj P md ops S C D Q fuel (listed.setIfInBounds i true)) a w
theorem U':∀(fuel:Nat) (listed:Array Bool) (a:Act) (w:World),rj P md ops S C D Q fuel listed a w->wpAny P md ops Q fuel listed a w
 | 0,_,_,_,h=>h.2
 | fuel+1,listed,a,w,h=>⟨h.2.1,λi hi=>wpOp_mono (λa' w' h'=>U' fuel _ a' w' h') (h.2.2 i hi)⟩
theorem rj.c {fuel:Nat} {listed:Array Bool} {a:Act} {w:World} (h:rj P md ops S C D Q fuel listed a w):(ng S listed->C w)/\D w:=by cases fuel<;>exact h.1
theorem I0 {i:Nat} (hi:i ∉ S) {listed:Array Bool}:ng S (listed.setIfInBounds i true)↔ng S listed:=by
 constructor
 · intro h s hs
   have de:i≠s:=λe=>by subst e; exact hi hs
   have:=h s hs
   rwa [getD_set_ne true de] at this
 · intro h s hs
   have de:i≠s:=λe=>by subst e; exact hi hs
   rw [getD_set_ne true de];exact h s hs
def BH (md:Region.Mode) (ops:Array Oper) (listed:Array Bool):Prop:=∀(j:Nat) (o:Oper),ops[j]? = some o->listed.getD j true=true->∀e ∈ o.after,Region.binds md e=true->listed.getD e.on true=true
def BI (md:Region.Mode) (ops:Array Oper) (i:Nat):Nat->Nat->Bool
 | 0,_=>false
 | f+1,s=>match ops[s]? with
   | some os=>os.after.any λe=>Region.binds md e&&(Nat.beq e.on i||BI md ops i f e.on)
   | none=>false
theorem U_ {listed:Array Bool} (lU:BH md ops listed) {i:Nat}:∀(f s:Nat),BI md ops i f s=true->(∀o,ops[s]? = some o->∀e ∈ o.after,Region.binds md e=true->listed.getD e.on true=true)->listed.getD i true=true
 | 0,s,h,_=>by simp [BI] at h
 | f+1,s,h,hs=>by
   simp only [BI] at h
   cases ho:ops[s]? with
   | none=>simp [ho] at h
   | some o=>
     simp only [ho] at h;obtain ⟨e,he,N7⟩:=Array.any_eq_true'.1 h;simp only [Bool.and_eq_true,Bool.or_eq_true] at N7;have hl:=hs o ho e he N7.1
     rcases N7.2 with h1 | h1
     · have:=Nat.eq_of_beq_eq_true h1
       rw [this] at hl; exact hl
     · exact U_ lU f e.on h1 λo' ho' e' vf sS=>lU e.on o' ho' hl e' vf sS
theorem Va {listed:Array Bool} {j:Nat} (hj:j ∈ Region.ready md ops listed):∀o,ops[j]? = some o->∀e ∈ o.after,Region.binds md e=true->listed.getD e.on true=true:=by
 intro o ho e he hb;obtain ⟨_,oj,pP,bT⟩:=mem_ready.1 hj;rw [ho] at pP
 injection pP with pP
 subst pP;have h1:=bT e he hb
 rcases Nat.lt_or_ge e.on listed.size with h' | h'
 · simp [Array.getD_eq_getD_getElem?,h'] at h1 ⊢
   exact h1
 · simp [Array.getD_eq_getD_getElem?,Array.getElem?_eq_none h']
theorem BH.set {listed:Array Bool} {j:Nat} (lU:BH md ops listed) (hj:j ∈ Region.ready md ops listed):BH md ops (listed.setIfInBounds j true):=by
 have up:∀k,listed.getD k true=true->(listed.setIfInBounds j true).getD k true=true:=by
   intro k hk
   by_cases kQ:j=k
   · subst kQ
     rcases Nat.lt_or_ge j listed.size with h' | h'
     · simp [Array.getD_eq_getD_getElem?,h']
     · simp [Array.getD_eq_getD_getElem?,h']
   · rw [getD_set_ne true kQ]; exact hk
 intro k o ho hk e he hb
 by_cases kQ:j=k
 · subst kQ
   exact up _ (Va hj o ho e he hb)
 · rw [getD_set_ne true kQ] at hk
   exact up _ (lU k o ho hk e he hb)
def Kept (md:Region.Mode) (ops:Array Oper) (S:List Nat) (C D Ci:World->Prop) (i:Nat):Prop:=
 (∀w,D w->Ci w)\/((∀w,C w->Ci w)/\∀s ∈ S,BI md ops i ops.size s=true)
theorem agj {i:Nat} {oi:Oper} {v:Value} {Ci:World->Prop} (hi:ops[i]? = some oi) (Ew:∀(j:Nat) (o:Oper) cs b,ops[j]? = some o->o.op≠.select cs b)
   (hQ:∀c a w,Q (.panic c) (a.put oi.dst v) w->Q (.panic c) a w) (I1:i ∉ S) (hK:Kept md ops S C D Ci i) :
   ∀(fuel:Nat) (listed:Array Bool) (a:Act) (w:World),
     (∀j oj,ops[j]? = some oj->j≠i->listed.getD j true=false->(∀e ∈ oj.after,Region.binds md e=true->e.on≠i)->oi.apart ops oj=true)->
     i ∈ Region.ready md ops listed->BH md ops listed->YV P ops Ci oi v a->((ng S listed->C w)/\D w)->((∀w,D w->Ci w)\/ng S listed)->
     rj P md ops S C D Q fuel (listed.setIfInBounds i true) (a.put oi.dst v) w->rj P md ops S C D Q (fuel+1) listed a w:=by
 have Vb:∀(listed:Array Bool) (w:World),((ng S listed->C w)/\D w)->((∀w,D w->Ci w)\/ng S listed)->Ci w:=by
   intro listed w h1 h2
   rcases h2 with h2 | h2
   · exact h2 w h1.2
   · rcases hK with hK | hK
     · exact hK w h1.2
     · exact hK.1 w (h1.1 h2)
 intro fuel
 induction fuel with
 | zero=>
   intro listed a w _ hr _ hy hC hU H;refine ⟨hC,λh=>(by rw [h] at hr; cases hr),λj hj=>?_⟩
   by_cases jz:j=i
   · subst jz; exact hy.wpOp hi (Vb _ _ hC hU) H
   · have:=ready_mono hj jz
     rw [H.2.1] at this;cases this
 | succ fuel ih=>
   intro listed a w Ey hr lU hy hC hU H;refine ⟨hC,λh=>(by rw [h] at hr; cases hr),λj hj=>?_⟩
   by_cases jz:j=i
   · subst jz; exact hy.wpOp hi (Vb _ _ hC hU) H
   · have h1:=H.2.2 j (ready_mono hj jz)
     obtain ⟨Ez,oj,pP,bT⟩:=mem_ready.1 hj
     have oT:∀e ∈ oj.after,Region.binds md e=true->e.on≠i:=λe he hb heq=>by
       have h1:=bT e he hb;have h0:=(mem_ready.1 hr).1;rw [heq] at h1
       rcases Nat.lt_or_ge i listed.size with h' | h'
       · simp [h'] at h0 h1; rw [h0] at h1; cases h1
       · simp [Array.getElem?_eq_none h'] at h1
     have hU':(∀w,D w->Ci w)\/ng S (listed.setIfInBounds j true):=by
       rcases hK with hK | hK
       · exact .inl hK
       · rcases hU with hU | hU
         · exact .inl hU
         · refine .inr ((I0 λhjS=>?_).2 hU)
           have I2:=U_ lU _ j (hK.2 j hjS) (Va hj);have h0:=(mem_ready.1 hr).1;rw [I2] at h0;cases h0
     have h2:=UD pP (Ey j oj pP jz Ez oT) (λcs b=>Ew i oi cs b hi) (λcs b=>Ew j oj cs b pP) hQ hy h1
     have NF:∀k ok,ops[k]? = some ok->k≠i->(listed.setIfInBounds j true).getD k true=false->
         (∀e ∈ ok.after,Region.binds md e=true->e.on≠i)->oi.apart ops ok=true:=λk ok hk pQ y9 e_=>by
       refine Ey k ok hk pQ ?_ e_
       by_cases kQ:j=k
       · subst kQ; exact Ez
       · rw [getD_set_ne true kQ] at y9; exact y9
     refine wpOp_mono (λa' w' h3=>ih (listed.setIfInBounds j true) a' w' NF (ready_mono hr (Ne.symm jz)) (lU.set hj) h3.1 ?_ hU' ?_) h2
     · have hc:=h3.2.c
       rw [Array.setIfInBounds_comm _ _ (Ne.symm jz)] at hc;exact ⟨λhu=>hc.1 ((I0 I1).2 hu),hc.2⟩
     · rw [Array.setIfInBounds_comm _ _ jz]
       exact h3.2
inductive ll where
 | nil
 | stop
 | q (m:Bool) (i:Nat) (r:ll)
 | e (i:Nat) (r alt:ll)
def ll.alts:ll->List Nat
 | .e i _ alt=>i::alt.alts
 | _=>[]
def behind (md:Region.Mode) (ops:Array Oper) (i:Nat) (S:List Nat):Bool:=S.all λs=>BI md ops i ops.size s
def I3 (i:Nat) (S:List Nat):Bool:=S.all λs=>!(Nat.beq s i)
theorem Vc {i:Nat} (h:I3 i S=true):i ∉ S:=λhi=>by
 have:=List.all_eq_true.1 h i hi;simp at this
def xx (md:Region.Mode) (ops:Array Oper):List Nat->Array Bool->Bool
 | [],listed=>(Region.ready md ops listed).isEmpty
 | s::r,listed=>Region.ready md ops listed==[s]&&xx md ops r (listed.setIfInBounds s true)
def kj (md:Region.Mode) (ops:Array Oper) (S:List Nat):Bool->ll->Nat->Array Bool->Bool
 | top,.nil,k,listed=>top&&(Nat.beq k S.length&&xx md ops S listed)
 | top,.stop,_,_=>!top
 | top,.q m i r,k,listed=>match k with
   | 0=>false
   | k+1=>top&&((Region.ready md ops listed).contains i&&(Region.free md ops listed i&&(I3 i S&&((!m||behind md ops i S)&&kj md ops S true r k (listed.setIfInBounds i true)))))
 | top,.e i r alt,k,listed=>match k with
   | 0=>false
   | k+1=>(bif top then Region.ready md ops listed==i::alt.alts else true)&&(I3 i S&&(kj md ops S true r k (listed.setIfInBounds i true)&&kj md ops S false alt (k+1) listed))
def xy (P:Program) (ops:Array Oper) (D:World->Prop) (Q:Exit->Act->World->Prop):List Nat->Act->World->Prop
 | [],a,w=>D w/\Q .normal a w
 | s::r,a,w=>D w/\wpOp P ops Q s (xy P ops D Q r) a w
def s5 (P:Program) (ops:Array Oper) (S:List Nat) (C D:World->Prop) (Q:Exit->Act->World->Prop):ll->Act->World->Prop
 | .nil,a,w=>C w/\xy P ops D Q S a w
 | .stop,_,_=>True
 | .q m i r,a,w=>(C w/\D w)/\∃o v,ops[i]? = some o/\YV P ops (bif m then C else D) o v a/\s5 P ops S C D Q r (a.put o.dst v) w
 | .e i r alt,a,w=>(C w/\D w)/\(wpOp P ops Q i (s5 P ops S C D Q r) a w/\s5 P ops S C D Q alt a w)
theorem agm:∀(r:List Nat) (listed:Array Bool) (a:Act) (w:World),(r=S/\C w\/¬ng S listed)->(∀s ∈ r,s ∈ S)->(∀s ∈ r,listed.getD s true=false)->xx md ops r listed=true->xy P ops D Q r a w->rj P md ops S C D Q r.length listed a w
 | [],listed,a,w,hc,_,_,hB,h=>⟨⟨λhu=>(by rcases hc with hc | hc; exact hc.2; exact absurd hu hc),h.1⟩,by simpa [xx] using hB,h.2⟩
 | s::r,listed,a,w,hc,hP,y9,hB,h=>by
   simp only [xx,Bool.and_eq_true,beq_iff_eq] at hB;refine ⟨⟨λhu=>(by rcases hc with hc | hc; exact hc.2; exact absurd hu hc),h.1⟩,λhe=>(by rw [he] at hB; cases hB.1),λj hj=>?_⟩;rw [hB.1] at hj;simp at hj;subst hj
   have av:j<listed.size:=by
     have:=y9 j (by simp)
     rcases Nat.lt_or_ge j listed.size with h' | h'
     · exact h'
     · simp [Array.getElem?_eq_none h'] at this
   have oT:¬ng S (listed.setIfInBounds j true):=λhu=>by
     have:=hu j (hP j (by simp));simp [Array.getD_eq_getD_getElem?,av] at this
   refine wpOp_mono (λa' w' h'=>Vd r (listed.setIfInBounds j true) a' w' oT (λs hs=>hP s (by simp [hs])) hB.2 h') h.2
where
 Vd:∀(r:List Nat) (listed:Array Bool) (a:Act) (w:World),¬ng S listed->(∀s ∈ r,s ∈ S)->xx md ops r listed=true->xy P ops D Q r a w->rj P md ops S C D Q r.length listed a w
 | [],listed,a,w,hc,_,hB,h=>⟨⟨λhu=>absurd hu hc,h.1⟩,by simpa [xx] using hB,h.2⟩
 | s::r,listed,a,w,hc,hP,hB,h=>by
   simp only [xx,Bool.and_eq_true,beq_iff_eq] at hB;refine ⟨⟨λhu=>absurd hu hc,h.1⟩,λhe=>(by rw [he] at hB; cases hB.1),λj hj=>?_⟩;rw [hB.1] at hj;simp at hj;subst hj;refine wpOp_mono (λa' w' h'=>Vd r (listed.setIfInBounds j true) a' w' (λhu=>hc λs hs=>?_) (λs hs=>hP s (by simp [hs])) hB.2 h') h.2;have:=hu s hs
   rcases Nat.decEq j s with de | he
   · rwa [getD_set_ne true de] at this
   · subst he
     rcases Nat.lt_or_ge j listed.size with h' | h'
     · simp [Array.getD_eq_getD_getElem?,h'] at this
     · simp [Array.getD_eq_getD_getElem?] at this
theorem I4 {ok:Option Tmp->Bool} (aJ:BG ok ops=true) (hs:Region.noSelect ops=true) (hQ:∀c a w d v,ok d=true->Q (.panic c) (a.put d v) w->Q (.panic c) a w):∀(o:ll) (k:Nat) (listed:Array Bool) (a:Act) (w:World),ng S listed->BH md ops listed->
   (kj md ops S true o k listed=true->s5 P ops S C D Q o a w->rj P md ops S C D Q k listed a w)/\
   ((∀j ∈ o.alts,j ∈ Region.ready md ops listed)->kj md ops S false o k listed=true->s5 P ops S C D Q o a w->∀j ∈ o.alts,∃k',k=k'+1/\wpOp P ops Q j (rj P md ops S C D Q k' (listed.setIfInBounds j true)) a w)
 | .nil,k,listed,a,w,hu,_=>by
   refine ⟨λhB h=>?_,λ_ hB=>by simp [kj] at hB⟩;simp only [kj,Bool.true_and,Bool.and_eq_true] at hB;obtain rfl:=Nat.eq_of_beq_eq_true hB.1;exact agm S listed a w (.inl ⟨O,h.1⟩) (λ_ h=>h) hu hB.2 h.2
 | .stop,k,listed,a,w,hu,_=>⟨λhB=>by simp [kj] at hB,λ_ _ _ j hj=>by simp [ll.alts] at hj⟩
 | .q m i r,k,listed,a,w,hu,lU=>by
   cases k with
   | zero=>exact ⟨λhB=>by simp [kj] at hB,λ_ hB=>by simp [kj] at hB⟩
   | succ k=>
     refine ⟨λhB h=>?_,λ_ hB=>by simp [kj] at hB⟩;simp only [kj,Bool.true_and,Bool.and_eq_true] at hB;obtain ⟨hB1,hB2,hB3,Ve,hB5⟩:=hB;obtain ⟨hC,o,v,ho,hy,h⟩:=h;have I1:=Vc hB3
     have hK:Kept md ops S C D (bif m then C else D) i:=by
       cases m with
       | false=>exact .inl λ_ h=>h
       | true=>
         refine .inr ⟨λ_ h=>h,λs hs=>?_⟩;simp only [Bool.not_true,Bool.false_or] at Ve;exact List.all_eq_true.1 Ve s hs
     have Vf:i ∈ Region.ready md ops listed:=by simpa using hB1
     exact agj ho (Region.noSelect_spec hs) (λc a w=>hQ c a w o.dst v (U6 aJ ho)) I1 hK k listed a w (Region.free_spec ho hB2) Vf lU hy ⟨λ_=>hC.1,hC.2⟩ (.inr hu)
       ((I4 aJ hs hQ r k _ _ _ ((I0 I1).2 hu) (lU.set Vf)).1 hB5 h)
 | .e i r alt,k,listed,a,w,hu,lU=>by
   cases k with
   | zero=>exact ⟨λhB=>by simp [kj] at hB,λ_ hB=>by simp [kj] at hB⟩
   | succ k=>
     have hP:(∀j ∈ i::alt.alts,j ∈ Region.ready md ops listed)->I3 i S=true->kj md ops S true r k (listed.setIfInBounds i true)=true->kj md ops S false alt (k+1) listed=true->s5 P ops S C D Q (.e i r alt) a w->
         ∀j ∈ i::alt.alts,wpOp P ops Q j (rj P md ops S C D Q k (listed.setIfInBounds j true)) a w:=by
       intro d_ h0 h1 h2 h j hj
       rcases List.mem_cons.1 hj with rfl | hj
       · exact wpOp_mono (λa' w' h'=>(I4 aJ hs hQ r k _ a' w' ((I0 (Vc h0)).2 hu) (lU.set (d_ _ (by simp)))).1 h1 h') h.2.1
       · obtain ⟨k',hk,hx⟩:=(I4 aJ hs hQ alt (k+1) listed a w hu lU).2 (λj hj=>d_ j (by simp [hj])) h2 h.2.2 j hj
         injection hk with hk
         subst hk;exact hx
     refine ⟨λhB h=>?_,λd_ hB h j hj=>?_⟩
     · simp only [kj,cond_true,Bool.and_eq_true,beq_iff_eq] at hB
       refine ⟨⟨λ_=>h.1.1,h.1.2⟩,λhe=>(by rw [he] at hB; cases hB.1),λj hj=>?_⟩;rw [hB.1] at hj;exact hP (λj hj=>by rw [hB.1]; exact hj) hB.2.1 hB.2.2.1 hB.2.2.2 h j hj
     · simp only [kj,cond_false,Bool.true_and,Bool.and_eq_true] at hB
       exact ⟨k,O,hP d_ hB.1 hB.2.1 hB.2.2 h j hj⟩
variable {n:Nat} {ds:List Deferred} {l:List (Nat×Value)} {W:World->Prop}
def WU (P:Program) (ops:Array Oper) (S:List Nat) (C D:World->Prop) (Q:Exit->Act->World->Prop) (n:Nat) (ds:List Deferred) (l:List (Nat×Value)) (W:World->Prop) (ord:ll):Prop:=
 ∀a w,Ag n ds l a->W w->s5 P ops S C D Q ord a w
def WS (P:Program) (ops:Array Oper) (D:World->Prop) (Q:Exit->Act->World->Prop) (n:Nat) (ds:List Deferred) (l:List (Nat×Value)) (W:World->Prop) (S:List Nat):Prop:=
 ∀a w,Ag n ds l a->W w->xy P ops D Q S a w
abbrev oW:World->Prop:=λ_=>True
def N8 (k:Nat) (S:List Nat):Bool:=S.all λs=>Nat.blt s k
theorem agr (h:N8 ops.size S=true):ng S (Array.replicate ops.size false):=λs hs=>by
 have:=List.all_eq_true.1 h s hs;have av:=Nat.blt_eq.mp this;simp [Array.getD_eq_getD_getElem?,av]
theorem WC.ags {id:Nat} {os:List Oper} {W' C' D':World->Prop} (ok:Option Tmp->Bool) (S:List Nat) (ord:ll) (hm:P.follows .mixedOrders=true) (hd:∀w,W' w->W' w.drew)
   (hB:(BG ok os.toArray&&(Region.noSelect os.toArray&&(N8 os.toArray.size S&&kj .any os.toArray S true ord os.toArray.size (Array.replicate os.toArray.size false))))=true)
   (hQ:∀c a w d v,ok d=true->Q (.panic c) (a.put d v) w->Q (.panic c) a w) (h:WU P os.toArray S C' D' Q n ds l W' ord):WC P (.region id os.toArray true) Q n ds l W':=by
 intro a w ha hw;simp only [Bool.and_eq_true] at hB
 have:=U' (md:=.any) _ _ _ _ ((I4 hB.1 hB.2.1 hQ ord _ _ a w.drew (agr hB.2.2.1) (λj o ho hj=>by
   have av:j<os.length:=by simpa using (Array.getElem?_eq_some_iff.1 ho).1
   simp [Array.getD_eq_getD_getElem?,Array.getElem?_replicate,av] at hj)).1 hB.2.2.2 (h a w.drew ha (hd w hw)))
 exact wp_region_any hm this
theorem CU {id:Nat} {os:List Oper} {w0:World} {F:List Nat} {L:List ao} {Vs:List View} (ok:Option Tmp->Bool) (is:List Nat) (S:List Nat) (ord:ll) (hm:P.follows .mixedOrders=true)
   (hB:(BG ok os.toArray&&(Region.noSelect os.toArray&&(N8 os.toArray.size S&&kj .any os.toArray S true ord os.toArray.size (Array.replicate os.toArray.size false))))=true)
   (hQ:∀c a w d v,ok d=true->Q (.panic c) (a.put d v) w->Q (.panic c) a w) (h:WU P os.toArray S (Ws w0 F (outs is L) Vs) oW Q n ds l (Ws w0 F L Vs) ord):WC P (.region id os.toArray true) Q n ds l (Ws w0 F L Vs):=
 WC.ags ok S ord hm (λ_ h=>h.drew) hB hQ h
theorem WV.q {m:Bool} {r:ll} {i d:Nat} {op:Op} {ty:TypeId} {pos:String} {af:Array Edge} {g:Option (Nat×Bool)} {v:Value} (hi:ops[i]? = some ⟨some d,op,ty,pos,af,g⟩) (hg:cF ops l g) (hn:Nat.blt d n=true)
   (hC:∀w,W w->C w) (hD:∀w,W w->D w) (hy:Yl P l (bif m then C else D) ⟨some d,op,ty,pos,af,g⟩ v) (h:WU P ops S C D Q n ds ((d,v)::l) W r):WU P ops S C D Q n ds l W (.q m i r):=by
 intro a w ha hw;refine ⟨⟨hC w hw,hD w hw⟩,_,v,hi,.inl ⟨cF.wanted (o:=⟨some d,op,ty,pos,af,g⟩) hg ha,λw' dE=>hy a.eval w' (λx u hx=>ha.eval hx) dE⟩,h _ _ (ha.put hn v) hw⟩
theorem Uq {m:Bool} {r:ll} {i d:Nat} {op:Op} {ty:TypeId} {pos:String} {af:Array Edge} {g:Option (Nat×Bool)} {v:Value} (hi:ops[i]? = some ⟨some d,op,ty,pos,af,g⟩) (hg:cF ops l g) (hn:Nat.blt d n=true)
   (hC:∀w,W w->C w) (hy:Yl P l (bif m then C else λ_=>True) ⟨some d,op,ty,pos,af,g⟩ v) (h:WU P ops S C oW Q n ds ((d,v)::l) W r):WU P ops S C oW Q n ds l W (.q m i r):=WV.q hi hg hn hC (λ_ _=>trivial) hy h
theorem U0 {m:Bool} {r:ll} {i d:Nat} {op:Op} {ty:TypeId} {pos:String} {af:Array Edge} {v:Value} (hi:ops[i]? = some ⟨some d,op,ty,pos,af,none⟩) (hC:∀w,W w->C w) (hy:Yl P l (bif m then C else λ_=>True) ⟨some d,op,ty,pos,af,none⟩ v) (h:WU P ops S C oW Q n ds ((d,v)::l) W r) (hn:Nat.blt d n=true:=by rfl):WU P ops S C oW Q n ds l W (.q m i r):=Uq hi (.inl rfl) hn hC hy h
theorem WU.skip {r:ll} {i d:Nat} {op:Op} {ty:TypeId} {pos:String} {af:Array Edge} {j:Nat} {b:Bool} {oj:Oper} {dj:Nat} (hi:ops[i]? = some ⟨some d,op,ty,pos,af,some (j,b)⟩) (hn:Nat.blt d n=true)
   (hj:ops[j]? = some oj) (D9:oj.dst=some dj) (u6:Nat.blt dj n=true) (hb:lk l dj=some (.bool (!b)))
   (hC:∀w,W w->C w) (h:WU P ops S C oW Q n ds ((d,undef)::l) W r):WU P ops S C oW Q n ds l W (.q false i r):=by
 intro a w ha hw;have hv:a.tmps.getD dj undef = .bool (!b):=ha.fk dj _ hb
 have av:dj<a.tmps.size:=by rw [ha.size]; exact Nat.le_of_ble_eq_true u6
 have u7:a.tmps[dj]? = some (.bool (!b)):=by
   rw [Array.getD_eq_getD_getElem?,Array.getElem?_eq_getElem av] at hv;rw [Array.getElem?_eq_getElem av]
   simpa using hv
 have D_:yielded ops a.tmps j=some (!b):=by simp [yielded,hj,D9,u7]
 exact ⟨⟨hC w hw,trivial⟩,_,undef,hi,.inr ⟨by simp [Region.wanted,D_],O⟩,h _ _ (ha.put hn undef) hw⟩
theorem Vh {i:Nat} {o:Oper} {K:Act->World->Prop} (hi:ops[i]? = some o) {a:Act} {w:World} (this:wpList P ops (Exit.then K Q) [o] a w):wpOp P ops Q i K a w:=by
 unfold wpList at this;unfold wpOp;simp only [hi]
 split
 · rename_i dE
   rw [if_pos dE] at this
   rcases this with this | ⟨h1,a2,w2,h2⟩
   · left
     unfold Oper.wp at this ⊢;unfold Oper.upon at this ⊢
     split at this
     all_goals first
       | exact this
       | (refine this.mono λe w' he=>?_
          cases e with
          | returned v=>exact he
          | panicked ch=>exact he
          | outgrown=>obtain ⟨a3,w3,h3⟩:=he; exact ⟨a3,w3,h3⟩)
       | exact this.mono λv w' he=>he
   · exact .inr ⟨h1,a2,w2,h2⟩
 · rename_i dE
   rw [if_neg dE] at this;exact this
theorem WV.e {r alt:ll} {i:Nat} {o:Oper} (hi:ops[i]? = some o) (hC:∀w,W w->C w) (hD:∀w,W w->D w) (h:WL P ops (Exit.then (s5 P ops S C D Q r) Q) n ds l W [o]) (h2:WU P ops S C D Q n ds l W alt):WU P ops S C D Q n ds l W (.e i r alt):=
 λa w ha hw=>⟨⟨hC w hw,hD w hw⟩,Vh hi (h a w ha hw),h2 a w ha hw⟩
theorem Ue {r alt:ll} {i:Nat} {o:Oper} (hi:ops[i]? = some o) (hC:∀w,W w->C w) (h:WL P ops (Exit.then (s5 P ops S C oW Q r) Q) n ds l W [o]) (h2:WU P ops S C oW Q n ds l W alt):WU P ops S C oW Q n ds l W (.e i r alt):=WV.e hi hC (λ_ _=>trivial) h h2
theorem WU.stop:WU P ops S C D Q n ds l W .stop:=λ_ _ _ _=>trivial
theorem Eu {r:ll} (h:WU P ops S C D Q n ds l W r):WE (Exit.then (s5 P ops S C D Q r) Q) .normal n ds l W:=h
theorem WU.nil (hC:∀w,W w->C w) (h:WS P ops D Q n ds l W S):WU P ops S C D Q n ds l W .nil:=λa w ha hw=>⟨hC w hw,h a w ha hw⟩
theorem N9.nil (hD:∀w,W w->D w) (h:WE Q .normal n ds l W):WS P ops D Q n ds l W []:=λa w ha hw=>⟨hD w hw,h a w ha hw⟩
theorem WS.nil (h:WE Q .normal n ds l W):WS P ops oW Q n ds l W []:=N9.nil (λ_ _=>trivial) h
theorem N9.e {s:Nat} {r:List Nat} {o:Oper} (hi:ops[s]? = some o) (hD:∀w,W w->D w) (h:WL P ops (Exit.then (xy P ops D Q r) Q) n ds l W [o]):WS P ops D Q n ds l W (s::r):=
 λa w ha hw=>⟨hD w hw,Vh hi (h a w ha hw)⟩
theorem WS.e {s:Nat} {r:List Nat} {o:Oper} (hi:ops[s]? = some o) (h:WL P ops (Exit.then (xy P ops oW Q r) Q) n ds l W [o]):WS P ops oW Q n ds l W (s::r):=N9.e hi (λ_ _=>trivial) h
theorem Es {r:List Nat} (h:WS P ops D Q n ds l W r):WE (Exit.then (xy P ops D Q r) Q) .normal n ds l W:=h
end
end Go.Bw
end
section
namespace Go.Bw
set_option linter.unnecessarySimpa false
open Go Go.RowKit
theorem Vi {α:Type} {f:α->List Value} {e:TypeId} {k c b o:Nat} {a:Option Addr} {xs:List α} {w:World} (h:(bt e k f a c xs).holds w) (ha:a=some ⟨b,o,none⟩) :
   o=0/\∃cur,w.heap[b]? = some (.cells cur e (0,0))/\cur.toList.take (xs.length*k)=xs.flatMap f/\cur.size=c*k/\xs.length<=c:=by
 subst ha;obtain ⟨h1,h2⟩:=(h:w.ownsRow 0 e k _ xs.length (xs.flatMap f))
 rcases h2 with ⟨h3,_⟩ | ⟨g,cap,cur,hv,_,hb,lR,hc,hs,ht⟩
 · cases h3
 · injection hv with h3 _ h4
   injection h3 with h3
   injection h3 with h3 h5
   subst h3 h4 h5;exact ⟨O,cur,hb,ht,hs,lR⟩
section
variable {P:Program} {ops:Array Oper} {Q:Exit->Act->World->Prop} {n:Nat} {ds:List Deferred} {l:List (Nat×Value)} {w0:World} {F:List Nat} {L:List ao} {Vs:List View} {rest:List Oper}
 {ty:TypeId} {pos:String} {af:Array Edge} {g:Option (Nat×Bool)}
theorem Vj {α:Type} {f:α->List Value} {e:TypeId} {k c:Nat} {a:Option Addr} {xs:List α} {w:World} (hw:Ws w0 F L Vs w) (i:Nat) (hL:L[i]? = some (bt e k f a c xs)) (hm:0<xs.length):(∃b,a=some ⟨b,0,none⟩)/\xs.length<=c/\c<=maxLen:=by
 obtain ⟨h1,h2⟩:=(hw.kn _ (dz hL):w.ownsRow 0 e k _ xs.length (xs.flatMap f))
 rcases h2 with ⟨h3,h4⟩ | ⟨b,cap,cur,hv,_,_,lR,hc,_⟩
 · injection h3 with _ h5 _; omega
 · injection hv with h3 _ h4
   subst h3 h4;exact ⟨⟨b,O⟩,lR,hc⟩
theorem WC.BJ {α:Type} {f:α->List Value} {cd:Code} {e:TypeId} {k c:Nat} {a:Option Addr} {xs:List α} (i:Nat) (hL:L[i]? = some (bt e k f a c xs)) (hm:0<xs.length)
   (h:∀b,a=some ⟨b,0,none⟩->xs.length<=c->c<=maxLen->WC P cd Q n ds l (Ws w0 F L Vs)):WC P cd Q n ds l (Ws w0 F L Vs):=by
 intro A w ha hw;obtain ⟨⟨b,hb⟩,h1,h2⟩:=Vj hw i hL hm;exact h b hb h1 h2 A w ha hw
theorem WL.BJ {α:Type} {f:α->List Value} {e:TypeId} {k c:Nat} {a:Option Addr} {xs:List α} (i:Nat) (hL:L[i]? = some (bt e k f a c xs)) (hm:0<xs.length)
   (h:∀b,a=some ⟨b,0,none⟩->xs.length<=c->c<=maxLen->WL P ops Q n ds l (Ws w0 F L Vs) rest):WL P ops Q n ds l (Ws w0 F L Vs) rest:=by
 intro A w ha hw;obtain ⟨⟨b,hb⟩,h1,h2⟩:=Vj hw i hL hm;exact h b hb h1 h2 A w ha hw
theorem xz {α:Type} {f:α->List Value} {t e:TypeId} {x:Operand} {b o p k c:Nat} {a:Option Addr} {xs:List α} {y:α} {v:Value} {d:Option Tmp} (i j q:Nat) (hx:aB l x=some (.pointer (some ⟨b,p,none⟩))) (hL:L[i]? = some (bt e k f a c xs)) (ha:a=some ⟨b,o,none⟩)
   (hp:p=o+j*k+q) (hf:∀x,(f x).length=k) (hy:xs[j]? = some y) (hq:(f y)[q]? = some v) (ht:dQ P t=true):Yl P l (Ws w0 F L Vs) ⟨d,.load t x,ty,pos,af,g⟩ v:=Ny ht hx λw hw=>by
 obtain ⟨rfl,cur,hb,re,iO,hm⟩:=Vi (hw.kn _ (dz hL)) ha;refine cell_of_heap hb ?_
 have hqk:q<k:=by have:=(List.getElem?_eq_some_iff.1 hq).1; rw [hf] at this; exact this
 have h6:(xs.flatMap f)[j*k+q]? = some v:=by rw [ve hf hy hqk]; exact hq
 rw [<-re,List.getElem?_take] at h6
 split at h6
 · subst hp; simpa [fT] using h6
 · cases h6
theorem WL.storeT {α:Type} {f:α->List Value} {t e:TypeId} {x z:Operand} {b o p k kk c:Nat} {a:Option Addr} {xs:List α} {y:α} {v:Value} (i j q:Nat) (y':α) (hg:cF ops l g) (hx:aB l x=some (.pointer (some ⟨b,p,none⟩))) (hz:aB l z=some v) (hL:L[i]? = some (bt e k f a c xs)) (ha:a=some ⟨b,o,none⟩)
   (hp:p=o+j*k+q) (hf:∀x,(f x).length=k) (hy:xs[j]? = some y) (hs:cC P t=some kk) (hl:(dN v).length=kk) (h1:(dN v).all (·.oneCell')=true) (hq:q+kk<=k) (BK:f y'=(f y).take q++dN v++(f y).drop (q+kk))
   (h:WL P ops Q n ds l (Ws w0 F (L.set i (bt e k f a c (xs.set j y'))) Vs) rest):WL P ops Q n ds l (Ws w0 F L Vs) (⟨none,.store t x z,ty,pos,af,g⟩::rest):=by
 refine WL.step hg λA w hA hw K hK=>?_;have hh:(bt e k f a c xs).holds w:=hw.kn _ (dz hL);obtain ⟨rfl,cur,hb,re,iO,hm⟩:=Vi hh ha;have hj:j<xs.length:=(List.getElem?_eq_some_iff.1 hy).1
 have kQ:j*k+k<=xs.length*k:=by rw [<-Nat.succ_mul]; exact Nat.mul_le_mul_right _ hj
 have kT:xs.length*k<=c*k:=Nat.mul_le_mul_right _ hm
 have aJ:va (.cells cur e (0,0)) p kk=true:=by
   simp only [va,Nat.beq_refl,Bool.and_true,Bool.and_self];exact Nat.ble_eq_true_of_le (by simp [iO]; omega)
 have dr:(execOp A.eval ⟨none,.store t x z,ty,pos,af,g⟩).run P w = .ok .skip { w with heap:=w.heap.setIfInBounds b (u_ (.cells cur e (0,0)) p (dN v)) }:=by
   simp only [execOp,hA.eval hx,hA.eval hz,Instr.storeAt,Instr.sureAddr,Sem.run_bind,Sem.run_pure,Result.andThen_ok,Uy hs hl h1 hb aJ]
 simp only [Oper.wp,dr,Oper.upon_skip];refine hK _ _ (h _ _ (hA.D8 undef) ?_);have av:=lt_of_heap hb
 have hlen:(xs.set j y').length=xs.length:=by simp
 have Vk:=afy hf hy (j:=q) (vs:=dN v) (y:=y') (by omega) (by rw [hl]; exact BK);refine Ws.xj hw i hL ⟨O,O,O,by simp,λj' hj' de=>?_⟩ ?_ (by subst ha; simp [aY,Value.ownBlock]) (λk' BL=>?_)
 · have:b≠j':=λe'=>de (by subst ha; simp [aY,Value.ownBlock,e'])
   simp [Array.getElem?_setIfInBounds_ne this]
 · show World.ownsRow _ 0 e k (.slice a (xs.set j y').length c) (xs.set j y').length _
   rw [hlen];obtain ⟨g1,g2⟩:=(hh:w.ownsRow 0 e k _ xs.length (xs.flatMap f));refine ⟨by rw [xq hf,hlen],.inr ?_⟩
   rcases g2 with ⟨g3,_⟩ | ⟨g,cap,ayy,hv,g0,sS,lR,xl,IK,ht'⟩
   · subst ha; cases g3
   · subst ha
     injection hv with e3 _ e4
     injection e3 with e3
     injection e3 with e3
     subst e3 e4;refine ⟨b,c,(cur.toList.take p++dN v++cur.toList.drop (p+(dN v).length)).toArray,O,Nat.zero_le _,?_,lR,xl,?_,?_⟩
     · show (w.heap.setIfInBounds b _)[b]? = _
       simp [av,u_]
     · simp [iO]; omega
     · rw [<-Vk,<-re]
       subst hp;simp only [Nat.zero_add]
       have lU:cur.toList.length=c*k:=by simp [iO]
       have e1:((cur.toList.take (xs.length*k)).take (j*k+q))=cur.toList.take (j*k+q):=by rw [List.take_take]; congr 1; omega
       have e2:(cur.toList.take (j*k+q)).length=j*k+q:=by rw [List.length_take,lU]; omega
       have e3:(cur.toList.take (j*k+q)++dN v).length=j*k+q+kk:=by rw [List.length_append,e2,hl]
       rw [e1,hl]
       have hm':xs.length*k=(j*k+q+kk)+(xs.length*k-(j*k+q+kk)):=by omega
       rw [List.take_append,e3,List.take_of_length_le (by rw [e3]; omega),List.drop_take]
 · refine .inl ?_
   simp only [aY] at BL ⊢;subst ha
   simpa [Value.ownBlock] using BL
theorem WL.perm {L':List ao} (hp:L.Perm L') (h:WL P ops Q n ds l (Ws w0 F L' Vs) rest):WL P ops Q n ds l (Ws w0 F L Vs) rest:=LW (λ_ h=>h.perm hp) h
end
end Go.Bw
end
section
namespace Go.Bw
set_option linter.unnecessarySimpa false
open Go Go.RowKit
section
variable {P:Program} {ops:Array Oper} {Q:Exit->Act->World->Prop} {n:Nat} {ds:List Deferred} {l:List (Nat×Value)} {w0 w:World} {F:List Nat} {L:List ao} {Vs:List View} {rest:List Oper} {A:ao} {As:List ao}
theorem Ws.aX (h:Ws w0 F L Vs w) (i:Nat) (hL:L[i]? = some A):Ws w0 F (A::df i L) Vs w:=h.perm (nU i L hL)
theorem WL.agu {t tn e:TypeId} {z:Value} {kn k:IntKind} {bytes d:Nat} {x y:Operand} {ty:TypeId} {pos:String} {af:Array Edge} {g:Option (Nat×Bool)} (m:Nat) (hg:cF ops l g) (hn:Nat.blt d n=true) (hE:e9 P t e z 1 bytes) (htn:P.underlying tn=some (.int kn))
   (hx:aB l x=some (.slice none 0 0)) (hy:aB l y=some (.int k (m:Int))) (h0:0<m) (oR:m<=maxLen) (N':m*bytes<=281474976710656)
   (h:∀b c cur,m<=c->c<=maxLen->cur.size=c->WL P ops Q n ds ((d,.slice (some ⟨b,0,none⟩) m c)::l) (Ws w0 F (ah b (.cells cur e (0,0))::L) Vs) rest) :
   WL P ops Q n ds l (Ws w0 F L Vs) (⟨some d,.call ⟨.builtin .append,#[x,y],#[t,tn]⟩,ty,pos,af,g⟩::rest):=by
 refine WL.step hg λa w ha hw K hK=>?_;obtain ⟨inf,hi,hz,kh,kO⟩:=hE.info;have dr:=Lib.run_append_nil_zeros (P:=P) w t tn ty e inf z k kn hE.under htn hi hz m h0 (by omega) (by unfold maxLen at oR; omega) (by rw [kO]; exact N')
 have lS:(execOp a.eval ⟨some d,.call ⟨.builtin .append,#[x,y],#[t,tn]⟩,ty,pos,af,g⟩).run P w = .ok (.value (.slice (some ⟨w.heap.size,0,none⟩) m (grownCap w m 0 e))) (w.drew.alloc (.cells (Builtin.zeroCells z.cells m++Builtin.zeroCells z.cells (grownCap w m 0 e-m)) e)):=by
   simp only [execOp,resolve,List.map_toArray,List.map_cons,List.map_nil,ha.eval hx,ha.eval hy,Sem.run_bind,Sem.run_pure,Result.andThen_ok,invoke,builtin,dr]
 simp only [Oper.wp,lS,Oper.upon_value];have bP:=grownCap_ge w m 0 e;refine hK _ _ (h w.heap.size _ (Builtin.zeroCells z.cells m++Builtin.zeroCells z.cells (grownCap w m 0 e-m)) bP (grownCap_le_maxLen w m 0 e oR) ?_ _ _ (ha.put hn _) ?_)
 · have oX:z.cells.size=1:=hE.zs
   simp [Builtin.zeroCells,oX]; omega
 · exact hw.drew.alloc _
end
section
variable {P:Program} {l:List (Nat×Value)} {W:World->Prop} {d:Option Tmp} {ty:TypeId} {pos:String} {af:Array Edge} {g:Option (Nat×Bool)}
theorem Vl {t:TypeId} {x:Operand} {a:Option Addr} {n c s:Nat} (hs:eo P t=some s) (hx:aB l x=some (.slice a n c)):Yl P l W ⟨d,.call ⟨.builtin .cap,#[x],#[t]⟩,ty,pos,af,g⟩ (.int .i64 (c:Int)):=by
 intro ρ w aC _;unfold eo at hs
 cases hu:P.underlying t with
 | none=>simp [hu] at hs
 | some dd=>
   cases dd<;>simp [hu] at hs
   simp [execOp,resolve,invoke,builtin,aC x _ hx,Builtin.cap_,run_underlying hu,goInt]
end
end Go.Bw
end
section
namespace Go.Bw
set_option linter.unnecessarySimpa false
open Go Go.RowKit
section
variable {P:Program} {ops:Array Oper} {Q:Exit->Act->World->Prop} {n:Nat} {ds:List Deferred} {l:List (Nat×Value)} {w0 w:World} {F:List Nat} {L:List ao} {Vs:List View} {rest:List Oper}
 {ty:TypeId} {pos:String} {af:Array Edge} {g:Option (Nat×Bool)} {d:Nat}
theorem WL.BM {α:Type} {f:α->List Value} {rd:View->Nat->Nat->α->Prop} {t e:TypeId} {z:Value} {size bytes:Nat} {s y:Operand} {a a2:Option Addr} {c c2:Nat} {xs ys:List α} (i:Nat) (H:World->View) (hg:cF ops l g) (hn:Nat.blt d n=true) (hE:e9 P t e z size bytes)
   (hs:aB l s=some (.slice a xs.length c)) (hy:aB l y=some (.slice a2 ys.length c2)) (hL:L[i]? = some (bt e size f a c xs)) (hH:∀w,Ws w0 F L Vs w->Le (H w) w/\Sl rd size (H w) a2 c2 ys) (d_:∀H b o x,rd H b o x->aR H b o (f x))
   (hf:∀x,(f x).length=size) (h1:∀x,(f x).all (·.oneCell')=true) (oR:xs.length+ys.length<=9223372036854775807) (oS:(xs.length+ys.length)*bytes<=140737488355328)
   (h:∀a' c',WL P ops Q n ds ((d,.slice a' (xs++ys).length c')::l) (Ws w0 F (L.set i (bt e size f a' c' (xs++ys))) Vs) rest) :
   WL P ops Q n ds l (Ws w0 F L Vs) (⟨some d,.call ⟨.builtin .append,#[s,y],#[t,t]⟩,ty,pos,af,g⟩::rest):=by
 cases a2 with
 | none=>
   refine WL.step hg λA w hA hw K hK=>?_;obtain ⟨inf,hi,hz,kh,kO⟩:=hE.info;obtain ⟨_,sW⟩:=hH w hw
   have I5:ys=[]:=by
     cases ys with
     | nil=>rfl
     | cons x r=>obtain ⟨b,o,hb,_⟩:=sW.aS 0 x rfl; cases hb
   subst I5;have qV:w.ownsRow 0 e size (.slice a xs.length c) xs.length (xs.flatMap f):=hw.kn _ (dz hL)
   have dR:xs.length<=c:=by
     rcases qV.2 with ⟨h3,_⟩ | ⟨b,cap,cur,hv,_,_,lR,_⟩
     · injection h3 with _ h4 h5; omega
     · injection hv with _ _ h5; omega
   have dr:=run_append_nothing (P:=P) w t t ty e inf hE.under hi a xs.length c dR (.slice none 0 c2) ⟨.inl ⟨e,hE.under⟩,by simp [Builtin.lenOf],run_firstCells_none w _ 0 0 c2,run_firstCells_none w.drew _ 0 0 c2,by simp,by simp⟩
   have lS:(execOp A.eval ⟨some d,.call ⟨.builtin .append,#[s,y],#[t,t]⟩,ty,pos,af,g⟩).run P w = .ok (.value (.slice a xs.length c)) w:=by
     simp only [execOp,resolve,List.map_toArray,List.map_cons,List.map_nil,hA.eval hs,hA.eval hy,Sem.run_bind,Sem.run_pure,Result.andThen_ok,invoke,builtin,List.length_nil,dr]
   simp only [Oper.wp,lS,Oper.upon_value];have hi':i<L.length:=(List.getElem?_eq_some_iff.1 hL).1
   have IG:L.set i (bt e size f a c xs)=L:=by
     rw [<-(List.getElem?_eq_some_iff.1 hL).2]; exact List.set_getElem_self hi'
   have hh:=h a c;simp only [List.append_nil] at hh;rw [IG] at hh;exact hK _ _ (hh _ _ (hA.put hn _) hw)
 | some p=>
   have e1:(xs.flatMap f)++ys.flatMap f=(xs++ys).flatMap f:=by simp
   have e2:xs.length+ys.length=(xs++ys).length:=by simp
   refine WL.append i hg hn hE hs hy hL (news:=ys.flatMap f) (k:=ys.length) (xq hf ys) (λw hw k u hu=>?_) (λu hu=>?_) (by unfold maxLen; omega) oS λv' _=>?_
   · obtain ⟨hle,sW⟩:=hH w hw
     have hk:=(List.getElem?_eq_some_iff.1 hu).1
     have hy0:0<ys.length:=by
       cases ys with
       | nil=>simp at hk
       | cons x r=>simp
     obtain ⟨b,o,hb,_⟩:=sW.aS 0 _ (List.getElem?_eq_getElem hy0)
     injection hb with hb
     subst hb;rw [oQ];have s7:=hE.pos;exact hle.cell (sW.flat hf s7 (d_ _) k u hu)
   · obtain ⟨x,_,hx⟩:=List.mem_flatMap.1 hu
     exact List.all_eq_true.1 (h1 x) u hx
   · rw [e1,e2]
     have hi:i<L.length:=(List.getElem?_eq_some_iff.1 hL).1;refine WL.NT i (m:=(xs++ys).length) (xs:=(xs++ys).flatMap f) (e:=e) (size:=size) (v:=v') (by simp [hi]) λa' c' hv=>?_;subst hv;exact h a' c'
theorem WL.Vm {ι:Type} {f:FuncId} {args:Array Operand} {ts:Array TypeId} {vs:List Value} (hg:cF ops l g) (hn:Nat.blt d n=true) (hf:Enters P f) (ha:i_ l args.toList=some vs)
   (v:ι->Value) (eS:ι->List ao) (R:ι->Prop)
   (hC:∀w,Ws w0 F L Vs w->Calls P f vs.toArray w λe w'=>∃i,e = .returned (v i)/\R i/\Ws w [] (eS i) [] w')
   (hr:∀i,R i->WL P ops Q n ds ((d,v i)::l) (Ws w0 F (eS i++L) Vs) rest) :
   WL P ops Q n ds l (Ws w0 F L Vs) (⟨some d,.call ⟨.value (.func f),args,ts⟩,ty,pos,af,g⟩::rest):=by
 refine WL.call hg hn hf ha v (λi w'=>R i/\Ws w0 F (eS i++L) Vs w') (λw hw=>(hC w hw).mono λe w' ⟨i,he,hR,h⟩=>⟨i,he,hR,?_⟩) λi=>?_
 · exact Ws.xi (L:=[]) (L':=eS i) (L2:=L) (by simpa using hw) (by simpa using h.fr) h.kn h.nd (λA hA k hk=>by
     rcases h.own A hA k hk with h1 | h1
     · simp at h1
     · exact .inr h1)
 · intro a w cY hw
   exact hr i hw.1 a w cY hw.2
end
end Go.Bw
end
section
namespace Go.Bw
set_option linter.unnecessarySimpa false
open Go Go.RowKit
section
variable {P:Program} {ops:Array Oper} {Q:Exit->Act->World->Prop} {n:Nat} {ds:List Deferred} {l:List (Nat×Value)} {w0:World} {F:List Nat} {L:List ao} {Vs:List View} {rest:List Oper} {c:Code}
 {ty:TypeId} {pos:String} {af:Array Edge} {g:Option (Nat×Bool)}
theorem Ws.s9 {α:Type} {f:α->List Value} {k b c:Nat} {e:TypeId} {xs:List α} {w:World} (h:Ws w0 F L Vs w) (i:Nat) (hL:L[i]? = some (ah b (.cells (xs.flatMap f).toArray e (0,0)))) (hf:∀x,(f x).length=k) (hc:xs.length=c) (hm:c<=maxLen):Ws w0 F (L.set i (bt e k f (some ⟨b,0,none⟩) c xs)) Vs w:=by
 have h1:=h.Uz i hL (m:=c) (cap:=c) (size:=k) (Nat.le_refl _) hm (by simp [xq hf,hc])
 have e1:aY e k (.slice (some ⟨b,0,none⟩) c c) c ((xs.flatMap f).toArray.toList.take (c*k))=bt e k f (some ⟨b,0,none⟩) c xs:=by
   show _=aY e k (.slice (some ⟨b,0,none⟩) xs.length c) xs.length (xs.flatMap f)
   rw [hc,List.take_of_length_le (by rw [List.toList_toArray,xq hf,hc]; exact Nat.le_refl _)]
 rw [e1] at h1;exact h1
theorem WC.I6 {ι:Type} {x y:Code} {W:World->Prop} (E:ι->List (Nat×Value)) (Wi:ι->World->Prop) (R:ι->Prop) (hx:WC P x (Exit.then (λa w=>∃i,R i/\Ag n ds (E i) a/\Wi i w) Q) n ds l W) (hy:∀i,R i->WC P y Q n ds (E i) (Wi i)):WC P (.seq x y) Q n ds l W:=by
 intro a w ha hw;refine wp_seq (wp_mono (hx a w ha hw) λe a' w' hq=>?_)
 cases e with
 | normal=>obtain ⟨i,hR,h1,h2⟩:=hq; exact hy i hR a' w' h1 h2
 | _=>exact hq
theorem Em {ι:Type} {Q:Exit->Act->World->Prop} {W:World->Prop} {E:ι->List (Nat×Value)} {Wi:ι->World->Prop} {R:ι->Prop} (i:ι) (hR:R i) (hE:∀p ∈ E i,lk l p.1=some p.2) (hW:∀w,W w->Wi i w) :
   WE (Exit.then (λa w=>∃i,R i/\Ag n ds (E i) a/\Wi i w) Q) .normal n ds l W:=λa w ha hw=>⟨i,hR,ha.sub hE,hW w hw⟩
theorem N_ {A:ao} (i:Nat) (hL:L[i]? = some A):L.set i A=L:=by
 rw [<-(List.getElem?_eq_some_iff.1 hL).2]; exact List.set_getElem_self (List.getElem?_eq_some_iff.1 hL).1
theorem WL.EJ {A A':ao} (i:Nat) (hL:L[i]? = some A) (hA:A=A') (h:WL P ops Q n ds l (Ws w0 F (L.set i A') Vs) rest):WL P ops Q n ds l (Ws w0 F L Vs) rest:=by
 subst hA; rwa [N_ i hL] at h
theorem WC.EJ {A A':ao} (i:Nat) (hL:L[i]? = some A) (hA:A=A') (h:WC P c Q n ds l (Ws w0 F (L.set i A') Vs)):WC P c Q n ds l (Ws w0 F L Vs):=by
 subst hA; rwa [N_ i hL] at h
theorem Ws.EJ {w:World} {A A':ao} (h:Ws w0 F L Vs w) (i:Nat) (hL:L[i]? = some A) (hA:A=A'):Ws w0 F (L.set i A') Vs w:=by
 subst hA; rwa [N_ i hL]
end
section
variable {P:Program} {l:List (Nat×Value)} {W:World->Prop} {d:Option Tmp} {ty:TypeId} {pos:String} {af:Array Edge} {g:Option (Nat×Bool)}
def EL (v:Value) (b:Bool):Prop:=(b=true->v = .nilIface)/\(b=false->∃t x,v = .iface t x)
theorem agy {t u:TypeId} {x:Operand} {v:Value} (b:Bool) (ht:P.underlying t=some (.interface (P.methodsAt t))) (hx:aB l x=some v) (hb:EL v b):Yl P l W ⟨d,.binOp .eql t x (.const .nilIface) u,ty,pos,af,g⟩ (.bool b):=by
 intro ρ w aC _;have hy:ρ (.const .nilIface) = .nilIface:=aC _ _ rfl
 cases b with
 | true=>
   obtain rfl:=hb.1 rfl;simp only [execOp,aC x _ hx,hy,Sem.run_bind];simp [eqGuard_nil_constR,run_eql_nil_nil (h:=ht)]
 | false=>
   obtain ⟨s,y,rfl⟩:=hb.2 rfl
   have hg:(eqGuard .eql t x (.const .nilIface) (.iface s y) .nilIface)=pure ():=by cases x<;>rfl
   simp only [execOp,aC x _ hx,hy,Sem.run_bind,hg];simp [run_eql_held_nil (h:=ht)]
end
theorem WL.wk {P:Program} {ops:Array Oper} {Q:Exit->Act->World->Prop} {n:Nat} {ds:List Deferred} {l:List (Nat×Value)} {W W':World->Prop} {rest:List Oper} (hW:∀w,W w->W' w) (h:WL P ops Q n ds l W' rest):WL P ops Q n ds l W rest:=λa w ha hw=>h a w ha (hW w hw)
theorem agz {P:Program} {l:List (Nat×Value)} {W:World->Prop} {d:Option Tmp} {ty:TypeId} {pos:String} {af:Array Edge} {g:Option (Nat×Bool)} {t:TypeId} {x:Operand} {a:Int} (hx:aB l x=some (.int .i64 a)):Yl P l W ⟨d,.unOp .neg t x,ty,pos,af,g⟩ (.int .i64 (IntKind.i64.wrap (-a))):=
 λρ w aC _=>by simp [execOp,aC x _ hx,Op.unary,Op.intArith]
structure Oa (P:Program) (gp gs gr:Nat) (H:View):Prop where
 pow:∃t f,H gp=some (.cells (Lib.pow10Tab.map λz=>Value.int .u64 z).toArray t f)
 syn:∃ev,vc H gs 0=some ev/\(ev = .nilIface\/∃te pe,ev = .iface te pe)
 rng:∃ev,vc H gr 0=some ev/\(ev = .nilIface\/∃te pe,ev = .iface te pe)
theorem Oa.Ob {P:Program} {gp gs gr:Nat} {H:View} (h:Oa P gp gs gr H) {w:World} (hl:Le H w) {nm:String} (hg:P.globalNamed nm=some gp):Lib.TabIs P w nm .u64 Lib.pow10Tab:=by
 obtain ⟨t,f,hp⟩:=h.pow;unfold Lib.TabIs World.var?;rw [hg];simp [hl _ _ hp]
theorem agC {P:Program} {W:World} {nm:String} {g:Nat} (ht:Lib.TabIs P W nm .u64 Lib.pow10Tab) (hg:P.globalNamed nm=some g):∃t f,hv W g=some (.cells (Lib.pow10Tab.map λz=>Value.int .u64 z).toArray t f):=by
 unfold Lib.TabIs World.var? at ht;rw [hg] at ht;simp only [Option.bind_some] at ht
 cases hb:W.heap[g]? with
 | none=>simp [hb] at ht
 | some o=>
   cases o with
   | cells cs t f=>
     simp only [hb,Option.some.injEq] at ht;subst ht;exact ⟨t,f,hb⟩
   | _=>simp [hb] at ht
theorem agD (w:World) (k:Nat) (os:Array Obj):Ext w (Go.Sort.grow (w.drewN k) os):=by
 refine ⟨O,O,O,by simp [Go.Sort.grow,World.drewN],λb hb _=>?_⟩;simp [Go.Sort.grow,World.drewN,Array.getElem?_append,hb]
structure rq {κ:Type} [BEq κ] [LawfulBEq κ] (kd:TypeDesc) (kv:κ->Value):Prop where
 same:∀a b,Instr.sameNow kd (kv a) (kv b)=some (a==b)
 isKey:∀a,MapKept.IsKey kd (kv a)
theorem km:rq (.int .i64) (λn:Int=>Value.int .i64 n):=⟨λa b=>by simp [Instr.sameNow],λa=>by simp [MapKept.IsKey]⟩
theorem ix:rq .string st:=⟨λa b=>by simp only [st,Instr.sameNow,NQ],λa=>by simp [MapKept.IsKey,st]⟩
section
variable {κ:Type} {kv:κ->Value}
abbrev cD (κ:Type):=κ×Value×Nat
def nZ (kv:κ->Value) (e:cD κ):MapEntry:={ key:=kv e.1,val:=e.2.1,born:=e.2.2 }
def bh (kv:κ->Value) (m:List (cD κ)) (c:Nat):Obj:=.map (m.map (nZ kv)).toArray c
theorem agE (m:List (cD κ)) (j:Nat) (k:κ) (v:Value):(m.map (nZ kv)).modify j (λe=>{ e with key:=kv k,val:=v })=(m.modify j λe=>(k,v,e.2.2)).map (nZ kv):=by
 apply List.ext_getElem?;intro i;simp only [List.getElem?_modify,List.getElem?_map]
 cases m[i]? with
 | none=>simp
 | some e=>by_cases h:j=i<;>simp [h,nZ]
variable {P:Program} {ops:Array Oper} {Q:Exit->Act->World->Prop} {n:Nat} {ds:List Deferred} {l:List (Nat×Value)} {w0:World} {F:List Nat} {L:List ao} {Vs:List View} {rest:List Oper} {d:Nat} {ty:TypeId} {pos:String} {af:Array Edge} {g:Option (Nat×Bool)}
theorem WL.oY {t:TypeId} (kv:κ->Value) (hg:cF ops l g) (hn:Nat.blt d n=true)
   (h:∀b,WL P ops Q n ds ((d,.map (some b))::l) (Ws w0 F (ah b (bh kv [] 0)::L) Vs) rest) :
   WL P ops Q n ds l (Ws w0 F L Vs) (⟨some d,.makeMap t none,ty,pos,af,g⟩::rest):=
 WL.new (mk:=λb=>.map (some b)) (o:=bh kv [] 0) hg hn (λρ w _ _=>by
   simp only [execOp]
   simp [Instr.makeMap,bh]) h
end
section
variable {κ:Type} [BEq κ] [LawfulBEq κ] {kd:TypeDesc} {kv:κ->Value}
def bB (k:κ):List (cD κ)->Nat->Option (Nat×Value)
 | [],_=>none
 | e::r,i=>if (k==e.1)=true then some (i,e.2.1) else bB k r (i+1)
def dv (k:κ) (v:Value) (m:List (cD κ)) (c:Nat):List (cD κ):=match bB k m 0 with
 | some (i,_)=>m.modify i λe=>(k,v,e.2.2)
 | none=>m++[(k,v,c)]
def gS (k:κ) (m:List (cD κ)) (c:Nat):Nat:=match bB k m 0 with | some _=>c | none=>c+1
def dO (k:κ) (m:List (cD κ)) (z:Value):Value:=match bB k m 0 with | some (_,v)=>v | none=>z
def oZ (k:κ) (m:List (cD κ)):Bool:=(bB k m 0).isSome
theorem Oc (hk:rq kd kv) (k:κ):∀(m:List (cD κ)) (i:Nat),Instr.findNow kd (kv k) (m.map (nZ kv)) i=some (bB k m i)
 | [],_=>rfl
 | e::r,i=>by
   simp only [List.map_cons,Instr.findNow,nZ,hk.same,bB];cases h:(k==e.1)
   · simp only [Bool.false_eq_true,if_false]
     exact Oc hk k r (i+1)
   · simp
theorem Vn (k:κ) (j:Nat) (v':Value):∀(m:List (cD κ)) (i0:Nat),bB k m i0=some (j,v')->i0<=j/\(m[j-i0]?).map (·.1)=some k
 | [],i0,h=>by simp [bB] at h
 | e::r,i0,h=>by
   simp only [bB] at h
   split at h
   · rename_i hk
     injection h with h; injection h with h1 h2
     subst h1;simp at hk;simp [hk]
   · obtain ⟨h1,h2⟩:=Vn k j v' r (i0+1) h
     refine ⟨by omega,?_⟩
     have:j-i0=(j-(i0+1))+1:=by omega
     rw [this]; simpa using h2
variable {P:Program} {ops:Array Oper} {Q:Exit->Act->World->Prop} {n:Nat} {ds:List Deferred} {l:List (Nat×Value)} {w0:World} {F:List Nat} {L:List ao} {Vs:List View} {rest:List Oper} {d:Nat} {ty:TypeId} {pos:String} {af:Array Edge} {g:Option (Nat×Bool)}
theorem I7 {w:World} {t kt e:TypeId} {b c:Nat} {m:List (cD κ)} {k:κ} {z:Value} (cm:Bool) (fe:rq kd kv) (ht:P.underlying t=some (.map kt e)) (hk:P.underlying kt=some kd) (hz:zeroOf P e=some z) (hb:w.heap[b]? = some (bh kv m c)) :
   (Instr.lookup t (.map (some b)) (kv k) cm).run P w = .ok (if cm=true then .tuple #[dO k m z,.bool (oZ k m)] else dO k m z) w:=by
 have hf:=Oc fe k m 0;have hb:w.heap[b]? = some (.map (m.map (nZ kv)).toArray c):=hb;have hc:(Instr.checkKey (m.map (nZ kv)).toArray.isEmpty 10000 kt (kv k)).run P w = .ok () w:=MapKept.run_checkKey (k:=kv k) hk (fe.isKey k) _ 9999;simp only [Instr.lookup,Sem.run_bind,run_underlying ht,Result.andThen_ok,MapKept.run_getObj_map hb,Sem.run_pure,hc];rw [MapKept.run_findKey hk (by simpa using hf)];unfold dO oZ
 cases hm:bB k m 0 with
 | none=>simp [Result.andThen_ok,y7 hz]
 | some r=>obtain ⟨i,v⟩:=r; simp [Result.andThen_ok]
theorem vh {dd:Option Tmp} {t kt e:TypeId} {x y:Operand} {b c:Nat} {m:List (cD κ)} {k:κ} {z:Value} (i:Nat) (fe:rq kd kv) (ht:P.underlying t=some (.map kt e)) (hk:P.underlying kt=some kd) (hz:zeroOf P e=some z) (hx:aB l x=some (.map (some b))) (hy:aB l y=some (kv k)) (hL:L[i]? = some (ah b (bh kv m c))) :
   Yl P l (Ws w0 F L Vs) ⟨dd,.lookup t x y false,ty,pos,af,g⟩ (dO k m z):=by
 intro ρ w aC hw;simp [execOp,aC x _ hx,aC y _ hy,I7 (P:=P) (k:=k) false fe ht hk hz (hw.kn _ (dz hL):w.heap[b]? = some (bh kv m c))]
theorem I8 {dd:Option Tmp} {t kt e:TypeId} {x y:Operand} {b c:Nat} {m:List (cD κ)} {k:κ} {z:Value} (i:Nat) (fe:rq kd kv) (ht:P.underlying t=some (.map kt e)) (hk:P.underlying kt=some kd) (hz:zeroOf P e=some z) (hx:aB l x=some (.map (some b))) (hy:aB l y=some (kv k)) (hL:L[i]? = some (ah b (bh kv m c))) :
   Yl P l (Ws w0 F L Vs) ⟨dd,.lookup t x y true,ty,pos,af,g⟩ (.tuple #[dO k m z,.bool (oZ k m)]):=by
 intro ρ w aC hw;simp [execOp,aC x _ hx,aC y _ hy,I7 (P:=P) (k:=k) true fe ht hk hz (hw.kn _ (dz hL):w.heap[b]? = some (bh kv m c))]
theorem Vo {w:World} {t kt e:TypeId} {b c:Nat} {m:List (cD κ)} {k:κ} {v:Value} (fe:rq kd kv) (ht:P.underlying t=some (.map kt e)) (hk:P.underlying kt=some kd) (sS:w.heap[b]? = some (bh kv m c)) :
   (Instr.mapUpdate t (.map (some b)) (kv k) v).run P w = .ok () { w with heap:=w.heap.setIfInBounds b (bh kv (dv k v m c) (gS k m c)) }:=by
 have hb:w.heap[b]? = some (.map (m.map (nZ kv)).toArray c):=sS;have hf:=Oc fe k m 0;have hc:(Instr.checkKey false 10000 kt (kv k)).run P w = .ok () w:=MapKept.run_checkKey (k:=kv k) hk (fe.isKey k) _ 9999;simp only [Instr.mapUpdate,Sem.run_bind,run_underlying ht,Result.andThen_ok,MapKept.run_getObj_map hb,Sem.run_pure,hc];rw [MapKept.run_findKey hk (by simpa using hf)];unfold dv gS
 cases hm:bB k m 0 with
 | none=>simp [Result.andThen_ok,MapKept.run_setObj_map _ hb,bh,nZ]
 | some r=>
   obtain ⟨j,v'⟩:=r
   have zf:m[j]?.map (·.1)=some k:=by simpa using (Vn k j v' m 0 hm).2
   have nY:((((m.map (nZ kv)).toArray)[j]?).map (·.key)).getD (kv k)=kv k:=by
     cases he:m[j]? with
     | none=>simp [he]
     | some e=>rw [he] at zf; simp at zf; simp [he,nZ,zf]
   simp only [nY,Result.andThen_ok];simp only [Sem.run_bind,MapKept.run_keyThatStays (fe.isKey k),Result.andThen_ok,MapKept.run_setObj_map _ hb,bh]
   have EH:(m.map (nZ kv)).toArray.modify j (λe=>{ e with key:=kv k,val:=v })=((m.modify j λe=>(k,v,e.2.2)).map (nZ kv)).toArray:=by
     apply Array.ext';rw [Array.toList_modify];exact agE m j k v
   rw [EH]
theorem WL.rr {t kt e:TypeId} {x y u:Operand} {b c:Nat} {m:List (cD κ)} {k:κ} {v:Value} (i:Nat) (fe:rq kd kv) (hg:cF ops l g) (ht:P.underlying t=some (.map kt e)) (hk:P.underlying kt=some kd) (hx:aB l x=some (.map (some b))) (hy:aB l y=some (kv k)) (hu:aB l u=some v) (hL:L[i]? = some (ah b (bh kv m c)))
   (h:WL P ops Q n ds l (Ws w0 F (L.set i (ah b (bh kv (dv k v m c) (gS k m c)))) Vs) rest) :
   WL P ops Q n ds l (Ws w0 F L Vs) (⟨none,.mapUpdate t x y u,ty,pos,af,g⟩::rest):=by
 refine WL.step hg λa w ha hw K hK=>?_;have hb:w.heap[b]? = some (bh kv m c):=hw.kn _ (dz hL)
 have lS:(execOp a.eval ⟨none,.mapUpdate t x y u,ty,pos,af,g⟩).run P w = .ok .skip { w with heap:=w.heap.setIfInBounds b (bh kv (dv k v m c) (gS k m c)) }:=by
   simp only [execOp,ha.eval hx,ha.eval hy,ha.eval hu,Sem.run_bind,Vo fe ht hk hb,Result.andThen_ok,Sem.run_pure]
 simp only [Oper.wp,lS,Oper.upon_skip];refine hK _ _ (h _ _ (ha.D8 undef) ?_);refine Ws.xj hw i hL ⟨O,O,O,by simp,λj hj de=>?_⟩ ?_ (by simp [ah]) (by simp [ah])
 · have:b≠j:=λe=>de (by simp [ah,e])
   simp [Array.getElem?_setIfInBounds_ne this]
 · show (w.heap.setIfInBounds b _)[b]? = _
   simp [lt_of_heap hb]
theorem WL.nh {t kt e:TypeId} {x y u:Operand} {b c:Nat} {m:List (cD κ)} {k:κ} {v:Value} (i:Nat) (fe:rq kd kv) (hg:cF ops l g) (ht:P.underlying t=some (.map kt e)) (hk:P.underlying kt=some kd) (hx:aB l x=some (.map (some b))) (hy:aB l y=some (kv k)) (hu:aB l u=some v) (hL:L[i]? = some (ah b (bh kv m c)))
   (h:WL P ops Q n ds l (Ws w0 F (L.set i (ah b (bh kv (dv k v m c) (gS k m c)))) Vs) rest) :
   WL P ops Q n ds l (Ws w0 F L Vs) (⟨none,.insert t x y u,ty,pos,af,g⟩::rest):=by
 refine WL.step hg λa w ha hw K hK=>?_;have hb:w.heap[b]? = some (bh kv m c):=hw.kn _ (dz hL)
 have lS:(execOp a.eval ⟨none,.insert t x y u,ty,pos,af,g⟩).run P w = .ok .skip { w with heap:=w.heap.setIfInBounds b (bh kv (dv k v m c) (gS k m c)) }:=by
   simp only [execOp,ha.eval hx,ha.eval hy,ha.eval hu,Sem.run_bind,Vo fe ht hk hb,Result.andThen_ok,Sem.run_pure]
 simp only [Oper.wp,lS,Oper.upon_skip];refine hK _ _ (h _ _ (ha.D8 undef) ?_);refine Ws.xj hw i hL ⟨O,O,O,by simp,λj hj de=>?_⟩ ?_ (by simp [ah]) (by simp [ah])
 · have:b≠j:=λe=>de (by simp [ah,e])
   simp [Array.getElem?_setIfInBounds_ne this]
 · show (w.heap.setIfInBounds b _)[b]? = _
   simp [lt_of_heap hb]
end
def zi (P:Program) (t:TypeId):Option (Nat×Nat):=match P.underlying t with | some (.array n e)=>(P.info? e).map λi=>(n,i.size) | _=>none
def I9 (P:Program) (t:TypeId):Option Nat:=match P.underlying t with | some (.array n e)=>if dQ P e=true/\(P.info? e).map (·.size)=some 1 then some n else none | _=>none
section
variable {P:Program} {l:List (Nat×Value)} {W:World->Prop} {d:Option Tmp} {ty:TypeId} {pos:String} {af:Array Edge} {g:Option (Nat×Bool)}
theorem zj {t:TypeId} {x y:Operand} {b o n s:Nat} {k:IntKind} {i:Nat} (hs:zi P t=some (n,s)) (hx:aB l x=some (.pointer (some ⟨b,o,none⟩))) (hy:aB l y=some (.int k (i:Int))) (h1:i<n) :
   Yl P l W ⟨d,.indexAddr t x y,ty,pos,af,g⟩ (.pointer (some ⟨b,o+i*s,none⟩)):=by
 intro ρ w aC _;unfold zi at hs
 cases hu:P.underlying t with
 | none=>simp [hu] at hs
 | some dd=>
   cases dd<;>simp [hu] at hs
   rename_i m e;obtain ⟨inf,hi,h2,h3⟩:=hs;subst h2 h3
   have av:(i:Int)<(m:Int):=by omega
   simp [execOp,aC x _ hx,aC y _ hy,Instr.indexAt,run_underlying hu,asIntOf,av,h1,sizeOf,typeInfo,hi,oQ,Instr.sureAddr]
theorem Vp {t:TypeId} {x y:Operand} {n:Nat} {cs:Array Value} {k:IntKind} {i:Nat} {v:Value} (hs:I9 P t=some n) (hx:aB l x=some (.agg cs)) (hy:aB l y=some (.int k (i:Int))) (h1:i<n) (hv:cs[i]? = some v) :
   Yl P l W ⟨d,.index t x y,ty,pos,af,g⟩ v:=by
 intro ρ w aC _;unfold I9 at hs
 cases hu:P.underlying t with
 | none=>simp [hu] at hs
 | some dd=>
   cases dd<;>simp [hu] at hs
   rename_i m e;obtain ⟨⟨hna,inf,hi,kh⟩,rfl⟩:=hs
   have av:(i:Int)<(m:Int):=by omega
   have ha:=Iz hna w
   have hp:(part e cs (i*inf.size)).run P w = .ok v w:=by
     simp [part,ha,kh,hv]
   simp [execOp,aC x _ hx,aC y _ hy,Instr.index,run_underlying hu,asIntOf,av,h1,sizeOf,typeInfo,hi,hp]
end
end Go.Bw
end
section
namespace Go.Bw
open Go
structure Tok where
 kind:Int
 n:Int
 text:List UInt8
deriving DecidableEq
def Tok.cells (t:Tok):List Value:=[.int .i64 t.kind,.int .i64 t.n,st t.text]
theorem Tok.bq (x:Tok):x.cells.length=3:=rfl
def aZ (H:View) (b o:Nat) (x:Tok):Prop:=aR H b o x.cells
def ni (u:Int):Bool:=decide (97<=u)&&decide (u<=122)
def EM (u:Int):Bool:=decide (48<=u)&&decide (u<=57)
def jS (u:UInt8):Bool:=ni u.toNat||EM u.toNat
def dB (s:List UInt8):Bool:=(decide (1<=s.length)&&decide (s.length<=8))&&ni ((s[0]?.getD 0).toNat)&&s.all jS
def vi:List UInt8:=[123,125,40,41,91,93,44,59,61,46,43,45,42,47,37,60,33,38,124]
def nj (u:UInt8):Bool:=vi.contains u
def ep:List UInt8->Nat
 | []=>0
 | c::r=>if jS c=true then ep r+1 else 0
def zk (s:List UInt8):Option Nat:=match Lib.decNat s with
 | some n=>if n<=1099511627775/\Lib.decDigits n=s then some n else none
 | none=>none
def rB (s:List UInt8):Option Tok:=if dB s=true then some ⟨1,0,s⟩ else (zk s).map (λn:Nat=>(⟨2,(n:Int),[]⟩:Tok))
def mw:Nat->List UInt8->Option (List Tok)
 | _,[]=>some []
 | 0,_::_=>none
 | f+1,c::r=>
   if 0<ep (c::r) then
     match rB ((c::r).take (ep (c::r))) with
     | some t=>(mw f ((c::r).drop (ep (c::r)))).map (t::·)
     | none=>none
   else if nj c=true then (mw f r).map (⟨3,0,[c]⟩::·)
   else if c=32\/c=10 then mw f r
   else none
def ff (s:List UInt8):Option (List Tok):=mw s.length s
def ec (s:List UInt8):List Tok×Int:=if 4096<s.length then ([],2) else match ff s with
 | some l=>(l,0)
 | none=>([],1)
def s_ (t:Tok):Bool:=decide (1<=t.kind)&&decide (t.kind<=3)
def jT (t:Tok):Bool:=if t.kind=1 then t.n==0&&dB t.text else if t.kind=2 then t.text==[]&&(decide (0<=t.n)&&decide (t.n<=1099511627775)) else t.n==0&&(t.text.length==1&&nj (t.text[0]?.getD 0))
def I' (t:Tok):Bool:=!s_ t
def I_ (t:Tok):Bool:=!jT t
def EN (l:List Tok):Int:=if l.any I'=true then 4 else if l.any I_=true then 1 else if 4096<l.length then 2 else 0
def n0 (t:Tok):List UInt8:=if t.kind=2 then Lib.itoa t.n else t.text
def vk (l:List Tok):List UInt8:=Lib.join (l.map n0) [32]
theorem Vq:∀s:List UInt8,ep s<=s.length
 | []=>Nat.le_refl _
 | c::r=>by
   have:=Vq r;unfold ep
   split<;>simp<;>omega
theorem Vr (b:List UInt8) (c:UInt8) (hc:jS c=false):∀a:List UInt8,ep (a++c::b)=ep a
 | []=>by simp [ep,hc]
 | x::a=>by
   rw [List.cons_append];unfold ep;rw [Vr b c hc a]
theorem Od:∀(s:List UInt8) (n:Nat),n<=s.length->(∀j,j<n->jS (s[j]?.getD 0)=true)->(n=s.length\/jS (s[n]?.getD 0)=false)->ep s=n
 | [],n,h,_,_=>by simp at h; subst h; rfl
 | c::r,0,_,_,h=>by
   have:jS c=false:=by
     rcases h with h | h
     · simp at h
     · simpa using h
   simp [ep,this]
 | c::r,n+1,hn,ha,h=>by
   have h0:jS c=true:=by simpa using ha 0 (by omega)
   rw [ep,if_pos h0,Od r n (by simpa using hn) (λj hj=>by simpa using ha (j+1) (by omega)) (by rcases h with h | h; left; simpa using h; right; simpa using h)]
theorem Vt {s:List UInt8} (h:s.all jS=true):ep s=s.length:=by
 refine Od s s.length (Nat.le_refl _) (λj hj=>?_) Y;rw [List.getElem?_eq_getElem hj];exact List.all_eq_true.1 h _ (List.getElem_mem hj)
theorem Oe:∀(f g:Nat) (s:List UInt8),s.length<=f->s.length<=g->mw f s=mw g s
 | _,_,[],_,_=>by simp [mw]
 | 0,_,_::_,h,_=>by simp at h
 | _+1,0,_::_,_,h=>by simp at h
 | f+1,g+1,c::r,hf,hg=>by
   simp only [List.length_cons] at hf hg;unfold mw;rw [Oe f g r (by omega) (by omega)]
   by_cases h0:0<ep (c::r)
   · rw [Oe f g ((c::r).drop (ep (c::r))) (by simp; omega) (by simp; omega)]
   · simp only [if_neg h0]
theorem EO:ff []=some []:=rfl
theorem zl {s:List UInt8} (h:0<ep s):ff s=match rB (s.take (ep s)) with
   | some t=>(ff (s.drop (ep s))).map (t::·)
   | none=>none:=by
 cases s with
 | nil=>simp [ep] at h
 | cons c r=>
   show mw (r.length+1) (c::r)=_
   rw [mw,if_pos h];unfold ff;rw [Oe r.length ((c::r).drop (ep (c::r))).length _ (by simp; omega) (Nat.le_refl _)]
theorem EP {c:UInt8} {r:List UInt8} (h:ep (c::r)=0) (hs:nj c=true):ff (c::r)=(ff r).map (⟨3,0,[c]⟩::·):=by
 show mw (r.length+1) (c::r)=_
 rw [mw,if_neg (by omega),if_pos hs]
 rfl
theorem ER {c:UInt8} {r:List UInt8} (h:ep (c::r)=0) (hs:nj c=false) (hb:c=32\/c=10):ff (c::r)=ff r:=by
 show mw (r.length+1) (c::r)=_
 rw [mw,if_neg (by omega),if_neg (by simp [hs]),if_pos hb]
 rfl
theorem Ja {c:UInt8} {r:List UInt8} (h:ep (c::r)=0) (hs:nj c=false) (hb:¬(c=32\/c=10)):ff (c::r)=none:=by
 show mw (r.length+1) (c::r)=_
 rw [mw,if_neg (by omega),if_neg (by simp [hs]),if_neg hb]
theorem agG:∀u:UInt8,nj u=true->jS u=false:=by
 have h:∀u ∈ vi,jS u=false:=by decide
 intro u hu;exact h u (by simpa [nj] using hu)
theorem Of:∀(k:Nat) (a b:List UInt8),a.length<=k->ff (a++32::b)=(ff a).bind λl=>(ff b).map (l++·)
 | _,[],b,_=>by
   have Og:jS 32=false:=by decide
   rw [List.nil_append,ER (by simp [ep,Og]) (by decide) (.inl rfl)];simp only [EO,Option.bind_some,List.nil_append]
   cases ff b<;>rfl
 | 0,_::_,_,h=>by simp at h
 | k+1,c::r,b,hk=>by
   have Og:jS 32=false:=by decide
   have dr:=Vr b 32 Og (c::r);have hle:=Vq (c::r)
   by_cases h0:0<ep (c::r)
   · rw [zl (s:=(c::r)++32::b) (by omega),zl h0,dr,List.take_append_of_le_length hle,List.drop_append_of_le_length hle]
     cases rB ((c::r).take (ep (c::r))) with
     | none=>rfl
     | some t=>
       simp only;rw [Of k ((c::r).drop (ep (c::r))) b (by simp at hk ⊢; omega)]
       cases ff ((c::r).drop (ep (c::r)))<;>simp
       cases ff b<;>simp
   · have xA:ep (c::r)=0:=by omega
     have Oh:ep (c::(r++32::b))=0:=by rw [<-List.cons_append,dr]; exact xA
     have ih:=Of k r b (by simpa using hk);rw [List.cons_append]
     cases hs:nj c with
     | true=>
       rw [EP Oh hs,EP xA hs,ih]
       cases ff r<;>simp
       cases ff b<;>simp
     | false=>
       by_cases hb:c=32\/c=10
       · rw [ER Oh hs hb,ER xA hs hb,ih]
       · rw [Ja Oh hs hb,Ja xA hs hb]; rfl
theorem Oi (d:Nat) (hd:d<10):∀(l:List UInt8) (acc n:Nat),Lib.decFrom acc l=some n->Lib.decFrom acc (l++[UInt8.ofNat (48+d)])=some (n*10+d)
 | [],acc,n,h=>by
   simp only [Lib.decFrom,Option.some.injEq] at h;subst h
   have e:(UInt8.ofNat (48+d)).toNat=48+d:=by simp [UInt8.toNat_ofNat']; omega
   have:Lib.digitVal (UInt8.ofNat (48+d))=some d:=by
     unfold Lib.digitVal;rw [e,if_pos (by omega)];simp
   simp only [List.nil_append,Lib.decFrom,this]
 | b::r,acc,n,h=>by
   simp only [Lib.decFrom,List.cons_append] at h ⊢
   cases hb:Lib.digitVal b with
   | none=>simp [hb] at h
   | some e=>
     simp only [hb] at h ⊢;exact Oi d hd r _ n h
theorem Oj (n:Nat):Lib.decDigits n≠[]:=by
 rw [Lib.decDigits]
 split<;>simp
theorem agH (n:Nat):Lib.decFrom 0 (Lib.decDigits n)=some n:=by
 induction n using Nat.strongRecOn with
 | _ n ih=>
   rw [Lib.decDigits]
   split
   · rename_i h
     have:=Oi n h [] 0 0 rfl
     simpa using this
   · rename_i h
     rw [Oi (n % 10) (by omega) _ _ _ (ih (n / 10) (by omega))]
     congr 1
     omega
theorem Vu (n:Nat):Lib.decNat (Lib.decDigits n)=some n:=by
 unfold Lib.decNat;rw [if_neg (by simpa using Oj n),agH]
theorem Vv (n:Nat):∀x ∈ Lib.decDigits n,48<=x.toNat/\x.toNat<=57:=by
 induction n using Nat.strongRecOn with
 | _ n ih=>
   rw [Lib.decDigits]
   have e:∀d,d<10->(UInt8.ofNat (48+d)).toNat=48+d:=λd hd=>by simp [UInt8.toNat_ofNat']; omega
   split
   · rename_i h
     intro x hx;simp only [List.mem_singleton] at hx;subst hx;rw [e n h]; omega
   · intro x hx
     rw [List.mem_append,List.mem_singleton] at hx
     rcases hx with hx | hx
     · exact ih (n / 10) (by omega) x hx
     · subst hx
       rw [e _ (by omega)]; omega
theorem Vw:∀(k n:Nat),n<10 ^ (k+1)->(Lib.decDigits n).length<=k+1
 | 0,n,h=>by
   rw [Lib.decDigits,dif_pos (by simpa using h)];simp
 | k+1,n,h=>by
   rw [Lib.decDigits]
   split
   · simp
   · rw [Nat.pow_succ] at h
     have:=Vw k (n / 10) (by omega);simp; omega
theorem agI (n:Nat):Lib.itoa (n:Int)=Lib.decDigits n:=by
 unfold Lib.itoa;rw [if_neg (by omega)];simp
theorem Ok {n:Int} (h:0<=n):Lib.itoa n=Lib.decDigits n.toNat:=by
 unfold Lib.itoa;rw [if_neg (by omega)]
theorem agJ {n:Nat} (h:n<=1099511627775):(Lib.decDigits n).length<=13:=Vw 12 n (by omega)
theorem Vx {s:List UInt8} {n:Nat} (h:zk s=some n):n<=1099511627775/\Lib.decDigits n=s:=by
 unfold zk at h
 split at h
 · split at h
   · injection h with h
     subst h; assumption
   · cases h
 · cases h
theorem Vy {n:Nat} (h:n<=1099511627775):zk (Lib.decDigits n)=some n:=by
 unfold zk;rw [Vu];simp [h]
def nk (s:List UInt8):Tok×Bool:=if dB s=true then (⟨1,0,s⟩,true) else match Lib.atoiAll s with
 | .ok v=>(⟨2,v,[]⟩,((decide (0<=v)&&decide (v<=1099511627775))&&(Lib.itoa v==s)))
 | .range=>(⟨2,Lib.atoiSat s,[]⟩,false)
 | _=>(⟨2,0,[]⟩,false)
theorem Vz {n:Nat} (h:n<=1099511627775):Lib.atoiAll (Lib.decDigits n) = .ok (n:Int):=by
 have hl:=agJ h;rw [Lib.atoiAll_short _ (by omega)];have de:=Oj n;have bT:=Vv n;have hd:=Vu n
 cases hs:Lib.decDigits n with
 | nil=>exact absurd hs de
 | cons b r=>
   rw [hs] at bT hd;have hb:=bT b (by simp)
   have Jb:(b==45)=false:=by
     rw [beq_eq_false_iff_ne];intro e; subst e; revert hb; decide
   have h43:(b==43)=false:=by
     rw [beq_eq_false_iff_ne];intro e; subst e; revert hb; decide
   simp [Lib.atoi,Jb,h43,hd,Lib.NumEnd.ofOption]
theorem VA (s:List UInt8):rB s=if (nk s).2=true then some (nk s).1 else none:=by
 unfold rB nk
 by_cases hn:dB s=true
 · simp [hn]
 · simp only [if_neg hn]
   cases h:zk s with
   | some n=>
     obtain ⟨h1,h2⟩:=Vx h;subst h2;rw [Vz h1]
     have:((n:Int)<=1099511627775):=by omega
     simp [agI,this]
   | none=>
     cases ha:Lib.atoiAll s with
     | ok v=>
       simp only
       by_cases hv:((decide (0<=v)&&decide (v<=1099511627775))&&(Lib.itoa v==s))=true
       · simp only [Bool.and_eq_true,decide_eq_true_eq,beq_iff_eq] at hv
         obtain ⟨⟨h1,h2⟩,h3⟩:=hv
         have:zk s=some v.toNat:=by
           rw [<-h3,Ok h1];exact Vy (by omega)
         rw [h] at this; cases this
       · rw [if_neg hv]; rfl
     | range=>rfl
     | _=>rfl
theorem agL {s:List UInt8} {t:Tok} (h:rB s=some t):s_ t=true/\jT t=true:=by
 unfold rB at h
 split at h
 · rename_i hn
   injection h with h
   subst h;exact ⟨O,by simp [jT,hn]⟩
 · obtain ⟨n,hn,rfl⟩:=Option.map_eq_some_iff.1 h
   have:=(Vx hn).1;exact ⟨O,by simp [jT]; omega⟩
theorem Jc:∀(k:Nat) (s:List UInt8) (l:List Tok),s.length<=k->ff s=some l->(∀t ∈ l,s_ t=true/\jT t=true)/\l.length<=s.length
 | _,[],l,_,h=>by
   rw [EO] at h
   injection h with h
   subst h; simp
 | 0,_::_,_,h,_=>by simp at h
 | k+1,c::r,l,hk,h=>by
   simp only [List.length_cons] at hk
   by_cases h0:0<ep (c::r)
   · rw [zl h0] at h
     cases hw:rB ((c::r).take (ep (c::r))) with
     | none=>simp [hw] at h
     | some t=>
       simp only [hw] at h;obtain ⟨l',zm,rfl⟩:=Option.map_eq_some_iff.1 h;obtain ⟨h1,h2⟩:=Jc k ((c::r).drop (ep (c::r))) l' (by simp; omega) zm;refine ⟨λx hx=>?_,?_⟩
       · rcases List.mem_cons.1 hx with rfl | hx
         · exact agL hw
         · exact h1 x hx
       · simp at h2 ⊢; omega
   · have xA:ep (c::r)=0:=by omega
     cases hs:nj c with
     | true=>
       rw [EP xA hs] at h;obtain ⟨l',zm,rfl⟩:=Option.map_eq_some_iff.1 h;obtain ⟨h1,h2⟩:=Jc k r l' (by omega) zm;refine ⟨λx hx=>?_,by simpa using h2⟩
       rcases List.mem_cons.1 hx with rfl | hx
       · exact ⟨O,by simp [jT,hs]⟩
       · exact h1 x hx
     | false=>
       by_cases hb:c=32\/c=10
       · rw [ER xA hs hb] at h
         obtain ⟨h1,h2⟩:=Jc k r l (by omega) h;exact ⟨h1,by simp; omega⟩
       · rw [Ja xA hs hb] at h; cases h
theorem any_none {α:Type} {p:α->Bool} {l:List α} (h:∀t ∈ l,p t=false):l.any p=false:=by
 rw [List.any_eq_false];intro x hx;simp [h x hx]
theorem agM {l:List Tok} (h:∀t ∈ l,s_ t=true/\jT t=true) (hl:l.length<=4096):EN l=0:=by
 unfold EN;rw [any_none (p:=I') λt ht=>by simp [I',(h t ht).1],any_none (p:=I_) λt ht=>by simp [I_,(h t ht).2]];simp; omega
theorem VB {l:List Tok} (h:EN l=0):(∀t ∈ l,s_ t=true/\jT t=true)/\l.length<=4096:=by
 unfold EN at h
 split at h
 · cases h
 · rename_i h1
   split at h
   · cases h
   · rename_i h2
     split at h
     · cases h
     · rename_i h3
       simp only [List.any_eq_true,not_exists,not_and] at h1 h2;refine ⟨λt ht=>⟨?_,?_⟩,by omega⟩
       · have:=h1 t ht; simpa [I'] using this
       · have:=h2 t ht; simpa [I_] using this
theorem VC {s:List UInt8} (h:(ec s).2=0):EN (ec s).1=0:=by
 unfold ec at h ⊢
 split
 · simp_all
 · rename_i h1
   cases ho:ff s with
   | none=>simp [h1,ho] at h
   | some l=>
     obtain ⟨h2,h3⟩:=Jc _ s l (Nat.le_refl _) ho;exact agM h2 (show l.length<=4096 by omega)
theorem agN {x:UInt8} (h:48<=x.toNat/\x.toNat<=57):jS x=true:=by
 unfold jS EM
 have h1:((48:Int)<=(x.toNat:Int)):=by omega
 have h2:((x.toNat:Int)<=57):=by omega
 simp [h1,h2]
theorem VD {t:Tok} (hk:s_ t=true) (ht:jT t=true):ff (n0 t)=some [t]:=by
 obtain ⟨k,n,s⟩:=t
 have BL:k=1\/k=2\/k=3:=by simp [s_] at hk; omega
 rcases BL with rfl | rfl | rfl
 · simp only [jT,if_pos,Bool.and_eq_true,beq_iff_eq] at ht
   obtain ⟨rfl,hn⟩:=ht;have sR:=hn;simp only [dB,Bool.and_eq_true,decide_eq_true_eq] at sR;obtain ⟨⟨⟨h1,h8⟩,_⟩,bT⟩:=sR;have hr:=Vt bT
   show ff s=_
   rw [zl (by omega),hr,List.take_length,List.drop_length];simp [rB,hn,EO]
 · simp only [jT,Bool.and_eq_true,beq_iff_eq,decide_eq_true_eq] at ht
   obtain ⟨rfl,h0,h1⟩:=(by simpa using ht:s=[]/\0<=n/\n<=1099511627775)
   show ff (Lib.itoa n)=_
   rw [Ok h0];have hd:=Vv n.toNat;have hr:ep (Lib.decDigits n.toNat)=(Lib.decDigits n.toNat).length:=Vt (List.all_eq_true.2 λx hx=>agN (hd x hx));have de:=Oj n.toNat;have hp:0<(Lib.decDigits n.toNat).length:=List.length_pos_iff.2 de;rw [zl (by omega),hr,List.take_length,List.drop_length]
   have hnn:dB (Lib.decDigits n.toNat)=false:=by
     cases hs:Lib.decDigits n.toNat with
     | nil=>exact absurd hs de
     | cons b r=>
       have hb:=hd b (by rw [hs]; simp)
       have:ni (b.toNat:Int)=false:=by simp [ni]; omega
       simp [dB,this]
   have agP:((n.toNat:Nat):Int)=n:=by omega
   simp [rB,hnn,Vy (show n.toNat<=1099511627775 by omega),EO,agP]
 · obtain ⟨rfl,hl,hs⟩:=(by simpa [jT] using ht:n=0/\s.length=1/\nj (s[0]?.getD 0)=true)
   match s,hl with
   | [c],_=>
     have hs:nj c=true:=by simpa using hs
     show ff [c]=_
     rw [EP (by simp [ep,agG c hs]) hs]
     rfl
theorem agQ (x y:List UInt8) (r:List (List UInt8)) (s:List UInt8):Lib.join (x::y::r) s=x++s++Lib.join (y::r) s:=by
 simp [Lib.join,List.intercalate,List.intersperse]
theorem VE:∀l:List Tok,(∀t ∈ l,s_ t=true/\jT t=true)->ff (vk l)=some l
 | [],_=>rfl
 | [t],h=>by
   have e:vk [t]=n0 t:=by simp [vk,Lib.join,List.intercalate]
   rw [e];exact VD (h t (by simp)).1 (h t (by simp)).2
 | t::u::r,h=>by
   have e:vk (t::u::r)=n0 t++32::vk (u::r):=by
     unfold vk;simp only [List.map_cons,agQ];simp
   rw [e,Of _ _ _ (Nat.le_refl _),VD (h t (by simp)).1 (h t (by simp)).2,VE (u::r) (λx hx=>h x (List.mem_cons_of_mem _ hx))]
   rfl
end Go.Bw
end
section
namespace Go.Bw
open Go
inductive az where
 | mk (op n:Int) (mod nm:List UInt8) (args:List az)
inductive aH where
 | mk (op:Int) (mod nm:List UInt8) (args:List az) (body other:List aH)
def az.op:az->Int | .mk o _ _ _ _=>o
def az.n:az->Int | .mk _ n _ _ _=>n
def az.mod:az->List UInt8 | .mk _ _ m _ _=>m
def az.nm:az->List UInt8 | .mk _ _ _ s _=>s
def az.args:az->List az | .mk _ _ _ _ a=>a
def aH.op:aH->Int | .mk o _ _ _ _ _=>o
def aH.mod:aH->List UInt8 | .mk _ m _ _ _ _=>m
def aH.nm:aH->List UInt8 | .mk _ _ s _ _ _=>s
def aH.args:aH->List az | .mk _ _ _ a _ _=>a
def aH.body:aH->List aH | .mk _ _ _ _ b _=>b
def aH.other:aH->List aH | .mk _ _ _ _ _ o=>o
structure bM where
 kind:Int
 nm:List UInt8
 aL:Bool
 n:Int
deriving DecidableEq
structure dh where
 nm:List UInt8
 aL:Bool
 params:List (List UInt8)
 ay:List (List UInt8)
 body:List aH
structure aD where
 nm:List UInt8
 ag:List (List UInt8)
 decls:List bM
 procs:List dh
 main:List aH
structure aG where
 f:Nat
 m:Nat
 k:Nat
deriving DecidableEq
instance:Add aG:=⟨λa b=>⟨a.f+b.f,a.m+b.m,a.k+b.k⟩⟩
def aG.aT (c:aG):Nat:=c.f+c.m+c.k
def c0:aG:=⟨0,0,0⟩
theorem aG.zo (a b:aG):(a+b).f=a.f+b.f:=rfl
theorem aG.zp (a b:aG):(a+b).m=a.m+b.m:=rfl
theorem aG.zq (a b:aG):(a+b).k=a.k+b.k:=rfl
theorem aG.ext' {a b:aG} (h1:a.f=b.f) (h2:a.m=b.m) (h3:a.k=b.k):a=b:=by
 cases a; cases b; simp_all
theorem aG.gT (a b c:aG):a+b+c=a+(b+c):=aG.ext' (Nat.add_assoc _ _ _) (Nat.add_assoc _ _ _) (Nat.add_assoc _ _ _)
theorem aG.cX (a b:aG):(a+b).aT=a.aT+b.aT:=by
 simp only [aG.aT,aG.zo,aG.zp,aG.zq]; omega
def Ol (b:Bool):Nat:=if b=true then 1 else 0
def cB (b:Bool):aG:=⟨Ol b,0,0⟩
def bu (b:Bool):aG:=⟨0,Ol b,0⟩
def cK (b:Bool):aG:=⟨0,0,Ol b⟩
def vl:List (List UInt8):=[[109,111,100,117,108,101],[117,115,101],[112,117,98],[99,111,110,115,116],[118,97,114],[97,114,114,97,121],[112,114,111,99],[108,111,99,97,108],[109,97,105,110],[105,102],[101,108,115,101],[119,104,105,108,101],[114,101,116,117,114,110],[111,117,116],[105,110]]
def dL (s:List UInt8):Bool:=dB s&&!(vl.contains s)
def dk (op:Int):Option (Bool×Int):=if op=1\/op=2 then some (false,0) else if op=3 then some (true,0) else if op=4 then some (true,1) else if op=5 then some (true,-1) else if op=6 then some (false,1) else if 7<=op/\op<=15 then some (false,2) else none
def bz (op:Int):Option (Bool×Int):=if op=1 then some (true,1) else if op=2 then some (true,2) else if op=3 then some (true,-1) else if 4<=op/\op<=7 then some (false,1) else none
def hY (r:Bool) (mod nm:List UInt8):Bool:=(r&&((!(mod==[])&&!dL mod)||!dL nm))||(!r&&!(mod++nm==[]))
def nn (a:Int) (len:Nat):Bool:=decide (0<=a)&&!((len:Int)==a)
def cO (s:Bool×Int) (mod nm:List UInt8) (len:Nat):aG:=cB (hY s.1 mod nm)+cB (nn s.2 len)+bu (decide (3<len))
def jU (op n:Int):Bool:=((op==1)&&(decide (n<0)||decide (1099511627775<n)))||(!(op==1)&&!(n==0))
mutual
def gE:az->Nat->aG
 | .mk op n mod nm args,d=>if 6<d then ⟨0,1,0⟩ else cK (dk op).isNone+cO ((dk op).getD (false,0)) mod nm args.length+cB (jU op n)+bY args (d+1)
def bY:List az->Nat->aG
 | [],_=>c0
 | x::r,d=>gE x d+bY r d
end
def inner (op:Int):Bool:=(op==4)||(op==5)
def h_ (op:Int) (b o:Nat):Bool:=(!inner op&&decide (0<b))||(!(op==4)&&decide (0<o))
def o0 (d len:Nat) (c:aG):aG:=if 6<d then ⟨0,1,0⟩ else bu (decide (10<len))+c
mutual
def ey:aH->Nat->aG
 | .mk op mod nm args body other,d=>cK (bz op).isNone+cO ((bz op).getD (false,0)) mod nm args.length+bY args 1+cB (h_ op body.length other.length)
     + (if (inner op||decide (0<body.length))=true then o0 (d+1) body.length (bS body (d+1)) else c0)+(if 0<other.length then o0 (d+1) other.length (bS other (d+1)) else c0)
def bS:List aH->Nat->aG
 | [],_=>c0
 | x::r,d=>ey x d+bS r d
end
def cQ (l:List aH) (d:Nat):aG:=o0 d l.length (bS l d)
def aI:List (List UInt8)->aG
 | []=>c0
 | s::r=>cB (!dL s)+aI r
def gU (d:bM):aG:=aI [d.nm]+(if d.kind=1 then cB (decide (d.n<0)||decide (1099511627775<d.n)) else if d.kind=2 then cB (!(d.n==0)) else if d.kind=3 then cB (decide (d.n<1)||decide (32<d.n)) else cK true)
def c_:List bM->aG
 | []=>c0
 | d::r=>gU d+c_ r
def o1 (p:dh):aG:=aI [p.nm]+aI p.params+aI p.ay+bu (decide (3<p.params.length)||decide (4<p.ay.length))+cQ p.body 1
def dF:List dh->aG
 | []=>c0
 | p::r=>o1 p+dF r
def rC (m:aD):aG:=aI [m.nm]+aI m.ag+bu ((decide (3<m.ag.length)||decide (10<m.decls.length))||decide (6<m.procs.length))+c_ m.decls+dF m.procs+cQ m.main 1
def vm (c:aG):Int:=if 0<c.k then 4 else if 0<c.m then 2 else if 0<c.f then 1 else 0
def fG (m:aD):Int:=vm (rC m)
def dG (n low high:Int):Bool:=decide (low<=n)&&decide (n<=high)
def xB (op:Int):Int:=if op=1\/op=2\/op=3 then 0 else if op=4\/op=6 then 1 else if op=5 then -1 else 2
def Om (op:Int):Int:=if op=2 then 2 else if op=3 then -1 else 1
theorem VF (op:Int):(dk op).isNone = !dG op 1 15:=by
 unfold dk dG;rw [Bool.eq_iff_iff]
 split
 · simp; omega
 · split
   · simp; omega
   · split
     · simp; omega
     · split
       · simp; omega
       · split
         · simp; omega
         · split
           · simp; omega
           · simp; omega
theorem VG (op:Int):(bz op).isNone = !dG op 1 7:=by
 unfold bz dG;rw [Bool.eq_iff_iff]
 split
 · simp; omega
 · split
   · simp; omega
   · split
     · simp; omega
     · split
       · simp; omega
       · simp; omega
theorem agR (a b:List UInt8):(a++b==[])=((a==[])&&(b==[])):=by
 cases a<;>cases b<;>rfl
theorem agS {op:Int} (h:(dk op).isNone=false):((dk op).getD (false,0)).1=dG op 3 5/\((dk op).getD (false,0)).2=xB op:=by
 rw [VF] at h
 have h2:op=1\/op=2\/op=3\/op=4\/op=5\/op=6\/(7<=op/\op<=15):=by
   simp [dG] at h; omega
 rcases h2 with rfl | rfl | rfl | rfl | rfl | rfl | h7
 any_goals exact ⟨rfl,rfl⟩
 unfold dk xB dG;rw [if_neg (by omega),if_neg (by omega),if_neg (by omega),if_neg (by omega),if_neg (by omega),if_pos h7,if_neg (by omega),if_neg (by omega),if_neg (by omega)];refine ⟨?_,O⟩;simp; omega
theorem agT {op:Int} (h:(bz op).isNone=false):((bz op).getD (false,0)).1=dG op 1 3/\((bz op).getD (false,0)).2=Om op:=by
 rw [VG] at h
 have h2:op=1\/op=2\/op=3\/op=4\/op=5\/op=6\/op=7:=by
   simp [dG] at h; omega
 rcases h2 with rfl | rfl | rfl | rfl | rfl | rfl | rfl<;>exact ⟨rfl,rfl⟩
end Go.Bw
end
section
namespace Go.Bw
open Go
def cM (s:List UInt8):List Value:=[st s]
def rdStr (H:View) (b o:Nat) (s:List UInt8):Prop:=aR H b o (cM s)
theorem iy (s:List UInt8):(cM s).length=1:=rfl
theorem BN {H H':View} (h:aK H H') (b o:Nat) (x:List UInt8) (r:rdStr H b o x):rdStr H' b o x:=aR.mono h r
def bM.cells (d:bM):List Value:=[.int .i64 d.kind,st d.nm,.bool d.aL,.int .i64 d.n]
theorem bM.bq (d:bM):d.cells.length=4:=rfl
def zr (H:View) (b o:Nat) (d:bM):Prop:=aR H b o d.cells
theorem agU {H H':View} (h:aK H H') (b o:Nat) (x:bM) (r:zr H b o x):zr H' b o x:=aR.mono h r
def zt (e:az) (a:Option Addr) (c:Nat):List Value:=[.int .i64 e.op,.int .i64 e.n,st e.mod,st e.nm,.slice a e.args.length c]
def eU:Nat->View->Nat->Nat->az->Prop
 | 0=>λ_ _ _ _=>False
 | k+1=>λH b o e=>∃a c,aR H b o (zt e a c)/\Sl (eU k) 5 H a c e.args
def zu (s:aH) (a:Option Addr) (c:Nat) (a2:Option Addr) (c2:Nat) (a3:Option Addr) (c3:Nat):List Value:=[.int .i64 s.op,st s.mod,st s.nm,.slice a s.args.length c,.slice a2 s.body.length c2,.slice a3 s.other.length c3]
def gn (ke:Nat):Nat->View->Nat->Nat->aH->Prop
 | 0=>λ_ _ _ _=>False
 | k+1=>λH b o s=>∃a c a2 c2 a3 c3,aR H b o (zu s a c a2 c2 a3 c3)/\Sl (eU ke) 5 H a c s.args/\Sl (gn ke k) 6 H a2 c2 s.body/\Sl (gn ke k) 6 H a3 c3 s.other
def On (p:dh) (a1:Option Addr) (c1:Nat) (a2:Option Addr) (c2:Nat) (a3:Option Addr) (c3:Nat):List Value:=[st p.nm,.bool p.aL,.slice a1 p.params.length c1,.slice a2 p.ay.length c2,.slice a3 p.body.length c3]
def Jd (ke ks:Nat) (H:View) (b o:Nat) (p:dh):Prop:=∃a1 c1 a2 c2 a3 c3,aR H b o (On p a1 c1 a2 c2 a3 c3)/\Sl rdStr 1 H a1 c1 p.params/\Sl rdStr 1 H a2 c2 p.ay/\Sl (gn ke ks) 6 H a3 c3 p.body
structure jV where
 a1:Option Addr
 c1:Nat
 a2:Option Addr
 c2:Nat
 a3:Option Addr
 c3:Nat
 a4:Option Addr
 c4:Nat
def fq (m:aD) (r:jV):List Value:=[st m.nm,.slice r.a1 m.ag.length r.c1,.slice r.a2 m.decls.length r.c2,.slice r.a3 m.procs.length r.c3,.slice r.a4 m.main.length r.c4]
structure ko (ke ks:Nat) (H:View) (r:jV) (m:aD):Prop where
 ag:Sl rdStr 1 H r.a1 r.c1 m.ag
 decls:Sl zr 4 H r.a2 r.c2 m.decls
 procs:Sl (Jd ke ks) 5 H r.a3 r.c3 m.procs
 main:Sl (gn ke ks) 6 H r.a4 r.c4 m.main
theorem Sl.imp {α:Type} {rd VH:View->Nat->Nat->α->Prop} {k:Nat} {H H':View} {a:Option Addr} {c:Nat} {l:List α} (hm:∀b o x,rd H b o x->VH H' b o x) (h:Sl rd k H a c l):Sl VH k H' a c l:=
 ⟨h.cap,h.max,h.spot,λi x hx=>by obtain ⟨b,o,h1,h2⟩:=h.aS i x hx; exact ⟨b,o,h1,hm _ _ _ h2⟩⟩
theorem BO {H H':View} (hH:aK H H'):∀{k k':Nat},k<=k'->∀(b o:Nat) (e:az),eU k H b o e->eU k' H' b o e
 | 0,_,_,_,_,_,h=>h.elim
 | k+1,0,hk,_,_,_,_=>absurd hk (by omega)
 | k+1,k'+1,hk,b,o,e,h=>by
   obtain ⟨a,c,h1,h2⟩:=h;exact ⟨a,c,aR.mono hH h1,h2.imp λb o x hx=>BO hH (by omega) b o x hx⟩
theorem zv {H H':View} (hH:aK H H') {ke np:Nat} (rG:ke<=np):∀{k k':Nat},k<=k'->∀(b o:Nat) (e:aH),gn ke k H b o e->gn np k' H' b o e
 | 0,_,_,_,_,_,h=>h.elim
 | k+1,0,hk,_,_,_,_=>absurd hk (by omega)
 | k+1,k'+1,hk,b,o,e,h=>by
   obtain ⟨a,c,a2,c2,a3,c3,h1,h2,h3,h4⟩:=h;exact ⟨a,c,a2,c2,a3,c3,aR.mono hH h1,h2.imp λb o x hx=>BO hH rG b o x hx,h3.imp λb o x hx=>zv hH rG (by omega) b o x hx,h4.imp λb o x hx=>zv hH rG (by omega) b o x hx⟩
theorem VI {H H':View} (hH:aK H H') {ke np ks xC:Nat} (rG:ke<=np) (Oo:ks<=xC) (b o:Nat) (p:dh) (h:Jd ke ks H b o p):Jd np xC H' b o p:=by
 obtain ⟨a1,c1,a2,c2,a3,c3,h1,h2,h3,h4⟩:=h;exact ⟨a1,c1,a2,c2,a3,c3,aR.mono hH h1,h2.imp λb o x hx=>BN hH b o x hx,h3.imp λb o x hx=>BN hH b o x hx,h4.imp λb o x hx=>zv hH rG Oo b o x hx⟩
mutual
def wE:az->Nat
 | .mk _ _ mod nm args=>1+mod.length+nm.length+dH args
def dH:List az->Nat
 | []=>0
 | x::r=>wE x+dH r
end
mutual
def wS:aH->Nat
 | .mk _ mod nm args body other=>1+mod.length+nm.length+dH args+cP body+cP other
def cP:List aH->Nat
 | []=>0
 | x::r=>wS x+cP r
end
def wN:List (List UInt8)->Nat
 | []=>0
 | s::r=>1+s.length+wN r
def wD:List bM->Nat
 | []=>0
 | d::r=>1+d.nm.length+wD r
def wP:List dh->Nat
 | []=>0
 | p::r=>1+p.nm.length+wN p.params+wN p.ay+cP p.body+wP r
def wM (m:aD):Nat:=1+m.nm.length+wN m.ag+wD m.decls+wP m.procs+cP m.main
theorem agV:∀x:az,1<=wE x | .mk _ _ _ _ _=>by unfold wE; omega
theorem agW:∀x:aH,1<=wS x | .mk _ _ _ _ _ _=>by unfold wS; omega
theorem VJ (x:az):wE x=1+x.mod.length+x.nm.length+dH x.args:=by cases x; rfl
theorem VK (x:aH):wS x=1+x.mod.length+x.nm.length+dH x.args+cP x.body+cP x.other:=by cases x; rfl
theorem VL {i:Nat} {x:az}:∀{l:List az},l[i]? = some x->wE x<=dH l
 | [],h=>by simp at h
 | y::r,h=>by
   unfold dH
   cases i with
   | zero=>simp at h; subst h; omega
   | succ i=>have:=VL (i:=i) (l:=r) (by simpa using h); omega
theorem VM {i:Nat} {x:aH}:∀{l:List aH},l[i]? = some x->wS x<=cP l
 | [],h=>by simp at h
 | y::r,h=>by
   unfold cP
   cases i with
   | zero=>simp at h; subst h; omega
   | succ i=>have:=VM (i:=i) (l:=r) (by simpa using h); omega
theorem VN:∀l:List az,l.length<=dH l
 | []=>Nat.le_refl _
 | x::r=>by have:=VN r; have:=agV x; unfold dH; simp; omega
theorem VO:∀l:List aH,l.length<=cP l
 | []=>Nat.le_refl _
 | x::r=>by have:=VO r; have:=agW x; unfold cP; simp; omega
theorem ES:∀l:List (List UInt8),l.length<=wN l
 | []=>Nat.le_refl _
 | x::r=>by have:=ES r; unfold wN; simp; omega
theorem my (b:Bool):(cB b).aT<=1:=by cases b<;>decide
theorem BP (b:Bool):(bu b).aT<=1:=by cases b<;>decide
theorem ET (b:Bool):(cK b).aT<=1:=by cases b<;>decide
theorem Je (s:Bool×Int) (mod nm:List UInt8) (len:Nat):(cO s mod nm len).aT<=3:=by
 unfold cO;rw [aG.cX,aG.cX];have:=my (hY s.1 mod nm); have:=my (nn s.2 len); have:=BP (decide (3<len));omega
theorem VP:c0.aT=0:=rfl
mutual
theorem agX:∀(x:az) (d:Nat),(gE x d).aT<=8*wE x
 | .mk op n mod nm args,d=>by
   unfold gE wE
   split
   · show 0+1+0<=_
     omega
   · rw [aG.cX,aG.cX,aG.cX]
     have:=BQ args (d+1); have:=ET (dk op).isNone; have:=Je ((dk op).getD (false,0)) mod nm args.length; have:=my (jU op n);omega
theorem BQ:∀(l:List az) (d:Nat),(bY l d).aT<=8*dH l
 | [],_=>Nat.le_refl _
 | x::r,d=>by
   have:=agX x d; have:=BQ r d;unfold bY dH;rw [aG.cX];omega
end
theorem Oq (d len:Nat) (c:aG):(o0 d len c).aT<=1+c.aT:=by
 unfold o0
 split
 · show 0+1+0<=_
   omega
 · rw [aG.cX]
   have:=BP (decide (10<len));omega
theorem VQ (b:Prop) [Decidable b] (c:aG):(if b then c else c0).aT<=c.aT:=by
 split
 · exact Nat.le_refl _
 · exact Nat.zero_le _
mutual
theorem agY:∀(x:aH) (d:Nat),(ey x d).aT<=8*wS x
 | .mk op mod nm args body other,d=>by
   unfold ey wS;rw [aG.cX,aG.cX,aG.cX,aG.cX,aG.cX];have h1:=BQ args 1; have h2:=ET (bz op).isNone; have h3:=Je ((bz op).getD (false,0)) mod nm args.length; have h4:=my (h_ op body.length other.length);have h5:=VQ ((inner op||decide (0<body.length))=true) (o0 (d+1) body.length (bS body (d+1)));have h6:=VQ (0<other.length) (o0 (d+1) other.length (bS other (d+1)));have h7:=Oq (d+1) body.length (bS body (d+1)); have h8:=Oq (d+1) other.length (bS other (d+1));have h9:=EU body (d+1); have gF:=EU other (d+1);omega
theorem EU:∀(l:List aH) (d:Nat),(bS l d).aT<=8*cP l
 | [],_=>Nat.le_refl _
 | x::r,d=>by
   have:=agY x d; have:=EU r d;unfold bS cP;rw [aG.cX];omega
end
theorem BR:∀l:List (List UInt8),(aI l).aT<=wN l
 | []=>Nat.le_refl _
 | s::r=>by
   have:=BR r; have:=my (!dL s);unfold aI wN;rw [aG.cX];omega
theorem agZ (d:bM):(gU d).aT<=2:=by
 unfold gU aI aI;rw [aG.cX,aG.cX,VP];have:=my (!dL d.nm)
 split
 · have:=my (decide (d.n<0)||decide (1099511627775<d.n)); omega
 · split
   · have:=my (!(d.n==0)); omega
   · split
     · have:=my (decide (d.n<1)||decide (32<d.n)); omega
     · have:=ET true; omega
theorem Ot:∀l:List bM,(c_ l).aT<=8*wD l
 | []=>Nat.le_refl _
 | d::r=>by
   have:=Ot r; have:=agZ d;unfold c_ wD;rw [aG.cX];omega
theorem Ou (l:List aH) (d:Nat):(cQ l d).aT<=1+8*cP l:=by
 unfold cQ;have:=Oq d l.length (bS l d); have:=EU l d;omega
theorem Ov (s:List UInt8):(aI [s]).aT<=1:=by
 unfold aI aI;rw [aG.cX,VP];have:=my (!dL s);omega
theorem ag0 (p:dh):(o1 p).aT<=3+wN p.params+wN p.ay+8*cP p.body:=by
 unfold o1;rw [aG.cX,aG.cX,aG.cX,aG.cX];have:=Ov p.nm; have:=BR p.params; have:=BR p.ay; have:=BP (decide (3<p.params.length)||decide (4<p.ay.length)); have:=Ou p.body 1;omega
theorem Jf:∀l:List dh,(dF l).aT<=8*wP l
 | []=>Nat.le_refl _
 | p::r=>by
   have:=Jf r; have:=ag0 p;unfold dF wP;rw [aG.cX];omega
theorem Ow {α:Type} {rd:View->Nat->Nat->α->Prop} {f:α->List Value} {k:Nat} {H:View} {b m:Nat} {T:TypeId} {fz:Nat×Nat} {xs:List α} (hH:H b=some (.cells (xs.flatMap f).toArray T fz)) (hf:∀x,(f x).length=k) (d_:∀H b o x,aR H b o (f x)->rd H b o x) (hn:xs.length<=m) (hm:m<=9223372036854775807):Sl rd k H (some ⟨b,0,none⟩) m xs:=by
 refine ⟨hn,hm,by simp,λi x hx=>⟨b,0,O,d_ _ _ _ _ λj v hv=>?_⟩⟩
 have hj:j<k:=by rw [<-hf x]; exact (List.getElem?_eq_some_iff.1 hv).1
 have h1:vc H b (0+i*k+j)=fT (.cells (xs.flatMap f).toArray T fz) (0+i*k+j):=by unfold vc; rw [hH]; rfl
 rw [h1];simp only [fT,Nat.zero_add];rw [ve hf hx hj];exact hv
section
variable {P:Program} {ops:Array Oper} {Q:Exit->Act->World->Prop} {n:Nat} {ds:List Deferred} {l:List (Nat×Value)} {w0:World} {F:List Nat} {L:List ao} {Vs:List View} {rest:List Oper}
theorem gq {T:TypeId} {m b:Nat} {cur:Array Value} {fz:Nat×Nat} (i:Nat) (xs:List (List UInt8)) (hL:L[i]? = some (ah b (.cells cur T fz))) (hc:cur=(xs.flatMap cM).toArray) (hn:xs.length<=m) (hm:m<=9223372036854775807)
   (h:∀H,Sl rdStr 1 H (some ⟨b,0,none⟩) m xs->WL P ops Q n ds l (Ws w0 F (df i L) (H::Vs)) rest):WL P ops Q n ds l (Ws w0 F L Vs) rest:=by
 subst hc
 have hb:bv b (.cells (xs.flatMap cM).toArray T fz) b=some (.cells (xs.flatMap cM).toArray T fz):=by simp [bv]
 exact WL.mu i hL (h _ (Ow (f:=cM) hb iy (λ_ _ _ _ h=>h) hn hm))
end
end Go.Bw
end
